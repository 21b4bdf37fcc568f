/-
  What the laws stand on, part U: contracts and plain laws of PUBase, PUOne, PUSame, PUTab, PUTw, PUStd, PULaw, PURc, PUIs, PSmall; the conditions are each law's own.
-/
import Derived.Test.YtndndfobkbeolaaUS
import Derived.IntWalk
import Derived.Test.YtndndfobkbeolaaUL
import Derived.Test.YtndndfobkbeolaaUK
import Derived.Test.YtndndfobkbeolaaUV
import Derived.Test.YtndndfobkbeolaaUO
import Derived.Deep.Slices
import Derived.Deep.Fields
import Derived.ChangeSame
import Derived.OpenShut
import Derived.Lib.SmallJoins
import Derived.ChangeMaps5
set_option linter.unusedVariables false
set_option linter.unusedSimpArgs false
namespace Go.Proofs.Ytndndfobkbeolaa
open Go.RowKit Go.Extern.Stop Go.Stop Go.Extern
abbrev SRow := Int × Int × Int × Int × Int
def srowCells (r : SRow) : List Value := [.int .i8 r.1, .int .i8 r.2.1, .int .i8 r.2.2.1, .int .i8 r.2.2.2.1, .int .i8 r.2.2.2.2]
theorem srowCells_len (r : SRow) : (srowCells r).length = 5 := rfl
def srowAt (r : SRow) (j : Nat) : Int := if j = 0 then r.1 else if j = 1 then r.2.1 else r.2.2.1
def I8 (x : Int) : Prop := -128 ≤ x ∧ x ≤ 127
def m10 (x : Int) : Int := x.tmod 10
theorem m10_le (x : Int) : -9 ≤ m10 x ∧ m10 x ≤ 9 := by
  unfold m10
  rcases Int.le_total 0 x with h | h
  · have h1 := Int.tmod_nonneg 10 h
    have h2 := Int.tmod_lt_of_pos x (show (0 : Int) < 10 by omega)
    omega
  · have h1 : 0 ≤ (-x).tmod 10 := Int.tmod_nonneg 10 (by omega)
    have h2 := Int.tmod_lt_of_pos (-x) (show (0 : Int) < 10 by omega)
    rw [Int.neg_tmod] at h1 h2
    omega
def costAt (c0 c1 c2 : Int) (j : Nat) : Int := if j = 0 then c0 else if j = 1 then c1 else c2
def oneCost (c0 c1 c2 : Int) (n : Nat) : List Int := (List.range n).map fun j => m10 (costAt c0 c1 c2 j)
def oneCoef (r : SRow) (n : Nat) : List Int := (List.range n).map fun j => m10 (srowAt r j)
def oneKind (r : SRow) : Int := 1 + r.2.2.2.1 % 256 % 3
def oneRow (n : Nat) (r : SRow) : List Int × Int × Int := (oneCoef r n, oneKind r, m10 r.2.2.2.2)
theorem oneCost_succ (c0 c1 c2 : Int) (n : Nat) : oneCost c0 c1 c2 (n + 1) = oneCost c0 c1 c2 n ++ [m10 (costAt c0 c1 c2 n)] := by unfold oneCost; rw [List.range_succ, List.map_append]; rfl
theorem oneCoef_succ (r : SRow) (n : Nat) : oneCoef r (n + 1) = oneCoef r n ++ [m10 (srowAt r n)] := by unfold oneCoef; rw [List.range_succ, List.map_append]; rfl
theorem oneCost_len (c0 c1 c2 : Int) (n : Nat) : (oneCost c0 c1 c2 n).length = n := by unfold oneCost; simp
theorem oneCoef_len (r : SRow) (n : Nat) : (oneCoef r n).length = n := by unfold oneCoef; simp
structure SmW (w : World) (cols c0 c1 c2 : Int) (ra : Option Addr) (rn rc : Nat) (rows : List SRow) : Prop where
  cols : 0 ≤ cols ∧ cols ≤ 255
  c0 : I8 c0
  c1 : I8 c1
  c2 : I8 c2
  len : rows.length = rn
  sl : Sl w 5 (.slice ra rn rc) rn (rows.flatMap srowCells)
  ok : ∀ r, r ∈ rows → I8 r.1 ∧ I8 r.2.1 ∧ I8 r.2.2.1 ∧ I8 r.2.2.2.1 ∧ I8 r.2.2.2.2
theorem SmW.below {w w' : World} {cols c0 c1 c2 : Int} {ra : Option Addr} {rn rc : Nat} {rows : List SRow} (h : SmW w cols c0 c1 c2 ra rn rc rows) (hb : Below w.heap.size w w') : SmW w' cols c0 c1 c2 ra rn rc rows := ⟨h.cols, h.c0, h.c1, h.c2, h.len, h.sl.below hb, h.ok⟩
theorem SmW.get {w : World} {cols c0 c1 c2 : Int} {ra : Option Addr} {rn rc : Nat} {rows : List SRow} (h : SmW w cols c0 c1 c2 ra rn rc rows) (k : Nat) (hk : k < rn) :
    ∃ b o r, ra = some ⟨b, o, none⟩ ∧ rows[k]? = some r ∧ (∀ j, j < 3 → w.cell? ⟨b, o + k * 5 + j, none⟩ = some (.int .i8 (srowAt r j))) ∧ w.cell? ⟨b, o + k * 5 + 3, none⟩ = some (.int .i8 r.2.2.2.1) ∧ w.cell? ⟨b, o + k * 5 + 4, none⟩ = some (.int .i8 r.2.2.2.2) := by
  obtain ⟨_, _, _, _, hl, hs, _⟩ := h
  subst hl
  obtain ⟨b, o, c', e, h1, h2, h3, h4⟩ := hs.plain (by omega)
  cases e
  have hc := fun j u hj => h4 _ u (flat_at srowCells 5 srowCells_len rows k hk j u hj)
  have c0 := hc 0 _ rfl
  have c1 := hc 1 _ rfl
  have c2 := hc 2 _ rfl
  have c3 := hc 3 _ rfl
  have c4 := hc 4 _ rfl
  simp only [← Nat.add_assoc] at c0 c1 c2 c3 c4
  refine ⟨b, o, rows[k], rfl, List.getElem?_eq_getElem hk, fun j hj => ?_, c3, c4⟩
  have : j = 0 ∨ j = 1 ∨ j = 2 := by omega
  rcases this with rfl | rfl | rfl
  · exact c0
  · exact c1
  · exact c2
structure RRow where
  a : Option Addr
  n : Nat
  c : Nat
  coef : List Int
  kind : Int
  rhs : Int
def rrowCells (r : RRow) : List Value := [.slice r.a r.n r.c, .int .i64 r.kind, .int .i64 r.rhs]
theorem rrowCells_len (r : RRow) : (rrowCells r).length = 3 := rfl
def rrowQ (r : RRow) : List Int × Int × Int := (r.coef, r.kind, r.rhs)
structure QB (w0 : World) (ca : Option Addr) (cn cc : Nat) (ra : Option Addr) (rn rc : Nat) (cost : List Int) (rows : List RRow) (W : World) : Prop where
  cost : IB w0 cost ca cn cc W
  mid : Mid W w0.heap.size 85 3 (.slice ra rn rc) rn (rows.flatMap rrowCells)
  len : rows.length = rn
  ok : ∀ r, r ∈ rows → IB w0 r.coef r.a r.n r.c W
  bel : Below w0.heap.size w0 W
section
variable {w0 W W' : World} {ca : Option Addr} {cn cc : Nat} {ra : Option Addr} {rn rc : Nat} {cost : List Int} {rows : List RRow}
theorem QB.call (h : QB w0 ca cn cc ra rn rc cost rows W) (hb : Below W.heap.size W W') : QB w0 ca cn cc ra rn rc cost rows W' := ⟨h.cost.call hb, mid_under h.mid hb, h.len, fun r hr => (h.ok r hr).call hb, bthen h.bel hb⟩
theorem QB.foreign {U : TypeId} {S : Nat → Prop} (h : QB w0 ca cn cc ra rn rc cost rows W) (hf : Foreign W w0.heap.size U S) (hk : Keeps W W' S) (h1 : 3 ≠ U) (h2 : 85 ≠ U) : QB w0 ca cn cc ra rn rc cost rows W' :=
  ⟨h.cost.foreign hf hk h1, hf.mids hk h2 h.mid, h.len, fun r hr => (h.ok r hr).foreign hf hk h1, h.bel.trans (hk.below h.bel.size hf.ge)⟩
theorem QB.push (h : QB w0 ca cn cc ra rn rc cost rows W) {ob : Obj} {r : RRow} {a' : Option Addr} {c' : Nat} (hr : IB w0 r.coef r.a r.n r.c W) (hm : Mid W' w0.heap.size 85 3 (.slice a' (rn + 1) c') (rn + 1) (rows.flatMap rrowCells ++ rrowCells r)) (hg : (W.alloc ob).grownBy W' (Value.slice ra rn rc).ownBlock) : QB w0 ca cn cc a' (rn + 1) c' cost (rows ++ [r]) W' := by
  have hk := grown_keeps hg
  have hf := Foreign.mid h.mid
  refine ⟨h.cost.foreign hf hk (by decide), by rw [List.flatMap_append]; simpa using hm, by rw [List.length_append, h.len]; rfl, fun u hu => ?_, h.bel.trans (hk.below h.bel.size fun z hz => (h.mid.lt z hz).1)⟩
  rcases List.mem_append.1 hu with hu | hu
  · exact (h.ok u hu).foreign hf hk (by decide)
  · rw [List.mem_singleton.1 hu]; exact hr.foreign hf hk (by decide)
end
theorem Try.infoRRow : (Try.prog.info? 85).map (fun i => (i.zero, i.size, i.bytes)) = some (some (.agg #[.slice none 0 0, .int .i64 0, .int .i64 0]), 3, 40) := by kernel_rfl
def OneR (n : Nat) (cost : List Int) (rows : List (List Int × Int × Int)) (w : World) (e : Ending) (w' : World) : Prop := ∃ ca cc ra rc rs, e = .returned (.agg #[.slice ca n cc, .slice ra rows.length rc]) ∧ QB w ca n cc ra rows.length rc cost rs w' ∧ rs.map rrowQ = rows
end Go.Proofs.Ytndndfobkbeolaa
namespace Go.Proofs.Ytndndfobkbeolaa
open Go.RowKit Go.Extern.Stop Go.Stop Go.Extern
theorem IB.rebase {w w1 W : World} {L : List Int} {a : Option Addr} {n c : Nat} (h : IB w1 L a n c W) (hb : Below w.heap.size w w1) : IB w L a n c W := ⟨h.mid.mono hb.size, h.len, bthen hb h.bel⟩
theorem IB.nil {w W : World} (hb : Below w.heap.size w W) : IB w [] none 0 0 W := ⟨by simpa using Mid.nil W w.heap.size 3 1, rfl, hb⟩
theorem heap3q (w : World) (o1 o2 o3 : Obj) : (((w.alloc o1).alloc o2).alloc o3).heap[w.heap.size]? = some o1 ∧ (((w.alloc o1).alloc o2).alloc o3).heap[w.heap.size + 1]? = some o2 ∧ (((w.alloc o1).alloc o2).alloc o3).heap[w.heap.size + 1 + 1]? = some o3 := heap3 w o1 o2 o3
theorem u8_of_i8 (x : Int) : IntKind.u8.wrap x = x % 256 := by rw [IntKind.wrap_u8]
set_option maxRecDepth 100000 in
set_option maxHeartbeats 16000000 in
theorem one_any (cols c0 c1 c2 : Int) (ra : Option Addr) (rn rc : Nat) (rows : List SRow) (n m : Nat) (w : World) (h : SmW w cols c0 c1 c2 ra rn rc rows) (hn : (n : Int) = cols % 4) (hm : m = min rn 3) :
    Calls Try.prog 27 #[.agg #[.int .u8 cols, .int .i8 c0, .int .i8 c1, .int .i8 c2, .slice ra rn rc]] w (OneR n (oneCost c0 c1 c2 n) ((rows.take m).map (oneRow n)) w) := by
  obtain ⟨ti, hi1, hi2, hi3, hi4⟩ := info_parts Try.infoInt
  obtain ⟨tp, hp1, hp2, hp3, hp4⟩ := info_parts Try.infoRRow
  have hrl := h.sl.lenI
  have hn3 : n ≤ 3 := by omega
  have hcol := h.cols
  have hml : (rows.take m).length = m := by rw [List.length_take, h.len]; omega
  have hmr : m ≤ rn := by omega
  obtain ⟨W0, hW0⟩ : ∃ W0, ((w.alloc (.cells #[.int .u8 cols, .int .i8 c0, .int .i8 c1, .int .i8 c2, .slice ra rn rc] 71)).alloc (.cells #[.slice none 0 0, .slice none 0 0] 79)).alloc (.cells #[.slice none 0 0, .slice none 0 0] 79) = W0 := ⟨_, rfl⟩
  obtain ⟨qb, hqb⟩ : ∃ qb, w.heap.size = qb := ⟨_, rfl⟩
  obtain ⟨zb, hzb⟩ : ∃ zb, w.heap.size + 1 = zb := ⟨_, rfl⟩
  obtain ⟨pb, hpb⟩ : ∃ pb, w.heap.size + 1 + 1 = pb := ⟨_, rfl⟩
  obtain ⟨h1, h2, h3⟩ := heap3q w (.cells #[.int .u8 cols, .int .i8 c0, .int .i8 c1, .int .i8 c2, .slice ra rn rc] 71) (.cells #[.slice none 0 0, .slice none 0 0] 79) (.cells #[.slice none 0 0, .slice none 0 0] 79)
  have hb0 : Below w.heap.size w W0 := by rw [← hW0]; exact below3 w _ _ _
  rw [hW0] at h1 h2 h3
  rw [hqb] at h1
  rw [hzb] at h2
  rw [hpb] at h3
  have HQB := Lib.hid h1
  have HZB := Lib.hid h2
  have HPB := Lib.hid h3
  have HB0 := Lib.hid hb0
  have HPG := Lib.hid (show w.heap.size ≤ pb by omega)
  have HZG := Lib.hid (show w.heap.size ≤ zb by omega)
  have HNZ := Lib.hid (show ¬ zb = pb by omega)
  have HSM := Lib.hid (fun (W : World) (hb : Below w.heap.size w W) => h.below hb)
  have HCI := Lib.hid (show I8 c0 ∧ I8 c1 ∧ I8 c2 from ⟨h.c0, h.c1, h.c2⟩)
  have HOK := Lib.hid h.ok
  have HM := Lib.hid hm
  have HML := Lib.hid hml
  have HW0 := Lib.hid hW0
  have HQE := Lib.hid hqb
  have HZE := Lib.hid hzb
  have HPE := Lib.hid hpb
  have e1 : cols.tmod 4 = (n : Int) := by rw [hn]; exact Int.tmod_eq_emod_of_nonneg hcol.1
  have e2 : cols % 4 = (n : Int) := hn.symm
  have hc0' := hcol.1
  have hc1' := hcol.2
  clear h hn hm hml hcol h1 h2 h3 hb0 hW0 hqb hzb hpb
  go_enter Try.func27, Try.ntmps27
  go_upto_region 3 with fail
  clear e1 e2
  (try simp only [HW0.out])
  (try simp only [HPE.out])
  (try simp only [HZE.out])
  (try simp only [HQE.out])
  clear HW0 HQE HZE HPE
  go_wp2_with fail
  go_loopw [5] (fun v5 wr => ∃ (j : Nat) (a : Option Addr) (c : Nat), j ≤ n ∧ v5 = .int .i64 j ∧ IB w (oneCost c0 c1 c2 j) a j c wr ∧ wr.heap[pb]? = some (.cells #[.slice a j c, .slice none 0 0] 79 (0, 0)) ∧ wr.heap[zb]? = some (.cells #[.slice none 0 0, .slice none 0 0] 79 (0, 0)) ∧ wr.heap[qb]? = some (.cells #[.int .u8 cols, .int .i8 c0, .int .i8 c1, .int .i8 c2, .slice ra rn rc] 71 (0, 0))) (fun v5 _ => n - (intOf v5).toNat)
  case atStart => exact ⟨0, none, 0, Nat.zero_le _, rfl, IB.nil HB0.out, HPB.out, HZB.out, HQB.out⟩
  case round =>
    obtain ⟨j, a, c, hj, rfl, hib, hpb, hzb, hqb⟩ := hrel
    replace HPB := Lib.hid hpb
    replace HZB := Lib.hid hzb
    replace HQB := Lib.hid hqb
    have HIB := Lib.hid hib
    clear hib hpb hzb hqb HB0
    by_cases hlt : j < n
    · obtain ⟨x, hx⟩ : ∃ x, costAt c0 c1 c2 j = x := ⟨_, rfl⟩
      have hx8 : I8 x := by
        rw [← hx]
        unfold costAt
        split
        · exact HCI.out.1
        · split
          · exact HCI.out.2.1
          · exact HCI.out.2.2
      have HCC := Lib.hid (fun (W : World) (h : W.heap[qb]? = some (.cells #[.int .u8 cols, .int .i8 c0, .int .i8 c1, .int .i8 c2, .slice ra rn rc] 71 (0, 0))) => (show W.cell? ⟨qb, 1 + j, none⟩ = some (.int .i8 x) from by
        have hj3 : j = 0 ∨ j = 1 ∨ j = 2 := by omega
        rw [← hx]
        rcases hj3 with rfl | rfl | rfl
        · exact cell_of_block (j := 1) h rfl
        · exact cell_of_block (j := 2) h rfl
        · exact cell_of_block (j := 3) h rfl))
      obtain ⟨y, hy⟩ : ∃ y, m10 x = y := ⟨_, rfl⟩
      have hyb := m10_le x
      rw [hy] at hyb
      have HXE := Lib.hid (show m10 (costAt c0 c1 c2 j) = y by rw [hx, hy])
      have hy1 := hyb.1
      have hy2 := hyb.2
      have i0 : (0 : Int) ≤ (j : Int) := by omega
      have i1 : (j : Int) < 3 := by omega
      have hm10 : x.tmod 10 = y := hy
      have hy8 : IntKind.i8.wrap y = y := IntWalk.i8_in _ (by omega)
      have hy64 : IntKind.i64.wrap y = y := IntWalk.i64_in _ (by omega)
      clear hx hx8 hy hyb
      go_upto_region 6 with fail
      refine wp_region_held_drew (S := fun W => W.cell? ⟨qb, 1 + j, none⟩ = some (.int .i8 x)) (by kernel_rfl) (HCC.out _ HQB.out) (fun hHeld => ?_)
      have hb : Below wr.heap.size wr wr.drew := Below.drawn wr 1
      replace HIB := Lib.hid (HIB.out.call hb)
      replace HPB := Lib.hid ((hb.block pb (lt_of_block HPB.out)).trans HPB.out)
      replace HZB := Lib.hid ((hb.block zb (lt_of_block HZB.out)).trans HZB.out)
      replace HQB := Lib.hid ((hb.block qb (lt_of_block HQB.out)).trans HQB.out)
      clear hb
      generalize wr.drew = wd at HIB HPB HZB HQB hHeld ⊢
      refine tk 0 (some 18) (v := ?_) rfl rfl ?_ ?_
      rotate_left
      · (intro w _; go_simp; (try with_reducible rfl))
      simp only [Act.put, stB, stZ, stS]
      refine tk 2 (some 20) (v := ?_) rfl rfl ?_ ?_
      rotate_left
      · (intro w _; go_simp; (try with_reducible rfl))
      simp only [Act.put, stB, stZ, stS]
      refine tk 3 (some 21) (v := ?_) rfl rfl ?_ ?_
      rotate_left
      · (intro w _; go_simp; (try with_reducible rfl))
      simp only [Act.put, stB, stZ, stS]
      refine tk 4 (some 22) (v := ?_) rfl rfl ?_ ?_
      rotate_left
      · (intro w hSw; (try dsimp only at hSw); go_simp; (try with_reducible rfl))
      simp only [Act.put, stB, stZ, stS]
      refine tk 5 (some 23) (v := ?_) rfl rfl ?_ ?_
      rotate_left
      · (intro w hSw; (try dsimp only at hSw); go_simp; (try with_reducible rfl))
      simp only [Act.put, stB, stZ, stS]
      refine tk 6 (some 24) (v := ?_) rfl rfl ?_ ?_
      rotate_left
      · (intro w _; go_simp; (try with_reducible rfl))
      simp only [Act.put, stB, stZ, stS]
      refine tk 7 (some 25) (v := ?_) rfl rfl ?_ ?_
      rotate_left
      · (intro w _; go_simp; (try with_reducible rfl))
      simp only [Act.put, stB, stZ, stS]
      refine wpAnyH_ready (rs := [1, 8]) (by kernel_rfl) (by simp) ?_
      refine (AllReadyH.cons (o := { dst := some 19, op := Op.load 57 (Operand.tmp 18), type := 57, pos := "law.go:77", after := #[{ on := 0, ground := Ground.data }], guard := none }) rfl (fun K hK => ?_) (AllReadyH.cons (o := { dst := some 26, op := Op.buildSlice 57 1 #[(0, Operand.tmp 25)], type := 57, pos := "law.go:77", after := #[{ on := 7, ground := Ground.data }], guard := none }) rfl (fun K hK => ?_) AllReadyH.nil))
      · skip
        have c1' := cell_of_block (j := 0) HPB.out rfl
        go_simp
        clear c1'
        refine hK.out _ _ (hHeld) (fun hHeld2 => ?_)
        clear hK K hHeld
        rename _ => hHeld
        try simp only [Act.put, stB, stZ, stS]
        refine wpAnyH_ready (rs := [8]) (by kernel_rfl) (by simp) ?_
        refine (AllReadyH.cons (o := { dst := some 26, op := Op.buildSlice 57 1 #[(0, Operand.tmp 25)], type := 57, pos := "law.go:77", after := #[{ on := 7, ground := Ground.data }], guard := none }) rfl (fun K hK => ?_) AllReadyH.nil)
        go_simp
        have hb := belowBox wd (.cells #[.int .i64 y] 3)
        have HM3 := Lib.hid (HIB.out.mid.alloc (.cells #[.int .i64 y] 3))
        have HS3 := Lib.hid (show Src Try.prog 1 57 (.slice (some ⟨wd.heap.size, 0, none⟩) 1 1) 1 [.int .i64 y] (wd.alloc (.cells #[.int .i64 y] 3)) from (Sl.lit wd 3 1 1 [.int .i64 y] (by unfold maxLen; omega) rfl).src (P := Try.prog) Try.underlying57 (fun u hu => by rw [List.mem_singleton.1 hu]; rfl))
        have HW3 := Lib.hid (show w.heap.size ≤ (wd.alloc (.cells #[.int .i64 y] 3)).heap.size from Nat.le_trans HIB.out.bel.size (belowBox wd (.cells #[.int .i64 y] 3)).size)
        have HPB2 := Lib.hid ((hb.block pb (lt_of_block HPB.out)).trans HPB.out)
        have hKK := hu hb (HCC.out wd HQB.out)
        clear hb
        refine hK.out _ _ (hKK) (fun hHeld2 => ?_)
        clear hK K hHeld
        rename _ => hHeld
        try simp only [Act.put, stB, stZ, stS]
        refine wpAnyH_ready (rs := [9]) (by kernel_rfl) (by simp) ?_
        refine (AllReadyH.cons (o := { dst := some 27, op := Op.call { callee := Callee.builtin Builtin.append, args := #[Operand.tmp 19, Operand.tmp 26], argTypes := #[57, 57] }, type := 57, pos := "law.go:77", after := #[{ on := 1, ground := Ground.data }, { on := 8, ground := Ground.data }], guard := none }) rfl (fun K hK => ?_) AllReadyH.nil)
        refine step_append_mid (v := .slice a j c) (by rfl) _ _ 57 57 (by rfl) ti (.int .i64 0) 8 Try.underlying57 hi1 hi2 hi3 hi4 rfl (by rfl) HM3.out _ (by rfl) 1 _ HS3.out (by unfold maxLen; omega) (by omega) HW3.out ?_
        intro a9 c9 V4 hmo hgo hbo
        have hk := grown_keeps hgo
        have hf := Foreign.mid HIB.out.mid
        have HIX := Lib.hid (HIB.out.push hmo hgo)
        replace HPB := Lib.hid (hf.box hk (by decide) HPB.out)
        replace HZB := Lib.hid (hf.box hk (by decide) HZB.out)
        replace HQB := Lib.hid (hf.box hk (by decide) HQB.out)
        clear hmo hgo hbo hk hf
        dsimp only
        refine hK.out _ _ (HCC.out _ HQB.out) (fun hHeld2 => ?_)
        clear hK K hHeld
        rename _ => hHeld
        try simp only [Act.put, stB, stZ, stS]
        refine tk 10 (some 28) (v := ?_) rfl rfl ?_ ?_
        rotate_left
        · (intro w _; go_simp; (try with_reducible rfl))
        simp only [Act.put, stB, stZ, stS]
        refine wpAnyH_ready (rs := [11]) (by kernel_rfl) (by simp) ?_
        refine (AllReadyH.cons (o := { dst := none, op := Op.store 57 (Operand.tmp 28) (Operand.tmp 27), type := 0, pos := "law.go:77", after := #[{ on := 10, ground := Ground.data }, { on := 9, ground := Ground.data }, { on := 9, ground := Ground.chain }, { on := 0, ground := Ground.phase }, { on := 1, ground := Ground.phase }, { on := 2, ground := Ground.phase }, { on := 3, ground := Ground.phase }, { on := 4, ground := Ground.phase }, { on := 5, ground := Ground.phase }, { on := 6, ground := Ground.phase }, { on := 7, ground := Ground.phase }, { on := 8, ground := Ground.phase }, { on := 9, ground := Ground.phase }], guard := none }) rfl (fun K hK => ?_) AllReadyH.nil)
        have c1' := cell_of_block (j := 0) HPB.out rfl
        have f1 : V4.frozen? ⟨pb, 0, none⟩ = false := free_of_block HPB.out
        go_simp
        clear c1' f1
        have hk := Keeps.setCell V4 ⟨pb, 0, none⟩ (.slice a9 (j + 1) c9) (S := fun z => z = pb) rfl
        have hf := Foreign.one HPB.out HPG.out
        have HIY := Lib.hid (HIX.out.foreign hf hk (by decide))
        have HPY := Lib.hid (heap_setCell_same V4 pb 0 _ _ (.slice a9 (j + 1) c9) HPB.out)
        have HZY := Lib.hid ((hk.block zb (lt_of_block HZB.out) HNZ.out).trans HZB.out)
        have HQY := Lib.hid (hf.box hk (by decide) HQB.out)
        clear hk hf
        refine hK.out _ _ (HCC.out _ HQY.out) (fun hHeld2 => ?_)
        clear hK K hHeld
        rename _ => hHeld
        try simp only [Act.put, stB, stZ, stS]
        refine wpAnyH_done (by kernel_rfl) ?_ _
        (try simp only [Exit.inBlock, Exit.then])
        clear hHeld hm10 hy8 hy64
        go_wp2_with fail
        go_roundw
        case rel => exact ⟨j + 1, a9, c9, by omega, by go_num, by rw [oneCost_succ, HXE.out]; exact HIY.out, HPY.out, HZY.out, HQY.out⟩
        case measure => simp [intOf]; omega
      · skip
        go_simp
        have hb := belowBox wd (.cells #[.int .i64 y] 3)
        have HM3 := Lib.hid (HIB.out.mid.alloc (.cells #[.int .i64 y] 3))
        have HS3 := Lib.hid (show Src Try.prog 1 57 (.slice (some ⟨wd.heap.size, 0, none⟩) 1 1) 1 [.int .i64 y] (wd.alloc (.cells #[.int .i64 y] 3)) from (Sl.lit wd 3 1 1 [.int .i64 y] (by unfold maxLen; omega) rfl).src (P := Try.prog) Try.underlying57 (fun u hu => by rw [List.mem_singleton.1 hu]; rfl))
        have HW3 := Lib.hid (show w.heap.size ≤ (wd.alloc (.cells #[.int .i64 y] 3)).heap.size from Nat.le_trans HIB.out.bel.size (belowBox wd (.cells #[.int .i64 y] 3)).size)
        have HPB2 := Lib.hid ((hb.block pb (lt_of_block HPB.out)).trans HPB.out)
        have hKK := hu hb (HCC.out wd HQB.out)
        clear hb
        refine hK.out _ _ (hKK) (fun hHeld2 => ?_)
        clear hK K hHeld
        rename _ => hHeld
        try simp only [Act.put, stB, stZ, stS]
        refine wpAnyH_ready (rs := [1]) (by kernel_rfl) (by simp) ?_
        refine (AllReadyH.cons (o := { dst := some 19, op := Op.load 57 (Operand.tmp 18), type := 57, pos := "law.go:77", after := #[{ on := 0, ground := Ground.data }], guard := none }) rfl (fun K hK => ?_) AllReadyH.nil)
        have c1' := cell_of_block (j := 0) HPB2.out rfl
        go_simp
        clear c1'
        refine hK.out _ _ (hHeld) (fun hHeld2 => ?_)
        clear hK K hHeld
        rename _ => hHeld
        try simp only [Act.put, stB, stZ, stS]
        refine wpAnyH_ready (rs := [9]) (by kernel_rfl) (by simp) ?_
        refine (AllReadyH.cons (o := { dst := some 27, op := Op.call { callee := Callee.builtin Builtin.append, args := #[Operand.tmp 19, Operand.tmp 26], argTypes := #[57, 57] }, type := 57, pos := "law.go:77", after := #[{ on := 1, ground := Ground.data }, { on := 8, ground := Ground.data }], guard := none }) rfl (fun K hK => ?_) AllReadyH.nil)
        refine step_append_mid (v := .slice a j c) (by rfl) _ _ 57 57 (by rfl) ti (.int .i64 0) 8 Try.underlying57 hi1 hi2 hi3 hi4 rfl (by rfl) HM3.out _ (by rfl) 1 _ HS3.out (by unfold maxLen; omega) (by omega) HW3.out ?_
        intro a9 c9 V4 hmo hgo hbo
        have hk := grown_keeps hgo
        have hf := Foreign.mid HIB.out.mid
        have HIX := Lib.hid (HIB.out.push hmo hgo)
        replace HPB := Lib.hid (hf.box hk (by decide) HPB.out)
        replace HZB := Lib.hid (hf.box hk (by decide) HZB.out)
        replace HQB := Lib.hid (hf.box hk (by decide) HQB.out)
        clear hmo hgo hbo hk hf
        dsimp only
        refine hK.out _ _ (HCC.out _ HQB.out) (fun hHeld2 => ?_)
        clear hK K hHeld
        rename _ => hHeld
        try simp only [Act.put, stB, stZ, stS]
        refine tk 10 (some 28) (v := ?_) rfl rfl ?_ ?_
        rotate_left
        · (intro w _; go_simp; (try with_reducible rfl))
        simp only [Act.put, stB, stZ, stS]
        refine wpAnyH_ready (rs := [11]) (by kernel_rfl) (by simp) ?_
        refine (AllReadyH.cons (o := { dst := none, op := Op.store 57 (Operand.tmp 28) (Operand.tmp 27), type := 0, pos := "law.go:77", after := #[{ on := 10, ground := Ground.data }, { on := 9, ground := Ground.data }, { on := 9, ground := Ground.chain }, { on := 0, ground := Ground.phase }, { on := 1, ground := Ground.phase }, { on := 2, ground := Ground.phase }, { on := 3, ground := Ground.phase }, { on := 4, ground := Ground.phase }, { on := 5, ground := Ground.phase }, { on := 6, ground := Ground.phase }, { on := 7, ground := Ground.phase }, { on := 8, ground := Ground.phase }, { on := 9, ground := Ground.phase }], guard := none }) rfl (fun K hK => ?_) AllReadyH.nil)
        have c1' := cell_of_block (j := 0) HPB.out rfl
        have f1 : V4.frozen? ⟨pb, 0, none⟩ = false := free_of_block HPB.out
        go_simp
        clear c1' f1
        have hk := Keeps.setCell V4 ⟨pb, 0, none⟩ (.slice a9 (j + 1) c9) (S := fun z => z = pb) rfl
        have hf := Foreign.one HPB.out HPG.out
        have HIY := Lib.hid (HIX.out.foreign hf hk (by decide))
        have HPY := Lib.hid (heap_setCell_same V4 pb 0 _ _ (.slice a9 (j + 1) c9) HPB.out)
        have HZY := Lib.hid ((hk.block zb (lt_of_block HZB.out) HNZ.out).trans HZB.out)
        have HQY := Lib.hid (hf.box hk (by decide) HQB.out)
        clear hk hf
        refine hK.out _ _ (HCC.out _ HQY.out) (fun hHeld2 => ?_)
        clear hK K hHeld
        rename _ => hHeld
        try simp only [Act.put, stB, stZ, stS]
        refine wpAnyH_done (by kernel_rfl) ?_ _
        (try simp only [Exit.inBlock, Exit.then])
        clear hHeld hm10 hy8 hy64
        go_wp2_with fail
        go_roundw
        case rel => exact ⟨j + 1, a9, c9, by omega, by go_num, by rw [oneCost_succ, HXE.out]; exact HIY.out, HPY.out, HZY.out, HQY.out⟩
        case measure => simp [intOf]; omega
    · obtain rfl : j = n := by omega
      go_wp2_with fail
      go_loopw [6] (fun v6 wr => ∃ (k : Nat) (pa : Option Addr) (pc : Nat) (rs : List RRow), k ≤ m ∧ v6 = .int .i64 k ∧ QB w a j c pa k pc (oneCost c0 c1 c2 j) rs wr ∧ rs.map rrowQ = (rows.take k).map (oneRow j) ∧ wr.heap[pb]? = some (.cells #[.slice a j c, .slice pa k pc] 79 (0, 0)) ∧ wr.heap[zb]? = some (.cells #[.slice none 0 0, .slice none 0 0] 79 (0, 0)) ∧ wr.heap[qb]? = some (.cells #[.int .u8 cols, .int .i8 c0, .int .i8 c1, .int .i8 c2, .slice ra rn rc] 71 (0, 0))) (fun v6 _ => m - (intOf v6).toNat)
      case atStart => exact ⟨0, none, 0, [], Nat.zero_le _, rfl, ⟨HIB.out, by simpa using Mid.nil wr w.heap.size 85 3, rfl, fun r hr => (by cases hr), HIB.out.bel⟩, rfl, HPB.out, HZB.out, HQB.out⟩
      case round =>
        obtain ⟨k, pa, pc, rs, hk, rfl, hqq, hmp, hpb, hzb, hqb⟩ := hrel
        replace HPB := Lib.hid hpb
        replace HZB := Lib.hid hzb
        replace HQB := Lib.hid hqb
        have HQ := Lib.hid hqq
        have HMP := Lib.hid hmp
        clear hpb hzb hqb hqq hmp HIB
        have q4 := cell_of_block (j := 4) HQB.out rfl
        by_cases hlt2 : k < m
        · have hm3 : m ≤ 3 := by have := HM.out; omega
          obtain ⟨b, o, r, e1, e2, -, -, -⟩ := (HSM.out _ HQ.out.bel).get k (by omega)
          have HRK := Lib.hid e2
          have HR8 := Lib.hid (HOK.out r (List.mem_of_getElem? e2))
          have HRCS := Lib.hid (fun (W : World) (hb : Below w.heap.size w W) => (show (∀ j, j < 3 → W.cell? ⟨b, o + k * 5 + j, none⟩ = some (.int .i8 (srowAt r j))) ∧ W.cell? ⟨b, o + k * 5 + 3, none⟩ = some (.int .i8 r.2.2.2.1) ∧ W.cell? ⟨b, o + k * 5 + 4, none⟩ = some (.int .i8 r.2.2.2.2) from by
            obtain ⟨b', o', r', e1', e2', h1, h2, h3⟩ := (HSM.out W hb).get k (by omega)
            rw [e1] at e1'
            cases e1'
            rw [e2] at e2'
            cases e2'
            exact ⟨h1, h2, h3⟩))
          have k0 : (0 : Int) ≤ (k : Int) := by omega
          have k1 : (k : Int) < (rn : Int) := by omega
          have k2 : (k : Int) < 3 := by omega
          subst e1
          clear e2
          obtain ⟨ws, hws⟩ : ∃ ws : World, ws = wr := ⟨_, rfl⟩
          subst hws
          have HTB := Lib.hid (heap_alloc_new ws (.cells #[.slice none 0 0, .int .i64 0, .int .i64 0] 85))
          have HIB := Lib.hid (show IB ws [] none 0 0 (ws.alloc (.cells #[.slice none 0 0, .int .i64 0, .int .i64 0] 85)) from IB.nil (belowBox ws _))
          have HQ4 := Lib.hid (fun (W : World) (hb : Below ws.heap.size ws W) => (show W.cell? ⟨qb, 4, none⟩ = some (.slice (some ⟨b, o, none⟩) rn rc) from hu hb q4))
          go_upto_region 11 with fail
          have HTG := Lib.hid (show ws.heap.size ≤ ws.heap.size from Nat.le_refl _)
          obtain ⟨tb, htb⟩ : ∃ tb, ws.heap.size = tb := ⟨_, rfl⟩
          have HTGE := Lib.hid (show ws.heap.size ≤ tb by omega)
          rw [htb] at HTB ⊢
          clear htb HTG
          generalize ws.alloc (.cells #[.slice none 0 0, .int .i64 0, .int .i64 0] 85) = wt at HTB HIB ⊢
          clear q4
          go_wp2_with fail
          go_loopw [8] (fun v8 wr => ∃ (i : Nat) (a8 : Option Addr) (c8 : Nat), i ≤ j ∧ v8 = .int .i64 i ∧ IB ws (oneCoef r i) a8 i c8 wr ∧ wr.heap[tb]? = some (.cells #[.slice a8 i c8, .int .i64 0, .int .i64 0] 85 (0, 0))) (fun v8 _ => j - (intOf v8).toNat)
          case atStart => exact ⟨0, none, 0, Nat.zero_le _, rfl, HIB.out, HTB.out⟩
          case round =>
            obtain ⟨i, a8, c8, hi, rfl, hib, htb⟩ := hrel
            replace HIB := Lib.hid hib
            replace HTB := Lib.hid htb
            clear hib htb
            by_cases hlt3 : i < j
            · obtain ⟨x, hx⟩ : ∃ x, srowAt r i = x := ⟨_, rfl⟩
              have HRC := Lib.hid (fun (W : World) (hb : Below ws.heap.size ws W) => (show W.cell? ⟨b, o + k * 5 + i, none⟩ = some (.int .i8 x) from by
                rw [← hx]; exact (HRCS.out W (bthen HQ.out.bel hb)).1 i (by omega)))
              obtain ⟨y, hy⟩ : ∃ y, m10 x = y := ⟨_, rfl⟩
              have hyb := m10_le x
              rw [hy] at hyb
              have HXE := Lib.hid (show m10 (srowAt r i) = y by rw [hx, hy])
              have hy1 := hyb.1
              have hy2 := hyb.2
              have i0 : (0 : Int) ≤ (i : Int) := by omega
              have i1 : (i : Int) < 5 := by omega
              have hm10 : x.tmod 10 = y := hy
              have hy8 : IntKind.i8.wrap y = y := IntWalk.i8_in _ (by omega)
              have hy64 : IntKind.i64.wrap y = y := IntWalk.i64_in _ (by omega)
              have HQC := Lib.hid HQ4.out
              clear hx hy hyb
              go_upto_region 14 with fail
              refine wp_region_held_drew (S := fun W => W.cell? ⟨qb, 4, none⟩ = some (.slice (some ⟨b, o, none⟩) rn rc) ∧ W.cell? ⟨b, o + k * 5 + i, none⟩ = some (.int .i8 x)) (by kernel_rfl) (And.intro (HQC.out _ (bthen HIB.out.bel (Below.drawn wr 1))) (HRC.out _ (bthen HIB.out.bel (Below.drawn wr 1)))) (fun hHeld => ?_)
              have hb : Below wr.heap.size wr wr.drew := Below.drawn wr 1
              replace HIB := Lib.hid (HIB.out.call hb)
              replace HTB := Lib.hid ((hb.block tb (lt_of_block HTB.out)).trans HTB.out)
              clear hb
              generalize wr.drew = wd at HIB HTB hHeld ⊢
              refine tk 0 (some 45) (v := ?_) rfl rfl ?_ ?_
              rotate_left
              · (intro w _; go_simp; (try with_reducible rfl))
              simp only [Act.put, stB, stZ, stS]
              refine tk 2 (some 47) (v := ?_) rfl rfl ?_ ?_
              rotate_left
              · (intro w _; go_simp; (try with_reducible rfl))
              simp only [Act.put, stB, stZ, stS]
              refine tk 3 (some 48) (v := ?_) rfl rfl ?_ ?_
              rotate_left
              · (intro w hSw; (try dsimp only at hSw); ((try obtain ⟨hS0, hS1⟩ := hSw); go_simp); (try with_reducible rfl))
              simp only [Act.put, stB, stZ, stS]
              refine tk 4 (some 49) (v := ?_) rfl rfl ?_ ?_
              rotate_left
              · (intro w _; go_simp; (try with_reducible rfl))
              simp only [Act.put, stB, stZ, stS]
              refine tk 5 (some 50) (v := ?_) rfl rfl ?_ ?_
              rotate_left
              · (intro w _; go_simp; (try with_reducible rfl))
              simp only [Act.put, stB, stZ, stS]
              refine tk 6 (some 51) (v := ?_) rfl rfl ?_ ?_
              rotate_left
              · (intro w hSw; (try dsimp only at hSw); ((try obtain ⟨hS0, hS1⟩ := hSw); go_simp); (try with_reducible rfl))
              simp only [Act.put, stB, stZ, stS]
              refine tk 7 (some 52) (v := ?_) rfl rfl ?_ ?_
              rotate_left
              · (intro w hSw; (try dsimp only at hSw); ((try obtain ⟨hS0, hS1⟩ := hSw); go_simp); (try with_reducible rfl))
              simp only [Act.put, stB, stZ, stS]
              refine tk 8 (some 53) (v := ?_) rfl rfl ?_ ?_
              rotate_left
              · (intro w hSw; (try dsimp only at hSw); ((try obtain ⟨hS0, hS1⟩ := hSw); go_simp); (try with_reducible rfl))
              simp only [Act.put, stB, stZ, stS]
              refine tk 9 (some 54) (v := ?_) rfl rfl ?_ ?_
              rotate_left
              · (intro w _; go_simp; (try with_reducible rfl))
              simp only [Act.put, stB, stZ, stS]
              refine tk 10 (some 55) (v := ?_) rfl rfl ?_ ?_
              rotate_left
              · (intro w _; go_simp; (try with_reducible rfl))
              simp only [Act.put, stB, stZ, stS]
              refine wpAnyH_ready (rs := [1, 11]) (by kernel_rfl) (by simp) ?_
              refine (AllReadyH.cons (o := { dst := some 46, op := Op.load 57 (Operand.tmp 45), type := 57, pos := "law.go:82", after := #[{ on := 0, ground := Ground.data }], guard := none }) rfl (fun K hK => ?_) (AllReadyH.cons (o := { dst := some 56, op := Op.buildSlice 57 1 #[(0, Operand.tmp 55)], type := 57, pos := "law.go:82", after := #[{ on := 10, ground := Ground.data }], guard := none }) rfl (fun K hK => ?_) AllReadyH.nil))
              · skip
                have c1' := cell_of_block (j := 0) HTB.out rfl
                go_simp
                clear c1'
                refine hK.out _ _ (hHeld) (fun hHeld2 => ?_)
                clear hK K hHeld
                rename _ => hHeld
                try simp only [Act.put, stB, stZ, stS]
                refine wpAnyH_ready (rs := [11]) (by kernel_rfl) (by simp) ?_
                refine (AllReadyH.cons (o := { dst := some 56, op := Op.buildSlice 57 1 #[(0, Operand.tmp 55)], type := 57, pos := "law.go:82", after := #[{ on := 10, ground := Ground.data }], guard := none }) rfl (fun K hK => ?_) AllReadyH.nil)
                go_simp
                have hb := belowBox wd (.cells #[.int .i64 y] 3)
                have HM3 := Lib.hid (HIB.out.mid.alloc (.cells #[.int .i64 y] 3))
                have HS3 := Lib.hid (show Src Try.prog 1 57 (.slice (some ⟨wd.heap.size, 0, none⟩) 1 1) 1 [.int .i64 y] (wd.alloc (.cells #[.int .i64 y] 3)) from (Sl.lit wd 3 1 1 [.int .i64 y] (by unfold maxLen; omega) rfl).src (P := Try.prog) Try.underlying57 (fun u hu => by rw [List.mem_singleton.1 hu]; rfl))
                have HW3 := Lib.hid (show ws.heap.size ≤ (wd.alloc (.cells #[.int .i64 y] 3)).heap.size from Nat.le_trans HIB.out.bel.size (belowBox wd (.cells #[.int .i64 y] 3)).size)
                have HTB2 := Lib.hid ((hb.block tb (lt_of_block HTB.out)).trans HTB.out)
                have hKK := And.intro (hu hb (HQC.out wd HIB.out.bel)) (hu hb (HRC.out wd HIB.out.bel))
                clear hb
                refine hK.out _ _ (hKK) (fun hHeld2 => ?_)
                clear hK K hHeld
                rename _ => hHeld
                try simp only [Act.put, stB, stZ, stS]
                refine wpAnyH_ready (rs := [12]) (by kernel_rfl) (by simp) ?_
                refine (AllReadyH.cons (o := { dst := some 57, op := Op.call { callee := Callee.builtin Builtin.append, args := #[Operand.tmp 46, Operand.tmp 56], argTypes := #[57, 57] }, type := 57, pos := "law.go:82", after := #[{ on := 1, ground := Ground.data }, { on := 11, ground := Ground.data }], guard := none }) rfl (fun K hK => ?_) AllReadyH.nil)
                refine step_append_mid (v := .slice a8 i c8) (by rfl) _ _ 57 57 (by rfl) ti (.int .i64 0) 8 Try.underlying57 hi1 hi2 hi3 hi4 rfl (by rfl) HM3.out _ (by rfl) 1 _ HS3.out (by unfold maxLen; omega) (by omega) HW3.out ?_
                intro a9 c9 V4 hmo hgo hbo
                have hk := grown_keeps hgo
                have hf := Foreign.mid HIB.out.mid
                have HIX := Lib.hid (HIB.out.push hmo hgo)
                replace HTB := Lib.hid (hf.box hk (by decide) HTB.out)
                clear hmo hgo hbo hk hf
                dsimp only
                refine hK.out _ _ (And.intro (HQC.out _ HIX.out.bel) (HRC.out _ HIX.out.bel)) (fun hHeld2 => ?_)
                clear hK K hHeld
                rename _ => hHeld
                try simp only [Act.put, stB, stZ, stS]
                refine tk 13 (some 58) (v := ?_) rfl rfl ?_ ?_
                rotate_left
                · (intro w _; go_simp; (try with_reducible rfl))
                simp only [Act.put, stB, stZ, stS]
                refine wpAnyH_ready (rs := [14]) (by kernel_rfl) (by simp) ?_
                refine (AllReadyH.cons (o := { dst := none, op := Op.store 57 (Operand.tmp 58) (Operand.tmp 57), type := 0, pos := "law.go:82", after := #[{ on := 13, ground := Ground.data }, { on := 12, ground := Ground.data }, { on := 12, ground := Ground.chain }, { on := 0, ground := Ground.phase }, { on := 1, ground := Ground.phase }, { on := 2, ground := Ground.phase }, { on := 3, ground := Ground.phase }, { on := 4, ground := Ground.phase }, { on := 5, ground := Ground.phase }, { on := 6, ground := Ground.phase }, { on := 7, ground := Ground.phase }, { on := 8, ground := Ground.phase }, { on := 9, ground := Ground.phase }, { on := 10, ground := Ground.phase }, { on := 11, ground := Ground.phase }, { on := 12, ground := Ground.phase }], guard := none }) rfl (fun K hK => ?_) AllReadyH.nil)
                have c1' := cell_of_block (j := 0) HTB.out rfl
                have f1 : V4.frozen? ⟨tb, 0, none⟩ = false := free_of_block HTB.out
                go_simp
                clear c1' f1
                have hk := Keeps.setCell V4 ⟨tb, 0, none⟩ (.slice a9 (i + 1) c9) (S := fun z => z = tb) rfl
                have hf := Foreign.one HTB.out HTGE.out
                have HIY := Lib.hid (HIX.out.foreign hf hk (by decide))
                have HTY := Lib.hid (heap_setCell_same V4 tb 0 _ _ (.slice a9 (i + 1) c9) HTB.out)
                clear hk hf
                refine hK.out _ _ (And.intro (HQC.out _ HIY.out.bel) (HRC.out _ HIY.out.bel)) (fun hHeld2 => ?_)
                clear hK K hHeld
                rename _ => hHeld
                try simp only [Act.put, stB, stZ, stS]
                refine wpAnyH_done (by kernel_rfl) ?_ _
                (try simp only [Exit.inBlock, Exit.then])
                clear hHeld hm10 hy8 hy64
                go_wp2_with fail
                go_roundw
                case rel => exact ⟨i + 1, a9, c9, by omega, by go_num, by rw [oneCoef_succ, HXE.out]; exact HIY.out, HTY.out⟩
                case measure => simp [intOf]; omega
              · skip
                go_simp
                have hb := belowBox wd (.cells #[.int .i64 y] 3)
                have HM3 := Lib.hid (HIB.out.mid.alloc (.cells #[.int .i64 y] 3))
                have HS3 := Lib.hid (show Src Try.prog 1 57 (.slice (some ⟨wd.heap.size, 0, none⟩) 1 1) 1 [.int .i64 y] (wd.alloc (.cells #[.int .i64 y] 3)) from (Sl.lit wd 3 1 1 [.int .i64 y] (by unfold maxLen; omega) rfl).src (P := Try.prog) Try.underlying57 (fun u hu => by rw [List.mem_singleton.1 hu]; rfl))
                have HW3 := Lib.hid (show ws.heap.size ≤ (wd.alloc (.cells #[.int .i64 y] 3)).heap.size from Nat.le_trans HIB.out.bel.size (belowBox wd (.cells #[.int .i64 y] 3)).size)
                have HTB2 := Lib.hid ((hb.block tb (lt_of_block HTB.out)).trans HTB.out)
                have hKK := And.intro (hu hb (HQC.out wd HIB.out.bel)) (hu hb (HRC.out wd HIB.out.bel))
                clear hb
                refine hK.out _ _ (hKK) (fun hHeld2 => ?_)
                clear hK K hHeld
                rename _ => hHeld
                try simp only [Act.put, stB, stZ, stS]
                refine wpAnyH_ready (rs := [1]) (by kernel_rfl) (by simp) ?_
                refine (AllReadyH.cons (o := { dst := some 46, op := Op.load 57 (Operand.tmp 45), type := 57, pos := "law.go:82", after := #[{ on := 0, ground := Ground.data }], guard := none }) rfl (fun K hK => ?_) AllReadyH.nil)
                have c1' := cell_of_block (j := 0) HTB2.out rfl
                go_simp
                clear c1'
                refine hK.out _ _ (hHeld) (fun hHeld2 => ?_)
                clear hK K hHeld
                rename _ => hHeld
                try simp only [Act.put, stB, stZ, stS]
                refine wpAnyH_ready (rs := [12]) (by kernel_rfl) (by simp) ?_
                refine (AllReadyH.cons (o := { dst := some 57, op := Op.call { callee := Callee.builtin Builtin.append, args := #[Operand.tmp 46, Operand.tmp 56], argTypes := #[57, 57] }, type := 57, pos := "law.go:82", after := #[{ on := 1, ground := Ground.data }, { on := 11, ground := Ground.data }], guard := none }) rfl (fun K hK => ?_) AllReadyH.nil)
                refine step_append_mid (v := .slice a8 i c8) (by rfl) _ _ 57 57 (by rfl) ti (.int .i64 0) 8 Try.underlying57 hi1 hi2 hi3 hi4 rfl (by rfl) HM3.out _ (by rfl) 1 _ HS3.out (by unfold maxLen; omega) (by omega) HW3.out ?_
                intro a9 c9 V4 hmo hgo hbo
                have hk := grown_keeps hgo
                have hf := Foreign.mid HIB.out.mid
                have HIX := Lib.hid (HIB.out.push hmo hgo)
                replace HTB := Lib.hid (hf.box hk (by decide) HTB.out)
                clear hmo hgo hbo hk hf
                dsimp only
                refine hK.out _ _ (And.intro (HQC.out _ HIX.out.bel) (HRC.out _ HIX.out.bel)) (fun hHeld2 => ?_)
                clear hK K hHeld
                rename _ => hHeld
                try simp only [Act.put, stB, stZ, stS]
                refine tk 13 (some 58) (v := ?_) rfl rfl ?_ ?_
                rotate_left
                · (intro w _; go_simp; (try with_reducible rfl))
                simp only [Act.put, stB, stZ, stS]
                refine wpAnyH_ready (rs := [14]) (by kernel_rfl) (by simp) ?_
                refine (AllReadyH.cons (o := { dst := none, op := Op.store 57 (Operand.tmp 58) (Operand.tmp 57), type := 0, pos := "law.go:82", after := #[{ on := 13, ground := Ground.data }, { on := 12, ground := Ground.data }, { on := 12, ground := Ground.chain }, { on := 0, ground := Ground.phase }, { on := 1, ground := Ground.phase }, { on := 2, ground := Ground.phase }, { on := 3, ground := Ground.phase }, { on := 4, ground := Ground.phase }, { on := 5, ground := Ground.phase }, { on := 6, ground := Ground.phase }, { on := 7, ground := Ground.phase }, { on := 8, ground := Ground.phase }, { on := 9, ground := Ground.phase }, { on := 10, ground := Ground.phase }, { on := 11, ground := Ground.phase }, { on := 12, ground := Ground.phase }], guard := none }) rfl (fun K hK => ?_) AllReadyH.nil)
                have c1' := cell_of_block (j := 0) HTB.out rfl
                have f1 : V4.frozen? ⟨tb, 0, none⟩ = false := free_of_block HTB.out
                go_simp
                clear c1' f1
                have hk := Keeps.setCell V4 ⟨tb, 0, none⟩ (.slice a9 (i + 1) c9) (S := fun z => z = tb) rfl
                have hf := Foreign.one HTB.out HTGE.out
                have HIY := Lib.hid (HIX.out.foreign hf hk (by decide))
                have HTY := Lib.hid (heap_setCell_same V4 tb 0 _ _ (.slice a9 (i + 1) c9) HTB.out)
                clear hk hf
                refine hK.out _ _ (And.intro (HQC.out _ HIY.out.bel) (HRC.out _ HIY.out.bel)) (fun hHeld2 => ?_)
                clear hK K hHeld
                rename _ => hHeld
                try simp only [Act.put, stB, stZ, stS]
                refine wpAnyH_done (by kernel_rfl) ?_ _
                (try simp only [Exit.inBlock, Exit.then])
                clear hHeld hm10 hy8 hy64
                go_wp2_with fail
                go_roundw
                case rel => exact ⟨i + 1, a9, c9, by omega, by go_num, by rw [oneCoef_succ, HXE.out]; exact HIY.out, HTY.out⟩
                case measure => simp [intOf]; omega
            · obtain rfl : i = j := by omega
              obtain ⟨u, hu8⟩ : ∃ u, r.2.2.2.1 % 256 = u := ⟨_, rfl⟩
              obtain ⟨v, hv8⟩ : ∃ v, u % 3 = v := ⟨_, rfl⟩
              obtain ⟨y, hy⟩ : ∃ y, m10 r.2.2.2.2 = y := ⟨_, rfl⟩
              have hyb := m10_le r.2.2.2.2
              rw [hy] at hyb
              obtain ⟨hr1, hr2, hr3, hr4, hr5⟩ := HR8.out
              have hub : 0 ≤ u ∧ u ≤ 255 := by omega
              have hvb : 0 ≤ v ∧ v ≤ 2 := by omega
              have HONE := Lib.hid (show oneRow i r = (oneCoef r i, 1 + v, y) by unfold oneRow oneKind; rw [hu8, hv8, hy])
              obtain ⟨x3, hx3⟩ : ∃ x3, r.2.2.2.1 = x3 := ⟨_, rfl⟩
              obtain ⟨x4, hx4⟩ : ∃ x4, r.2.2.2.2 = x4 := ⟨_, rfl⟩
              rw [hx3] at HRCS hu8
              rw [hx4] at HRCS hy
              have e3 : IntKind.u8.wrap x3 = u := by rw [u8_of_i8]; exact hu8
              have e4 : u.tmod 3 = v := by rw [Int.tmod_eq_emod_of_nonneg hub.1]; exact hv8
              have e5 : x4.tmod 10 = y := hy
              have e6 : IntKind.i8.wrap y = y := IntWalk.i8_in _ (by omega)
              have y1 := hyb.1
              have y2 := hyb.2
              have u1 := hub.1
              have u2 := hub.2
              have v1 := hvb.1
              have v2 := hvb.2
              have q4 := HQ4.out wr HIB.out.bel
              obtain ⟨-, x3c, x4c⟩ := HRCS.out wr (bthen HQ.out.bel HIB.out.bel)
              have t1 := cell_of_block (j := 1) HTB.out rfl
              have f1 : wr.frozen? ⟨tb, 1, none⟩ = false := free_of_block HTB.out
              have t2 := cell_of_block (j := 2) HTB.out rfl
              have f2 : wr.frozen? ⟨tb, 2, none⟩ = false := free_of_block HTB.out
              have HV := Lib.hid hv8
              clear hu8 hv8 hy hyb hub hvb hx3 hx4 hr1 hr2 hr3 hr4 hr5
              go_upto_region 17 with fail
              have hk := (Keeps.setCell wr ⟨tb, 1, none⟩ (IV (1 + v)) (S := fun z => z = tb) rfl).trans (Keeps.setCell (wr.setCell ⟨tb, 1, none⟩ (IV (1 + v))) ⟨tb, 2, none⟩ (IV y) (S := fun z => z = tb) rfl) fun _ _ h => h
              have hf := Foreign.one HTB.out HTGE.out
              have hib := HIB.out.foreign hf hk (by decide)
              have htb := heap_setCell_same (wr.setCell ⟨tb, 1, none⟩ (IV (1 + v))) tb 2 _ _ (IV y) (heap_setCell_same wr tb 1 _ _ (IV (1 + v)) HTB.out)
              clear hk hf e3 e4 e5 e6 q4 x3c x4c t1 f1 t2 f2
              generalize (wr.setCell ⟨tb, 1, none⟩ (IV (1 + v))).setCell ⟨tb, 2, none⟩ (IV y) = wv at hib htb ⊢
              have HIV := Lib.hid hib
              have t0 := cell_of_block (j := 0) htb rfl
              have t1 := cell_of_block (j := 1) htb rfl
              have t2 := cell_of_block (j := 2) htb rfl
              have HQV := Lib.hid (HQ.out.call hib.bel)
              have hpv := (hib.bel.block pb (lt_of_block HPB.out)).trans HPB.out
              have HPV := Lib.hid hpv
              have HZV := Lib.hid ((hib.bel.block zb (lt_of_block HZB.out)).trans HZB.out)
              have HQBV := Lib.hid ((hib.bel.block qb (lt_of_block HQB.out)).trans HQB.out)
              have c1' := cell_of_block (j := 1) hpv rfl
              clear hib htb hpv
              have d1' : (wv.alloc (.cells #[.slice a8 i c8, .int .i64 (1 + v), .int .i64 y] 85)).cell? ⟨pb, 1, none⟩ = some (.slice pa k pc) := hu (belowBox wv _) c1'
              have HM3 := Lib.hid (HQV.out.mid.alloc (.cells #[.slice a8 i c8, .int .i64 (1 + v), .int .i64 y] 85))
              have HS3 := Lib.hid (show Src Try.prog 3 77 (.slice (some ⟨wv.heap.size, 0, none⟩) 1 1) 1 [.slice a8 i c8, .int .i64 (1 + v), .int .i64 y] (wv.alloc (.cells #[.slice a8 i c8, .int .i64 (1 + v), .int .i64 y] 85)) from (Sl.lit wv 85 3 1 [.slice a8 i c8, .int .i64 (1 + v), .int .i64 y] (by unfold maxLen; omega) rfl).src (P := Try.prog) Try.underlying77 (fun u hu => by
                simp only [List.mem_cons, List.not_mem_nil, or_false] at hu
                rcases hu with rfl | rfl | rfl <;> rfl))
              have HW3 := Lib.hid (Nat.le_trans HQV.out.bel.size (belowBox wv (.cells #[.slice a8 i c8, .int .i64 (1 + v), .int .i64 y] 85)).size)
              go_wp2_with (at_builtin; refine wpList_append_mid (v := .slice pa k pc) rfl _ _ 77 77 rfl tp (.agg #[.slice none 0 0, .int .i64 0, .int .i64 0]) 40 Try.underlying77 hp1 hp2 hp3 hp4 rfl rfl HM3.out _ rfl 1 _ HS3.out (by unfold maxLen; omega) (by omega) HW3.out ?_; intro a6 c6 w6 hmo hgo hbo; have hk := grown_keeps hgo; have hf := Foreign.mid HQV.out.mid; have HPX := Lib.hid (HQV.out.push (r := ⟨a8, i, c8, oneCoef r i, 1 + v, y⟩) (HIV.out.rebase HQ.out.bel) hmo hgo); have hp6 := hf.box hk (by decide) HPV.out; have HP6 := Lib.hid hp6; have HZ6 := Lib.hid (hf.box hk (by decide) HZV.out); have HQ6 := Lib.hid (hf.box hk (by decide) HQBV.out); have cc6 := cell_of_block (j := 1) hp6 rfl; have f6 : w6.frozen? ⟨pb, 1, none⟩ = false := free_of_block hp6; clear hmo hgo hbo hk hf hp6)
              have hk := Keeps.setCell w6 ⟨pb, 1, none⟩ (.slice a6 (k + 1) c6) (S := fun z => z = pb) rfl
              have hf := Foreign.one HP6.out HPG.out
              have HQY := Lib.hid (HPX.out.foreign hf hk (by decide) (by decide))
              have HPY := Lib.hid (heap_setCell_same w6 pb 1 _ _ (.slice a6 (k + 1) c6) HP6.out)
              have HZY := Lib.hid ((hk.block zb (lt_of_block HZ6.out) HNZ.out).trans HZ6.out)
              have HQBY := Lib.hid (hf.box hk (by decide) HQ6.out)
              have HMK := Lib.hid (show (rs ++ [(⟨a8, i, c8, oneCoef r i, 1 + v, y⟩ : RRow)]).map rrowQ = (rows.take (k + 1)).map (oneRow i) by
                rw [List.map_append, HMP.out, List.take_add_one, HRK.out, Option.toList_some, List.map_append]
                exact congrArg (fun z => _ ++ [z]) HONE.out.symm)
              clear hk hf t0 t1 t2 c1' d1'
              go_roundw
              case rel => exact ⟨k + 1, a6, c6, _, by omega, by go_num, HQY.out, HMK.out, HPY.out, HZY.out, HQBY.out⟩
              case measure => simp [intOf]; omega
        · obtain rfl : k = m := by omega
          have p0 := cell_of_block (j := 0) HPB.out rfl
          have p1 := cell_of_block (j := 1) HPB.out rfl
          have z0 := cell_of_block (j := 0) HZB.out rfl
          have z1 := cell_of_block (j := 1) HZB.out rfl
          have f0 : wr.frozen? ⟨zb, 0, none⟩ = false := free_of_block HZB.out
          have f1 : wr.frozen? ⟨zb, 1, none⟩ = false := free_of_block HZB.out
          have k0 : (0 : Int) ≤ (k : Int) := by omega
          have HLEN := Lib.hid (show ((rows.take k).map (oneRow j)).length = k by rw [List.length_map]; exact HML.out)
          have hfin : ∀ W : World, W = (wr.setCell ⟨zb, 0, none⟩ (.slice a j c)).setCell ⟨zb, 1, none⟩ (.slice pa k pc) → OneR j (oneCost c0 c1 c2 j) ((rows.take k).map (oneRow j)) w (.returned (.agg #[.slice a j c, .slice pa k pc])) W := fun W hW => by
            subst hW
            have hk := (Keeps.setCell wr ⟨zb, 0, none⟩ (.slice a j c) (S := fun z => z = zb) rfl).trans (Keeps.setCell (wr.setCell ⟨zb, 0, none⟩ (.slice a j c)) ⟨zb, 1, none⟩ (.slice pa k pc) (S := fun z => z = zb) rfl) fun _ _ h => h
            have hf := Foreign.one HZB.out HZG.out
            have hq := HQ.out.foreign hf hk (by decide) (by decide)
            unfold OneR
            rw [HLEN.out]
            exact ⟨a, c, pa, pc, rs, rfl, hq, HMP.out⟩
          have HFIN := Lib.hid hfin
          have hzz := heap_setCell_same (wr.setCell ⟨zb, 0, none⟩ (.slice a j c)) zb 1 _ _ (.slice pa k pc) (heap_setCell_same wr zb 0 _ _ (.slice a j c) HZB.out)
          have j0 := cell_of_block (j := 0) hzz rfl
          have j1 := cell_of_block (j := 1) hzz rfl
          have J0 := Lib.hid j0
          have J1 := Lib.hid j1
          clear hfin hzz j0 j1
          by_cases hk3 : k < rn
          · have hkk : k = 3 := by have := HM.out; omega
            have i1 : (k : Int) < (rn : Int) := by omega
            have i2 : (3 : Int) ≤ (k : Int) := by omega
            clear hkk
            go_wp2_with fail
            refine bodyPost_ret (v := .agg #[.slice a j c, .slice pa k pc]) (by simp [results, Try.results27, go_sem, J0.out, J1.out]) rfl ?_
            exact HFIN.out _ rfl
          · have i1 : (rn : Int) ≤ (k : Int) := by omega
            go_wp2_with fail
            refine bodyPost_ret (v := .agg #[.slice a j c, .slice pa k pc]) (by simp [results, Try.results27, go_sem, J0.out, J1.out]) rfl ?_
            exact HFIN.out _ rfl
end Go.Proofs.Ytndndfobkbeolaa
namespace Go.Proofs.Ytndndfobkbeolaa
open Go.RowKit Go.Extern.Stop Go.Stop Go.Extern
theorem QB.get {w0 W : World} {ca : Option Addr} {cn cc : Nat} {ra : Option Addr} {rn rc : Nat} {cost : List Int} {rows : List RRow} (h : QB w0 ca cn cc ra rn rc cost rows W) (k : Nat) (hk : k < rn) :
    ∃ b o r, ra = some ⟨b, o, none⟩ ∧ rows[k]? = some r ∧ W.cell? ⟨b, o + k * 3, none⟩ = some (.slice r.a r.n r.c) ∧ W.cell? ⟨b, o + k * 3 + 1, none⟩ = some (.int .i64 r.kind) ∧ W.cell? ⟨b, o + k * 3 + 2, none⟩ = some (.int .i64 r.rhs) ∧ IB w0 r.coef r.a r.n r.c W := by
  obtain ⟨_, hm, hl, ho, _⟩ := h
  subst hl
  obtain ⟨b, o, c', e, h1, h2, h3, h4⟩ := (Sl.ofMid hm).plain (by omega)
  cases e
  have hc := fun j u hj => h4 _ u (flat_at rrowCells 3 rrowCells_len rows k hk j u hj)
  have c0 := hc 0 _ rfl
  have c1 := hc 1 _ rfl
  have c2 := hc 2 _ rfl
  simp only [← Nat.add_assoc, Nat.add_zero] at c0 c1 c2
  exact ⟨b, o, rows[k], rfl, List.getElem?_eq_getElem hk, c0, c1, c2, ho _ (List.getElem_mem hk)⟩
def toQ (x : List Int × Int × Int) : List Rat × Int × Rat := (ofI x.1, x.2.1, (x.2.2 : Rat))
def SameR (n : Nat) (cost : List Int) (rows : List (List Int × Int × Int)) (w : World) (e : Ending) (w' : World) : Prop := ∃ ca cc ra rc cs rs, e = .returned (.agg #[.slice ca n cc, .slice ra rows.length rc]) ∧ PrB w ca n cc ra rows.length rc cs rs w' ∧ qs cs = ofI cost ∧ rs.map prowQ = rows.map toQ
theorem m10_I64 (x : Int) : I64 (m10 x) := by have := m10_le x; unfold I64; omega
theorem oneRow_ok (n : Nat) (x : SRow) : (∀ y, y ∈ oneCoef x n → I64 y) ∧ I64 (oneKind x) ∧ I64 (m10 x.2.2.2.2) := by
  refine ⟨fun y hy => ?_, ?_, m10_I64 _⟩
  · obtain ⟨j, _, rfl⟩ := List.mem_map.1 hy
    exact m10_I64 _
  · unfold oneKind I64
    omega
set_option maxRecDepth 100000 in
set_option maxHeartbeats 16000000 in
theorem same_any (cols c0 c1 c2 : Int) (sa : Option Addr) (sn sc : Nat) (rows : List SRow) (n m : Nat) (w : World) (h : SmW w cols c0 c1 c2 sa sn sc rows) (hn : (n : Int) = cols % 4) (hm : m = min sn 3) :
    Calls Try.prog 25 #[.agg #[.int .u8 cols, .int .i8 c0, .int .i8 c1, .int .i8 c2, .slice sa sn sc]] w (SameR n (oneCost c0 c1 c2 n) ((rows.take m).map (oneRow n)) w) := by
  obtain ⟨tp, hp1, hp2, hp3, hp4⟩ := info_parts Try.infoPRow
  obtain ⟨w1, hw1⟩ : ∃ w1, (w.alloc (.cells #[.int .u8 cols, .int .i8 c0, .int .i8 c1, .int .i8 c2, .slice sa sn sc] 71)).alloc (.cells #[.slice none 0 0, .slice none 0 0] 31) = w1 := ⟨_, rfl⟩
  have hq1 : w1.heap[w.heap.size]? = some (.cells #[.int .u8 cols, .int .i8 c0, .int .i8 c1, .int .i8 c2, .slice sa sn sc] 71 (0, 0)) := by rw [← hw1]; exact (heap2 w _ _).1
  have hz1 : w1.heap[w.heap.size + 1]? = some (.cells #[.slice none 0 0, .slice none 0 0] 31 (0, 0)) := by rw [← hw1]; exact (heap2 w _ _).2
  have hb1 : Below w.heap.size w w1 := by rw [← hw1]; exact belowBox2 w _ _
  obtain ⟨zb, hzb⟩ : ∃ zb, w.heap.size + 1 = zb := ⟨_, rfl⟩
  obtain ⟨qb, hqb⟩ : ∃ qb, w.heap.size = qb := ⟨_, rfl⟩
  rw [hzb] at hz1
  rw [hqb] at hq1
  have hml : ((rows.take m).map (oneRow n)).length = m := by rw [List.length_map, List.length_take, h.len]; omega
  have hm3 : m ≤ 3 := by omega
  have hn3 : n ≤ 3 := by omega
  have HONE := Lib.hid (one_any cols c0 c1 c2 sa sn sc rows n m w1 (h.below hb1) hn hm)
  have HBQ := Lib.hid hq1
  have HBR := Lib.hid hz1
  have HB1 := Lib.hid hb1
  have HGZ := Lib.hid (show w.heap.size ≤ zb by omega)
  have HW1 := Lib.hid hw1
  have HZE := Lib.hid hzb
  have HQE := Lib.hid hqb
  have HCO := Lib.hid (show ∀ x, x ∈ oneCost c0 c1 c2 n → I64 x from fun y hy => by
    obtain ⟨j, _, rfl⟩ := List.mem_map.1 hy
    exact m10_I64 _)
  have HRO := Lib.hid (show ∀ x, x ∈ (rows.take m).map (oneRow n) → ((∀ y, y ∈ x.1 → I64 y) ∧ I64 x.2.1 ∧ I64 x.2.2) ∧ x.1.length = n from fun x hx => by
    obtain ⟨y, _, rfl⟩ := List.mem_map.1 hx
    exact ⟨oneRow_ok n y, oneCoef_len y n⟩)
  generalize oneCost c0 c1 c2 n = cost at HONE HCO ⊢
  generalize (rows.take m).map (oneRow n) = L at HONE HRO hml ⊢
  have HML := Lib.hid hml
  clear h hq1 hz1 hb1 hw1 hzb hqb hn hm hml
  go_enter Try.func25, Try.ntmps25
  go_upto_region 1 with fail
  (try simp only [HW1.out])
  (try simp only [HZE.out])
  (try simp only [HQE.out])
  clear HW1 HZE HQE
  have q0 := cell_of_block (j := 0) HBQ.out rfl
  have q1 := cell_of_block (j := 1) HBQ.out rfl
  have q2 := cell_of_block (j := 2) HBQ.out rfl
  have q3 := cell_of_block (j := 3) HBQ.out rfl
  have q4 := cell_of_block (j := 4) HBQ.out rfl
  go_wp2_with fail
  clear q0 q1 q2 q3 q4
  refine HONE.out.mono ?_
  rintro e w2 ⟨ca, cc, ra, rc, rs, rfl, hqb, hmq⟩
  rw [HML.out] at hqb ⊢
  have HQ := Lib.hid hqb
  have HMQ := Lib.hid hmq
  clear hqb hmq HONE
  go_upto_region 2 with fail
  have HB2 := Lib.hid (bthen HB1.out HQ.out.bel)
  replace HBR := Lib.hid ((HQ.out.bel.block zb (lt_of_block HBR.out)).trans HBR.out)
  have HQX := Lib.hid (heap_alloc_new w2 (.cells #[.slice ca n cc, .slice ra m rc] 79))
  have hal := belowBox w2 (.cells #[.slice ca n cc, .slice ra m rc] 79)
  have HNE := Lib.hid (Nat.ne_of_lt (lt_of_block HBR.out))
  replace HBR := Lib.hid ((hal.block zb (lt_of_block HBR.out)).trans HBR.out)
  replace HQ := Lib.hid (HQ.out.call hal)
  replace HB2 := Lib.hid (bthen HB2.out hal)
  clear hal HB1 HBQ
  generalize w2.heap.size = qx at HQX HNE ⊢
  generalize w2.alloc (.cells #[.slice ca n cc, .slice ra m rc] 79) = w3 at HQX HBR HQ HB2 ⊢
  have q0 := cell_of_block (j := 0) HQX.out rfl
  go_wp2_with fail
  clear q0
  refine (vof_fix ca n cc cost w3 (Sl.ofMid HQ.out.cost.mid) HQ.out.cost.len HCO.out (by omega)).mono ?_
  rintro e w4 ⟨ca', cc', cs, rfl, hcv⟩
  have hal := belowBox w4 (.cells #[.slice ca' n cc', .slice none 0 0] 31)
  have hcw := hcv.call hal
  have HBX := Lib.hid (heap_alloc_new w4 (.cells #[.slice ca' n cc', .slice none 0 0] 31))
  have HGP := Lib.hid hcv.bel.size
  have HCQ := Lib.hid hcv.q
  have HPB := Lib.hid (show PrB w3 ca' n cc' none 0 0 cs [] (w4.alloc (.cells #[.slice ca' n cc', .slice none 0 0] 31)) from
    ⟨⟨hcw.mid, hcw.len, hcw.ok, rfl, hcw.bel⟩, by simpa using Mid.nil _ _ 45 5, rfl, fun _ h => (by cases h), List.Pairwise.nil, hcw.bel⟩)
  clear hcv hal hcw
  go_upto_region 3 with fail
  generalize w4.heap.size = pb at HBX HGP ⊢
  generalize w4.alloc (.cells #[.slice ca' n cc', .slice none 0 0] 31) = w5 at HBX HPB ⊢
  go_wp2_with fail
  go_loopw [5] (fun iv wr => ∃ (k : Nat) (pa : Option Addr) (pc : Nat) (prs : List PRow), k ≤ m ∧ iv = .int .i64 k ∧ PrB w3 ca' n cc' pa k pc cs prs wr ∧ prs.map prowQ = (L.map toQ).take k ∧ wr.heap[pb]? = some (.cells #[.slice ca' n cc', .slice pa k pc] 31 (0, 0))) (fun iv _ => m - (intOf iv).toNat)
  case atStart => exact ⟨0, none, 0, [], Nat.zero_le _, rfl, HPB.out, rfl, HBX.out⟩
  case round =>
    obtain ⟨k, pa, pc, prs, hk, rfl, hpr, hmp, hbx⟩ := hrel
    replace HPB := Lib.hid hpr
    replace HBX := Lib.hid hbx
    have HMP := Lib.hid hmp
    have hqx := (hpr.bel.block qx (lt_of_block HQX.out)).trans HQX.out
    have q1 := cell_of_block (j := 1) hqx rfl
    clear hpr hmp hbx hqx
    by_cases hlt : k < m
    · obtain ⟨b, o, r, e1, e2, -, -, -, -⟩ := HQ.out.get k hlt
      have hcel : ∀ W : World, Below w3.heap.size w3 W → W.cell? ⟨qx, 1, none⟩ = some (.slice ra m rc) ∧ W.cell? ⟨b, o + k * 3, none⟩ = some (.slice r.a r.n r.c) ∧ W.cell? ⟨b, o + k * 3 + 1, none⟩ = some (.int .i64 r.kind) ∧ W.cell? ⟨b, o + k * 3 + 2, none⟩ = some (.int .i64 r.rhs) := fun W hb => by
        obtain ⟨b', o', r', e3, e4, y0, y1, y2, _⟩ := (HQ.out.call hb).get k hlt
        rw [e1] at e3
        cases e3
        rw [e2] at e4
        cases e4
        exact ⟨cell_of_block (j := 1) ((hb.block qx (lt_of_block HQX.out)).trans HQX.out) rfl, y0, y1, y2⟩
      have hlk : k < L.length := by rw [HML.out]; exact hlt
      have hrk : rs[k]? = some r := e2
      have hLk : L[k]? = some (rrowQ r) := by rw [← HMQ.out, List.getElem?_map, hrk]; rfl
      have hro := HRO.out (rrowQ r) (List.mem_of_getElem? hLk)
      have HCI := Lib.hid (show ∀ x, x ∈ r.coef → I64 x from hro.1.1)
      have HKI := Lib.hid (show I64 r.kind from hro.1.2.1)
      have HRI := Lib.hid (show I64 r.rhs from hro.1.2.2)
      have hib := HQ.out.ok r (List.mem_of_getElem? hrk)
      have HLO := Lib.hid (fun (W : World) (hb : Below w3.heap.size w3 W) => hib.call hb)
      have HLN := Lib.hid (show r.n ≤ 1000000 by have h1 := hib.len; have h2 : r.coef.length = n := hro.2; omega)
      have HTK := Lib.hid (show (L.map toQ).take (k + 1) = (L.map toQ).take k ++ [toQ (rrowQ r)] by
        rw [List.take_succ_eq_append_getElem (by rw [List.length_map]; exact hlk), List.getElem_map, (List.getElem?_eq_some_iff.1 hLk).2])
      subst e1
      have HCEL := Lib.hid hcel
      have i0 : (0 : Int) ≤ (k : Int) := by omega
      have i1 : (k : Int) < (m : Int) := by omega
      clear hcel e2 hlk hrk hLk hro hib
      go_upto_region 6 with fail
      replace HPB := Lib.hid (HPB.out.call (show Below wr.heap.size wr wr.drew from Below.drawn wr 1))
      replace HBX := Lib.hid (((show Below wr.heap.size wr wr.drew from Below.drawn wr 1).block pb (lt_of_block HBX.out)).trans HBX.out)
      refine wp_region_held_drew (S := fun W => W.cell? ⟨qx, 1, none⟩ = some (.slice (some ⟨b, o, none⟩) m rc) ∧ W.cell? ⟨b, o + k * 3, none⟩ = some (.slice r.a r.n r.c) ∧ W.cell? ⟨b, o + k * 3 + 1, none⟩ = some (.int .i64 r.kind) ∧ W.cell? ⟨b, o + k * 3 + 2, none⟩ = some (.int .i64 r.rhs)) (by kernel_rfl) (HCEL.out _ HPB.out.bel) (fun hHeld => ?_)
      generalize wr.drew = wd at HPB HBX hHeld ⊢
      have HLTW := Lib.hid HPB.out.lts
      have HLTC := Lib.hid HPB.out.ltc
      refine tk 0 (some 19) (v := ?_) rfl rfl ?_ ?_
      rotate_left
      · (intro w _; go_simp; (try with_reducible rfl))
      simp only [Act.put, stB, stZ, stS]
      refine tk 2 (some 21) (v := ?_) rfl rfl ?_ ?_
      rotate_left
      · (intro w _; go_simp; (try with_reducible rfl))
      simp only [Act.put, stB, stZ, stS]
      refine tk 3 (some 22) (v := ?_) rfl rfl ?_ ?_
      rotate_left
      · (intro w hSw; (try dsimp only at hSw); ((try obtain ⟨hS0, hS1, hS2, hS3⟩ := hSw); go_simp); (try with_reducible rfl))
      simp only [Act.put, stB, stZ, stS]
      refine tk 4 (some 23) (v := ?_) rfl rfl ?_ ?_
      rotate_left
      · (intro w _; go_simp; (try with_reducible rfl))
      simp only [Act.put, stB, stZ, stS]
      refine tk 5 (some 24) (v := ?_) rfl rfl ?_ ?_
      rotate_left
      · (intro w hSw; (try dsimp only at hSw); ((try obtain ⟨hS0, hS1, hS2, hS3⟩ := hSw); go_simp); (try with_reducible rfl))
      simp only [Act.put, stB, stZ, stS]
      refine tk 6 (some 25) (v := ?_) rfl rfl ?_ ?_
      rotate_left
      · (intro w _; go_simp; (try with_reducible rfl))
      simp only [Act.put, stB, stZ, stS]
      refine tk 7 (some 26) (v := ?_) rfl rfl ?_ ?_
      rotate_left
      · (intro w hSw; (try dsimp only at hSw); ((try obtain ⟨hS0, hS1, hS2, hS3⟩ := hSw); go_simp); (try with_reducible rfl))
      simp only [Act.put, stB, stZ, stS]
      refine tk 9 (some 28) (v := ?_) rfl rfl ?_ ?_
      rotate_left
      · (intro w _; go_simp; (try with_reducible rfl))
      simp only [Act.put, stB, stZ, stS]
      refine tk 10 (some 29) (v := ?_) rfl rfl ?_ ?_
      rotate_left
      · (intro w hSw; (try dsimp only at hSw); ((try obtain ⟨hS0, hS1, hS2, hS3⟩ := hSw); go_simp); (try with_reducible rfl))
      simp only [Act.put, stB, stZ, stS]
      refine tk 11 (some 30) (v := ?_) rfl rfl ?_ ?_
      rotate_left
      · (intro w _; go_simp; (try with_reducible rfl))
      simp only [Act.put, stB, stZ, stS]
      refine tk 12 (some 31) (v := ?_) rfl rfl ?_ ?_
      rotate_left
      · (intro w hSw; (try dsimp only at hSw); ((try obtain ⟨hS0, hS1, hS2, hS3⟩ := hSw); go_simp); (try with_reducible rfl))
      simp only [Act.put, stB, stZ, stS]
      refine tk 13 (some 32) (v := ?_) rfl rfl ?_ ?_
      rotate_left
      · (intro w _; go_simp; (try with_reducible rfl))
      simp only [Act.put, stB, stZ, stS]
      refine tk 14 (some 33) (v := ?_) rfl rfl ?_ ?_
      rotate_left
      · (intro w hSw; (try dsimp only at hSw); ((try obtain ⟨hS0, hS1, hS2, hS3⟩ := hSw); go_simp); (try with_reducible rfl))
      simp only [Act.put, stB, stZ, stS]
      refine tk 15 (some 34) (v := ?_) rfl rfl ?_ ?_
      rotate_left
      · (intro w _; go_simp; (try with_reducible rfl))
      simp only [Act.put, stB, stZ, stS]
      refine tk 16 (some 35) (v := ?_) rfl rfl ?_ ?_
      rotate_left
      · (intro w hSw; (try dsimp only at hSw); ((try obtain ⟨hS0, hS1, hS2, hS3⟩ := hSw); go_simp); (try with_reducible rfl))
      simp only [Act.put, stB, stZ, stS]
      refine tk 17 (some 36) (v := ?_) rfl rfl ?_ ?_
      rotate_left
      · (intro w _; go_simp; (try with_reducible rfl))
      simp only [Act.put, stB, stZ, stS]
      refine tk 18 (some 37) (v := ?_) rfl rfl ?_ ?_
      rotate_left
      · (intro w hSw; (try dsimp only at hSw); ((try obtain ⟨hS0, hS1, hS2, hS3⟩ := hSw); go_simp); (try with_reducible rfl))
      simp only [Act.put, stB, stZ, stS]
      refine tk 19 (some 38) (v := ?_) rfl rfl ?_ ?_
      rotate_left
      · (intro w _; go_simp; (try with_reducible rfl))
      simp only [Act.put, stB, stZ, stS]
      refine tk 20 (some 39) (v := ?_) rfl rfl ?_ ?_
      rotate_left
      · (intro w hSw; (try dsimp only at hSw); ((try obtain ⟨hS0, hS1, hS2, hS3⟩ := hSw); go_simp); (try with_reducible rfl))
      simp only [Act.put, stB, stZ, stS]
      refine wpAnyH_ready (rs := [1, 8]) (by kernel_rfl) (by simp) ?_
      refine (AllReadyH.cons (o := { dst := some 20, op := Op.load 29 (Operand.tmp 19), type := 29, pos := "law.go:95", after := #[{ on := 0, ground := Ground.data }], guard := none }) rfl (fun K hK => ?_) (AllReadyH.cons (o := { dst := some 27, op := Op.call { callee := Callee.value (Operand.func 40), args := #[Operand.tmp 26], argTypes := #[57] }, type := 28, pos := "law.go:95", after := #[{ on := 7, ground := Ground.data }], guard := none }) rfl (fun K hK => ?_) AllReadyH.nil))
      · skip
        have c1 := cell_of_block (j := 1) HBX.out rfl
        go_simp
        clear c1
        refine hK.out _ _ (hHeld) (fun hHeld2 => ?_)
        clear hK K hHeld
        rename _ => hHeld
        try simp only [Act.put, stB, stZ, stS]
        refine wpAnyH_ready (rs := [8]) (by kernel_rfl) (by simp) ?_
        refine (AllReadyH.cons (o := { dst := some 27, op := Op.call { callee := Callee.value (Operand.func 40), args := #[Operand.tmp 26], argTypes := #[57] }, type := 28, pos := "law.go:95", after := #[{ on := 7, ground := Ground.data }], guard := none }) rfl (fun K hK => ?_) AllReadyH.nil)
        go_simp
        have hlo := HLO.out wd HPB.out.bel
        refine (vof_fix r.a r.n r.c r.coef wd (Sl.ofMid hlo.mid) hlo.len HCI.out HLN.out).mono ?_
        rintro e V1 ⟨a7, c7, v7, rfl, hv⟩
        have hb := hv.bel
        have HV7 := Lib.hid (hv.rebase HPB.out.bel)
        have HA7 := Lib.hid (show ∀ z, (Value.slice a7 r.n c7).ownBlock = some z → wd.heap.size ≤ z from fun z hz => (hv.mid.lt z hz).1)
        clear hv hlo
        replace HPB := Lib.hid (HPB.out.call hb)
        replace HBX := Lib.hid ((hb.block pb (lt_of_block HBX.out)).trans HBX.out)
        have hKK := HCEL.out _ HPB.out.bel
        clear hb
        refine hK.out _ _ (hKK) (fun hHeld2 => ?_)
        clear hK K hHeld
        rename _ => hHeld
        try simp only [Act.put, stB, stZ, stS]
        refine wpAnyH_ready (rs := [21]) (by kernel_rfl) (by simp) ?_
        refine (AllReadyH.cons (o := { dst := some 40, op := Op.call { callee := Callee.value (Operand.func 33), args := #[Operand.tmp 39], argTypes := #[3] }, type := 40, pos := "law.go:95", after := #[{ on := 20, ground := Ground.data }, { on := 8, ground := Ground.chain }], guard := none }) rfl (fun K hK => ?_) AllReadyH.nil)
        go_simp
        refine (vint_any r.rhs V1 HRI.out).mono ?_
        rintro e V2 ⟨v8, rfl, ho, hq, hb⟩
        unfold Rv.val
        have HO8 := Lib.hid ho
        have HQ8 := Lib.hid hq
        replace HV7 := Lib.hid (HV7.out.call hb)
        clear ho hq
        replace HPB := Lib.hid (HPB.out.call hb)
        replace HBX := Lib.hid ((hb.block pb (lt_of_block HBX.out)).trans HBX.out)
        have hKK := HCEL.out _ HPB.out.bel
        clear hb
        refine hK.out _ _ (hKK) (fun hHeld2 => ?_)
        clear hK K hHeld
        rename _ => hHeld
        try simp only [Act.put, stB, stZ, stS]
        refine tk 22 (some 41) (v := ?_) rfl rfl ?_ ?_
        rotate_left
        · (intro w _; go_simp; (try with_reducible rfl))
        simp only [Act.put, stB, stZ, stS]
        refine wpAnyH_ready (rs := [23]) (by kernel_rfl) (by simp) ?_
        refine (AllReadyH.cons (o := { dst := some 42, op := Op.buildSlice 29 1 #[(0, Operand.tmp 41)], type := 29, pos := "law.go:95", after := #[{ on := 22, ground := Ground.data }], guard := none }) rfl (fun K hK => ?_) AllReadyH.nil)
        go_simp
        have hb := belowBox V2 (.cells #[.slice a7 r.n c7, .int .i64 r.kind, .bool v8.s, .slice v8.a v8.l v8.c, .slice v8.b v8.m v8.d] 45)
        have HBX2 := Lib.hid ((hb.block pb (lt_of_block HBX.out)).trans HBX.out)
        have HM3 := Lib.hid (HPB.out.mid.alloc (.cells #[.slice a7 r.n c7, .int .i64 r.kind, .bool v8.s, .slice v8.a v8.l v8.c, .slice v8.b v8.m v8.d] 45))
        have HS3 := Lib.hid (show Src Try.prog 5 29 (.slice (some ⟨V2.heap.size, 0, none⟩) 1 1) 1 [.slice a7 r.n c7, .int .i64 r.kind, .bool v8.s, .slice v8.a v8.l v8.c, .slice v8.b v8.m v8.d] (V2.alloc (.cells #[.slice a7 r.n c7, .int .i64 r.kind, .bool v8.s, .slice v8.a v8.l v8.c, .slice v8.b v8.m v8.d] 45)) from
          (Sl.lit V2 45 5 1 [.slice a7 r.n c7, .int .i64 r.kind, .bool v8.s, .slice v8.a v8.l v8.c, .slice v8.b v8.m v8.d] (by unfold maxLen; omega) rfl).src (P := Try.prog) Try.underlying29 (fun u hu => by
            simp only [List.mem_cons, List.not_mem_nil, or_false] at hu
            rcases hu with rfl | rfl | rfl | rfl | rfl <;> rfl))
        have HW3 := Lib.hid (show w3.heap.size ≤ (V2.alloc (.cells #[.slice a7 r.n c7, .int .i64 r.kind, .bool v8.s, .slice v8.a v8.l v8.c, .slice v8.b v8.m v8.d] 45)).heap.size by have := HPB.out.bel.size; simp; omega)
        have hKK := HCEL.out _ (bthen HPB.out.bel hb)
        clear hb
        refine hK.out _ _ (hKK) (fun hHeld2 => ?_)
        clear hK K hHeld
        rename _ => hHeld
        try simp only [Act.put, stB, stZ, stS]
        refine wpAnyH_ready (rs := [24]) (by kernel_rfl) (by simp) ?_
        refine (AllReadyH.cons (o := { dst := some 43, op := Op.call { callee := Callee.builtin Builtin.append, args := #[Operand.tmp 20, Operand.tmp 42], argTypes := #[29, 29] }, type := 29, pos := "law.go:95", after := #[{ on := 1, ground := Ground.data }, { on := 23, ground := Ground.data }, { on := 21, ground := Ground.chain }], guard := none }) rfl (fun K hK => ?_) AllReadyH.nil)
        refine step_append_mid (v := .slice pa k pc) (by rfl) _ _ 29 29 (by rfl) tp (.agg #[.slice none 0 0, .int .i64 0, .bool false, .slice none 0 0, .slice none 0 0]) 88 Try.underlying29 hp1 hp2 hp3 hp4 rfl (by rfl) HM3.out _ (by rfl) 1 _ HS3.out (by unfold maxLen; omega) (by omega) HW3.out ?_
        intro a9 c9 V4 hmo hgo hbo
        have hk := grown_keeps hgo
        have hf := Foreign.mid HPB.out.mid
        have HPX := Lib.hid (HPB.out.push (r := ⟨a7, r.n, c7, v7, r.kind, v8⟩) (show VB w3 (qs v7) a7 r.n c7 v7 V2 from ⟨HV7.out.mid, HV7.out.len, HV7.out.ok, rfl, HV7.out.bel⟩) HO8.out HKI.out (fun z hz q hq e => by have h1 := HA7.out z hz; have h2 := HLTW.out q hq z e; omega) (fun z hz e => by have h1 := HA7.out z hz; have h2 := HLTC.out z e; omega) hmo hgo)
        replace HBX := Lib.hid (hf.box hk (by decide) HBX.out)
        clear hmo hgo hbo hk hf
        dsimp only
        refine hK.out _ _ (HCEL.out _ HPX.out.bel) (fun hHeld2 => ?_)
        clear hK K hHeld
        rename _ => hHeld
        try simp only [Act.put, stB, stZ, stS]
        refine tk 25 (some 44) (v := ?_) rfl rfl ?_ ?_
        rotate_left
        · (intro w _; go_simp; (try with_reducible rfl))
        simp only [Act.put, stB, stZ, stS]
        refine wpAnyH_ready (rs := [26]) (by kernel_rfl) (by simp) ?_
        refine (AllReadyH.cons (o := { dst := none, op := Op.store 29 (Operand.tmp 44) (Operand.tmp 43), type := 0, pos := "law.go:95", after := #[{ on := 25, ground := Ground.data }, { on := 24, ground := Ground.data }, { on := 24, ground := Ground.chain }, { on := 0, ground := Ground.phase }, { on := 1, ground := Ground.phase }, { on := 2, ground := Ground.phase }, { on := 3, ground := Ground.phase }, { on := 4, ground := Ground.phase }, { on := 5, ground := Ground.phase }, { on := 6, ground := Ground.phase }, { on := 7, ground := Ground.phase }, { on := 8, ground := Ground.phase }, { on := 9, ground := Ground.phase }, { on := 10, ground := Ground.phase }, { on := 11, ground := Ground.phase }, { on := 12, ground := Ground.phase }, { on := 13, ground := Ground.phase }, { on := 14, ground := Ground.phase }, { on := 15, ground := Ground.phase }, { on := 16, ground := Ground.phase }, { on := 17, ground := Ground.phase }, { on := 18, ground := Ground.phase }, { on := 19, ground := Ground.phase }, { on := 20, ground := Ground.phase }, { on := 21, ground := Ground.phase }, { on := 22, ground := Ground.phase }, { on := 23, ground := Ground.phase }, { on := 24, ground := Ground.phase }], guard := none }) rfl (fun K hK => ?_) AllReadyH.nil)
        have c1 := cell_of_block (j := 1) HBX.out rfl
        have f1 : V4.frozen? ⟨pb, 1, none⟩ = false := free_of_block HBX.out
        go_simp
        clear c1 f1
        have hk := Keeps.setCell V4 ⟨pb, 1, none⟩ (.slice a9 (k + 1) c9) (S := fun z => z = pb) rfl
        have hf := Foreign.one HBX.out HGP.out
        have HPY := Lib.hid (HPX.out.foreign hf hk (by decide) (by decide) (by decide))
        have HBY := Lib.hid (heap_setCell_same V4 pb 1 _ _ (.slice a9 (k + 1) c9) HBX.out)
        clear hk hf
        refine hK.out _ _ (HCEL.out _ HPY.out.bel) (fun hHeld2 => ?_)
        clear hK K hHeld
        rename _ => hHeld
        try simp only [Act.put, stB, stZ, stS]
        refine wpAnyH_done (by kernel_rfl) ?_ _
        (try simp only [Exit.inBlock, Exit.then])
        clear hHeld
        go_wp2_with fail
        go_roundw
        case rel => exact ⟨k + 1, a9, c9, prs ++ [⟨a7, r.n, c7, v7, r.kind, v8⟩], by omega, by go_num, HPY.out, by rw [List.map_append, HMP.out, HTK.out]; exact congrArg (fun z => _ ++ [z]) (by show (qs v7, r.kind, v8.q) = _; rw [HV7.out.q, HQ8.out]; rfl), HBY.out⟩
        case measure => simp [intOf]; omega
      · skip
        go_simp
        have hlo := HLO.out wd HPB.out.bel
        refine (vof_fix r.a r.n r.c r.coef wd (Sl.ofMid hlo.mid) hlo.len HCI.out HLN.out).mono ?_
        rintro e V1 ⟨a7, c7, v7, rfl, hv⟩
        have hb := hv.bel
        have HV7 := Lib.hid (hv.rebase HPB.out.bel)
        have HA7 := Lib.hid (show ∀ z, (Value.slice a7 r.n c7).ownBlock = some z → wd.heap.size ≤ z from fun z hz => (hv.mid.lt z hz).1)
        clear hv hlo
        replace HPB := Lib.hid (HPB.out.call hb)
        replace HBX := Lib.hid ((hb.block pb (lt_of_block HBX.out)).trans HBX.out)
        have hKK := HCEL.out _ HPB.out.bel
        clear hb
        refine hK.out _ _ (hKK) (fun hHeld2 => ?_)
        clear hK K hHeld
        rename _ => hHeld
        try simp only [Act.put, stB, stZ, stS]
        refine wpAnyH_ready (rs := [1, 21]) (by kernel_rfl) (by simp) ?_
        refine (AllReadyH.cons (o := { dst := some 20, op := Op.load 29 (Operand.tmp 19), type := 29, pos := "law.go:95", after := #[{ on := 0, ground := Ground.data }], guard := none }) rfl (fun K hK => ?_) (AllReadyH.cons (o := { dst := some 40, op := Op.call { callee := Callee.value (Operand.func 33), args := #[Operand.tmp 39], argTypes := #[3] }, type := 40, pos := "law.go:95", after := #[{ on := 20, ground := Ground.data }, { on := 8, ground := Ground.chain }], guard := none }) rfl (fun K hK => ?_) AllReadyH.nil))
        · skip
          have c1 := cell_of_block (j := 1) HBX.out rfl
          go_simp
          clear c1
          refine hK.out _ _ (hHeld) (fun hHeld2 => ?_)
          clear hK K hHeld
          rename _ => hHeld
          try simp only [Act.put, stB, stZ, stS]
          refine wpAnyH_ready (rs := [21]) (by kernel_rfl) (by simp) ?_
          refine (AllReadyH.cons (o := { dst := some 40, op := Op.call { callee := Callee.value (Operand.func 33), args := #[Operand.tmp 39], argTypes := #[3] }, type := 40, pos := "law.go:95", after := #[{ on := 20, ground := Ground.data }, { on := 8, ground := Ground.chain }], guard := none }) rfl (fun K hK => ?_) AllReadyH.nil)
          go_simp
          refine (vint_any r.rhs V1 HRI.out).mono ?_
          rintro e V2 ⟨v8, rfl, ho, hq, hb⟩
          unfold Rv.val
          have HO8 := Lib.hid ho
          have HQ8 := Lib.hid hq
          replace HV7 := Lib.hid (HV7.out.call hb)
          clear ho hq
          replace HPB := Lib.hid (HPB.out.call hb)
          replace HBX := Lib.hid ((hb.block pb (lt_of_block HBX.out)).trans HBX.out)
          have hKK := HCEL.out _ HPB.out.bel
          clear hb
          refine hK.out _ _ (hKK) (fun hHeld2 => ?_)
          clear hK K hHeld
          rename _ => hHeld
          try simp only [Act.put, stB, stZ, stS]
          refine tk 22 (some 41) (v := ?_) rfl rfl ?_ ?_
          rotate_left
          · (intro w _; go_simp; (try with_reducible rfl))
          simp only [Act.put, stB, stZ, stS]
          refine wpAnyH_ready (rs := [23]) (by kernel_rfl) (by simp) ?_
          refine (AllReadyH.cons (o := { dst := some 42, op := Op.buildSlice 29 1 #[(0, Operand.tmp 41)], type := 29, pos := "law.go:95", after := #[{ on := 22, ground := Ground.data }], guard := none }) rfl (fun K hK => ?_) AllReadyH.nil)
          go_simp
          have hb := belowBox V2 (.cells #[.slice a7 r.n c7, .int .i64 r.kind, .bool v8.s, .slice v8.a v8.l v8.c, .slice v8.b v8.m v8.d] 45)
          have HBX2 := Lib.hid ((hb.block pb (lt_of_block HBX.out)).trans HBX.out)
          have HM3 := Lib.hid (HPB.out.mid.alloc (.cells #[.slice a7 r.n c7, .int .i64 r.kind, .bool v8.s, .slice v8.a v8.l v8.c, .slice v8.b v8.m v8.d] 45))
          have HS3 := Lib.hid (show Src Try.prog 5 29 (.slice (some ⟨V2.heap.size, 0, none⟩) 1 1) 1 [.slice a7 r.n c7, .int .i64 r.kind, .bool v8.s, .slice v8.a v8.l v8.c, .slice v8.b v8.m v8.d] (V2.alloc (.cells #[.slice a7 r.n c7, .int .i64 r.kind, .bool v8.s, .slice v8.a v8.l v8.c, .slice v8.b v8.m v8.d] 45)) from
            (Sl.lit V2 45 5 1 [.slice a7 r.n c7, .int .i64 r.kind, .bool v8.s, .slice v8.a v8.l v8.c, .slice v8.b v8.m v8.d] (by unfold maxLen; omega) rfl).src (P := Try.prog) Try.underlying29 (fun u hu => by
              simp only [List.mem_cons, List.not_mem_nil, or_false] at hu
              rcases hu with rfl | rfl | rfl | rfl | rfl <;> rfl))
          have HW3 := Lib.hid (show w3.heap.size ≤ (V2.alloc (.cells #[.slice a7 r.n c7, .int .i64 r.kind, .bool v8.s, .slice v8.a v8.l v8.c, .slice v8.b v8.m v8.d] 45)).heap.size by have := HPB.out.bel.size; simp; omega)
          have hKK := HCEL.out _ (bthen HPB.out.bel hb)
          clear hb
          refine hK.out _ _ (hKK) (fun hHeld2 => ?_)
          clear hK K hHeld
          rename _ => hHeld
          try simp only [Act.put, stB, stZ, stS]
          refine wpAnyH_ready (rs := [24]) (by kernel_rfl) (by simp) ?_
          refine (AllReadyH.cons (o := { dst := some 43, op := Op.call { callee := Callee.builtin Builtin.append, args := #[Operand.tmp 20, Operand.tmp 42], argTypes := #[29, 29] }, type := 29, pos := "law.go:95", after := #[{ on := 1, ground := Ground.data }, { on := 23, ground := Ground.data }, { on := 21, ground := Ground.chain }], guard := none }) rfl (fun K hK => ?_) AllReadyH.nil)
          refine step_append_mid (v := .slice pa k pc) (by rfl) _ _ 29 29 (by rfl) tp (.agg #[.slice none 0 0, .int .i64 0, .bool false, .slice none 0 0, .slice none 0 0]) 88 Try.underlying29 hp1 hp2 hp3 hp4 rfl (by rfl) HM3.out _ (by rfl) 1 _ HS3.out (by unfold maxLen; omega) (by omega) HW3.out ?_
          intro a9 c9 V4 hmo hgo hbo
          have hk := grown_keeps hgo
          have hf := Foreign.mid HPB.out.mid
          have HPX := Lib.hid (HPB.out.push (r := ⟨a7, r.n, c7, v7, r.kind, v8⟩) (show VB w3 (qs v7) a7 r.n c7 v7 V2 from ⟨HV7.out.mid, HV7.out.len, HV7.out.ok, rfl, HV7.out.bel⟩) HO8.out HKI.out (fun z hz q hq e => by have h1 := HA7.out z hz; have h2 := HLTW.out q hq z e; omega) (fun z hz e => by have h1 := HA7.out z hz; have h2 := HLTC.out z e; omega) hmo hgo)
          replace HBX := Lib.hid (hf.box hk (by decide) HBX.out)
          clear hmo hgo hbo hk hf
          dsimp only
          refine hK.out _ _ (HCEL.out _ HPX.out.bel) (fun hHeld2 => ?_)
          clear hK K hHeld
          rename _ => hHeld
          try simp only [Act.put, stB, stZ, stS]
          refine tk 25 (some 44) (v := ?_) rfl rfl ?_ ?_
          rotate_left
          · (intro w _; go_simp; (try with_reducible rfl))
          simp only [Act.put, stB, stZ, stS]
          refine wpAnyH_ready (rs := [26]) (by kernel_rfl) (by simp) ?_
          refine (AllReadyH.cons (o := { dst := none, op := Op.store 29 (Operand.tmp 44) (Operand.tmp 43), type := 0, pos := "law.go:95", after := #[{ on := 25, ground := Ground.data }, { on := 24, ground := Ground.data }, { on := 24, ground := Ground.chain }, { on := 0, ground := Ground.phase }, { on := 1, ground := Ground.phase }, { on := 2, ground := Ground.phase }, { on := 3, ground := Ground.phase }, { on := 4, ground := Ground.phase }, { on := 5, ground := Ground.phase }, { on := 6, ground := Ground.phase }, { on := 7, ground := Ground.phase }, { on := 8, ground := Ground.phase }, { on := 9, ground := Ground.phase }, { on := 10, ground := Ground.phase }, { on := 11, ground := Ground.phase }, { on := 12, ground := Ground.phase }, { on := 13, ground := Ground.phase }, { on := 14, ground := Ground.phase }, { on := 15, ground := Ground.phase }, { on := 16, ground := Ground.phase }, { on := 17, ground := Ground.phase }, { on := 18, ground := Ground.phase }, { on := 19, ground := Ground.phase }, { on := 20, ground := Ground.phase }, { on := 21, ground := Ground.phase }, { on := 22, ground := Ground.phase }, { on := 23, ground := Ground.phase }, { on := 24, ground := Ground.phase }], guard := none }) rfl (fun K hK => ?_) AllReadyH.nil)
          have c1 := cell_of_block (j := 1) HBX.out rfl
          have f1 : V4.frozen? ⟨pb, 1, none⟩ = false := free_of_block HBX.out
          go_simp
          clear c1 f1
          have hk := Keeps.setCell V4 ⟨pb, 1, none⟩ (.slice a9 (k + 1) c9) (S := fun z => z = pb) rfl
          have hf := Foreign.one HBX.out HGP.out
          have HPY := Lib.hid (HPX.out.foreign hf hk (by decide) (by decide) (by decide))
          have HBY := Lib.hid (heap_setCell_same V4 pb 1 _ _ (.slice a9 (k + 1) c9) HBX.out)
          clear hk hf
          refine hK.out _ _ (HCEL.out _ HPY.out.bel) (fun hHeld2 => ?_)
          clear hK K hHeld
          rename _ => hHeld
          try simp only [Act.put, stB, stZ, stS]
          refine wpAnyH_done (by kernel_rfl) ?_ _
          (try simp only [Exit.inBlock, Exit.then])
          clear hHeld
          go_wp2_with fail
          go_roundw
          case rel => exact ⟨k + 1, a9, c9, prs ++ [⟨a7, r.n, c7, v7, r.kind, v8⟩], by omega, by go_num, HPY.out, by rw [List.map_append, HMP.out, HTK.out]; exact congrArg (fun z => _ ++ [z]) (by show (qs v7, r.kind, v8.q) = _; rw [HV7.out.q, HQ8.out]; rfl), HBY.out⟩
          case measure => simp [intOf]; omega
        · skip
          go_simp
          refine (vint_any r.rhs V1 HRI.out).mono ?_
          rintro e V2 ⟨v8, rfl, ho, hq, hb⟩
          unfold Rv.val
          have HO8 := Lib.hid ho
          have HQ8 := Lib.hid hq
          replace HV7 := Lib.hid (HV7.out.call hb)
          clear ho hq
          replace HPB := Lib.hid (HPB.out.call hb)
          replace HBX := Lib.hid ((hb.block pb (lt_of_block HBX.out)).trans HBX.out)
          have hKK := HCEL.out _ HPB.out.bel
          clear hb
          refine hK.out _ _ (hKK) (fun hHeld2 => ?_)
          clear hK K hHeld
          rename _ => hHeld
          try simp only [Act.put, stB, stZ, stS]
          refine tk 22 (some 41) (v := ?_) rfl rfl ?_ ?_
          rotate_left
          · (intro w _; go_simp; (try with_reducible rfl))
          simp only [Act.put, stB, stZ, stS]
          refine wpAnyH_ready (rs := [1, 23]) (by kernel_rfl) (by simp) ?_
          refine (AllReadyH.cons (o := { dst := some 20, op := Op.load 29 (Operand.tmp 19), type := 29, pos := "law.go:95", after := #[{ on := 0, ground := Ground.data }], guard := none }) rfl (fun K hK => ?_) (AllReadyH.cons (o := { dst := some 42, op := Op.buildSlice 29 1 #[(0, Operand.tmp 41)], type := 29, pos := "law.go:95", after := #[{ on := 22, ground := Ground.data }], guard := none }) rfl (fun K hK => ?_) AllReadyH.nil))
          · skip
            have c1 := cell_of_block (j := 1) HBX.out rfl
            go_simp
            clear c1
            refine hK.out _ _ (hHeld) (fun hHeld2 => ?_)
            clear hK K hHeld
            rename _ => hHeld
            try simp only [Act.put, stB, stZ, stS]
            refine wpAnyH_ready (rs := [23]) (by kernel_rfl) (by simp) ?_
            refine (AllReadyH.cons (o := { dst := some 42, op := Op.buildSlice 29 1 #[(0, Operand.tmp 41)], type := 29, pos := "law.go:95", after := #[{ on := 22, ground := Ground.data }], guard := none }) rfl (fun K hK => ?_) AllReadyH.nil)
            go_simp
            have hb := belowBox V2 (.cells #[.slice a7 r.n c7, .int .i64 r.kind, .bool v8.s, .slice v8.a v8.l v8.c, .slice v8.b v8.m v8.d] 45)
            have HBX2 := Lib.hid ((hb.block pb (lt_of_block HBX.out)).trans HBX.out)
            have HM3 := Lib.hid (HPB.out.mid.alloc (.cells #[.slice a7 r.n c7, .int .i64 r.kind, .bool v8.s, .slice v8.a v8.l v8.c, .slice v8.b v8.m v8.d] 45))
            have HS3 := Lib.hid (show Src Try.prog 5 29 (.slice (some ⟨V2.heap.size, 0, none⟩) 1 1) 1 [.slice a7 r.n c7, .int .i64 r.kind, .bool v8.s, .slice v8.a v8.l v8.c, .slice v8.b v8.m v8.d] (V2.alloc (.cells #[.slice a7 r.n c7, .int .i64 r.kind, .bool v8.s, .slice v8.a v8.l v8.c, .slice v8.b v8.m v8.d] 45)) from
              (Sl.lit V2 45 5 1 [.slice a7 r.n c7, .int .i64 r.kind, .bool v8.s, .slice v8.a v8.l v8.c, .slice v8.b v8.m v8.d] (by unfold maxLen; omega) rfl).src (P := Try.prog) Try.underlying29 (fun u hu => by
                simp only [List.mem_cons, List.not_mem_nil, or_false] at hu
                rcases hu with rfl | rfl | rfl | rfl | rfl <;> rfl))
            have HW3 := Lib.hid (show w3.heap.size ≤ (V2.alloc (.cells #[.slice a7 r.n c7, .int .i64 r.kind, .bool v8.s, .slice v8.a v8.l v8.c, .slice v8.b v8.m v8.d] 45)).heap.size by have := HPB.out.bel.size; simp; omega)
            have hKK := HCEL.out _ (bthen HPB.out.bel hb)
            clear hb
            refine hK.out _ _ (hKK) (fun hHeld2 => ?_)
            clear hK K hHeld
            rename _ => hHeld
            try simp only [Act.put, stB, stZ, stS]
            refine wpAnyH_ready (rs := [24]) (by kernel_rfl) (by simp) ?_
            refine (AllReadyH.cons (o := { dst := some 43, op := Op.call { callee := Callee.builtin Builtin.append, args := #[Operand.tmp 20, Operand.tmp 42], argTypes := #[29, 29] }, type := 29, pos := "law.go:95", after := #[{ on := 1, ground := Ground.data }, { on := 23, ground := Ground.data }, { on := 21, ground := Ground.chain }], guard := none }) rfl (fun K hK => ?_) AllReadyH.nil)
            refine step_append_mid (v := .slice pa k pc) (by rfl) _ _ 29 29 (by rfl) tp (.agg #[.slice none 0 0, .int .i64 0, .bool false, .slice none 0 0, .slice none 0 0]) 88 Try.underlying29 hp1 hp2 hp3 hp4 rfl (by rfl) HM3.out _ (by rfl) 1 _ HS3.out (by unfold maxLen; omega) (by omega) HW3.out ?_
            intro a9 c9 V4 hmo hgo hbo
            have hk := grown_keeps hgo
            have hf := Foreign.mid HPB.out.mid
            have HPX := Lib.hid (HPB.out.push (r := ⟨a7, r.n, c7, v7, r.kind, v8⟩) (show VB w3 (qs v7) a7 r.n c7 v7 V2 from ⟨HV7.out.mid, HV7.out.len, HV7.out.ok, rfl, HV7.out.bel⟩) HO8.out HKI.out (fun z hz q hq e => by have h1 := HA7.out z hz; have h2 := HLTW.out q hq z e; omega) (fun z hz e => by have h1 := HA7.out z hz; have h2 := HLTC.out z e; omega) hmo hgo)
            replace HBX := Lib.hid (hf.box hk (by decide) HBX.out)
            clear hmo hgo hbo hk hf
            dsimp only
            refine hK.out _ _ (HCEL.out _ HPX.out.bel) (fun hHeld2 => ?_)
            clear hK K hHeld
            rename _ => hHeld
            try simp only [Act.put, stB, stZ, stS]
            refine tk 25 (some 44) (v := ?_) rfl rfl ?_ ?_
            rotate_left
            · (intro w _; go_simp; (try with_reducible rfl))
            simp only [Act.put, stB, stZ, stS]
            refine wpAnyH_ready (rs := [26]) (by kernel_rfl) (by simp) ?_
            refine (AllReadyH.cons (o := { dst := none, op := Op.store 29 (Operand.tmp 44) (Operand.tmp 43), type := 0, pos := "law.go:95", after := #[{ on := 25, ground := Ground.data }, { on := 24, ground := Ground.data }, { on := 24, ground := Ground.chain }, { on := 0, ground := Ground.phase }, { on := 1, ground := Ground.phase }, { on := 2, ground := Ground.phase }, { on := 3, ground := Ground.phase }, { on := 4, ground := Ground.phase }, { on := 5, ground := Ground.phase }, { on := 6, ground := Ground.phase }, { on := 7, ground := Ground.phase }, { on := 8, ground := Ground.phase }, { on := 9, ground := Ground.phase }, { on := 10, ground := Ground.phase }, { on := 11, ground := Ground.phase }, { on := 12, ground := Ground.phase }, { on := 13, ground := Ground.phase }, { on := 14, ground := Ground.phase }, { on := 15, ground := Ground.phase }, { on := 16, ground := Ground.phase }, { on := 17, ground := Ground.phase }, { on := 18, ground := Ground.phase }, { on := 19, ground := Ground.phase }, { on := 20, ground := Ground.phase }, { on := 21, ground := Ground.phase }, { on := 22, ground := Ground.phase }, { on := 23, ground := Ground.phase }, { on := 24, ground := Ground.phase }], guard := none }) rfl (fun K hK => ?_) AllReadyH.nil)
            have c1 := cell_of_block (j := 1) HBX.out rfl
            have f1 : V4.frozen? ⟨pb, 1, none⟩ = false := free_of_block HBX.out
            go_simp
            clear c1 f1
            have hk := Keeps.setCell V4 ⟨pb, 1, none⟩ (.slice a9 (k + 1) c9) (S := fun z => z = pb) rfl
            have hf := Foreign.one HBX.out HGP.out
            have HPY := Lib.hid (HPX.out.foreign hf hk (by decide) (by decide) (by decide))
            have HBY := Lib.hid (heap_setCell_same V4 pb 1 _ _ (.slice a9 (k + 1) c9) HBX.out)
            clear hk hf
            refine hK.out _ _ (HCEL.out _ HPY.out.bel) (fun hHeld2 => ?_)
            clear hK K hHeld
            rename _ => hHeld
            try simp only [Act.put, stB, stZ, stS]
            refine wpAnyH_done (by kernel_rfl) ?_ _
            (try simp only [Exit.inBlock, Exit.then])
            clear hHeld
            go_wp2_with fail
            go_roundw
            case rel => exact ⟨k + 1, a9, c9, prs ++ [⟨a7, r.n, c7, v7, r.kind, v8⟩], by omega, by go_num, HPY.out, by rw [List.map_append, HMP.out, HTK.out]; exact congrArg (fun z => _ ++ [z]) (by show (qs v7, r.kind, v8.q) = _; rw [HV7.out.q, HQ8.out]; rfl), HBY.out⟩
            case measure => simp [intOf]; omega
          · skip
            go_simp
            have hb := belowBox V2 (.cells #[.slice a7 r.n c7, .int .i64 r.kind, .bool v8.s, .slice v8.a v8.l v8.c, .slice v8.b v8.m v8.d] 45)
            have HBX2 := Lib.hid ((hb.block pb (lt_of_block HBX.out)).trans HBX.out)
            have HM3 := Lib.hid (HPB.out.mid.alloc (.cells #[.slice a7 r.n c7, .int .i64 r.kind, .bool v8.s, .slice v8.a v8.l v8.c, .slice v8.b v8.m v8.d] 45))
            have HS3 := Lib.hid (show Src Try.prog 5 29 (.slice (some ⟨V2.heap.size, 0, none⟩) 1 1) 1 [.slice a7 r.n c7, .int .i64 r.kind, .bool v8.s, .slice v8.a v8.l v8.c, .slice v8.b v8.m v8.d] (V2.alloc (.cells #[.slice a7 r.n c7, .int .i64 r.kind, .bool v8.s, .slice v8.a v8.l v8.c, .slice v8.b v8.m v8.d] 45)) from
              (Sl.lit V2 45 5 1 [.slice a7 r.n c7, .int .i64 r.kind, .bool v8.s, .slice v8.a v8.l v8.c, .slice v8.b v8.m v8.d] (by unfold maxLen; omega) rfl).src (P := Try.prog) Try.underlying29 (fun u hu => by
                simp only [List.mem_cons, List.not_mem_nil, or_false] at hu
                rcases hu with rfl | rfl | rfl | rfl | rfl <;> rfl))
            have HW3 := Lib.hid (show w3.heap.size ≤ (V2.alloc (.cells #[.slice a7 r.n c7, .int .i64 r.kind, .bool v8.s, .slice v8.a v8.l v8.c, .slice v8.b v8.m v8.d] 45)).heap.size by have := HPB.out.bel.size; simp; omega)
            have hKK := HCEL.out _ (bthen HPB.out.bel hb)
            clear hb
            refine hK.out _ _ (hKK) (fun hHeld2 => ?_)
            clear hK K hHeld
            rename _ => hHeld
            try simp only [Act.put, stB, stZ, stS]
            refine wpAnyH_ready (rs := [1]) (by kernel_rfl) (by simp) ?_
            refine (AllReadyH.cons (o := { dst := some 20, op := Op.load 29 (Operand.tmp 19), type := 29, pos := "law.go:95", after := #[{ on := 0, ground := Ground.data }], guard := none }) rfl (fun K hK => ?_) AllReadyH.nil)
            have c1 := cell_of_block (j := 1) HBX2.out rfl
            go_simp
            clear c1
            refine hK.out _ _ (hHeld) (fun hHeld2 => ?_)
            clear hK K hHeld
            rename _ => hHeld
            try simp only [Act.put, stB, stZ, stS]
            refine wpAnyH_ready (rs := [24]) (by kernel_rfl) (by simp) ?_
            refine (AllReadyH.cons (o := { dst := some 43, op := Op.call { callee := Callee.builtin Builtin.append, args := #[Operand.tmp 20, Operand.tmp 42], argTypes := #[29, 29] }, type := 29, pos := "law.go:95", after := #[{ on := 1, ground := Ground.data }, { on := 23, ground := Ground.data }, { on := 21, ground := Ground.chain }], guard := none }) rfl (fun K hK => ?_) AllReadyH.nil)
            refine step_append_mid (v := .slice pa k pc) (by rfl) _ _ 29 29 (by rfl) tp (.agg #[.slice none 0 0, .int .i64 0, .bool false, .slice none 0 0, .slice none 0 0]) 88 Try.underlying29 hp1 hp2 hp3 hp4 rfl (by rfl) HM3.out _ (by rfl) 1 _ HS3.out (by unfold maxLen; omega) (by omega) HW3.out ?_
            intro a9 c9 V4 hmo hgo hbo
            have hk := grown_keeps hgo
            have hf := Foreign.mid HPB.out.mid
            have HPX := Lib.hid (HPB.out.push (r := ⟨a7, r.n, c7, v7, r.kind, v8⟩) (show VB w3 (qs v7) a7 r.n c7 v7 V2 from ⟨HV7.out.mid, HV7.out.len, HV7.out.ok, rfl, HV7.out.bel⟩) HO8.out HKI.out (fun z hz q hq e => by have h1 := HA7.out z hz; have h2 := HLTW.out q hq z e; omega) (fun z hz e => by have h1 := HA7.out z hz; have h2 := HLTC.out z e; omega) hmo hgo)
            replace HBX := Lib.hid (hf.box hk (by decide) HBX.out)
            clear hmo hgo hbo hk hf
            dsimp only
            refine hK.out _ _ (HCEL.out _ HPX.out.bel) (fun hHeld2 => ?_)
            clear hK K hHeld
            rename _ => hHeld
            try simp only [Act.put, stB, stZ, stS]
            refine tk 25 (some 44) (v := ?_) rfl rfl ?_ ?_
            rotate_left
            · (intro w _; go_simp; (try with_reducible rfl))
            simp only [Act.put, stB, stZ, stS]
            refine wpAnyH_ready (rs := [26]) (by kernel_rfl) (by simp) ?_
            refine (AllReadyH.cons (o := { dst := none, op := Op.store 29 (Operand.tmp 44) (Operand.tmp 43), type := 0, pos := "law.go:95", after := #[{ on := 25, ground := Ground.data }, { on := 24, ground := Ground.data }, { on := 24, ground := Ground.chain }, { on := 0, ground := Ground.phase }, { on := 1, ground := Ground.phase }, { on := 2, ground := Ground.phase }, { on := 3, ground := Ground.phase }, { on := 4, ground := Ground.phase }, { on := 5, ground := Ground.phase }, { on := 6, ground := Ground.phase }, { on := 7, ground := Ground.phase }, { on := 8, ground := Ground.phase }, { on := 9, ground := Ground.phase }, { on := 10, ground := Ground.phase }, { on := 11, ground := Ground.phase }, { on := 12, ground := Ground.phase }, { on := 13, ground := Ground.phase }, { on := 14, ground := Ground.phase }, { on := 15, ground := Ground.phase }, { on := 16, ground := Ground.phase }, { on := 17, ground := Ground.phase }, { on := 18, ground := Ground.phase }, { on := 19, ground := Ground.phase }, { on := 20, ground := Ground.phase }, { on := 21, ground := Ground.phase }, { on := 22, ground := Ground.phase }, { on := 23, ground := Ground.phase }, { on := 24, ground := Ground.phase }], guard := none }) rfl (fun K hK => ?_) AllReadyH.nil)
            have c1 := cell_of_block (j := 1) HBX.out rfl
            have f1 : V4.frozen? ⟨pb, 1, none⟩ = false := free_of_block HBX.out
            go_simp
            clear c1 f1
            have hk := Keeps.setCell V4 ⟨pb, 1, none⟩ (.slice a9 (k + 1) c9) (S := fun z => z = pb) rfl
            have hf := Foreign.one HBX.out HGP.out
            have HPY := Lib.hid (HPX.out.foreign hf hk (by decide) (by decide) (by decide))
            have HBY := Lib.hid (heap_setCell_same V4 pb 1 _ _ (.slice a9 (k + 1) c9) HBX.out)
            clear hk hf
            refine hK.out _ _ (HCEL.out _ HPY.out.bel) (fun hHeld2 => ?_)
            clear hK K hHeld
            rename _ => hHeld
            try simp only [Act.put, stB, stZ, stS]
            refine wpAnyH_done (by kernel_rfl) ?_ _
            (try simp only [Exit.inBlock, Exit.then])
            clear hHeld
            go_wp2_with fail
            go_roundw
            case rel => exact ⟨k + 1, a9, c9, prs ++ [⟨a7, r.n, c7, v7, r.kind, v8⟩], by omega, by go_num, HPY.out, by rw [List.map_append, HMP.out, HTK.out]; exact congrArg (fun z => _ ++ [z]) (by show (qs v7, r.kind, v8.q) = _; rw [HV7.out.q, HQ8.out]; rfl), HBY.out⟩
            case measure => simp [intOf]; omega
    · obtain rfl : k = m := by omega
      have hmp := HMP.out
      rw [List.take_of_length_le (by rw [List.length_map, HML.out]; exact Nat.le_refl _)] at hmp
      replace HMP := Lib.hid hmp
      have hbr := (HPB.out.bel.block zb (lt_of_block HBR.out)).trans HBR.out
      have HBZ := Lib.hid hbr
      have m0 := cell_of_block (j := 0) HBX.out rfl
      have m1 := cell_of_block (j := 1) HBX.out rfl
      have r0 := cell_of_block (j := 0) hbr rfl
      have r1 := cell_of_block (j := 1) hbr rfl
      have f0 : wr.frozen? ⟨zb, 0, none⟩ = false := free_of_block hbr
      have f1 : wr.frozen? ⟨zb, 1, none⟩ = false := free_of_block hbr
      clear hmp hbr
      go_wp2_with fail
      have s1 := heap_setCell_same wr zb 0 _ _ (.slice ca' n cc') HBZ.out
      have s2 := heap_setCell_same _ zb 1 _ _ (.slice pa k pc) s1
      have j0 := cell_of_block (j := 0) s2 rfl
      have j1 := cell_of_block (j := 1) s2 rfl
      refine bodyPost_ret (v := .agg #[.slice ca' n cc', .slice pa k pc]) (by simp [results, Try.results25, go_sem, j0, j1]) rfl ?_
      have hk2 := (Keeps.setCell wr ⟨zb, 0, none⟩ (.slice ca' n cc') (S := fun z => z = zb) rfl).trans (Keeps.setCell _ ⟨zb, 1, none⟩ (.slice pa k pc) (S := fun z => z = zb) rfl) fun _ _ h => h
      unfold SameR
      rw [HML.out]
      exact ⟨ca', cc', pa, pc, cs, prs, rfl, (HPB.out.rebase HB2.out).foreign (Foreign.one HBZ.out HGZ.out) hk2 (by decide) (by decide) (by decide), HCQ.out, HMP.out⟩
end Go.Proofs.Ytndndfobkbeolaa
namespace Go.Proofs.Ytndndfobkbeolaa
open Go.RowKit Go.Extern.Stop Go.Stop Go.Extern
structure IS where
  xs : List Int
  a : Option Addr
  n : Nat
  c : Nat
def IS.v (p : IS) : Value := .slice p.a p.n p.c
def IS.cell (p : IS) : List Value := [p.v]
def IS.ib (p : IS) (w0 W : World) : Prop := IB w0 p.xs p.a p.n p.c W
def IApart (p q : IS) : Prop := ∀ z, p.v.ownBlock = some z → q.v.ownBlock ≠ some z
theorem IApart.symm {p q : IS} (h : IApart p q) : IApart q p := fun z h1 h2 => h z h2 h1
structure OwnI (w0 W : World) (ps : List IS) : Prop where
  ib : ∀ p, p ∈ ps → p.ib w0 W
  nod : ps.Pairwise IApart
section
variable {w0 W W' : World} {ps : List IS}
theorem OwnI.get (h : OwnI w0 W ps) (i : Nat) (hi : i < ps.length) : ps[i].ib w0 W := h.ib _ (List.getElem_mem hi)
theorem OwnI.apart (h : OwnI w0 W ps) (i j : Nat) (hi : i < ps.length) (hj : j < ps.length) (hne : i ≠ j) : IApart ps[i] ps[j] := by
  have hp := List.pairwise_iff_getElem.1 h.nod
  rcases Nat.lt_or_gt_of_ne hne with hlt | hgt
  · exact hp i j hi hj hlt
  · exact (hp j i hj hi hgt).symm
theorem IS.ib.lt {p : IS} (h : p.ib w0 W) (z : Nat) (hz : p.v.ownBlock = some z) : w0.heap.size ≤ z ∧ z < W.heap.size := h.mid.lt z hz
theorem IS.ib.keeps {p : IS} {S : Nat → Prop} (h : p.ib w0 W) (hk : Keeps W W' S) (hs : ∀ z, p.v.ownBlock = some z → ¬ S z) (hg : ∀ z, S z → w0.heap.size ≤ z) : p.ib w0 W' := ⟨h.mid.keeps hk hs, h.len, h.bel.trans (hk.below h.bel.size hg)⟩
theorem OwnI.call (h : OwnI w0 W ps) (hb : Below W.heap.size W W') : OwnI w0 W' ps := ⟨fun p hp => IB.call (h.ib p hp) hb, h.nod⟩
theorem OwnI.foreign {U : TypeId} {S : Nat → Prop} (h : OwnI w0 W ps) (hf : Foreign W w0.heap.size U S) (hk : Keeps W W' S) (h1 : 3 ≠ U) : OwnI w0 W' ps := ⟨fun p hp => IB.foreign (h.ib p hp) hf hk h1, h.nod⟩
theorem OwnI.rebase {w1 : World} (h : OwnI w1 W ps) (hb : Below w0.heap.size w0 w1) : OwnI w0 W ps := ⟨fun p hp => IB.rebase (h.ib p hp) hb, h.nod⟩
theorem OwnI.set (h : OwnI w0 W ps) (i : Nat) (hi : i < ps.length) (p' : IS) (hk : Keeps W W' (fun z => ps[i].v.ownBlock = some z)) (hm : p'.ib w0 W') (hb : ∀ z, p'.v.ownBlock = some z → ps[i].v.ownBlock = some z ∨ W.heap.size ≤ z) : OwnI w0 W' (ps.set i p') := by
  have hg : ∀ z, ps[i].v.ownBlock = some z → w0.heap.size ≤ z := fun z hz => ((h.get i hi).lt z hz).1
  have hap : ∀ (j : Nat) (hj : j < ps.length), j ≠ i → ps[j].ib w0 W' ∧ IApart p' ps[j] := fun j hj hne => by
    have hij := h.apart i j hi hj fun e => hne e.symm
    refine ⟨(h.get j hj).keeps hk (fun z hv hi' => hij z hi' hv) hg, fun z h1 h2 => ?_⟩
    rcases hb z h1 with h3 | h3
    · exact hij z h3 h2
    · have := ((h.get j hj).lt z h2).2; omega
  refine ⟨fun p hp => ?_, List.pairwise_iff_getElem.2 fun a b ha hb' hab => ?_⟩
  · obtain ⟨j, hj, rfl⟩ := List.mem_iff_getElem.1 hp
    rw [List.length_set] at hj
    rw [List.getElem_set]
    split
    · exact hm
    · rename_i hne; exact (hap j hj fun e => hne e.symm).1
  · rw [List.length_set] at ha hb'
    rw [List.getElem_set, List.getElem_set]
    split
    · rename_i ea
      split
      · omega
      · rename_i eb; exact (hap b hb' fun e => eb e.symm).2
    · rename_i ea
      split
      · rename_i eb; exact (hap a ha fun e => ea e.symm).2.symm
      · exact h.apart a b ha hb' (by omega)
theorem OwnI.push (h : OwnI w0 W ps) (hb : Below W.heap.size W W') (p' : IS) (hm : p'.ib w0 W') (hn : ∀ z, p'.v.ownBlock = some z → W.heap.size ≤ z) : OwnI w0 W' (ps ++ [p']) := by
  have h' := h.call hb
  refine ⟨fun p hp => ?_, List.pairwise_append.2 ⟨h'.nod, List.pairwise_singleton _ _, fun x hx y hy => ?_⟩⟩
  · rcases List.mem_append.1 hp with hp | hp
    · exact h'.ib p hp
    · rw [List.mem_singleton.1 hp]; exact hm
  · rw [List.mem_singleton.1 hy]
    exact fun z h1 h2 => by have := ((h.ib x hx).lt z h1).2; have := hn z h2; omega
theorem OwnI.app (h : OwnI w0 W ps) (i : Nat) (hi : i < ps.length) {ob : Obj} {a' : Option Addr} {c' m : Nat} (L : List Int) (hl : L.length = m)
    (hm : Mid W' w0.heap.size 3 1 (.slice a' (ps[i].n + m) c') (ps[i].n + m) (ps[i].xs.map IV ++ L.map IV)) (hg : (W.alloc ob).grownBy W' ps[i].v.ownBlock)
    (hb : (Value.slice a' (ps[i].n + m) c').ownBlock = ps[i].v.ownBlock ∨ (Value.slice a' (ps[i].n + m) c').ownBlock = some (W.alloc ob).heap.size) : OwnI w0 W' (ps.set i ⟨ps[i].xs ++ L, a', ps[i].n + m, c'⟩) := by
  have hk := grown_keeps hg
  refine h.set i hi _ hk ⟨?_, ?_, (h.get i hi).bel.trans (hk.below (h.get i hi).bel.size fun z hz => ((h.get i hi).lt z hz).1)⟩ fun z hz => ?_
  · simpa using hm
  · show (ps[i].xs ++ L).length = ps[i].n + m
    rw [List.length_append, (h.get i hi).len, hl]
  · have hz' : (Value.slice a' (ps[i].n + m) c').ownBlock = some z := hz
    rcases hb with e | e
    · exact .inl (e ▸ hz')
    · rw [e] at hz'
      cases hz'
      exact .inr (by simp)
end
def slackOf (k : Nat) (kind : Int) (r : Nat) : Int := if r = k then 3 - 2 * kind else 0
def tabI (q : List (List Int × Int × Int)) : Nat → List (List Int)
  | 0 => q.map (·.1)
  | k + 1 => match q[k]? with
    | none => tabI q k
    | some x => if x.2.1 = 3 then tabI q k else (tabI q k).mapIdx fun r l => l ++ [slackOf k x.2.1 r]
def tabC (cost : List Int) (q : List (List Int × Int × Int)) : Nat → List Int
  | 0 => cost
  | k + 1 => match q[k]? with
    | none => tabC cost q k
    | some x => if x.2.1 = 3 then tabC cost q k else tabC cost q k ++ [0]
def tabB (q : List (List Int × Int × Int)) : List Int := q.map (·.2.2)
theorem tabI_len (q : List (List Int × Int × Int)) : ∀ k, (tabI q k).length = q.length
  | 0 => by simp [tabI]
  | k + 1 => by
    unfold tabI
    split
    · exact tabI_len q k
    · split
      · exact tabI_len q k
      · rw [List.length_mapIdx]; exact tabI_len q k
theorem tabC_len (cost : List Int) (q : List (List Int × Int × Int)) : ∀ k, (tabC cost q k).length ≤ cost.length + k
  | 0 => by simp [tabC]
  | k + 1 => by
    have := tabC_len cost q k
    unfold tabC
    split
    · omega
    · split
      · omega
      · rw [List.length_append]; simp; omega
theorem tabI_cols (n : Nat) (cost : List Int) (q : List (List Int × Int × Int)) (hc : cost.length = n) (hq : ∀ x, x ∈ q → x.1.length = n) : ∀ k, ∀ l, l ∈ tabI q k → l.length = (tabC cost q k).length
  | 0 => fun l hl => by
    obtain ⟨x, hx, rfl⟩ := List.mem_map.1 hl
    rw [hq x hx, ← hc]; rfl
  | k + 1 => fun l hl => by
    have ih := tabI_cols n cost q hc hq k
    unfold tabI at hl
    unfold tabC
    split at hl
    · exact ih l hl
    · split at hl
      · rename_i h3; simp only [h3, if_true]; exact ih l hl
      · rename_i h3
        simp only [h3, if_false]
        obtain ⟨i, hi, rfl⟩ := List.mem_mapIdx.1 hl
        rw [List.length_append, List.length_append, ih _ (List.getElem_mem hi)]
        rfl
end Go.Proofs.Ytndndfobkbeolaa
namespace Go.Proofs.Ytndndfobkbeolaa
open Go.RowKit Go.Extern.Stop Go.Stop Go.Extern
structure TX (w0 W : World) (sb zb : Nat) (sc zc : Array Value) (aa : Option Addr) (an ac : Nat) (B C : IS) (A : List IS) : Prop where
  own : OwnI w0 W (B :: C :: A)
  mid : Mid W w0.heap.size 57 1 (.slice aa an ac) an (A.flatMap IS.cell)
  len : A.length = an
  sbx : W.heap[sb]? = some (.cells sc 79 (0, 0))
  zbx : W.heap[zb]? = some (.cells zc 75 (0, 0))
  bel : Below w0.heap.size w0 W
section
variable {w0 W W' : World} {sb zb : Nat} {sc zc : Array Value} {aa : Option Addr} {an ac : Nat} {B C : IS} {A : List IS}
theorem TX.call (h : TX w0 W sb zb sc zc aa an ac B C A) (hb : Below W.heap.size W W') : TX w0 W' sb zb sc zc aa an ac B C A :=
  ⟨h.own.call hb, mid_under h.mid hb, h.len, (hb.block sb (lt_of_block h.sbx)).trans h.sbx, (hb.block zb (lt_of_block h.zbx)).trans h.zbx, bthen h.bel hb⟩
theorem TX.store (h : TX w0 W sb zb sc zc aa an ac B C A) {pb : Nat} {cs : Array Value} (hp : W.heap[pb]? = some (.cells cs 75 (0, 0))) (hg : w0.heap.size ≤ pb) (hn : ¬ zb = pb) (j : Nat) (u : Value) : TX w0 (W.setCell ⟨pb, j, none⟩ u) sb zb sc zc aa an ac B C A := by
  have hk := Keeps.setCell W ⟨pb, j, none⟩ u (S := fun z => z = pb) rfl
  have hf := Foreign.one hp hg
  exact ⟨h.own.foreign hf hk (by decide), hf.mids hk (by decide) h.mid, h.len, hf.box hk (by decide) h.sbx, (hk.block zb (lt_of_block h.zbx) hn).trans h.zbx, h.bel.trans (hk.below h.bel.size fun z hz => hz ▸ hg)⟩
theorem TX.app (h : TX w0 W sb zb sc zc aa an ac B C A) (i : Nat) (hi : i < (B :: C :: A).length) {ob : Obj} {a' : Option Addr} {c' m : Nat} (L : List Int) (hl : L.length = m)
    (hm : Mid W' w0.heap.size 3 1 (.slice a' ((B :: C :: A)[i].n + m) c') ((B :: C :: A)[i].n + m) ((B :: C :: A)[i].xs.map IV ++ L.map IV)) (hg : (W.alloc ob).grownBy W' (B :: C :: A)[i].v.ownBlock)
    (hb : (Value.slice a' ((B :: C :: A)[i].n + m) c').ownBlock = (B :: C :: A)[i].v.ownBlock ∨ (Value.slice a' ((B :: C :: A)[i].n + m) c').ownBlock = some (W.alloc ob).heap.size) :
    OwnI w0 W' ((B :: C :: A).set i ⟨(B :: C :: A)[i].xs ++ L, a', (B :: C :: A)[i].n + m, c'⟩) ∧ Mid W' w0.heap.size 57 1 (.slice aa an ac) an (A.flatMap IS.cell) ∧ W'.heap[sb]? = some (.cells sc 79 (0, 0)) ∧ W'.heap[zb]? = some (.cells zc 75 (0, 0)) ∧ Below w0.heap.size w0 W' ∧ ∀ (pb : Nat) (cs : Array Value), W.heap[pb]? = some (.cells cs 75 (0, 0)) → W'.heap[pb]? = some (.cells cs 75 (0, 0)) := by
  have hk := grown_keeps hg
  have hib := h.own.get i hi
  have hf : Foreign W w0.heap.size 3 (fun z => (B :: C :: A)[i].v.ownBlock = some z) := Foreign.mid hib.mid
  exact ⟨h.own.app i hi L hl hm hg hb, hf.mids hk (by decide) h.mid, hf.box hk (by decide) h.sbx, hf.box hk (by decide) h.zbx, h.bel.trans (hk.below h.bel.size fun z hz => (hib.lt z hz).1), fun pb cs hp => hf.box hk (by decide) hp⟩
theorem TX.appB (h : TX w0 W sb zb sc zc aa an ac B C A) {ob : Obj} {a' : Option Addr} {c' m : Nat} (L : List Int) (hl : L.length = m)
    (hm : Mid W' w0.heap.size 3 1 (.slice a' (B.n + m) c') (B.n + m) (B.xs.map IV ++ L.map IV)) (hg : (W.alloc ob).grownBy W' B.v.ownBlock) (hb : (Value.slice a' (B.n + m) c').ownBlock = B.v.ownBlock ∨ (Value.slice a' (B.n + m) c').ownBlock = some (W.alloc ob).heap.size) :
    TX w0 W' sb zb sc zc aa an ac ⟨B.xs ++ L, a', B.n + m, c'⟩ C A ∧ ∀ (pb : Nat) (cs : Array Value), W.heap[pb]? = some (.cells cs 75 (0, 0)) → W'.heap[pb]? = some (.cells cs 75 (0, 0)) :=
  have ⟨h1, h2, h3, h4, h5, h6⟩ := h.app 0 (by simp) L hl hm hg hb
  ⟨⟨h1, h2, h.len, h3, h4, h5⟩, h6⟩
theorem TX.appC (h : TX w0 W sb zb sc zc aa an ac B C A) {ob : Obj} {a' : Option Addr} {c' m : Nat} (L : List Int) (hl : L.length = m)
    (hm : Mid W' w0.heap.size 3 1 (.slice a' (C.n + m) c') (C.n + m) (C.xs.map IV ++ L.map IV)) (hg : (W.alloc ob).grownBy W' C.v.ownBlock) (hb : (Value.slice a' (C.n + m) c').ownBlock = C.v.ownBlock ∨ (Value.slice a' (C.n + m) c').ownBlock = some (W.alloc ob).heap.size) :
    TX w0 W' sb zb sc zc aa an ac B ⟨C.xs ++ L, a', C.n + m, c'⟩ A ∧ ∀ (pb : Nat) (cs : Array Value), W.heap[pb]? = some (.cells cs 75 (0, 0)) → W'.heap[pb]? = some (.cells cs 75 (0, 0)) :=
  have ⟨h1, h2, h3, h4, h5, h6⟩ := h.app 1 (by simp) L hl hm hg hb
  ⟨⟨h1, h2, h.len, h3, h4, h5⟩, h6⟩
theorem flat_cell (A : List IS) : A.flatMap IS.cell = A.map IS.v := by
  induction A with
  | nil => rfl
  | cons x l ih => rw [List.flatMap_cons, ih]; rfl
theorem TX.cellA {base g o : Nat} (h : Mid W base 57 1 (.slice (some ⟨g, o, none⟩) an ac) an (A.flatMap IS.cell)) (r : Nat) (hr : r < A.length) : W.cell? ⟨g, o + r, none⟩ = some A[r].v := by
  have hn : an = A.length := by have := (Sl.ofMid h).1; rw [flat_cell] at this; simpa using this.symm
  obtain ⟨b, o', c', e, -, -, -, h4⟩ := (Sl.ofMid h).plain (by omega)
  cases e
  refine h4 r _ ?_
  rw [flat_cell, List.getElem?_map, List.getElem?_eq_getElem hr]
  rfl
theorem TX.appA {g o : Nat} (h : TX w0 W sb zb sc zc (some ⟨g, o, none⟩) an ac B C A) (r : Nat) (hr : r < A.length) {X : IS} (hX : A[r] = X) {ob : Obj} {a' : Option Addr} {c' m : Nat} (L : List Int) (hl : L.length = m)
    (hm : Mid W' w0.heap.size 3 1 (.slice a' (X.n + m) c') (X.n + m) (X.xs.map IV ++ L.map IV)) (hg : (W.alloc ob).grownBy W' X.v.ownBlock) (hb : (Value.slice a' (X.n + m) c').ownBlock = X.v.ownBlock ∨ (Value.slice a' (X.n + m) c').ownBlock = some (W.alloc ob).heap.size) :
    (TX w0 (W'.setCell ⟨g, o + r, none⟩ (.slice a' (X.n + m) c')) sb zb sc zc (some ⟨g, o, none⟩) an ac B C (A.set r ⟨X.xs ++ L, a', X.n + m, c'⟩) ∧ ∀ (pb : Nat) (cs : Array Value), W.heap[pb]? = some (.cells cs 75 (0, 0)) → (W'.setCell ⟨g, o + r, none⟩ (.slice a' (X.n + m) c')).heap[pb]? = some (.cells cs 75 (0, 0))) ∧
    W'.cell? ⟨g, o + r, none⟩ = some X.v ∧ W'.frozen? ⟨g, o + r, none⟩ = false ∧ ∀ (pb : Nat) (cs : Array Value), W.heap[pb]? = some (.cells cs 75 (0, 0)) → W'.heap[pb]? = some (.cells cs 75 (0, 0)) := by
  subst hX
  obtain ⟨h1, h2, h3, h4, h5, h6⟩ := h.app (r + 2) (by simpa using hr) L hl hm hg hb
  have hk := Keeps.setCell W' ⟨g, o + r, none⟩ (.slice a' (A[r].n + m) c') (S := fun z => (Value.slice (some ⟨g, o, none⟩) an ac).ownBlock = some z) rfl
  have hf := Foreign.mid h2
  have hs := h2.stored r (.slice a' (A[r].n + m) c')
  obtain ⟨cs0, hcs⟩ := h2.typed (k := g) rfl
  refine ⟨⟨⟨h1.foreign hf hk (by decide), ?_, by rw [List.length_set]; exact h.len, hf.box hk (by decide) h3, hf.box hk (by decide) h4, h5.trans (hk.below h5.size fun z hz => (h2.lt z hz).1)⟩, fun pb cs hp => hf.box hk (by decide) (h6 pb cs hp)⟩, TX.cellA h2 r hr, free_of_block hcs, h6⟩
  rw [flat_cell] at hs ⊢
  rw [List.map_set]
  exact hs
theorem TX.row (h : TX w0 W sb zb sc zc aa an ac B C A) {W7 V4 : World} (h7 : Below W.heap.size W W7) {X : IS} (hX : X.ib w0 W7) (hn : ∀ z, X.v.ownBlock = some z → W.heap.size ≤ z) {ob : Obj} {a' : Option Addr} {c' : Nat}
    (hm : Mid V4 w0.heap.size 57 1 (.slice a' (an + 1) c') (an + 1) (A.flatMap IS.cell ++ [X.v])) (hg : (W7.alloc ob).grownBy V4 (Value.slice aa an ac).ownBlock) :
    TX w0 V4 sb zb sc zc a' (an + 1) c' B C (A ++ [X]) ∧ ∀ (pb : Nat) (cs : Array Value), W7.heap[pb]? = some (.cells cs 75 (0, 0)) → V4.heap[pb]? = some (.cells cs 75 (0, 0)) := by
  have h8 := h.call h7
  have hk := grown_keeps hg
  have hf := Foreign.mid h8.mid
  have ho := h.own.push h7 X hX hn
  exact ⟨⟨ho.foreign hf hk (by decide), by rw [List.flatMap_append, List.flatMap_cons, List.flatMap_nil, List.append_nil]; exact hm, by rw [List.length_append, h.len]; rfl, hf.box hk (by decide) h8.sbx, hf.box hk (by decide) h8.zbx, h8.bel.trans (hk.below h8.bel.size fun z hz => (h8.mid.lt z hz).1)⟩, fun pb cs hp => hf.box hk (by decide) hp⟩
end
theorem part_zero (L : List (List Int)) (f : Nat → Int) : L = L.mapIdx (fun t l => if t < 0 then l ++ [f t] else l) := by
  apply List.ext_getElem <;> simp
theorem part_step (L : List (List Int)) (f : Nat → Int) (i : Nat) (hi : i < L.length) : (L.mapIdx (fun t l => if t < i then l ++ [f t] else l)).set i (L[i] ++ [f i]) = L.mapIdx (fun t l => if t < i + 1 then l ++ [f t] else l) := by
  apply List.ext_getElem
  · simp
  · intro t h1 h2
    rw [List.getElem_set, List.getElem_mapIdx, List.getElem_mapIdx]
    by_cases h : i = t
    · subst h; simp
    · rw [if_neg h]
      by_cases h3 : t < i
      · rw [if_pos h3, if_pos (by omega)]
      · rw [if_neg h3, if_neg (by omega)]
theorem part_get (L : List (List Int)) (f : Nat → Int) (i : Nat) (hi : i < L.length) : (L.mapIdx (fun t l => if t < i then l ++ [f t] else l))[i]? = some L[i] := by
  rw [List.getElem?_mapIdx, List.getElem?_eq_getElem hi]; simp
theorem part_all (L : List (List Int)) (f : Nat → Int) : L.mapIdx (fun t l => if t < L.length then l ++ [f t] else l) = L.mapIdx (fun t l => l ++ [f t]) := by
  apply List.ext_getElem
  · simp
  · intro t h1 h2
    rw [List.getElem_mapIdx, List.getElem_mapIdx, if_pos (by simpa using h1)]
end Go.Proofs.Ytndndfobkbeolaa
namespace Go.Proofs.Ytndndfobkbeolaa
open Go.RowKit Go.Extern.Stop Go.Stop Go.Extern
theorem Try.infoIS : (Try.prog.info? 57).map (fun i => (i.zero, i.size, i.bytes)) = some (some (.slice none 0 0), 1, 24) := by kernel_rfl
def TabR (n m : Nat) (cost : List Int) (q : List (List Int × Int × Int)) (w : World) (e : Ending) (w' : World) : Prop := ∃ aa ac ba bc ca cn cc As, e = .returned (.agg #[.slice aa m ac, .slice ba m bc, .slice ca cn cc, .int .i64 n]) ∧
  OwnI w w' (⟨tabB q, ba, m, bc⟩ :: ⟨tabC cost q m, ca, cn, cc⟩ :: As) ∧ Mid w' w.heap.size 57 1 (.slice aa m ac) m (As.flatMap IS.cell) ∧ As.map (·.xs) = tabI q m ∧ Below w.heap.size w w'
set_option maxRecDepth 100000 in
set_option maxHeartbeats 16000000 in
theorem std_any (w00 : World) (ca : Option Addr) (n cc : Nat) (ra : Option Addr) (m rc : Nat) (cost : List Int) (rs : List RRow) (w : World) (h : QB w00 ca n cc ra m rc cost rs w) (hn : n ≤ 3) (hm : m ≤ 3) (hk : ∀ r, r ∈ rs → r.coef.length = n ∧ 1 ≤ r.kind ∧ r.kind ≤ 3) :
    Calls Try.prog 26 #[.agg #[.slice ca n cc, .slice ra m rc]] w (TabR n m cost (rs.map rrowQ) w) := by
  obtain ⟨ti, hi1, hi2, hi3, hi4⟩ := info_parts Try.infoInt
  obtain ⟨tl, hl1, hl2, hl3, hl4⟩ := info_parts Try.infoIS
  obtain ⟨w1, hw1⟩ : ∃ w1, (w.alloc (.cells #[.slice ca n cc, .slice ra m rc] 79)).alloc (.cells #[.slice none 0 0, .slice none 0 0, .slice none 0 0, .int .i64 0] 75) = w1 := ⟨_, rfl⟩
  have hq1 : w1.heap[w.heap.size]? = some (.cells #[.slice ca n cc, .slice ra m rc] 79 (0, 0)) := by rw [← hw1]; exact (heap2 w _ _).1
  have hz1 : w1.heap[w.heap.size + 1]? = some (.cells #[.slice none 0 0, .slice none 0 0, .slice none 0 0, .int .i64 0] 75 (0, 0)) := by rw [← hw1]; exact (heap2 w _ _).2
  have hb1 : Below w.heap.size w w1 := by rw [← hw1]; exact belowBox2 w _ _
  obtain ⟨zb, hzb⟩ : ∃ zb, w.heap.size + 1 = zb := ⟨_, rfl⟩
  obtain ⟨sb, hsb⟩ : ∃ sb, w.heap.size = sb := ⟨_, rfl⟩
  rw [hzb] at hz1
  rw [hsb] at hq1
  have HQ := Lib.hid h
  have HK := Lib.hid hk
  have HSB := Lib.hid hq1
  have HZB := Lib.hid hz1
  have HB1 := Lib.hid hb1
  have HGZ := Lib.hid (show w.heap.size ≤ zb by omega)
  have HGS := Lib.hid (show w.heap.size ≤ sb by omega)
  have HLC := Lib.hid h.cost.len
  have HML := Lib.hid h.len
  have HW1 := Lib.hid hw1
  have HZE := Lib.hid hzb
  have HSE := Lib.hid hsb
  clear h hk hq1 hz1 hb1 hw1 hzb hsb
  go_enter Try.func26, Try.ntmps26
  go_upto_region 1 with fail
  (try simp only [HW1.out])
  (try simp only [HZE.out])
  (try simp only [HSE.out])
  clear HW1 HZE HSE
  have s0 := cell_of_block (j := 0) HSB.out rfl
  go_upto_region 2 with fail
  clear s0
  have hal := belowBox w1 (.cells #[.slice none 0 0, .slice none 0 0, .slice none 0 0, .int .i64 n] 75)
  have HPB := Lib.hid (heap_alloc_new w1 (.cells #[.slice none 0 0, .slice none 0 0, .slice none 0 0, .int .i64 n] 75))
  have HPG := Lib.hid HB1.out.size
  have HNZ := Lib.hid (show ¬ zb = w1.heap.size from Nat.ne_of_lt (lt_of_block HZB.out))
  replace HSB := Lib.hid ((hal.block sb (lt_of_block HSB.out)).trans HSB.out)
  replace HZB := Lib.hid ((hal.block zb (lt_of_block HZB.out)).trans HZB.out)
  replace HB1 := Lib.hid (bthen HB1.out hal)
  clear hal
  generalize w1.heap.size = pb at HPB HPG HNZ ⊢
  generalize w1.alloc (.cells #[.slice none 0 0, .slice none 0 0, .slice none 0 0, .int .i64 n] 75) = w2 at HPB HSB HZB HB1 ⊢
  have HM2 := Lib.hid (Mid.nil w2 w.heap.size 3 1)
  have HS2 := Lib.hid (show Src Try.prog 1 57 (.slice ca n cc) n (cost.map IV) w2 from ((Sl.ofMid HQ.out.cost.mid).below HB1.out).src (P := Try.prog) Try.underlying57 (fun u hu => by obtain ⟨x, _, rfl⟩ := List.mem_map.1 hu; rfl))
  have HW2 := Lib.hid HB1.out.size
  have s0 := cell_of_block (j := 0) HSB.out rfl
  have p2 := cell_of_block (j := 2) HPB.out rfl
  go_upto_region 3 with (at_builtin; refine wpList_append_mid (v := .slice none 0 0) rfl _ _ 57 57 rfl ti (.int .i64 0) 8 Try.underlying57 hi1 hi2 hi3 hi4 rfl rfl HM2.out _ rfl n (cost.map IV) HS2.out (by unfold maxLen; omega) (by omega) HW2.out ?_; intro ca' cc' w3 hmo hgo hbo; have hkk := Keeps.of_grown hgo (S := fun _ => False) (fun b e => (by cases e)); have hb3 := hkk.below (Nat.le_refl _) (fun b h => h.elim); have HMO := Lib.hid hmo; have HBO := Lib.hid hbo; have HB3 := Lib.hid hb3; have hpb := (hb3.block pb (lt_of_block HPB.out)).trans HPB.out; have HP3 := Lib.hid hpb; have cc3 := cell_of_block (j := 2) hpb rfl; have f3 : w3.frozen? ⟨pb, 2, none⟩ = false := free_of_block hpb; clear hmo hgo hbo hkk hb3 hpb)
  simp only [Nat.zero_add, List.nil_append] at HMO HBO ⊢
  have hb3 := bthen HB1.out HB3.out
  have ht := (show TX w w3 sb zb #[.slice ca n cc, .slice ra m rc] #[.slice none 0 0, .slice none 0 0, .slice none 0 0, .int .i64 0] none 0 0 ⟨[], none, 0, 0⟩ ⟨cost, ca', n, cc'⟩ [] from
    ⟨⟨fun p hp => by
      simp only [List.mem_cons, List.not_mem_nil, or_false] at hp
      rcases hp with rfl | rfl
      · exact IB.nil hb3
      · exact ⟨HMO.out, HLC.out, hb3⟩, List.pairwise_cons.2 ⟨fun y hy z hz => (by cases hz), List.pairwise_singleton _ _⟩⟩, by simpa using Mid.nil w3 w.heap.size 57 1, rfl, (HB3.out.block sb (lt_of_block HSB.out)).trans HSB.out, (HB3.out.block zb (lt_of_block HZB.out)).trans HZB.out, hb3⟩).store HP3.out HPG.out HNZ.out 2 (.slice ca' n cc')
  have hp := heap_setCell_same w3 pb 2 _ _ (.slice ca' n cc') HP3.out
  have HTX := Lib.hid ht
  have HPX := Lib.hid hp
  clear hb3 ht hp cc3 f3 s0 p2 HM2 HS2 HW2 HMO HBO HP3
  generalize w3.setCell ⟨pb, 2, none⟩ (.slice ca' n cc') = w4 at HTX HPX ⊢
  go_wp2_with fail
  go_loopw [4] (fun v4 wr => ∃ (k : Nat) (aa : Option Addr) (ac : Nat) (ba : Option Addr) (bc : Nat) (As : List IS), k ≤ m ∧ v4 = .int .i64 k ∧ TX w wr sb zb #[.slice ca n cc, .slice ra m rc] #[.slice none 0 0, .slice none 0 0, .slice none 0 0, .int .i64 0] aa k ac ⟨(rs.take k).map (·.rhs), ba, k, bc⟩ ⟨cost, ca', n, cc'⟩ As ∧ As.map (·.xs) = (rs.take k).map (·.coef) ∧ wr.heap[pb]? = some (.cells #[.slice aa k ac, .slice ba k bc, .slice ca' n cc', .int .i64 n] 75 (0, 0))) (fun v4 _ => m - (intOf v4).toNat)
  case atStart => exact ⟨0, none, 0, none, 0, [], Nat.zero_le _, rfl, HTX.out, rfl, HPX.out⟩
  case round =>
    obtain ⟨k, aa, ac, ba, bc, As, hk, rfl, htx, hma, hpx⟩ := hrel
    replace HTX := Lib.hid htx
    replace HPX := Lib.hid hpx
    have HMA := Lib.hid hma
    have q1 := cell_of_block (j := 1) htx.sbx rfl
    clear htx hma hpx
    by_cases hlt : k < m
    · obtain ⟨b, o, r, e1, e2, -, -, -, hib⟩ := HQ.out.get k hlt
      have hcel : ∀ W : World, Below w.heap.size w W → W.cell? ⟨b, o + k * 3, none⟩ = some (.slice r.a r.n r.c) ∧ W.cell? ⟨b, o + k * 3 + 1, none⟩ = some (.int .i64 r.kind) ∧ W.cell? ⟨b, o + k * 3 + 2, none⟩ = some (.int .i64 r.rhs) := fun W hb => by
        obtain ⟨b', o', r', e3, e4, y0, y1, y2, _⟩ := (HQ.out.call hb).get k hlt
        rw [e1] at e3
        cases e3
        rw [e2] at e4
        cases e4
        exact ⟨y0, y1, y2⟩
      have hlk : k < rs.length := by rw [HML.out]; exact hlt
      have hrk : rs[k] = r := (List.getElem?_eq_some_iff.1 e2).2
      have HTKR := Lib.hid (show (rs.take (k + 1)).map (·.rhs) = (rs.take k).map (·.rhs) ++ [r.rhs] by rw [List.take_succ_eq_append_getElem hlk, List.map_append, hrk]; rfl)
      have HTKC := Lib.hid (show (rs.take (k + 1)).map (·.coef) = (rs.take k).map (·.coef) ++ [r.coef] by rw [List.take_succ_eq_append_getElem hlk, List.map_append, hrk]; rfl)
      have HLO := Lib.hid (fun (W : World) (hb : Below w.heap.size w W) => hib.call hb)
      have hrn : r.n ≤ 3 := by have h1 := hib.len; have h2 := (HK.out r (List.mem_of_getElem? e2)).1; omega
      have HCR := Lib.hid (fun (W : World) (hb : Below w.heap.size w W) => (hcel W hb).2.2)
      subst e1
      have y0 := (hcel wr HTX.out.bel).1
      have i0 : (0 : Int) ≤ (k : Int) := by omega
      have i1 : (k : Int) < (m : Int) := by omega
      clear hcel e2 hlk hrk hib
      have HM7 := Lib.hid (Mid.nil wr w.heap.size 3 1)
      have HS7 := Lib.hid (show Src Try.prog 1 57 (.slice r.a r.n r.c) r.n (r.coef.map IV) wr from (Sl.ofMid (HLO.out wr HTX.out.bel).mid).src (P := Try.prog) Try.underlying57 (fun u hu => by obtain ⟨x, _, rfl⟩ := List.mem_map.1 hu; rfl))
      have HW7 := Lib.hid HTX.out.bel.size
      go_upto_region 8 with (at_builtin; refine wpList_append_mid (v := .slice none 0 0) rfl _ _ 57 57 rfl ti (.int .i64 0) 8 Try.underlying57 hi1 hi2 hi3 hi4 rfl rfl HM7.out _ rfl r.n (r.coef.map IV) HS7.out (by unfold maxLen; omega) (by omega) HW7.out ?_; intro a7 c7 w7 hmo hgo hbo; have hkk := Keeps.of_grown hgo (S := fun _ => False) (fun b e => (by cases e)); have hb7 := hkk.below (Nat.le_refl _) (fun b h => h.elim); have HMO := Lib.hid hmo; have HBO := Lib.hid hbo; have H7 := Lib.hid hb7; clear hmo hgo hbo hkk hb7)
      simp only [Nat.zero_add, List.nil_append] at HMO HBO ⊢
      have HX := Lib.hid (show (⟨r.coef, a7, r.n, c7⟩ : IS).ib w w7 from ⟨HMO.out, (HLO.out wr HTX.out.bel).len, bthen HTX.out.bel H7.out⟩)
      have HXN := Lib.hid (show ∀ z, (⟨r.coef, a7, r.n, c7⟩ : IS).v.ownBlock = some z → wr.heap.size ≤ z from fun z hz => by
        have hz' : (Value.slice a7 r.n c7).ownBlock = some z := hz
        rcases HBO.out with e | e
        · rw [e] at hz'; cases hz'
        · rw [e] at hz'; cases hz'; exact Nat.le_refl _)
      have HT7 := Lib.hid (HTX.out.call H7.out)
      have hp7 := (H7.out.block pb (lt_of_block HPX.out)).trans HPX.out
      have HP7 := Lib.hid hp7
      have c0 := cell_of_block (j := 0) hp7 rfl
      have hb8 := belowBox w7 (.cells #[.slice a7 r.n c7] 57)
      have d0 : (w7.alloc (.cells #[.slice a7 r.n c7] 57)).cell? ⟨pb, 0, none⟩ = some (.slice aa k ac) := hu hb8 c0
      have HM8 := Lib.hid (HT7.out.mid.alloc (.cells #[.slice a7 r.n c7] 57))
      have HS8 := Lib.hid (show Src Try.prog 1 73 (.slice (some ⟨w7.heap.size, 0, none⟩) 1 1) 1 [.slice a7 r.n c7] (w7.alloc (.cells #[.slice a7 r.n c7] 57)) from (Sl.lit w7 57 1 1 [.slice a7 r.n c7] (by unfold maxLen; omega) rfl).src (P := Try.prog) Try.underlying73 (fun u hu => by rw [List.mem_singleton.1 hu]; rfl))
      have HW8 := Lib.hid (Nat.le_trans HT7.out.bel.size hb8.size)
      clear hp7 hb8 HM7 HS7 HW7 HMO HBO q1 y0
      go_upto_region 9 with (at_builtin; refine wpList_append_mid (v := .slice aa k ac) rfl _ _ 73 73 rfl tl (.slice none 0 0) 24 Try.underlying73 hl1 hl2 hl3 hl4 rfl rfl HM8.out _ rfl 1 _ HS8.out (by unfold maxLen; omega) (by omega) HW8.out ?_; intro a8 c8 w8 hmo hgo hbo; have h8 := HTX.out.row H7.out HX.out HXN.out hmo hgo; have HT8 := Lib.hid h8.1; have hp8 := h8.2 _ _ HP7.out; have HP8 := Lib.hid hp8; have cc8 := cell_of_block (j := 0) hp8 rfl; have f8 : w8.frozen? ⟨pb, 0, none⟩ = false := free_of_block hp8; clear hmo hgo hbo h8 hp8)
      have ht := HT8.out.store HP8.out HPG.out HNZ.out 0 (.slice a8 (k + 1) c8)
      have hp := heap_setCell_same w8 pb 0 _ _ (.slice a8 (k + 1) c8) HP8.out
      replace HTX := Lib.hid ht
      replace HPX := Lib.hid hp
      clear ht hp cc8 f8 c0 d0 HM8 HS8 HW8 HT8 HP8 HT7 HP7 HX HXN H7
      generalize w8.setCell ⟨pb, 0, none⟩ (.slice a8 (k + 1) c8) = w9 at HTX HPX ⊢
      replace HTX := Lib.hid (HTX.out.call (show Below w9.heap.size w9 w9.drew from Below.drawn w9 1))
      replace HPX := Lib.hid (((show Below w9.heap.size w9 w9.drew from Below.drawn w9 1).block pb (lt_of_block HPX.out)).trans HPX.out)
      refine wp_region_held_drew (S := fun W => W.cell? ⟨sb, 1, none⟩ = some (.slice (some ⟨b, o, none⟩) m rc) ∧ W.cell? ⟨b, o + k * 3 + 2, none⟩ = some (.int .i64 r.rhs)) (by kernel_rfl) (And.intro (cell_of_block (j := 1) HTX.out.sbx rfl) (HCR.out _ HTX.out.bel)) (fun hHeld => ?_)
      generalize w9.drew = wd at HTX HPX hHeld ⊢
      refine tk 0 (some 40) (v := ?_) rfl rfl ?_ ?_
      rotate_left
      · (intro w _; go_simp; (try with_reducible rfl))
      simp only [Act.put, stB, stZ, stS]
      refine tk 2 (some 42) (v := ?_) rfl rfl ?_ ?_
      rotate_left
      · (intro w _; go_simp; (try with_reducible rfl))
      simp only [Act.put, stB, stZ, stS]
      refine tk 3 (some 43) (v := ?_) rfl rfl ?_ ?_
      rotate_left
      · (intro w hSw; (try dsimp only at hSw); ((try obtain ⟨hS0, hS1⟩ := hSw); go_simp); (try with_reducible rfl))
      simp only [Act.put, stB, stZ, stS]
      refine tk 4 (some 44) (v := ?_) rfl rfl ?_ ?_
      rotate_left
      · (intro w _; go_simp; (try with_reducible rfl))
      simp only [Act.put, stB, stZ, stS]
      refine tk 5 (some 45) (v := ?_) rfl rfl ?_ ?_
      rotate_left
      · (intro w hSw; (try dsimp only at hSw); ((try obtain ⟨hS0, hS1⟩ := hSw); go_simp); (try with_reducible rfl))
      simp only [Act.put, stB, stZ, stS]
      refine tk 6 (some 46) (v := ?_) rfl rfl ?_ ?_
      rotate_left
      · (intro w _; go_simp; (try with_reducible rfl))
      simp only [Act.put, stB, stZ, stS]
      refine tk 7 (some 47) (v := ?_) rfl rfl ?_ ?_
      rotate_left
      · (intro w hSw; (try dsimp only at hSw); ((try obtain ⟨hS0, hS1⟩ := hSw); go_simp); (try with_reducible rfl))
      simp only [Act.put, stB, stZ, stS]
      refine wpAnyH_ready (rs := [1, 8]) (by kernel_rfl) (by simp) ?_
      refine (AllReadyH.cons (o := { dst := some 41, op := Op.load 57 (Operand.tmp 40), type := 57, pos := "ref.go:74", after := #[{ on := 0, ground := Ground.data }], guard := none }) rfl (fun K hK => ?_) (AllReadyH.cons (o := { dst := some 48, op := Op.buildSlice 57 1 #[(0, Operand.tmp 47)], type := 57, pos := "ref.go:74", after := #[{ on := 7, ground := Ground.data }], guard := none }) rfl (fun K hK => ?_) AllReadyH.nil))
      · skip
        have c1 := cell_of_block (j := 1) HPX.out rfl
        go_simp
        clear c1
        refine hK.out _ _ (hHeld) (fun hHeld2 => ?_)
        clear hK K hHeld
        rename _ => hHeld
        try simp only [Act.put, stB, stZ, stS]
        refine wpAnyH_ready (rs := [8]) (by kernel_rfl) (by simp) ?_
        refine (AllReadyH.cons (o := { dst := some 48, op := Op.buildSlice 57 1 #[(0, Operand.tmp 47)], type := 57, pos := "ref.go:74", after := #[{ on := 7, ground := Ground.data }], guard := none }) rfl (fun K hK => ?_) AllReadyH.nil)
        go_simp
        have hb := belowBox wd (.cells #[.int .i64 r.rhs] 3)
        have HPX2 := Lib.hid ((hb.block pb (lt_of_block HPX.out)).trans HPX.out)
        have HM3 := Lib.hid (show Mid (wd.alloc (.cells #[.int .i64 r.rhs] 3)) w.heap.size 3 1 (.slice ba k bc) k (((rs.take k).map (·.rhs)).map IV) from (HTX.out.own.ib _ List.mem_cons_self).mid.alloc (.cells #[.int .i64 r.rhs] 3))
        have HS3 := Lib.hid (show Src Try.prog 1 57 (.slice (some ⟨wd.heap.size, 0, none⟩) 1 1) 1 [.int .i64 r.rhs] (wd.alloc (.cells #[.int .i64 r.rhs] 3)) from (Sl.lit wd 3 1 1 [.int .i64 r.rhs] (by unfold maxLen; omega) rfl).src (P := Try.prog) Try.underlying57 (fun u hu => by rw [List.mem_singleton.1 hu]; rfl))
        have HW3 := Lib.hid (show w.heap.size ≤ (wd.alloc (.cells #[.int .i64 r.rhs] 3)).heap.size from Nat.le_trans HTX.out.bel.size hb.size)
        have hKK := And.intro (hu hb (cell_of_block (j := 1) HTX.out.sbx rfl)) (HCR.out _ (bthen HTX.out.bel hb))
        clear hb
        refine hK.out _ _ (hKK) (fun hHeld2 => ?_)
        clear hK K hHeld
        rename _ => hHeld
        try simp only [Act.put, stB, stZ, stS]
        refine wpAnyH_ready (rs := [9]) (by kernel_rfl) (by simp) ?_
        refine (AllReadyH.cons (o := { dst := some 49, op := Op.call { callee := Callee.builtin Builtin.append, args := #[Operand.tmp 41, Operand.tmp 48], argTypes := #[57, 57] }, type := 57, pos := "ref.go:74", after := #[{ on := 1, ground := Ground.data }, { on := 8, ground := Ground.data }], guard := none }) rfl (fun K hK => ?_) AllReadyH.nil)
        refine step_append_mid (v := .slice ba k bc) (by rfl) _ _ 57 57 (by rfl) ti (.int .i64 0) 8 Try.underlying57 hi1 hi2 hi3 hi4 rfl (by rfl) HM3.out _ (by rfl) 1 _ HS3.out (by unfold maxLen; omega) (by omega) HW3.out ?_
        intro a9 c9 V4 hmo hgo hbo
        have h9 := HTX.out.appB [r.rhs] rfl hmo hgo hbo
        have HT9 := Lib.hid h9.1
        replace HPX := Lib.hid (h9.2 _ _ HPX.out)
        clear hmo hgo hbo h9
        dsimp only
        refine hK.out _ _ (And.intro (cell_of_block (j := 1) HT9.out.sbx rfl) (HCR.out _ HT9.out.bel)) (fun hHeld2 => ?_)
        clear hK K hHeld
        rename _ => hHeld
        try simp only [Act.put, stB, stZ, stS]
        refine tk 10 (some 50) (v := ?_) rfl rfl ?_ ?_
        rotate_left
        · (intro w _; go_simp; (try with_reducible rfl))
        simp only [Act.put, stB, stZ, stS]
        refine wpAnyH_ready (rs := [11]) (by kernel_rfl) (by simp) ?_
        refine (AllReadyH.cons (o := { dst := none, op := Op.store 57 (Operand.tmp 50) (Operand.tmp 49), type := 0, pos := "ref.go:74", after := #[{ on := 10, ground := Ground.data }, { on := 9, ground := Ground.data }, { on := 9, ground := Ground.chain }, { on := 0, ground := Ground.phase }, { on := 1, ground := Ground.phase }, { on := 2, ground := Ground.phase }, { on := 3, ground := Ground.phase }, { on := 4, ground := Ground.phase }, { on := 5, ground := Ground.phase }, { on := 6, ground := Ground.phase }, { on := 7, ground := Ground.phase }, { on := 8, ground := Ground.phase }, { on := 9, ground := Ground.phase }], guard := none }) rfl (fun K hK => ?_) AllReadyH.nil)
        have c1 := cell_of_block (j := 1) HPX.out rfl
        have f1 : V4.frozen? ⟨pb, 1, none⟩ = false := free_of_block HPX.out
        go_simp
        clear c1 f1
        have HTY := Lib.hid (HT9.out.store HPX.out HPG.out HNZ.out 1 (.slice a9 (k + 1) c9))
        have HPY := Lib.hid (heap_setCell_same V4 pb 1 _ _ (.slice a9 (k + 1) c9) HPX.out)
        refine hK.out _ _ (And.intro (cell_of_block (j := 1) HTY.out.sbx rfl) (HCR.out _ HTY.out.bel)) (fun hHeld2 => ?_)
        clear hK K hHeld
        rename _ => hHeld
        try simp only [Act.put, stB, stZ, stS]
        refine wpAnyH_done (by kernel_rfl) ?_ _
        (try simp only [Exit.inBlock, Exit.then])
        clear hHeld
        go_wp2_with fail
        go_roundw
        case rel => exact ⟨k + 1, a8, c8, a9, c9, As ++ [⟨r.coef, a7, r.n, c7⟩], by omega, by go_num, by rw [HTKR.out]; exact HTY.out, by rw [HTKC.out, List.map_append, HMA.out]; rfl, HPY.out⟩
        case measure => simp [intOf]; omega
      · skip
        go_simp
        have hb := belowBox wd (.cells #[.int .i64 r.rhs] 3)
        have HPX2 := Lib.hid ((hb.block pb (lt_of_block HPX.out)).trans HPX.out)
        have HM3 := Lib.hid (show Mid (wd.alloc (.cells #[.int .i64 r.rhs] 3)) w.heap.size 3 1 (.slice ba k bc) k (((rs.take k).map (·.rhs)).map IV) from (HTX.out.own.ib _ List.mem_cons_self).mid.alloc (.cells #[.int .i64 r.rhs] 3))
        have HS3 := Lib.hid (show Src Try.prog 1 57 (.slice (some ⟨wd.heap.size, 0, none⟩) 1 1) 1 [.int .i64 r.rhs] (wd.alloc (.cells #[.int .i64 r.rhs] 3)) from (Sl.lit wd 3 1 1 [.int .i64 r.rhs] (by unfold maxLen; omega) rfl).src (P := Try.prog) Try.underlying57 (fun u hu => by rw [List.mem_singleton.1 hu]; rfl))
        have HW3 := Lib.hid (show w.heap.size ≤ (wd.alloc (.cells #[.int .i64 r.rhs] 3)).heap.size from Nat.le_trans HTX.out.bel.size hb.size)
        have hKK := And.intro (hu hb (cell_of_block (j := 1) HTX.out.sbx rfl)) (HCR.out _ (bthen HTX.out.bel hb))
        clear hb
        refine hK.out _ _ (hKK) (fun hHeld2 => ?_)
        clear hK K hHeld
        rename _ => hHeld
        try simp only [Act.put, stB, stZ, stS]
        refine wpAnyH_ready (rs := [1]) (by kernel_rfl) (by simp) ?_
        refine (AllReadyH.cons (o := { dst := some 41, op := Op.load 57 (Operand.tmp 40), type := 57, pos := "ref.go:74", after := #[{ on := 0, ground := Ground.data }], guard := none }) rfl (fun K hK => ?_) AllReadyH.nil)
        have c1 := cell_of_block (j := 1) HPX2.out rfl
        go_simp
        clear c1
        refine hK.out _ _ (hHeld) (fun hHeld2 => ?_)
        clear hK K hHeld
        rename _ => hHeld
        try simp only [Act.put, stB, stZ, stS]
        refine wpAnyH_ready (rs := [9]) (by kernel_rfl) (by simp) ?_
        refine (AllReadyH.cons (o := { dst := some 49, op := Op.call { callee := Callee.builtin Builtin.append, args := #[Operand.tmp 41, Operand.tmp 48], argTypes := #[57, 57] }, type := 57, pos := "ref.go:74", after := #[{ on := 1, ground := Ground.data }, { on := 8, ground := Ground.data }], guard := none }) rfl (fun K hK => ?_) AllReadyH.nil)
        refine step_append_mid (v := .slice ba k bc) (by rfl) _ _ 57 57 (by rfl) ti (.int .i64 0) 8 Try.underlying57 hi1 hi2 hi3 hi4 rfl (by rfl) HM3.out _ (by rfl) 1 _ HS3.out (by unfold maxLen; omega) (by omega) HW3.out ?_
        intro a9 c9 V4 hmo hgo hbo
        have h9 := HTX.out.appB [r.rhs] rfl hmo hgo hbo
        have HT9 := Lib.hid h9.1
        replace HPX := Lib.hid (h9.2 _ _ HPX.out)
        clear hmo hgo hbo h9
        dsimp only
        refine hK.out _ _ (And.intro (cell_of_block (j := 1) HT9.out.sbx rfl) (HCR.out _ HT9.out.bel)) (fun hHeld2 => ?_)
        clear hK K hHeld
        rename _ => hHeld
        try simp only [Act.put, stB, stZ, stS]
        refine tk 10 (some 50) (v := ?_) rfl rfl ?_ ?_
        rotate_left
        · (intro w _; go_simp; (try with_reducible rfl))
        simp only [Act.put, stB, stZ, stS]
        refine wpAnyH_ready (rs := [11]) (by kernel_rfl) (by simp) ?_
        refine (AllReadyH.cons (o := { dst := none, op := Op.store 57 (Operand.tmp 50) (Operand.tmp 49), type := 0, pos := "ref.go:74", after := #[{ on := 10, ground := Ground.data }, { on := 9, ground := Ground.data }, { on := 9, ground := Ground.chain }, { on := 0, ground := Ground.phase }, { on := 1, ground := Ground.phase }, { on := 2, ground := Ground.phase }, { on := 3, ground := Ground.phase }, { on := 4, ground := Ground.phase }, { on := 5, ground := Ground.phase }, { on := 6, ground := Ground.phase }, { on := 7, ground := Ground.phase }, { on := 8, ground := Ground.phase }, { on := 9, ground := Ground.phase }], guard := none }) rfl (fun K hK => ?_) AllReadyH.nil)
        have c1 := cell_of_block (j := 1) HPX.out rfl
        have f1 : V4.frozen? ⟨pb, 1, none⟩ = false := free_of_block HPX.out
        go_simp
        clear c1 f1
        have HTY := Lib.hid (HT9.out.store HPX.out HPG.out HNZ.out 1 (.slice a9 (k + 1) c9))
        have HPY := Lib.hid (heap_setCell_same V4 pb 1 _ _ (.slice a9 (k + 1) c9) HPX.out)
        refine hK.out _ _ (And.intro (cell_of_block (j := 1) HTY.out.sbx rfl) (HCR.out _ HTY.out.bel)) (fun hHeld2 => ?_)
        clear hK K hHeld
        rename _ => hHeld
        try simp only [Act.put, stB, stZ, stS]
        refine wpAnyH_done (by kernel_rfl) ?_ _
        (try simp only [Exit.inBlock, Exit.then])
        clear hHeld
        go_wp2_with fail
        go_roundw
        case rel => exact ⟨k + 1, a8, c8, a9, c9, As ++ [⟨r.coef, a7, r.n, c7⟩], by omega, by go_num, by rw [HTKR.out]; exact HTY.out, by rw [HTKC.out, List.map_append, HMA.out]; rfl, HPY.out⟩
        case measure => simp [intOf]; omega
    · obtain rfl : k = m := by omega
      have htk : rs.take k = rs := List.take_of_length_le (by rw [HML.out]; exact Nat.le_refl _)
      rw [htk] at HTX HMA
      obtain ⟨q, hq⟩ : ∃ q, rs.map rrowQ = q := ⟨_, rfl⟩
      have hqb : rs.map (·.rhs) = tabB q := by rw [← hq]; simp [tabB, rrowQ]
      have hqa : rs.map (·.coef) = tabI q 0 := by rw [← hq]; simp [tabI, rrowQ]
      rw [hqb] at HTX
      rw [hqa] at HMA
      have HTC := Lib.hid (show TX w wr sb zb #[.slice ca n cc, .slice ra k rc] #[.slice none 0 0, .slice none 0 0, .slice none 0 0, .int .i64 0] aa k ac ⟨tabB q, ba, k, bc⟩ ⟨tabC cost q 0, ca', n, cc'⟩ As from HTX.out)
      have HQE := Lib.hid hq
      rw [hq]
      clear htk hqb hqa hq HTX
      have HTX := HTC
      clear HTC
      go_wp2_with fail
      go_loopw [6] (fun v6 wr => ∃ (j : Nat) (ca' : Option Addr) (cn cc' : Nat) (As : List IS), j ≤ k ∧ v6 = .int .i64 j ∧ TX w wr sb zb #[.slice ca n cc, .slice ra k rc] #[.slice none 0 0, .slice none 0 0, .slice none 0 0, .int .i64 0] aa k ac ⟨tabB q, ba, k, bc⟩ ⟨tabC cost q j, ca', cn, cc'⟩ As ∧ As.map (·.xs) = tabI q j ∧ wr.heap[pb]? = some (.cells #[.slice aa k ac, .slice ba k bc, .slice ca' cn cc', .int .i64 n] 75 (0, 0))) (fun v6 _ => k - (intOf v6).toNat)
      case atStart => exact ⟨0, ca', n, cc', As, Nat.zero_le _, rfl, HTX.out, HMA.out, HPX.out⟩
      case round =>
        obtain ⟨j, ca', cn, cc', As, hj, rfl, htx, hma, hpx⟩ := hrel
        replace HTX := Lib.hid htx
        replace HPX := Lib.hid hpx
        replace HMA := Lib.hid hma
        have q1 := cell_of_block (j := 1) htx.sbx rfl
        clear htx hma hpx
        by_cases hlt2 : j < k
        · obtain ⟨b, o, r, e1, e2, -, -, -, hib⟩ := HQ.out.get j hlt2
          obtain ⟨kd, hkd⟩ : ∃ kd, r.kind = kd := ⟨_, rfl⟩
          have hcel : ∀ W : World, Below w.heap.size w W → W.cell? ⟨b, o + j * 3 + 1, none⟩ = some (.int .i64 kd) := fun W hb => by
            obtain ⟨b', o', r', e3, e4, y0, y1, y2, _⟩ := (HQ.out.call hb).get j hlt2
            rw [e1] at e3
            cases e3
            rw [e2] at e4
            cases e4
            rw [← hkd]
            exact y1
          have hjq : q[j]? = some (rrowQ r) := by rw [← HQE.out, List.getElem?_map, e2]; rfl
          obtain ⟨kd1, kd2⟩ := (HK.out r (List.mem_of_getElem? e2)).2
          rw [hkd] at kd1 kd2
          have HCK := Lib.hid hcel
          have HTS := Lib.hid (show tabI q (j + 1) = if kd = 3 then tabI q j else (tabI q j).mapIdx fun t l => l ++ [slackOf j kd t] by rw [← hkd]; simp only [tabI, hjq]; rfl)
          have HTD := Lib.hid (show tabC cost q (j + 1) = if kd = 3 then tabC cost q j else tabC cost q j ++ [0] by rw [← hkd]; simp only [tabC, hjq]; rfl)
          have y1 := hcel wr HTX.out.bel
          have i0 : (0 : Int) ≤ (j : Int) := by omega
          have i1 : (j : Int) < (k : Int) := by omega
          rw [e1] at q1
          have HRA := Lib.hid e1
          clear hcel e1 e2 hib hkd hjq
          by_cases h3 : kd = 3
          · subst h3
            have HTS' := HTS.out
            have HTD' := HTD.out
            rw [if_pos rfl] at HTS' HTD'
            have HT2 := Lib.hid HTS'
            have HD2 := Lib.hid HTD'
            clear HTS' HTD' kd1 kd2
            go_wp2_with fail
            go_roundw
            case rel => exact ⟨j + 1, ca', cn, cc', As, by omega, by go_num, by rw [HD2.out]; exact HTX.out, by rw [HT2.out]; exact HMA.out, HPX.out⟩
            case measure => simp [intOf]; omega
          · have HTS' := HTS.out
            have HTD' := HTD.out
            rw [if_neg h3] at HTS' HTD'
            have HT2 := Lib.hid HTS'
            have HD2 := Lib.hid HTD'
            clear HTS' HTD'
            have h3d : decide (kd = 3) = false := by simpa using h3
            have hcn : cn ≤ 10 := by
              have h1 := (HTX.out.own.ib ⟨tabC cost q j, ca', cn, cc'⟩ (by simp)).len
              have h2 := tabC_len cost q j
              have h4 := HLC.out
              have h5 : (tabC cost q j).length = cn := h1
              omega
            have c2 := cell_of_block (j := 2) HPX.out rfl
            have hb8 := belowBox wr (.cells #[.int .i64 0] 3)
            have HM8 := Lib.hid (show Mid (wr.alloc (.cells #[.int .i64 0] 3)) w.heap.size 3 1 (.slice ca' cn cc') cn ((tabC cost q j).map IV) from (HTX.out.own.ib ⟨tabC cost q j, ca', cn, cc'⟩ (by simp)).mid.alloc (.cells #[.int .i64 0] 3))
            have HS8 := Lib.hid (show Src Try.prog 1 57 (.slice (some ⟨wr.heap.size, 0, none⟩) 1 1) 1 [.int .i64 0] (wr.alloc (.cells #[.int .i64 0] 3)) from (Sl.lit wr 3 1 1 [.int .i64 0] (by unfold maxLen; omega) rfl).src (P := Try.prog) Try.underlying57 (fun u hu => by rw [List.mem_singleton.1 hu]; rfl))
            have HW8 := Lib.hid (Nat.le_trans HTX.out.bel.size hb8.size)
            clear hb8
            go_upto_region 15 with (at_builtin; refine wpList_append_mid (v := .slice ca' cn cc') rfl _ _ 57 57 rfl ti (.int .i64 0) 8 Try.underlying57 hi1 hi2 hi3 hi4 rfl rfl HM8.out _ rfl 1 _ HS8.out (by unfold maxLen; omega) (by omega) HW8.out ?_; intro a8 c8 w8 hmo hgo hbo; have h8 := HTX.out.appC [0] rfl hmo hgo hbo; have HT8 := Lib.hid h8.1; have hp8 := h8.2 _ _ HPX.out; have HP8 := Lib.hid hp8; have cc8 := cell_of_block (j := 2) hp8 rfl; have f8 : w8.frozen? ⟨pb, 2, none⟩ = false := free_of_block hp8; clear hmo hgo hbo h8 hp8)
            have ht := HT8.out.store HP8.out HPG.out HNZ.out 2 (.slice a8 (cn + 1) c8)
            have hp := heap_setCell_same w8 pb 2 _ _ (.slice a8 (cn + 1) c8) HP8.out
            replace HTX := Lib.hid ht
            replace HPX := Lib.hid hp
            clear ht hp cc8 f8 c2 HM8 HS8 HW8 HT8 HP8 q1 y1 h3d
            generalize w8.setCell ⟨pb, 2, none⟩ (.slice a8 (cn + 1) c8) = w9 at HTX HPX ⊢
            go_wp2_with fail
            go_loopw [7] (fun v7 wr => ∃ (i : Nat) (Bs : List IS), i ≤ k ∧ v7 = .int .i64 i ∧ TX w wr sb zb #[.slice ca n cc, .slice ra k rc] #[.slice none 0 0, .slice none 0 0, .slice none 0 0, .int .i64 0] aa k ac ⟨tabB q, ba, k, bc⟩ ⟨tabC cost q j ++ [0], a8, cn + 1, c8⟩ Bs ∧ Bs.map (·.xs) = (tabI q j).mapIdx (fun t l => if t < i then l ++ [slackOf j kd t] else l) ∧ wr.heap[pb]? = some (.cells #[.slice aa k ac, .slice ba k bc, .slice a8 (cn + 1) c8, .int .i64 n] 75 (0, 0))) (fun v7 _ => k - (intOf v7).toNat)
            case atStart => exact ⟨0, As, Nat.zero_le _, rfl, HTX.out, by rw [HMA.out]; exact part_zero _ _, HPX.out⟩
            case round =>
              obtain ⟨i, Bs, hi, rfl, htx, hmb, hpx⟩ := hrel
              replace HTX := Lib.hid htx
              replace HPX := Lib.hid hpx
              have HMB := Lib.hid hmb
              have p0 := cell_of_block (j := 0) hpx rfl
              clear htx hmb hpx
              by_cases hlt3 : i < k
              · have hil : i < Bs.length := by rw [HTX.out.len]; exact hlt3
                have hlen : (tabI q j).length = k := by rw [tabI_len, ← HQE.out, List.length_map, HML.out]
                obtain ⟨g, oo, c', e, -⟩ := (Sl.ofMid HTX.out.mid).plain (by omega)
                have ea : aa = some ⟨g, oo, none⟩ := by injection e
                subst ea
                obtain ⟨X, hX⟩ : ∃ X, Bs[i] = X := ⟨_, rfl⟩
                have hxx : X.xs = (tabI q j)[i]'(by omega) := by
                  have h1 := congrArg (fun l : List (List Int) => l[i]?) HMB.out
                  simp only [part_get (tabI q j) (slackOf j kd) i (by omega), List.getElem?_map, List.getElem?_eq_getElem hil, hX] at h1
                  exact Option.some.inj h1
                have hxn : X.n ≤ 6 := by
                  have h1 : X.xs.length = X.n := (HTX.out.own.ib X (by rw [← hX]; simp)).len
                  have h2 := tabI_cols n cost q HLC.out (fun x hx => by
                    rw [← HQE.out] at hx
                    obtain ⟨r', hr', rfl⟩ := List.mem_map.1 hx
                    exact (HK.out r' hr').1) j X.xs (by rw [hxx]; exact List.getElem_mem _)
                  have h3 := tabC_len cost q j
                  have h4 := HLC.out
                  omega
                have HI := Lib.hid hil
                have HXI := Lib.hid hX
                have HXX := Lib.hid hxx
                have HXN := Lib.hid hxn
                have HIL := Lib.hid (show i < (tabI q j).length by omega)
                have i2 : (0 : Int) ≤ (i : Int) := by omega
                have i3 : (i : Int) < (k : Int) := by omega
                clear e hX hxx hxn p0
                by_cases hij : i = j
                · have y1 := HCK.out wr HTX.out.bel
                  have q1 := cell_of_block (j := 1) HTX.out.sbx rfl
                  rw [HRA.out] at q1
                  have hjj : (i : Int) = (j : Int) := by omega
                  have HYE := Lib.hid (show [3 - 2 * kd] = [slackOf j kd i] by unfold slackOf; rw [if_pos hij])
                  have HJJ := Lib.hid hij
                  clear hij
                  have kd3 : kd ≤ 2 := by omega
                  have p0 := cell_of_block (j := 0) HPX.out rfl
                  go_upto_region 21 with fail
                  clear p0 q1 y1
                  obtain ⟨y, hy⟩ : ∃ y, 3 - 2 * kd = y := ⟨_, rfl⟩
                  rw [hy] at HYE ⊢
                  clear hy hjj kd3
                  replace HTX := Lib.hid (HTX.out.call (show Below wr.heap.size wr wr.drew from Below.drawn wr 1))
                  replace HPX := Lib.hid (((show Below wr.heap.size wr wr.drew from Below.drawn wr 1).block pb (lt_of_block HPX.out)).trans HPX.out)
                  have HIB := Lib.hid (show X.ib w wr.drew from HXI.out ▸ HTX.out.own.ib _ (by simp))
                  refine wp_region_held_drew (S := fun W => W.cell? ⟨pb, 0, none⟩ = some (.slice (some ⟨g, oo, none⟩) k ac)) (by kernel_rfl) (cell_of_block (j := 0) HPX.out rfl) (fun hHeld => ?_)
                  generalize wr.drew = wd at HTX HPX HIB hHeld ⊢
                  refine tk 0 (some 88) (v := ?_) rfl rfl ?_ ?_
                  rotate_left
                  · (intro w _; go_simp; (try with_reducible rfl))
                  simp only [Act.put, stB, stZ, stS]
                  refine tk 1 (some 89) (v := ?_) rfl rfl ?_ ?_
                  rotate_left
                  · (intro w hSw; (try dsimp only at hSw); go_simp; (try with_reducible rfl))
                  simp only [Act.put, stB, stZ, stS]
                  refine tk 2 (some 90) (v := ?_) rfl rfl ?_ ?_
                  rotate_left
                  · (intro w _; go_simp; (try with_reducible rfl))
                  simp only [Act.put, stB, stZ, stS]
                  refine tk 3 (some 91) (v := ?_) rfl rfl ?_ ?_
                  rotate_left
                  · (intro w _; go_simp; (try with_reducible rfl))
                  simp only [Act.put, stB, stZ, stS]
                  refine tk 4 (some 92) (v := ?_) rfl rfl ?_ ?_
                  rotate_left
                  · (intro w hSw; (try dsimp only at hSw); go_simp; (try with_reducible rfl))
                  simp only [Act.put, stB, stZ, stS]
                  refine tk 5 (some 93) (v := ?_) rfl rfl ?_ ?_
                  rotate_left
                  · (intro w _; go_simp; (try with_reducible rfl))
                  simp only [Act.put, stB, stZ, stS]
                  refine tk 6 (some 94) (v := ?_) rfl rfl ?_ ?_
                  rotate_left
                  · (intro w hSw; (try dsimp only at hSw); go_simp; (try with_reducible rfl))
                  simp only [Act.put, stB, stZ, stS]
                  refine tk 8 (some 96) (v := ?_) rfl rfl ?_ ?_
                  rotate_left
                  · (intro w _; go_simp; (try with_reducible rfl))
                  simp only [Act.put, stB, stZ, stS]
                  refine wpAnyH_ready (rs := [7, 9]) (by kernel_rfl) (by simp) ?_
                  refine (AllReadyH.cons (o := { dst := some 95, op := Op.load 57 (Operand.tmp 94), type := 57, pos := "ref.go:86", after := #[{ on := 6, ground := Ground.data }], guard := none }) rfl (fun K hK => ?_) (AllReadyH.cons (o := { dst := some 97, op := Op.buildSlice 57 1 #[(0, Operand.tmp 96)], type := 57, pos := "ref.go:86", after := #[{ on := 8, ground := Ground.data }], guard := none }) rfl (fun K hK => ?_) AllReadyH.nil))
                  · skip
                    have c1 := TX.cellA HTX.out.mid i HI.out
                    rw [HXI.out] at c1
                    unfold IS.v at c1
                    go_simp
                    clear c1
                    refine hK.out _ _ (hHeld) (fun hHeld2 => ?_)
                    clear hK K hHeld
                    rename _ => hHeld
                    try simp only [Act.put, stB, stZ, stS]
                    refine wpAnyH_ready (rs := [9]) (by kernel_rfl) (by simp) ?_
                    refine (AllReadyH.cons (o := { dst := some 97, op := Op.buildSlice 57 1 #[(0, Operand.tmp 96)], type := 57, pos := "ref.go:86", after := #[{ on := 8, ground := Ground.data }], guard := none }) rfl (fun K hK => ?_) AllReadyH.nil)
                    go_simp
                    have hb := belowBox wd (.cells #[.int .i64 y] 3)
                    have HM3 := Lib.hid (show Mid (wd.alloc (.cells #[.int .i64 y] 3)) w.heap.size 3 1 (.slice X.a X.n X.c) X.n (X.xs.map IV) from HIB.out.mid.alloc (.cells #[.int .i64 y] 3))
                    have HS3 := Lib.hid (show Src Try.prog 1 57 (.slice (some ⟨wd.heap.size, 0, none⟩) 1 1) 1 [.int .i64 y] (wd.alloc (.cells #[.int .i64 y] 3)) from (Sl.lit wd 3 1 1 [.int .i64 y] (by unfold maxLen; omega) rfl).src (P := Try.prog) Try.underlying57 (fun u hu => by rw [List.mem_singleton.1 hu]; rfl))
                    have HW3 := Lib.hid (show w.heap.size ≤ (wd.alloc (.cells #[.int .i64 y] 3)).heap.size from Nat.le_trans HTX.out.bel.size hb.size)
                    have hKK : (wd.alloc (.cells #[.int .i64 y] 3)).cell? ⟨pb, 0, none⟩ = some (.slice (some ⟨g, oo, none⟩) k ac) := hu hb (cell_of_block (j := 0) HPX.out rfl)
                    clear hb
                    refine hK.out _ _ (hKK) (fun hHeld2 => ?_)
                    clear hK K hHeld
                    rename _ => hHeld
                    try simp only [Act.put, stB, stZ, stS]
                    refine wpAnyH_ready (rs := [10]) (by kernel_rfl) (by simp) ?_
                    refine (AllReadyH.cons (o := { dst := some 98, op := Op.call { callee := Callee.builtin Builtin.append, args := #[Operand.tmp 95, Operand.tmp 97], argTypes := #[57, 57] }, type := 57, pos := "ref.go:86", after := #[{ on := 7, ground := Ground.data }, { on := 9, ground := Ground.data }], guard := none }) rfl (fun K hK => ?_) AllReadyH.nil)
                    refine step_append_mid (v := .slice X.a X.n X.c) (by rfl) _ _ 57 57 (by rfl) ti (.int .i64 0) 8 Try.underlying57 hi1 hi2 hi3 hi4 rfl (by rfl) HM3.out _ (by rfl) 1 _ HS3.out (by have := HXN.out; unfold maxLen; omega) (by have := HXN.out; omega) HW3.out ?_
                    intro a9 c9 V4 hmo hgo hbo
                    have h9 := HTX.out.appA i HI.out HXI.out [y] rfl hmo hgo hbo
                    have HT9 := Lib.hid h9.1
                    have HC9 := Lib.hid h9.2.1
                    have HF9 := Lib.hid h9.2.2.1
                    have HP9 := Lib.hid (h9.2.2.2 _ _ HPX.out)
                    clear hmo hgo hbo h9
                    dsimp only
                    refine hK.out _ _ (cell_of_block (j := 0) HP9.out rfl) (fun hHeld2 => ?_)
                    clear hK K hHeld
                    rename _ => hHeld
                    try simp only [Act.put, stB, stZ, stS]
                    refine tk 11 (some 99) (v := ?_) rfl rfl ?_ ?_
                    rotate_left
                    · (intro w hSw; (try dsimp only at hSw); go_simp; (try with_reducible rfl))
                    simp only [Act.put, stB, stZ, stS]
                    refine wpAnyH_ready (rs := [12]) (by kernel_rfl) (by simp) ?_
                    refine (AllReadyH.cons (o := { dst := none, op := Op.store 57 (Operand.tmp 99) (Operand.tmp 98), type := 0, pos := "ref.go:86", after := #[{ on := 11, ground := Ground.data }, { on := 10, ground := Ground.data }, { on := 10, ground := Ground.chain }, { on := 0, ground := Ground.phase }, { on := 1, ground := Ground.phase }, { on := 2, ground := Ground.phase }, { on := 3, ground := Ground.phase }, { on := 4, ground := Ground.phase }, { on := 5, ground := Ground.phase }, { on := 6, ground := Ground.phase }, { on := 7, ground := Ground.phase }, { on := 8, ground := Ground.phase }, { on := 9, ground := Ground.phase }, { on := 10, ground := Ground.phase }], guard := none }) rfl (fun K hK => ?_) AllReadyH.nil)
                    have c1 := HC9.out
                    have f1 := HF9.out
                    go_simp
                    clear c1 f1
                    have HTY := Lib.hid HT9.out.1
                    have HPY := Lib.hid (HT9.out.2 _ _ HPX.out)
                    refine hK.out _ _ (cell_of_block (j := 0) HPY.out rfl) (fun hHeld2 => ?_)
                    clear hK K hHeld
                    rename _ => hHeld
                    try simp only [Act.put, stB, stZ, stS]
                    refine wpAnyH_done (by kernel_rfl) ?_ _
                    (try simp only [Exit.inBlock, Exit.then])
                    clear hHeld
                    go_wp2_with fail
                    go_roundw
                    case rel => exact ⟨i + 1, Bs.set i ⟨X.xs ++ [y], a9, X.n + 1, c9⟩, by omega, by go_num, HTY.out, by rw [List.map_set, HMB.out]; show List.set _ i (X.xs ++ [y]) = _; rw [HXX.out, HYE.out]; exact part_step _ _ i HIL.out, HPY.out⟩
                    case measure => simp [intOf]; omega
                  · skip
                    go_simp
                    have hb := belowBox wd (.cells #[.int .i64 y] 3)
                    have HM3 := Lib.hid (show Mid (wd.alloc (.cells #[.int .i64 y] 3)) w.heap.size 3 1 (.slice X.a X.n X.c) X.n (X.xs.map IV) from HIB.out.mid.alloc (.cells #[.int .i64 y] 3))
                    have HS3 := Lib.hid (show Src Try.prog 1 57 (.slice (some ⟨wd.heap.size, 0, none⟩) 1 1) 1 [.int .i64 y] (wd.alloc (.cells #[.int .i64 y] 3)) from (Sl.lit wd 3 1 1 [.int .i64 y] (by unfold maxLen; omega) rfl).src (P := Try.prog) Try.underlying57 (fun u hu => by rw [List.mem_singleton.1 hu]; rfl))
                    have HW3 := Lib.hid (show w.heap.size ≤ (wd.alloc (.cells #[.int .i64 y] 3)).heap.size from Nat.le_trans HTX.out.bel.size hb.size)
                    have hKK : (wd.alloc (.cells #[.int .i64 y] 3)).cell? ⟨pb, 0, none⟩ = some (.slice (some ⟨g, oo, none⟩) k ac) := hu hb (cell_of_block (j := 0) HPX.out rfl)
                    clear hb
                    refine hK.out _ _ (hKK) (fun hHeld2 => ?_)
                    clear hK K hHeld
                    rename _ => hHeld
                    try simp only [Act.put, stB, stZ, stS]
                    refine wpAnyH_ready (rs := [7]) (by kernel_rfl) (by simp) ?_
                    refine (AllReadyH.cons (o := { dst := some 95, op := Op.load 57 (Operand.tmp 94), type := 57, pos := "ref.go:86", after := #[{ on := 6, ground := Ground.data }], guard := none }) rfl (fun K hK => ?_) AllReadyH.nil)
                    have c1 := TX.cellA (HTX.out.call (belowBox wd (.cells #[.int .i64 y] 3))).mid i HI.out
                    rw [HXI.out] at c1
                    unfold IS.v at c1
                    go_simp
                    clear c1
                    refine hK.out _ _ (hHeld) (fun hHeld2 => ?_)
                    clear hK K hHeld
                    rename _ => hHeld
                    try simp only [Act.put, stB, stZ, stS]
                    refine wpAnyH_ready (rs := [10]) (by kernel_rfl) (by simp) ?_
                    refine (AllReadyH.cons (o := { dst := some 98, op := Op.call { callee := Callee.builtin Builtin.append, args := #[Operand.tmp 95, Operand.tmp 97], argTypes := #[57, 57] }, type := 57, pos := "ref.go:86", after := #[{ on := 7, ground := Ground.data }, { on := 9, ground := Ground.data }], guard := none }) rfl (fun K hK => ?_) AllReadyH.nil)
                    refine step_append_mid (v := .slice X.a X.n X.c) (by rfl) _ _ 57 57 (by rfl) ti (.int .i64 0) 8 Try.underlying57 hi1 hi2 hi3 hi4 rfl (by rfl) HM3.out _ (by rfl) 1 _ HS3.out (by have := HXN.out; unfold maxLen; omega) (by have := HXN.out; omega) HW3.out ?_
                    intro a9 c9 V4 hmo hgo hbo
                    have h9 := HTX.out.appA i HI.out HXI.out [y] rfl hmo hgo hbo
                    have HT9 := Lib.hid h9.1
                    have HC9 := Lib.hid h9.2.1
                    have HF9 := Lib.hid h9.2.2.1
                    have HP9 := Lib.hid (h9.2.2.2 _ _ HPX.out)
                    clear hmo hgo hbo h9
                    dsimp only
                    refine hK.out _ _ (cell_of_block (j := 0) HP9.out rfl) (fun hHeld2 => ?_)
                    clear hK K hHeld
                    rename _ => hHeld
                    try simp only [Act.put, stB, stZ, stS]
                    refine tk 11 (some 99) (v := ?_) rfl rfl ?_ ?_
                    rotate_left
                    · (intro w hSw; (try dsimp only at hSw); go_simp; (try with_reducible rfl))
                    simp only [Act.put, stB, stZ, stS]
                    refine wpAnyH_ready (rs := [12]) (by kernel_rfl) (by simp) ?_
                    refine (AllReadyH.cons (o := { dst := none, op := Op.store 57 (Operand.tmp 99) (Operand.tmp 98), type := 0, pos := "ref.go:86", after := #[{ on := 11, ground := Ground.data }, { on := 10, ground := Ground.data }, { on := 10, ground := Ground.chain }, { on := 0, ground := Ground.phase }, { on := 1, ground := Ground.phase }, { on := 2, ground := Ground.phase }, { on := 3, ground := Ground.phase }, { on := 4, ground := Ground.phase }, { on := 5, ground := Ground.phase }, { on := 6, ground := Ground.phase }, { on := 7, ground := Ground.phase }, { on := 8, ground := Ground.phase }, { on := 9, ground := Ground.phase }, { on := 10, ground := Ground.phase }], guard := none }) rfl (fun K hK => ?_) AllReadyH.nil)
                    have c1 := HC9.out
                    have f1 := HF9.out
                    go_simp
                    clear c1 f1
                    have HTY := Lib.hid HT9.out.1
                    have HPY := Lib.hid (HT9.out.2 _ _ HPX.out)
                    refine hK.out _ _ (cell_of_block (j := 0) HPY.out rfl) (fun hHeld2 => ?_)
                    clear hK K hHeld
                    rename _ => hHeld
                    try simp only [Act.put, stB, stZ, stS]
                    refine wpAnyH_done (by kernel_rfl) ?_ _
                    (try simp only [Exit.inBlock, Exit.then])
                    clear hHeld
                    go_wp2_with fail
                    go_roundw
                    case rel => exact ⟨i + 1, Bs.set i ⟨X.xs ++ [y], a9, X.n + 1, c9⟩, by omega, by go_num, HTY.out, by rw [List.map_set, HMB.out]; show List.set _ i (X.xs ++ [y]) = _; rw [HXX.out, HYE.out]; exact part_step _ _ i HIL.out, HPY.out⟩
                    case measure => simp [intOf]; omega
                · have hjj : ¬ (i : Int) = (j : Int) := by omega
                  have hjd : decide ((i : Int) = (j : Int)) = false := by simpa using hjj
                  have HYE := Lib.hid (show [(0 : Int)] = [slackOf j kd i] by unfold slackOf; rw [if_neg hij])
                  have p0 := cell_of_block (j := 0) HPX.out rfl
                  go_upto_region 21 with fail
                  clear p0 hjd hjj hij
                  replace HTX := Lib.hid (HTX.out.call (show Below wr.heap.size wr wr.drew from Below.drawn wr 1))
                  replace HPX := Lib.hid (((show Below wr.heap.size wr wr.drew from Below.drawn wr 1).block pb (lt_of_block HPX.out)).trans HPX.out)
                  have HIB := Lib.hid (show X.ib w wr.drew from HXI.out ▸ HTX.out.own.ib _ (by simp))
                  refine wp_region_held_drew (S := fun W => W.cell? ⟨pb, 0, none⟩ = some (.slice (some ⟨g, oo, none⟩) k ac)) (by kernel_rfl) (cell_of_block (j := 0) HPX.out rfl) (fun hHeld => ?_)
                  generalize wr.drew = wd at HTX HPX HIB hHeld ⊢
                  refine tk 0 (some 88) (v := ?_) rfl rfl ?_ ?_
                  rotate_left
                  · (intro w _; go_simp; (try with_reducible rfl))
                  simp only [Act.put, stB, stZ, stS]
                  refine tk 1 (some 89) (v := ?_) rfl rfl ?_ ?_
                  rotate_left
                  · (intro w hSw; (try dsimp only at hSw); go_simp; (try with_reducible rfl))
                  simp only [Act.put, stB, stZ, stS]
                  refine tk 2 (some 90) (v := ?_) rfl rfl ?_ ?_
                  rotate_left
                  · (intro w _; go_simp; (try with_reducible rfl))
                  simp only [Act.put, stB, stZ, stS]
                  refine tk 3 (some 91) (v := ?_) rfl rfl ?_ ?_
                  rotate_left
                  · (intro w _; go_simp; (try with_reducible rfl))
                  simp only [Act.put, stB, stZ, stS]
                  refine tk 4 (some 92) (v := ?_) rfl rfl ?_ ?_
                  rotate_left
                  · (intro w hSw; (try dsimp only at hSw); go_simp; (try with_reducible rfl))
                  simp only [Act.put, stB, stZ, stS]
                  refine tk 5 (some 93) (v := ?_) rfl rfl ?_ ?_
                  rotate_left
                  · (intro w _; go_simp; (try with_reducible rfl))
                  simp only [Act.put, stB, stZ, stS]
                  refine tk 6 (some 94) (v := ?_) rfl rfl ?_ ?_
                  rotate_left
                  · (intro w hSw; (try dsimp only at hSw); go_simp; (try with_reducible rfl))
                  simp only [Act.put, stB, stZ, stS]
                  refine tk 8 (some 96) (v := ?_) rfl rfl ?_ ?_
                  rotate_left
                  · (intro w _; go_simp; (try with_reducible rfl))
                  simp only [Act.put, stB, stZ, stS]
                  refine wpAnyH_ready (rs := [7, 9]) (by kernel_rfl) (by simp) ?_
                  refine (AllReadyH.cons (o := { dst := some 95, op := Op.load 57 (Operand.tmp 94), type := 57, pos := "ref.go:86", after := #[{ on := 6, ground := Ground.data }], guard := none }) rfl (fun K hK => ?_) (AllReadyH.cons (o := { dst := some 97, op := Op.buildSlice 57 1 #[(0, Operand.tmp 96)], type := 57, pos := "ref.go:86", after := #[{ on := 8, ground := Ground.data }], guard := none }) rfl (fun K hK => ?_) AllReadyH.nil))
                  · skip
                    have c1 := TX.cellA HTX.out.mid i HI.out
                    rw [HXI.out] at c1
                    unfold IS.v at c1
                    go_simp
                    clear c1
                    refine hK.out _ _ (hHeld) (fun hHeld2 => ?_)
                    clear hK K hHeld
                    rename _ => hHeld
                    try simp only [Act.put, stB, stZ, stS]
                    refine wpAnyH_ready (rs := [9]) (by kernel_rfl) (by simp) ?_
                    refine (AllReadyH.cons (o := { dst := some 97, op := Op.buildSlice 57 1 #[(0, Operand.tmp 96)], type := 57, pos := "ref.go:86", after := #[{ on := 8, ground := Ground.data }], guard := none }) rfl (fun K hK => ?_) AllReadyH.nil)
                    go_simp
                    have hb := belowBox wd (.cells #[.int .i64 0] 3)
                    have HM3 := Lib.hid (show Mid (wd.alloc (.cells #[.int .i64 0] 3)) w.heap.size 3 1 (.slice X.a X.n X.c) X.n (X.xs.map IV) from HIB.out.mid.alloc (.cells #[.int .i64 0] 3))
                    have HS3 := Lib.hid (show Src Try.prog 1 57 (.slice (some ⟨wd.heap.size, 0, none⟩) 1 1) 1 [.int .i64 0] (wd.alloc (.cells #[.int .i64 0] 3)) from (Sl.lit wd 3 1 1 [.int .i64 0] (by unfold maxLen; omega) rfl).src (P := Try.prog) Try.underlying57 (fun u hu => by rw [List.mem_singleton.1 hu]; rfl))
                    have HW3 := Lib.hid (show w.heap.size ≤ (wd.alloc (.cells #[.int .i64 0] 3)).heap.size from Nat.le_trans HTX.out.bel.size hb.size)
                    have hKK : (wd.alloc (.cells #[.int .i64 0] 3)).cell? ⟨pb, 0, none⟩ = some (.slice (some ⟨g, oo, none⟩) k ac) := hu hb (cell_of_block (j := 0) HPX.out rfl)
                    clear hb
                    refine hK.out _ _ (hKK) (fun hHeld2 => ?_)
                    clear hK K hHeld
                    rename _ => hHeld
                    try simp only [Act.put, stB, stZ, stS]
                    refine wpAnyH_ready (rs := [10]) (by kernel_rfl) (by simp) ?_
                    refine (AllReadyH.cons (o := { dst := some 98, op := Op.call { callee := Callee.builtin Builtin.append, args := #[Operand.tmp 95, Operand.tmp 97], argTypes := #[57, 57] }, type := 57, pos := "ref.go:86", after := #[{ on := 7, ground := Ground.data }, { on := 9, ground := Ground.data }], guard := none }) rfl (fun K hK => ?_) AllReadyH.nil)
                    refine step_append_mid (v := .slice X.a X.n X.c) (by rfl) _ _ 57 57 (by rfl) ti (.int .i64 0) 8 Try.underlying57 hi1 hi2 hi3 hi4 rfl (by rfl) HM3.out _ (by rfl) 1 _ HS3.out (by have := HXN.out; unfold maxLen; omega) (by have := HXN.out; omega) HW3.out ?_
                    intro a9 c9 V4 hmo hgo hbo
                    have h9 := HTX.out.appA i HI.out HXI.out [(0 : Int)] rfl hmo hgo hbo
                    have HT9 := Lib.hid h9.1
                    have HC9 := Lib.hid h9.2.1
                    have HF9 := Lib.hid h9.2.2.1
                    have HP9 := Lib.hid (h9.2.2.2 _ _ HPX.out)
                    clear hmo hgo hbo h9
                    dsimp only
                    refine hK.out _ _ (cell_of_block (j := 0) HP9.out rfl) (fun hHeld2 => ?_)
                    clear hK K hHeld
                    rename _ => hHeld
                    try simp only [Act.put, stB, stZ, stS]
                    refine tk 11 (some 99) (v := ?_) rfl rfl ?_ ?_
                    rotate_left
                    · (intro w hSw; (try dsimp only at hSw); go_simp; (try with_reducible rfl))
                    simp only [Act.put, stB, stZ, stS]
                    refine wpAnyH_ready (rs := [12]) (by kernel_rfl) (by simp) ?_
                    refine (AllReadyH.cons (o := { dst := none, op := Op.store 57 (Operand.tmp 99) (Operand.tmp 98), type := 0, pos := "ref.go:86", after := #[{ on := 11, ground := Ground.data }, { on := 10, ground := Ground.data }, { on := 10, ground := Ground.chain }, { on := 0, ground := Ground.phase }, { on := 1, ground := Ground.phase }, { on := 2, ground := Ground.phase }, { on := 3, ground := Ground.phase }, { on := 4, ground := Ground.phase }, { on := 5, ground := Ground.phase }, { on := 6, ground := Ground.phase }, { on := 7, ground := Ground.phase }, { on := 8, ground := Ground.phase }, { on := 9, ground := Ground.phase }, { on := 10, ground := Ground.phase }], guard := none }) rfl (fun K hK => ?_) AllReadyH.nil)
                    have c1 := HC9.out
                    have f1 := HF9.out
                    go_simp
                    clear c1 f1
                    have HTY := Lib.hid HT9.out.1
                    have HPY := Lib.hid (HT9.out.2 _ _ HPX.out)
                    refine hK.out _ _ (cell_of_block (j := 0) HPY.out rfl) (fun hHeld2 => ?_)
                    clear hK K hHeld
                    rename _ => hHeld
                    try simp only [Act.put, stB, stZ, stS]
                    refine wpAnyH_done (by kernel_rfl) ?_ _
                    (try simp only [Exit.inBlock, Exit.then])
                    clear hHeld
                    go_wp2_with fail
                    go_roundw
                    case rel => exact ⟨i + 1, Bs.set i ⟨X.xs ++ [(0 : Int)], a9, X.n + 1, c9⟩, by omega, by go_num, HTY.out, by rw [List.map_set, HMB.out]; show List.set _ i (X.xs ++ [(0 : Int)]) = _; rw [HXX.out, HYE.out]; exact part_step _ _ i HIL.out, HPY.out⟩
                    case measure => simp [intOf]; omega
                  · skip
                    go_simp
                    have hb := belowBox wd (.cells #[.int .i64 0] 3)
                    have HM3 := Lib.hid (show Mid (wd.alloc (.cells #[.int .i64 0] 3)) w.heap.size 3 1 (.slice X.a X.n X.c) X.n (X.xs.map IV) from HIB.out.mid.alloc (.cells #[.int .i64 0] 3))
                    have HS3 := Lib.hid (show Src Try.prog 1 57 (.slice (some ⟨wd.heap.size, 0, none⟩) 1 1) 1 [.int .i64 0] (wd.alloc (.cells #[.int .i64 0] 3)) from (Sl.lit wd 3 1 1 [.int .i64 0] (by unfold maxLen; omega) rfl).src (P := Try.prog) Try.underlying57 (fun u hu => by rw [List.mem_singleton.1 hu]; rfl))
                    have HW3 := Lib.hid (show w.heap.size ≤ (wd.alloc (.cells #[.int .i64 0] 3)).heap.size from Nat.le_trans HTX.out.bel.size hb.size)
                    have hKK : (wd.alloc (.cells #[.int .i64 0] 3)).cell? ⟨pb, 0, none⟩ = some (.slice (some ⟨g, oo, none⟩) k ac) := hu hb (cell_of_block (j := 0) HPX.out rfl)
                    clear hb
                    refine hK.out _ _ (hKK) (fun hHeld2 => ?_)
                    clear hK K hHeld
                    rename _ => hHeld
                    try simp only [Act.put, stB, stZ, stS]
                    refine wpAnyH_ready (rs := [7]) (by kernel_rfl) (by simp) ?_
                    refine (AllReadyH.cons (o := { dst := some 95, op := Op.load 57 (Operand.tmp 94), type := 57, pos := "ref.go:86", after := #[{ on := 6, ground := Ground.data }], guard := none }) rfl (fun K hK => ?_) AllReadyH.nil)
                    have c1 := TX.cellA (HTX.out.call (belowBox wd (.cells #[.int .i64 0] 3))).mid i HI.out
                    rw [HXI.out] at c1
                    unfold IS.v at c1
                    go_simp
                    clear c1
                    refine hK.out _ _ (hHeld) (fun hHeld2 => ?_)
                    clear hK K hHeld
                    rename _ => hHeld
                    try simp only [Act.put, stB, stZ, stS]
                    refine wpAnyH_ready (rs := [10]) (by kernel_rfl) (by simp) ?_
                    refine (AllReadyH.cons (o := { dst := some 98, op := Op.call { callee := Callee.builtin Builtin.append, args := #[Operand.tmp 95, Operand.tmp 97], argTypes := #[57, 57] }, type := 57, pos := "ref.go:86", after := #[{ on := 7, ground := Ground.data }, { on := 9, ground := Ground.data }], guard := none }) rfl (fun K hK => ?_) AllReadyH.nil)
                    refine step_append_mid (v := .slice X.a X.n X.c) (by rfl) _ _ 57 57 (by rfl) ti (.int .i64 0) 8 Try.underlying57 hi1 hi2 hi3 hi4 rfl (by rfl) HM3.out _ (by rfl) 1 _ HS3.out (by have := HXN.out; unfold maxLen; omega) (by have := HXN.out; omega) HW3.out ?_
                    intro a9 c9 V4 hmo hgo hbo
                    have h9 := HTX.out.appA i HI.out HXI.out [(0 : Int)] rfl hmo hgo hbo
                    have HT9 := Lib.hid h9.1
                    have HC9 := Lib.hid h9.2.1
                    have HF9 := Lib.hid h9.2.2.1
                    have HP9 := Lib.hid (h9.2.2.2 _ _ HPX.out)
                    clear hmo hgo hbo h9
                    dsimp only
                    refine hK.out _ _ (cell_of_block (j := 0) HP9.out rfl) (fun hHeld2 => ?_)
                    clear hK K hHeld
                    rename _ => hHeld
                    try simp only [Act.put, stB, stZ, stS]
                    refine tk 11 (some 99) (v := ?_) rfl rfl ?_ ?_
                    rotate_left
                    · (intro w hSw; (try dsimp only at hSw); go_simp; (try with_reducible rfl))
                    simp only [Act.put, stB, stZ, stS]
                    refine wpAnyH_ready (rs := [12]) (by kernel_rfl) (by simp) ?_
                    refine (AllReadyH.cons (o := { dst := none, op := Op.store 57 (Operand.tmp 99) (Operand.tmp 98), type := 0, pos := "ref.go:86", after := #[{ on := 11, ground := Ground.data }, { on := 10, ground := Ground.data }, { on := 10, ground := Ground.chain }, { on := 0, ground := Ground.phase }, { on := 1, ground := Ground.phase }, { on := 2, ground := Ground.phase }, { on := 3, ground := Ground.phase }, { on := 4, ground := Ground.phase }, { on := 5, ground := Ground.phase }, { on := 6, ground := Ground.phase }, { on := 7, ground := Ground.phase }, { on := 8, ground := Ground.phase }, { on := 9, ground := Ground.phase }, { on := 10, ground := Ground.phase }], guard := none }) rfl (fun K hK => ?_) AllReadyH.nil)
                    have c1 := HC9.out
                    have f1 := HF9.out
                    go_simp
                    clear c1 f1
                    have HTY := Lib.hid HT9.out.1
                    have HPY := Lib.hid (HT9.out.2 _ _ HPX.out)
                    refine hK.out _ _ (cell_of_block (j := 0) HPY.out rfl) (fun hHeld2 => ?_)
                    clear hK K hHeld
                    rename _ => hHeld
                    try simp only [Act.put, stB, stZ, stS]
                    refine wpAnyH_done (by kernel_rfl) ?_ _
                    (try simp only [Exit.inBlock, Exit.then])
                    clear hHeld
                    go_wp2_with fail
                    go_roundw
                    case rel => exact ⟨i + 1, Bs.set i ⟨X.xs ++ [(0 : Int)], a9, X.n + 1, c9⟩, by omega, by go_num, HTY.out, by rw [List.map_set, HMB.out]; show List.set _ i (X.xs ++ [(0 : Int)]) = _; rw [HXX.out, HYE.out]; exact part_step _ _ i HIL.out, HPY.out⟩
                    case measure => simp [intOf]; omega
              · obtain rfl : k = i := by omega
                have hlen : (tabI q j).length = k := by rw [tabI_len, ← HQE.out, List.length_map, HML.out]
                have hpa := part_all (tabI q j) (slackOf j kd)
                rw [hlen] at hpa
                have hmb := HMB.out
                rw [hpa] at hmb
                have HMC := Lib.hid hmb
                clear hlen hpa hmb
                go_wp2_with fail
                go_roundw
                case rel => exact ⟨j + 1, a8, cn + 1, c8, Bs, by omega, by go_num, by rw [HD2.out]; exact HTX.out, by rw [HT2.out]; exact HMC.out, HPX.out⟩
                case measure => simp [intOf]; omega
        · obtain rfl : k = j := by omega
          have p0 := cell_of_block (j := 0) HPX.out rfl
          have p1 := cell_of_block (j := 1) HPX.out rfl
          have p2 := cell_of_block (j := 2) HPX.out rfl
          have p3 := cell_of_block (j := 3) HPX.out rfl
          have z0 := cell_of_block (j := 0) HTX.out.zbx rfl
          have z1 := cell_of_block (j := 1) HTX.out.zbx rfl
          have z2 := cell_of_block (j := 2) HTX.out.zbx rfl
          have z3 := cell_of_block (j := 3) HTX.out.zbx rfl
          have f0 : wr.frozen? ⟨zb, 0, none⟩ = false := free_of_block HTX.out.zbx
          have f1 : wr.frozen? ⟨zb, 1, none⟩ = false := free_of_block HTX.out.zbx
          have f2 : wr.frozen? ⟨zb, 2, none⟩ = false := free_of_block HTX.out.zbx
          have f3 : wr.frozen? ⟨zb, 3, none⟩ = false := free_of_block HTX.out.zbx
          go_wp2_with fail
          have s1 := heap_setCell_same wr zb 0 _ _ (.slice aa k ac) HTX.out.zbx
          have s2 := heap_setCell_same _ zb 1 _ _ (.slice ba k bc) s1
          have s3 := heap_setCell_same _ zb 2 _ _ (.slice ca' cn cc') s2
          have s4 := heap_setCell_same _ zb 3 _ _ (.int .i64 n) s3
          have j0 := cell_of_block (j := 0) s4 rfl
          have j1 := cell_of_block (j := 1) s4 rfl
          have j2 := cell_of_block (j := 2) s4 rfl
          have j3 := cell_of_block (j := 3) s4 rfl
          refine bodyPost_ret (v := .agg #[.slice aa k ac, .slice ba k bc, .slice ca' cn cc', .int .i64 n]) (by simp [results, Try.results26, go_sem, j0, j1, j2, j3]) rfl ?_
          have hk2 := (((Keeps.setCell wr ⟨zb, 0, none⟩ (.slice aa k ac) (S := fun z => z = zb) rfl).trans (Keeps.setCell _ ⟨zb, 1, none⟩ (.slice ba k bc) (S := fun z => z = zb) rfl) fun _ _ h => h).trans (Keeps.setCell _ ⟨zb, 2, none⟩ (.slice ca' cn cc') (S := fun z => z = zb) rfl) fun _ _ h => h).trans (Keeps.setCell _ ⟨zb, 3, none⟩ (.int .i64 n) (S := fun z => z = zb) rfl) fun _ _ h => h
          have hf := Foreign.one HTX.out.zbx HGZ.out
          rw [HQE.out]
          exact ⟨aa, ac, ba, bc, ca', cn, cc', As, rfl, HTX.out.own.foreign hf hk2 (by decide), hf.mids hk2 (by decide) HTX.out.mid, HMA.out, HTX.out.bel.trans (hk2.below HTX.out.bel.size hf.ge)⟩
end Go.Proofs.Ytndndfobkbeolaa
namespace Go.Proofs.Ytndndfobkbeolaa
open Go.RowKit Go.Extern.Stop Go.Stop Go.Extern
def extra (ks : List Int) : Nat → Nat → List Int
  | 0, _ => []
  | k + 1, r => match ks[k]? with
    | none => extra ks k r
    | some kd => if kd = 3 then extra ks k r else extra ks k r ++ [slackOf k kd r]
theorem tabI_eq (q : List (List Int × Int × Int)) : ∀ k, tabI q k = q.mapIdx fun r x => x.1 ++ extra (q.map (·.2.1)) k r
  | 0 => by
    unfold tabI extra
    apply List.ext_getElem <;> simp
  | k + 1 => by
    have ih := tabI_eq q k
    unfold tabI
    cases h : q[k]? with
    | none =>
      have h' : (q.map (·.2.1))[k]? = none := by rw [List.getElem?_map, h]; rfl
      simp only [extra, h']
      exact ih
    | some x =>
      have h' : (q.map (·.2.1))[k]? = some x.2.1 := by rw [List.getElem?_map, h]; rfl
      simp only [extra, h']
      by_cases h3 : x.2.1 = 3
      · simp only [h3, if_true]; exact ih
      · simp only [h3, if_false]
        rw [ih]
        apply List.ext_getElem
        · simp
        · intro t h1 h2
          simp [List.append_assoc]
theorem slacks_app : ∀ (a b : List Int), slacks (a ++ b) = slacks a + slacks b
  | [], b => by simp [slacks]
  | k :: a, b => by
    simp only [List.cons_append, slacks]
    rw [slacks_app a b]
    omega
theorem slacks_take {ks : List Int} {k : Nat} {kd : Int} (h : ks[k]? = some kd) : slacks (ks.take (k + 1)) = slacks (ks.take k) + if kd = 3 then 0 else 1 := by
  rw [List.take_add_one, h, slacks_app]
  simp [slacks]
theorem slacks_mono (ks : List Int) (a b : Nat) (h : a ≤ b) : slacks (ks.take a) ≤ slacks (ks.take b) := by
  obtain ⟨c, rfl⟩ := Nat.exists_eq_add_of_le h
  rw [List.take_add, slacks_app]
  omega
theorem tabC_eq (cost : List Int) (q : List (List Int × Int × Int)) : ∀ k, tabC cost q k = cost ++ List.replicate (slacks ((q.map (·.2.1)).take k)) 0
  | 0 => by simp [tabC, slacks]
  | k + 1 => by
    have ih := tabC_eq cost q k
    unfold tabC
    cases h : q[k]? with
    | none =>
      have h' : (q.map (·.2.1))[k]? = none := by rw [List.getElem?_map, h]; rfl
      rw [List.take_add_one, h']
      simpa using ih
    | some x =>
      have h' : (q.map (·.2.1))[k]? = some x.2.1 := by rw [List.getElem?_map, h]; rfl
      rw [slacks_take h']
      by_cases h3 : x.2.1 = 3
      · simp only [h3, if_true, Nat.add_zero]; exact ih
      · simp only [h3, if_false]
        rw [ih, List.replicate_succ', List.append_assoc]
theorem extra_eq (ks : List Int) (r : Nat) (kr : Int) (hr : ks[r]? = some kr) : ∀ k, k ≤ ks.length → extra ks k r = if r < k ∧ kr ≠ 3 then (List.replicate (slacks (ks.take k)) 0).set (slacks (ks.take r)) (3 - 2 * kr) else List.replicate (slacks (ks.take k)) 0
  | 0, _ => by simp [extra, slacks]
  | k + 1, hk => by
    have ih := extra_eq ks r kr hr k (by omega)
    obtain ⟨kd, h⟩ : ∃ kd, ks[k]? = some kd := ⟨_, List.getElem?_eq_getElem (by omega)⟩
    simp only [extra, h]
    rw [slacks_take h]
    by_cases h3 : kd = 3
    · simp only [h3, if_true, Nat.add_zero]
      rw [ih]
      by_cases hrk : r = k
      · subst hrk
        rw [hr] at h
        cases h
        rw [if_neg (by omega), if_neg (by simp [h3])]
      · by_cases hlt : r < k ∧ kr ≠ 3
        · rw [if_pos hlt, if_pos ⟨by omega, hlt.2⟩]
        · rw [if_neg hlt, if_neg (fun hh => hlt ⟨by omega, hh.2⟩)]
    · simp only [h3, if_false]
      rw [ih, List.replicate_succ']
      by_cases hrk : r = k
      · subst hrk
        rw [hr] at h
        cases h
        rw [if_neg (by omega), if_pos ⟨by omega, h3⟩]
        unfold slackOf
        rw [if_pos rfl, List.set_append_right _ _ (by simp)]
        simp
      · have hs : slackOf k kd r = 0 := by unfold slackOf; rw [if_neg hrk]
        rw [hs]
        by_cases hlt : r < k ∧ kr ≠ 3
        · rw [if_pos hlt, if_pos ⟨by omega, hlt.2⟩]
          have h1 := slacks_take hr
          rw [if_neg hlt.2] at h1
          have h2 := slacks_mono ks (r + 1) k (by omega)
          rw [List.set_append_left _ _ (by simp; omega)]
        · rw [if_neg hlt, if_neg (fun hh => hlt ⟨by omega, hh.2⟩)]
theorem lefts_getQ : ∀ (n : Nat) (ks : List Int) (r : Nat) (kr : Int), ks[r]? = some kr → (lefts n ks)[r]? = some (if kr = 3 then -1 else ((n + slacks (ks.take r) : Nat) : Int))
  | _, [], r, kr, h => by simp at h
  | n, k :: ks, 0, kr, h => by
    simp only [List.getElem?_cons_zero, Option.some.injEq] at h
    subst h
    unfold lefts
    by_cases h3 : k = 3 <;> simp [h3, slacks]
  | n, k :: ks, r + 1, kr, h => by
    simp only [List.getElem?_cons_succ] at h
    unfold lefts
    by_cases h3 : k = 3
    · simp only [h3, if_true, List.getElem?_cons_succ, List.take_succ_cons, slacks]
      rw [lefts_getQ n ks r kr h, Nat.zero_add]
    · simp only [h3, if_false, List.getElem?_cons_succ, List.take_succ_cons, slacks]
      rw [lefts_getQ (n + 1) ks r kr h]
      by_cases h4 : kr = 3
      · simp [h4]
      · simp only [h4, if_false]; congr 1; congr 1; omega
theorem ofI_append (a b : List Int) : ofI (a ++ b) = ofI a ++ ofI b := by unfold ofI; rw [List.map_append]
theorem ofI_lenQ (a : List Int) : (ofI a).length = a.length := by unfold ofI; rw [List.length_map]
theorem signK_eq {k : Int} (h1 : 1 ≤ k) (h2 : k ≤ 3) (h3 : k ≠ 3) : signK k = 3 - 2 * k := by
  have : k = 1 ∨ k = 2 := by omega
  rcases this with rfl | rfl <;> simp [signK]
theorem stdRow_eq (coef ks : List Int) (n r : Nat) (kr : Int) (hc : coef.length = n) (hr : ks[r]? = some kr) (h1 : 1 ≤ kr) (h2 : kr ≤ 3) :
    stdRow (ofI coef) (slacks ks) (if kr = 3 then -1 else ((n + slacks (ks.take r) : Nat) : Int)) kr = ofI (coef ++ extra ks ks.length r) := by
  have hlt : r < ks.length := (List.getElem?_eq_some_iff.1 hr).1
  rw [extra_eq ks r kr hr ks.length (Nat.le_refl _), List.take_length, ofI_append]
  unfold stdRow
  by_cases h3 : kr = 3
  · subst h3
    simp [ofI]
  · rw [if_neg h3, if_pos (by omega), if_pos ⟨hlt, h3⟩, signK_eq h1 h2 h3]
    rw [Int.toNat_natCast, List.set_append_right _ _ (by rw [ofI_lenQ, hc]; omega), ofI_lenQ, hc, Nat.add_sub_cancel_left]
    unfold ofI
    rw [List.map_set, List.map_replicate]
    rfl
theorem std_law {n m cols : Nat} {cost : List Int} {q : List (List Int × Int × Int)} {rows : List PRow} {ms : List MRow} {bs cs : List Rv} {ls : List Int} (hq : ∀ x, x ∈ q → x.1.length = n ∧ 1 ≤ x.2.1 ∧ x.2.1 ≤ 3) (hc : cost.length = n) (hm : q.length = m) (hT : rows.map prowQ = q.map toQ) (h : IsStd n (ofI cost) rows cols ms bs cs ls) :
    cols = (tabC cost q m).length ∧ qs cs = ofI (tabC cost q m) ∧ qs bs = ofI (tabB q) ∧ ms.map (fun r => qs r.vs) = (tabI q m).map ofI ∧ ∀ (r : Nat) (x : List Int × Int × Int), q[r]? = some x → ls[r]? = some (if x.2.1 = 3 then -1 else ((n + slacks ((q.map (·.2.1)).take r) : Nat) : Int)) := by
  have hk : rows.map (·.kind) = q.map (·.2.1) := by
    have h1 := congrArg (List.map fun x : List Rat × Int × Rat => x.2.1) hT
    simpa [prowQ, toQ, Function.comp_def] using h1
  have hlk : (q.map (·.2.1)).length = m := by rw [List.length_map, hm]
  have hC := tabC_eq cost q m
  rw [show (q.map (·.2.1)).take m = q.map (·.2.1) from List.take_of_length_le (by omega)] at hC
  have hlr : rows.length = q.length := by have := congrArg List.length hT; simpa using this
  refine ⟨?_, ?_, ?_, ?_, ?_⟩
  · rw [h.cols, hk, hC, List.length_append, List.length_replicate, hc]
  · rw [h.c, hk, hC, ofI_append]
    unfold ofI
    rw [List.map_replicate]
    rfl
  · rw [h.b]
    have h1 := congrArg (List.map fun x : List Rat × Int × Rat => x.2.2) hT
    simpa [prowQ, toQ, ofI, tabB, Function.comp_def] using h1
  · rw [h.m, hk, h.l, hk, tabI_eq]
    apply List.ext_getElem?
    intro r
    by_cases hr : r < q.length
    · obtain ⟨x, hx⟩ : ∃ x, q[r]? = some x := ⟨_, List.getElem?_eq_getElem hr⟩
      obtain ⟨pr, hpr⟩ : ∃ pr, rows[r]? = some pr := ⟨_, List.getElem?_eq_getElem (by omega)⟩
      have hx' : (q.map (·.2.1))[r]? = some x.2.1 := by rw [List.getElem?_map, hx]; rfl
      have hpx : prowQ pr = toQ x := by
        have h1 := congrArg (fun l : List (List Rat × Int × Rat) => l[r]?) hT
        simp only [List.getElem?_map, hpr, hx, Option.map_some] at h1
        exact Option.some.inj h1
      have hl := lefts_getQ n _ r _ hx'
      obtain ⟨hx1, hx2, hx3⟩ := hq x (List.mem_of_getElem? hx)
      have hco : qs pr.coef = ofI x.1 := congrArg (fun z : List Rat × Int × Rat => z.1) hpx
      have hki : pr.kind = x.2.1 := congrArg (fun z : List Rat × Int × Rat => z.2.1) hpx
      have hz : (rows.zip (lefts n (q.map (·.2.1))))[r]? = some (pr, if x.2.1 = 3 then -1 else ((n + slacks ((q.map (·.2.1)).take r) : Nat) : Int)) := List.getElem?_zip_eq_some.2 ⟨hpr, hl⟩
      rw [List.getElem?_map, List.getElem?_map, List.getElem?_mapIdx, hx, hz]
      simp only [Option.map_some]
      rw [hco, hki, stdRow_eq x.1 _ n r _ hx1 hx' hx2 hx3, hlk]
    · rw [List.getElem?_eq_none (by simp [lefts_len]; omega), List.getElem?_eq_none (by simp; omega)]
  · intro r x hx
    rw [h.l, hk]
    exact lefts_getQ n _ r _ (by rw [List.getElem?_map, hx]; rfl)
end Go.Proofs.Ytndndfobkbeolaa
namespace Go.Proofs.Ytndndfobkbeolaa
open Go.RowKit Go.Extern.Stop Go.Stop Go.Extern
theorem mrows_any (a : Option Addr) (n c cols : Nat) (w : World) (hn : n ≤ maxLen) : Calls Try.prog 28 #[.agg #[.slice a n c, .int .i64 cols]] w fun e w' => e = .returned (.int .i64 n) ∧ Below w.heap.size w w' := by
  go_enter Try.func28, Try.ntmps28
  go_wp2_with fail
  go_ret
  exact ⟨rfl, belowBox w _⟩
theorem mcols_any (a : Option Addr) (n c cols : Nat) (w : World) : Calls Try.prog 29 #[.agg #[.slice a n c, .int .i64 cols]] w fun e w' => e = .returned (.int .i64 cols) ∧ Below w.heap.size w w' := by
  go_enter Try.func29, Try.ntmps29
  go_wp2_with fail
  go_ret
  exact ⟨rfl, belowBox w _⟩
end Go.Proofs.Ytndndfobkbeolaa
namespace Go.Proofs.Ytndndfobkbeolaa
open Go.RowKit Go.Extern.Stop Go.Stop Go.Extern
theorem slackOf_I64 {k r : Nat} {kd : Int} (h1 : 1 ≤ kd) (h2 : kd ≤ 3) : I64 (slackOf k kd r) := by
  unfold slackOf I64
  split <;> omega
theorem tabI_I64 (q : List (List Int × Int × Int)) (hq : ∀ x, x ∈ q → (∀ y, y ∈ x.1 → I64 y) ∧ 1 ≤ x.2.1 ∧ x.2.1 ≤ 3) : ∀ k l, l ∈ tabI q k → ∀ y, y ∈ l → I64 y
  | 0, l, hl, y, hy => by
    obtain ⟨x, hx, rfl⟩ := List.mem_map.1 hl
    exact (hq x hx).1 y hy
  | k + 1, l, hl, y, hy => by
    have ih := tabI_I64 q hq k
    unfold tabI at hl
    split at hl
    · exact ih l hl y hy
    · rename_i x e
      split at hl
      · exact ih l hl y hy
      · obtain ⟨i, hi, rfl⟩ := List.mem_mapIdx.1 hl
        rcases List.mem_append.1 hy with hy | hy
        · exact ih _ (List.getElem_mem hi) y hy
        · rw [List.mem_singleton.1 hy]
          have h := (hq x (List.mem_of_getElem? e)).2
          exact slackOf_I64 h.1 h.2
theorem tabC_I64 (cost : List Int) (q : List (List Int × Int × Int)) (hc : ∀ y, y ∈ cost → I64 y) : ∀ k y, y ∈ tabC cost q k → I64 y := fun k y hy => by
  rw [tabC_eq] at hy
  rcases List.mem_append.1 hy with hy | hy
  · exact hc y hy
  · rw [(List.mem_replicate.1 hy).2]; unfold I64; omega
theorem is_int (u : Rv) (y : Int) (w : World) (ho : u.ok w) (hy : I64 y) (hq : u.q = (y : Rat)) : Calls Try.prog 30 #[.agg #[.bool u.s, .slice u.a u.l u.c, .slice u.b u.m u.d], .int .i64 y, .int .i64 1] w fun e w' => e = .returned (.bool true) ∧ Below w.heap.size w w' := by
  refine is_yes u y 1 w ho hy (by decide) (by decide) ?_ ?_
  · rw [hq]
    rw [Rat.divInt_eq_div]
    grind
  · rw [hq]
    refine canSame_whole (show Whole y.natAbs (y : Rat) from ⟨y, rfl, Nat.le_refl _⟩) ?_
    unfold I64 at hy
    unfold W64
    omega
theorem ib_get {w0 W : World} {L : List Int} {a : Option Addr} {n c : Nat} (h : IB w0 L a n c W) (j : Nat) (hj : j < n) : ∃ g o y, a = some ⟨g, o, none⟩ ∧ L[j]? = some y ∧ W.cell? ⟨g, o + j, none⟩ = some (.int .i64 y) := by
  obtain ⟨hm, hl, _⟩ := h
  obtain ⟨b, o, c', e, -, -, -, h4⟩ := (Sl.ofMid hm).plain (by omega)
  cases e
  have hjl : j < L.length := by omega
  exact ⟨b, o, L[j], rfl, List.getElem?_eq_getElem hjl, h4 j _ (by rw [List.getElem?_map, List.getElem?_eq_getElem hjl]; rfl)⟩
theorem tab_row {w0 w1 W : World} {B C : IS} {As : List IS} {T : List (List Int)} {aa : Option Addr} {m ac : Nat} (ho : OwnI w0 W (B :: C :: As)) (hm : Mid W w1.heap.size 57 1 (.slice aa m ac) m (As.flatMap IS.cell)) (hx : As.map (·.xs) = T) (r : Nat) (hr : r < m) :
    ∃ g o xa xn xc l, aa = some ⟨g, o, none⟩ ∧ W.cell? ⟨g, o + r, none⟩ = some (.slice xa xn xc) ∧ T[r]? = some l ∧ IB w0 l xa xn xc W := by
  have hn : m = As.length := by have := (Sl.ofMid hm).1; rw [flat_cell] at this; simpa using this.symm
  obtain ⟨g, o, c', e, -, -, -, -⟩ := (Sl.ofMid hm).plain (by omega)
  have ea : aa = some ⟨g, o, none⟩ := by injection e
  subst ea
  have hr' : r < As.length := by omega
  refine ⟨g, o, As[r].a, As[r].n, As[r].c, As[r].xs, rfl, TX.cellA hm r hr', ?_, ho.ib _ (by simp)⟩
  rw [← hx, List.getElem?_map, List.getElem?_eq_getElem hr']
  rfl
end Go.Proofs.Ytndndfobkbeolaa
namespace Go.Proofs.Ytndndfobkbeolaa
open Go.ChangeShapes Go.WideShapes Go.ChangeAt Go.RowKit Go.Deep Go.Joins
theorem Try.cellsT3 : Try.prog.cellsOf 68 = 3 := by kernel_rfl
theorem Try.cellsT5 : Try.prog.cellsOf 114 = 5 := by kernel_rfl
theorem Try.cellsTS5 : Try.prog.cellsOf 69 = 1 := by kernel_rfl
theorem Try.cellsI8 : Try.prog.cellsOf 67 = 1 := by kernel_rfl
theorem Try.cellsU8 : Try.prog.cellsOf 5 = 1 := by kernel_rfl
theorem cell_spot {w : World} {a : Addr} {u : Value} (h : w.cell? a = some u) : a = ⟨a.block, a.off, none⟩ := by
  unfold World.cell? at h
  split at h
  · split at h
    · cases h
    · obtain ⟨x, y, z⟩ := a
      cases z with
      | none => rfl
      | some _ => simp_all
  · cases h
theorem three' {α : Type} (l : List α) (h : l.length = 3) : ∃ a b c, l = [a, b, c] := by
  match l, h with
  | [a, b, c], _ => exact ⟨a, b, c, rfl⟩
theorem five {α : Type} (l : List α) (h : l.length = 5) : ∃ a b c d e, l = [a, b, c, d, e] := by
  match l, h with
  | [a, b, c, d, e], _ => exact ⟨a, b, c, d, e, rfl⟩
theorem sl_of {α : Type} {W : World} {a : Addr} {len cap : Nat} (g : α → List Value) (k : Nat) (hk : ∀ x, (g x).length = k) (hk0 : 0 < k) (f : Nat → α) (hl : len ≤ cap) (hm : cap ≤ maxLen) (h : ∀ i, i < len → ∀ j, j < k → W.cell? (a.add (i * k + j)) = (g (f i))[j]?) : Sl W k (.slice (some a) len cap) len (((List.range len).map f).flatMap g) := by
  refine ⟨by rw [flat_len g k hk]; simp, ?_⟩
  rcases Nat.eq_zero_or_pos len with rfl | hp
  · exact .inl ⟨some a, cap, by simp, by simp, hm, fun h => by cases h⟩
  · have h0 := h 0 hp 0 hk0
    have hg0 : (g (f 0))[0]? = some ((g (f 0))[0]'(by rw [hk]; exact hk0)) := List.getElem?_eq_getElem _
    rw [hg0, show a.add (0 * k + 0) = a by simp [Addr.add]] at h0
    have hs := cell_spot h0
    have hb : a.block < W.heap.size := World.block_lt_of_cell? _ _ h0
    refine .inr ⟨a.block, a.off, cap, by rw [← hs], hl, hm, hb, fun j u hj => ?_⟩
    obtain ⟨i, hi, j', rfl, hj', hu⟩ := flat_inv g k hk _ j u hj
    simp only [List.length_map, List.length_range] at hi
    simp only [List.getElem_map, List.getElem_range] at hu
    have := h i hi j' hj'
    rw [hu] at this
    rw [hs] at this
    rw [Addr.add_lit] at this
    exact this
section
variable {H : Type} {enc : TypeId × Value → H} {W : World} {base : Nat} {spare : Nat → Bool} {held : Bool}
def SRowOk (r : SRow) : Prop := I8 r.1 ∧ I8 r.2.1 ∧ I8 r.2.2.1 ∧ I8 r.2.2.2.1 ∧ I8 r.2.2.2.2
theorem i8_trod {fuel : Nat} {c : Value} {x : DataW H × List MemPlace} (h : DataW.trod enc Try.prog W base spare held fuel 67 [c] = some x) : ∃ p, c = .int .i8 p ∧ I8 p := by
  obtain ⟨p, e0, _, w0⟩ := DataW.trod_int Try.underlying67 h
  simp at e0
  exact ⟨p, e0, bounds_i8 w0⟩
theorem row5_trod {fuel : Nat} {cs : List Value} {x : DataW H × List MemPlace} (h : DataW.trod enc Try.prog W base spare held fuel 114 cs = some x) : ∃ r : SRow, cs = srowCells r ∧ SRowOk r := by
  obtain ⟨xs, n, _, _, hl, hxl, hf⟩ := DataW.trod_array Try.underlying114 h
  rw [Try.cellsT5] at hl
  obtain ⟨c0, c1, c2, c3, c4, rfl⟩ := five cs hl
  obtain ⟨y0, y1, y2, y3, y4, rfl⟩ := five xs hxl
  rw [Try.cellsI8] at hf
  have h0 : DataW.trod enc Try.prog W base spare held n 67 [c0] = some y0 := hf 0 (by omega)
  obtain ⟨p0, rfl, b0⟩ := i8_trod h0
  have h1 : DataW.trod enc Try.prog W base spare held n 67 [c1] = some y1 := hf 1 (by omega)
  obtain ⟨p1, rfl, b1⟩ := i8_trod h1
  have h2 : DataW.trod enc Try.prog W base spare held n 67 [c2] = some y2 := hf 2 (by omega)
  obtain ⟨p2, rfl, b2⟩ := i8_trod h2
  have h3 : DataW.trod enc Try.prog W base spare held n 67 [c3] = some y3 := hf 3 (by omega)
  obtain ⟨p3, rfl, b3⟩ := i8_trod h3
  have h4 : DataW.trod enc Try.prog W base spare held n 67 [c4] = some y4 := hf 4 (by omega)
  obtain ⟨p4, rfl, b4⟩ := i8_trod h4
  exact ⟨(p0, p1, p2, p3, p4), rfl, b0, b1, b2, b3, b4⟩
theorem rows5_trod {fuel : Nat} {cs : List Value} {x : DataW H × List MemPlace} (h : DataW.trod enc Try.prog W base spare held fuel 69 cs = some x) :
    ∃ (a : Option Addr) (n c : Nat) (ls : List SRow), cs = [.slice a n c] ∧ ls.length = n ∧ Sl W 5 (.slice a n c) n (ls.flatMap srowCells) ∧ ∀ r, r ∈ ls → SRowOk r := by
  rcases Deep.open_slice Try.underlying69 h with ⟨rfl, rfl⟩ | ⟨a, len, cap, m, n, D, Pl, rfl, _, hl, hm, hmm, rfl, hx⟩
  · exact ⟨none, 0, 0, [], rfl, rfl, ⟨rfl, .inl ⟨none, 0, rfl, rfl, Nat.zero_le _, fun _ => rfl⟩⟩, fun e h => (by cases h)⟩
  · have hlm : len ≤ m := by rw [hmm]; split <;> omega
    rw [Try.cellsT5] at hx
    obtain ⟨f, hf2⟩ := Deep.choose_lt (n := m) (p := fun i (r : SRow) => SRowOk r ∧ ∀ j, j < 5 → W.cell? (a.add (i * 5 + j)) = (srowCells r)[j]?) (fun i hi => by
      obtain ⟨cs', hc, ht⟩ := hx i hi
      obtain ⟨r, rfl, ho⟩ := row5_trod ht
      obtain ⟨_, _, hat⟩ := World.cells?_some hc
      exact ⟨r, ho, fun j hj => by rw [← Go.Deep.add_add]; exact hat j hj⟩)
    refine ⟨some a, len, cap, (List.range len).map f, rfl, by simp, sl_of srowCells 5 srowCells_len (by omega) f hl hm fun i hi j hj => (hf2 i (by omega)).2 j hj, fun r hr => ?_⟩
    obtain ⟨i, hi, rfl⟩ := List.mem_map.1 hr
    exact (hf2 i (by have := List.mem_range.1 hi; omega)).1
set_option maxRecDepth 100000 in
theorem small_open {v : Value} {d : DataW H} {ps : List MemPlace} {r : Reach} {b0 : Nat} (hv : Value.okWide Try.prog W r b0 71 v) (h : DataW.Trod enc Try.prog W base spare held 71 v d ps) :
    ∃ (cols c0 c1 c2 : Int) (sa : Option Addr) (sn sc : Nat) (rows : List SRow), v = .agg #[.int .u8 cols, .int .i8 c0, .int .i8 c1, .int .i8 c2, .slice sa sn sc] ∧ SmW W cols c0 c1 c2 sa sn sc rows := by
  obtain ⟨cs, rfl, _⟩ := okWide_struct Try.underlying71 hv
  obtain ⟨fuel, hf⟩ := h
  obtain ⟨xs, n, _, e9, hl, hxl, hf⟩ := DataW.trod_struct Try.underlying71 hf
  obtain ⟨l⟩ := cs
  have hl2 : l.length = 5 := by
    have : Try.prog.cellsOf 71 = 5 := by kernel_rfl
    rw [this] at hl
    simpa [Value.cells] using hl
  obtain ⟨c0, c1, c2, c3, c4, rfl⟩ := five l hl2
  obtain ⟨y0, y1, y2, rfl⟩ := three' xs hxl
  have h0 : DataW.trod enc Try.prog W base spare held n 5 (([c0, c1, c2, c3, c4].drop 0).take (Try.prog.cellsOf 5)) = some y0 := hf 0 _ rfl
  have h1 : DataW.trod enc Try.prog W base spare held n 68 (([c0, c1, c2, c3, c4].drop 1).take (Try.prog.cellsOf 68)) = some y1 := hf 1 _ rfl
  have h2 : DataW.trod enc Try.prog W base spare held n 69 (([c0, c1, c2, c3, c4].drop 4).take (Try.prog.cellsOf 69)) = some y2 := hf 2 _ rfl
  rw [Try.cellsU8] at h0
  rw [Try.cellsT3] at h1
  rw [Try.cellsTS5] at h2
  obtain ⟨cols, e0, _, w0⟩ := DataW.trod_int Try.underlying5 h0
  simp at e0
  subst e0
  obtain ⟨zs, n2, _, _, hl3, hxl3, hf3⟩ := DataW.trod_array Try.underlying68 h1
  obtain ⟨z0, z1, z2, rfl⟩ := three' zs hxl3
  rw [Try.cellsI8] at hf3
  have g0 : DataW.trod enc Try.prog W base spare held n2 67 [c1] = some z0 := hf3 0 (by omega)
  have g1 : DataW.trod enc Try.prog W base spare held n2 67 [c2] = some z1 := hf3 1 (by omega)
  have g2 : DataW.trod enc Try.prog W base spare held n2 67 [c3] = some z2 := hf3 2 (by omega)
  obtain ⟨p0, rfl, b0⟩ := i8_trod g0
  obtain ⟨p1, rfl, b1⟩ := i8_trod g1
  obtain ⟨p2, rfl, b2⟩ := i8_trod g2
  obtain ⟨sa, sn, sc, rows, e2, hlen, hsl, hok⟩ := rows5_trod h2
  simp at e2
  subst e2
  have hc : 0 ≤ cols ∧ cols ≤ 255 := by
    simp only [Lit.wf, Bool.and_eq_true, decide_eq_true_eq] at w0
    exact w0
  exact ⟨cols, p0, p1, p2, sa, sn, sc, rows, rfl, ⟨hc, b0, b1, b2, hlen, hsl, hok⟩⟩
end
end Go.Proofs.Ytndndfobkbeolaa
