/-
  What the laws stand on, part M: contracts and plain laws of Mem4, PCopy, PMat, PMNew, PMOf, PMAt; the conditions are each law's own.
-/
import Derived.Test.YtndndfobkbeolaaUA
import Derived.Laws.CopyOwn
import Derived.Lib.Hide
import Derived.Test.YtndndfobkbeolaaUV
import Derived.Deep.RegionHeld3
set_option linter.unusedVariables false
set_option linter.unusedSimpArgs false
namespace Go.Proofs.Ytndndfobkbeolaa
open Go.RowKit
theorem run_append_zeros_mid {P : Program} {e : TypeId} {size : Nat} {v : Value} {n base : Nat} {xs : List Value} {w : World} (t tn ty : TypeId) (i : TypeInfo) (z : Value) (bytes : Nat) (kn k : IntKind) (ht : P.underlying t = some (.slice e)) (htn : P.underlying tn = some (.int kn)) (hi : P.info? e = some i) (hz : i.zero = some z)
    (hsize : i.size = size) (hby : i.bytes = bytes) (hzs : z.cells.size = size) (hpos : 0 < size) (h1 : ∀ m, ∀ u ∈ (Builtin.zeroCells z.cells m).toList, u.oneCell' = true)
    (h : Mid w base e size v n xs) (m : Nat) (h63 : n + m ≤ maxLen) (hbytes : ((n + m) + (n + m) / 4 + 192) * bytes ≤ 281474976710656) (hbase : base ≤ w.heap.size) :
    ∃ v' w', (Builtin.append_ #[t, tn] ty #[v, .int k m]).run P w = .ok v' w' ∧ Mid w' base e size v' (n + m) (xs ++ (Builtin.zeroCells z.cells m).toList) ∧ w.grownBy w' v.ownBlock ∧
      (v'.ownBlock = v.ownBlock ∨ v'.ownBlock = some w.heap.size) := by
  subst hsize
  subst hby
  have hsmall : n + m ≤ 9223372036854775807 := by simp only [maxLen] at h63; omega
  have hw : IntKind.i64.wrap (m : Int) = m := by rw [IntKind.wrap_i64]; omega
  have hneg : ¬ ((m : Int) < 0) := by omega
  have hmb : m * i.bytes ≤ 281474976710656 := Nat.le_trans (Nat.mul_le_mul_right _ (by omega)) hbytes
  have h48i : ¬ (281474976710656 < (m : Int) * (i.bytes : Int)) := by rw [← Int.natCast_mul]; omega
  have hzl : (Builtin.zeroCells z.cells m).toList.length = m * i.size := by rw [Array.length_toList, size_zeroCells, hzs]
  have hlen : (xs ++ (Builtin.zeroCells z.cells m).toList).length = (n + m) * i.size := by rw [List.length_append, h.1, hzl, Nat.add_mul]
  have hap : (if m * i.size = 0 then (#[] : Array Value) else Builtin.zeroCells z.cells m) = Builtin.zeroCells z.cells m := by
    by_cases hm : m = 0
    · subst hm; simp [Builtin.zeroCells]
    · rw [if_neg (Nat.mul_ne_zero hm (by omega))]
  have grown : ∀ (old : Nat), old < n + m → ∀ (row : Option Nat),
      Mid (w.drew.alloc (.cells ((xs ++ (Builtin.zeroCells z.cells m).toList).toArray ++ Builtin.zeroCells z.cells (grownCap w (n + m) old e - (n + m))) e)) base e i.size (.slice (some ⟨w.heap.size, 0, none⟩) (n + m) (grownCap w (n + m) old e)) (n + m) (xs ++ (Builtin.zeroCells z.cells m).toList) ∧
      w.grownBy (w.drew.alloc (.cells ((xs ++ (Builtin.zeroCells z.cells m).toList).toArray ++ Builtin.zeroCells z.cells (grownCap w (n + m) old e - (n + m))) e)) row := by
    intro old ho row
    have hge := grownCap_ge w (n + m) old e
    have hcm : grownCap w (n + m) old e ≤ maxLen := grownCap_le_maxLen w (n + m) old e h63
    refine ⟨⟨hlen, .inr ⟨w.heap.size, 0, _, _, rfl, hbase, heap_alloc_new w.drew _, hge, hcm, ?_, ?_⟩⟩, ⟨rfl, rfl, rfl, by simp, fun k hk _ => heap_alloc_old w.drew _ hk⟩⟩
    · have e1 : (xs ++ (Builtin.zeroCells z.cells m).toList).toArray.size = (n + m) * i.size := by simpa using hlen
      rw [Array.size_append, size_zeroCells, hzs, e1, ← Nat.add_mul, Nat.zero_add]
      exact Nat.mul_le_mul_right _ (by omega)
    · simp only [Array.toList_append, List.drop_zero]
      rw [← hlen]
      exact List.take_left
  have grow : ∀ (b : Option Addr) (cap : Nat), cap < n + m → (Builtin.firstCells i.size n (.slice b n cap)).run P w.drew = .ok xs.toArray w.drew → (Builtin.append_ #[t, tn] ty #[.slice b n cap, .int k m]).run P w =
      .ok (.slice (some ⟨w.heap.size, 0, none⟩) (n + m) (grownCap w (n + m) cap e)) (w.drew.alloc (.cells ((xs ++ (Builtin.zeroCells z.cells m).toList).toArray ++ Builtin.zeroCells z.cells (grownCap w (n + m) cap e - (n + m))) e)) := by
    intro b cap hc hold
    have hn : ¬ (n + m ≤ cap) := by omega
    have h63' : ¬ (9223372036854775807 < ((n : Int) + (m : Int))) := by omega
    have h48' : ¬ (281474976710656 < Builtin.nextslicecap (n + m) cap * i.bytes) := by
      have := growslice_fits_wide (need := n + m) (old := cap) (bytes := i.bytes) (by omega) hbytes
      omega
    have hA : ∀ W : World, (if m * i.size = 0 then (pure #[] : Sem (Array Value)) else (do pure (Builtin.zeroCells (← zeroValue e).cells m))).run P W = .ok (Builtin.zeroCells z.cells m) W := by
      intro W
      by_cases h0 : m * i.size = 0
      · rw [if_pos h0]; rw [if_pos h0] at hap; rw [← hap]; rfl
      · rw [if_neg h0]; simp [zeroValue, typeInfo, hi, hz]
    by_cases h0 : m * i.size = 0
    · have hz0 : Builtin.zeroCells z.cells m = #[] := by rw [if_pos h0] at hap; exact hap.symm
      simp [Builtin.append_, run_underlying ht, run_underlying htn, sizeOf, typeInfo, zeroValue, hi, hz, asInt, asIntOf, hw, hn, hneg, hz0, h63', h48', h48i, Question.forced, hold, newRow, grownCap]
    · simp [Builtin.append_, run_underlying ht, run_underlying htn, sizeOf, typeInfo, zeroValue, hi, hz, asInt, asIntOf, hw, hn, hneg, h0, h63', h48', h48i, Question.forced, hold, newRow, grownCap]
      try (congr 2; apply Array.ext'; simp [List.append_assoc])
  rcases h.2 with ⟨rfl, rfl⟩ | ⟨g, o, cap, cur, rfl, hbg, hg, hnc, hcm, hcs, htake⟩
  · have hx : xs = [] := List.eq_nil_of_length_eq_zero (by simpa using h.1)
    subst hx
    by_cases hm : m = 0
    · subst hm
      have hz0 : Builtin.zeroCells z.cells 0 = #[] := by simp [Builtin.zeroCells]
      refine ⟨.slice none 0 0, w, ?_, by simpa [hz0] using Mid.nil w base e i.size, ⟨rfl, rfl, rfl, Nat.le_refl _, fun _ _ _ => rfl⟩, .inl rfl⟩
      have hw0 : IntKind.i64.wrap 0 = 0 := by rw [IntKind.wrap_i64]; omega
      simp [Builtin.append_, run_underlying ht, run_underlying htn, sizeOf, typeInfo, hi, asInt, asIntOf, hw0]
    · have hr := grow none 0 (by omega) (by simp [Builtin.firstCells])
      have hgr := grown 0 (by omega) (Value.ownBlock (.slice none 0 0))
      exact ⟨_, _, hr, hgr.1, hgr.2, .inr rfl⟩
  · by_cases hroom : n + m ≤ cap
    · have hfit : o + n * i.size + (Builtin.zeroCells z.cells m).toList.length ≤ cur.size := by
        have : n * i.size + m * i.size ≤ cap * i.size := by rw [← Nat.add_mul]; exact Nat.mul_le_mul_right _ hroom
        rw [hzl]; omega
      have hst := run_storeCells_at P g (o + n * i.size) e (Builtin.zeroCells z.cells m).toList 0 cur w hg (by simpa using hfit) (h1 m)
      simp only [Nat.add_zero] at hst
      have hr : (Builtin.append_ #[t, tn] ty #[.slice (some ⟨g, o, none⟩) n cap, .int k m]).run P w = .ok (.slice (some ⟨g, o, none⟩) (n + m) cap) (w.setRow g (cur.toList.take (o + n * i.size) ++ (Builtin.zeroCells z.cells m).toList ++ cur.toList.drop (o + n * i.size + (Builtin.zeroCells z.cells m).toList.length)).toArray) := by
        by_cases h0 : m * i.size = 0
        · have hz0 : Builtin.zeroCells z.cells m = #[] := by rw [if_pos h0] at hap; exact hap.symm
          rw [hz0] at hst ⊢
          simp [Builtin.append_, run_underlying ht, run_underlying htn, sizeOf, typeInfo, zeroValue, hi, hz, asInt, asIntOf, hw, hneg, h0, h48i, hroom, Addr.add_lit] at hst ⊢
          simp [hst]
        · simp [Builtin.append_, run_underlying ht, run_underlying htn, sizeOf, typeInfo, zeroValue, hi, hz, asInt, asIntOf, hw, hneg, h0, h48i, hroom, Addr.add_lit, hst]
      refine ⟨_, _, hr, ⟨hlen, .inr ⟨g, o, cap, _, rfl, hbg, setRow_heap w g cur _ e _ hg, hroom, hcm, ?_, ?_⟩⟩, ⟨rfl, rfl, rfl, by simp, fun k _ hk => setRow_other w g k _ (fun ee => hk (by simp [Value.ownBlock, ee]))⟩, .inl rfl⟩
      · simp only [List.size_toArray, List.length_append, List.length_take, List.length_drop, Array.length_toList] at hfit ⊢
        omega
      · have h1 : (cur.toList.take (o + n * i.size)).drop o = xs := by rw [List.drop_take, Nat.add_sub_cancel_left]; exact htake
        have hol : o ≤ (cur.toList.take (o + n * i.size)).length := by rw [List.length_take, Array.length_toList]; omega
        show (List.drop o (cur.toList.take (o + n * i.size) ++ (Builtin.zeroCells z.cells m).toList ++ cur.toList.drop (o + n * i.size + (Builtin.zeroCells z.cells m).toList.length))).take ((n + m) * i.size) = xs ++ (Builtin.zeroCells z.cells m).toList
        rw [List.append_assoc, List.drop_append_of_le_length hol, h1, ← List.append_assoc, ← hlen]
        exact List.take_left
    · have holds : (Builtin.firstCells i.size n (.slice (some ⟨g, o, none⟩) n cap)).run P w.drew = .ok xs.toArray w.drew := by
        have hc : ∀ j u, xs[j]? = some u → w.drew.cell? ((⟨g, o, none⟩ : Addr).add j) = some u := fun j u hj => by
          rw [World.cell?_drew, Addr.add_lit]; exact h.cell j u hj
        exact run_firstCells_some (P := P) w.drew i.size n ⟨g, o, none⟩ n cap xs h.1 hc
      have hr := grow (some ⟨g, o, none⟩) cap (by omega) holds
      have hgr := grown cap (by omega) (Value.ownBlock (.slice (some ⟨g, o, none⟩) n cap))
      exact ⟨_, _, hr, hgr.1, hgr.2, .inr rfl⟩
theorem wp_append_zeros {P : Program} {e : TypeId} {size : Nat} {v : Value} {n base : Nat} {xs : List Value} {w : World} {o : Oper} {a : Act} {K : Act → World → Prop} {Q : Exit → Act → World → Prop} (s x : Operand) (t tn : TypeId)
    (ho : o.op = .call { callee := .builtin .append, args := #[s, x], argTypes := #[t, tn] })
    (i : TypeInfo) (z : Value) (bytes : Nat) (kn k : IntKind) (ht : P.underlying t = some (.slice e)) (htn : P.underlying tn = some (.int kn)) (hi : P.info? e = some i) (hz : i.zero = some z)
    (hsize : i.size = size) (hby : i.bytes = bytes) (hzs : z.cells.size = size) (hpos : 0 < size) (h1 : ∀ m, ∀ u ∈ (Builtin.zeroCells z.cells m).toList, u.oneCell' = true)
    (hv : a.eval s = v) (h : Mid w base e size v n xs) (m : Nat) (hx : a.eval x = .int k m) (h63 : n + m ≤ maxLen) (hbytes : ((n + m) + (n + m) / 4 + 192) * bytes ≤ 281474976710656) (hbase : base ≤ w.heap.size)
    (H : ∀ a' c' w', Mid w' base e size (.slice a' (n + m) c') (n + m) (xs ++ (Builtin.zeroCells z.cells m).toList) → w.grownBy w' v.ownBlock → ((Value.slice a' (n + m) c').ownBlock = v.ownBlock ∨ (Value.slice a' (n + m) c').ownBlock = some w.heap.size) → K (a.put o.dst (.slice a' (n + m) c')) w') : o.wp P a w K Q := by
  obtain ⟨v', w', hr, h2, h3, h4⟩ := run_append_zeros_mid (P := P) t tn o.type i z bytes kn k ht htn hi hz hsize hby hzs hpos h1 h m h63 hbytes hbase
  obtain ⟨a', c', rfl⟩ := h2.slice
  unfold Oper.wp execOp
  simp only [ho, resolve, invoke, builtin, Sem.run_bind, Sem.run_pure, Result.andThen_ok, List.map_toArray, List.map_cons, List.map_nil, hv, hx, hr]
  exact H a' c' w' h2 h3 h4
theorem wpList_append_zeros {P : Program} {e : TypeId} {size : Nat} {v : Value} {n base : Nat} {xs : List Value} {w : World} {ops : Array Oper} {rest : List Oper} {o : Oper} {a : Act} {Q : Exit → Act → World → Prop} (hgd : o.guard = none) (s x : Operand) (t tn : TypeId)
    (ho : o.op = .call { callee := .builtin .append, args := #[s, x], argTypes := #[t, tn] })
    (i : TypeInfo) (z : Value) (bytes : Nat) (kn k : IntKind) (ht : P.underlying t = some (.slice e)) (htn : P.underlying tn = some (.int kn)) (hi : P.info? e = some i) (hz : i.zero = some z)
    (hsize : i.size = size) (hby : i.bytes = bytes) (hzs : z.cells.size = size) (hpos : 0 < size) (h1 : ∀ m, ∀ u ∈ (Builtin.zeroCells z.cells m).toList, u.oneCell' = true)
    (hv : a.eval s = v) (h : Mid w base e size v n xs) (m : Nat) (hx : a.eval x = .int k m) (h63 : n + m ≤ maxLen) (hbytes : ((n + m) + (n + m) / 4 + 192) * bytes ≤ 281474976710656) (hbase : base ≤ w.heap.size)
    (H : ∀ a' c' w', Mid w' base e size (.slice a' (n + m) c') (n + m) (xs ++ (Builtin.zeroCells z.cells m).toList) → w.grownBy w' v.ownBlock → ((Value.slice a' (n + m) c').ownBlock = v.ownBlock ∨ (Value.slice a' (n + m) c').ownBlock = some w.heap.size) → wpList P ops Q rest (a.put o.dst (.slice a' (n + m) c')) w') : wpList P ops Q (o :: rest) a w :=
  wpList_plain hgd fun _ hK => wp_append_zeros s x t tn ho i z bytes kn k ht htn hi hz hsize hby hzs hpos h1 hv h m hx h63 hbytes hbase fun a' c' w' h2 h3 h4 => hK _ _ (H a' c' w' h2 h3 h4)
theorem step_append_zeros {P : Program} {e : TypeId} {size : Nat} {v : Value} {n base : Nat} {xs : List Value} {w : World} {ops : Array Oper} {o : Oper} {a : Act} {K : Act → World → Prop} {Q : Exit → Act → World → Prop} {E : Prop} (hgd : o.guard = none) (s x : Operand) (t tn : TypeId)
    (ho : o.op = .call { callee := .builtin .append, args := #[s, x], argTypes := #[t, tn] })
    (i : TypeInfo) (z : Value) (bytes : Nat) (kn k : IntKind) (ht : P.underlying t = some (.slice e)) (htn : P.underlying tn = some (.int kn)) (hi : P.info? e = some i) (hz : i.zero = some z)
    (hsize : i.size = size) (hby : i.bytes = bytes) (hzs : z.cells.size = size) (hpos : 0 < size) (h1 : ∀ m, ∀ u ∈ (Builtin.zeroCells z.cells m).toList, u.oneCell' = true)
    (hv : a.eval s = v) (h : Mid w base e size v n xs) (m : Nat) (hx : a.eval x = .int k m) (h63 : n + m ≤ maxLen) (hbytes : ((n + m) + (n + m) / 4 + 192) * bytes ≤ 281474976710656) (hbase : base ≤ w.heap.size)
    (H : ∀ a' c' w', Mid w' base e size (.slice a' (n + m) c') (n + m) (xs ++ (Builtin.zeroCells z.cells m).toList) → w.grownBy w' v.ownBlock → ((Value.slice a' (n + m) c').ownBlock = v.ownBlock ∨ (Value.slice a' (n + m) c').ownBlock = some w.heap.size) → K (a.put o.dst (.slice a' (n + m) c')) w') :
    if Region.wanted o (yielded ops a.tmps) = true then Oper.wp P o a w K Q else E := by
  have hw : Region.wanted o (yielded ops a.tmps) = true := by simp [Region.wanted, hgd]
  rw [if_pos hw]
  exact wp_append_zeros s x t tn ho i z bytes kn k ht htn hi hz hsize hby hzs hpos h1 hv h m hx h63 hbytes hbase H
end Go.Proofs.Ytndndfobkbeolaa
namespace Go.Proofs.Ytndndfobkbeolaa
open Go.RowKit
theorem run_copy_size {P : Program} (w : World) (dT sT ty elem : TypeId) (g o dLen dCap : Nat) (a : Addr) (sLen sCap sz n : Nat) (cur : Array Value) (t : TypeId) (cs : List Value)
    (hu : P.underlying dT = some (.slice elem)) (hs : (P.info? elem).map (·.size) = some sz)
    (hg : w.heap[g]? = some (.cells cur t (0, 0))) (hn : n = Nat.min sLen dLen) (hl : cs.length = n * sz)
    (hsrc : ∀ j v, cs[j]? = some v → w.cell? (a.add j) = some v) (hfit : o + cs.length ≤ cur.size) (h1 : ∀ v ∈ cs, v.oneCell' = true) :
    (Builtin.copy_ #[dT, sT] ty #[.slice (some ⟨g, o, none⟩) dLen dCap, .slice (some a) sLen sCap]).run P w =
      .ok (goInt n) (w.setRow g (cur.toList.take o ++ cs ++ cur.toList.drop (o + cs.length)).toArray) := by
  have hl2 := run_loadCells_list (P := P) w a cs hsrc
  have hst := run_storeCells_at P g o t cs 0 cur w hg (by simpa using hfit) h1
  cases hq : P.info? elem with
  | none => simp [hq] at hs
  | some i =>
    have hi : i.size = sz := by simpa [hq] using hs
    rw [hl] at hl2
    simp [Builtin.copy_, run_underlying hu, Builtin.lenOf, Builtin.firstCells, sizeOf, typeInfo, hq, hi, ← hn, hl2, hst]
theorem run_copy_zero {P : Program} (w : World) (dT sT ty elem : TypeId) (d a : Option Addr) (dLen dCap sLen sCap : Nat) (hu : P.underlying dT = some (.slice elem)) (hs : ((P.info? elem).map (·.size)).isSome = true) (hn : Nat.min sLen dLen = 0) :
    (Builtin.copy_ #[dT, sT] ty #[.slice d dLen dCap, .slice a sLen sCap]).run P w = .ok (goInt 0) w := by
  cases hq : P.info? elem with
  | none => simp [hq] at hs
  | some i =>
    have hl : ∀ (x : Addr), (loadCells x 0).run P w = .ok #[] w := fun x => by simpa using run_loadCells_list (P := P) w x [] (by simp)
    cases d <;> cases a <;> simp [Builtin.copy_, run_underlying hu, Builtin.lenOf, Builtin.firstCells, sizeOf, typeInfo, hq, hn, storeCells, hl]
theorem wpList_copy_zero {P : Program} {w : World} {ops : Array Oper} {rest : List Oper} {o : Oper} {a : Act} {Q : Exit → Act → World → Prop} (hgd : o.guard = none) (d s : Operand) (dT sT : TypeId)
    (ho : o.op = .call { callee := .builtin .copy, args := #[d, s], argTypes := #[dT, sT] }) (elem : TypeId) (hu : P.underlying dT = some (.slice elem)) (hsz : ((P.info? elem).map (·.size)).isSome = true)
    (dp sp : Option Addr) (dLen dCap sLen sCap : Nat) (hd : a.eval d = .slice dp dLen dCap) (hs : a.eval s = .slice sp sLen sCap) (hn : Nat.min sLen dLen = 0)
    (h : wpList P ops Q rest (a.put o.dst (goInt 0)) w) : wpList P ops Q (o :: rest) a w := by
  refine wpList_plain hgd fun K hK => ?_
  have hrun := run_copy_zero (P := P) w dT sT o.type elem dp sp dLen dCap sLen sCap hu hsz hn
  unfold Oper.wp
  simp [execOp, ho, resolve, invoke, builtin, hd, hs, hrun, Result.andThen]
  exact hK _ _ h
theorem wpList_copy_size {P : Program} {w : World} {ops : Array Oper} {rest : List Oper} {o : Oper} {a : Act} {Q : Exit → Act → World → Prop} (hgd : o.guard = none) (d s : Operand) (dT sT : TypeId)
    (ho : o.op = .call { callee := .builtin .copy, args := #[d, s], argTypes := #[dT, sT] }) (elem : TypeId) (hu : P.underlying dT = some (.slice elem)) (sz n : Nat) (hsz : (P.info? elem).map (·.size) = some sz)
    (g off dLen dCap : Nat) (ad : Addr) (sLen sCap : Nat) (hd : a.eval d = .slice (some ⟨g, off, none⟩) dLen dCap) (hs : a.eval s = .slice (some ad) sLen sCap)
    (cur : Array Value) (t : TypeId) (hg : w.heap[g]? = some (.cells cur t (0, 0))) (cs : List Value) (hn : n = Nat.min sLen dLen) (hl : cs.length = n * sz)
    (hsrc : ∀ j v, cs[j]? = some v → w.cell? (ad.add j) = some v) (hfit : off + cs.length ≤ cur.size) (h1 : ∀ v ∈ cs, v.oneCell' = true)
    (h : wpList P ops Q rest (a.put o.dst (goInt n)) (w.setRow g (cur.toList.take off ++ (cs ++ cur.toList.drop (off + cs.length))).toArray)) : wpList P ops Q (o :: rest) a w := by
  refine wpList_plain hgd fun K hK => ?_
  have hrun := run_copy_size (P := P) w dT sT o.type elem g off dLen dCap ad sLen sCap sz n cur t cs hu hsz hg hn hl hsrc hfit h1
  unfold Oper.wp
  simp [execOp, ho, resolve, invoke, builtin, hd, hs, hrun, Result.andThen]
  exact hK _ _ h
theorem wpList_copy_all {P : Program} {w : World} {ops : Array Oper} {rest : List Oper} {o : Oper} {a : Act} {Q : Exit → Act → World → Prop} (hgd : o.guard = none) (d s : Operand) (dT sT : TypeId)
    (ho : o.op = .call { callee := .builtin .copy, args := #[d, s], argTypes := #[dT, sT] }) (elem : TypeId) (hu : P.underlying dT = some (.slice elem)) (sz n : Nat) (hsz : (P.info? elem).map (·.size) = some sz)
    (g dLen dCap : Nat) (ad : Addr) (sLen sCap : Nat) (hd : a.eval d = .slice (some ⟨g, 0, none⟩) dLen dCap) (hs : a.eval s = .slice (some ad) sLen sCap)
    (cur : Array Value) (t : TypeId) (hg : w.heap[g]? = some (.cells cur t (0, 0))) (cs : List Value) (hn : n = Nat.min sLen dLen) (hl : cs.length = n * sz)
    (hsrc : ∀ j v, cs[j]? = some v → w.cell? (ad.add j) = some v) (hfit : cs.length = cur.size) (h1 : ∀ v ∈ cs, v.oneCell' = true)
    (H : ∀ w', Hid (w'.heap[g]? = some (.cells cs.toArray t (0, 0))) → Hid (Keeps w w' fun z => z = g) → wpList P ops Q rest (a.put o.dst (goInt n)) w') : wpList P ops Q (o :: rest) a w := by
  refine wpList_copy_size hgd d s dT sT ho elem hu sz n hsz g 0 dLen dCap ad sLen sCap hd hs cur t hg cs hn hl hsrc (by omega) h1 ?_
  have e : (cur.toList.take 0 ++ (cs ++ cur.toList.drop (0 + cs.length))).toArray = cs.toArray := by
    rw [List.take_zero, List.nil_append, Nat.zero_add, List.drop_of_length_le (by rw [Array.length_toList]; omega), List.append_nil]
  rw [e]
  exact H _ (Lib.hid (setRow_heap w g cur cs.toArray t (0, 0) hg)) (Lib.hid ⟨rfl, rfl, rfl, by simp [World.setRow], fun z _ hz => setRow_other w g z _ hz⟩)
end Go.Proofs.Ytndndfobkbeolaa
namespace Go.Proofs.Ytndndfobkbeolaa
open Go.RowKit Go.Extern.Stop Go.Stop Go.Extern
theorem Try.infoVec : (Try.prog.info? 28).map (fun i => (i.zero, i.size, i.bytes)) = some (some (.slice none 0 0), 1, 24) := by kernel_rfl
structure MRow where
  a : Option Addr
  n : Nat
  c : Nat
  vs : List Rv
def mrowCells (r : MRow) : List Value := [.slice r.a r.n r.c]
theorem mrowCells_len (r : MRow) : (mrowCells r).length = 1 := rfl
structure MatW (w : World) (ma : Option Addr) (mn mc cols : Nat) (ms : List MRow) : Prop where
  len : ms.length = mn
  sl : Sl w 1 (.slice ma mn mc) mn (ms.flatMap mrowCells)
  ok : ∀ r, r ∈ ms → VecW w r.a r.n r.c r.vs ∧ r.n = cols
theorem MatW.below {w w' : World} {ma : Option Addr} {mn mc cols : Nat} {ms : List MRow} (h : MatW w ma mn mc cols ms) (hb : Below w.heap.size w w') : MatW w' ma mn mc cols ms :=
  ⟨h.len, h.sl.below hb, fun r hr => ⟨(h.ok r hr).1.below hb, (h.ok r hr).2⟩⟩
theorem MatW.get {w : World} {ma : Option Addr} {mn mc cols : Nat} {ms : List MRow} (h : MatW w ma mn mc cols ms) (k : Nat) (hk : k < mn) :
    ∃ b o r, ma = some ⟨b, o, none⟩ ∧ ms[k]? = some r ∧ b < w.heap.size ∧ w.cell? ⟨b, o + k, none⟩ = some (.slice r.a r.n r.c) ∧ VecW w r.a r.n r.c r.vs ∧ r.n = cols := by
  obtain ⟨hl, hs, ho⟩ := h
  subst hl
  obtain ⟨b, o, c', e, h1, h2, h3, h4⟩ := hs.plain (by omega)
  cases e
  have hc := h4 _ _ (flat_at mrowCells 1 mrowCells_len ms k hk 0 _ rfl)
  rw [Nat.mul_one, Nat.add_zero] at hc
  exact ⟨b, o, ms[k], rfl, List.getElem?_eq_getElem hk, h3, hc, ho _ (List.getElem_mem hk)⟩
section
variable {w0 W W' : World} {l : List Rat} {g o n c : Nat} {vs : List Rv}
theorem qs_set (vs : List Rv) (k : Nat) (v : Rv) : qs (vs.set k v) = (qs vs).set k v.q := by unfold qs; rw [List.map_set]
theorem VB.set (h : VB w0 l (some ⟨g, o, none⟩) n c vs W) {k : Nat} (hk : k < n) {v : Rv} (hv : v.ok W) : VB w0 (l.set k v.q) (some ⟨g, o, none⟩) n c (vs.set k v) (((W.setCell ⟨g, o + k * 3, none⟩ (.bool v.s)).setCell ⟨g, o + k * 3 + 1, none⟩ (.slice v.a v.l v.c)).setCell ⟨g, o + k * 3 + 2, none⟩ (.slice v.b v.m v.d)) := by
  have hlt := h.mid.lt g rfl
  have hkp : Keeps W (((W.setCell ⟨g, o + k * 3, none⟩ (.bool v.s)).setCell ⟨g, o + k * 3 + 1, none⟩ (.slice v.a v.l v.c)).setCell ⟨g, o + k * 3 + 2, none⟩ (.slice v.b v.m v.d)) (fun z => z = g) :=
    ((Keeps.setCell _ _ _ (S := fun z => z = g) rfl).trans (Keeps.setCell _ _ _ (S := fun z => z = g) rfl) fun _ _ h => h).trans (Keeps.setCell _ _ _ (S := fun z => z = g) rfl) fun _ _ h => h
  have hok : ∀ u : Rv, u.ok W → u.ok _ := fun u hu => hu.keeps hkp fun z hz => by rw [hz]; exact h.mid.noWord (by decide) g rfl
  refine ⟨?_, by rw [List.length_set]; exact h.len, fun u hu => ?_, by rw [qs_set, h.q], ((h.bel.setCell hlt.1 _).setCell hlt.1 _).setCell hlt.1 _⟩
  · have h1 := h.mid.stored (k * 3) (.bool v.s)
    have h2 := h1.stored (k * 3 + 1) (.slice v.a v.l v.c)
    have h3 := h2.stored (k * 3 + 2) (.slice v.b v.m v.d)
    rw [flat_set3 vs k (by rw [h.len]; exact hk) v]
    exact h3
  · rcases List.mem_or_eq_of_mem_set hu with h1 | rfl
    · exact hok u (h.ok u h1)
    · exact hok u hv
theorem VB.cell (h : VB w0 l (some ⟨g, o, none⟩) n c vs W) {k : Nat} (hk : k < n) : (W.cell? ⟨g, o + k * 3, none⟩).isSome = true ∧ (W.cell? ⟨g, o + k * 3 + 1, none⟩).isSome = true ∧ (W.cell? ⟨g, o + k * 3 + 2, none⟩).isSome = true := by
  obtain ⟨b, o', v, e, _, _, h0, h1, h2, _⟩ := h.vec.get k hk
  cases e
  rw [h0, h1, h2]; exact ⟨rfl, rfl, rfl⟩
theorem VB.made (hb : Below w0.heap.size w0 W) (n : Nat) (hn : n ≤ 1000000) : VB w0 (List.replicate n 0) (some ⟨W.heap.size, 0, none⟩) n n (List.replicate n Rv.zero) (W.alloc (.cells (zeroV n) 40)) := by
  have hl := flat_len Rv.cells 3 rvCells_len (List.replicate n Rv.zero)
  rw [List.length_replicate] at hl
  refine ⟨⟨hl, .inr ⟨W.heap.size, 0, n, _, rfl, hb.size, heap_alloc_new W _, Nat.le_refl _, by unfold maxLen; omega, ?_, ?_⟩⟩, List.length_replicate, fun v hv => by rw [List.eq_of_mem_replicate hv]; exact Rv.zero_ok _, ?_, hb.alloc hb.size _⟩
  · show 0 + n * 3 ≤ ((List.replicate n Rv.zero).flatMap Rv.cells).toArray.size
    rw [List.size_toArray, hl]; omega
  · show (((List.replicate n Rv.zero).flatMap Rv.cells).drop 0).take (n * 3) = _
    rw [List.drop_zero, ← hl, List.take_length]
  · unfold qs
    rw [List.map_replicate]; rfl
end
structure MB (w0 : World) (ma : Option Addr) (mn mc cols : Nat) (gs : List Nat) (vss : List (List Rv)) (W : World) : Prop where
  mid : Mid W w0.heap.size 28 1 (.slice ma mn mc) mn (gs.map fun g => .slice (some ⟨g, 0, none⟩) cols cols)
  gl : gs.length = mn
  vl : vss.length = mn
  row : ∀ (i g : Nat) (vs : List Rv), gs[i]? = some g → vss[i]? = some vs → W.heap[g]? = some (.cells (vs.flatMap Rv.cells).toArray 40 (0, 0)) ∧ vs.length = cols ∧ ∀ v, v ∈ vs → v.ok W
  nod : gs.Pairwise (· ≠ ·)
  ge : ∀ g, g ∈ gs → w0.heap.size ≤ g
  bel : Below w0.heap.size w0 W
section
variable {w0 W W' : World} {ma : Option Addr} {mn mc cols : Nat} {gs : List Nat} {vss : List (List Rv)}
theorem MB.nil (hb : Below w0.heap.size w0 W) (cols : Nat) : MB w0 none 0 0 cols [] [] W := ⟨by simpa using Mid.nil W w0.heap.size 28 1, rfl, rfl, fun _ _ _ h => (by simp at h), List.Pairwise.nil, fun _ h => (by cases h), hb⟩
theorem MB.rowAt (h : MB w0 ma mn mc cols gs vss W) {g : Nat} (hg : g ∈ gs) : ∃ cs, W.heap[g]? = some (.cells cs 40 (0, 0)) := by
  obtain ⟨i, hi, rfl⟩ := List.mem_iff_getElem.1 hg
  have hi2 : i < vss.length := by rw [h.vl, ← h.gl]; exact hi
  exact ⟨_, (h.row i _ vss[i] (List.getElem?_eq_getElem hi) (List.getElem?_eq_getElem hi2)).1⟩
theorem MB.lt (h : MB w0 ma mn mc cols gs vss W) (g : Nat) (hg : g ∈ gs) : g < W.heap.size := by
  obtain ⟨cs, hc⟩ := h.rowAt hg
  exact lt_of_block hc
theorem Mid.typed {w : World} {base : Nat} {e : TypeId} {size n : Nat} {v : Value} {xs : List Value} (h : Mid w base e size v n xs) {k : Nat} (hk : v.ownBlock = some k) : ∃ cs, w.heap[k]? = some (.cells cs e (0, 0)) := by
  rcases h.2 with ⟨rfl, _⟩ | ⟨g, o, cap, cur, rfl, hb, hg, _⟩
  · cases hk
  · cases hk; exact ⟨_, hg⟩
theorem MB.own (h : MB w0 ma mn mc cols gs vss W) {g : Nat} (hg : g ∈ gs) : (Value.slice ma mn mc).ownBlock ≠ some g := fun e => by
  obtain ⟨cs, h1⟩ := h.mid.typed e
  obtain ⟨ds, h2⟩ := h.rowAt hg
  rw [h1] at h2
  injection h2 with h2
  injection h2 with _ h3
  exact absurd h3 (by decide)
theorem MB.call (h : MB w0 ma mn mc cols gs vss W) (hb : Below W.heap.size W W') : MB w0 ma mn mc cols gs vss W' :=
  ⟨mid_under h.mid hb, h.gl, h.vl, fun i g vs h1 h2 => ⟨(hb.block _ (h.lt g (List.mem_of_getElem? h1))).trans (h.row i g vs h1 h2).1, (h.row i g vs h1 h2).2.1, fun v hv => ((h.row i g vs h1 h2).2.2 v hv).below hb⟩, h.nod, h.ge, bthen h.bel hb⟩
theorem MB.push (h : MB w0 ma mn mc cols gs vss W) {vs : List Rv} {g : Nat} {a' : Option Addr} {c' : Nat} {ob : Obj} (hg : W.heap[g]? = some (.cells (vs.flatMap Rv.cells).toArray 40 (0, 0))) (hl : vs.length = cols) (ho : ∀ v, v ∈ vs → v.ok W) (hn : ∀ q, q ∈ gs → q ≠ g) (hge : w0.heap.size ≤ g)
    (hm : Mid W' w0.heap.size 28 1 (.slice a' (mn + 1) c') (mn + 1) ((gs.map fun g => .slice (some ⟨g, 0, none⟩) cols cols) ++ [.slice (some ⟨g, 0, none⟩) cols cols])) (hgr : (W.alloc ob).grownBy W' (Value.slice ma mn mc).ownBlock) : MB w0 a' (mn + 1) c' cols (gs ++ [g]) (vss ++ [vs]) W' := by
  have hk := grown_keeps hgr
  have hnw : ∀ z, (Value.slice ma mn mc).ownBlock = some z → ¬ WordB W z := fun z hz => h.mid.noWord (by decide) z hz
  have hne : ∀ q, (∃ cs, W.heap[q]? = some (.cells cs 40 (0, 0))) → ¬ (Value.slice ma mn mc).ownBlock = some q := fun q ⟨ds, h2⟩ e => by
    obtain ⟨cs, h1⟩ := h.mid.typed e
    rw [h1] at h2
    injection h2 with h2
    injection h2 with _ h3
    exact absurd h3 (by decide)
  have hrow : ∀ (q : Nat) (us : List Rv), W.heap[q]? = some (.cells (us.flatMap Rv.cells).toArray 40 (0, 0)) → W'.heap[q]? = some (.cells (us.flatMap Rv.cells).toArray 40 (0, 0)) := fun q us hq => (hk.block q (lt_of_block hq) (hne q ⟨_, hq⟩)).trans hq
  refine ⟨by rw [List.map_append]; exact hm, by simp [h.gl], by simp [h.vl], fun i q us h1 h2 => ?_, List.pairwise_append.2 ⟨h.nod, List.pairwise_singleton _ _, fun x hx y hy => by rw [List.mem_singleton.1 hy]; exact hn x hx⟩, fun q hq => ?_, (h.bel.alloc h.bel.size ob).grown hgr (by have := h.bel.size; simp; omega) fun k hk2 => (h.mid.lt k hk2).1⟩
  · rcases Nat.lt_or_ge i mn with hi | hi
    · rw [List.getElem?_append_left (by rw [h.gl]; exact hi)] at h1
      rw [List.getElem?_append_left (by rw [h.vl]; exact hi)] at h2
      obtain ⟨r1, r2, r3⟩ := h.row i q us h1 h2
      exact ⟨hrow q us r1, r2, fun v hv => (r3 v hv).keeps hk hnw⟩
    · rw [List.getElem?_append_right (by rw [h.gl]; exact hi), h.gl] at h1
      rw [List.getElem?_append_right (by rw [h.vl]; exact hi), h.vl] at h2
      obtain ⟨e, rfl⟩ := List.getElem?_eq_some_iff.1 h1
      obtain ⟨e2, rfl⟩ := List.getElem?_eq_some_iff.1 h2
      simp only [List.getElem_singleton]
      exact ⟨hrow g vs hg, hl, fun v hv => (ho v hv).keeps hk hnw⟩
  · rcases List.mem_append.1 hq with hq | hq
    · exact h.ge q hq
    · rw [List.mem_singleton.1 hq]; exact hge
theorem MB.over (h : MB w0 ma mn mc cols gs vss W) {k g : Nat} {us : List Rv} (hk : gs[k]? = some g) (hl : us.length = cols) (ho : ∀ v, v ∈ us → v.ok W) (hw : W'.heap[g]? = some (.cells (us.flatMap Rv.cells).toArray 40 (0, 0))) (hkp : Keeps W W' fun z => z = g) : MB w0 ma mn mc cols gs (vss.set k us) W' := by
  have hgm : g ∈ gs := List.mem_of_getElem? hk
  have hgl := h.ge g hgm
  have hnw : ∀ z, z = g → ¬ WordB W z := fun z hz => by
    obtain ⟨cs, hc⟩ := h.rowAt hgm
    rw [hz]; exact noWord_of hc (by decide)
  refine ⟨h.mid.keeps hkp fun z hz e => h.own hgm (e ▸ hz), h.gl, by rw [List.length_set]; exact h.vl, fun i q vs h1 h2 => ?_, h.nod, h.ge, h.bel.trans (hkp.below h.bel.size fun b hb => by rw [hb]; exact hgl)⟩
  by_cases hik : i = k
  · subst hik
    rw [hk] at h1
    cases h1
    have hlt : i < vss.length := by
      have := (List.getElem?_eq_some_iff.1 h2).1
      rwa [List.length_set] at this
    rw [List.getElem?_set_self hlt] at h2
    cases h2
    exact ⟨hw, hl, fun v hv => (ho v hv).keeps hkp hnw⟩
  · rw [List.getElem?_set_ne (fun e => hik e.symm)] at h2
    obtain ⟨r1, r2, r3⟩ := h.row i q vs h1 h2
    have hqg : q ≠ g := fun e => by
      subst e
      obtain ⟨e1, e2⟩ := List.getElem?_eq_some_iff.1 h1
      obtain ⟨e3, e4⟩ := List.getElem?_eq_some_iff.1 hk
      have hp := List.pairwise_iff_getElem.1 h.nod
      rcases Nat.lt_or_gt_of_ne hik with h5 | h5
      · exact hp i k e1 e3 h5 (by rw [e2, e4])
      · exact hp k i e3 e1 h5 (by rw [e2, e4])
    exact ⟨(hkp.block q (lt_of_block r1) hqg).trans r1, r2, fun v hv => (r3 v hv).keeps hkp hnw⟩
theorem flat_one {α β : Type} (f : α → β) (l : List α) : (l.map fun x => [f x]).flatten = l.map f := by induction l <;> simp_all
theorem MB.mat (h : MB w0 ma mn mc cols gs vss W) (hc : cols ≤ maxLen) : ∃ ms, MatW W ma mn mc cols ms ∧ ms.map (·.vs) = vss := by
  have hz : (gs.zip vss).length = mn := by rw [List.length_zip, h.gl, h.vl, Nat.min_self]
  refine ⟨(gs.zip vss).map fun p => ⟨some ⟨p.1, 0, none⟩, cols, cols, p.2⟩, ⟨by rw [List.length_map]; exact hz, ?_, fun r hr => ?_⟩, ?_⟩
  · have e : ((gs.zip vss).map fun p => (⟨some ⟨p.1, 0, none⟩, cols, cols, p.2⟩ : MRow)).flatMap mrowCells = (gs.map fun g => .slice (some ⟨g, 0, none⟩) cols cols) := by
      have e2 : (gs.zip vss).map Prod.fst = gs := List.map_fst_zip (by rw [h.gl, h.vl]; exact Nat.le_refl _)
      conv => rhs; rw [← e2]
      simp only [List.flatMap, mrowCells, List.map_map, Function.comp_def]
      exact flat_one _ _
    rw [e]
    exact Sl.ofMid h.mid
  · obtain ⟨⟨g, us⟩, hp, rfl⟩ := List.mem_map.1 hr
    obtain ⟨i, hi, he⟩ := List.mem_iff_getElem.1 hp
    rw [hz] at hi
    rw [List.getElem_zip] at he
    have h1 : gs[i]? = some g := by rw [List.getElem?_eq_getElem (by rw [h.gl]; exact hi)]; exact congrArg some (congrArg Prod.fst he)
    have h2 : vss[i]? = some us := by rw [List.getElem?_eq_getElem (by rw [h.vl]; exact hi)]; exact congrArg some (congrArg Prod.snd he)
    obtain ⟨r1, r2, r3⟩ := h.row i _ _ h1 h2
    refine ⟨⟨r2, ?_, r3⟩, rfl⟩
    have hl := flat_len Rv.cells 3 rvCells_len us
    rw [r2] at hl
    refine ⟨hl, .inr ⟨g, 0, cols, rfl, Nat.le_refl _, hc, lt_of_block r1, fun j u hj => ?_⟩⟩
    rw [Nat.zero_add]
    exact cell_of_block r1 (by simpa using hj)
  · rw [List.map_map]
    exact List.map_snd_zip (by rw [h.gl, h.vl]; exact Nat.le_refl _)
end
end Go.Proofs.Ytndndfobkbeolaa
namespace Go.Proofs.Ytndndfobkbeolaa
open Go.RowKit Go.Extern.Stop Go.Stop Go.Extern
section
variable {w0 W W' : World} {ma : Option Addr} {mn mc cols : Nat} {gs : List Nat} {vss : List (List Rv)}
theorem typed_ne {w : World} {p q : Nat} {cs ds : Array Value} {T U : TypeId} (h1 : w.heap[p]? = some (.cells cs T (0, 0))) (h2 : w.heap[q]? = some (.cells ds U (0, 0))) (hT : T ≠ U) : p ≠ q := fun e => by
  subst e
  rw [h1] at h2
  injection h2 with h2
  injection h2 with _ h3
  exact hT h3
theorem MB.box (h : MB w0 ma mn mc cols gs vss W) {ob : Obj} {q : Nat} {cs : Array Value} (hg : (W.alloc ob).grownBy W' (Value.slice ma mn mc).ownBlock) (hq : W.heap[q]? = some (.cells cs 56 (0, 0))) : W'.heap[q]? = some (.cells cs 56 (0, 0)) :=
  ((grown_keeps hg).block q (lt_of_block hq) (fun e => by
    obtain ⟨ds, h1⟩ := h.mid.typed e
    exact typed_ne h1 hq (by decide) rfl)).trans hq
theorem MB.other (h : MB w0 ma mn mc cols gs vss W) {q j : Nat} {cs : Array Value} (hq : W.heap[q]? = some (.cells cs 56 (0, 0))) (hge : w0.heap.size ≤ q) (v : Value) : MB w0 ma mn mc cols gs vss (W.setCell ⟨q, j, none⟩ v) := by
  have hk := Keeps.setCell W ⟨q, j, none⟩ v (S := fun z => z = q) rfl
  refine ⟨h.mid.keeps hk fun z hz e => by
    obtain ⟨ds, h1⟩ := h.mid.typed hz
    subst e
    exact typed_ne h1 hq (by decide) rfl, h.gl, h.vl, fun i g vs h1 h2 => ?_, h.nod, h.ge, h.bel.setCell hge _⟩
  obtain ⟨r1, r2, r3⟩ := h.row i g vs h1 h2
  exact ⟨(hk.block g (lt_of_block r1) (typed_ne r1 hq (by decide))).trans r1, r2, fun u hu => (r3 u hu).keeps hk fun z hz => by rw [hz]; exact noWord_of hq (by decide)⟩
end
def NewM (rn cols : Nat) (w : World) (e : Ending) (w' : World) : Prop := ∃ ma mc gs, e = .returned (.tuple #[.agg #[.slice ma rn mc, .int .i64 cols], .bool true]) ∧ MB w ma rn mc cols gs (List.replicate rn (List.replicate cols Rv.zero)) w'
set_option maxRecDepth 100000 in
set_option maxHeartbeats 8000000 in
theorem mnew_any (rn cols : Nat) (w : World) (h1 : rn ≤ 64) (h2 : cols ≤ 64) : Calls Try.prog 78 #[.int .i64 rn, .int .i64 cols] w (NewM rn cols w) := by
  obtain ⟨tv, hv1, hv2, hv3, hv4⟩ := info_parts Try.infoVec
  have HMV := Lib.hid (fun W : World => make_vec cols (by omega) W)
  obtain ⟨w1, hw1⟩ : ∃ w1, (w.alloc (.cells #[.slice none 0 0, .int .i64 0] 56)).alloc (.cells #[.slice none 0 0, .int .i64 cols] 56) = w1 := ⟨_, rfl⟩
  have hbm : w1.heap[w.heap.size + 1]? = some (.cells #[.slice none 0 0, .int .i64 cols] 56 (0, 0)) := by rw [← hw1]; exact (heap2 w _ _).2
  have hbr : w1.heap[w.heap.size]? = some (.cells #[.slice none 0 0, .int .i64 0] 56 (0, 0)) := by rw [← hw1]; exact (heap2 w _ _).1
  have hb1 : Below w.heap.size w w1 := by rw [← hw1]; exact belowBox2 w _ _
  obtain ⟨mb, hmb⟩ : ∃ mb, w.heap.size + 1 = mb := ⟨_, rfl⟩
  obtain ⟨rb, hrb⟩ : ∃ rb, w.heap.size = rb := ⟨_, rfl⟩
  have hne : rb ≠ mb := by omega
  rw [hmb] at hbm
  rw [hrb] at hbr
  have HBM := Lib.hid hbm
  have HBR := Lib.hid hbr
  have HB1 := Lib.hid hb1
  have HNE := Lib.hid hne
  have HGM := Lib.hid (show w.heap.size ≤ mb by omega)
  have HGR := Lib.hid (show w.heap.size ≤ rb by omega)
  have HW1 := Lib.hid hw1
  have HMBE := Lib.hid hmb
  have HRBE := Lib.hid hrb
  have q1 : ¬ (rn : Int) < 0 := by omega
  have q2 : ¬ (64 : Int) < (rn : Int) := by omega
  have q3 : ¬ (cols : Int) < 0 := by omega
  have q4 : ¬ (64 : Int) < (cols : Int) := by omega
  clear hbm hbr hb1 hne hw1 hmb hrb
  go_enter Try.func78, Try.ntmps78
  go_upto_region 4 with fail
  (try simp only [HW1.out])
  (try simp only [HMBE.out])
  (try simp only [HRBE.out])
  clear HW1 HMBE HRBE
  go_wp2_with fail
  go_loopw [25] (fun iv wr => ∃ (k : Nat) (oa : Option Addr) (oc : Nat) (gs : List Nat), k ≤ rn ∧ iv = .int .i64 k ∧ MB w oa k oc cols gs (List.replicate k (List.replicate cols Rv.zero)) wr ∧ wr.heap[mb]? = some (.cells #[.slice oa k oc, .int .i64 cols] 56 (0, 0)) ∧ wr.heap[rb]? = some (.cells #[.slice none 0 0, .int .i64 0] 56 (0, 0))) (fun iv _ => rn - (intOf iv).toNat)
  case atStart => exact ⟨0, none, 0, [], Nat.zero_le _, rfl, MB.nil HB1.out cols, HBM.out, HBR.out⟩
  case round =>
    obtain ⟨k, oa, oc, gs, hk, rfl, hm, hbm, hbr⟩ := hrel
    replace HBM := Lib.hid hbm
    replace HBR := Lib.hid hbr
    have HMB := Lib.hid hm
    by_cases hlt : k < rn
    · have i1 : (k : Int) < (rn : Int) := by omega
      clear hbm hbr hm
      go_upto_region 6 with fail
      replace HMB := Lib.hid (HMB.out.call (show Below wr.heap.size wr wr.drew from Below.drawn wr 1))
      replace HBM := Lib.hid (((show Below wr.heap.size wr wr.drew from Below.drawn wr 1).block mb (lt_of_block HBM.out)).trans HBM.out)
      replace HBR := Lib.hid (((show Below wr.heap.size wr wr.drew from Below.drawn wr 1).block rb (lt_of_block HBR.out)).trans HBR.out)
      refine wp_region_held_drew (S := fun _ => True) (by kernel_rfl) (trivial) (fun hHeld => ?_)
      generalize wr.drew = wd at HMB HBM HBR hHeld ⊢
      refine tk 0 (some 27) (v := ?_) rfl rfl ?_ ?_
      rotate_left
      · (intro w _; go_simp; (try with_reducible rfl))
      simp only [Act.put, stB, stZ, stS]
      refine tk 2 (some 29) (v := ?_) rfl rfl ?_ ?_
      rotate_left
      · (intro w _; go_simp; (try with_reducible rfl))
      simp only [Act.put, stB, stZ, stS]
      refine wpAnyH_ready (rs := [1, 3]) (by kernel_rfl) (by simp) ?_
      refine (AllReadyH.cons (o := { dst := some 28, op := Op.load 54 (Operand.tmp 27), type := 54, pos := "mat.go:25", after := #[{ on := 0, ground := Ground.data }], guard := none }) rfl (fun K hK => ?_) (AllReadyH.cons (o := { dst := some 30, op := Op.makeSlice 28 (Operand.tmp 29) (Operand.tmp 29), type := 28, pos := "mat.go:25", after := #[{ on := 2, ground := Ground.data }, { on := 2, ground := Ground.data }], guard := none }) rfl (fun K hK => ?_) AllReadyH.nil))
      · skip
        have c0 := cell_of_block (j := 0) HBM.out rfl
        go_simp
        clear c0
        refine hK.out _ _ (trivial) (fun hHeld2 => ?_)
        clear hK K hHeld
        rename _ => hHeld
        try simp only [Act.put, stB, stZ, stS]
        refine wpAnyH_ready (rs := [3]) (by kernel_rfl) (by simp) ?_
        refine (AllReadyH.cons (o := { dst := some 30, op := Op.makeSlice 28 (Operand.tmp 29) (Operand.tmp 29), type := 28, pos := "mat.go:25", after := #[{ on := 2, ground := Ground.data }, { on := 2, ground := Ground.data }], guard := none }) rfl (fun K hK => ?_) AllReadyH.nil)
        have hmv := HMV.out wd
        go_simp
        clear hmv
        have HG := Lib.hid (heap_alloc_new wd (.cells (zeroV cols) 40))
        have hgn : ∀ q, q ∈ gs → q ≠ wd.heap.size := fun q hq => by have := HMB.out.lt q hq; omega
        have hge := HMB.out.bel.size
        replace HBM := Lib.hid (((belowBox wd (.cells (zeroV cols) 40)).block mb (lt_of_block HBM.out)).trans HBM.out)
        replace HBR := Lib.hid (((belowBox wd (.cells (zeroV cols) 40)).block rb (lt_of_block HBR.out)).trans HBR.out)
        replace HMB := Lib.hid (HMB.out.call (belowBox wd (.cells (zeroV cols) 40)))
        have HGN := Lib.hid hgn
        have HGE := Lib.hid hge
        clear hgn hge
        generalize wd.alloc (.cells (zeroV cols) 40) = wa at HG HBM HBR HMB ⊢
        generalize wd.heap.size = g at HG HGN HGE ⊢
        refine hK.out _ _ (trivial) (fun hHeld2 => ?_)
        clear hK K hHeld
        rename _ => hHeld
        try simp only [Act.put, stB, stZ, stS]
        refine wpAnyH_ready (rs := [4]) (by kernel_rfl) (by simp) ?_
        refine (AllReadyH.cons (o := { dst := some 31, op := Op.buildSlice 54 1 #[(0, Operand.tmp 30)], type := 54, pos := "mat.go:25", after := #[{ on := 3, ground := Ground.data }], guard := none }) rfl (fun K hK => ?_) AllReadyH.nil)
        go_simp
        have HBM2 := Lib.hid (((belowBox wa (.cells #[.slice (some ⟨g, 0, none⟩) cols cols] 28)).block mb (lt_of_block HBM.out)).trans HBM.out)
        have HM3 := Lib.hid (HMB.out.mid.alloc (.cells #[.slice (some ⟨g, 0, none⟩) cols cols] 28))
        have HS3 := Lib.hid (show Src Try.prog 1 54 (.slice (some ⟨wa.heap.size, 0, none⟩) 1 1) 1 [.slice (some ⟨g, 0, none⟩) cols cols] (wa.alloc (.cells #[.slice (some ⟨g, 0, none⟩) cols cols] 28)) from
          (Sl.lit wa 28 1 1 [.slice (some ⟨g, 0, none⟩) cols cols] (by unfold maxLen; omega) rfl).src (P := Try.prog) Try.underlying54 (fun u hu => by rw [List.mem_singleton.1 hu]; rfl))
        have HW3 := Lib.hid (show w.heap.size ≤ (wa.alloc (.cells #[.slice (some ⟨g, 0, none⟩) cols cols] 28)).heap.size by have := HMB.out.bel.size; simp; omega)
        refine hK.out _ _ (trivial) (fun hHeld2 => ?_)
        clear hK K hHeld
        rename _ => hHeld
        try simp only [Act.put, stB, stZ, stS]
        refine wpAnyH_ready (rs := [5]) (by kernel_rfl) (by simp) ?_
        refine (AllReadyH.cons (o := { dst := some 32, op := Op.call { callee := Callee.builtin Builtin.append, args := #[Operand.tmp 28, Operand.tmp 31], argTypes := #[54, 54] }, type := 54, pos := "mat.go:25", after := #[{ on := 1, ground := Ground.data }, { on := 4, ground := Ground.data }], guard := none }) rfl (fun K hK => ?_) AllReadyH.nil)
        refine step_append_mid (v := .slice oa k oc) (by rfl) _ _ 54 54 (by rfl) tv (.slice none 0 0) 24 Try.underlying54 hv1 hv2 hv3 hv4 rfl (by rfl) HM3.out _ (by rfl) 1 _ HS3.out (by unfold maxLen; omega) (by omega) HW3.out ?_
        intro a4 c4 w4 hmo hgo hbo
        have HMX := Lib.hid (HMB.out.push (vs := List.replicate cols Rv.zero) HG.out List.length_replicate (fun v hv => by rw [List.eq_of_mem_replicate hv]; exact Rv.zero_ok _) HGN.out HGE.out hmo hgo)
        replace HBR := Lib.hid (HMB.out.box hgo HBR.out)
        replace HBM := Lib.hid (HMB.out.box hgo HBM.out)
        clear hmo hgo hbo HBM2 HM3 HS3 HW3 HG HGN HGE HMB
        dsimp only
        refine hK.out _ _ (trivial) (fun hHeld2 => ?_)
        clear hK K hHeld
        rename _ => hHeld
        try simp only [Act.put, stB, stZ, stS]
        refine tk 6 (some 33) (v := ?_) rfl rfl ?_ ?_
        rotate_left
        · (intro w _; go_simp; (try with_reducible rfl))
        simp only [Act.put, stB, stZ, stS]
        refine wpAnyH_ready (rs := [7]) (by kernel_rfl) (by simp) ?_
        refine (AllReadyH.cons (o := { dst := none, op := Op.store 54 (Operand.tmp 33) (Operand.tmp 32), type := 0, pos := "mat.go:25", after := #[{ on := 6, ground := Ground.data }, { on := 5, ground := Ground.data }, { on := 5, ground := Ground.chain }, { on := 0, ground := Ground.phase }, { on := 1, ground := Ground.phase }, { on := 2, ground := Ground.phase }, { on := 3, ground := Ground.phase }, { on := 4, ground := Ground.phase }, { on := 5, ground := Ground.phase }], guard := none }) rfl (fun K hK => ?_) AllReadyH.nil)
        have c0 := cell_of_block (j := 0) HBM.out rfl
        have f0 : w4.frozen? ⟨mb, 0, none⟩ = false := free_of_block HBM.out
        go_simp
        clear c0 f0
        have HBE := Lib.hid (heap_setCell_same w4 mb 0 _ _ (.slice a4 (k + 1) c4) HBM.out)
        have HBQ := Lib.hid ((Below.heap_setCell w4 ⟨mb, 0, none⟩ (.slice a4 (k + 1) c4) rb HNE.out).trans HBR.out)
        have HMY := Lib.hid (HMX.out.other (j := 0) HBM.out HGM.out (.slice a4 (k + 1) c4))
        clear HBM HBR HMX
        refine hK.out _ _ (trivial) (fun hHeld2 => ?_)
        clear hK K hHeld
        rename _ => hHeld
        try simp only [Act.put, stB, stZ, stS]
        refine wpAnyH_done (by kernel_rfl) ?_ _
        (try simp only [Exit.inBlock, Exit.then])
        clear hHeld
        go_wp2_with fail
        go_roundw
        case rel => exact ⟨k + 1, a4, c4, gs ++ [g], by omega, by go_num, by rw [List.replicate_succ']; exact HMY.out, HBE.out, HBQ.out⟩
        case measure => simp [intOf]; omega
      · skip
        have hmv := HMV.out wd
        go_simp
        clear hmv
        have HG := Lib.hid (heap_alloc_new wd (.cells (zeroV cols) 40))
        have hgn : ∀ q, q ∈ gs → q ≠ wd.heap.size := fun q hq => by have := HMB.out.lt q hq; omega
        have hge := HMB.out.bel.size
        replace HBM := Lib.hid (((belowBox wd (.cells (zeroV cols) 40)).block mb (lt_of_block HBM.out)).trans HBM.out)
        replace HBR := Lib.hid (((belowBox wd (.cells (zeroV cols) 40)).block rb (lt_of_block HBR.out)).trans HBR.out)
        replace HMB := Lib.hid (HMB.out.call (belowBox wd (.cells (zeroV cols) 40)))
        have HGN := Lib.hid hgn
        have HGE := Lib.hid hge
        clear hgn hge
        generalize wd.alloc (.cells (zeroV cols) 40) = wa at HG HBM HBR HMB ⊢
        generalize wd.heap.size = g at HG HGN HGE ⊢
        refine hK.out _ _ (trivial) (fun hHeld2 => ?_)
        clear hK K hHeld
        rename _ => hHeld
        try simp only [Act.put, stB, stZ, stS]
        refine wpAnyH_ready (rs := [1, 4]) (by kernel_rfl) (by simp) ?_
        refine (AllReadyH.cons (o := { dst := some 28, op := Op.load 54 (Operand.tmp 27), type := 54, pos := "mat.go:25", after := #[{ on := 0, ground := Ground.data }], guard := none }) rfl (fun K hK => ?_) (AllReadyH.cons (o := { dst := some 31, op := Op.buildSlice 54 1 #[(0, Operand.tmp 30)], type := 54, pos := "mat.go:25", after := #[{ on := 3, ground := Ground.data }], guard := none }) rfl (fun K hK => ?_) AllReadyH.nil))
        · skip
          have c0 := cell_of_block (j := 0) HBM.out rfl
          go_simp
          clear c0
          refine hK.out _ _ (trivial) (fun hHeld2 => ?_)
          clear hK K hHeld
          rename _ => hHeld
          try simp only [Act.put, stB, stZ, stS]
          refine wpAnyH_ready (rs := [4]) (by kernel_rfl) (by simp) ?_
          refine (AllReadyH.cons (o := { dst := some 31, op := Op.buildSlice 54 1 #[(0, Operand.tmp 30)], type := 54, pos := "mat.go:25", after := #[{ on := 3, ground := Ground.data }], guard := none }) rfl (fun K hK => ?_) AllReadyH.nil)
          go_simp
          have HBM2 := Lib.hid (((belowBox wa (.cells #[.slice (some ⟨g, 0, none⟩) cols cols] 28)).block mb (lt_of_block HBM.out)).trans HBM.out)
          have HM3 := Lib.hid (HMB.out.mid.alloc (.cells #[.slice (some ⟨g, 0, none⟩) cols cols] 28))
          have HS3 := Lib.hid (show Src Try.prog 1 54 (.slice (some ⟨wa.heap.size, 0, none⟩) 1 1) 1 [.slice (some ⟨g, 0, none⟩) cols cols] (wa.alloc (.cells #[.slice (some ⟨g, 0, none⟩) cols cols] 28)) from
            (Sl.lit wa 28 1 1 [.slice (some ⟨g, 0, none⟩) cols cols] (by unfold maxLen; omega) rfl).src (P := Try.prog) Try.underlying54 (fun u hu => by rw [List.mem_singleton.1 hu]; rfl))
          have HW3 := Lib.hid (show w.heap.size ≤ (wa.alloc (.cells #[.slice (some ⟨g, 0, none⟩) cols cols] 28)).heap.size by have := HMB.out.bel.size; simp; omega)
          refine hK.out _ _ (trivial) (fun hHeld2 => ?_)
          clear hK K hHeld
          rename _ => hHeld
          try simp only [Act.put, stB, stZ, stS]
          refine wpAnyH_ready (rs := [5]) (by kernel_rfl) (by simp) ?_
          refine (AllReadyH.cons (o := { dst := some 32, op := Op.call { callee := Callee.builtin Builtin.append, args := #[Operand.tmp 28, Operand.tmp 31], argTypes := #[54, 54] }, type := 54, pos := "mat.go:25", after := #[{ on := 1, ground := Ground.data }, { on := 4, ground := Ground.data }], guard := none }) rfl (fun K hK => ?_) AllReadyH.nil)
          refine step_append_mid (v := .slice oa k oc) (by rfl) _ _ 54 54 (by rfl) tv (.slice none 0 0) 24 Try.underlying54 hv1 hv2 hv3 hv4 rfl (by rfl) HM3.out _ (by rfl) 1 _ HS3.out (by unfold maxLen; omega) (by omega) HW3.out ?_
          intro a4 c4 w4 hmo hgo hbo
          have HMX := Lib.hid (HMB.out.push (vs := List.replicate cols Rv.zero) HG.out List.length_replicate (fun v hv => by rw [List.eq_of_mem_replicate hv]; exact Rv.zero_ok _) HGN.out HGE.out hmo hgo)
          replace HBR := Lib.hid (HMB.out.box hgo HBR.out)
          replace HBM := Lib.hid (HMB.out.box hgo HBM.out)
          clear hmo hgo hbo HBM2 HM3 HS3 HW3 HG HGN HGE HMB
          dsimp only
          refine hK.out _ _ (trivial) (fun hHeld2 => ?_)
          clear hK K hHeld
          rename _ => hHeld
          try simp only [Act.put, stB, stZ, stS]
          refine tk 6 (some 33) (v := ?_) rfl rfl ?_ ?_
          rotate_left
          · (intro w _; go_simp; (try with_reducible rfl))
          simp only [Act.put, stB, stZ, stS]
          refine wpAnyH_ready (rs := [7]) (by kernel_rfl) (by simp) ?_
          refine (AllReadyH.cons (o := { dst := none, op := Op.store 54 (Operand.tmp 33) (Operand.tmp 32), type := 0, pos := "mat.go:25", after := #[{ on := 6, ground := Ground.data }, { on := 5, ground := Ground.data }, { on := 5, ground := Ground.chain }, { on := 0, ground := Ground.phase }, { on := 1, ground := Ground.phase }, { on := 2, ground := Ground.phase }, { on := 3, ground := Ground.phase }, { on := 4, ground := Ground.phase }, { on := 5, ground := Ground.phase }], guard := none }) rfl (fun K hK => ?_) AllReadyH.nil)
          have c0 := cell_of_block (j := 0) HBM.out rfl
          have f0 : w4.frozen? ⟨mb, 0, none⟩ = false := free_of_block HBM.out
          go_simp
          clear c0 f0
          have HBE := Lib.hid (heap_setCell_same w4 mb 0 _ _ (.slice a4 (k + 1) c4) HBM.out)
          have HBQ := Lib.hid ((Below.heap_setCell w4 ⟨mb, 0, none⟩ (.slice a4 (k + 1) c4) rb HNE.out).trans HBR.out)
          have HMY := Lib.hid (HMX.out.other (j := 0) HBM.out HGM.out (.slice a4 (k + 1) c4))
          clear HBM HBR HMX
          refine hK.out _ _ (trivial) (fun hHeld2 => ?_)
          clear hK K hHeld
          rename _ => hHeld
          try simp only [Act.put, stB, stZ, stS]
          refine wpAnyH_done (by kernel_rfl) ?_ _
          (try simp only [Exit.inBlock, Exit.then])
          clear hHeld
          go_wp2_with fail
          go_roundw
          case rel => exact ⟨k + 1, a4, c4, gs ++ [g], by omega, by go_num, by rw [List.replicate_succ']; exact HMY.out, HBE.out, HBQ.out⟩
          case measure => simp [intOf]; omega
        · skip
          go_simp
          have HBM2 := Lib.hid (((belowBox wa (.cells #[.slice (some ⟨g, 0, none⟩) cols cols] 28)).block mb (lt_of_block HBM.out)).trans HBM.out)
          have HM3 := Lib.hid (HMB.out.mid.alloc (.cells #[.slice (some ⟨g, 0, none⟩) cols cols] 28))
          have HS3 := Lib.hid (show Src Try.prog 1 54 (.slice (some ⟨wa.heap.size, 0, none⟩) 1 1) 1 [.slice (some ⟨g, 0, none⟩) cols cols] (wa.alloc (.cells #[.slice (some ⟨g, 0, none⟩) cols cols] 28)) from
            (Sl.lit wa 28 1 1 [.slice (some ⟨g, 0, none⟩) cols cols] (by unfold maxLen; omega) rfl).src (P := Try.prog) Try.underlying54 (fun u hu => by rw [List.mem_singleton.1 hu]; rfl))
          have HW3 := Lib.hid (show w.heap.size ≤ (wa.alloc (.cells #[.slice (some ⟨g, 0, none⟩) cols cols] 28)).heap.size by have := HMB.out.bel.size; simp; omega)
          refine hK.out _ _ (trivial) (fun hHeld2 => ?_)
          clear hK K hHeld
          rename _ => hHeld
          try simp only [Act.put, stB, stZ, stS]
          refine wpAnyH_ready (rs := [1]) (by kernel_rfl) (by simp) ?_
          refine (AllReadyH.cons (o := { dst := some 28, op := Op.load 54 (Operand.tmp 27), type := 54, pos := "mat.go:25", after := #[{ on := 0, ground := Ground.data }], guard := none }) rfl (fun K hK => ?_) AllReadyH.nil)
          have c0 := cell_of_block (j := 0) HBM2.out rfl
          go_simp
          clear c0
          refine hK.out _ _ (trivial) (fun hHeld2 => ?_)
          clear hK K hHeld
          rename _ => hHeld
          try simp only [Act.put, stB, stZ, stS]
          refine wpAnyH_ready (rs := [5]) (by kernel_rfl) (by simp) ?_
          refine (AllReadyH.cons (o := { dst := some 32, op := Op.call { callee := Callee.builtin Builtin.append, args := #[Operand.tmp 28, Operand.tmp 31], argTypes := #[54, 54] }, type := 54, pos := "mat.go:25", after := #[{ on := 1, ground := Ground.data }, { on := 4, ground := Ground.data }], guard := none }) rfl (fun K hK => ?_) AllReadyH.nil)
          refine step_append_mid (v := .slice oa k oc) (by rfl) _ _ 54 54 (by rfl) tv (.slice none 0 0) 24 Try.underlying54 hv1 hv2 hv3 hv4 rfl (by rfl) HM3.out _ (by rfl) 1 _ HS3.out (by unfold maxLen; omega) (by omega) HW3.out ?_
          intro a4 c4 w4 hmo hgo hbo
          have HMX := Lib.hid (HMB.out.push (vs := List.replicate cols Rv.zero) HG.out List.length_replicate (fun v hv => by rw [List.eq_of_mem_replicate hv]; exact Rv.zero_ok _) HGN.out HGE.out hmo hgo)
          replace HBR := Lib.hid (HMB.out.box hgo HBR.out)
          replace HBM := Lib.hid (HMB.out.box hgo HBM.out)
          clear hmo hgo hbo HBM2 HM3 HS3 HW3 HG HGN HGE HMB
          dsimp only
          refine hK.out _ _ (trivial) (fun hHeld2 => ?_)
          clear hK K hHeld
          rename _ => hHeld
          try simp only [Act.put, stB, stZ, stS]
          refine tk 6 (some 33) (v := ?_) rfl rfl ?_ ?_
          rotate_left
          · (intro w _; go_simp; (try with_reducible rfl))
          simp only [Act.put, stB, stZ, stS]
          refine wpAnyH_ready (rs := [7]) (by kernel_rfl) (by simp) ?_
          refine (AllReadyH.cons (o := { dst := none, op := Op.store 54 (Operand.tmp 33) (Operand.tmp 32), type := 0, pos := "mat.go:25", after := #[{ on := 6, ground := Ground.data }, { on := 5, ground := Ground.data }, { on := 5, ground := Ground.chain }, { on := 0, ground := Ground.phase }, { on := 1, ground := Ground.phase }, { on := 2, ground := Ground.phase }, { on := 3, ground := Ground.phase }, { on := 4, ground := Ground.phase }, { on := 5, ground := Ground.phase }], guard := none }) rfl (fun K hK => ?_) AllReadyH.nil)
          have c0 := cell_of_block (j := 0) HBM.out rfl
          have f0 : w4.frozen? ⟨mb, 0, none⟩ = false := free_of_block HBM.out
          go_simp
          clear c0 f0
          have HBE := Lib.hid (heap_setCell_same w4 mb 0 _ _ (.slice a4 (k + 1) c4) HBM.out)
          have HBQ := Lib.hid ((Below.heap_setCell w4 ⟨mb, 0, none⟩ (.slice a4 (k + 1) c4) rb HNE.out).trans HBR.out)
          have HMY := Lib.hid (HMX.out.other (j := 0) HBM.out HGM.out (.slice a4 (k + 1) c4))
          clear HBM HBR HMX
          refine hK.out _ _ (trivial) (fun hHeld2 => ?_)
          clear hK K hHeld
          rename _ => hHeld
          try simp only [Act.put, stB, stZ, stS]
          refine wpAnyH_done (by kernel_rfl) ?_ _
          (try simp only [Exit.inBlock, Exit.then])
          clear hHeld
          go_wp2_with fail
          go_roundw
          case rel => exact ⟨k + 1, a4, c4, gs ++ [g], by omega, by go_num, by rw [List.replicate_succ']; exact HMY.out, HBE.out, HBQ.out⟩
          case measure => simp [intOf]; omega
    · obtain rfl : k = rn := by omega
      have m0 := cell_of_block (j := 0) hbm rfl
      have m1 := cell_of_block (j := 1) hbm rfl
      have r0 := cell_of_block (j := 0) hbr rfl
      have r1 := cell_of_block (j := 1) hbr rfl
      have f0 : wr.frozen? ⟨rb, 0, none⟩ = false := free_of_block hbr
      have f1 : wr.frozen? ⟨rb, 1, none⟩ = false := free_of_block hbr
      clear hbm hbr hm
      go_wp2_with fail
      have s1 := heap_setCell_same wr rb 0 _ _ (.slice oa k oc) HBR.out
      have s2 := heap_setCell_same _ rb 1 _ _ (.int .i64 cols) s1
      have j0 := cell_of_block (j := 0) s2 rfl
      have j1 := cell_of_block (j := 1) s2 rfl
      refine bodyPost_ret (v := .tuple #[.agg #[.slice oa k oc, .int .i64 cols], .bool true]) (by simp [results, Try.results78, go_sem, j0, j1]) rfl ?_
      exact ⟨oa, oc, gs, rfl, (HMB.out.other HBR.out HGR.out _).other s1 HGR.out _⟩
end Go.Proofs.Ytndndfobkbeolaa
namespace Go.Proofs.Ytndndfobkbeolaa
open Go.RowKit Go.Extern.Stop Go.Stop Go.Extern
theorem Try.sizeRat : (Try.prog.info? 40).map (·.size) = some 3 := by kernel_rfl
theorem set_part {α : Type} (l : List α) (z : α) (n k : Nat) (x : α) (hl : l.length = n) (hk : k < n) (hx : l[k]? = some x) : (l.take k ++ List.replicate (n - k) z).set k x = l.take (k + 1) ++ List.replicate (n - (k + 1)) z := by
  obtain ⟨h1, rfl⟩ := List.getElem?_eq_some_iff.1 hx
  rw [List.set_append_right _ _ (by rw [List.length_take]; omega), List.length_take, Nat.min_eq_left (by omega), Nat.sub_self, List.take_succ_eq_append_getElem h1, List.append_assoc]
  congr 1
  rw [show n - k = (n - (k + 1)) + 1 by omega, List.replicate_succ]
  rfl
theorem set_same {α : Type} {l : List α} {k : Nat} {x : α} (h : l[k]? = some x) : l.set k x = l := by
  obtain ⟨h1, rfl⟩ := List.getElem?_eq_some_iff.1 h
  exact List.set_getElem_self _
theorem MB.rebase {w w1 W : World} {ma : Option Addr} {mn mc cols : Nat} {gs : List Nat} {vss : List (List Rv)} (h : MB w1 ma mn mc cols gs vss W) (hb : Below w.heap.size w w1) : MB w ma mn mc cols gs vss W :=
  ⟨h.mid.mono hb.size, h.gl, h.vl, h.row, h.nod, fun g hg => Nat.le_trans hb.size (h.ge g hg), bthen hb h.bel⟩
theorem MB.get {w W : World} {ma : Option Addr} {mn mc cols : Nat} {gs : List Nat} {vss : List (List Rv)} (h : MB w ma mn mc cols gs vss W) (k : Nat) (hk : k < mn) : ∃ b o g, ma = some ⟨b, o, none⟩ ∧ gs[k]? = some g ∧ W.cell? ⟨b, o + k, none⟩ = some (.slice (some ⟨g, 0, none⟩) cols cols) := by
  obtain ⟨b, o, c', e, h1, h2, h3, h4⟩ := (Sl.ofMid h.mid).plain (by omega)
  cases e
  have hg : k < gs.length := by rw [h.gl]; exact hk
  exact ⟨b, o, gs[k], rfl, List.getElem?_eq_getElem hg, h4 k _ (by rw [List.getElem?_map, List.getElem?_eq_getElem hg]; rfl)⟩
def OfM (rn cols : Nat) (vss : List (List Rv)) (w : World) (e : Ending) (w' : World) : Prop := ∃ ma mc gs, e = .returned (.tuple #[.agg #[.slice ma rn mc, .int .i64 cols], .bool true]) ∧ MB w ma rn mc cols gs vss w'
set_option maxRecDepth 100000 in
set_option maxHeartbeats 8000000 in
theorem mof_any (ra : Option Addr) (rn rc cols : Nat) (ms : List MRow) (w : World) (h : MatW w ra rn rc cols ms) (h1 : rn ≤ 64) (h2 : cols ≤ 64) : Calls Try.prog 56 #[.int .i64 cols, .slice ra rn rc] w (OfM rn cols (ms.map (·.vs)) w) := by
  have hsz := Try.sizeRat
  have hln := h.sl.lenI
  obtain ⟨w1, hw1⟩ : ∃ w1, w.alloc (.cells #[.slice none 0 0, .int .i64 0] 56) = w1 := ⟨_, rfl⟩
  obtain ⟨rb, hrb⟩ : ∃ rb, w.heap.size = rb := ⟨_, rfl⟩
  have hbr : w1.heap[rb]? = some (.cells #[.slice none 0 0, .int .i64 0] 56 (0, 0)) := by rw [← hw1, ← hrb]; exact heap_alloc_new w _
  have hb1 : Below w.heap.size w w1 := by rw [← hw1]; exact belowBox w _
  have HML := Lib.hid h.len
  have HMS := Lib.hid (fun (W : World) (hb : Below w.heap.size w W) => h.below hb)
  have HN := Lib.hid (mnew_any rn cols w1 h1 h2)
  have HBR := Lib.hid hbr
  have HB1 := Lib.hid hb1
  have HGR := Lib.hid (show w.heap.size ≤ rb by omega)
  have HW1 := Lib.hid hw1
  have HRBE := Lib.hid hrb
  clear h hbr hb1 hw1 hrb
  go_enter Try.func56, Try.ntmps56
  go_upto_region 1 with fail
  (try simp only [HW1.out])
  (try simp only [HRBE.out])
  clear HW1 HRBE
  go_wp2_with fail
  refine HN.out.mono ?_
  rintro e w2 ⟨ma, mc, gs, rfl, hm0⟩
  have hm := hm0.rebase HB1.out
  have hal := belowBox w2 (.cells #[.slice ma rn mc, .int .i64 cols] 56)
  have hr2 := (hm0.bel.block rb (lt_of_block HBR.out)).trans HBR.out
  have HBM := Lib.hid (heap_alloc_new w2 (.cells #[.slice ma rn mc, .int .i64 cols] 56))
  replace HBR := Lib.hid ((hal.block rb (lt_of_block hr2)).trans hr2)
  have HGM := Lib.hid (show w.heap.size ≤ w2.heap.size from hm.bel.size)
  have HNE := Lib.hid (show rb ≠ w2.heap.size from Nat.ne_of_lt (lt_of_block hr2))
  have HMB := Lib.hid (hm.call hal)
  clear hm0 hm hal hr2 HN
  go_upto_region 2 with fail
  generalize w2.heap.size = mb at HBM HGM HNE ⊢
  generalize w2.alloc (.cells #[.slice ma rn mc, .int .i64 cols] 56) = w3 at HBM HBR HMB ⊢
  go_wp2_with fail
  go_loopw [22] (fun iv wr => ∃ k : Nat, k ≤ rn ∧ iv = .int .i64 k ∧ MB w ma rn mc cols gs ((ms.map (·.vs)).take (k) ++ List.replicate (rn - (k)) (List.replicate cols Rv.zero)) wr ∧ wr.heap[mb]? = some (.cells #[.slice ma rn mc, .int .i64 cols] 56 (0, 0)) ∧ wr.heap[rb]? = some (.cells #[.slice none 0 0, .int .i64 0] 56 (0, 0))) (fun iv _ => rn - (intOf iv).toNat)
  case atStart => exact ⟨0, Nat.zero_le _, rfl, by rw [List.take_zero, List.nil_append]; exact HMB.out, HBM.out, HBR.out⟩
  case round =>
    obtain ⟨k, hk, rfl, hm, hbm, hbr⟩ := hrel
    replace HBM := Lib.hid hbm
    replace HBR := Lib.hid hbr
    replace HMB := Lib.hid hm
    by_cases hlt : k < rn
    · obtain ⟨b, o, r, e1, e2, _, y, rv, rn9⟩ := (HMS.out wr hm.bel).get k hlt
      obtain ⟨mb2, mo2, g, e3, e4, z⟩ := hm.get k hlt
      have m0 := cell_of_block (j := 0) hbm rfl
      have i0 : (0 : Int) ≤ (k : Int) := by omega
      have i1 : (k : Int) < (rn : Int) := by omega
      have hne : ((r.n : Int) != (cols : Int)) = false := by rw [rn9]; simp
      have HST := Lib.hid (set_part (ms.map (·.vs)) (List.replicate cols Rv.zero) rn k r.vs (by rw [List.length_map]; exact HML.out) hlt (by rw [List.getElem?_map, e2]; rfl))
      have hvk : ((ms.map (·.vs)).take (k) ++ List.replicate (rn - (k)) (List.replicate cols Rv.zero))[k]? = some (List.replicate cols Rv.zero) := by
        rw [List.getElem?_append_right (by rw [List.length_take]; omega), List.length_take, List.length_map, HML.out, Nat.min_eq_left (by omega), Nat.sub_self, show rn - k = (rn - k - 1) + 1 by omega, List.replicate_succ]; rfl
      obtain ⟨hgc, hgl, _⟩ := hm.row k g _ e4 hvk
      subst e1 e3
      by_cases hc0 : cols = 0
      · have HMIN := Lib.hid (show Nat.min r.n cols = 0 by rw [rn9, hc0]; exact Nat.min_self 0)
        have HNX := Lib.hid (show MB w (some ⟨mb2, mo2, none⟩) rn mc cols gs ((ms.map (·.vs)).take (k + 1) ++ List.replicate (rn - (k + 1)) (List.replicate cols Rv.zero)) wr by
          have hv0 : r.vs = List.replicate cols Rv.zero := by rw [hc0]; exact List.eq_nil_of_length_eq_zero (by rw [rv.len, rn9, hc0])
          rw [← HST.out, hv0, set_same hvk]
          exact HMB.out)
        clear hc0
        clear hbm hbr hm e2 rv rn9 hvk hgc hgl e4
        go_wp2_with (with_reducible refine wpList_copy_zero rfl (.tmp 36) (.tmp 37) 28 28 rfl 40 Try.underlying28 (by simp [hsz]) (some ⟨g, 0, none⟩) r.a cols cols r.n r.c rfl rfl HMIN.out ?_)
        go_roundw
        case rel => exact ⟨k + 1, by omega, by go_num, HNX.out, HBM.out, HBR.out⟩
        case measure => simp [intOf]; omega
      · obtain ⟨b2, o2, c2, e5, _, _, hb2, hsrc⟩ := rv.sl.plain (by omega)
        have HG := Lib.hid hgc
        have HRN := Lib.hid rn9
        have HE4 := Lib.hid e4
        have hra : r.a = some ⟨b2, o2, none⟩ := by injection e5
        have hfl := flat_len Rv.cells 3 rvCells_len r.vs
        rw [rv.len, rn9] at hfl
        have hzl := flat_len Rv.cells 3 rvCells_len (List.replicate cols Rv.zero)
        rw [List.length_replicate] at hzl
        have HFL := Lib.hid hfl
        have HSRC := Lib.hid (fun (j : Nat) (v : Value) (hj : (r.vs.flatMap Rv.cells)[j]? = some v) => (show wr.cell? ((⟨b2, o2, none⟩ : Addr).add j) = some v by rw [Addr.add_lit]; exact hsrc j v hj))
        have HFIT := Lib.hid (show (r.vs.flatMap Rv.cells).length = ((List.replicate cols Rv.zero).flatMap Rv.cells).toArray.size by rw [List.size_toArray, hzl, hfl])
        have HMIN := Lib.hid (show cols = Nat.min r.n cols by rw [rn9]; exact (Nat.min_self _).symm)
        have HVO := Lib.hid (show ∀ v, v ∈ r.vs → v.ok wr from rv.ok)
        have HVL := Lib.hid (show r.vs.length = cols by rw [rv.len, rn9])
        rw [hra] at y
        clear hbm hbr hm e2 rv rn9 hvk hgc hgl e4 e5 hsrc hfl hzl hra hb2
        obtain ⟨ra0, rn2, rc2, rvs⟩ := r
        simp only at y hne HST HG HRN HFL HSRC HFIT HMIN HVO HVL
        go_wp2_with (with_reducible refine wpList_copy_all rfl (.tmp 36) (.tmp 37) 28 28 rfl 40 Try.underlying28 3 cols hsz g cols cols ⟨b2, o2, none⟩ rn2 rc2 rfl rfl _ 40 HG.out (rvs.flatMap Rv.cells) HMIN.out HFL.out HSRC.out HFIT.out (rv_one rvs) ?_; intro wq HQG HQK)
        have HNX := Lib.hid (HMB.out.over HE4.out HVL.out HVO.out HQG.out HQK.out)
        rw [HST.out] at HNX
        replace HBM := Lib.hid ((HQK.out.block mb (lt_of_block HBM.out) (fun e => typed_ne HG.out HBM.out (by decide) e.symm)).trans HBM.out)
        replace HBR := Lib.hid ((HQK.out.block rb (lt_of_block HBR.out) (fun e => typed_ne HG.out HBR.out (by decide) e.symm)).trans HBR.out)
        clear HQG HQK
        go_roundw
        case rel => exact ⟨k + 1, by omega, by go_num, HNX.out, HBM.out, HBR.out⟩
        case measure => simp [intOf]; omega
    · obtain rfl : k = rn := by omega
      rw [List.take_of_length_le (by rw [List.length_map, HML.out]; exact Nat.le_refl _), Nat.sub_self, List.replicate_zero, List.append_nil] at hm
      replace HMB := Lib.hid hm
      have m0 := cell_of_block (j := 0) hbm rfl
      have m1 := cell_of_block (j := 1) hbm rfl
      have r0 := cell_of_block (j := 0) hbr rfl
      have r1 := cell_of_block (j := 1) hbr rfl
      have f0 : wr.frozen? ⟨rb, 0, none⟩ = false := free_of_block hbr
      have f1 : wr.frozen? ⟨rb, 1, none⟩ = false := free_of_block hbr
      clear hbm hbr hm
      go_wp2_with fail
      have s1 := heap_setCell_same wr rb 0 _ _ (.slice ma k mc) HBR.out
      have s2 := heap_setCell_same _ rb 1 _ _ (.int .i64 cols) s1
      have j0 := cell_of_block (j := 0) s2 rfl
      have j1 := cell_of_block (j := 1) s2 rfl
      refine bodyPost_ret (v := .tuple #[.agg #[.slice ma k mc, .int .i64 cols], .bool true]) (by simp [results, Try.results56, go_sem, j0, j1]) rfl ?_
      have hfin := ((HMB.out.other (j := 0) HBR.out HGR.out (.slice ma k mc)).other (j := 1) s1 HGR.out (.int .i64 cols))
      exact ⟨ma, mc, gs, rfl, hfin⟩
end Go.Proofs.Ytndndfobkbeolaa
namespace Go.Proofs.Ytndndfobkbeolaa
open Go.RowKit Go.Extern.Stop Go.Stop Go.Extern
set_option maxHeartbeats 4000000 in
theorem has_in (ma : Option Addr) (mn mc cols r c : Nat) (w : World) (h1 : mn ≤ 9223372036854775807) (h2 : cols ≤ 9223372036854775807) (hr : r < mn) (hc : c < cols) : Calls Try.prog 60 #[.agg #[.slice ma mn mc, .int .i64 cols], .int .i64 r, .int .i64 c] w fun e w' => e = .returned (.bool true) ∧ Below w.heap.size w w' := by
  have i0 : (0 : Int) ≤ (r : Int) := by omega
  have i1 : (r : Int) < (mn : Int) := by omega
  have i2 : (0 : Int) ≤ (c : Int) := by omega
  have i3 : (c : Int) < (cols : Int) := by omega
  go_enter Try.func60, Try.ntmps60
  go_wp2
  go_ret
  exact ⟨rfl, belowBox w _⟩
set_option maxRecDepth 100000 in
set_option maxHeartbeats 8000000 in
theorem at_in (ma : Option Addr) (mn mc cols : Nat) (ms : List MRow) (r c : Nat) (w : World) (h : MatW w ma mn mc cols ms) (hcl : cols ≤ 9223372036854775807) (hr : r < mn) (hc : c < cols) : Calls Try.prog 31 #[.agg #[.slice ma mn mc, .int .i64 cols], .int .i64 r, .int .i64 c] w fun e w' => ∃ (mr : MRow) (v : Rv), ms[r]? = some mr ∧ mr.vs[c]? = some v ∧ e = .returned v.val ∧ v.ok w' ∧ Below w.heap.size w w' := by
  obtain ⟨b1, o1, mr, rfl, e1, _, y, hvec, hn⟩ := h.get r hr
  have hrl := h.sl.lenI
  obtain ⟨b2, o2, v, e2, e3, _, z0, z1, z2, hok⟩ := hvec.get c (by omega)
  have HY := Lib.hid (fun (W : World) (hb : Below w.heap.size w W) => hu hb y)
  have HZ0 := Lib.hid (fun (W : World) (hb : Below w.heap.size w W) => hu hb z0)
  have HZ1 := Lib.hid (fun (W : World) (hb : Below w.heap.size w W) => hu hb z1)
  have HZ2 := Lib.hid (fun (W : World) (hb : Below w.heap.size w W) => hu hb z2)
  have HOK := Lib.hid (fun (W : World) (hb : Below w.heap.size w W) => hok.below hb)
  have HH := Lib.hid (fun W : World => has_in (some ⟨b1, o1, none⟩) mn mc cols r c W (by omega) (by omega) hr hc)
  have HE1 := Lib.hid e1
  have HE3 := Lib.hid e3
  have hvn := hvec.sl.lenI
  have i0 : (0 : Int) ≤ (r : Int) := by omega
  have i1 : (r : Int) < (mn : Int) := by omega
  have i2 : (0 : Int) ≤ (c : Int) := by omega
  have i3 : (c : Int) < (mr.n : Int) := by omega
  have hmra : mr.a = some ⟨b2, o2, none⟩ := e2
  rw [hmra] at HY
  clear h hr hc hvec y z0 z1 z2 hok e1 e2 e3 hmra
  obtain ⟨W0, hW0⟩ : ∃ W0, W0 = ((w.alloc (.cells #[.slice (some ⟨b1, o1, none⟩) mn mc, .int .i64 cols] 56)).alloc (.cells #[.bool false, .slice none 0 0, .slice none 0 0] 40)) := ⟨_, rfl⟩
  have hbs : BS w [⟨w.heap.size, 56, [.slice (some ⟨b1, o1, none⟩) mn mc, .int .i64 cols]⟩, ⟨w.heap.size + 1, 40, [.bool false, .slice none 0 0, .slice none 0 0]⟩] [] ((w.alloc (.cells #[.slice (some ⟨b1, o1, none⟩) mn mc, .int .i64 cols] 56)).alloc (.cells #[.bool false, .slice none 0 0, .slice none 0 0] 40)) :=
      (((BS.start w).alloc (p := w.heap.size) rfl 56 [.slice (some ⟨b1, o1, none⟩) mn mc, .int .i64 cols] rfl).alloc (p := w.heap.size + 1) (by simp) 40 [.bool false, .slice none 0 0, .slice none 0 0] rfl)
  rw [← hW0] at hbs
  have HW0 := Lib.hid hW0
  have HN := Lib.hid hbs
  clear hW0 hbs
  go_enter Try.func31, Try.ntmps31
  go_wp2_with fail
  rw [← HW0.out]
  refine (HH.out _).mono ?_
  rintro e w1 ⟨rfl, hb⟩
  replace HN := Lib.hid (HN.out.call hb)
  clear hb 
  have y := HY.out _ HN.out.bel
  have z0 := HZ0.out _ HN.out.bel
  have z1 := HZ1.out _ HN.out.bel
  have z2 := HZ2.out _ HN.out.bel
  have k00 := HN.out.cell 0 0 rfl rfl
  have f00 := HN.out.free 0 0 rfl
  have k01 := HN.out.cell 0 1 rfl rfl
  have f01 := HN.out.free 0 1 rfl
  have k10 := HN.out.cell 1 0 rfl rfl
  have f10 := HN.out.free 1 0 rfl
  have k11 := HN.out.cell 1 1 rfl rfl
  have f11 := HN.out.free 1 1 rfl
  have k12 := HN.out.cell 1 2 rfl rfl
  have f12 := HN.out.free 1 2 rfl
  have HE := Lib.hid ((((HN.out).set 1 0 rfl rfl (fun _ => by simp) (.bool v.s)).set 1 1 rfl rfl (fun _ => by simp) (.slice v.a v.l v.c)).set 1 2 rfl rfl (fun _ => by simp) (.slice v.b v.m v.d))
  have j0_1 := HE.out.cell 1 0 rfl rfl
  have j1_1 := HE.out.cell 1 1 rfl rfl
  have j2_1 := HE.out.cell 1 2 rfl rfl
  go_wp2_with fail
  refine bodyPost_ret (v := .agg #[.bool v.s, .slice v.a v.l v.c, .slice v.b v.m v.d]) (by simp [results, Try.results31, go_sem, j0_1, j1_1, j2_1, k00, k01, k10, k11, k12]) rfl ?_
  exact ⟨mr, v, HE1.out, HE3.out, rfl, (HOK.out _ HN.out.bel).keeps (set3k w1 _ _ _ _) (fun q hq => by rw [hq]; exact noWord_of (HN.out.at 1 rfl) (show (40 : Nat) ≠ 128 by decide)), HE.out.bel⟩
theorem VB.set0 {w0 W : World} {l : List Rat} {g n c : Nat} {vs : List Rv} (h : VB w0 l (some ⟨g, 0, none⟩) n c vs W) {k : Nat} (hk : k < n) {v : Rv} (hv : v.ok W) : VB w0 (l.set k v.q) (some ⟨g, 0, none⟩) n c (vs.set k v) (((W.setCell ⟨g, k * 3, none⟩ (.bool v.s)).setCell ⟨g, k * 3 + 1, none⟩ (.slice v.a v.l v.c)).setCell ⟨g, k * 3 + 2, none⟩ (.slice v.b v.m v.d)) := by
  have h1 := h.set hk hv
  rw [Nat.zero_add] at h1
  exact h1
theorem VB.cell0 {w0 W : World} {l : List Rat} {g n c : Nat} {vs : List Rv} (h : VB w0 l (some ⟨g, 0, none⟩) n c vs W) {k : Nat} (hk : k < n) : ∃ x0 x1 x2, W.cell? ⟨g, k * 3, none⟩ = some x0 ∧ W.cell? ⟨g, k * 3 + 1, none⟩ = some x1 ∧ W.cell? ⟨g, k * 3 + 2, none⟩ = some x2 := by
  obtain ⟨b, o', v, e, _, _, h0, h1, h2, _⟩ := h.vec.get k hk
  cases e
  rw [Nat.zero_add] at h0 h1 h2
  exact ⟨_, _, _, h0, h1, h2⟩
set_option maxRecDepth 100000 in
set_option maxHeartbeats 8000000 in
theorem times_any (ma : Option Addr) (mn mc cols : Nat) (ms : List MRow) (va : Option Addr) (vc : Nat) (vs : List Rv) (w : World) (h : MatW w ma mn mc cols ms) (hv : VecW w va cols vc vs) (hc : ∀ r, r ∈ ms → CanDot (qs r.vs) (qs vs)) (hn : mn ≤ 1000000) :
    Calls Try.prog 23 #[.agg #[.slice ma mn mc, .int .i64 cols], .slice va cols vc] w fun e w' => ∃ a c us, e = .returned (.tuple #[.slice a mn c, .bool true]) ∧ VB w (ms.map fun r => dotQ (qs r.vs) (qs vs)) a mn c us w' := by
  have hvl := hv.sl.lenI
  have hml := h.sl.lenI
  have hmv := fun W => make_vec mn (by omega) W
  obtain ⟨w1, hw1⟩ : ∃ w1, w.alloc (.cells #[.slice ma mn mc, .int .i64 cols] 56) = w1 := ⟨_, rfl⟩
  obtain ⟨mb, hmb⟩ : ∃ mb, w.heap.size = mb := ⟨_, rfl⟩
  have hb1 : Below w.heap.size w w1 := by rw [← hw1]; exact belowBox w _
  have m0 : w1.cell? ⟨mb, 0, none⟩ = some (.slice ma mn mc) := by rw [← hw1, ← hmb]; simp
  have m1 : w1.cell? ⟨mb, 1, none⟩ = some (.int .i64 cols) := by rw [← hw1, ← hmb]; simp
  have HM := Lib.hid (fun (W : World) (hb : Below w.heap.size w W) => h.below hb)
  have HV := Lib.hid (fun (W : World) (hb : Below w.heap.size w W) => hv.below hb)
  have HC := Lib.hid hc
  have HML := Lib.hid h.len
  have HMV := Lib.hid (hmv w1)
  have HVB := Lib.hid (VB.made hb1 mn hn)
  have hm2 := (belowBox w1 (.cells (zeroV mn) 40))
  have n0 := hu hm2 m0
  have n1 := hu hm2 m1
  have HW1 := Lib.hid hw1
  have HMB := Lib.hid hmb
  clear h hv hc hmv hb1 hw1 hmb hm2
  go_enter Try.func23, Try.ntmps23
  go_upto_region 1 with fail
  (try simp only [HW1.out])
  (try simp only [HMB.out])
  clear HW1 HMB
  go_upto_region 3 with fail
  have hmv := HMV.out
  clear HMV
  go_upto_region 4 with fail
  clear hmv m0 m1
  generalize w1.heap.size = g at HVB n0 n1 ⊢
  generalize w1.alloc (.cells (zeroV mn) 40) = w2 at HVB n0 n1 ⊢
  go_wp2_with fail
  go_loopw [21] (fun iv wr => ∃ (k : Nat) (us : List Rv), k ≤ mn ∧ iv = .int .i64 k ∧ VB w ((ms.map fun r => dotQ (qs r.vs) (qs vs)).take k ++ List.replicate (mn - k) 0) (some ⟨g, 0, none⟩) mn mn us wr) (fun iv _ => mn - (intOf iv).toNat)
  case atStart => exact ⟨0, _, Nat.zero_le _, rfl, by rw [List.take_zero, List.nil_append]; exact HVB.out⟩
  case round =>
    obtain ⟨k, us, hk, rfl, hvb⟩ := hrel
    by_cases hlt : k < mn
    · obtain ⟨b, o, r, e1, e2, _, y, rv, rn9⟩ := (HM.out wr hvb.bel).get k hlt
      have hst := set_part (ms.map fun r => dotQ (qs r.vs) (qs vs)) (0 : Rat) mn k (dotQ (qs r.vs) (qs vs)) (by rw [List.length_map]; exact HML.out) hlt (by rw [List.getElem?_map, e2]; rfl)
      have hdot := vdot_eq r.a va cols r.c vc r.vs vs wr (rn9 ▸ rv) (HV.out wr hvb.bel) (HC.out r (List.mem_of_getElem? e2))
      rw [rn9] at y
      have i0 : (0 : Int) ≤ (k : Int) := by omega
      have i1 : (k : Int) < (mn : Int) := by omega
      subst e1
      replace HVB := Lib.hid hvb
      have HST := Lib.hid hst
      have HD := Lib.hid hdot
      clear hvb hst hdot e2 rv rn9
      go_wp2_with fail
      refine HD.out.mono ?_
      rintro e w3 ⟨v, rfl, ho, hq, hb⟩
      replace HVB := Lib.hid (HVB.out.call hb)
      have HO := Lib.hid ho
      have HQ := Lib.hid hq
      clear ho hq hb HD
      unfold Rv.val
      obtain ⟨x0, x1, x2, c0, c1, c2⟩ := HVB.out.cell0 hlt
      have f0 := HVB.out.mid.frozen (k * 3)
      have f1 := HVB.out.mid.frozen (k * 3 + 1)
      have f2 := HVB.out.mid.frozen (k * 3 + 2)
      go_wp2_with fail
      go_roundw
      case rel =>
        refine ⟨k + 1, us.set k v, by omega, by go_num, ?_⟩
        rw [← HST.out, ← HQ.out]
        exact HVB.out.set0 hlt HO.out
      case measure => simp [intOf]; omega
    · obtain rfl : k = mn := by omega
      rw [List.take_of_length_le (by rw [List.length_map, HML.out]; exact Nat.le_refl _), Nat.sub_self, List.replicate_zero, List.append_nil] at hvb
      replace HVB := Lib.hid hvb
      clear hvb
      go_wp2
      go_ret2
      exact ⟨_, _, us, rfl, HVB.out⟩
end Go.Proofs.Ytndndfobkbeolaa
