/-
 What the laws stand on, part N: contracts and plain laws of NMsg, NMsg2, NMsg3, NMsg4, NMsgB, NRes, NRes2; the conditions are each law's own.
-/
import Derived.Test.YtmhainidincjhaaGreatDoorHV
import Derived.Test.YtmhainidincjhaaGreatDoorHJ
import Derived.Test.YtmhainidincjhaaGreatDoorHL
set_option linter.unusedVariables false
set_option linter.unusedSimpArgs false
set_option maxRecDepth 100000
set_option maxHeartbeats 16000000
namespace Go.Proofs.YtmhainidincjhaaGreatDoor
inductive Prt where
 | num (n lo hi : Int)
 | idn (n : Int)
 | tok (t : List Nat)
 | rat (q : Rat)
 | i64 (n : Int)
 | raw (t : List Nat)
 | two (n : Int)
def be4 (n : Int) : List Nat := [(n / 16777216 % 256).toNat, (n / 65536 % 256).toNat, (n / 256 % 256).toNat, (n % 256).toNat]
def be8 (n : Int) : List Nat := (List.range 8).map fun k => (n / 256 ^ (7 - k) % 256).toNat
def layP : Prt → Except Int (List Nat)
 | .num n lo hi => if n < lo ∨ hi < n then .error 270 else .ok [(n % 256).toNat]
 | .idn n => if n < 0 ∨ 2147483647 < n then .error 270 else .ok (be4 n)
 | .tok t => if t.length = 8 then .ok t else .error 270
 | .rat q => match encR q with
  | .ok l => .ok l
  | .error f => .error f.n
 | .i64 n => .ok (be8 n)
 | .raw t => .ok t
 | .two n => if n < 0 ∨ 65535 < n then .error 270 else .ok [(n / 256 % 256).toNat, (n % 256).toNat]
theorem layP_num (n lo hi : Int) : layP (.num n lo hi) = if n < lo ∨ hi < n then .error 270 else .ok [(n % 256).toNat] := rfl
theorem layP_idn (n : Int) : layP (.idn n) = if n < 0 ∨ 2147483647 < n then .error 270 else .ok (be4 n) := rfl
theorem layP_tok (t : List Nat) : layP (.tok t) = if t.length = 8 then .ok t else .error 270 := rfl
theorem layP_i64 (n : Int) : layP (.i64 n) = .ok (be8 n) := rfl
theorem layP_two (n : Int) : layP (.two n) = if n < 0 ∨ 65535 < n then .error 270 else .ok [(n / 256 % 256).toNat, (n % 256).toNat] := rfl
theorem layP_raw (t : List Nat) : layP (.raw t) = .ok t := rfl
theorem layP_rat (q : Rat) : layP (.rat q) = match encR q with
  | .ok l => .ok l
  | .error f => .error f.n := rfl
abbrev WS := Except (Int × Nat) (List Nat)
def lay1 (st : WS) (p : Prt) : WS := match st with
 | .error x => .error x
 | .ok out => match layP p with
  | .ok b => .ok (out ++ b)
  | .error e => .error (e, out.length)
def lays (st : WS) (ps : List Prt) : WS := ps.foldl lay1 st
theorem lays_nil (st : WS) : lays st [] = st := rfl
theorem lays_cons (st : WS) (p : Prt) (ps : List Prt) : lays st (p :: ps) = lays (lay1 st p) ps := rfl
theorem lays_append (st : WS) (ps qs : List Prt) : lays st (ps ++ qs) = lays (lays st ps) qs := List.foldl_append
theorem lays_error (x : Int × Nat) (ps : List Prt) : lays (.error x) ps = .error x := by
 induction ps with
 | nil => rfl
 | cons p ps ih => exact ih
structure Ent where
 id : Int
 v : Rat
structure Qst where
 op : Int
 row : Int
 col : Int
 kind : Int
 v : Rat
 es : List Ent
structure Msg where
 verb : Int
 token : List Nat
 session : Int
 rights : Int
 other : List Nat
 ask : Qst
def partE (e : Ent) : List Prt := [.idn e.id, .rat e.v]
def partsE (es : List Ent) : List Prt := .num es.length 0 64 :: es.flatMap partE
def partsQ (q : Qst) : List Prt := .num q.op 1 12 ::
  (if q.op = 1 then .num q.kind 0 3 :: .rat q.v :: partsE q.es
   else if q.op = 2 then .rat q.v :: partsE q.es
   else if q.op = 5 then [.idn q.row, .idn q.col, .rat q.v]
   else if q.op = 7 then [.idn q.col, .rat q.v]
   else if q.op = 6 then [.idn q.row, .rat q.v]
   else if q.op = 8 then [.num q.kind 0 3, .idn q.row]
   else if q.op = 3 ∨ q.op = 11 then [.idn q.row]
   else if q.op = 4 ∨ q.op = 10 then [.idn q.col]
   else [])
def partsM (m : Msg) : List Prt := .num m.verb 1 5 :: .tok m.token ::
  (if m.verb = 1 then .idn m.session :: partsQ m.ask
   else if m.verb = 3 then [.idn m.session]
   else if m.verb = 4 then [.num m.rights 0 255]
   else if m.verb = 5 then [.tok m.other]
   else [])
def encM (m : Msg) : WS := lays (.ok []) (partsM m)
abbrev RS := Except (Int × Nat) Nat
def rNext (bs : List Nat) (n : Nat) (st : RS) : List Nat × RS := match st with
 | .error x => (List.replicate n 0, .error x)
 | .ok a => if bs.length - a < n then (List.replicate n 0, .error (90, a)) else ((bs.drop a).take n, .ok (a + n))
def rPick (bs : List Nat) (lo hi : Int) (st : RS) : Int × RS := match rNext bs 1 st with
 | (b, .error x) => ((b.headD 0 : Nat), .error x)
 | (b, .ok a) => ((b.headD 0 : Nat), if ((b.headD 0 : Nat) : Int) < lo ∨ hi < ((b.headD 0 : Nat) : Int) then .error (270, a - 1) else .ok a)
def un4 (b : List Nat) : Int := (((b.getD 0 0 % 128 * 256 + b.getD 1 0) * 256 + b.getD 2 0) * 256 + b.getD 3 0 : Nat)
def rId (bs : List Nat) (st : RS) : Int × RS := match rNext bs 4 st with
 | (b, .error x) => (un4 b, .error x)
 | (b, .ok a) => (un4 b, if 127 < b.getD 0 0 then .error (270, a - 4) else .ok a)
def rTok (bs : List Nat) (st : RS) : List Nat × RS := rNext bs 8 st
def rRat (bs : List Nat) (st : RS) : Rat × RS := match st with
 | .error x => (0, .error x)
 | .ok a => match decR (bs.drop a) with
  | .ok (q, n) => (q, .ok (a + n))
  | .error f => (0, .error (f.n, a))
def rEnts (bs : List Nat) : Nat → RS → List Ent → List Ent × RS
 | 0, st, acc => (acc, st)
 | k + 1, st, acc => match st with
  | .error x => ([], .error x)
  | .ok a => rEnts bs k (rRat bs (rId bs (.ok a)).2).2 (acc ++ [⟨(rId bs (.ok a)).1, (rRat bs (rId bs (.ok a)).2).1⟩])
def rEntries (bs : List Nat) (st : RS) : List Ent × RS := rEnts bs (rPick bs 0 64 st).1.toNat (rPick bs 0 64 st).2 []
def rEnd (bs : List Nat) (st : RS) : Option (Int × Nat) := match st with
 | .error x => some x
 | .ok a => if a = bs.length then none else some (270, a)
def Qst.zero : Qst := ⟨0, 0, 0, 0, 0, []⟩
def Msg.zero : Msg := ⟨0, [], 0, 0, [], Qst.zero⟩
def rAskBody (bs : List Nat) (op : Int) (st : RS) : Qst × RS :=
 if op = 1 then
  let k := rPick bs 0 3 st; let v := rRat bs k.2; let e := rEntries bs v.2
  (⟨op, 0, 0, k.1, v.1, e.1⟩, e.2)
 else if op = 2 then
  let v := rRat bs st; let e := rEntries bs v.2
  (⟨op, 0, 0, 0, v.1, e.1⟩, e.2)
 else if op = 5 then
  let r := rId bs st; let c := rId bs r.2; let v := rRat bs c.2
  (⟨op, r.1, c.1, 0, v.1, []⟩, v.2)
 else if op = 7 then
  let c := rId bs st; let v := rRat bs c.2
  (⟨op, 0, c.1, 0, v.1, []⟩, v.2)
 else if op = 6 then
  let r := rId bs st; let v := rRat bs r.2
  (⟨op, r.1, 0, 0, v.1, []⟩, v.2)
 else if op = 8 then
  let k := rPick bs 0 3 st; let r := rId bs k.2
  (⟨op, r.1, 0, k.1, 0, []⟩, r.2)
 else if op = 3 ∨ op = 11 then
  let r := rId bs st
  (⟨op, r.1, 0, 0, 0, []⟩, r.2)
 else if op = 4 ∨ op = 10 then
  let c := rId bs st
  (⟨op, 0, c.1, 0, 0, []⟩, c.2)
 else (⟨op, 0, 0, 0, 0, []⟩, st)
def rAsk (bs : List Nat) (st : RS) : Qst × RS := rAskBody bs (rPick bs 1 12 st).1 (rPick bs 1 12 st).2
def rMsgBody (bs : List Nat) (verb : Int) (token : List Nat) (st : RS) : Msg × RS :=
 if verb = 1 then
  let s := rId bs st; let q := rAsk bs s.2
  (⟨verb, token, s.1, 0, [], q.1⟩, q.2)
 else if verb = 3 then
  let s := rId bs st
  (⟨verb, token, s.1, 0, [], Qst.zero⟩, s.2)
 else if verb = 4 then
  let r := rPick bs 0 255 st
  (⟨verb, token, 0, r.1, [], Qst.zero⟩, r.2)
 else if verb = 5 then
  let o := rTok bs st
  (⟨verb, token, 0, 0, o.1, Qst.zero⟩, o.2)
 else (⟨verb, token, 0, 0, [], Qst.zero⟩, st)
def rMsg (bs : List Nat) : Msg × RS := rMsgBody bs (rPick bs 1 5 (.ok 0)).1 (rTok bs (rPick bs 1 5 (.ok 0)).2).1 (rTok bs (rPick bs 1 5 (.ok 0)).2).2
def decM (bs : List Nat) : Except (Int × Nat) Msg := match rEnd bs (rMsg bs).2 with
 | some x => .error x
 | none => .ok (rMsg bs).1
/-! A reader that is in order stands on what its parts lay: 'Took bs st p st'': if the state behind is in order, so was the one ahead, and the part's bytes stand between. -/
def Took (bs : List Nat) (st : RS) (p : Prt) (st' : RS) : Prop := ∀ c, st' = .ok c → ∃ a b, st = .ok a ∧ layP p = .ok b ∧ c = a + b.length ∧ c ≤ bs.length ∧ (bs.drop a).take b.length = b
def TookAll (bs : List Nat) (st : RS) (ps : List Prt) (st' : RS) : Prop := ∀ c, st' = .ok c → ∃ a b, st = .ok a ∧ (∀ out, lays (.ok out) ps = .ok (out ++ b)) ∧ c = a + b.length ∧ (ps = [] ∨ c ≤ bs.length) ∧ (bs.drop a).take b.length = b
theorem TookAll.nil (bs : List Nat) (st : RS) : TookAll bs st [] st := fun c h => ⟨c, [], h, fun out => by rw [lays_nil, List.append_nil], rfl, .inl rfl, rfl⟩
theorem take_join {bs : List Nat} {a : Nat} {b d : List Nat} (h1 : (bs.drop a).take b.length = b) (h2 : (bs.drop (a + b.length)).take d.length = d) : (bs.drop a).take (b ++ d).length = b ++ d := by
 rw [List.length_append, List.take_add, List.drop_drop, h1, h2]
theorem TookAll.cons {bs : List Nat} {s0 s1 s2 : RS} {p : Prt} {ps : List Prt} (h : Took bs s0 p s1) (hs : TookAll bs s1 ps s2) : TookAll bs s0 (p :: ps) s2 := fun c hc => by
 obtain ⟨a1, b1, e1, l1, c1, d1, t1⟩ := hs c hc
 obtain ⟨a0, b0, e0, l0, c0, d0, t0⟩ := h a1 e1
 refine ⟨a0, b0 ++ b1, e0, fun out => ?_, by rw [List.length_append]; omega, .inr ?_, take_join t0 (by rw [← c0]; exact t1)⟩
 ·
  rw [lays_cons, show lay1 (.ok out) p = .ok (out ++ b0) by unfold lay1; simp only [l0], l1, List.append_assoc]
 ·
  rcases d1 with rfl | d1
  ·
   have := l1 []
   rw [lays_nil] at this
   injection this with this
   have hb1 : b1 = [] := by simpa using this.symm
   subst hb1
   simp at c1
   omega
  ·
   exact d1
theorem TookAll.append {bs : List Nat} {s0 s1 s2 : RS} {ps qs : List Prt} (h : TookAll bs s0 ps s1) (hs : TookAll bs s1 qs s2) : TookAll bs s0 (ps ++ qs) s2 := fun c hc => by
 obtain ⟨a1, b1, e1, l1, c1, d1, t1⟩ := hs c hc
 obtain ⟨a0, b0, e0, l0, c0, d0, t0⟩ := h a1 e1
 refine ⟨a0, b0 ++ b1, e0, fun out => ?_, by rw [List.length_append]; omega, ?_, take_join t0 (by rw [← c0]; exact t1)⟩
 ·
  rw [lays_append, l0, l1, List.append_assoc]
 ·
  rcases d1 with rfl | d1
  ·
   have h2 := l1 []
   rw [lays_nil] at h2
   injection h2 with h2
   have hb1 : b1 = [] := by simpa using h2.symm
   subst hb1
   simp at c1
   rcases d0 with rfl | d0
   ·
    exact .inl rfl
   ·
    exact .inr (by omega)
  ·
   exact .inr d1
def B256 (bs : List Nat) : Prop := ∀ x, x ∈ bs → x < 256
theorem B256.drop {bs : List Nat} (h : B256 bs) (a : Nat) : B256 (bs.drop a) := fun x hx => h x (List.mem_of_mem_drop hx)
theorem B256.take {bs : List Nat} (h : B256 bs) (a : Nat) : B256 (bs.take a) := fun x hx => h x (List.mem_of_mem_take hx)
theorem next_ok {bs : List Nat} {n : Nat} {st : RS} {c : Nat} (hn : 0 < n) (h : (rNext bs n st).2 = .ok c) : ∃ a, st = .ok a ∧ c = a + n ∧ c ≤ bs.length ∧ rNext bs n st = ((bs.drop a).take n, .ok c) ∧ ((bs.drop a).take n).length = n := by
 unfold rNext at h ⊢
 cases st with
 | error x => cases h
 | ok a =>
  simp only at h ⊢
  split at h
  ·
   cases h
  ·
   rename_i hl
   injection h with h
   rw [if_neg hl, h]
   exact ⟨a, rfl, h.symm, by omega, rfl, by rw [List.length_take, List.length_drop]; omega⟩
theorem len1 {l : List Nat} (h : l.length = 1) : ∃ x, l = [x] := by
 match l, h with
 | [x], _ => exact ⟨x, rfl⟩
theorem len4 {l : List Nat} (h : l.length = 4) : ∃ x y z u, l = [x, y, z, u] := by
 match l, h with
 | [x, y, z, u], _ => exact ⟨x, y, z, u, rfl⟩
theorem pick_took {bs : List Nat} (hb : B256 bs) (lo hi : Int) (st : RS) : Took bs st (.num (rPick bs lo hi st).1 lo hi) (rPick bs lo hi st).2 := fun c hc => by
 unfold rPick at hc ⊢
 cases hn : rNext bs 1 st with
 | mk b s1 =>
  rw [hn] at hc
  cases s1 with
  | error x => cases hc
  | ok a1 =>
   simp only at hc ⊢
   obtain ⟨a, rfl, h1, h2, h3, h4⟩ := next_ok (by omega) (show (rNext bs 1 st).2 = .ok a1 by rw [hn])
   rw [hn] at h3
   obtain ⟨x, hx⟩ := len1 h4
   have hb1 : b = [x] := by rw [← hx]; exact congrArg Prod.fst h3
   subst hb1
   have hx8 : x < 256 := hb x (List.mem_of_mem_drop (List.mem_of_mem_take (by rw [hx]; exact List.mem_singleton.2 rfl)))
   have hc : (if (x : Int) < lo ∨ hi < (x : Int) then (.error (270, a1 - 1) : RS) else .ok a1) = .ok c := hc
   by_cases hlo : (x : Int) < lo ∨ hi < (x : Int)
   ·
    rw [if_pos hlo] at hc; cases hc
   ·
    rw [if_neg hlo] at hc
    injection hc with hc
    refine ⟨a, [x], rfl, show layP (.num (x : Int) lo hi) = .ok [x] from ?_, by simp; omega, by omega, hx⟩
    rw [layP_num, if_neg hlo, show ((x : Int) % 256).toNat = x by omega]
theorem be4_un4 {x y z u : Nat} (hx : x ≤ 127) (hy : y < 256) (hz : z < 256) (hu : u < 256) : be4 (un4 [x, y, z, u]) = [x, y, z, u] ∧ 0 ≤ un4 [x, y, z, u] ∧ un4 [x, y, z, u] ≤ 2147483647 := by
 unfold be4 un4
 simp only [List.getD_cons_zero, List.getD_cons_succ]
 rw [Nat.mod_eq_of_lt (show x < 128 by omega)]
 refine ⟨?_, by omega, by omega⟩
 congr 1
 ·
  omega
 ·
  congr 1
  ·
   omega
  ·
   congr 1
   ·
    omega
   ·
    congr 1
    omega
theorem id_took {bs : List Nat} (hb : B256 bs) (st : RS) : Took bs st (.idn (rId bs st).1) (rId bs st).2 := fun c hc => by
 unfold rId at hc ⊢
 cases hn : rNext bs 4 st with
 | mk b s1 =>
  rw [hn] at hc
  cases s1 with
  | error x => cases hc
  | ok a1 =>
   simp only at hc ⊢
   obtain ⟨a, rfl, h1, h2, h3, h4⟩ := next_ok (by omega) (show (rNext bs 4 st).2 = .ok a1 by rw [hn])
   rw [hn] at h3
   obtain ⟨x, y, z, u, hx⟩ := len4 h4
   have hb1 : b = [x, y, z, u] := by rw [← hx]; exact congrArg Prod.fst h3
   subst hb1
   have h8 : ∀ v, v ∈ [x, y, z, u] → v < 256 := fun v hv => hb v (List.mem_of_mem_drop (List.mem_of_mem_take (by rw [hx]; exact hv)))
   simp only [List.getD_cons_zero] at hc
   split at hc
   ·
    cases hc
   ·
    rename_i hlo
    injection hc with hc
    obtain ⟨e1, e2, e3⟩ := be4_un4 (x := x) (y := y) (z := z) (u := u) (by omega) (h8 y (by simp)) (h8 z (by simp)) (h8 u (by simp))
    refine ⟨a, [x, y, z, u], rfl, ?_, by simp; omega, by omega, hx⟩
    rw [layP_idn, if_neg (by omega), e1]
theorem tok_took {bs : List Nat} (st : RS) : Took bs st (.tok (rTok bs st).1) (rTok bs st).2 := fun c hc => by
 unfold rTok at hc ⊢
 obtain ⟨a, rfl, h1, h2, h3, h4⟩ := next_ok (by omega) hc
 rw [h3]
 refine ⟨a, (bs.drop a).take 8, rfl, ?_, by rw [h4]; exact h1, h2, by rw [h4]⟩
 rw [layP_tok, if_pos h4]
theorem rat_took {bs : List Nat} (hb : B256 bs) (st : RS) : Took bs st (.rat (rRat bs st).1) (rRat bs st).2 := fun c hc => by
 unfold rRat at hc ⊢
 cases st with
 | error x => cases hc
 | ok a =>
  simp only at hc ⊢
  cases hd : decR (bs.drop a) with
  | error f => rw [hd] at hc; cases hc
  | ok x =>
   obtain ⟨q, n⟩ := x
   rw [hd] at hc
   simp only at hc ⊢
   injection hc with hc
   obtain ⟨he, h1, h2⟩ := enc_dec (hb.drop a) hd
   have hl : ((bs.drop a).take n).length = n := by rw [List.length_take]; omega
   rw [List.length_drop] at h2
   refine ⟨a, (bs.drop a).take n, rfl, ?_, by rw [hl]; exact hc.symm, by omega, by rw [hl]⟩
   rw [layP_rat, he]
theorem ents_took {bs : List Nat} (hb : B256 bs) (k : Nat) : ∀ (st : RS) (acc : List Ent), (∃ es, (rEnts bs k st acc).1 = acc ++ es ∧ es.length = k ∧ TookAll bs st (es.flatMap partE) (rEnts bs k st acc).2) ∨ ∃ x, (rEnts bs k st acc).2 = .error x := by
 induction k with
 | zero => intro st acc; exact .inl ⟨[], by simp [rEnts], rfl, TookAll.nil bs st⟩
 | succ k ih =>
  intro st acc
  cases st with
  | error x => exact .inr ⟨x, rfl⟩
  | ok a =>
   unfold rEnts
   simp only
   rcases ih (rRat bs (rId bs (.ok a)).2).2 (acc ++ [⟨(rId bs (.ok a)).1, (rRat bs (rId bs (.ok a)).2).1⟩]) with ⟨es, h1, h2, h3⟩ | h
   ·
    refine .inl ⟨⟨(rId bs (.ok a)).1, (rRat bs (rId bs (.ok a)).2).1⟩ :: es, by rw [h1, List.append_assoc]; rfl, by rw [List.length_cons, h2], ?_⟩
    rw [List.flatMap_cons]
    exact TookAll.cons (id_took hb _) (TookAll.cons (rat_took hb _) h3)
   ·
    exact .inr h
theorem TookAll.bad {bs : List Nat} {s0 s1 : RS} {ps : List Prt} {x : Int × Nat} (h : s1 = .error x) : TookAll bs s0 ps s1 := fun c hc => by rw [h] at hc; cases hc
theorem entries_took {bs : List Nat} (hb : B256 bs) (st : RS) : TookAll bs st (partsE (rEntries bs st).1) (rEntries bs st).2 := by
 unfold rEntries
 rcases ents_took hb (rPick bs 0 64 st).1.toNat (rPick bs 0 64 st).2 [] with ⟨es, h1, h2, h3⟩ | ⟨x, h⟩
 ·
  rw [h1, List.nil_append]
  have hp := pick_took hb 0 64 st
  have hv : 0 ≤ (rPick bs 0 64 st).1 := by
   unfold rPick
   split <;> simp only <;> omega
  unfold partsE
  rw [h2, Int.toNat_of_nonneg hv]
  exact TookAll.cons hp h3
 ·
  exact TookAll.bad h
theorem TookAll.one {bs : List Nat} {s0 s1 : RS} {p : Prt} (h : Took bs s0 p s1) : TookAll bs s0 [p] s1 := TookAll.cons h (TookAll.nil bs s1)
theorem ask_took {bs : List Nat} (hb : B256 bs) (st : RS) : TookAll bs st (partsQ (rAsk bs st).1) (rAsk bs st).2 := by
 unfold rAsk
 have hp := pick_took hb 1 12 st
 generalize (rPick bs 1 12 st).1 = op at hp ⊢
 generalize (rPick bs 1 12 st).2 = s1 at hp ⊢
 have hop : (rAskBody bs op s1).1.op = op := by
  unfold rAskBody
  repeat' split
  all_goals rfl
 unfold partsQ
 rw [hop]
 refine TookAll.cons hp ?_
 unfold rAskBody
 by_cases h0 : op = 1
 ·
  rw [if_pos h0, if_pos h0]
  exact TookAll.cons (pick_took hb 0 3 _) (TookAll.cons (rat_took hb _) (entries_took hb _))
 rw [if_neg h0, if_neg h0]
 by_cases h1 : op = 2
 ·
  rw [if_pos h1, if_pos h1]
  exact TookAll.cons (rat_took hb _) (entries_took hb _)
 rw [if_neg h1, if_neg h1]
 by_cases h2 : op = 5
 ·
  rw [if_pos h2, if_pos h2]
  exact TookAll.cons (id_took hb _) (TookAll.cons (id_took hb _) (TookAll.one (rat_took hb _)))
 rw [if_neg h2, if_neg h2]
 by_cases h3 : op = 7
 ·
  rw [if_pos h3, if_pos h3]
  exact TookAll.cons (id_took hb _) (TookAll.one (rat_took hb _))
 rw [if_neg h3, if_neg h3]
 by_cases h4 : op = 6
 ·
  rw [if_pos h4, if_pos h4]
  exact TookAll.cons (id_took hb _) (TookAll.one (rat_took hb _))
 rw [if_neg h4, if_neg h4]
 by_cases h5 : op = 8
 ·
  rw [if_pos h5, if_pos h5]
  exact TookAll.cons (pick_took hb 0 3 _) (TookAll.one (id_took hb _))
 rw [if_neg h5, if_neg h5]
 by_cases h6 : op = 3 ∨ op = 11
 ·
  rw [if_pos h6, if_pos h6]
  exact TookAll.one (id_took hb _)
 rw [if_neg h6, if_neg h6]
 by_cases h7 : op = 4 ∨ op = 10
 ·
  rw [if_pos h7, if_pos h7]
  exact TookAll.one (id_took hb _)
 rw [if_neg h7, if_neg h7]
 exact TookAll.nil bs _
theorem msg_took {bs : List Nat} (hb : B256 bs) : TookAll bs (.ok 0) (partsM (rMsg bs).1) (rMsg bs).2 := by
 unfold rMsg
 have hp := pick_took hb 1 5 (.ok 0)
 have ht := tok_took (bs := bs) (rPick bs 1 5 (.ok 0)).2
 generalize (rPick bs 1 5 (.ok 0)).1 = v at hp ⊢
 generalize (rTok bs (rPick bs 1 5 (.ok 0)).2).1 = t at ht ⊢
 generalize (rTok bs (rPick bs 1 5 (.ok 0)).2).2 = s2 at ht ⊢
 have hv : (rMsgBody bs v t s2).1.verb = v := by
  unfold rMsgBody
  repeat' split
  all_goals rfl
 have htk : (rMsgBody bs v t s2).1.token = t := by
  unfold rMsgBody
  repeat' split
  all_goals rfl
 unfold partsM
 rw [hv, htk]
 refine TookAll.cons hp (TookAll.cons ht ?_)
 unfold rMsgBody
 by_cases h0 : v = 1
 ·
  rw [if_pos h0, if_pos h0]
  exact TookAll.cons (id_took hb _) (ask_took hb _)
 rw [if_neg h0, if_neg h0]
 by_cases h1 : v = 3
 ·
  rw [if_pos h1, if_pos h1]
  exact TookAll.one (id_took hb _)
 rw [if_neg h1, if_neg h1]
 by_cases h2 : v = 4
 ·
  rw [if_pos h2, if_pos h2]
  exact TookAll.one (pick_took hb 0 255 _)
 rw [if_neg h2, if_neg h2]
 by_cases h3 : v = 5
 ·
  rw [if_pos h3, if_pos h3]
  exact TookAll.one (tok_took _)
 rw [if_neg h3, if_neg h3]
 exact TookAll.nil bs _
theorem encM_dec {bs : List Nat} (hb : B256 bs) {m : Msg} (h : decM bs = .ok m) : encM m = .ok bs := by
 unfold decM at h
 cases he : rEnd bs (rMsg bs).2 with
 | some x => rw [he] at h; cases h
 | none =>
  rw [he] at h
  injection h with h
  subst h
  unfold rEnd at he
  cases hs : (rMsg bs).2 with
  | error x => rw [hs] at he; cases he
  | ok c =>
   rw [hs] at he
   simp only at he
   split at he
   ·
    rename_i hc
    obtain ⟨a, b, e0, l0, c0, _, t0⟩ := msg_took hb c hs
    injection e0 with e0
    subst e0
    unfold encM
    rw [l0, List.nil_append]
    rw [List.drop_zero] at t0
    have : b.length = bs.length := by omega
    rw [this, List.take_length] at t0
    rw [t0]
   ·
    cases he
abbrev Rdr (α : Type) := List Nat → RS → α × RS
structure Good {α : Type} (f : Rdr α) : Prop where
 ext : ∀ bs ys a v c, B256 bs → f bs (.ok a) = (v, .ok c) → f (bs ++ ys) (.ok a) = (v, .ok c)
 pre : ∀ bs k a v c, B256 bs → k ≤ bs.length → f bs (.ok a) = (v, .ok c) → c ≤ k → f (bs.take k) (.ok a) = (v, .ok c)
 cut : ∀ bs k a v c, B256 bs → k ≤ bs.length → f bs (.ok a) = (v, .ok c) → k < c → a ≤ k → ∃ x, (f (bs.take k) (.ok a)).2 = .error (90, x)
 err : ∀ bs x, (f bs (.error x)).2 = .error x
 mono : ∀ bs a v c, B256 bs → f bs (.ok a) = (v, .ok c) → a ≤ c
def bnd {α β : Type} (f : Rdr α) (g : α → Rdr β) : Rdr β := fun bs st => g (f bs st).1 bs (f bs st).2
theorem Good.pure {α : Type} (v : α) : Good (fun _ st => (v, st)) :=
 ⟨fun bs ys a v' c _ h => h, fun bs k a v' c _ hk h hc => h, fun bs k a v' c _ hk h hc ha => by injection h with h1 h2; injection h2 with h2; omega, fun bs x => rfl, fun bs a v' c _ h => by injection h with h1 h2; injection h2 with h2; omega⟩
theorem bnd_ok {α β : Type} {f : Rdr α} {g : α → Rdr β} (hf : Good f) (hg : ∀ v, Good (g v)) {bs : List Nat} {a c : Nat} {v : β} (h : bnd f g bs (.ok a) = (v, .ok c)) : ∃ u m, f bs (.ok a) = (u, .ok m) ∧ g u bs (.ok m) = (v, .ok c) := by
 unfold bnd at h
 cases hx : f bs (.ok a) with
 | mk u st =>
  rw [hx] at h
  cases st with
  | error x =>
   have h1 := (hg u).err bs x
   simp only at h
   rw [h] at h1
   cases h1
  | ok m => exact ⟨u, m, rfl, h⟩
theorem bnd_eq {α β : Type} {f : Rdr α} {g : α → Rdr β} {bs : List Nat} {a m : Nat} {u : α} (h : f bs (.ok a) = (u, .ok m)) : bnd f g bs (.ok a) = g u bs (.ok m) := by unfold bnd; rw [h]
theorem Good.bnd {α β : Type} {f : Rdr α} {g : α → Rdr β} (hf : Good f) (hg : ∀ v, Good (g v)) : Good (bnd f g) := by
 refine ⟨fun bs ys a v c hb h => ?_, fun bs k a v c hb hk h hc => ?_, fun bs k a v c hb hk h hc ha => ?_, fun bs x => ?_, fun bs a v c hb h => ?_⟩
 ·
  obtain ⟨u, m, h1, h2⟩ := bnd_ok hf hg h
  rw [bnd_eq (hf.ext bs ys a u m hb h1)]
  exact (hg u).ext bs ys m v c hb h2
 ·
  obtain ⟨u, m, h1, h2⟩ := bnd_ok hf hg h
  have := (hg u).mono bs m v c hb h2
  rw [bnd_eq (hf.pre bs k a u m hb hk h1 (by omega))]
  exact (hg u).pre bs k m v c hb hk h2 hc
 ·
  obtain ⟨u, m, h1, h2⟩ := bnd_ok hf hg h
  by_cases hm : m ≤ k
  ·
   rw [bnd_eq (hf.pre bs k a u m hb hk h1 hm)]
   exact (hg u).cut bs k m v c hb hk h2 hc hm
  ·
   obtain ⟨x, hx⟩ := hf.cut bs k a u m hb hk h1 (by omega) ha
   refine ⟨x, ?_⟩
   unfold Go.Proofs.YtmhainidincjhaaGreatDoor.bnd
   rw [hx]
   exact (hg _).err _ _
 ·
  unfold Go.Proofs.YtmhainidincjhaaGreatDoor.bnd
  rw [hf.err bs x]
  exact (hg _).err _ _
 ·
  obtain ⟨u, m, h1, h2⟩ := bnd_ok hf hg h
  have := (hg u).mono bs m v c hb h2
  have := hf.mono bs a u m hb h1
  omega
theorem drop_more {bs ys : List Nat} {a n : Nat} (h : a + n ≤ bs.length) : ((bs ++ ys).drop a).take n = (bs.drop a).take n := by
 rw [List.drop_append_of_le_length (by omega), List.take_append_of_le_length (by rw [List.length_drop]; omega)]
theorem drop_less {bs : List Nat} {k a n : Nat} (h : a + n ≤ k) : ((bs.take k).drop a).take n = (bs.drop a).take n := by
 rw [List.drop_take, List.take_take, Nat.min_eq_left (by omega)]
theorem next_good (n : Nat) : Good (fun bs st => rNext bs n st) := by
 refine ⟨fun bs ys a v c hb h => ?_, fun bs k a v c hb hk h hc => ?_, fun bs k a v c hb hk h hc ha => ?_, fun bs x => rfl, fun bs a v c hb h => ?_⟩
 all_goals
  unfold rNext at h
  simp only at h
  by_cases hl : bs.length - a < n
  ·
   rw [if_pos hl] at h; injection h with h1 h2; cases h2
  rw [if_neg hl] at h
  injection h with h1 h2
  injection h2 with h2
 ·
  unfold rNext
  simp only
  rw [if_neg (by rw [List.length_append]; omega), ← h1, ← h2]
  by_cases h0 : n = 0
  ·
   subst h0; simp
  ·
   rw [drop_more (by omega)]
 ·
  unfold rNext
  simp only
  rw [if_neg (by rw [List.length_take]; omega), ← h1, ← h2, drop_less (by omega)]
 ·
  refine ⟨a, ?_⟩
  unfold rNext
  simp only
  rw [if_pos (by rw [List.length_take]; omega)]
 ·
  omega
def chk (bad : Bool) (d : Nat) (e : Int) (st : RS) : RS := match st with
 | .error x => .error x
 | .ok a => if bad then .error (e, a - d) else .ok a
theorem Good.look {α : Type} (n : Nat) (hn : 0 < n) (F : List Nat → α) (bad : List Nat → Bool) (d : Nat) (e : Int) :
  Good (fun bs st => (F (rNext bs n st).1, chk (bad (rNext bs n st).1) d e (rNext bs n st).2)) := by
 have hg := next_good n
 have key : ∀ bs a v c, (F (rNext bs n (.ok a)).1, chk (bad (rNext bs n (.ok a)).1) d e (rNext bs n (.ok a)).2) = (v, .ok c) → ∃ b, rNext bs n (.ok a) = (b, .ok c) ∧ F b = v ∧ bad b = false := by
  intro bs a v c h
  injection h with h1 h2
  cases hx : rNext bs n (.ok a) with
  | mk b st =>
   rw [hx] at h1 h2
   cases st with
   | error x => cases h2
   | ok a' =>
    simp only [chk] at h1 h2
    by_cases hb : bad b = true
    ·
     rw [if_pos hb] at h2; cases h2
    ·
     rw [if_neg hb] at h2
     injection h2 with h2
     exact ⟨b, by rw [h2], h1, by simpa using hb⟩
 refine ⟨fun bs ys a v c hb h => ?_, fun bs k a v c hb hk h hc => ?_, fun bs k a v c hb hk h hc ha => ?_, fun bs x => rfl, fun bs a v c hb h => ?_⟩
 ·
  obtain ⟨b, h1, h2, h3⟩ := key bs a v c h
  have h4 : rNext (bs ++ ys) n (.ok a) = (b, .ok c) := hg.ext bs ys a b c hb h1
  simp only [h4, h2, h3]
  rfl
 ·
  obtain ⟨b, h1, h2, h3⟩ := key bs a v c h
  have h4 : rNext (bs.take k) n (.ok a) = (b, .ok c) := hg.pre bs k a b c hb hk h1 hc
  simp only [h4, h2, h3]
  rfl
 ·
  obtain ⟨b, h1, h2, h3⟩ := key bs a v c h
  obtain ⟨x, h4⟩ := hg.cut bs k a b c hb hk h1 hc ha
  exact ⟨x, by simp only [h4]; rfl⟩
 ·
  obtain ⟨b, h1, h2, h3⟩ := key bs a v c h
  exact hg.mono bs a b c hb h1
theorem pick_good (lo hi : Int) : Good (fun bs st => rPick bs lo hi st) := by
 have h := Good.look 1 (by omega) (fun b => ((b.headD 0 : Nat) : Int)) (fun b => decide (((b.headD 0 : Nat) : Int) < lo ∨ hi < ((b.headD 0 : Nat) : Int))) 1 270
 have e : (fun bs st => rPick bs lo hi st) = (fun (bs : List Nat) (st : RS) => (((((rNext bs 1 st).1).headD 0 : Nat) : Int), chk (decide (((((rNext bs 1 st).1).headD 0 : Nat) : Int) < lo ∨ hi < ((((rNext bs 1 st).1).headD 0 : Nat) : Int))) 1 270 (rNext bs 1 st).2)) := by
  funext bs st
  unfold rPick
  cases hx : rNext bs 1 st with
  | mk b s1 =>
   cases s1 with
   | error x => rfl
   | ok a => simp [chk]
 rw [e]
 exact h
theorem id_good : Good (fun bs st => rId bs st) := by
 have h := Good.look 4 (by omega) un4 (fun b => decide (127 < b.getD 0 0)) 4 270
 have e : (fun bs st => rId bs st) = (fun (bs : List Nat) (st : RS) => (un4 (rNext bs 4 st).1, chk (decide (127 < (rNext bs 4 st).1.getD 0 0)) 4 270 (rNext bs 4 st).2)) := by
  funext bs st
  unfold rId
  cases hx : rNext bs 4 st with
  | mk b s1 =>
   cases s1 with
   | error x => rfl
   | ok a => simp [chk]
 rw [e]
 exact h
theorem tok_good : Good (fun bs st => rTok bs st) := next_good 8
theorem dec_more {b : List Nat} (hb : B256 b) {q : Rat} {n : Nat} (h : decR b = .ok (q, n)) (ys : List Nat) : decR (b ++ ys) = .ok (q, n) := by
 obtain ⟨he, h1, h2⟩ := enc_dec hb h
 have h3 := dec_enc he (b.drop n ++ ys)
 rw [← List.append_assoc, List.take_append_drop, List.length_take, Nat.min_eq_left h2] at h3
 exact h3
theorem dec_lessB {b : List Nat} (hb : B256 b) {q : Rat} {n : Nat} (h : decR b = .ok (q, n)) {k : Nat} (hk : n ≤ k) : decR (b.take k) = .ok (q, n) := by
 obtain ⟨he, h1, h2⟩ := enc_dec hb h
 have h3 := dec_enc he ((b.take k).drop n)
 rw [show b.take n ++ (b.take k).drop n = b.take k by
  conv => rhs; rw [← List.take_append_drop n (b.take k)]
  rw [List.take_take, Nat.min_eq_left hk], List.length_take, Nat.min_eq_left h2] at h3
 exact h3
theorem dec_cut {b : List Nat} (hb : B256 b) {q : Rat} {n : Nat} (h : decR b = .ok (q, n)) {k : Nat} (hk : k < n) : ∃ f, decR (b.take k) = .error f ∧ f.n = 90 := by
 obtain ⟨he, h1, h2⟩ := enc_dec hb h
 obtain ⟨w, h3, _⟩ := dec_short he (k := k) (by rw [List.length_take]; omega)
 rw [List.take_take, Nat.min_eq_left (by omega)] at h3
 exact ⟨_, h3, rfl⟩
theorem rat_good : Good (fun bs st => rRat bs st) := by
 have key : ∀ bs a v c, rRat bs (.ok a) = (v, .ok c) → ∃ n, decR (bs.drop a) = .ok (v, n) ∧ c = a + n := by
  intro bs a v c h
  unfold rRat at h
  simp only at h
  cases hd : decR (bs.drop a) with
  | error f => rw [hd] at h; injection h with h1 h2; cases h2
  | ok x =>
   rw [hd] at h
   injection h with h1 h2
   injection h2 with h2
   exact ⟨x.2, by rw [← h1], h2.symm⟩
 have back : ∀ bs a v n, decR (bs.drop a) = .ok (v, n) → rRat bs (.ok a) = (v, .ok (a + n)) := fun bs a v n h => by unfold rRat; simp only [h]
 refine ⟨fun bs ys a v c hb h => ?_, fun bs k a v c hb hk h hc => ?_, fun bs k a v c hb hk h hc ha => ?_, fun bs x => rfl, fun bs a v c hb h => ?_⟩
 all_goals obtain ⟨n, h1, h2⟩ := key bs a v c h
 all_goals obtain ⟨he, hn1, hn2⟩ := enc_dec (hb.drop a) h1
 all_goals rw [List.length_drop] at hn2
 ·
  rw [h2]
  refine back _ a v n ?_
  rw [List.drop_append_of_le_length (by omega)]
  exact dec_more (hb.drop a) h1 ys
 ·
  rw [h2]
  refine back _ a v n ?_
  rw [List.drop_take]
  exact dec_lessB (hb.drop a) h1 (by omega)
 ·
  obtain ⟨f, h3, h4⟩ := dec_cut (hb.drop a) h1 (k := k - a) (by omega)
  rw [← List.drop_take] at h3
  refine ⟨a, ?_⟩
  unfold rRat
  simp only [h3, h4]
 ·
  omega
theorem Good.of_ok {α : Type} {f g : Rdr α} (hg : Good g) (h : ∀ bs a, f bs (.ok a) = g bs (.ok a)) (he : ∀ bs x, (f bs (.error x)).2 = .error x) : Good f :=
 ⟨fun bs ys a v c hb h1 => by rw [h] at h1 ⊢; exact hg.ext bs ys a v c hb h1, fun bs k a v c hb hk h1 hc => by rw [h] at h1 ⊢; exact hg.pre bs k a v c hb hk h1 hc,
  fun bs k a v c hb hk h1 hc ha => by rw [h] at h1 ⊢; exact hg.cut bs k a v c hb hk h1 hc ha, he, fun bs a v c hb h1 => by rw [h] at h1; exact hg.mono bs a v c hb h1⟩
theorem ents_good (k : Nat) : ∀ acc : List Ent, Good (fun bs st => rEnts bs k st acc) := by
 induction k with
 | zero => intro acc; exact Good.pure acc
 | succ k ih =>
  intro acc
  refine Good.of_ok (g := bnd (fun bs st => rId bs st) fun i => bnd (fun bs st => rRat bs st) fun q => fun bs st => rEnts bs k st (acc ++ [⟨i, q⟩])) (Good.bnd id_good fun i => Good.bnd rat_good fun q => ih _) (fun bs a => rfl) (fun bs x => rfl)
theorem entries_good : Good (fun bs st => rEntries bs st) := Good.bnd (pick_good 0 64) (fun n => ents_good n.toNat [])
theorem askBody_good (op : Int) : Good (fun bs st => rAskBody bs op st) := by
 unfold rAskBody
 by_cases h0 : op = 1
 ·
  simp only [if_pos h0]
  exact Good.bnd (pick_good 0 3) fun k => Good.bnd rat_good fun v => Good.bnd entries_good fun e => Good.pure (⟨op, 0, 0, k, v, e⟩ : Qst)
 simp only [if_neg h0]
 by_cases h1 : op = 2
 ·
  simp only [if_pos h1]
  exact Good.bnd rat_good fun v => Good.bnd entries_good fun e => Good.pure (⟨op, 0, 0, 0, v, e⟩ : Qst)
 simp only [if_neg h1]
 by_cases h2 : op = 5
 ·
  simp only [if_pos h2]
  exact Good.bnd id_good fun r => Good.bnd id_good fun c => Good.bnd rat_good fun v => Good.pure (⟨op, r, c, 0, v, []⟩ : Qst)
 simp only [if_neg h2]
 by_cases h3 : op = 7
 ·
  simp only [if_pos h3]
  exact Good.bnd id_good fun c => Good.bnd rat_good fun v => Good.pure (⟨op, 0, c, 0, v, []⟩ : Qst)
 simp only [if_neg h3]
 by_cases h4 : op = 6
 ·
  simp only [if_pos h4]
  exact Good.bnd id_good fun r => Good.bnd rat_good fun v => Good.pure (⟨op, r, 0, 0, v, []⟩ : Qst)
 simp only [if_neg h4]
 by_cases h5 : op = 8
 ·
  simp only [if_pos h5]
  exact Good.bnd (pick_good 0 3) fun k => Good.bnd id_good fun r => Good.pure (⟨op, r, 0, k, 0, []⟩ : Qst)
 simp only [if_neg h5]
 by_cases h6 : op = 3 ∨ op = 11
 ·
  simp only [if_pos h6]
  exact Good.bnd id_good fun r => Good.pure (⟨op, r, 0, 0, 0, []⟩ : Qst)
 simp only [if_neg h6]
 by_cases h7 : op = 4 ∨ op = 10
 ·
  simp only [if_pos h7]
  exact Good.bnd id_good fun c => Good.pure (⟨op, 0, c, 0, 0, []⟩ : Qst)
 simp only [if_neg h7]
 exact Good.pure (⟨op, 0, 0, 0, 0, []⟩ : Qst)
theorem ask_good : Good (fun bs st => rAsk bs st) := Good.bnd (pick_good 1 12) askBody_good
theorem msgBody_good (verb : Int) (token : List Nat) : Good (fun bs st => rMsgBody bs verb token st) := by
 unfold rMsgBody
 by_cases h0 : verb = 1
 ·
  simp only [if_pos h0]
  exact Good.bnd id_good fun s => Good.bnd ask_good fun q => Good.pure (⟨verb, token, s, 0, [], q⟩ : Msg)
 simp only [if_neg h0]
 by_cases h1 : verb = 3
 ·
  simp only [if_pos h1]
  exact Good.bnd id_good fun s => Good.pure (⟨verb, token, s, 0, [], Qst.zero⟩ : Msg)
 simp only [if_neg h1]
 by_cases h2 : verb = 4
 ·
  simp only [if_pos h2]
  exact Good.bnd (pick_good 0 255) fun r => Good.pure (⟨verb, token, 0, r, [], Qst.zero⟩ : Msg)
 simp only [if_neg h2]
 by_cases h3 : verb = 5
 ·
  simp only [if_pos h3]
  exact Good.bnd tok_good fun o => Good.pure (⟨verb, token, 0, 0, o, Qst.zero⟩ : Msg)
 simp only [if_neg h3]
 exact Good.pure (⟨verb, token, 0, 0, [], Qst.zero⟩ : Msg)
def rMsgAt : Rdr Msg := bnd (fun bs st => rPick bs 1 5 st) fun v => bnd (fun bs st => rTok bs st) fun t => fun bs st => rMsgBody bs v t st
theorem rMsg_at (bs : List Nat) : rMsg bs = rMsgAt bs (.ok 0) := rfl
theorem msg_good : Good rMsgAt := Good.bnd (pick_good 1 5) fun v => Good.bnd tok_good fun t => msgBody_good v t
theorem decM_ok {bs : List Nat} {m : Msg} (h : decM bs = .ok m) : rMsgAt bs (.ok 0) = (m, .ok bs.length) := by
 unfold decM at h
 rw [rMsg_at] at h
 cases hx : rMsgAt bs (.ok 0) with
 | mk v st =>
  rw [hx] at h
  cases st with
  | error x => cases h
  | ok a =>
   unfold rEnd at h
   simp only at h
   by_cases ha : a = bs.length
   ·
    rw [if_pos ha] at h; injection h with h; rw [h, ha]
   ·
    rw [if_neg ha] at h; cases h
theorem decM_cut {bs : List Nat} (hb : B256 bs) {m : Msg} (h : decM bs = .ok m) {k : Nat} (hk : k < bs.length) : ∃ x, decM (bs.take k) = .error (90, x) := by
 obtain ⟨x, hx⟩ := msg_good.cut bs k 0 m bs.length hb (by omega) (decM_ok h) hk (by omega)
 refine ⟨x, ?_⟩
 unfold decM
 rw [rMsg_at, hx]
 rfl
theorem decM_more {bs : List Nat} (hb : B256 bs) {m : Msg} (h : decM bs = .ok m) (y : Nat) : decM (bs ++ [y]) = .error (270, bs.length) := by
 have h1 := msg_good.ext bs [y] 0 m bs.length hb (decM_ok h)
 unfold decM
 rw [rMsg_at, h1]
 unfold rEnd
 simp only
 rw [if_neg (by rw [List.length_append, List.length_singleton]; omega)]
def Lays (ps : List Prt) (b : List Nat) : Prop := ∀ out, lays (.ok out) ps = .ok (out ++ b)
theorem lays_base {ps : List Prt} : ∀ {out r : List Nat}, lays (.ok out) ps = .ok r → ∃ b, r = out ++ b ∧ Lays ps b := by
 induction ps with
 | nil => intro out r h; injection h with h; exact ⟨[], by rw [← h, List.append_nil], fun o => by rw [lays_nil, List.append_nil]⟩
 | cons p ps ih =>
  intro out r h
  rw [lays_cons] at h
  cases hp : layP p with
  | error e =>
   rw [show lay1 (.ok out) p = .error (e, out.length) by unfold lay1; simp only [hp], lays_error] at h
   cases h
  | ok b1 =>
   rw [show lay1 (.ok out) p = .ok (out ++ b1) by unfold lay1; simp only [hp]] at h
   obtain ⟨b2, h1, h2⟩ := ih h
   refine ⟨b1 ++ b2, by rw [h1, List.append_assoc], fun o => ?_⟩
   rw [lays_cons, show lay1 (.ok o) p = .ok (o ++ b1) by unfold lay1; simp only [hp], h2, List.append_assoc]
theorem Lays.cons {p : Prt} {ps : List Prt} {b : List Nat} (h : Lays (p :: ps) b) : ∃ b1 b2, layP p = .ok b1 ∧ Lays ps b2 ∧ b = b1 ++ b2 := by
 have h0 := h []
 rw [lays_cons] at h0
 cases hp : layP p with
 | error e =>
  rw [show lay1 (.ok []) p = .error (e, 0) by unfold lay1; simp only [hp]; rfl, lays_error] at h0
  cases h0
 | ok b1 =>
  rw [show lay1 (.ok []) p = .ok ([] ++ b1) by unfold lay1; simp only [hp]] at h0
  obtain ⟨b2, h1, h2⟩ := lays_base h0
  exact ⟨b1, b2, rfl, h2, by simpa using h1⟩
theorem Lays.append {ps qs : List Prt} : ∀ {b : List Nat}, Lays (ps ++ qs) b → ∃ b1 b2, Lays ps b1 ∧ Lays qs b2 ∧ b = b1 ++ b2 := by
 induction ps with
 | nil => intro b h; exact ⟨[], b, fun o => by rw [lays_nil, List.append_nil], h, rfl⟩
 | cons p ps ih =>
  intro b h
  obtain ⟨b1, b2, h1, h2, rfl⟩ := Lays.cons h
  obtain ⟨b3, b4, h3, h4, rfl⟩ := ih h2
  refine ⟨b1 ++ b3, b4, fun o => ?_, h4, by rw [List.append_assoc]⟩
  rw [lays_cons, show lay1 (.ok o) p = .ok (o ++ b1) by unfold lay1; simp only [h1], h3, List.append_assoc]
theorem Lays.nil_eq {b : List Nat} (h : Lays [] b) : b = [] := by
 have := h []
 rw [lays_nil] at this
 injection this with this
 simpa using this.symm
def Gives {α : Type} (f : Rdr α) (v : α) (ps : List Prt) : Prop := ∀ bs a b, Lays ps b → (bs.drop a).take b.length = b → a + b.length ≤ bs.length → f bs (.ok a) = (v, .ok (a + b.length))
theorem Gives.pure {α : Type} (v : α) : Gives (fun _ st => (v, st)) v [] := fun bs a b h _ _ => by rw [Lays.nil_eq h]; rfl
theorem take_two {bs : List Nat} {a : Nat} {b1 b2 : List Nat} (h : (bs.drop a).take (b1 ++ b2).length = b1 ++ b2) : (bs.drop a).take b1.length = b1 ∧ (bs.drop (a + b1.length)).take b2.length = b2 := by
 rw [List.length_append, List.take_add] at h
 have hl : ((bs.drop a).take b1.length).length = b1.length := by
  have := congrArg List.length h
  rw [List.length_append, List.length_append] at this
  have h1 : ((bs.drop a).take b1.length).length ≤ b1.length := by rw [List.length_take]; omega
  have h2 : (((bs.drop a).drop b1.length).take b2.length).length ≤ b2.length := by rw [List.length_take]; omega
  omega
 obtain ⟨h1, h2⟩ := List.append_inj h hl
 rw [List.drop_drop] at h2
 exact ⟨h1, h2⟩
theorem Gives.bnd {α β : Type} {f : Rdr α} {g : α → Rdr β} {u : α} {v : β} {ps qs : List Prt} (hf : Gives f u ps) (hg : Gives (g u) v qs) : Gives (bnd f g) v (ps ++ qs) := fun bs a b h ht hl => by
 obtain ⟨b1, b2, h1, h2, rfl⟩ := Lays.append h
 obtain ⟨t1, t2⟩ := take_two ht
 rw [List.length_append] at hl ⊢
 rw [bnd_eq (hf bs a b1 h1 t1 (by omega)), hg bs (a + b1.length) b2 h2 t2 (by omega), Nat.add_assoc]
theorem Lays.one {p : Prt} {b : List Nat} (h : Lays [p] b) : layP p = .ok b := by
 obtain ⟨b1, b2, h1, h2, rfl⟩ := Lays.cons h
 rw [Lays.nil_eq h2, List.append_nil]
 exact h1
theorem next_gives {bs : List Nat} {a : Nat} {b : List Nat} (ht : (bs.drop a).take b.length = b) (hl : a + b.length ≤ bs.length) : rNext bs b.length (.ok a) = (b, .ok (a + b.length)) := by
 unfold rNext
 simp only
 rw [if_neg (by omega), ht]
theorem pick_gives {n lo hi : Int} (h0 : 0 ≤ lo) (h1 : hi ≤ 255) : Gives (fun bs st => rPick bs lo hi st) n [.num n lo hi] := fun bs a b h ht hl => by
 have hp := Lays.one h
 rw [layP_num] at hp
 by_cases hc : n < lo ∨ hi < n
 ·
  rw [if_pos hc] at hp; cases hp
 rw [if_neg hc] at hp
 injection hp with hp
 have hn := next_gives ht hl
 rw [show b.length = 1 by rw [← hp]; rfl] at hn ⊢
 have hv : ((b.headD 0 : Nat) : Int) = n := by rw [← hp]; show (((n % 256).toNat : Nat) : Int) = n; omega
 unfold rPick
 simp only [hn]
 rw [hv]
 exact Prod.ext rfl (if_neg hc)
theorem un4_be4 {n : Int} (h0 : 0 ≤ n) (h1 : n ≤ 2147483647) : un4 (be4 n) = n ∧ (be4 n).getD 0 0 ≤ 127 := by
 unfold un4 be4
 simp only [List.getD_cons_zero, List.getD_cons_succ]
 omega
theorem id_gives {n : Int} : Gives (fun bs st => rId bs st) n [.idn n] := fun bs a b h ht hl => by
 have hp := Lays.one h
 rw [layP_idn] at hp
 by_cases hc : n < 0 ∨ 2147483647 < n
 ·
  rw [if_pos hc] at hp; cases hp
 rw [if_neg hc] at hp
 injection hp with hp
 obtain ⟨e1, e2⟩ := un4_be4 (n := n) (by omega) (by omega)
 have hn := next_gives ht hl
 rw [show b.length = 4 by rw [← hp]; rfl] at hn ⊢
 unfold rId
 simp only [hn]
 rw [← hp, e1]
 exact Prod.ext rfl (if_neg (by omega))
theorem tok_gives {t : List Nat} : Gives (fun bs st => rTok bs st) t [.tok t] := fun bs a b h ht hl => by
 have hp := Lays.one h
 rw [layP_tok] at hp
 by_cases hc : t.length = 8
 ·
  rw [if_pos hc] at hp
  injection hp with hp
  subst hp
  have hn := next_gives ht hl
  unfold rTok
  rw [← hc]
  exact hn
 ·
  rw [if_neg hc] at hp; cases hp
theorem rat_gives {q : Rat} : Gives (fun bs st => rRat bs st) q [.rat q] := fun bs a b h ht hl => by
 have hp := Lays.one h
 rw [layP_rat] at hp
 cases he : encR q with
 | error f => rw [he] at hp; cases hp
 | ok l =>
  rw [he] at hp
  injection hp with hp
  subst hp
  have h1 := dec_enc he ((bs.drop a).drop l.length)
  rw [show l ++ (bs.drop a).drop l.length = bs.drop a by conv => rhs; rw [← List.take_append_drop l.length (bs.drop a), ht]] at h1
  unfold rRat
  simp only [h1]
theorem ents_gives (es : List Ent) : ∀ acc, Gives (fun bs st => rEnts bs es.length st acc) (acc ++ es) (es.flatMap partE) := by
 induction es with
 | nil => intro acc; rw [List.append_nil]; exact Gives.pure acc
 | cons e es ih =>
  intro acc bs a b h ht hl
  have h1 : Gives (bnd (fun bs st => rId bs st) fun i => bnd (fun bs st => rRat bs st) fun q => fun bs st => rEnts bs es.length st (acc ++ [⟨i, q⟩])) (acc ++ [e] ++ es) ([Prt.idn e.id] ++ ([Prt.rat e.v] ++ es.flatMap partE)) :=
   Gives.bnd id_gives (Gives.bnd rat_gives (ih (acc ++ [e])))
  have h2 := h1 bs a b h ht hl
  rw [List.append_assoc] at h2
  exact h2
theorem entries_gives {es : List Ent} : Gives (fun bs st => rEntries bs st) es (partsE es) := by
 have h := Gives.bnd (g := fun (n : Int) bs st => rEnts bs n.toNat st []) (pick_gives (n := (es.length : Int)) (lo := 0) (hi := 64) (by omega) (by omega)) (by
  show Gives (fun bs st => rEnts bs ((es.length : Int)).toNat st []) es (es.flatMap partE)
  rw [Int.toNat_natCast]
  exact ents_gives es [])
 exact h
theorem askBody_gives (q : Qst) : ∃ q', Gives (fun bs st => rAskBody bs q.op st) q' (partsQ q).tail ∧ partsQ q' = partsQ q ∧ q'.op = q.op := by
 unfold rAskBody partsQ
 simp only [List.tail_cons]
 by_cases h0 : q.op = 1
 ·
  simp only [if_pos h0]
  have e : Gives (bnd (fun bs st => rPick bs 0 3 st) fun k => bnd (fun bs st => rRat bs st) fun v => bnd (fun bs st => rEntries bs st) fun e => fun _ st => ((⟨q.op, 0, 0, k, v, e⟩ : Qst), st)) ⟨q.op, 0, 0, q.kind, q.v, q.es⟩ ([Prt.num q.kind 0 3] ++ ([Prt.rat q.v] ++ (partsE q.es ++ ([])))) := Gives.bnd (pick_gives (by omega) (by omega)) (Gives.bnd rat_gives (Gives.bnd entries_gives (Gives.pure _)))
  rw [List.append_nil] at e
  refine ⟨⟨q.op, 0, 0, q.kind, q.v, q.es⟩, e, ?_, rfl⟩
  simp only [if_pos h0]
 simp only [if_neg h0]
 by_cases h1 : q.op = 2
 ·
  simp only [if_pos h1]
  have e : Gives (bnd (fun bs st => rRat bs st) fun v => bnd (fun bs st => rEntries bs st) fun e => fun _ st => ((⟨q.op, 0, 0, 0, v, e⟩ : Qst), st)) ⟨q.op, 0, 0, 0, q.v, q.es⟩ ([Prt.rat q.v] ++ (partsE q.es ++ ([]))) := Gives.bnd rat_gives (Gives.bnd entries_gives (Gives.pure _))
  rw [List.append_nil] at e
  refine ⟨⟨q.op, 0, 0, 0, q.v, q.es⟩, e, ?_, rfl⟩
  simp only [if_neg h0, if_pos h1]
 simp only [if_neg h1]
 by_cases h2 : q.op = 5
 ·
  simp only [if_pos h2]
  have e : Gives (bnd (fun bs st => rId bs st) fun r => bnd (fun bs st => rId bs st) fun c => bnd (fun bs st => rRat bs st) fun v => fun _ st => ((⟨q.op, r, c, 0, v, []⟩ : Qst), st)) ⟨q.op, q.row, q.col, 0, q.v, []⟩ ([Prt.idn q.row] ++ ([Prt.idn q.col] ++ ([Prt.rat q.v] ++ ([])))) := Gives.bnd id_gives (Gives.bnd id_gives (Gives.bnd rat_gives (Gives.pure _)))
  refine ⟨⟨q.op, q.row, q.col, 0, q.v, []⟩, e, ?_, rfl⟩
  simp only [if_neg h0, if_neg h1, if_pos h2]
 simp only [if_neg h2]
 by_cases h3 : q.op = 7
 ·
  simp only [if_pos h3]
  have e : Gives (bnd (fun bs st => rId bs st) fun c => bnd (fun bs st => rRat bs st) fun v => fun _ st => ((⟨q.op, 0, c, 0, v, []⟩ : Qst), st)) ⟨q.op, 0, q.col, 0, q.v, []⟩ ([Prt.idn q.col] ++ ([Prt.rat q.v] ++ ([]))) := Gives.bnd id_gives (Gives.bnd rat_gives (Gives.pure _))
  refine ⟨⟨q.op, 0, q.col, 0, q.v, []⟩, e, ?_, rfl⟩
  simp only [if_neg h0, if_neg h1, if_neg h2, if_pos h3]
 simp only [if_neg h3]
 by_cases h4 : q.op = 6
 ·
  simp only [if_pos h4]
  have e : Gives (bnd (fun bs st => rId bs st) fun r => bnd (fun bs st => rRat bs st) fun v => fun _ st => ((⟨q.op, r, 0, 0, v, []⟩ : Qst), st)) ⟨q.op, q.row, 0, 0, q.v, []⟩ ([Prt.idn q.row] ++ ([Prt.rat q.v] ++ ([]))) := Gives.bnd id_gives (Gives.bnd rat_gives (Gives.pure _))
  refine ⟨⟨q.op, q.row, 0, 0, q.v, []⟩, e, ?_, rfl⟩
  simp only [if_neg h0, if_neg h1, if_neg h2, if_neg h3, if_pos h4]
 simp only [if_neg h4]
 by_cases h5 : q.op = 8
 ·
  simp only [if_pos h5]
  have e : Gives (bnd (fun bs st => rPick bs 0 3 st) fun k => bnd (fun bs st => rId bs st) fun r => fun _ st => ((⟨q.op, r, 0, k, 0, []⟩ : Qst), st)) ⟨q.op, q.row, 0, q.kind, 0, []⟩ ([Prt.num q.kind 0 3] ++ ([Prt.idn q.row] ++ ([]))) := Gives.bnd (pick_gives (by omega) (by omega)) (Gives.bnd id_gives (Gives.pure _))
  refine ⟨⟨q.op, q.row, 0, q.kind, 0, []⟩, e, ?_, rfl⟩
  simp only [if_neg h0, if_neg h1, if_neg h2, if_neg h3, if_neg h4, if_pos h5]
 simp only [if_neg h5]
 by_cases h6 : q.op = 3 ∨ q.op = 11
 ·
  simp only [if_pos h6]
  have e : Gives (bnd (fun bs st => rId bs st) fun r => fun _ st => ((⟨q.op, r, 0, 0, 0, []⟩ : Qst), st)) ⟨q.op, q.row, 0, 0, 0, []⟩ ([Prt.idn q.row] ++ ([])) := Gives.bnd id_gives (Gives.pure _)
  refine ⟨⟨q.op, q.row, 0, 0, 0, []⟩, e, ?_, rfl⟩
  simp only [if_neg h0, if_neg h1, if_neg h2, if_neg h3, if_neg h4, if_neg h5, if_pos h6]
 simp only [if_neg h6]
 by_cases h7 : q.op = 4 ∨ q.op = 10
 ·
  simp only [if_pos h7]
  have e : Gives (bnd (fun bs st => rId bs st) fun c => fun _ st => ((⟨q.op, 0, c, 0, 0, []⟩ : Qst), st)) ⟨q.op, 0, q.col, 0, 0, []⟩ ([Prt.idn q.col] ++ ([])) := Gives.bnd id_gives (Gives.pure _)
  refine ⟨⟨q.op, 0, q.col, 0, 0, []⟩, e, ?_, rfl⟩
  simp only [if_neg h0, if_neg h1, if_neg h2, if_neg h3, if_neg h4, if_neg h5, if_neg h6, if_pos h7]
 simp only [if_neg h7]
 refine ⟨⟨q.op, 0, 0, 0, 0, []⟩, Gives.pure _, ?_, rfl⟩
 simp only [if_neg h0, if_neg h1, if_neg h2, if_neg h3, if_neg h4, if_neg h5, if_neg h6, if_neg h7]
theorem ask_gives (q : Qst) : ∃ q', Gives (fun bs st => rAsk bs st) q' (partsQ q) ∧ partsQ q' = partsQ q ∧ q'.op = q.op := by
 obtain ⟨q', h1, h2, h3⟩ := askBody_gives q
 exact ⟨q', Gives.bnd (g := fun op bs st => rAskBody bs op st) (pick_gives (n := q.op) (lo := 1) (hi := 12) (by omega) (by omega)) h1, h2, h3⟩
theorem msg_gives (m : Msg) : ∃ m', Gives rMsgAt m' (partsM m) ∧ partsM m' = partsM m ∧ m'.verb = m.verb ∧ m'.token = m.token ∧ (m.verb = 1 → m'.ask.op = m.ask.op) := by
 have key : ∃ m', Gives (fun bs st => rMsgBody bs m.verb m.token st) m' (partsM m).tail.tail ∧ partsM m' = partsM m ∧ m'.verb = m.verb ∧ m'.token = m.token ∧ (m.verb = 1 → m'.ask.op = m.ask.op) := by
  unfold rMsgBody partsM
  simp only [List.tail_cons]
  by_cases h0 : m.verb = 1
  ·
   simp only [if_pos h0]
   obtain ⟨q', g1, g2, g3⟩ := ask_gives m.ask
   have e : Gives (bnd (fun bs st => rId bs st) fun s => bnd (fun bs st => rAsk bs st) fun a => fun _ st => ((⟨m.verb, m.token, s, 0, [], a⟩ : Msg), st)) ⟨m.verb, m.token, m.session, 0, [], q'⟩ ([Prt.idn m.session] ++ (partsQ m.ask ++ ([]))) := Gives.bnd id_gives (Gives.bnd g1 (Gives.pure _))
   rw [List.append_nil] at e
   refine ⟨⟨m.verb, m.token, m.session, 0, [], q'⟩, e, ?_, rfl, rfl, fun h => g3⟩
   simp only [if_pos h0, g2]
  simp only [if_neg h0]
  by_cases h1 : m.verb = 3
  ·
   simp only [if_pos h1]
   have e : Gives (bnd (fun bs st => rId bs st) fun s => fun _ st => ((⟨m.verb, m.token, s, 0, [], Qst.zero⟩ : Msg), st)) ⟨m.verb, m.token, m.session, 0, [], Qst.zero⟩ ([Prt.idn m.session] ++ ([])) := Gives.bnd id_gives (Gives.pure _)
   refine ⟨⟨m.verb, m.token, m.session, 0, [], Qst.zero⟩, e, ?_, rfl, rfl, fun h => absurd h h0⟩
   simp only [if_neg h0, if_pos h1]
  simp only [if_neg h1]
  by_cases h2 : m.verb = 4
  ·
   simp only [if_pos h2]
   have e : Gives (bnd (fun bs st => rPick bs 0 255 st) fun r => fun _ st => ((⟨m.verb, m.token, 0, r, [], Qst.zero⟩ : Msg), st)) ⟨m.verb, m.token, 0, m.rights, [], Qst.zero⟩ ([Prt.num m.rights 0 255] ++ ([])) := Gives.bnd (pick_gives (by omega) (by omega)) (Gives.pure _)
   refine ⟨⟨m.verb, m.token, 0, m.rights, [], Qst.zero⟩, e, ?_, rfl, rfl, fun h => absurd h h0⟩
   simp only [if_neg h0, if_neg h1, if_pos h2]
  simp only [if_neg h2]
  by_cases h3 : m.verb = 5
  ·
   simp only [if_pos h3]
   have e : Gives (bnd (fun bs st => rTok bs st) fun o => fun _ st => ((⟨m.verb, m.token, 0, 0, o, Qst.zero⟩ : Msg), st)) ⟨m.verb, m.token, 0, 0, m.other, Qst.zero⟩ ([Prt.tok m.other] ++ ([])) := Gives.bnd tok_gives (Gives.pure _)
   refine ⟨⟨m.verb, m.token, 0, 0, m.other, Qst.zero⟩, e, ?_, rfl, rfl, fun h => absurd h h0⟩
   simp only [if_neg h0, if_neg h1, if_neg h2, if_pos h3]
  simp only [if_neg h3]
  refine ⟨⟨m.verb, m.token, 0, 0, [], Qst.zero⟩, Gives.pure _, ?_, rfl, rfl, fun h => absurd h h0⟩
  simp only [if_neg h0, if_neg h1, if_neg h2, if_neg h3]
 obtain ⟨m', k1, k2, k3, k4, k5⟩ := key
 exact ⟨m', Gives.bnd (g := fun v => bnd (fun bs st => rTok bs st) fun t => fun bs st => rMsgBody bs v t st) (pick_gives (n := m.verb) (lo := 1) (hi := 5) (by omega) (by omega)) (Gives.bnd (g := fun t => fun bs st => rMsgBody bs m.verb t st) tok_gives k1), k2, k3, k4, k5⟩
theorem decM_enc {m : Msg} {x : List Nat} (h : encM m = .ok x) : ∃ m', decM x = .ok m' ∧ encM m' = .ok x ∧ m'.verb = m.verb ∧ m'.token = m.token ∧ (m.verb = 1 → m'.ask.op = m.ask.op) := by
 obtain ⟨m', h1, h2, h3, h4, h5⟩ := msg_gives m
 obtain ⟨b, hb, hl⟩ := lays_base h
 rw [List.nil_append] at hb
 subst hb
 have h6 := h1 x 0 x hl (by rw [List.drop_zero, List.take_length]) (by omega)
 refine ⟨m', ?_, by unfold encM; rw [h2]; exact h, h3, h4, h5⟩
 unfold decM
 rw [rMsg_at, h6]
 unfold rEnd
 simp only
 rw [if_pos (by omega)]
def PF (m : Msg) : Prt → Prop
 | .tok t => t = m.token ∨ t = m.other
 | .raw _ => False
 | _ => True
theorem ents_PF (m : Msg) (es : List Ent) : ∀ p, p ∈ es.flatMap partE → PF m p := fun p hp => by
 obtain ⟨e, _, he⟩ := List.mem_flatMap.1 hp
 simp only [partE, List.mem_cons, List.not_mem_nil, or_false] at he
 rcases he with rfl | rfl <;> trivial
theorem partsE_PF (m : Msg) (es : List Ent) : ∀ p, p ∈ partsE es → PF m p := List.forall_mem_cons.2 ⟨trivial, ents_PF m es⟩
theorem partsQ_PF (m : Msg) (q : Qst) : ∀ p, p ∈ partsQ q → PF m p := by
 have h0 : ∀ p, p ∈ ([] : List Prt) → PF m p := fun p h => (by cases h)
 have hE := partsE_PF m q.es
 unfold partsQ
 refine List.forall_mem_cons.2 ⟨trivial, ?_⟩
 repeat' split
 ·
  exact List.forall_mem_cons.2 ⟨trivial, List.forall_mem_cons.2 ⟨trivial, hE⟩⟩
 ·
  exact List.forall_mem_cons.2 ⟨trivial, hE⟩
 ·
  exact List.forall_mem_cons.2 ⟨trivial, List.forall_mem_cons.2 ⟨trivial, List.forall_mem_cons.2 ⟨trivial, h0⟩⟩⟩
 ·
  exact List.forall_mem_cons.2 ⟨trivial, List.forall_mem_cons.2 ⟨trivial, h0⟩⟩
 ·
  exact List.forall_mem_cons.2 ⟨trivial, List.forall_mem_cons.2 ⟨trivial, h0⟩⟩
 ·
  exact List.forall_mem_cons.2 ⟨trivial, List.forall_mem_cons.2 ⟨trivial, h0⟩⟩
 ·
  exact List.forall_mem_cons.2 ⟨trivial, h0⟩
 ·
  exact List.forall_mem_cons.2 ⟨trivial, h0⟩
 ·
  exact h0
theorem partsM_PF (m : Msg) : ∀ p, p ∈ partsM m → PF m p := by
 have h0 : ∀ p, p ∈ ([] : List Prt) → PF m p := fun p h => (by cases h)
 unfold partsM
 refine List.forall_mem_cons.2 ⟨trivial, List.forall_mem_cons.2 ⟨.inl rfl, ?_⟩⟩
 repeat' split
 ·
  exact List.forall_mem_cons.2 ⟨trivial, partsQ_PF m m.ask⟩
 ·
  exact List.forall_mem_cons.2 ⟨trivial, h0⟩
 ·
  exact List.forall_mem_cons.2 ⟨trivial, h0⟩
 ·
  exact List.forall_mem_cons.2 ⟨.inr rfl, h0⟩
 ·
  exact h0
theorem ents_len (es : List Ent) : (es.flatMap partE).length = 2 * es.length := by
 induction es with
 | nil => rfl
 | cons e es ih => rw [List.flatMap_cons, List.length_append, ih, List.length_cons]; show 2 + _ = _; omega
theorem partsM_len (m : Msg) : (partsM m).length ≤ 2 * m.ask.es.length + 8 := by
 have h := ents_len m.ask.es
 unfold partsM partsQ partsE
 repeat' split
 all_goals simp only [List.length_cons, List.length_nil, h]
 all_goals omega
theorem layP_fine {m : Msg} (h1 : ∀ x, x ∈ m.token → x < 256) (h2 : ∀ x, x ∈ m.other → x < 256) {p : Prt} (hp : PF m p) {b : List Nat} (h : layP p = .ok b) : (∀ x, x ∈ b → x < 256) ∧ b.length ≤ 513 := by
 cases p with
 | num n lo hi =>
  rw [layP_num] at h; split at h
  ·
   cases h
  ·
   injection h with h; subst h; refine ⟨fun x hx => ?_, by simp⟩; simp only [List.mem_singleton] at hx; omega
 | idn n =>
  rw [layP_idn] at h; split at h
  ·
   cases h
  ·
   injection h with h; subst h; refine ⟨fun x hx => ?_, by simp [be4]⟩; simp only [be4, List.mem_cons, List.not_mem_nil, or_false] at hx; omega
 | tok t =>
  rw [layP_tok] at h; split at h
  ·
   injection h with h; subst h; refine ⟨?_, by omega⟩; rcases hp with rfl | rfl; exact h1; exact h2
  ·
   cases h
 | rat q =>
  rw [layP_rat] at h
  cases he : encR q with
  | ok l => rw [he] at h; injection h with h; subst h; exact ⟨(enc_lt he).1, (enc_small he).2.2⟩
  | error f => rw [he] at h; cases h
 | i64 n =>
  rw [layP_i64] at h; injection h with h; subst h
  refine ⟨fun x hx => ?_, by simp [be8]⟩
  obtain ⟨k, _, rfl⟩ := List.mem_map.1 hx
  omega
 | raw t => exact hp.elim
 | two n =>
  rw [layP_two] at h; split at h
  ·
   cases h
  ·
   injection h with h; subst h; refine ⟨fun x hx => ?_, by simp⟩; simp only [List.mem_cons, List.not_mem_nil, or_false] at hx; omega
theorem lays_fine {m : Msg} (h1 : ∀ x, x ∈ m.token → x < 256) (h2 : ∀ x, x ∈ m.other → x < 256) : ∀ (ps : List Prt) (out l : List Nat), (∀ p, p ∈ ps → PF m p) → (∀ x, x ∈ out → x < 256) → lays (.ok out) ps = .ok l → (∀ x, x ∈ l → x < 256) ∧ l.length ≤ out.length + 513 * ps.length
 | [], out, l, _, ho, h => by
  rw [lays_nil] at h; injection h with h; subst h; exact ⟨ho, by simp⟩
 | p :: ps, out, l, hp, ho, h => by
  rw [lays_cons] at h
  cases hb : layP p with
  | error e =>
   rw [show lay1 (.ok out) p = .error (e, out.length) from by unfold lay1; simp only [hb], lays_error] at h
   cases h
  | ok b =>
   rw [show lay1 (.ok out) p = .ok (out ++ b) from by unfold lay1; simp only [hb]] at h
   obtain ⟨g1, g2⟩ := layP_fine h1 h2 (hp p (by simp)) hb
   obtain ⟨k1, k2⟩ := lays_fine h1 h2 ps (out ++ b) l (fun q hq => hp q (by simp [hq])) (fun x hx => (List.mem_append.1 hx).elim (ho x) (g1 x)) h
   refine ⟨k1, ?_⟩
   rw [List.length_append] at k2
   rw [List.length_cons]
   omega
theorem encM_fine {m : Msg} (h1 : ∀ x, x ∈ m.token → x < 256) (h2 : ∀ x, x ∈ m.other → x < 256) {l : List Nat} (h : encM m = .ok l) : (∀ x, x ∈ l → x < 256) ∧ l.length ≤ 513 * (2 * m.ask.es.length + 8) := by
 obtain ⟨g1, g2⟩ := lays_fine h1 h2 (partsM m) [] l (partsM_PF m) (fun x hx => by cases hx) h
 have := partsM_len m
 rw [List.length_nil] at g2
 exact ⟨g1, by omega⟩
structure Ans where
 out : Int
 value : Rat
 point : List Rat
structure Rng where
 hasLo : Bool
 hasHi : Bool
 lo : Rat
 hi : Rat
structure Rep where
 err : Int
 wher : List Nat
 at9 : Int
 id : Int
 ans : Ans
 rng : Rng
 u0 : Int
 u1 : Int
 u2 : Int
structure Res where
 verb : Int
 op : Int
 token : List Nat
 rep : Rep
def Ans.zero : Ans := ⟨0, 0, []⟩
def Rng.zero : Rng := ⟨false, false, 0, 0⟩
def Rep.zero : Rep := ⟨0, [], 0, 0, Ans.zero, Rng.zero, 0, 0, 0⟩
def Res.zero : Res := ⟨0, 0, [], Rep.zero⟩
theorem pick_nonneg (bs : List Nat) (lo hi : Int) (st : RS) : 0 ≤ (rPick bs lo hi st).1 := by
 unfold rPick
 split <;> simp only <;> omega
theorem be8_len (n : Int) : (be8 n).length = 8 := by unfold be8; simp
/-! What was laid is read so. -/
def I64s (n : Int) : Prop := -9223372036854775808 ≤ n ∧ n ≤ 9223372036854775807
structure Rep.ok (p : Rep) : Prop where
 at9 : I64s p.at9
 u0 : I64s p.u0
 u1 : I64s p.u1
 u2 : I64s p.u2
/-! Where an error is told. -/
def OkSt (bs : List Nat) (st : RS) : Prop := match st with
 | .ok a => a ≤ bs.length
 | .error x => x.2 ≤ bs.length ∧ (x.1 = 90 ∨ x.1 = 91 ∨ x.1 = 270)
def Inb {α : Type} (f : Rdr α) : Prop := ∀ bs st, B256 bs → OkSt bs st → OkSt bs (f bs st).2
theorem Inb.pure {α : Type} (v : α) : Inb (fun _ st => (v, st)) := fun _ _ _ h => h
theorem Inb.bnd {α β : Type} {f : Rdr α} {g : α → Rdr β} (hf : Inb f) (hg : ∀ v, Inb (g v)) : Inb (bnd f g) := fun bs st hb h => hg _ bs _ hb (hf bs st hb h)
end Go.Proofs.YtmhainidincjhaaGreatDoor
