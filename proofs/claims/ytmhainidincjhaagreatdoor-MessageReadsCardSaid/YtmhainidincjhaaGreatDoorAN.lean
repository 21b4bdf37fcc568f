/-
 What the laws stand on, part N: contracts and plain laws of NMsg, NMsg2, NMsg3, NMsg4, NMsgB, NRes, NRes2; the conditions are each law's own.
-/
import Derived.Test.YtmhainidincjhaaGreatDoorAV
import Derived.Test.YtmhainidincjhaaGreatDoorAL
set_option linter.unusedVariables false
set_option linter.unusedSimpArgs false
set_option maxRecDepth 100000
set_option maxHeartbeats 16000000
namespace Go.Proofs.YtmhainidincjhaaGreatDoor
inductive Prt where
 | num (n lo hi:Int)
 | idn (n:Int)
 | tok (t:List Nat)
 | rat (q:Rat)
 | i64 (n:Int)
 | raw (t:List Nat)
 | two (n:Int)
def be4 (n:Int):List Nat:=[(n / 16777216 % 256).toNat,(n / 65536 % 256).toNat,(n / 256 % 256).toNat,(n % 256).toNat]
def be8 (n:Int):List Nat:=(List.range 8).map fun k=>(n / 256^(7 - k) % 256).toNat
def layP:Prt→Except Int (List Nat)
 | .num n lo hi=>if n<lo∨hi<n then .error 270 else .ok [(n % 256).toNat]
 | .idn n=>if n<0∨2147483647<n then .error 270 else .ok (be4 n)
 | .tok t=>if t.length=8 then .ok t else .error 270
 | .rat q=>match encR q with
  | .ok l=>.ok l
  | .error f=>.error f.n
 | .i64 n=>.ok (be8 n)
 | .raw t=>.ok t
 | .two n=>if n<0∨65535<n then .error 270 else .ok [(n / 256 % 256).toNat,(n % 256).toNat]
theorem layP_num (n lo hi:Int):layP (.num n lo hi)=if n<lo∨hi<n then .error 270 else .ok [(n % 256).toNat]:=rfl
theorem layP_idn (n:Int):layP (.idn n)=if n<0∨2147483647<n then .error 270 else .ok (be4 n):=rfl
theorem layP_tok (t:List Nat):layP (.tok t)=if t.length=8 then .ok t else .error 270:=rfl
theorem layP_rat (q:Rat):layP (.rat q)=match encR q with
  | .ok l=>.ok l
  | .error f=>.error f.n:=rfl
abbrev WS:=Except (Int × Nat) (List Nat)
def lay1 (st:WS) (p:Prt):WS:=match st with
 | .error x=>.error x
 | .ok out=>match layP p with
  | .ok b=>.ok (out++b)
  | .error e=>.error (e,out.length)
def lays (st:WS) (ps:List Prt):WS:=ps.foldl lay1 st
theorem lays_nil (st:WS):lays st []=st:=rfl
theorem lays_cons (st:WS) (p:Prt) (ps:List Prt):lays st (p::ps)=lays (lay1 st p) ps:=rfl
theorem lays_append (st:WS) (ps qs:List Prt):lays st (ps++qs)=lays (lays st ps) qs:=List.foldl_append
theorem lays_error (x:Int × Nat) (ps:List Prt):lays (.error x) ps=.error x:=by
 induction ps with
 | nil=>rfl
 | cons p ps ih=>exact ih
structure Ent where
 id:Int
 v:Rat
structure Qst where
 op:Int
 row:Int
 col:Int
 kind:Int
 v:Rat
 es:List Ent
structure Msg where
 verb:Int
 token:List Nat
 session:Int
 rights:Int
 other:List Nat
 ask:Qst
def partE (e:Ent):List Prt:=[.idn e.id,.rat e.v]
def partsE (es:List Ent):List Prt:=.num es.length 0 64::es.flatMap partE
def partsQ (q:Qst):List Prt:=.num q.op 1 12 ::
  (if q.op=1 then .num q.kind 0 3::.rat q.v::partsE q.es
   else if q.op=2 then .rat q.v::partsE q.es
   else if q.op=5 then [.idn q.row,.idn q.col,.rat q.v]
   else if q.op=7 then [.idn q.col,.rat q.v]
   else if q.op=6 then [.idn q.row,.rat q.v]
   else if q.op=8 then [.num q.kind 0 3,.idn q.row]
   else if q.op=3∨q.op=11 then [.idn q.row]
   else if q.op=4∨q.op=10 then [.idn q.col]
   else [])
def partsM (m:Msg):List Prt:=.num m.verb 1 5::.tok m.token ::
  (if m.verb=1 then .idn m.session::partsQ m.ask
   else if m.verb=3 then [.idn m.session]
   else if m.verb=4 then [.num m.rights 0 255]
   else if m.verb=5 then [.tok m.other]
   else [])
def encM (m:Msg):WS:=lays (.ok []) (partsM m)
abbrev RS:=Except (Int × Nat) Nat
def rNext (bs:List Nat) (n:Nat) (st:RS):List Nat × RS:=match st with
 | .error x=>(List.replicate n 0,.error x)
 | .ok a=>if bs.length - a<n then (List.replicate n 0,.error (90,a)) else ((bs.drop a).take n,.ok (a+n))
def rPick (bs:List Nat) (lo hi:Int) (st:RS):Int × RS:=match rNext bs 1 st with
 | (b,.error x)=>((b.headD 0:Nat),.error x)
 | (b,.ok a)=>((b.headD 0:Nat),if ((b.headD 0:Nat):Int)<lo∨hi<((b.headD 0:Nat):Int) then .error (270,a - 1) else .ok a)
def un4 (b:List Nat):Int:=(((b.getD 0 0 % 128*256+b.getD 1 0)*256+b.getD 2 0)*256+b.getD 3 0:Nat)
def rId (bs:List Nat) (st:RS):Int × RS:=match rNext bs 4 st with
 | (b,.error x)=>(un4 b,.error x)
 | (b,.ok a)=>(un4 b,if 127<b.getD 0 0 then .error (270,a - 4) else .ok a)
def rTok (bs:List Nat) (st:RS):List Nat × RS:=rNext bs 8 st
def rRat (bs:List Nat) (st:RS):Rat × RS:=match st with
 | .error x=>(0,.error x)
 | .ok a=>match decR (bs.drop a) with
  | .ok (q,n)=>(q,.ok (a+n))
  | .error f=>(0,.error (f.n,a))
def rEnts (bs:List Nat):Nat→RS→List Ent→List Ent × RS
 | 0,st,acc=>(acc,st)
 | k+1,st,acc=>match st with
  | .error x=>([],.error x)
  | .ok a=>rEnts bs k (rRat bs (rId bs (.ok a)).2).2 (acc++[⟨(rId bs (.ok a)).1,(rRat bs (rId bs (.ok a)).2).1⟩])
def rEntries (bs:List Nat) (st:RS):List Ent × RS:=rEnts bs (rPick bs 0 64 st).1.toNat (rPick bs 0 64 st).2 []
def rEnd (bs:List Nat) (st:RS):Option (Int × Nat):=match st with
 | .error x=>some x
 | .ok a=>if a=bs.length then none else some (270,a)
def Qst.zero:Qst:=⟨0,0,0,0,0,[]⟩
def Msg.zero:Msg:=⟨0,[],0,0,[],Qst.zero⟩
def rAskBody (bs:List Nat) (op:Int) (st:RS):Qst × RS :=
 if op=1 then
  let k:=rPick bs 0 3 st;let v:=rRat bs k.2;let e:=rEntries bs v.2
  (⟨op,0,0,k.1,v.1,e.1⟩,e.2)
 else if op=2 then
  let v:=rRat bs st;let e:=rEntries bs v.2
  (⟨op,0,0,0,v.1,e.1⟩,e.2)
 else if op=5 then
  let r:=rId bs st;let c:=rId bs r.2;let v:=rRat bs c.2
  (⟨op,r.1,c.1,0,v.1,[]⟩,v.2)
 else if op=7 then
  let c:=rId bs st;let v:=rRat bs c.2
  (⟨op,0,c.1,0,v.1,[]⟩,v.2)
 else if op=6 then
  let r:=rId bs st;let v:=rRat bs r.2
  (⟨op,r.1,0,0,v.1,[]⟩,v.2)
 else if op=8 then
  let k:=rPick bs 0 3 st;let r:=rId bs k.2
  (⟨op,r.1,0,k.1,0,[]⟩,r.2)
 else if op=3∨op=11 then
  let r:=rId bs st
  (⟨op,r.1,0,0,0,[]⟩,r.2)
 else if op=4∨op=10 then
  let c:=rId bs st
  (⟨op,0,c.1,0,0,[]⟩,c.2)
 else (⟨op,0,0,0,0,[]⟩,st)
def rAsk (bs:List Nat) (st:RS):Qst × RS:=rAskBody bs (rPick bs 1 12 st).1 (rPick bs 1 12 st).2
def rMsgBody (bs:List Nat) (verb:Int) (token:List Nat) (st:RS):Msg × RS :=
 if verb=1 then
  let s:=rId bs st;let q:=rAsk bs s.2
  (⟨verb,token,s.1,0,[],q.1⟩,q.2)
 else if verb=3 then
  let s:=rId bs st
  (⟨verb,token,s.1,0,[],Qst.zero⟩,s.2)
 else if verb=4 then
  let r:=rPick bs 0 255 st
  (⟨verb,token,0,r.1,[],Qst.zero⟩,r.2)
 else if verb=5 then
  let o:=rTok bs st
  (⟨verb,token,0,0,o.1,Qst.zero⟩,o.2)
 else (⟨verb,token,0,0,[],Qst.zero⟩,st)
def rMsg (bs:List Nat):Msg × RS:=rMsgBody bs (rPick bs 1 5 (.ok 0)).1 (rTok bs (rPick bs 1 5 (.ok 0)).2).1 (rTok bs (rPick bs 1 5 (.ok 0)).2).2
def decM (bs:List Nat):Except (Int × Nat) Msg:=match rEnd bs (rMsg bs).2 with
 | some x=>.error x
 | none=>.ok (rMsg bs).1
/-! A reader that is in order stands on what its parts lay: 'Took bs st p st'': if the state behind is in order, so was the one ahead, and the part's bytes stand between. -/
def Took (bs:List Nat) (st:RS) (p:Prt) (st':RS):Prop:=∀ c,st'=.ok c→∃ a b,st=.ok a∧layP p=.ok b∧c=a+b.length∧c≤bs.length∧(bs.drop a).take b.length=b
def TookAll (bs:List Nat) (st:RS) (ps:List Prt) (st':RS):Prop:=∀ c,st'=.ok c→∃ a b,st=.ok a∧(∀ out,lays (.ok out) ps=.ok (out++b))∧c=a+b.length∧(ps=[]∨c≤bs.length)∧(bs.drop a).take b.length=b
theorem TookAll.nil (bs:List Nat) (st:RS):TookAll bs st [] st:=fun c h=>⟨c,[],h,fun out=>by rw [lays_nil,List.append_nil],rfl,.inl rfl,rfl⟩
theorem take_join {bs:List Nat} {a:Nat} {b d:List Nat} (h1:(bs.drop a).take b.length=b) (h2:(bs.drop (a+b.length)).take d.length=d):(bs.drop a).take (b++d).length=b++d:=by
 rw [List.length_append,List.take_add,List.drop_drop,h1,h2]
theorem TookAll.cons {bs:List Nat} {s0 s1 s2:RS} {p:Prt} {ps:List Prt} (h:Took bs s0 p s1) (hs:TookAll bs s1 ps s2):TookAll bs s0 (p::ps) s2:=fun c hc=>by
 obtain ⟨a1,b1,e1,l1,c1,d1,t1⟩:=hs c hc
 obtain ⟨a0,b0,e0,l0,c0,d0,t0⟩:=h a1 e1
 refine ⟨a0,b0++b1,e0,fun out=>?_,by rw [List.length_append];omega,.inr ?_,take_join t0 (by rw [← c0];exact t1)⟩
 ·
  rw [lays_cons,show lay1 (.ok out) p=.ok (out++b0) by unfold lay1;simp only [l0],l1,List.append_assoc]
 ·
  rcases d1 with rfl | d1
  ·
   have:=l1 []
   rw [lays_nil] at this
   injection this with this
   have hb1:b1=[]:=by simpa using this.symm
   subst hb1
   simp at c1
   omega
  ·
   exact d1
theorem TookAll.append {bs:List Nat} {s0 s1 s2:RS} {ps qs:List Prt} (h:TookAll bs s0 ps s1) (hs:TookAll bs s1 qs s2):TookAll bs s0 (ps++qs) s2:=fun c hc=>by
 obtain ⟨a1,b1,e1,l1,c1,d1,t1⟩:=hs c hc
 obtain ⟨a0,b0,e0,l0,c0,d0,t0⟩:=h a1 e1
 refine ⟨a0,b0++b1,e0,fun out=>?_,by rw [List.length_append];omega,?_,take_join t0 (by rw [← c0];exact t1)⟩
 ·
  rw [lays_append,l0,l1,List.append_assoc]
 ·
  rcases d1 with rfl | d1
  ·
   have h2:=l1 []
   rw [lays_nil] at h2
   injection h2 with h2
   have hb1:b1=[]:=by simpa using h2.symm
   subst hb1
   simp at c1
   rcases d0 with rfl | d0
   ·
    exact .inl rfl
   ·
    exact .inr (by omega)
  ·
   exact .inr d1
def B256 (bs:List Nat):Prop:=∀ x,x∈bs→x<256
theorem B256.drop {bs:List Nat} (h:B256 bs) (a:Nat):B256 (bs.drop a):=fun x hx=>h x (List.mem_of_mem_drop hx)
theorem B256.take {bs:List Nat} (h:B256 bs) (a:Nat):B256 (bs.take a):=fun x hx=>h x (List.mem_of_mem_take hx)
theorem TookAll.bad {bs:List Nat} {s0 s1:RS} {ps:List Prt} {x:Int × Nat} (h:s1=.error x):TookAll bs s0 ps s1:=fun c hc=>by rw [h] at hc;cases hc
theorem TookAll.one {bs:List Nat} {s0 s1:RS} {p:Prt} (h:Took bs s0 p s1):TookAll bs s0 [p] s1:=TookAll.cons h (TookAll.nil bs s1)
abbrev Rdr (α:Type):=List Nat→RS→α × RS
structure Good {α:Type} (f:Rdr α):Prop where
 ext:∀ bs ys a v c,B256 bs→f bs (.ok a)=(v,.ok c)→f (bs++ys) (.ok a)=(v,.ok c)
 pre:∀ bs k a v c,B256 bs→k≤bs.length→f bs (.ok a)=(v,.ok c)→c≤k→f (bs.take k) (.ok a)=(v,.ok c)
 cut:∀ bs k a v c,B256 bs→k≤bs.length→f bs (.ok a)=(v,.ok c)→k<c→a≤k→∃ x,(f (bs.take k) (.ok a)).2=.error (90,x)
 err:∀ bs x,(f bs (.error x)).2=.error x
 mono:∀ bs a v c,B256 bs→f bs (.ok a)=(v,.ok c)→a≤c
theorem Good.pure {α:Type} (v:α):Good (fun _ st=>(v,st)) :=
 ⟨fun bs ys a v' c _ h=>h,fun bs k a v' c _ hk h hc=>h,fun bs k a v' c _ hk h hc ha=>by injection h with h1 h2;injection h2 with h2;omega,fun bs x=>rfl,fun bs a v' c _ h=>by injection h with h1 h2;injection h2 with h2;omega⟩
def Lays (ps:List Prt) (b:List Nat):Prop:=∀ out,lays (.ok out) ps=.ok (out++b)
theorem lays_base {ps:List Prt}:∀ {out r:List Nat},lays (.ok out) ps=.ok r→∃ b,r=out++b∧Lays ps b:=by
 induction ps with
 | nil=>intro out r h;injection h with h;exact ⟨[],by rw [← h,List.append_nil],fun o=>by rw [lays_nil,List.append_nil]⟩
 | cons p ps ih =>
  intro out r h
  rw [lays_cons] at h
  cases hp:layP p with
  | error e =>
   rw [show lay1 (.ok out) p=.error (e,out.length) by unfold lay1;simp only [hp],lays_error] at h
   cases h
  | ok b1 =>
   rw [show lay1 (.ok out) p=.ok (out++b1) by unfold lay1;simp only [hp]] at h
   obtain ⟨b2,h1,h2⟩:=ih h
   refine ⟨b1++b2,by rw [h1,List.append_assoc],fun o=>?_⟩
   rw [lays_cons,show lay1 (.ok o) p=.ok (o++b1) by unfold lay1;simp only [hp],h2,List.append_assoc]
theorem Lays.cons {p:Prt} {ps:List Prt} {b:List Nat} (h:Lays (p::ps) b):∃ b1 b2,layP p=.ok b1∧Lays ps b2∧b=b1++b2:=by
 have h0:=h []
 rw [lays_cons] at h0
 cases hp:layP p with
 | error e =>
  rw [show lay1 (.ok []) p=.error (e,0) by unfold lay1;simp only [hp];rfl,lays_error] at h0
  cases h0
 | ok b1 =>
  rw [show lay1 (.ok []) p=.ok ([]++b1) by unfold lay1;simp only [hp]] at h0
  obtain ⟨b2,h1,h2⟩:=lays_base h0
  exact ⟨b1,b2,rfl,h2,by simpa using h1⟩
theorem Lays.append {ps qs:List Prt}:∀ {b:List Nat},Lays (ps++qs) b→∃ b1 b2,Lays ps b1∧Lays qs b2∧b=b1++b2:=by
 induction ps with
 | nil=>intro b h;exact ⟨[],b,fun o=>by rw [lays_nil,List.append_nil],h,rfl⟩
 | cons p ps ih =>
  intro b h
  obtain ⟨b1,b2,h1,h2,rfl⟩:=Lays.cons h
  obtain ⟨b3,b4,h3,h4,rfl⟩:=ih h2
  refine ⟨b1++b3,b4,fun o=>?_,h4,by rw [List.append_assoc]⟩
  rw [lays_cons,show lay1 (.ok o) p=.ok (o++b1) by unfold lay1;simp only [h1],h3,List.append_assoc]
theorem Lays.nil_eq {b:List Nat} (h:Lays [] b):b=[]:=by
 have:=h []
 rw [lays_nil] at this
 injection this with this
 simpa using this.symm
def Gives {α:Type} (f:Rdr α) (v:α) (ps:List Prt):Prop:=∀ bs a b,Lays ps b→(bs.drop a).take b.length=b→a+b.length≤bs.length→f bs (.ok a)=(v,.ok (a+b.length))
theorem Gives.pure {α:Type} (v:α):Gives (fun _ st=>(v,st)) v []:=fun bs a b h _ _=>by rw [Lays.nil_eq h];rfl
theorem Lays.one {p:Prt} {b:List Nat} (h:Lays [p] b):layP p=.ok b:=by
 obtain ⟨b1,b2,h1,h2,rfl⟩:=Lays.cons h
 rw [Lays.nil_eq h2,List.append_nil]
 exact h1
structure Ans where
 out:Int
 value:Rat
 point:List Rat
structure Rng where
 hasLo:Bool
 hasHi:Bool
 lo:Rat
 hi:Rat
structure Rep where
 err:Int
 wher:List Nat
 at9:Int
 id:Int
 ans:Ans
 rng:Rng
 u0:Int
 u1:Int
 u2:Int
structure Res where
 verb:Int
 op:Int
 token:List Nat
 rep:Rep
def Ans.zero:Ans:=⟨0,0,[]⟩
def Rng.zero:Rng:=⟨false,false,0,0⟩
def Rep.zero:Rep:=⟨0,[],0,0,Ans.zero,Rng.zero,0,0,0⟩
def Res.zero:Res:=⟨0,0,[],Rep.zero⟩
theorem pick_nonneg (bs:List Nat) (lo hi:Int) (st:RS):0≤(rPick bs lo hi st).1:=by
 unfold rPick
 split <;> simp only <;> omega
theorem be8_len (n:Int):(be8 n).length=8:=by unfold be8;simp
/-! What was laid is read so. -/
def I64s (n:Int):Prop:=-9223372036854775808≤n∧n≤9223372036854775807
structure Rep.ok (p:Rep):Prop where
 at9:I64s p.at9
 u0:I64s p.u0
 u1:I64s p.u1
 u2:I64s p.u2
/-! Where an error is told. -/
def OkSt (bs:List Nat) (st:RS):Prop:=match st with
 | .ok a=>a≤bs.length
 | .error x=>x.2≤bs.length∧(x.1=90∨x.1=91∨x.1=270)
def Inb {α:Type} (f:Rdr α):Prop:=∀ bs st,B256 bs→OkSt bs st→OkSt bs (f bs st).2
theorem Inb.pure {α:Type} (v:α):Inb (fun _ st=>(v,st)):=fun _ _ _ h=>h
end Go.Proofs.YtmhainidincjhaaGreatDoor
