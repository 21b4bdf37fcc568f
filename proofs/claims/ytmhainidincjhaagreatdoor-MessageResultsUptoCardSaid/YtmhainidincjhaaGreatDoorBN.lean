/-
 What the laws stand on, part N: contracts and plain laws of NMsg, NMsg2, NMsg3, NMsg4, NMsgB, NRes, NRes2; the conditions are each law's own.
-/
import Derived.Test.YtmhainidincjhaaGreatDoorBV
import Derived.Test.YtmhainidincjhaaGreatDoorBL
set_option linter.unusedVariables false
set_option linter.unusedSimpArgs false
set_option maxRecDepth 100000
set_option maxHeartbeats 16000000
namespace Go.Proofs.YtmhainidincjhaaGreatDoor
inductive Prt where
 | num (n lo hi:Int)
 | idn (n:Int)
 | tok (t:List Nat)
 | rat (q:Rat)
 | i64 (n:Int)
 | raw (t:List Nat)
 | two (n:Int)
def be4 (n:Int):List Nat:=[(n / 16777216 % 256).toNat,(n / 65536 % 256).toNat,(n / 256 % 256).toNat,(n % 256).toNat]
def be8 (n:Int):List Nat:=(List.range 8).map fun k=>(n / 256^(7 - k) % 256).toNat
def layP:Prt→Except Int (List Nat)
 | .num n lo hi=>if n<lo∨hi<n then .error 270 else .ok [(n % 256).toNat]
 | .idn n=>if n<0∨2147483647<n then .error 270 else .ok (be4 n)
 | .tok t=>if t.length=8 then .ok t else .error 270
 | .rat q=>match encR q with
  | .ok l=>.ok l
  | .error f=>.error f.n
 | .i64 n=>.ok (be8 n)
 | .raw t=>.ok t
 | .two n=>if n<0∨65535<n then .error 270 else .ok [(n / 256 % 256).toNat,(n % 256).toNat]
theorem layP_num (n lo hi:Int):layP (.num n lo hi)=if n<lo∨hi<n then .error 270 else .ok [(n % 256).toNat]:=rfl
theorem layP_idn (n:Int):layP (.idn n)=if n<0∨2147483647<n then .error 270 else .ok (be4 n):=rfl
theorem layP_tok (t:List Nat):layP (.tok t)=if t.length=8 then .ok t else .error 270:=rfl
theorem layP_i64 (n:Int):layP (.i64 n)=.ok (be8 n):=rfl
theorem layP_two (n:Int):layP (.two n)=if n<0∨65535<n then .error 270 else .ok [(n / 256 % 256).toNat,(n % 256).toNat]:=rfl
theorem layP_raw (t:List Nat):layP (.raw t)=.ok t:=rfl
theorem layP_rat (q:Rat):layP (.rat q)=match encR q with
  | .ok l=>.ok l
  | .error f=>.error f.n:=rfl
abbrev WS:=Except (Int × Nat) (List Nat)
def lay1 (st:WS) (p:Prt):WS:=match st with
 | .error x=>.error x
 | .ok out=>match layP p with
  | .ok b=>.ok (out++b)
  | .error e=>.error (e,out.length)
def lays (st:WS) (ps:List Prt):WS:=ps.foldl lay1 st
theorem lays_nil (st:WS):lays st []=st:=rfl
theorem lays_cons (st:WS) (p:Prt) (ps:List Prt):lays st (p::ps)=lays (lay1 st p) ps:=rfl
theorem lays_append (st:WS) (ps qs:List Prt):lays st (ps++qs)=lays (lays st ps) qs:=List.foldl_append
theorem lays_error (x:Int × Nat) (ps:List Prt):lays (.error x) ps=.error x:=by
 induction ps with
 | nil=>rfl
 | cons p ps ih=>exact ih
structure Ent where
 id:Int
 v:Rat
structure Qst where
 op:Int
 row:Int
 col:Int
 kind:Int
 v:Rat
 es:List Ent
structure Msg where
 verb:Int
 token:List Nat
 session:Int
 rights:Int
 other:List Nat
 ask:Qst
def partE (e:Ent):List Prt:=[.idn e.id,.rat e.v]
def partsE (es:List Ent):List Prt:=.num es.length 0 64::es.flatMap partE
def partsQ (q:Qst):List Prt:=.num q.op 1 12 ::
  (if q.op=1 then .num q.kind 0 3::.rat q.v::partsE q.es
   else if q.op=2 then .rat q.v::partsE q.es
   else if q.op=5 then [.idn q.row,.idn q.col,.rat q.v]
   else if q.op=7 then [.idn q.col,.rat q.v]
   else if q.op=6 then [.idn q.row,.rat q.v]
   else if q.op=8 then [.num q.kind 0 3,.idn q.row]
   else if q.op=3∨q.op=11 then [.idn q.row]
   else if q.op=4∨q.op=10 then [.idn q.col]
   else [])
def partsM (m:Msg):List Prt:=.num m.verb 1 5::.tok m.token ::
  (if m.verb=1 then .idn m.session::partsQ m.ask
   else if m.verb=3 then [.idn m.session]
   else if m.verb=4 then [.num m.rights 0 255]
   else if m.verb=5 then [.tok m.other]
   else [])
def encM (m:Msg):WS:=lays (.ok []) (partsM m)
abbrev RS:=Except (Int × Nat) Nat
def rNext (bs:List Nat) (n:Nat) (st:RS):List Nat × RS:=match st with
 | .error x=>(List.replicate n 0,.error x)
 | .ok a=>if bs.length - a<n then (List.replicate n 0,.error (90,a)) else ((bs.drop a).take n,.ok (a+n))
def rPick (bs:List Nat) (lo hi:Int) (st:RS):Int × RS:=match rNext bs 1 st with
 | (b,.error x)=>((b.headD 0:Nat),.error x)
 | (b,.ok a)=>((b.headD 0:Nat),if ((b.headD 0:Nat):Int)<lo∨hi<((b.headD 0:Nat):Int) then .error (270,a - 1) else .ok a)
def un4 (b:List Nat):Int:=(((b.getD 0 0 % 128*256+b.getD 1 0)*256+b.getD 2 0)*256+b.getD 3 0:Nat)
def rId (bs:List Nat) (st:RS):Int × RS:=match rNext bs 4 st with
 | (b,.error x)=>(un4 b,.error x)
 | (b,.ok a)=>(un4 b,if 127<b.getD 0 0 then .error (270,a - 4) else .ok a)
def wrapI (n:Nat):Int:=if n<9223372036854775808 then (n:Int) else (n:Int) - 18446744073709551616
def rInt (bs:List Nat) (st:RS):Int × RS:=(wrapI (undig 256 (rNext bs 8 st).1),(rNext bs 8 st).2)
def rTok (bs:List Nat) (st:RS):List Nat × RS:=rNext bs 8 st
def rRat (bs:List Nat) (st:RS):Rat × RS:=match st with
 | .error x=>(0,.error x)
 | .ok a=>match decR (bs.drop a) with
  | .ok (q,n)=>(q,.ok (a+n))
  | .error f=>(0,.error (f.n,a))
def rEnd (bs:List Nat) (st:RS):Option (Int × Nat):=match st with
 | .error x=>some x
 | .ok a=>if a=bs.length then none else some (270,a)
def Qst.zero:Qst:=⟨0,0,0,0,0,[]⟩
def Msg.zero:Msg:=⟨0,[],0,0,[],Qst.zero⟩
/-! A reader that is in order stands on what its parts lay: 'Took bs st p st'': if the state behind is in order, so was the one ahead, and the part's bytes stand between. -/
def Took (bs:List Nat) (st:RS) (p:Prt) (st':RS):Prop:=∀ c,st'=.ok c→∃ a b,st=.ok a∧layP p=.ok b∧c=a+b.length∧c≤bs.length∧(bs.drop a).take b.length=b
def TookAll (bs:List Nat) (st:RS) (ps:List Prt) (st':RS):Prop:=∀ c,st'=.ok c→∃ a b,st=.ok a∧(∀ out,lays (.ok out) ps=.ok (out++b))∧c=a+b.length∧(ps=[]∨c≤bs.length)∧(bs.drop a).take b.length=b
theorem TookAll.nil (bs:List Nat) (st:RS):TookAll bs st [] st:=fun c h=>⟨c,[],h,fun out=>by rw [lays_nil,List.append_nil],rfl,.inl rfl,rfl⟩
theorem take_join {bs:List Nat} {a:Nat} {b d:List Nat} (h1:(bs.drop a).take b.length=b) (h2:(bs.drop (a+b.length)).take d.length=d):(bs.drop a).take (b++d).length=b++d:=by
 rw [List.length_append,List.take_add,List.drop_drop,h1,h2]
theorem TookAll.cons {bs:List Nat} {s0 s1 s2:RS} {p:Prt} {ps:List Prt} (h:Took bs s0 p s1) (hs:TookAll bs s1 ps s2):TookAll bs s0 (p::ps) s2:=fun c hc=>by
 obtain ⟨a1,b1,e1,l1,c1,d1,t1⟩:=hs c hc
 obtain ⟨a0,b0,e0,l0,c0,d0,t0⟩:=h a1 e1
 refine ⟨a0,b0++b1,e0,fun out=>?_,by rw [List.length_append];omega,.inr ?_,take_join t0 (by rw [← c0];exact t1)⟩
 ·
  rw [lays_cons,show lay1 (.ok out) p=.ok (out++b0) by unfold lay1;simp only [l0],l1,List.append_assoc]
 ·
  rcases d1 with rfl | d1
  ·
   have:=l1 []
   rw [lays_nil] at this
   injection this with this
   have hb1:b1=[]:=by simpa using this.symm
   subst hb1
   simp at c1
   omega
  ·
   exact d1
theorem TookAll.append {bs:List Nat} {s0 s1 s2:RS} {ps qs:List Prt} (h:TookAll bs s0 ps s1) (hs:TookAll bs s1 qs s2):TookAll bs s0 (ps++qs) s2:=fun c hc=>by
 obtain ⟨a1,b1,e1,l1,c1,d1,t1⟩:=hs c hc
 obtain ⟨a0,b0,e0,l0,c0,d0,t0⟩:=h a1 e1
 refine ⟨a0,b0++b1,e0,fun out=>?_,by rw [List.length_append];omega,?_,take_join t0 (by rw [← c0];exact t1)⟩
 ·
  rw [lays_append,l0,l1,List.append_assoc]
 ·
  rcases d1 with rfl | d1
  ·
   have h2:=l1 []
   rw [lays_nil] at h2
   injection h2 with h2
   have hb1:b1=[]:=by simpa using h2.symm
   subst hb1
   simp at c1
   rcases d0 with rfl | d0
   ·
    exact .inl rfl
   ·
    exact .inr (by omega)
  ·
   exact .inr d1
def B256 (bs:List Nat):Prop:=∀ x,x∈bs→x<256
theorem B256.drop {bs:List Nat} (h:B256 bs) (a:Nat):B256 (bs.drop a):=fun x hx=>h x (List.mem_of_mem_drop hx)
theorem B256.take {bs:List Nat} (h:B256 bs) (a:Nat):B256 (bs.take a):=fun x hx=>h x (List.mem_of_mem_take hx)
theorem TookAll.one {bs:List Nat} {s0 s1:RS} {p:Prt} (h:Took bs s0 p s1):TookAll bs s0 [p] s1:=TookAll.cons h (TookAll.nil bs s1)
abbrev Rdr (α:Type):=List Nat→RS→α × RS
structure Good {α:Type} (f:Rdr α):Prop where
 ext:∀ bs ys a v c,B256 bs→f bs (.ok a)=(v,.ok c)→f (bs++ys) (.ok a)=(v,.ok c)
 pre:∀ bs k a v c,B256 bs→k≤bs.length→f bs (.ok a)=(v,.ok c)→c≤k→f (bs.take k) (.ok a)=(v,.ok c)
 cut:∀ bs k a v c,B256 bs→k≤bs.length→f bs (.ok a)=(v,.ok c)→k<c→a≤k→∃ x,(f (bs.take k) (.ok a)).2=.error (90,x)
 err:∀ bs x,(f bs (.error x)).2=.error x
 mono:∀ bs a v c,B256 bs→f bs (.ok a)=(v,.ok c)→a≤c
def bnd {α β:Type} (f:Rdr α) (g:α→Rdr β):Rdr β:=fun bs st=>g (f bs st).1 bs (f bs st).2
theorem Good.pure {α:Type} (v:α):Good (fun _ st=>(v,st)) :=
 ⟨fun bs ys a v' c _ h=>h,fun bs k a v' c _ hk h hc=>h,fun bs k a v' c _ hk h hc ha=>by injection h with h1 h2;injection h2 with h2;omega,fun bs x=>rfl,fun bs a v' c _ h=>by injection h with h1 h2;injection h2 with h2;omega⟩
theorem bnd_ok {α β:Type} {f:Rdr α} {g:α→Rdr β} (hf:Good f) (hg:∀ v,Good (g v)) {bs:List Nat} {a c:Nat} {v:β} (h:bnd f g bs (.ok a)=(v,.ok c)):∃ u m,f bs (.ok a)=(u,.ok m)∧g u bs (.ok m)=(v,.ok c):=by
 unfold bnd at h
 cases hx:f bs (.ok a) with
 | mk u st =>
  rw [hx] at h
  cases st with
  | error x =>
   have h1:=(hg u).err bs x
   simp only at h
   rw [h] at h1
   cases h1
  | ok m=>exact ⟨u,m,rfl,h⟩
theorem bnd_eq {α β:Type} {f:Rdr α} {g:α→Rdr β} {bs:List Nat} {a m:Nat} {u:α} (h:f bs (.ok a)=(u,.ok m)):bnd f g bs (.ok a)=g u bs (.ok m):=by unfold bnd;rw [h]
theorem Good.bnd {α β:Type} {f:Rdr α} {g:α→Rdr β} (hf:Good f) (hg:∀ v,Good (g v)):Good (bnd f g):=by
 refine ⟨fun bs ys a v c hb h=>?_,fun bs k a v c hb hk h hc=>?_,fun bs k a v c hb hk h hc ha=>?_,fun bs x=>?_,fun bs a v c hb h=>?_⟩
 ·
  obtain ⟨u,m,h1,h2⟩:=bnd_ok hf hg h
  rw [bnd_eq (hf.ext bs ys a u m hb h1)]
  exact (hg u).ext bs ys m v c hb h2
 ·
  obtain ⟨u,m,h1,h2⟩:=bnd_ok hf hg h
  have:=(hg u).mono bs m v c hb h2
  rw [bnd_eq (hf.pre bs k a u m hb hk h1 (by omega))]
  exact (hg u).pre bs k m v c hb hk h2 hc
 ·
  obtain ⟨u,m,h1,h2⟩:=bnd_ok hf hg h
  by_cases hm:m≤k
  ·
   rw [bnd_eq (hf.pre bs k a u m hb hk h1 hm)]
   exact (hg u).cut bs k m v c hb hk h2 hc hm
  ·
   obtain ⟨x,hx⟩:=hf.cut bs k a u m hb hk h1 (by omega) ha
   refine ⟨x,?_⟩
   unfold Go.Proofs.YtmhainidincjhaaGreatDoor.bnd
   rw [hx]
   exact (hg _).err _ _
 ·
  unfold Go.Proofs.YtmhainidincjhaaGreatDoor.bnd
  rw [hf.err bs x]
  exact (hg _).err _ _
 ·
  obtain ⟨u,m,h1,h2⟩:=bnd_ok hf hg h
  have:=(hg u).mono bs m v c hb h2
  have:=hf.mono bs a u m hb h1
  omega
def Lays (ps:List Prt) (b:List Nat):Prop:=∀ out,lays (.ok out) ps=.ok (out++b)
theorem lays_base {ps:List Prt}:∀ {out r:List Nat},lays (.ok out) ps=.ok r→∃ b,r=out++b∧Lays ps b:=by
 induction ps with
 | nil=>intro out r h;injection h with h;exact ⟨[],by rw [← h,List.append_nil],fun o=>by rw [lays_nil,List.append_nil]⟩
 | cons p ps ih =>
  intro out r h
  rw [lays_cons] at h
  cases hp:layP p with
  | error e =>
   rw [show lay1 (.ok out) p=.error (e,out.length) by unfold lay1;simp only [hp],lays_error] at h
   cases h
  | ok b1 =>
   rw [show lay1 (.ok out) p=.ok (out++b1) by unfold lay1;simp only [hp]] at h
   obtain ⟨b2,h1,h2⟩:=ih h
   refine ⟨b1++b2,by rw [h1,List.append_assoc],fun o=>?_⟩
   rw [lays_cons,show lay1 (.ok o) p=.ok (o++b1) by unfold lay1;simp only [hp],h2,List.append_assoc]
theorem Lays.cons {p:Prt} {ps:List Prt} {b:List Nat} (h:Lays (p::ps) b):∃ b1 b2,layP p=.ok b1∧Lays ps b2∧b=b1++b2:=by
 have h0:=h []
 rw [lays_cons] at h0
 cases hp:layP p with
 | error e =>
  rw [show lay1 (.ok []) p=.error (e,0) by unfold lay1;simp only [hp];rfl,lays_error] at h0
  cases h0
 | ok b1 =>
  rw [show lay1 (.ok []) p=.ok ([]++b1) by unfold lay1;simp only [hp]] at h0
  obtain ⟨b2,h1,h2⟩:=lays_base h0
  exact ⟨b1,b2,rfl,h2,by simpa using h1⟩
theorem Lays.append {ps qs:List Prt}:∀ {b:List Nat},Lays (ps++qs) b→∃ b1 b2,Lays ps b1∧Lays qs b2∧b=b1++b2:=by
 induction ps with
 | nil=>intro b h;exact ⟨[],b,fun o=>by rw [lays_nil,List.append_nil],h,rfl⟩
 | cons p ps ih =>
  intro b h
  obtain ⟨b1,b2,h1,h2,rfl⟩:=Lays.cons h
  obtain ⟨b3,b4,h3,h4,rfl⟩:=ih h2
  refine ⟨b1++b3,b4,fun o=>?_,h4,by rw [List.append_assoc]⟩
  rw [lays_cons,show lay1 (.ok o) p=.ok (o++b1) by unfold lay1;simp only [h1],h3,List.append_assoc]
theorem Lays.nil_eq {b:List Nat} (h:Lays [] b):b=[]:=by
 have:=h []
 rw [lays_nil] at this
 injection this with this
 simpa using this.symm
def Gives {α:Type} (f:Rdr α) (v:α) (ps:List Prt):Prop:=∀ bs a b,Lays ps b→(bs.drop a).take b.length=b→a+b.length≤bs.length→f bs (.ok a)=(v,.ok (a+b.length))
theorem Gives.pure {α:Type} (v:α):Gives (fun _ st=>(v,st)) v []:=fun bs a b h _ _=>by rw [Lays.nil_eq h];rfl
theorem take_two {bs:List Nat} {a:Nat} {b1 b2:List Nat} (h:(bs.drop a).take (b1++b2).length=b1++b2):(bs.drop a).take b1.length=b1∧(bs.drop (a+b1.length)).take b2.length=b2:=by
 rw [List.length_append,List.take_add] at h
 have hl:((bs.drop a).take b1.length).length=b1.length:=by
  have:=congrArg List.length h
  rw [List.length_append,List.length_append] at this
  have h1:((bs.drop a).take b1.length).length≤b1.length:=by rw [List.length_take];omega
  have h2:(((bs.drop a).drop b1.length).take b2.length).length≤b2.length:=by rw [List.length_take];omega
  omega
 obtain ⟨h1,h2⟩:=List.append_inj h hl
 rw [List.drop_drop] at h2
 exact ⟨h1,h2⟩
theorem Gives.bnd {α β:Type} {f:Rdr α} {g:α→Rdr β} {u:α} {v:β} {ps qs:List Prt} (hf:Gives f u ps) (hg:Gives (g u) v qs):Gives (bnd f g) v (ps++qs):=fun bs a b h ht hl=>by
 obtain ⟨b1,b2,h1,h2,rfl⟩:=Lays.append h
 obtain ⟨t1,t2⟩:=take_two ht
 rw [List.length_append] at hl ⊢
 rw [bnd_eq (hf bs a b1 h1 t1 (by omega)),hg bs (a+b1.length) b2 h2 t2 (by omega),Nat.add_assoc]
theorem Lays.one {p:Prt} {b:List Nat} (h:Lays [p] b):layP p=.ok b:=by
 obtain ⟨b1,b2,h1,h2,rfl⟩:=Lays.cons h
 rw [Lays.nil_eq h2,List.append_nil]
 exact h1
theorem next_gives {bs:List Nat} {a:Nat} {b:List Nat} (ht:(bs.drop a).take b.length=b) (hl:a+b.length≤bs.length):rNext bs b.length (.ok a)=(b,.ok (a+b.length)):=by
 unfold rNext
 simp only
 rw [if_neg (by omega),ht]
theorem pick_gives {n lo hi:Int} (h0:0≤lo) (h1:hi≤255):Gives (fun bs st=>rPick bs lo hi st) n [.num n lo hi]:=fun bs a b h ht hl=>by
 have hp:=Lays.one h
 rw [layP_num] at hp
 by_cases hc:n<lo∨hi<n
 ·
  rw [if_pos hc] at hp;cases hp
 rw [if_neg hc] at hp
 injection hp with hp
 have hn:=next_gives ht hl
 rw [show b.length=1 by rw [← hp];rfl] at hn ⊢
 have hv:((b.headD 0:Nat):Int)=n:=by rw [← hp];show (((n % 256).toNat:Nat):Int)=n;omega
 unfold rPick
 simp only [hn]
 rw [hv]
 exact Prod.ext rfl (if_neg hc)
theorem un4_be4 {n:Int} (h0:0≤n) (h1:n≤2147483647):un4 (be4 n)=n∧(be4 n).getD 0 0≤127:=by
 unfold un4 be4
 simp only [List.getD_cons_zero,List.getD_cons_succ]
 omega
theorem id_gives {n:Int}:Gives (fun bs st=>rId bs st) n [.idn n]:=fun bs a b h ht hl=>by
 have hp:=Lays.one h
 rw [layP_idn] at hp
 by_cases hc:n<0∨2147483647<n
 ·
  rw [if_pos hc] at hp;cases hp
 rw [if_neg hc] at hp
 injection hp with hp
 obtain ⟨e1,e2⟩:=un4_be4 (n:=n) (by omega) (by omega)
 have hn:=next_gives ht hl
 rw [show b.length=4 by rw [← hp];rfl] at hn ⊢
 unfold rId
 simp only [hn]
 rw [← hp,e1]
 exact Prod.ext rfl (if_neg (by omega))
theorem tok_gives {t:List Nat}:Gives (fun bs st=>rTok bs st) t [.tok t]:=fun bs a b h ht hl=>by
 have hp:=Lays.one h
 rw [layP_tok] at hp
 by_cases hc:t.length=8
 ·
  rw [if_pos hc] at hp
  injection hp with hp
  subst hp
  have hn:=next_gives ht hl
  unfold rTok
  rw [← hc]
  exact hn
 ·
  rw [if_neg hc] at hp;cases hp
theorem rat_gives {q:Rat}:Gives (fun bs st=>rRat bs st) q [.rat q]:=fun bs a b h ht hl=>by
 have hp:=Lays.one h
 rw [layP_rat] at hp
 cases he:encR q with
 | error f=>rw [he] at hp;cases hp
 | ok l =>
  rw [he] at hp
  injection hp with hp
  subst hp
  have h1:=dec_enc he ((bs.drop a).drop l.length)
  rw [show l++(bs.drop a).drop l.length=bs.drop a by conv=>rhs;rw [← List.take_append_drop l.length (bs.drop a),ht]] at h1
  unfold rRat
  simp only [h1]
structure Ans where
 out:Int
 value:Rat
 point:List Rat
structure Rng where
 hasLo:Bool
 hasHi:Bool
 lo:Rat
 hi:Rat
structure Rep where
 err:Int
 wher:List Nat
 at9:Int
 id:Int
 ans:Ans
 rng:Rng
 u0:Int
 u1:Int
 u2:Int
structure Res where
 verb:Int
 op:Int
 token:List Nat
 rep:Rep
def Ans.zero:Ans:=⟨0,0,[]⟩
def Rng.zero:Rng:=⟨false,false,0,0⟩
def Rep.zero:Rep:=⟨0,[],0,0,Ans.zero,Rng.zero,0,0,0⟩
def Res.zero:Res:=⟨0,0,[],Rep.zero⟩
def flg (b:Bool) (n:Int):Int:=if b then n else 0
def partsA (a:Ans):List Prt:=.num a.out 1 3::(if a.out=1 then .rat a.value::.num a.point.length 0 64::a.point.map .rat else [])
def partsG (x:Rng):List Prt:=.num (flg x.hasLo 1+flg x.hasHi 2) 0 3::((if x.hasLo=true then [.rat x.lo] else [])++(if x.hasHi=true then [.rat x.hi] else []))
def partsT (op:Int) (p:Rep):List Prt:=.num op 1 12 ::
  (if op=1∨op=2 then [.idn p.id]
   else if op=9 then partsA p.ans
   else if op=10∨op=11 then partsG p.rng
   else if op=12 then [.i64 p.u0,.i64 p.u1,.i64 p.u2]
   else [])
def partsV (x:Res):List Prt:=.num x.verb 1 5 ::
  (if x.verb=1 then partsT x.op x.rep
   else if x.verb=2 then [.idn x.rep.id]
   else if x.verb=4 then [.tok x.token]
   else [])
def partsF (p:Rep):List Prt:=[.num p.wher.length 0 255,.raw p.wher,.i64 p.at9]
def partsX (x:Res):List Prt:=.two x.rep.err::(if x.rep.err=0 then partsV x else partsF x.rep)
def encX (x:Res):WS:=lays (.ok []) (partsX x)
def un2 (b:List Nat):Int:=((b.getD 0 0*256+b.getD 1 0:Nat):Int)
def rTwo (bs:List Nat) (st:RS):Int × RS:=(un2 (rNext bs 2 st).1,(rNext bs 2 st).2)
def rRats (bs:List Nat):Nat→RS→List Rat→List Rat × RS
 | 0,st,acc=>(acc,st)
 | k+1,st,acc=>rRats bs k (rRat bs st).2 (acc++[(rRat bs st).1])
def rPoint (bs:List Nat) (st:RS):List Rat × RS:=rRats bs (rPick bs 0 64 st).1.toNat (rPick bs 0 64 st).2 []
def rAnsBody (bs:List Nat) (out:Int) (st:RS):Ans × RS :=
 if out=1 then
  let v:=rRat bs st;let p:=rPoint bs v.2
  (⟨out,v.1,p.1⟩,p.2)
 else (⟨out,0,[]⟩,st)
def rAns (bs:List Nat) (st:RS):Ans × RS:=rAnsBody bs (rPick bs 1 3 st).1 (rPick bs 1 3 st).2
def rIf (b:Bool) (bs:List Nat) (st:RS):Rat × RS:=if b=true then rRat bs st else (0,st)
def rRngBody (bs:List Nat) (n:Int) (st:RS):Rng × RS :=
 let l:=rIf (decide (n % 2=1)) bs st;let h:=rIf (decide (n / 2 % 2=1)) bs l.2
 (⟨decide (n % 2=1),decide (n / 2 % 2=1),l.1,h.1⟩,h.2)
def rRng (bs:List Nat) (st:RS):Rng × RS:=rRngBody bs (rPick bs 0 3 st).1 (rPick bs 0 3 st).2
def rTldBody (bs:List Nat) (op:Int) (st:RS):(Int × Rep) × RS :=
 if op=1∨op=2 then
  let i:=rId bs st
  ((op,{ Rep.zero with id:=i.1 }),i.2)
 else if op=9 then
  let a:=rAns bs st
  ((op,{ Rep.zero with ans:=a.1 }),a.2)
 else if op=10∨op=11 then
  let g:=rRng bs st
  ((op,{ Rep.zero with rng:=g.1 }),g.2)
 else if op=12 then
  let a:=rInt bs st;let b:=rInt bs a.2;let c:=rInt bs b.2
  ((op,{ Rep.zero with u0:=a.1,u1:=b.1,u2:=c.1 }),c.2)
 else ((op,Rep.zero),st)
def rTld (bs:List Nat) (st:RS):(Int × Rep) × RS:=rTldBody bs (rPick bs 1 12 st).1 (rPick bs 1 12 st).2
def rVBody (bs:List Nat) (verb:Int) (st:RS):Res × RS :=
 if verb=1 then
  let t:=rTld bs st
  (⟨verb,t.1.1,[],t.1.2⟩,t.2)
 else if verb=2 then
  let i:=rId bs st
  (⟨verb,0,[],{ Rep.zero with id:=i.1 }⟩,i.2)
 else if verb=4 then
  let t:=rTok bs st
  (⟨verb,0,t.1,Rep.zero⟩,t.2)
 else (⟨verb,0,[],Rep.zero⟩,st)
def rV (bs:List Nat) (st:RS):Res × RS:=rVBody bs (rPick bs 1 5 st).1 (rPick bs 1 5 st).2
def rRaw (n:Nat) (bs:List Nat) (st:RS):List Nat × RS:=rNext bs n st
def rF (err:Int) (bs:List Nat) (st:RS):Res × RS :=
 let n:=rPick bs 0 255 st;let t:=rRaw n.1.toNat bs n.2;let i:=rInt bs t.2
 (⟨0,0,[],{ Rep.zero with err:=err,wher:=t.1,at9:=i.1 }⟩,i.2)
def rXBody (bs:List Nat) (err:Int) (st:RS):Res × RS:=if err=0 then rV bs st else rF err bs st
def rX (bs:List Nat) (st:RS):Res × RS:=rXBody bs (rTwo bs st).1 (rTwo bs st).2
def decX (bs:List Nat):Except (Int × Nat) Res:=match rEnd bs (rX bs (.ok 0)).2 with
 | some x=>.error x
 | none=>.ok (rX bs (.ok 0)).1
theorem len2 {l:List Nat} (h:l.length=2):∃ x y,l=[x,y]:=by
 match l,h with
 | [x,y],_=>exact ⟨x,y,rfl⟩
theorem pick_nonneg (bs:List Nat) (lo hi:Int) (st:RS):0≤(rPick bs lo hi st).1:=by
 unfold rPick
 split <;> simp only <;> omega
theorem be8_len (n:Int):(be8 n).length=8:=by unfold be8;simp
def rXAt:Rdr Res:=fun bs st=>rX bs st
/-! What was laid is read so. -/
theorem two_gives {n:Int}:Gives (fun bs st=>rTwo bs st) n [.two n]:=fun bs a b h ht hl=>by
 have hp:=Lays.one h
 rw [layP_two] at hp
 by_cases hc:n<0∨65535<n
 ·
  rw [if_pos hc] at hp;cases hp
 rw [if_neg hc] at hp
 injection hp with hp
 have hn:=next_gives ht hl
 rw [show b.length=2 by rw [← hp];rfl] at hn ⊢
 show (un2 (rNext bs 2 (.ok a)).1,(rNext bs 2 (.ok a)).2)=_
 rw [hn]
 refine Prod.ext ?_ rfl
 show un2 b=n
 rw [← hp]
 unfold un2
 simp only [List.getD_cons_zero,List.getD_cons_succ]
 omega
theorem be8_nat (n:Int) (m:Nat) (hm:(m:Int)=n % 18446744073709551616):be8 n=[m / 72057594037927936 % 256,m / 281474976710656 % 256,m / 1099511627776 % 256,m / 4294967296 % 256,m / 16777216 % 256,m / 65536 % 256,m / 256 % 256,m % 256]:=by
 unfold be8
 rw [show List.range 8=[0,1,2,3,4,5,6,7] from rfl]
 simp only [List.map_cons,List.map_nil,List.cons.injEq,and_true]
 refine ⟨?_,?_,?_,?_,?_,?_,?_,?_⟩ <;> omega
theorem un8_be8 {n:Int} (h0:-9223372036854775808≤n) (h1:n≤9223372036854775807):wrapI (undig 256 (be8 n))=n:=by
 obtain ⟨m,hm⟩:∃ m:Nat,(m:Int)=n % 18446744073709551616:=⟨(n % 18446744073709551616).toNat,by omega⟩
 have hu:undig 256 (be8 n)=m:=by
  rw [be8_nat n m hm]
  unfold undig
  simp only [List.foldl_cons,List.foldl_nil]
  omega
 rw [hu]
 unfold wrapI
 split <;> omega
theorem int_gives {n:Int} (h0:-9223372036854775808≤n) (h1:n≤9223372036854775807):Gives (fun bs st=>rInt bs st) n [.i64 n]:=fun bs a b h ht hl=>by
 have hp:=Lays.one h
 rw [layP_i64] at hp
 injection hp with hp
 have hn:=next_gives ht hl
 rw [show b.length=8 by rw [← hp,be8_len]] at hn ⊢
 show (wrapI (undig 256 (rNext bs 8 (.ok a)).1),(rNext bs 8 (.ok a)).2)=_
 rw [hn]
 refine Prod.ext ?_ rfl
 show wrapI (undig 256 b)=n
 rw [← hp,un8_be8 h0 h1]
theorem raw_gives {t:List Nat}:Gives (fun bs st=>rRaw t.length bs st) t [.raw t]:=fun bs a b h ht hl=>by
 have hp:=Lays.one h
 rw [layP_raw] at hp
 injection hp with hp
 subst hp
 exact next_gives ht hl
theorem rats_gives (qs:List Rat):∀ acc,Gives (fun bs st=>rRats bs qs.length st acc) (acc++qs) (qs.map Prt.rat):=by
 induction qs with
 | nil=>intro acc;rw [List.append_nil];exact Gives.pure acc
 | cons q qs ih =>
  intro acc bs a b h ht hl
  have h1:Gives (bnd (fun bs st=>rRat bs st) fun q=>fun bs st=>rRats bs qs.length st (acc++[q])) (acc++[q]++qs) ([Prt.rat q]++qs.map Prt.rat):=Gives.bnd rat_gives (ih (acc++[q]))
  have h2:=h1 bs a b h ht hl
  rw [List.append_assoc] at h2
  exact h2
theorem point_gives {qs:List Rat}:Gives (fun bs st=>rPoint bs st) qs (.num qs.length 0 64::qs.map Prt.rat):=by
 have h:=Gives.bnd (g:=fun (n:Int) bs st=>rRats bs n.toNat st []) (pick_gives (n:=(qs.length:Int)) (lo:=0) (hi:=64) (by omega) (by omega)) (by
  show Gives (fun bs st=>rRats bs ((qs.length:Int)).toNat st []) qs (qs.map Prt.rat)
  rw [Int.toNat_natCast]
  exact rats_gives qs [])
 exact h
def Ans.norm (a:Ans):Ans:=if a.out=1 then a else ⟨a.out,0,[]⟩
theorem ans_gives (a:Ans):Gives (fun bs st=>rAns bs st) a.norm (partsA a):=by
 refine Gives.bnd (g:=fun out bs st=>rAnsBody bs out st) (ps:=[.num a.out 1 3]) (qs:=if a.out=1 then .rat a.value::.num a.point.length 0 64::a.point.map .rat else []) (pick_gives (n:=a.out) (by omega) (by omega)) ?_
 unfold rAnsBody Ans.norm
 by_cases h0:a.out=1
 ·
  simp only [if_pos h0]
  have e:Gives (bnd (fun bs st=>rRat bs st) fun v=>bnd (fun bs st=>rPoint bs st) fun p=>fun _ st=>((⟨a.out,v,p⟩:Ans),st)) ⟨a.out,a.value,a.point⟩ ([Prt.rat a.value]++((Prt.num a.point.length 0 64::a.point.map Prt.rat)++[])):=Gives.bnd rat_gives (Gives.bnd point_gives (Gives.pure _))
  rw [List.append_nil] at e
  exact e
 ·
  simp only [if_neg h0]
  exact Gives.pure _
theorem if_gives (b:Bool) (q:Rat):Gives (fun bs st=>rIf b bs st) (if b=true then q else 0) (if b=true then [.rat q] else []):=by
 unfold rIf
 cases b
 ·
  exact Gives.pure (0:Rat)
 ·
  exact rat_gives
def Rng.norm (x:Rng):Rng:=⟨x.hasLo,x.hasHi,if x.hasLo=true then x.lo else 0,if x.hasHi=true then x.hi else 0⟩
theorem rng_gives (x:Rng):Gives (fun bs st=>rRng bs st) x.norm (partsG x):=by
 refine Gives.bnd (g:=fun n bs st=>rRngBody bs n st) (ps:=[.num (flg x.hasLo 1+flg x.hasHi 2) 0 3]) (qs:=(if x.hasLo=true then [.rat x.lo] else [])++(if x.hasHi=true then [.rat x.hi] else [])) (pick_gives (by omega) (by omega)) ?_
 have e1:decide ((flg x.hasLo 1+flg x.hasHi 2) % 2=1)=x.hasLo:=by cases x.hasLo <;> cases x.hasHi <;> rfl
 have e2:decide ((flg x.hasLo 1+flg x.hasHi 2) / 2 % 2=1)=x.hasHi:=by cases x.hasLo <;> cases x.hasHi <;> rfl
 unfold rRngBody Rng.norm
 simp only [e1,e2]
 have e:Gives (bnd (fun bs st=>rIf x.hasLo bs st) fun l=>bnd (fun bs st=>rIf x.hasHi bs st) fun h=>fun _ st=>((⟨x.hasLo,x.hasHi,l,h⟩:Rng),st)) ⟨x.hasLo,x.hasHi,if x.hasLo=true then x.lo else 0,if x.hasHi=true then x.hi else 0⟩ ((if x.hasLo=true then [Prt.rat x.lo] else [])++((if x.hasHi=true then [Prt.rat x.hi] else [])++[])):=Gives.bnd (if_gives _ _) (Gives.bnd (if_gives _ _) (Gives.pure _))
 rw [List.append_nil] at e
 exact e
def Rep.norm (op:Int) (p:Rep):Rep :=
 if op=1∨op=2 then { Rep.zero with id:=p.id }
 else if op=9 then { Rep.zero with ans:=p.ans.norm }
 else if op=10∨op=11 then { Rep.zero with rng:=p.rng.norm }
 else if op=12 then { Rep.zero with u0:=p.u0,u1:=p.u1,u2:=p.u2 }
 else Rep.zero
def I64s (n:Int):Prop:=-9223372036854775808≤n∧n≤9223372036854775807
structure Rep.ok (p:Rep):Prop where
 at9:I64s p.at9
 u0:I64s p.u0
 u1:I64s p.u1
 u2:I64s p.u2
theorem tld_gives (op:Int) (p:Rep) (hp:p.ok):Gives (fun bs st=>rTld bs st) (op,p.norm op) (partsT op p):=by
  refine Gives.bnd (g:=fun op bs st=>rTldBody bs op st) (ps:=[.num op 1 12]) (qs:=if op=1∨op=2 then [.idn p.id]
   else if op=9 then partsA p.ans
   else if op=10∨op=11 then partsG p.rng
   else if op=12 then [.i64 p.u0,.i64 p.u1,.i64 p.u2]
   else []) (pick_gives (n:=op) (by omega) (by omega)) ?_
  unfold rTldBody Rep.norm
  by_cases h0:op=1∨op=2
  · simp only [if_pos h0]
    have e:Gives (bnd (fun bs st=>rId bs st) fun i=>fun _ st=>(((op,{ Rep.zero with id:=i }):Int × Rep),st)) (op,{ Rep.zero with id:=p.id }) ([Prt.idn p.id]++[]):=Gives.bnd id_gives (Gives.pure _)
    exact e
  simp only [if_neg h0]
  by_cases h1:op=9
  · simp only [if_pos h1]
    have e:Gives (bnd (fun bs st=>rAns bs st) fun a=>fun _ st=>(((op,{ Rep.zero with ans:=a }):Int × Rep),st)) (op,{ Rep.zero with ans:=p.ans.norm }) (partsA p.ans++[]):=Gives.bnd (ans_gives _) (Gives.pure _)
    rw [List.append_nil] at e
    exact e
  simp only [if_neg h1]
  by_cases h2:op=10∨op=11
  · simp only [if_pos h2]
    have e:Gives (bnd (fun bs st=>rRng bs st) fun a=>fun _ st=>(((op,{ Rep.zero with rng:=a }):Int × Rep),st)) (op,{ Rep.zero with rng:=p.rng.norm }) (partsG p.rng++[]):=Gives.bnd (rng_gives _) (Gives.pure _)
    rw [List.append_nil] at e
    exact e
  simp only [if_neg h2]
  by_cases h3:op=12
  · simp only [if_pos h3]
    have e:Gives (bnd (fun bs st=>rInt bs st) fun a=>bnd (fun bs st=>rInt bs st) fun b=>bnd (fun bs st=>rInt bs st) fun c=>fun _ st=>(((op,{ Rep.zero with u0:=a,u1:=b,u2:=c }):Int × Rep),st)) (op,{ Rep.zero with u0:=p.u0,u1:=p.u1,u2:=p.u2 }) ([Prt.i64 p.u0]++([Prt.i64 p.u1]++([Prt.i64 p.u2]++[]))):=Gives.bnd (int_gives hp.u0.1 hp.u0.2) (Gives.bnd (int_gives hp.u1.1 hp.u1.2) (Gives.bnd (int_gives hp.u2.1 hp.u2.2) (Gives.pure _)))
    exact e
  simp only [if_neg h3]
  exact Gives.pure _
def Res.norm (x:Res):Res :=
  if x.rep.err=0 then
    (if x.verb=1 then ⟨x.verb,x.op,[],x.rep.norm x.op⟩
     else if x.verb=2 then ⟨x.verb,0,[],{ Rep.zero with id:=x.rep.id }⟩
     else if x.verb=4 then ⟨x.verb,0,x.token,Rep.zero⟩
     else ⟨x.verb,0,[],Rep.zero⟩)
  else ⟨0,0,[],{ Rep.zero with err:=x.rep.err,wher:=x.rep.wher,at9:=x.rep.at9 }⟩
theorem x_gives (x:Res) (hx:x.rep.ok):Gives rXAt x.norm (partsX x):=by
  refine Gives.bnd (g:=fun e bs st=>rXBody bs e st) (ps:=[.two x.rep.err]) (qs:=if x.rep.err=0 then partsV x else partsF x.rep) two_gives ?_
  unfold rXBody Res.norm
  by_cases h0:x.rep.err=0
  · simp only [if_pos h0]
    refine Gives.bnd (g:=fun v bs st=>rVBody bs v st) (ps:=[.num x.verb 1 5]) (qs:=if x.verb=1 then partsT x.op x.rep
   else if x.verb=2 then [.idn x.rep.id]
   else if x.verb=4 then [.tok x.token]
   else []) (pick_gives (n:=x.verb) (by omega) (by omega)) ?_
    unfold rVBody
    by_cases h1:x.verb=1
    · simp only [if_pos h1]
      have e:Gives (bnd (fun bs st=>rTld bs st) fun t=>fun _ st=>((⟨x.verb,t.1,[],t.2⟩:Res),st)) ⟨x.verb,x.op,[],x.rep.norm x.op⟩ (partsT x.op x.rep++[]):=Gives.bnd (tld_gives x.op x.rep hx) (Gives.pure _)
      rw [List.append_nil] at e
      exact e
    simp only [if_neg h1]
    by_cases h2:x.verb=2
    · simp only [if_pos h2]
      have e:Gives (bnd (fun bs st=>rId bs st) fun i=>fun _ st=>((⟨x.verb,0,[],{ Rep.zero with id:=i }⟩:Res),st)) ⟨x.verb,0,[],{ Rep.zero with id:=x.rep.id }⟩ ([Prt.idn x.rep.id]++[]):=Gives.bnd id_gives (Gives.pure _)
      exact e
    simp only [if_neg h2]
    by_cases h3:x.verb=4
    · simp only [if_pos h3]
      have e:Gives (bnd (fun bs st=>rTok bs st) fun t=>fun _ st=>((⟨x.verb,0,t,Rep.zero⟩:Res),st)) ⟨x.verb,0,x.token,Rep.zero⟩ ([Prt.tok x.token]++[]):=Gives.bnd tok_gives (Gives.pure _)
      exact e
    simp only [if_neg h3]
    exact Gives.pure _
  · simp only [if_neg h0]
    unfold rF partsF
    have e:Gives (bnd (fun bs st=>rPick bs 0 255 st) fun n=>bnd (fun bs st=>rRaw n.toNat bs st) fun t=>bnd (fun bs st=>rInt bs st) fun i=>fun _ st=>((⟨0,0,[],{ Rep.zero with err:=x.rep.err,wher:=t,at9:=i }⟩:Res),st)) ⟨0,0,[],{ Rep.zero with err:=x.rep.err,wher:=x.rep.wher,at9:=x.rep.at9 }⟩ ([Prt.num x.rep.wher.length 0 255]++([Prt.raw x.rep.wher]++([Prt.i64 x.rep.at9]++[]))) :=
      Gives.bnd (pick_gives (by omega) (by omega)) (Gives.bnd (by rw [Int.toNat_natCast];exact raw_gives) (Gives.bnd (int_gives hx.at9.1 hx.at9.2) (Gives.pure _)))
    exact e
theorem decX_enc {x:Res} (hx:x.rep.ok) {b:List Nat} (h:encX x=.ok b):decX b=.ok x.norm:=by
 obtain ⟨b',hb,hl⟩:=lays_base h
 rw [List.nil_append] at hb
 subst hb
 have h6:=x_gives x hx b 0 b hl (by rw [List.drop_zero,List.take_length]) (by omega)
 unfold decX
 rw [show rX b (.ok 0)=rXAt b (.ok 0) from rfl,h6]
 unfold rEnd
 simp only
 rw [if_pos (by omega)]
/-! Where an error is told. -/
def OkSt (bs:List Nat) (st:RS):Prop:=match st with
 | .ok a=>a≤bs.length
 | .error x=>x.2≤bs.length∧(x.1=90∨x.1=91∨x.1=270)
def Inb {α:Type} (f:Rdr α):Prop:=∀ bs st,B256 bs→OkSt bs st→OkSt bs (f bs st).2
theorem Inb.pure {α:Type} (v:α):Inb (fun _ st=>(v,st)):=fun _ _ _ h=>h
theorem Inb.bnd {α β:Type} {f:Rdr α} {g:α→Rdr β} (hf:Inb f) (hg:∀ v,Inb (g v)):Inb (bnd f g):=fun bs st hb h=>hg _ bs _ hb (hf bs st hb h)
end Go.Proofs.YtmhainidincjhaaGreatDoor
