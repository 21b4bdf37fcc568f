/-
 What the laws stand on, part N: contracts and plain laws of NMsg, NMsg2, NMsg3, NMsg4, NMsgB, NRes, NRes2; the conditions are each law's own.
-/
import Derived.Test.YtmhainidincjhaaGreatDoorKV
import Derived.Test.YtmhainidincjhaaGreatDoorKJ
import Derived.Test.YtmhainidincjhaaGreatDoorKL
set_option linter.unusedVariables false
set_option linter.unusedSimpArgs false
set_option maxRecDepth 100000
set_option maxHeartbeats 16000000
namespace Go.Proofs.YtmhainidincjhaaGreatDoor
inductive Prt where
 | num (n lo hi:Int)
 | idn (n:Int)
 | tok (t:List Nat)
 | rat (q:Rat)
 | i64 (n:Int)
 | raw (t:List Nat)
 | two (n:Int)
def be4 (n:Int):List Nat:=[(n / 16777216 % 256).toNat,(n / 65536 % 256).toNat,(n / 256 % 256).toNat,(n % 256).toNat]
def be8 (n:Int):List Nat:=(List.range 8).map fun k=>(n / 256^(7 - k) % 256).toNat
def layP:Prt→Except Int (List Nat)
 | .num n lo hi=>if n<lo∨hi<n then .error 270 else .ok [(n % 256).toNat]
 | .idn n=>if n<0∨2147483647<n then .error 270 else .ok (be4 n)
 | .tok t=>if t.length=8 then .ok t else .error 270
 | .rat q=>match encR q with
  | .ok l=>.ok l
  | .error f=>.error f.n
 | .i64 n=>.ok (be8 n)
 | .raw t=>.ok t
 | .two n=>if n<0∨65535<n then .error 270 else .ok [(n / 256 % 256).toNat,(n % 256).toNat]
theorem layP_num (n lo hi:Int):layP (.num n lo hi)=if n<lo∨hi<n then .error 270 else .ok [(n % 256).toNat]:=rfl
theorem layP_idn (n:Int):layP (.idn n)=if n<0∨2147483647<n then .error 270 else .ok (be4 n):=rfl
theorem layP_tok (t:List Nat):layP (.tok t)=if t.length=8 then .ok t else .error 270:=rfl
theorem layP_i64 (n:Int):layP (.i64 n)=.ok (be8 n):=rfl
theorem layP_two (n:Int):layP (.two n)=if n<0∨65535<n then .error 270 else .ok [(n / 256 % 256).toNat,(n % 256).toNat]:=rfl
theorem layP_raw (t:List Nat):layP (.raw t)=.ok t:=rfl
theorem layP_rat (q:Rat):layP (.rat q)=match encR q with
  | .ok l=>.ok l
  | .error f=>.error f.n:=rfl
abbrev WS:=Except (Int × Nat) (List Nat)
def lay1 (st:WS) (p:Prt):WS:=match st with
 | .error x=>.error x
 | .ok out=>match layP p with
  | .ok b=>.ok (out++b)
  | .error e=>.error (e,out.length)
def lays (st:WS) (ps:List Prt):WS:=ps.foldl lay1 st
theorem lays_nil (st:WS):lays st []=st:=rfl
theorem lays_cons (st:WS) (p:Prt) (ps:List Prt):lays st (p::ps)=lays (lay1 st p) ps:=rfl
theorem lays_append (st:WS) (ps qs:List Prt):lays st (ps++qs)=lays (lays st ps) qs:=List.foldl_append
theorem lays_error (x:Int × Nat) (ps:List Prt):lays (.error x) ps=.error x:=by
 induction ps with
 | nil=>rfl
 | cons p ps ih=>exact ih
structure Ent where
 id:Int
 v:Rat
structure Qst where
 op:Int
 row:Int
 col:Int
 kind:Int
 v:Rat
 es:List Ent
structure Msg where
 verb:Int
 token:List Nat
 session:Int
 rights:Int
 other:List Nat
 ask:Qst
def partE (e:Ent):List Prt:=[.idn e.id,.rat e.v]
def partsE (es:List Ent):List Prt:=.num es.length 0 64::es.flatMap partE
def partsQ (q:Qst):List Prt:=.num q.op 1 12 ::
  (if q.op=1 then .num q.kind 0 3::.rat q.v::partsE q.es
   else if q.op=2 then .rat q.v::partsE q.es
   else if q.op=5 then [.idn q.row,.idn q.col,.rat q.v]
   else if q.op=7 then [.idn q.col,.rat q.v]
   else if q.op=6 then [.idn q.row,.rat q.v]
   else if q.op=8 then [.num q.kind 0 3,.idn q.row]
   else if q.op=3∨q.op=11 then [.idn q.row]
   else if q.op=4∨q.op=10 then [.idn q.col]
   else [])
def partsM (m:Msg):List Prt:=.num m.verb 1 5::.tok m.token ::
  (if m.verb=1 then .idn m.session::partsQ m.ask
   else if m.verb=3 then [.idn m.session]
   else if m.verb=4 then [.num m.rights 0 255]
   else if m.verb=5 then [.tok m.other]
   else [])
def encM (m:Msg):WS:=lays (.ok []) (partsM m)
abbrev RS:=Except (Int × Nat) Nat
def rNext (bs:List Nat) (n:Nat) (st:RS):List Nat × RS:=match st with
 | .error x=>(List.replicate n 0,.error x)
 | .ok a=>if bs.length - a<n then (List.replicate n 0,.error (90,a)) else ((bs.drop a).take n,.ok (a+n))
def rPick (bs:List Nat) (lo hi:Int) (st:RS):Int × RS:=match rNext bs 1 st with
 | (b,.error x)=>((b.headD 0:Nat),.error x)
 | (b,.ok a)=>((b.headD 0:Nat),if ((b.headD 0:Nat):Int)<lo∨hi<((b.headD 0:Nat):Int) then .error (270,a - 1) else .ok a)
def un4 (b:List Nat):Int:=(((b.getD 0 0 % 128*256+b.getD 1 0)*256+b.getD 2 0)*256+b.getD 3 0:Nat)
def rId (bs:List Nat) (st:RS):Int × RS:=match rNext bs 4 st with
 | (b,.error x)=>(un4 b,.error x)
 | (b,.ok a)=>(un4 b,if 127<b.getD 0 0 then .error (270,a - 4) else .ok a)
def wrapI (n:Nat):Int:=if n<9223372036854775808 then (n:Int) else (n:Int) - 18446744073709551616
def rInt (bs:List Nat) (st:RS):Int × RS:=(wrapI (undig 256 (rNext bs 8 st).1),(rNext bs 8 st).2)
def rTok (bs:List Nat) (st:RS):List Nat × RS:=rNext bs 8 st
def rRat (bs:List Nat) (st:RS):Rat × RS:=match st with
 | .error x=>(0,.error x)
 | .ok a=>match decR (bs.drop a) with
  | .ok (q,n)=>(q,.ok (a+n))
  | .error f=>(0,.error (f.n,a))
def rEnd (bs:List Nat) (st:RS):Option (Int × Nat):=match st with
 | .error x=>some x
 | .ok a=>if a=bs.length then none else some (270,a)
def Qst.zero:Qst:=⟨0,0,0,0,0,[]⟩
def Msg.zero:Msg:=⟨0,[],0,0,[],Qst.zero⟩
/-! A reader that is in order stands on what its parts lay: 'Took bs st p st'': if the state behind is in order, so was the one ahead, and the part's bytes stand between. -/
def Took (bs:List Nat) (st:RS) (p:Prt) (st':RS):Prop:=∀ c,st'=.ok c→∃ a b,st=.ok a∧layP p=.ok b∧c=a+b.length∧c≤bs.length∧(bs.drop a).take b.length=b
def TookAll (bs:List Nat) (st:RS) (ps:List Prt) (st':RS):Prop:=∀ c,st'=.ok c→∃ a b,st=.ok a∧(∀ out,lays (.ok out) ps=.ok (out++b))∧c=a+b.length∧(ps=[]∨c≤bs.length)∧(bs.drop a).take b.length=b
theorem TookAll.nil (bs:List Nat) (st:RS):TookAll bs st [] st:=fun c h=>⟨c,[],h,fun out=>by rw [lays_nil,List.append_nil],rfl,.inl rfl,rfl⟩
theorem take_join {bs:List Nat} {a:Nat} {b d:List Nat} (h1:(bs.drop a).take b.length=b) (h2:(bs.drop (a+b.length)).take d.length=d):(bs.drop a).take (b++d).length=b++d:=by
 rw [List.length_append,List.take_add,List.drop_drop,h1,h2]
theorem TookAll.cons {bs:List Nat} {s0 s1 s2:RS} {p:Prt} {ps:List Prt} (h:Took bs s0 p s1) (hs:TookAll bs s1 ps s2):TookAll bs s0 (p::ps) s2:=fun c hc=>by
 obtain ⟨a1,b1,e1,l1,c1,d1,t1⟩:=hs c hc
 obtain ⟨a0,b0,e0,l0,c0,d0,t0⟩:=h a1 e1
 refine ⟨a0,b0++b1,e0,fun out=>?_,by rw [List.length_append];omega,.inr ?_,take_join t0 (by rw [← c0];exact t1)⟩
 ·
  rw [lays_cons,show lay1 (.ok out) p=.ok (out++b0) by unfold lay1;simp only [l0],l1,List.append_assoc]
 ·
  rcases d1 with rfl | d1
  ·
   have:=l1 []
   rw [lays_nil] at this
   injection this with this
   have hb1:b1=[]:=by simpa using this.symm
   subst hb1
   simp at c1
   omega
  ·
   exact d1
theorem TookAll.append {bs:List Nat} {s0 s1 s2:RS} {ps qs:List Prt} (h:TookAll bs s0 ps s1) (hs:TookAll bs s1 qs s2):TookAll bs s0 (ps++qs) s2:=fun c hc=>by
 obtain ⟨a1,b1,e1,l1,c1,d1,t1⟩:=hs c hc
 obtain ⟨a0,b0,e0,l0,c0,d0,t0⟩:=h a1 e1
 refine ⟨a0,b0++b1,e0,fun out=>?_,by rw [List.length_append];omega,?_,take_join t0 (by rw [← c0];exact t1)⟩
 ·
  rw [lays_append,l0,l1,List.append_assoc]
 ·
  rcases d1 with rfl | d1
  ·
   have h2:=l1 []
   rw [lays_nil] at h2
   injection h2 with h2
   have hb1:b1=[]:=by simpa using h2.symm
   subst hb1
   simp at c1
   rcases d0 with rfl | d0
   ·
    exact .inl rfl
   ·
    exact .inr (by omega)
  ·
   exact .inr d1
def B256 (bs:List Nat):Prop:=∀ x,x∈bs→x<256
theorem B256.drop {bs:List Nat} (h:B256 bs) (a:Nat):B256 (bs.drop a):=fun x hx=>h x (List.mem_of_mem_drop hx)
theorem B256.take {bs:List Nat} (h:B256 bs) (a:Nat):B256 (bs.take a):=fun x hx=>h x (List.mem_of_mem_take hx)
theorem next_ok {bs:List Nat} {n:Nat} {st:RS} {c:Nat} (hn:0<n) (h:(rNext bs n st).2=.ok c):∃ a,st=.ok a∧c=a+n∧c≤bs.length∧rNext bs n st=((bs.drop a).take n,.ok c)∧((bs.drop a).take n).length=n:=by
 unfold rNext at h ⊢
 cases st with
 | error x=>cases h
 | ok a =>
  simp only at h ⊢
  split at h
  ·
   cases h
  ·
   rename_i hl
   injection h with h
   rw [if_neg hl,h]
   exact ⟨a,rfl,h.symm,by omega,rfl,by rw [List.length_take,List.length_drop];omega⟩
theorem len1 {l:List Nat} (h:l.length=1):∃ x,l=[x]:=by
 match l,h with
 | [x],_=>exact ⟨x,rfl⟩
theorem len4 {l:List Nat} (h:l.length=4):∃ x y z u,l=[x,y,z,u]:=by
 match l,h with
 | [x,y,z,u],_=>exact ⟨x,y,z,u,rfl⟩
theorem pick_took {bs:List Nat} (hb:B256 bs) (lo hi:Int) (st:RS):Took bs st (.num (rPick bs lo hi st).1 lo hi) (rPick bs lo hi st).2:=fun c hc=>by
 unfold rPick at hc ⊢
 cases hn:rNext bs 1 st with
 | mk b s1 =>
  rw [hn] at hc
  cases s1 with
  | error x=>cases hc
  | ok a1 =>
   simp only at hc ⊢
   obtain ⟨a,rfl,h1,h2,h3,h4⟩:=next_ok (by omega) (show (rNext bs 1 st).2=.ok a1 by rw [hn])
   rw [hn] at h3
   obtain ⟨x,hx⟩:=len1 h4
   have hb1:b=[x]:=by rw [← hx];exact congrArg Prod.fst h3
   subst hb1
   have hx8:x<256:=hb x (List.mem_of_mem_drop (List.mem_of_mem_take (by rw [hx];exact List.mem_singleton.2 rfl)))
   have hc:(if (x:Int)<lo∨hi<(x:Int) then (.error (270,a1 - 1):RS) else .ok a1)=.ok c:=hc
   by_cases hlo:(x:Int)<lo∨hi<(x:Int)
   ·
    rw [if_pos hlo] at hc;cases hc
   ·
    rw [if_neg hlo] at hc
    injection hc with hc
    refine ⟨a,[x],rfl,show layP (.num (x:Int) lo hi)=.ok [x] from ?_,by simp;omega,by omega,hx⟩
    rw [layP_num,if_neg hlo,show ((x:Int) % 256).toNat=x by omega]
theorem be4_un4 {x y z u:Nat} (hx:x≤127) (hy:y<256) (hz:z<256) (hu:u<256):be4 (un4 [x,y,z,u])=[x,y,z,u]∧0≤un4 [x,y,z,u]∧un4 [x,y,z,u]≤2147483647:=by
 unfold be4 un4
 simp only [List.getD_cons_zero,List.getD_cons_succ]
 rw [Nat.mod_eq_of_lt (show x<128 by omega)]
 refine ⟨?_,by omega,by omega⟩
 congr 1
 ·
  omega
 ·
  congr 1
  ·
   omega
  ·
   congr 1
   ·
    omega
   ·
    congr 1
    omega
theorem id_took {bs:List Nat} (hb:B256 bs) (st:RS):Took bs st (.idn (rId bs st).1) (rId bs st).2:=fun c hc=>by
 unfold rId at hc ⊢
 cases hn:rNext bs 4 st with
 | mk b s1 =>
  rw [hn] at hc
  cases s1 with
  | error x=>cases hc
  | ok a1 =>
   simp only at hc ⊢
   obtain ⟨a,rfl,h1,h2,h3,h4⟩:=next_ok (by omega) (show (rNext bs 4 st).2=.ok a1 by rw [hn])
   rw [hn] at h3
   obtain ⟨x,y,z,u,hx⟩:=len4 h4
   have hb1:b=[x,y,z,u]:=by rw [← hx];exact congrArg Prod.fst h3
   subst hb1
   have h8:∀ v,v∈[x,y,z,u]→v<256:=fun v hv=>hb v (List.mem_of_mem_drop (List.mem_of_mem_take (by rw [hx];exact hv)))
   simp only [List.getD_cons_zero] at hc
   split at hc
   ·
    cases hc
   ·
    rename_i hlo
    injection hc with hc
    obtain ⟨e1,e2,e3⟩:=be4_un4 (x:=x) (y:=y) (z:=z) (u:=u) (by omega) (h8 y (by simp)) (h8 z (by simp)) (h8 u (by simp))
    refine ⟨a,[x,y,z,u],rfl,?_,by simp;omega,by omega,hx⟩
    rw [layP_idn,if_neg (by omega),e1]
theorem tok_took {bs:List Nat} (st:RS):Took bs st (.tok (rTok bs st).1) (rTok bs st).2:=fun c hc=>by
 unfold rTok at hc ⊢
 obtain ⟨a,rfl,h1,h2,h3,h4⟩:=next_ok (by omega) hc
 rw [h3]
 refine ⟨a,(bs.drop a).take 8,rfl,?_,by rw [h4];exact h1,h2,by rw [h4]⟩
 rw [layP_tok,if_pos h4]
theorem rat_took {bs:List Nat} (hb:B256 bs) (st:RS):Took bs st (.rat (rRat bs st).1) (rRat bs st).2:=fun c hc=>by
 unfold rRat at hc ⊢
 cases st with
 | error x=>cases hc
 | ok a =>
  simp only at hc ⊢
  cases hd:decR (bs.drop a) with
  | error f=>rw [hd] at hc;cases hc
  | ok x =>
   obtain ⟨q,n⟩:=x
   rw [hd] at hc
   simp only at hc ⊢
   injection hc with hc
   obtain ⟨he,h1,h2⟩:=enc_dec (hb.drop a) hd
   have hl:((bs.drop a).take n).length=n:=by rw [List.length_take];omega
   rw [List.length_drop] at h2
   refine ⟨a,(bs.drop a).take n,rfl,?_,by rw [hl];exact hc.symm,by omega,by rw [hl]⟩
   rw [layP_rat,he]
theorem TookAll.bad {bs:List Nat} {s0 s1:RS} {ps:List Prt} {x:Int × Nat} (h:s1=.error x):TookAll bs s0 ps s1:=fun c hc=>by rw [h] at hc;cases hc
theorem TookAll.one {bs:List Nat} {s0 s1:RS} {p:Prt} (h:Took bs s0 p s1):TookAll bs s0 [p] s1:=TookAll.cons h (TookAll.nil bs s1)
abbrev Rdr (α:Type):=List Nat→RS→α × RS
structure Good {α:Type} (f:Rdr α):Prop where
 ext:∀ bs ys a v c,B256 bs→f bs (.ok a)=(v,.ok c)→f (bs++ys) (.ok a)=(v,.ok c)
 pre:∀ bs k a v c,B256 bs→k≤bs.length→f bs (.ok a)=(v,.ok c)→c≤k→f (bs.take k) (.ok a)=(v,.ok c)
 cut:∀ bs k a v c,B256 bs→k≤bs.length→f bs (.ok a)=(v,.ok c)→k<c→a≤k→∃ x,(f (bs.take k) (.ok a)).2=.error (90,x)
 err:∀ bs x,(f bs (.error x)).2=.error x
 mono:∀ bs a v c,B256 bs→f bs (.ok a)=(v,.ok c)→a≤c
def bnd {α β:Type} (f:Rdr α) (g:α→Rdr β):Rdr β:=fun bs st=>g (f bs st).1 bs (f bs st).2
theorem Good.pure {α:Type} (v:α):Good (fun _ st=>(v,st)) :=
 ⟨fun bs ys a v' c _ h=>h,fun bs k a v' c _ hk h hc=>h,fun bs k a v' c _ hk h hc ha=>by injection h with h1 h2;injection h2 with h2;omega,fun bs x=>rfl,fun bs a v' c _ h=>by injection h with h1 h2;injection h2 with h2;omega⟩
theorem bnd_ok {α β:Type} {f:Rdr α} {g:α→Rdr β} (hf:Good f) (hg:∀ v,Good (g v)) {bs:List Nat} {a c:Nat} {v:β} (h:bnd f g bs (.ok a)=(v,.ok c)):∃ u m,f bs (.ok a)=(u,.ok m)∧g u bs (.ok m)=(v,.ok c):=by
 unfold bnd at h
 cases hx:f bs (.ok a) with
 | mk u st =>
  rw [hx] at h
  cases st with
  | error x =>
   have h1:=(hg u).err bs x
   simp only at h
   rw [h] at h1
   cases h1
  | ok m=>exact ⟨u,m,rfl,h⟩
theorem bnd_eq {α β:Type} {f:Rdr α} {g:α→Rdr β} {bs:List Nat} {a m:Nat} {u:α} (h:f bs (.ok a)=(u,.ok m)):bnd f g bs (.ok a)=g u bs (.ok m):=by unfold bnd;rw [h]
theorem Good.bnd {α β:Type} {f:Rdr α} {g:α→Rdr β} (hf:Good f) (hg:∀ v,Good (g v)):Good (bnd f g):=by
 refine ⟨fun bs ys a v c hb h=>?_,fun bs k a v c hb hk h hc=>?_,fun bs k a v c hb hk h hc ha=>?_,fun bs x=>?_,fun bs a v c hb h=>?_⟩
 ·
  obtain ⟨u,m,h1,h2⟩:=bnd_ok hf hg h
  rw [bnd_eq (hf.ext bs ys a u m hb h1)]
  exact (hg u).ext bs ys m v c hb h2
 ·
  obtain ⟨u,m,h1,h2⟩:=bnd_ok hf hg h
  have:=(hg u).mono bs m v c hb h2
  rw [bnd_eq (hf.pre bs k a u m hb hk h1 (by omega))]
  exact (hg u).pre bs k m v c hb hk h2 hc
 ·
  obtain ⟨u,m,h1,h2⟩:=bnd_ok hf hg h
  by_cases hm:m≤k
  ·
   rw [bnd_eq (hf.pre bs k a u m hb hk h1 hm)]
   exact (hg u).cut bs k m v c hb hk h2 hc hm
  ·
   obtain ⟨x,hx⟩:=hf.cut bs k a u m hb hk h1 (by omega) ha
   refine ⟨x,?_⟩
   unfold Go.Proofs.YtmhainidincjhaaGreatDoor.bnd
   rw [hx]
   exact (hg _).err _ _
 ·
  unfold Go.Proofs.YtmhainidincjhaaGreatDoor.bnd
  rw [hf.err bs x]
  exact (hg _).err _ _
 ·
  obtain ⟨u,m,h1,h2⟩:=bnd_ok hf hg h
  have:=(hg u).mono bs m v c hb h2
  have:=hf.mono bs a u m hb h1
  omega
theorem drop_more {bs ys:List Nat} {a n:Nat} (h:a+n≤bs.length):((bs++ys).drop a).take n=(bs.drop a).take n:=by
 rw [List.drop_append_of_le_length (by omega),List.take_append_of_le_length (by rw [List.length_drop];omega)]
theorem drop_less {bs:List Nat} {k a n:Nat} (h:a+n≤k):((bs.take k).drop a).take n=(bs.drop a).take n:=by
 rw [List.drop_take,List.take_take,Nat.min_eq_left (by omega)]
theorem next_good (n:Nat):Good (fun bs st=>rNext bs n st):=by
 refine ⟨fun bs ys a v c hb h=>?_,fun bs k a v c hb hk h hc=>?_,fun bs k a v c hb hk h hc ha=>?_,fun bs x=>rfl,fun bs a v c hb h=>?_⟩
 all_goals
  unfold rNext at h
  simp only at h
  by_cases hl:bs.length - a<n
  ·
   rw [if_pos hl] at h;injection h with h1 h2;cases h2
  rw [if_neg hl] at h
  injection h with h1 h2
  injection h2 with h2
 ·
  unfold rNext
  simp only
  rw [if_neg (by rw [List.length_append];omega),← h1,← h2]
  by_cases h0:n=0
  ·
   subst h0;simp
  ·
   rw [drop_more (by omega)]
 ·
  unfold rNext
  simp only
  rw [if_neg (by rw [List.length_take];omega),← h1,← h2,drop_less (by omega)]
 ·
  refine ⟨a,?_⟩
  unfold rNext
  simp only
  rw [if_pos (by rw [List.length_take];omega)]
 ·
  omega
def chk (bad:Bool) (d:Nat) (e:Int) (st:RS):RS:=match st with
 | .error x=>.error x
 | .ok a=>if bad then .error (e,a - d) else .ok a
theorem Good.look {α:Type} (n:Nat) (hn:0<n) (F:List Nat→α) (bad:List Nat→Bool) (d:Nat) (e:Int) :
  Good (fun bs st=>(F (rNext bs n st).1,chk (bad (rNext bs n st).1) d e (rNext bs n st).2)):=by
 have hg:=next_good n
 have key:∀ bs a v c,(F (rNext bs n (.ok a)).1,chk (bad (rNext bs n (.ok a)).1) d e (rNext bs n (.ok a)).2)=(v,.ok c)→∃ b,rNext bs n (.ok a)=(b,.ok c)∧F b=v∧bad b=false:=by
  intro bs a v c h
  injection h with h1 h2
  cases hx:rNext bs n (.ok a) with
  | mk b st =>
   rw [hx] at h1 h2
   cases st with
   | error x=>cases h2
   | ok a' =>
    simp only [chk] at h1 h2
    by_cases hb:bad b=true
    ·
     rw [if_pos hb] at h2;cases h2
    ·
     rw [if_neg hb] at h2
     injection h2 with h2
     exact ⟨b,by rw [h2],h1,by simpa using hb⟩
 refine ⟨fun bs ys a v c hb h=>?_,fun bs k a v c hb hk h hc=>?_,fun bs k a v c hb hk h hc ha=>?_,fun bs x=>rfl,fun bs a v c hb h=>?_⟩
 ·
  obtain ⟨b,h1,h2,h3⟩:=key bs a v c h
  have h4:rNext (bs++ys) n (.ok a)=(b,.ok c):=hg.ext bs ys a b c hb h1
  simp only [h4,h2,h3]
  rfl
 ·
  obtain ⟨b,h1,h2,h3⟩:=key bs a v c h
  have h4:rNext (bs.take k) n (.ok a)=(b,.ok c):=hg.pre bs k a b c hb hk h1 hc
  simp only [h4,h2,h3]
  rfl
 ·
  obtain ⟨b,h1,h2,h3⟩:=key bs a v c h
  obtain ⟨x,h4⟩:=hg.cut bs k a b c hb hk h1 hc ha
  exact ⟨x,by simp only [h4];rfl⟩
 ·
  obtain ⟨b,h1,h2,h3⟩:=key bs a v c h
  exact hg.mono bs a b c hb h1
theorem pick_good (lo hi:Int):Good (fun bs st=>rPick bs lo hi st):=by
 have h:=Good.look 1 (by omega) (fun b=>((b.headD 0:Nat):Int)) (fun b=>decide (((b.headD 0:Nat):Int)<lo∨hi<((b.headD 0:Nat):Int))) 1 270
 have e:(fun bs st=>rPick bs lo hi st)=(fun (bs:List Nat) (st:RS)=>(((((rNext bs 1 st).1).headD 0:Nat):Int),chk (decide (((((rNext bs 1 st).1).headD 0:Nat):Int)<lo∨hi<((((rNext bs 1 st).1).headD 0:Nat):Int))) 1 270 (rNext bs 1 st).2)):=by
  funext bs st
  unfold rPick
  cases hx:rNext bs 1 st with
  | mk b s1 =>
   cases s1 with
   | error x=>rfl
   | ok a=>simp [chk]
 rw [e]
 exact h
theorem id_good:Good (fun bs st=>rId bs st):=by
 have h:=Good.look 4 (by omega) un4 (fun b=>decide (127<b.getD 0 0)) 4 270
 have e:(fun bs st=>rId bs st)=(fun (bs:List Nat) (st:RS)=>(un4 (rNext bs 4 st).1,chk (decide (127<(rNext bs 4 st).1.getD 0 0)) 4 270 (rNext bs 4 st).2)):=by
  funext bs st
  unfold rId
  cases hx:rNext bs 4 st with
  | mk b s1 =>
   cases s1 with
   | error x=>rfl
   | ok a=>simp [chk]
 rw [e]
 exact h
theorem tok_good:Good (fun bs st=>rTok bs st):=next_good 8
theorem int_good:Good (fun bs st=>rInt bs st):=by
 have h:=Good.bnd (next_good 8) (fun v=>Good.pure (wrapI (undig 256 v)))
 exact h
theorem dec_more {b:List Nat} (hb:B256 b) {q:Rat} {n:Nat} (h:decR b=.ok (q,n)) (ys:List Nat):decR (b++ys)=.ok (q,n):=by
 obtain ⟨he,h1,h2⟩:=enc_dec hb h
 have h3:=dec_enc he (b.drop n++ys)
 rw [← List.append_assoc,List.take_append_drop,List.length_take,Nat.min_eq_left h2] at h3
 exact h3
theorem dec_lessB {b:List Nat} (hb:B256 b) {q:Rat} {n:Nat} (h:decR b=.ok (q,n)) {k:Nat} (hk:n≤k):decR (b.take k)=.ok (q,n):=by
 obtain ⟨he,h1,h2⟩:=enc_dec hb h
 have h3:=dec_enc he ((b.take k).drop n)
 rw [show b.take n++(b.take k).drop n=b.take k by
  conv=>rhs;rw [← List.take_append_drop n (b.take k)]
  rw [List.take_take,Nat.min_eq_left hk],List.length_take,Nat.min_eq_left h2] at h3
 exact h3
theorem dec_cut {b:List Nat} (hb:B256 b) {q:Rat} {n:Nat} (h:decR b=.ok (q,n)) {k:Nat} (hk:k<n):∃ f,decR (b.take k)=.error f∧f.n=90:=by
 obtain ⟨he,h1,h2⟩:=enc_dec hb h
 obtain ⟨w,h3,_⟩:=dec_short he (k:=k) (by rw [List.length_take];omega)
 rw [List.take_take,Nat.min_eq_left (by omega)] at h3
 exact ⟨_,h3,rfl⟩
theorem rat_good:Good (fun bs st=>rRat bs st):=by
 have key:∀ bs a v c,rRat bs (.ok a)=(v,.ok c)→∃ n,decR (bs.drop a)=.ok (v,n)∧c=a+n:=by
  intro bs a v c h
  unfold rRat at h
  simp only at h
  cases hd:decR (bs.drop a) with
  | error f=>rw [hd] at h;injection h with h1 h2;cases h2
  | ok x =>
   rw [hd] at h
   injection h with h1 h2
   injection h2 with h2
   exact ⟨x.2,by rw [← h1],h2.symm⟩
 have back:∀ bs a v n,decR (bs.drop a)=.ok (v,n)→rRat bs (.ok a)=(v,.ok (a+n)):=fun bs a v n h=>by unfold rRat;simp only [h]
 refine ⟨fun bs ys a v c hb h=>?_,fun bs k a v c hb hk h hc=>?_,fun bs k a v c hb hk h hc ha=>?_,fun bs x=>rfl,fun bs a v c hb h=>?_⟩
 all_goals obtain ⟨n,h1,h2⟩:=key bs a v c h
 all_goals obtain ⟨he,hn1,hn2⟩:=enc_dec (hb.drop a) h1
 all_goals rw [List.length_drop] at hn2
 ·
  rw [h2]
  refine back _ a v n ?_
  rw [List.drop_append_of_le_length (by omega)]
  exact dec_more (hb.drop a) h1 ys
 ·
  rw [h2]
  refine back _ a v n ?_
  rw [List.drop_take]
  exact dec_lessB (hb.drop a) h1 (by omega)
 ·
  obtain ⟨f,h3,h4⟩:=dec_cut (hb.drop a) h1 (k:=k - a) (by omega)
  rw [← List.drop_take] at h3
  refine ⟨a,?_⟩
  unfold rRat
  simp only [h3,h4]
 ·
  omega
def Lays (ps:List Prt) (b:List Nat):Prop:=∀ out,lays (.ok out) ps=.ok (out++b)
theorem lays_base {ps:List Prt}:∀ {out r:List Nat},lays (.ok out) ps=.ok r→∃ b,r=out++b∧Lays ps b:=by
 induction ps with
 | nil=>intro out r h;injection h with h;exact ⟨[],by rw [← h,List.append_nil],fun o=>by rw [lays_nil,List.append_nil]⟩
 | cons p ps ih =>
  intro out r h
  rw [lays_cons] at h
  cases hp:layP p with
  | error e =>
   rw [show lay1 (.ok out) p=.error (e,out.length) by unfold lay1;simp only [hp],lays_error] at h
   cases h
  | ok b1 =>
   rw [show lay1 (.ok out) p=.ok (out++b1) by unfold lay1;simp only [hp]] at h
   obtain ⟨b2,h1,h2⟩:=ih h
   refine ⟨b1++b2,by rw [h1,List.append_assoc],fun o=>?_⟩
   rw [lays_cons,show lay1 (.ok o) p=.ok (o++b1) by unfold lay1;simp only [hp],h2,List.append_assoc]
theorem Lays.cons {p:Prt} {ps:List Prt} {b:List Nat} (h:Lays (p::ps) b):∃ b1 b2,layP p=.ok b1∧Lays ps b2∧b=b1++b2:=by
 have h0:=h []
 rw [lays_cons] at h0
 cases hp:layP p with
 | error e =>
  rw [show lay1 (.ok []) p=.error (e,0) by unfold lay1;simp only [hp];rfl,lays_error] at h0
  cases h0
 | ok b1 =>
  rw [show lay1 (.ok []) p=.ok ([]++b1) by unfold lay1;simp only [hp]] at h0
  obtain ⟨b2,h1,h2⟩:=lays_base h0
  exact ⟨b1,b2,rfl,h2,by simpa using h1⟩
theorem Lays.append {ps qs:List Prt}:∀ {b:List Nat},Lays (ps++qs) b→∃ b1 b2,Lays ps b1∧Lays qs b2∧b=b1++b2:=by
 induction ps with
 | nil=>intro b h;exact ⟨[],b,fun o=>by rw [lays_nil,List.append_nil],h,rfl⟩
 | cons p ps ih =>
  intro b h
  obtain ⟨b1,b2,h1,h2,rfl⟩:=Lays.cons h
  obtain ⟨b3,b4,h3,h4,rfl⟩:=ih h2
  refine ⟨b1++b3,b4,fun o=>?_,h4,by rw [List.append_assoc]⟩
  rw [lays_cons,show lay1 (.ok o) p=.ok (o++b1) by unfold lay1;simp only [h1],h3,List.append_assoc]
theorem Lays.nil_eq {b:List Nat} (h:Lays [] b):b=[]:=by
 have:=h []
 rw [lays_nil] at this
 injection this with this
 simpa using this.symm
def Gives {α:Type} (f:Rdr α) (v:α) (ps:List Prt):Prop:=∀ bs a b,Lays ps b→(bs.drop a).take b.length=b→a+b.length≤bs.length→f bs (.ok a)=(v,.ok (a+b.length))
theorem Gives.pure {α:Type} (v:α):Gives (fun _ st=>(v,st)) v []:=fun bs a b h _ _=>by rw [Lays.nil_eq h];rfl
theorem take_two {bs:List Nat} {a:Nat} {b1 b2:List Nat} (h:(bs.drop a).take (b1++b2).length=b1++b2):(bs.drop a).take b1.length=b1∧(bs.drop (a+b1.length)).take b2.length=b2:=by
 rw [List.length_append,List.take_add] at h
 have hl:((bs.drop a).take b1.length).length=b1.length:=by
  have:=congrArg List.length h
  rw [List.length_append,List.length_append] at this
  have h1:((bs.drop a).take b1.length).length≤b1.length:=by rw [List.length_take];omega
  have h2:(((bs.drop a).drop b1.length).take b2.length).length≤b2.length:=by rw [List.length_take];omega
  omega
 obtain ⟨h1,h2⟩:=List.append_inj h hl
 rw [List.drop_drop] at h2
 exact ⟨h1,h2⟩
theorem Gives.bnd {α β:Type} {f:Rdr α} {g:α→Rdr β} {u:α} {v:β} {ps qs:List Prt} (hf:Gives f u ps) (hg:Gives (g u) v qs):Gives (bnd f g) v (ps++qs):=fun bs a b h ht hl=>by
 obtain ⟨b1,b2,h1,h2,rfl⟩:=Lays.append h
 obtain ⟨t1,t2⟩:=take_two ht
 rw [List.length_append] at hl ⊢
 rw [bnd_eq (hf bs a b1 h1 t1 (by omega)),hg bs (a+b1.length) b2 h2 t2 (by omega),Nat.add_assoc]
theorem Lays.one {p:Prt} {b:List Nat} (h:Lays [p] b):layP p=.ok b:=by
 obtain ⟨b1,b2,h1,h2,rfl⟩:=Lays.cons h
 rw [Lays.nil_eq h2,List.append_nil]
 exact h1
theorem next_gives {bs:List Nat} {a:Nat} {b:List Nat} (ht:(bs.drop a).take b.length=b) (hl:a+b.length≤bs.length):rNext bs b.length (.ok a)=(b,.ok (a+b.length)):=by
 unfold rNext
 simp only
 rw [if_neg (by omega),ht]
theorem pick_gives {n lo hi:Int} (h0:0≤lo) (h1:hi≤255):Gives (fun bs st=>rPick bs lo hi st) n [.num n lo hi]:=fun bs a b h ht hl=>by
 have hp:=Lays.one h
 rw [layP_num] at hp
 by_cases hc:n<lo∨hi<n
 ·
  rw [if_pos hc] at hp;cases hp
 rw [if_neg hc] at hp
 injection hp with hp
 have hn:=next_gives ht hl
 rw [show b.length=1 by rw [← hp];rfl] at hn ⊢
 have hv:((b.headD 0:Nat):Int)=n:=by rw [← hp];show (((n % 256).toNat:Nat):Int)=n;omega
 unfold rPick
 simp only [hn]
 rw [hv]
 exact Prod.ext rfl (if_neg hc)
theorem un4_be4 {n:Int} (h0:0≤n) (h1:n≤2147483647):un4 (be4 n)=n∧(be4 n).getD 0 0≤127:=by
 unfold un4 be4
 simp only [List.getD_cons_zero,List.getD_cons_succ]
 omega
theorem id_gives {n:Int}:Gives (fun bs st=>rId bs st) n [.idn n]:=fun bs a b h ht hl=>by
 have hp:=Lays.one h
 rw [layP_idn] at hp
 by_cases hc:n<0∨2147483647<n
 ·
  rw [if_pos hc] at hp;cases hp
 rw [if_neg hc] at hp
 injection hp with hp
 obtain ⟨e1,e2⟩:=un4_be4 (n:=n) (by omega) (by omega)
 have hn:=next_gives ht hl
 rw [show b.length=4 by rw [← hp];rfl] at hn ⊢
 unfold rId
 simp only [hn]
 rw [← hp,e1]
 exact Prod.ext rfl (if_neg (by omega))
theorem tok_gives {t:List Nat}:Gives (fun bs st=>rTok bs st) t [.tok t]:=fun bs a b h ht hl=>by
 have hp:=Lays.one h
 rw [layP_tok] at hp
 by_cases hc:t.length=8
 ·
  rw [if_pos hc] at hp
  injection hp with hp
  subst hp
  have hn:=next_gives ht hl
  unfold rTok
  rw [← hc]
  exact hn
 ·
  rw [if_neg hc] at hp;cases hp
theorem rat_gives {q:Rat}:Gives (fun bs st=>rRat bs st) q [.rat q]:=fun bs a b h ht hl=>by
 have hp:=Lays.one h
 rw [layP_rat] at hp
 cases he:encR q with
 | error f=>rw [he] at hp;cases hp
 | ok l =>
  rw [he] at hp
  injection hp with hp
  subst hp
  have h1:=dec_enc he ((bs.drop a).drop l.length)
  rw [show l++(bs.drop a).drop l.length=bs.drop a by conv=>rhs;rw [← List.take_append_drop l.length (bs.drop a),ht]] at h1
  unfold rRat
  simp only [h1]
structure Ans where
 out:Int
 value:Rat
 point:List Rat
structure Rng where
 hasLo:Bool
 hasHi:Bool
 lo:Rat
 hi:Rat
structure Rep where
 err:Int
 wher:List Nat
 at9:Int
 id:Int
 ans:Ans
 rng:Rng
 u0:Int
 u1:Int
 u2:Int
structure Res where
 verb:Int
 op:Int
 token:List Nat
 rep:Rep
def Ans.zero:Ans:=⟨0,0,[]⟩
def Rng.zero:Rng:=⟨false,false,0,0⟩
def Rep.zero:Rep:=⟨0,[],0,0,Ans.zero,Rng.zero,0,0,0⟩
def Res.zero:Res:=⟨0,0,[],Rep.zero⟩
def flg (b:Bool) (n:Int):Int:=if b then n else 0
def partsA (a:Ans):List Prt:=.num a.out 1 3::(if a.out=1 then .rat a.value::.num a.point.length 0 64::a.point.map .rat else [])
def partsG (x:Rng):List Prt:=.num (flg x.hasLo 1+flg x.hasHi 2) 0 3::((if x.hasLo=true then [.rat x.lo] else [])++(if x.hasHi=true then [.rat x.hi] else []))
def partsT (op:Int) (p:Rep):List Prt:=.num op 1 12 ::
  (if op=1∨op=2 then [.idn p.id]
   else if op=9 then partsA p.ans
   else if op=10∨op=11 then partsG p.rng
   else if op=12 then [.i64 p.u0,.i64 p.u1,.i64 p.u2]
   else [])
def partsV (x:Res):List Prt:=.num x.verb 1 5 ::
  (if x.verb=1 then partsT x.op x.rep
   else if x.verb=2 then [.idn x.rep.id]
   else if x.verb=4 then [.tok x.token]
   else [])
def partsF (p:Rep):List Prt:=[.num p.wher.length 0 255,.raw p.wher,.i64 p.at9]
def partsX (x:Res):List Prt:=.two x.rep.err::(if x.rep.err=0 then partsV x else partsF x.rep)
def encX (x:Res):WS:=lays (.ok []) (partsX x)
def un2 (b:List Nat):Int:=((b.getD 0 0*256+b.getD 1 0:Nat):Int)
def rTwo (bs:List Nat) (st:RS):Int × RS:=(un2 (rNext bs 2 st).1,(rNext bs 2 st).2)
def rRats (bs:List Nat):Nat→RS→List Rat→List Rat × RS
 | 0,st,acc=>(acc,st)
 | k+1,st,acc=>rRats bs k (rRat bs st).2 (acc++[(rRat bs st).1])
def rPoint (bs:List Nat) (st:RS):List Rat × RS:=rRats bs (rPick bs 0 64 st).1.toNat (rPick bs 0 64 st).2 []
def rAnsBody (bs:List Nat) (out:Int) (st:RS):Ans × RS :=
 if out=1 then
  let v:=rRat bs st;let p:=rPoint bs v.2
  (⟨out,v.1,p.1⟩,p.2)
 else (⟨out,0,[]⟩,st)
def rAns (bs:List Nat) (st:RS):Ans × RS:=rAnsBody bs (rPick bs 1 3 st).1 (rPick bs 1 3 st).2
def rIf (b:Bool) (bs:List Nat) (st:RS):Rat × RS:=if b=true then rRat bs st else (0,st)
def rRngBody (bs:List Nat) (n:Int) (st:RS):Rng × RS :=
 let l:=rIf (decide (n % 2=1)) bs st;let h:=rIf (decide (n / 2 % 2=1)) bs l.2
 (⟨decide (n % 2=1),decide (n / 2 % 2=1),l.1,h.1⟩,h.2)
def rRng (bs:List Nat) (st:RS):Rng × RS:=rRngBody bs (rPick bs 0 3 st).1 (rPick bs 0 3 st).2
def rTldBody (bs:List Nat) (op:Int) (st:RS):(Int × Rep) × RS :=
 if op=1∨op=2 then
  let i:=rId bs st
  ((op,{ Rep.zero with id:=i.1 }),i.2)
 else if op=9 then
  let a:=rAns bs st
  ((op,{ Rep.zero with ans:=a.1 }),a.2)
 else if op=10∨op=11 then
  let g:=rRng bs st
  ((op,{ Rep.zero with rng:=g.1 }),g.2)
 else if op=12 then
  let a:=rInt bs st;let b:=rInt bs a.2;let c:=rInt bs b.2
  ((op,{ Rep.zero with u0:=a.1,u1:=b.1,u2:=c.1 }),c.2)
 else ((op,Rep.zero),st)
def rTld (bs:List Nat) (st:RS):(Int × Rep) × RS:=rTldBody bs (rPick bs 1 12 st).1 (rPick bs 1 12 st).2
def rVBody (bs:List Nat) (verb:Int) (st:RS):Res × RS :=
 if verb=1 then
  let t:=rTld bs st
  (⟨verb,t.1.1,[],t.1.2⟩,t.2)
 else if verb=2 then
  let i:=rId bs st
  (⟨verb,0,[],{ Rep.zero with id:=i.1 }⟩,i.2)
 else if verb=4 then
  let t:=rTok bs st
  (⟨verb,0,t.1,Rep.zero⟩,t.2)
 else (⟨verb,0,[],Rep.zero⟩,st)
def rV (bs:List Nat) (st:RS):Res × RS:=rVBody bs (rPick bs 1 5 st).1 (rPick bs 1 5 st).2
def rRaw (n:Nat) (bs:List Nat) (st:RS):List Nat × RS:=rNext bs n st
def rF (err:Int) (bs:List Nat) (st:RS):Res × RS :=
 let n:=rPick bs 0 255 st;let t:=rRaw n.1.toNat bs n.2;let i:=rInt bs t.2
 (⟨0,0,[],{ Rep.zero with err:=err,wher:=t.1,at9:=i.1 }⟩,i.2)
def rXBody (bs:List Nat) (err:Int) (st:RS):Res × RS:=if err=0 then rV bs st else rF err bs st
def rX (bs:List Nat) (st:RS):Res × RS:=rXBody bs (rTwo bs st).1 (rTwo bs st).2
def decX (bs:List Nat):Except (Int × Nat) Res:=match rEnd bs (rX bs (.ok 0)).2 with
 | some x=>.error x
 | none=>.ok (rX bs (.ok 0)).1
theorem len2 {l:List Nat} (h:l.length=2):∃ x y,l=[x,y]:=by
 match l,h with
 | [x,y],_=>exact ⟨x,y,rfl⟩
theorem two_took {bs:List Nat} (hb:B256 bs) (st:RS):Took bs st (.two (rTwo bs st).1) (rTwo bs st).2:=fun c hc=>by
 unfold rTwo at hc ⊢
 simp only at hc ⊢
 obtain ⟨a,rfl,h1,h2,h3,h4⟩:=next_ok (by omega) hc
 obtain ⟨x,y,hx⟩:=len2 h4
 have h8:∀ v,v∈[x,y]→v<256:=fun v hv=>hb v (List.mem_of_mem_drop (List.mem_of_mem_take (by rw [hx];exact hv)))
 have hx8:=h8 x (by simp)
 have hy8:=h8 y (by simp)
 rw [h3,hx]
 refine ⟨a,[x,y],rfl,?_,by simp;omega,by omega,hx⟩
 show layP (.two ((x*256+y:Nat):Int))=_
 rw [layP_two,if_neg (by omega)]
 congr 2
 ·
  omega
 ·
  congr 1
  omega
theorem wrapI_mod (n:Nat) (k:Nat) (hk:k<8):(wrapI n / 256^k % 256).toNat=n / 256^k % 256:=by
 unfold wrapI
 rcases (show k=0∨k=1∨k=2∨k=3∨k=4∨k=5∨k=6∨k=7 by omega) with rfl | rfl | rfl | rfl | rfl | rfl | rfl | rfl <;> (split <;> omega)
theorem be8_undig {b:List Nat} (hb:B256 b) (hl:b.length=8):be8 (wrapI (undig 256 b))=b:=by
 apply List.ext_getElem?
 intro i
 by_cases hi:i<8
 ·
  have h:=undig_at b hb (k:=7 - i) (by omega)
  rw [hl,show 8 - 1 - (7 - i)=i by omega] at h
  rw [h]
  unfold be8
  rw [List.getElem?_map,List.getElem?_range hi]
  simp only [Option.map_some]
  rw [wrapI_mod _ _ (by omega)]
 ·
  rw [List.getElem?_eq_none (by unfold be8;simp;omega),List.getElem?_eq_none (by omega)]
theorem int_took {bs:List Nat} (hb:B256 bs) (st:RS):Took bs st (.i64 (rInt bs st).1) (rInt bs st).2:=fun c hc=>by
 unfold rInt at hc ⊢
 simp only at hc ⊢
 obtain ⟨a,rfl,h1,h2,h3,h4⟩:=next_ok (by omega) hc
 rw [h3]
 refine ⟨a,(bs.drop a).take 8,rfl,?_,by rw [h4];exact h1,h2,by rw [h4]⟩
 rw [layP_i64,be8_undig ((hb.drop a).take 8) h4]
theorem rats_took {bs:List Nat} (hb:B256 bs) (k:Nat):∀ (st:RS) (acc:List Rat),∃ qs,(rRats bs k st acc).1=acc++qs∧qs.length=k∧TookAll bs st (qs.map Prt.rat) (rRats bs k st acc).2:=by
 induction k with
 | zero=>intro st acc;exact ⟨[],by simp [rRats],rfl,TookAll.nil bs st⟩
 | succ k ih =>
  intro st acc
  unfold rRats
  obtain ⟨qs,h1,h2,h3⟩:=ih (rRat bs st).2 (acc++[(rRat bs st).1])
  refine ⟨(rRat bs st).1::qs,by rw [h1,List.append_assoc];rfl,by rw [List.length_cons,h2],?_⟩
  rw [List.map_cons]
  exact TookAll.cons (rat_took hb st) h3
theorem pick_nonneg (bs:List Nat) (lo hi:Int) (st:RS):0≤(rPick bs lo hi st).1:=by
 unfold rPick
 split <;> simp only <;> omega
theorem point_took {bs:List Nat} (hb:B256 bs) (st:RS):TookAll bs st (.num (rPoint bs st).1.length 0 64::(rPoint bs st).1.map Prt.rat) (rPoint bs st).2:=by
 unfold rPoint
 obtain ⟨qs,h1,h2,h3⟩:=rats_took hb (rPick bs 0 64 st).1.toNat (rPick bs 0 64 st).2 []
 rw [h1,List.nil_append,h2,Int.toNat_of_nonneg (pick_nonneg bs 0 64 st)]
 exact TookAll.cons (pick_took hb 0 64 st) h3
theorem ans_took {bs:List Nat} (hb:B256 bs) (st:RS):TookAll bs st (partsA (rAns bs st).1) (rAns bs st).2:=by
 unfold rAns
 have hp:=pick_took hb 1 3 st
 generalize (rPick bs 1 3 st).1=out at hp ⊢
 generalize (rPick bs 1 3 st).2=s1 at hp ⊢
 unfold rAnsBody partsA
 by_cases h0:out=1
 ·
  simp only [if_pos h0]
  exact TookAll.cons hp (TookAll.cons (rat_took hb _) (point_took hb _))
 ·
  simp only [if_neg h0]
  exact TookAll.one hp
theorem if_took {bs:List Nat} (hb:B256 bs) (b:Bool) (st:RS):TookAll bs st (if b=true then [.rat (rIf b bs st).1] else []) (rIf b bs st).2:=by
 unfold rIf
 cases b
 ·
  exact TookAll.nil bs st
 ·
  exact TookAll.one (rat_took hb st)
theorem flg_two {n:Int} (h0:0≤n) (h3:n≤3):flg (decide (n % 2=1)) 1+flg (decide (n / 2 % 2=1)) 2=n:=by
 unfold flg
 rcases (show n=0∨n=1∨n=2∨n=3 by omega) with rfl | rfl | rfl | rfl <;> rfl
theorem rng_took {bs:List Nat} (hb:B256 bs) (st:RS):TookAll bs st (partsG (rRng bs st).1) (rRng bs st).2:=by
 unfold rRng
 have hp:=pick_took hb 0 3 st
 have h0:=pick_nonneg bs 0 3 st
 generalize (rPick bs 0 3 st).1=n at hp h0 ⊢
 generalize (rPick bs 0 3 st).2=s1 at hp ⊢
 by_cases h3:n≤3
 ·
  unfold rRngBody partsG
  simp only
  rw [flg_two h0 h3]
  exact TookAll.cons hp (TookAll.append (if_took hb _ _) (if_took hb _ _))
 ·
  intro c hc
  exfalso
  have hrat:∀ (st:RS) c,(rRat bs st).2=.ok c→∃ a,st=.ok a:=fun st c h=>by
   obtain ⟨a,_,e,_⟩:=rat_took hb st c h
   exact ⟨a,e⟩
  have hif:∀ (b:Bool) (st:RS) c,(rIf b bs st).2=.ok c→∃ a,st=.ok a:=fun b st c h=>by
   cases b
   ·
    exact ⟨c,h⟩
   ·
    exact hrat st c h
  obtain ⟨a,ha⟩:=hif _ _ _ hc
  obtain ⟨a2,ha2⟩:=hif _ _ _ ha
  obtain ⟨_,b,_,hl,_⟩:=hp a2 ha2
  rw [layP_num,if_pos (by omega)] at hl
  cases hl
theorem tld_took {bs:List Nat} (hb:B256 bs) (st:RS):TookAll bs st (partsT (rTld bs st).1.1 (rTld bs st).1.2) (rTld bs st).2:=by
 unfold rTld
 have hp:=pick_took hb 1 12 st
 generalize (rPick bs 1 12 st).1=op at hp ⊢
 generalize (rPick bs 1 12 st).2=s1 at hp ⊢
 unfold rTldBody partsT
 by_cases h0:op=1∨op=2
 ·
  simp only [if_pos h0]
  exact TookAll.cons hp (TookAll.one (id_took hb _))
 simp only [if_neg h0]
 by_cases h1:op=9
 ·
  simp only [if_pos h1,if_neg (show ¬ (op=1∨op=2) from h0)]
  exact TookAll.cons hp (ans_took hb _)
 simp only [if_neg h1]
 by_cases h2:op=10∨op=11
 ·
  simp only [if_pos h2,if_neg h0,if_neg h1]
  exact TookAll.cons hp (rng_took hb _)
 simp only [if_neg h2]
 by_cases h3:op=12
 ·
  simp only [if_pos h3,if_neg h0,if_neg h1,if_neg h2]
  exact TookAll.cons hp (TookAll.cons (int_took hb _) (TookAll.cons (int_took hb _) (TookAll.one (int_took hb _))))
 simp only [if_neg h3,if_neg h0,if_neg h1,if_neg h2]
 exact TookAll.one hp
theorem v_took {bs:List Nat} (hb:B256 bs) (st:RS):TookAll bs st (partsV (rV bs st).1) (rV bs st).2∧(rV bs st).1.rep.err=0:=by
 unfold rV
 have hp:=pick_took hb 1 5 st
 generalize (rPick bs 1 5 st).1=v at hp ⊢
 generalize (rPick bs 1 5 st).2=s1 at hp ⊢
 unfold rVBody partsV
 by_cases h0:v=1
 ·
  simp only [if_pos h0]
  refine ⟨TookAll.cons hp (tld_took hb _),?_⟩
  unfold rTld rTldBody
  simp only
  repeat' split
  all_goals rfl
 simp only [if_neg h0]
 by_cases h1:v=2
 ·
  simp only [if_pos h1,if_neg h0]
  exact ⟨TookAll.cons hp (TookAll.one (id_took hb _)),rfl⟩
 simp only [if_neg h1]
 by_cases h2:v=4
 ·
  simp only [if_pos h2,if_neg h0,if_neg h1]
  exact ⟨TookAll.cons hp (TookAll.one (tok_took _)),rfl⟩
 simp only [if_neg h2,if_neg h0,if_neg h1]
 exact ⟨TookAll.one hp,rfl⟩
theorem raw_took {bs:List Nat} {n:Nat} {st:RS} {p:Prt} {s2:RS} (h:Took bs (rNext bs n st).2 p s2) (hp:∀ b,layP p=.ok b→1≤b.length):TookAll bs st [.raw (rNext bs n st).1,p] s2:=fun c hc=>by
 obtain ⟨a1,b1,e1,l1,c1,d1,t1⟩:=h c hc
 cases st with
 | error x=>cases e1
 | ok a =>
  unfold rNext at e1 ⊢
  simp only at e1 ⊢
  by_cases hl:bs.length - a<n
  ·
   rw [if_pos hl] at e1;cases e1
  ·
   rw [if_neg hl] at e1 ⊢
   injection e1 with e1
   have h1:=hp b1 l1
   have hlen:((bs.drop a).take n).length=n:=by rw [List.length_take,List.length_drop];omega
   refine ⟨a,(bs.drop a).take n++b1,rfl,fun out=>?_,by rw [List.length_append,hlen];omega,.inr d1,take_join (by rw [hlen]) (by rw [hlen,e1];exact t1)⟩
   rw [lays_cons,show lay1 (.ok out) (.raw ((bs.drop a).take n))=.ok (out++(bs.drop a).take n) from rfl,lays_cons,show lay1 (.ok (out++(bs.drop a).take n)) p=.ok (out++(bs.drop a).take n++b1) by unfold lay1;simp only [l1],lays_nil,List.append_assoc]
theorem be8_len (n:Int):(be8 n).length=8:=by unfold be8;simp
theorem f_took {bs:List Nat} (hb:B256 bs) (err:Int) (st:RS):TookAll bs st (partsF (rF err bs st).1.rep) (rF err bs st).2:=by
 unfold rF partsF
 simp only
 have hp:=pick_took hb 0 255 st
 have h0:=pick_nonneg bs 0 255 st
 generalize (rPick bs 0 255 st).1=n at hp h0 ⊢
 generalize (rPick bs 0 255 st).2=s1 at hp ⊢
 unfold rRaw
 have hi:=int_took hb (rNext bs n.toNat s1).2
 have hr:=raw_took hi (fun b h=>by rw [layP_i64] at h;injection h with h;rw [← h,be8_len];omega)
 have hl:(rNext bs n.toNat s1).1.length=n.toNat:=by
  unfold rNext
  cases s1 with
  | error x=>simp
  | ok a =>
   simp only
   split
   ·
    simp
   ·
    rw [List.length_take,List.length_drop];omega
 rw [hl,Int.toNat_of_nonneg h0]
 exact TookAll.cons hp hr
theorem x_took {bs:List Nat} (hb:B256 bs):TookAll bs (.ok 0) (partsX (rX bs (.ok 0)).1) (rX bs (.ok 0)).2:=by
 unfold rX
 have hp:=two_took hb (.ok 0)
 generalize (rTwo bs (.ok 0)).1=e at hp ⊢
 generalize (rTwo bs (.ok 0)).2=s1 at hp ⊢
 unfold rXBody partsX
 by_cases h0:e=0
 ·
  rw [if_pos h0]
  obtain ⟨h1,h2⟩:=v_took hb s1
  rw [h2,if_pos rfl]
  exact TookAll.cons (by rw [← h0];exact hp) h1
 ·
  rw [if_neg h0]
  rw [if_neg (show ¬ (rF e bs s1).1.rep.err=0 from h0)]
  exact TookAll.cons hp (f_took hb e s1)
theorem encX_dec {bs:List Nat} (hb:B256 bs) {m:Res} (h:decX bs=.ok m):encX m=.ok bs:=by
 unfold decX at h
 cases he:rEnd bs (rX bs (.ok 0)).2 with
 | some x=>rw [he] at h;cases h
 | none =>
  rw [he] at h
  injection h with h
  subst h
  unfold rEnd at he
  cases hs:(rX bs (.ok 0)).2 with
  | error x=>rw [hs] at he;cases he
  | ok c =>
   rw [hs] at he
   simp only at he
   split at he
   ·
    rename_i hc
    obtain ⟨a,b,e0,l0,c0,_,t0⟩:=x_took hb c hs
    injection e0 with e0
    subst e0
    unfold encX
    rw [l0,List.nil_append]
    rw [List.drop_zero] at t0
    have:b.length=bs.length:=by omega
    rw [this,List.take_length] at t0
    rw [t0]
   ·
    cases he
theorem two_good:Good (fun bs st=>rTwo bs st):=Good.bnd (next_good 2) (fun v=>Good.pure (un2 v))
theorem rats_good (k:Nat):∀ acc,Good (fun bs st=>rRats bs k st acc):=by
 induction k with
 | zero=>intro acc;exact Good.pure acc
 | succ k ih=>intro acc;exact Good.bnd rat_good (fun q=>ih (acc++[q]))
theorem point_good:Good (fun bs st=>rPoint bs st):=Good.bnd (pick_good 0 64) (fun n=>rats_good n.toNat [])
theorem ans_good:Good (fun bs st=>rAns bs st):=by
 refine Good.bnd (g:=fun out bs st=>rAnsBody bs out st) (pick_good 1 3) fun out=>?_
 unfold rAnsBody
 by_cases h0:out=1
 ·
  simp only [if_pos h0]
  exact Good.bnd rat_good fun v=>Good.bnd point_good fun p=>Good.pure (⟨out,v,p⟩:Ans)
 ·
  simp only [if_neg h0]
  exact Good.pure (⟨out,0,[]⟩:Ans)
theorem if_good (b:Bool):Good (fun bs st=>rIf b bs st):=by
 unfold rIf
 cases b
 ·
  exact Good.pure (0:Rat)
 ·
  exact rat_good
theorem rng_good:Good (fun bs st=>rRng bs st):=by
 refine Good.bnd (g:=fun n bs st=>rRngBody bs n st) (pick_good 0 3) fun n=>?_
 exact Good.bnd (if_good (decide (n % 2=1))) fun l=>Good.bnd (if_good (decide (n / 2 % 2=1))) fun h=>Good.pure (⟨decide (n % 2=1),decide (n / 2 % 2=1),l,h⟩:Rng)
theorem tld_good:Good (fun bs st=>rTld bs st):=by
 refine Good.bnd (g:=fun op bs st=>rTldBody bs op st) (pick_good 1 12) fun op=>?_
 unfold rTldBody
 by_cases h0:op=1∨op=2
 ·
  simp only [if_pos h0]
  exact Good.bnd id_good fun i=>Good.pure ((op,{ Rep.zero with id:=i }):Int × Rep)
 simp only [if_neg h0]
 by_cases h1:op=9
 ·
  simp only [if_pos h1]
  exact Good.bnd ans_good fun a=>Good.pure ((op,{ Rep.zero with ans:=a }):Int × Rep)
 simp only [if_neg h1]
 by_cases h2:op=10∨op=11
 ·
  simp only [if_pos h2]
  exact Good.bnd rng_good fun g=>Good.pure ((op,{ Rep.zero with rng:=g }):Int × Rep)
 simp only [if_neg h2]
 by_cases h3:op=12
 ·
  simp only [if_pos h3]
  exact Good.bnd int_good fun a=>Good.bnd int_good fun b=>Good.bnd int_good fun c=>Good.pure ((op,{ Rep.zero with u0:=a,u1:=b,u2:=c }):Int × Rep)
 simp only [if_neg h3]
 exact Good.pure ((op,Rep.zero):Int × Rep)
theorem v_good:Good (fun bs st=>rV bs st):=by
 refine Good.bnd (g:=fun v bs st=>rVBody bs v st) (pick_good 1 5) fun v=>?_
 unfold rVBody
 by_cases h0:v=1
 ·
  simp only [if_pos h0]
  exact Good.bnd tld_good fun t=>Good.pure (⟨v,t.1,[],t.2⟩:Res)
 simp only [if_neg h0]
 by_cases h1:v=2
 ·
  simp only [if_pos h1]
  exact Good.bnd id_good fun i=>Good.pure (⟨v,0,[],{ Rep.zero with id:=i }⟩:Res)
 simp only [if_neg h1]
 by_cases h2:v=4
 ·
  simp only [if_pos h2]
  exact Good.bnd tok_good fun t=>Good.pure (⟨v,0,t,Rep.zero⟩:Res)
 simp only [if_neg h2]
 exact Good.pure (⟨v,0,[],Rep.zero⟩:Res)
theorem f_good (err:Int):Good (fun bs st=>rF err bs st) :=
 Good.bnd (pick_good 0 255) fun n=>Good.bnd (next_good n.toNat) fun t=>Good.bnd int_good fun i=>Good.pure (⟨0,0,[],{ Rep.zero with err:=err,wher:=t,at9:=i }⟩:Res)
def rXAt:Rdr Res:=fun bs st=>rX bs st
theorem x_good:Good rXAt:=by
 refine Good.bnd (g:=fun e bs st=>rXBody bs e st) two_good fun e=>?_
 unfold rXBody
 by_cases h0:e=0
 ·
  simp only [if_pos h0];exact v_good
 ·
  simp only [if_neg h0];exact f_good e
theorem decX_ok {bs:List Nat} {m:Res} (h:decX bs=.ok m):rXAt bs (.ok 0)=(m,.ok bs.length):=by
 unfold decX at h
 rw [show rX bs (.ok 0)=rXAt bs (.ok 0) from rfl] at h
 cases hx:rXAt bs (.ok 0) with
 | mk v st =>
  rw [hx] at h
  cases st with
  | error x=>cases h
  | ok a =>
   unfold rEnd at h
   simp only at h
   by_cases ha:a=bs.length
   ·
    rw [if_pos ha] at h;injection h with h;rw [h,ha]
   ·
    rw [if_neg ha] at h;cases h
theorem decX_cut {bs:List Nat} (hb:B256 bs) {m:Res} (h:decX bs=.ok m) {k:Nat} (hk:k<bs.length):∃ x,decX (bs.take k)=.error (90,x):=by
 obtain ⟨x,hx⟩:=x_good.cut bs k 0 m bs.length hb (by omega) (decX_ok h) hk (by omega)
 refine ⟨x,?_⟩
 unfold decX
 rw [show rX (bs.take k) (.ok 0)=rXAt (bs.take k) (.ok 0) from rfl,hx]
 rfl
/-! What was laid is read so. -/
theorem two_gives {n:Int}:Gives (fun bs st=>rTwo bs st) n [.two n]:=fun bs a b h ht hl=>by
 have hp:=Lays.one h
 rw [layP_two] at hp
 by_cases hc:n<0∨65535<n
 ·
  rw [if_pos hc] at hp;cases hp
 rw [if_neg hc] at hp
 injection hp with hp
 have hn:=next_gives ht hl
 rw [show b.length=2 by rw [← hp];rfl] at hn ⊢
 show (un2 (rNext bs 2 (.ok a)).1,(rNext bs 2 (.ok a)).2)=_
 rw [hn]
 refine Prod.ext ?_ rfl
 show un2 b=n
 rw [← hp]
 unfold un2
 simp only [List.getD_cons_zero,List.getD_cons_succ]
 omega
theorem be8_nat (n:Int) (m:Nat) (hm:(m:Int)=n % 18446744073709551616):be8 n=[m / 72057594037927936 % 256,m / 281474976710656 % 256,m / 1099511627776 % 256,m / 4294967296 % 256,m / 16777216 % 256,m / 65536 % 256,m / 256 % 256,m % 256]:=by
 unfold be8
 rw [show List.range 8=[0,1,2,3,4,5,6,7] from rfl]
 simp only [List.map_cons,List.map_nil,List.cons.injEq,and_true]
 refine ⟨?_,?_,?_,?_,?_,?_,?_,?_⟩ <;> omega
theorem un8_be8 {n:Int} (h0:-9223372036854775808≤n) (h1:n≤9223372036854775807):wrapI (undig 256 (be8 n))=n:=by
 obtain ⟨m,hm⟩:∃ m:Nat,(m:Int)=n % 18446744073709551616:=⟨(n % 18446744073709551616).toNat,by omega⟩
 have hu:undig 256 (be8 n)=m:=by
  rw [be8_nat n m hm]
  unfold undig
  simp only [List.foldl_cons,List.foldl_nil]
  omega
 rw [hu]
 unfold wrapI
 split <;> omega
theorem int_gives {n:Int} (h0:-9223372036854775808≤n) (h1:n≤9223372036854775807):Gives (fun bs st=>rInt bs st) n [.i64 n]:=fun bs a b h ht hl=>by
 have hp:=Lays.one h
 rw [layP_i64] at hp
 injection hp with hp
 have hn:=next_gives ht hl
 rw [show b.length=8 by rw [← hp,be8_len]] at hn ⊢
 show (wrapI (undig 256 (rNext bs 8 (.ok a)).1),(rNext bs 8 (.ok a)).2)=_
 rw [hn]
 refine Prod.ext ?_ rfl
 show wrapI (undig 256 b)=n
 rw [← hp,un8_be8 h0 h1]
theorem raw_gives {t:List Nat}:Gives (fun bs st=>rRaw t.length bs st) t [.raw t]:=fun bs a b h ht hl=>by
 have hp:=Lays.one h
 rw [layP_raw] at hp
 injection hp with hp
 subst hp
 exact next_gives ht hl
theorem rats_gives (qs:List Rat):∀ acc,Gives (fun bs st=>rRats bs qs.length st acc) (acc++qs) (qs.map Prt.rat):=by
 induction qs with
 | nil=>intro acc;rw [List.append_nil];exact Gives.pure acc
 | cons q qs ih =>
  intro acc bs a b h ht hl
  have h1:Gives (bnd (fun bs st=>rRat bs st) fun q=>fun bs st=>rRats bs qs.length st (acc++[q])) (acc++[q]++qs) ([Prt.rat q]++qs.map Prt.rat):=Gives.bnd rat_gives (ih (acc++[q]))
  have h2:=h1 bs a b h ht hl
  rw [List.append_assoc] at h2
  exact h2
theorem point_gives {qs:List Rat}:Gives (fun bs st=>rPoint bs st) qs (.num qs.length 0 64::qs.map Prt.rat):=by
 have h:=Gives.bnd (g:=fun (n:Int) bs st=>rRats bs n.toNat st []) (pick_gives (n:=(qs.length:Int)) (lo:=0) (hi:=64) (by omega) (by omega)) (by
  show Gives (fun bs st=>rRats bs ((qs.length:Int)).toNat st []) qs (qs.map Prt.rat)
  rw [Int.toNat_natCast]
  exact rats_gives qs [])
 exact h
def Ans.norm (a:Ans):Ans:=if a.out=1 then a else ⟨a.out,0,[]⟩
theorem ans_gives (a:Ans):Gives (fun bs st=>rAns bs st) a.norm (partsA a):=by
 refine Gives.bnd (g:=fun out bs st=>rAnsBody bs out st) (ps:=[.num a.out 1 3]) (qs:=if a.out=1 then .rat a.value::.num a.point.length 0 64::a.point.map .rat else []) (pick_gives (n:=a.out) (by omega) (by omega)) ?_
 unfold rAnsBody Ans.norm
 by_cases h0:a.out=1
 ·
  simp only [if_pos h0]
  have e:Gives (bnd (fun bs st=>rRat bs st) fun v=>bnd (fun bs st=>rPoint bs st) fun p=>fun _ st=>((⟨a.out,v,p⟩:Ans),st)) ⟨a.out,a.value,a.point⟩ ([Prt.rat a.value]++((Prt.num a.point.length 0 64::a.point.map Prt.rat)++[])):=Gives.bnd rat_gives (Gives.bnd point_gives (Gives.pure _))
  rw [List.append_nil] at e
  exact e
 ·
  simp only [if_neg h0]
  exact Gives.pure _
theorem if_gives (b:Bool) (q:Rat):Gives (fun bs st=>rIf b bs st) (if b=true then q else 0) (if b=true then [.rat q] else []):=by
 unfold rIf
 cases b
 ·
  exact Gives.pure (0:Rat)
 ·
  exact rat_gives
def Rng.norm (x:Rng):Rng:=⟨x.hasLo,x.hasHi,if x.hasLo=true then x.lo else 0,if x.hasHi=true then x.hi else 0⟩
theorem rng_gives (x:Rng):Gives (fun bs st=>rRng bs st) x.norm (partsG x):=by
 refine Gives.bnd (g:=fun n bs st=>rRngBody bs n st) (ps:=[.num (flg x.hasLo 1+flg x.hasHi 2) 0 3]) (qs:=(if x.hasLo=true then [.rat x.lo] else [])++(if x.hasHi=true then [.rat x.hi] else [])) (pick_gives (by omega) (by omega)) ?_
 have e1:decide ((flg x.hasLo 1+flg x.hasHi 2) % 2=1)=x.hasLo:=by cases x.hasLo <;> cases x.hasHi <;> rfl
 have e2:decide ((flg x.hasLo 1+flg x.hasHi 2) / 2 % 2=1)=x.hasHi:=by cases x.hasLo <;> cases x.hasHi <;> rfl
 unfold rRngBody Rng.norm
 simp only [e1,e2]
 have e:Gives (bnd (fun bs st=>rIf x.hasLo bs st) fun l=>bnd (fun bs st=>rIf x.hasHi bs st) fun h=>fun _ st=>((⟨x.hasLo,x.hasHi,l,h⟩:Rng),st)) ⟨x.hasLo,x.hasHi,if x.hasLo=true then x.lo else 0,if x.hasHi=true then x.hi else 0⟩ ((if x.hasLo=true then [Prt.rat x.lo] else [])++((if x.hasHi=true then [Prt.rat x.hi] else [])++[])):=Gives.bnd (if_gives _ _) (Gives.bnd (if_gives _ _) (Gives.pure _))
 rw [List.append_nil] at e
 exact e
def Rep.norm (op:Int) (p:Rep):Rep :=
 if op=1∨op=2 then { Rep.zero with id:=p.id }
 else if op=9 then { Rep.zero with ans:=p.ans.norm }
 else if op=10∨op=11 then { Rep.zero with rng:=p.rng.norm }
 else if op=12 then { Rep.zero with u0:=p.u0,u1:=p.u1,u2:=p.u2 }
 else Rep.zero
def I64s (n:Int):Prop:=-9223372036854775808≤n∧n≤9223372036854775807
structure Rep.ok (p:Rep):Prop where
 at9:I64s p.at9
 u0:I64s p.u0
 u1:I64s p.u1
 u2:I64s p.u2
theorem tld_gives (op:Int) (p:Rep) (hp:p.ok):Gives (fun bs st=>rTld bs st) (op,p.norm op) (partsT op p):=by
  refine Gives.bnd (g:=fun op bs st=>rTldBody bs op st) (ps:=[.num op 1 12]) (qs:=if op=1∨op=2 then [.idn p.id]
   else if op=9 then partsA p.ans
   else if op=10∨op=11 then partsG p.rng
   else if op=12 then [.i64 p.u0,.i64 p.u1,.i64 p.u2]
   else []) (pick_gives (n:=op) (by omega) (by omega)) ?_
  unfold rTldBody Rep.norm
  by_cases h0:op=1∨op=2
  · simp only [if_pos h0]
    have e:Gives (bnd (fun bs st=>rId bs st) fun i=>fun _ st=>(((op,{ Rep.zero with id:=i }):Int × Rep),st)) (op,{ Rep.zero with id:=p.id }) ([Prt.idn p.id]++[]):=Gives.bnd id_gives (Gives.pure _)
    exact e
  simp only [if_neg h0]
  by_cases h1:op=9
  · simp only [if_pos h1]
    have e:Gives (bnd (fun bs st=>rAns bs st) fun a=>fun _ st=>(((op,{ Rep.zero with ans:=a }):Int × Rep),st)) (op,{ Rep.zero with ans:=p.ans.norm }) (partsA p.ans++[]):=Gives.bnd (ans_gives _) (Gives.pure _)
    rw [List.append_nil] at e
    exact e
  simp only [if_neg h1]
  by_cases h2:op=10∨op=11
  · simp only [if_pos h2]
    have e:Gives (bnd (fun bs st=>rRng bs st) fun a=>fun _ st=>(((op,{ Rep.zero with rng:=a }):Int × Rep),st)) (op,{ Rep.zero with rng:=p.rng.norm }) (partsG p.rng++[]):=Gives.bnd (rng_gives _) (Gives.pure _)
    rw [List.append_nil] at e
    exact e
  simp only [if_neg h2]
  by_cases h3:op=12
  · simp only [if_pos h3]
    have e:Gives (bnd (fun bs st=>rInt bs st) fun a=>bnd (fun bs st=>rInt bs st) fun b=>bnd (fun bs st=>rInt bs st) fun c=>fun _ st=>(((op,{ Rep.zero with u0:=a,u1:=b,u2:=c }):Int × Rep),st)) (op,{ Rep.zero with u0:=p.u0,u1:=p.u1,u2:=p.u2 }) ([Prt.i64 p.u0]++([Prt.i64 p.u1]++([Prt.i64 p.u2]++[]))):=Gives.bnd (int_gives hp.u0.1 hp.u0.2) (Gives.bnd (int_gives hp.u1.1 hp.u1.2) (Gives.bnd (int_gives hp.u2.1 hp.u2.2) (Gives.pure _)))
    exact e
  simp only [if_neg h3]
  exact Gives.pure _
def Res.norm (x:Res):Res :=
  if x.rep.err=0 then
    (if x.verb=1 then ⟨x.verb,x.op,[],x.rep.norm x.op⟩
     else if x.verb=2 then ⟨x.verb,0,[],{ Rep.zero with id:=x.rep.id }⟩
     else if x.verb=4 then ⟨x.verb,0,x.token,Rep.zero⟩
     else ⟨x.verb,0,[],Rep.zero⟩)
  else ⟨0,0,[],{ Rep.zero with err:=x.rep.err,wher:=x.rep.wher,at9:=x.rep.at9 }⟩
theorem x_gives (x:Res) (hx:x.rep.ok):Gives rXAt x.norm (partsX x):=by
  refine Gives.bnd (g:=fun e bs st=>rXBody bs e st) (ps:=[.two x.rep.err]) (qs:=if x.rep.err=0 then partsV x else partsF x.rep) two_gives ?_
  unfold rXBody Res.norm
  by_cases h0:x.rep.err=0
  · simp only [if_pos h0]
    refine Gives.bnd (g:=fun v bs st=>rVBody bs v st) (ps:=[.num x.verb 1 5]) (qs:=if x.verb=1 then partsT x.op x.rep
   else if x.verb=2 then [.idn x.rep.id]
   else if x.verb=4 then [.tok x.token]
   else []) (pick_gives (n:=x.verb) (by omega) (by omega)) ?_
    unfold rVBody
    by_cases h1:x.verb=1
    · simp only [if_pos h1]
      have e:Gives (bnd (fun bs st=>rTld bs st) fun t=>fun _ st=>((⟨x.verb,t.1,[],t.2⟩:Res),st)) ⟨x.verb,x.op,[],x.rep.norm x.op⟩ (partsT x.op x.rep++[]):=Gives.bnd (tld_gives x.op x.rep hx) (Gives.pure _)
      rw [List.append_nil] at e
      exact e
    simp only [if_neg h1]
    by_cases h2:x.verb=2
    · simp only [if_pos h2]
      have e:Gives (bnd (fun bs st=>rId bs st) fun i=>fun _ st=>((⟨x.verb,0,[],{ Rep.zero with id:=i }⟩:Res),st)) ⟨x.verb,0,[],{ Rep.zero with id:=x.rep.id }⟩ ([Prt.idn x.rep.id]++[]):=Gives.bnd id_gives (Gives.pure _)
      exact e
    simp only [if_neg h2]
    by_cases h3:x.verb=4
    · simp only [if_pos h3]
      have e:Gives (bnd (fun bs st=>rTok bs st) fun t=>fun _ st=>((⟨x.verb,0,t,Rep.zero⟩:Res),st)) ⟨x.verb,0,x.token,Rep.zero⟩ ([Prt.tok x.token]++[]):=Gives.bnd tok_gives (Gives.pure _)
      exact e
    simp only [if_neg h3]
    exact Gives.pure _
  · simp only [if_neg h0]
    unfold rF partsF
    have e:Gives (bnd (fun bs st=>rPick bs 0 255 st) fun n=>bnd (fun bs st=>rRaw n.toNat bs st) fun t=>bnd (fun bs st=>rInt bs st) fun i=>fun _ st=>((⟨0,0,[],{ Rep.zero with err:=x.rep.err,wher:=t,at9:=i }⟩:Res),st)) ⟨0,0,[],{ Rep.zero with err:=x.rep.err,wher:=x.rep.wher,at9:=x.rep.at9 }⟩ ([Prt.num x.rep.wher.length 0 255]++([Prt.raw x.rep.wher]++([Prt.i64 x.rep.at9]++[]))) :=
      Gives.bnd (pick_gives (by omega) (by omega)) (Gives.bnd (by rw [Int.toNat_natCast];exact raw_gives) (Gives.bnd (int_gives hx.at9.1 hx.at9.2) (Gives.pure _)))
    exact e
theorem decX_enc {x:Res} (hx:x.rep.ok) {b:List Nat} (h:encX x=.ok b):decX b=.ok x.norm:=by
 obtain ⟨b',hb,hl⟩:=lays_base h
 rw [List.nil_append] at hb
 subst hb
 have h6:=x_gives x hx b 0 b hl (by rw [List.drop_zero,List.take_length]) (by omega)
 unfold decX
 rw [show rX b (.ok 0)=rXAt b (.ok 0) from rfl,h6]
 unfold rEnd
 simp only
 rw [if_pos (by omega)]
/-! Where an error is told. -/
def OkSt (bs:List Nat) (st:RS):Prop:=match st with
 | .ok a=>a≤bs.length
 | .error x=>x.2≤bs.length∧(x.1=90∨x.1=91∨x.1=270)
def Inb {α:Type} (f:Rdr α):Prop:=∀ bs st,B256 bs→OkSt bs st→OkSt bs (f bs st).2
theorem Inb.pure {α:Type} (v:α):Inb (fun _ st=>(v,st)):=fun _ _ _ h=>h
theorem Inb.bnd {α β:Type} {f:Rdr α} {g:α→Rdr β} (hf:Inb f) (hg:∀ v,Inb (g v)):Inb (bnd f g):=fun bs st hb h=>hg _ bs _ hb (hf bs st hb h)
theorem next_inb (n:Nat):Inb (fun bs st=>rNext bs n st):=fun bs st hb h=>by
 unfold rNext
 cases st with
 | error x=>exact h
 | ok a =>
  have h:a≤bs.length:=h
  simp only
  by_cases hl:bs.length - a<n
  ·
   rw [if_pos hl];exact ⟨h,.inl rfl⟩
  ·
   rw [if_neg hl];show a+n≤bs.length;omega
theorem pick_inb (lo hi:Int):Inb (fun bs st=>rPick bs lo hi st):=fun bs st hb h=>by
 have hn:=next_inb 1 bs st hb h
 unfold rPick
 simp only at hn ⊢
 cases hx:rNext bs 1 st with
 | mk b s1 =>
  rw [hx] at hn
  cases s1 with
  | error x=>exact hn
  | ok a =>
   have hn:a≤bs.length:=hn
   show OkSt bs (if ((b.headD 0:Nat):Int)<lo∨hi<((b.headD 0:Nat):Int) then (.error (270,a - 1):RS) else .ok a)
   split
   ·
    exact ⟨by show a - 1≤bs.length;omega,.inr (.inr rfl)⟩
   ·
    exact hn
theorem id_inb:Inb (fun bs st=>rId bs st):=fun bs st hb h=>by
 have hn:=next_inb 4 bs st hb h
 unfold rId
 simp only at hn ⊢
 cases hx:rNext bs 4 st with
 | mk b s1 =>
  rw [hx] at hn
  cases s1 with
  | error x=>exact hn
  | ok a =>
   have hn:a≤bs.length:=hn
   show OkSt bs (if 127<b.getD 0 0 then (.error (270,a - 4):RS) else .ok a)
   split
   ·
    exact ⟨by show a - 4≤bs.length;omega,.inr (.inr rfl)⟩
   ·
    exact hn
theorem rat_inb:Inb (fun bs st=>rRat bs st):=fun bs st hb h=>by
 unfold rRat
 cases st with
 | error x=>exact h
 | ok a =>
  have h:a≤bs.length:=h
  simp only
  cases hd:decR (bs.drop a) with
  | error f =>
   refine ⟨h,?_⟩
   rcases dec_err hd with e | e
   ·
    exact .inl e
   ·
    exact .inr (.inl e)
  | ok x =>
   obtain ⟨q,n⟩:=x
   obtain ⟨_,_,h2⟩:=enc_dec (hb.drop a) hd
   rw [List.length_drop] at h2
   show a+n≤bs.length
   omega
theorem tok_inb:Inb (fun bs st=>rTok bs st):=next_inb 8
theorem int_inb:Inb (fun bs st=>rInt bs st):=Inb.bnd (next_inb 8) (fun v=>Inb.pure (wrapI (undig 256 v)))
theorem rats_inb (k:Nat):∀ acc,Inb (fun bs st=>rRats bs k st acc):=by
 induction k with
 | zero=>intro acc;exact Inb.pure acc
 | succ k ih=>intro acc;exact Inb.bnd rat_inb (fun q=>ih (acc++[q]))
theorem point_inb:Inb (fun bs st=>rPoint bs st):=Inb.bnd (pick_inb 0 64) (fun n=>rats_inb n.toNat [])
theorem ans_inb:Inb (fun bs st=>rAns bs st):=by
 refine Inb.bnd (g:=fun out bs st=>rAnsBody bs out st) (pick_inb 1 3) fun out=>?_
 unfold rAnsBody
 by_cases h0:out=1
 ·
  simp only [if_pos h0]
  exact Inb.bnd rat_inb fun v=>Inb.bnd point_inb fun p=>Inb.pure (⟨out,v,p⟩:Ans)
 ·
  simp only [if_neg h0]
  exact Inb.pure (⟨out,0,[]⟩:Ans)
theorem if_inb (b:Bool):Inb (fun bs st=>rIf b bs st):=by
 unfold rIf
 cases b
 ·
  exact Inb.pure (0:Rat)
 ·
  exact rat_inb
theorem rng_inb:Inb (fun bs st=>rRng bs st):=by
 refine Inb.bnd (g:=fun n bs st=>rRngBody bs n st) (pick_inb 0 3) fun n=>?_
 exact Inb.bnd (if_inb (decide (n % 2=1))) fun l=>Inb.bnd (if_inb (decide (n / 2 % 2=1))) fun h=>Inb.pure (⟨decide (n % 2=1),decide (n / 2 % 2=1),l,h⟩:Rng)
theorem tld_inb:Inb (fun bs st=>rTld bs st):=by
 refine Inb.bnd (g:=fun op bs st=>rTldBody bs op st) (pick_inb 1 12) fun op=>?_
 unfold rTldBody
 by_cases h0:op=1∨op=2
 ·
  simp only [if_pos h0]
  exact Inb.bnd id_inb fun i=>Inb.pure ((op,{ Rep.zero with id:=i }):Int × Rep)
 simp only [if_neg h0]
 by_cases h1:op=9
 ·
  simp only [if_pos h1]
  exact Inb.bnd ans_inb fun a=>Inb.pure ((op,{ Rep.zero with ans:=a }):Int × Rep)
 simp only [if_neg h1]
 by_cases h2:op=10∨op=11
 ·
  simp only [if_pos h2]
  exact Inb.bnd rng_inb fun g=>Inb.pure ((op,{ Rep.zero with rng:=g }):Int × Rep)
 simp only [if_neg h2]
 by_cases h3:op=12
 ·
  simp only [if_pos h3]
  exact Inb.bnd int_inb fun a=>Inb.bnd int_inb fun b=>Inb.bnd int_inb fun c=>Inb.pure ((op,{ Rep.zero with u0:=a,u1:=b,u2:=c }):Int × Rep)
 simp only [if_neg h3]
 exact Inb.pure ((op,Rep.zero):Int × Rep)
theorem x_inb:Inb rXAt:=by
 refine Inb.bnd (g:=fun e bs st=>rXBody bs e st) (Inb.bnd (next_inb 2) (fun v=>Inb.pure (un2 v))) fun e=>?_
 unfold rXBody
 by_cases h0:e=0
 ·
  simp only [if_pos h0]
  refine Inb.bnd (g:=fun v bs st=>rVBody bs v st) (pick_inb 1 5) fun v=>?_
  unfold rVBody
  by_cases h0:v=1
  ·
   simp only [if_pos h0]
   exact Inb.bnd tld_inb fun t=>Inb.pure (⟨v,t.1,[],t.2⟩:Res)
  simp only [if_neg h0]
  by_cases h1:v=2
  ·
   simp only [if_pos h1]
   exact Inb.bnd id_inb fun i=>Inb.pure (⟨v,0,[],{ Rep.zero with id:=i }⟩:Res)
  simp only [if_neg h1]
  by_cases h2:v=4
  ·
   simp only [if_pos h2]
   exact Inb.bnd tok_inb fun t=>Inb.pure (⟨v,0,t,Rep.zero⟩:Res)
  simp only [if_neg h2]
  exact Inb.pure (⟨v,0,[],Rep.zero⟩:Res)
 ·
  simp only [if_neg h0]
  exact Inb.bnd (pick_inb 0 255) fun n=>Inb.bnd (next_inb n.toNat) fun t=>Inb.bnd int_inb fun i=>Inb.pure (⟨0,0,[],{ Rep.zero with err:=e,wher:=t,at9:=i }⟩:Res)
theorem decX_err {bs:List Nat} (hb:B256 bs) {x:Int × Nat} (h:decX bs=.error x):x.2≤bs.length∧(x.1=90∨x.1=91∨x.1=270):=by
 have h1:=x_inb bs (.ok 0) hb (Nat.zero_le _)
 unfold decX at h
 rw [show rX bs (.ok 0)=rXAt bs (.ok 0) from rfl] at h
 cases hs:(rXAt bs (.ok 0)).2 with
 | error y =>
  rw [hs] at h h1
  injection h with h
  subst h
  exact h1
 | ok a =>
  rw [hs] at h h1
  unfold rEnd at h
  simp only at h
  by_cases ha:a=bs.length
  ·
   rw [if_pos ha] at h;cases h
  ·
   rw [if_neg ha] at h
   injection h with h
   subst h
   exact ⟨h1,.inr (.inr rfl)⟩
end Go.Proofs.YtmhainidincjhaaGreatDoor
