/-
 What the laws stand on, part Xd: contracts and plain laws of MAwakeS, NResB; the conditions are each law's own.
-/
import Derived.Test.YtmhainidincjhaaGreatDoorBC
import Derived.Test.YtmhainidincjhaaGreatDoorBXa
import Derived.Test.YtmhainidincjhaaGreatDoorBXc
set_option linter.unusedVariables false
set_option linter.unusedSimpArgs false
set_option maxRecDepth 100000
set_option maxHeartbeats 16000000
namespace Go.Proofs.YtmhainidincjhaaGreatDoor
open Go.RowKit Go.Extern.Stop Go.Stop Go.Extern
theorem menc_17 (ses rig row col kind:Int) (tk ot:ByteArray) (r:Rv) (ea:Option Addr) (en ec:Nat) (es:List EntV) (w:World) (sF:WS) (HSF:Hid (lays (.ok []) (.num 1 1 5::.tok (natB tk)::.idn ses::.num 7 1 12::.idn col::.rat r.q::[])=sF)) (ht:tk.size≤4294967296) (hot:ot.size≤4294967296) (hr:r.ok w) (hq1:lenW r.q.num.natAbs≤1099511627776) (hq2:lenW r.q.den≤1099511627776) (hE:EntsW w ea en ec es) (hen:en≤4294967296) (hec:en≤134217728) :
  Calls Tryz.prog 18 #[.agg #[.int .i64 1,.string tk,.int .i64 ses,.int .i64 rig,.string ot,.int .i64 7,.int .i64 row,.int .i64 col,.int .i64 kind,.bool r.s,.slice r.a r.l r.c,.slice r.b r.m r.d,.slice ea en ec]] w (RetM sF w):=by
 have hb0:BS w [⟨w.heap.size+1,140,[.slice none 0 0,.nilIface]⟩,⟨w.heap.size,50,[.int .i64 1,.string tk,.int .i64 ses,.int .i64 rig,.string ot,.int .i64 7,.int .i64 row,.int .i64 col,.int .i64 kind,.bool r.s,.slice r.a r.l r.c,.slice r.b r.m r.d,.slice ea en ec]⟩] [] ((w.alloc (.cells #[.int .i64 1,.string tk,.int .i64 ses,.int .i64 rig,.string ot,.int .i64 7,.int .i64 row,.int .i64 col,.int .i64 kind,.bool r.s,.slice r.a r.l r.c,.slice r.b r.m r.d,.slice ea en ec] 50)).alloc (.cells #[.slice none 0 0,.nilIface] 140)) :=
  BS.swap2 (bs:=[]) (((BS.start w).alloc (p:=w.heap.size) rfl 50 [.int .i64 1,.string tk,.int .i64 ses,.int .i64 rig,.string ot,.int .i64 7,.int .i64 row,.int .i64 col,.int .i64 kind,.bool r.s,.slice r.a r.l r.c,.slice r.b r.m r.d,.slice ea en ec] rfl).alloc (p:=w.heap.size+1) (by simp) 140 [.slice none 0 0,.nilIface] rfl)
 obtain ⟨w1,hw1⟩:∃ w1,w1=((w.alloc (.cells #[.int .i64 1,.string tk,.int .i64 ses,.int .i64 rig,.string ot,.int .i64 7,.int .i64 row,.int .i64 col,.int .i64 kind,.bool r.s,.slice r.a r.l r.c,.slice r.b r.m r.d,.slice ea en ec] 50)).alloc (.cells #[.slice none 0 0,.nilIface] 140)):=⟨_,rfl⟩
 rw [← hw1] at hb0
 obtain ⟨pb,hpb⟩:∃ pb,w.heap.size+1=pb:=⟨_,rfl⟩
 rw [hpb] at hb0
 have HW:=qH (show WB w [⟨w.heap.size,50,[.int .i64 1,.string tk,.int .i64 ses,.int .i64 rig,.string ot,.int .i64 7,.int .i64 row,.int .i64 col,.int .i64 kind,.bool r.s,.slice r.a r.l r.c,.slice r.b r.m r.d,.slice ea en ec]⟩] [] pb (.ok []) 0 w1 from ⟨none,0,0,[],.nilIface,YB.start hb0,Nat.le_refl _,rfl,rfl⟩)
 have HWE:=qH hw1
 have HPB:=qH hpb
 have HR:=qH hr
 have HE:=qH hE
 clear hb0 hw1 hpb hr hE
 have ⟨m0,m1,m2,m3,m4,m5,m6,m7,m8,m9,m10,m11,m12⟩:=cz13 (WB.last (bs:=[]) HW.out)
 go_enter Tryz.func18,Tryz.ntmps18
 go_upto_region 2 with fail
 rw [← HWE.out]
 (try simp only [HPB.out])
 have HC:=qH (pick_any (1:Int) 1 5 w1 HW.out (by omega))
 go_wp2_with fail
 refine HC.out.mono ?_
 rintro e w2 ⟨rfl,h2⟩
 clear HC HW m0 m1 m2 m3 m4 m5 m6 m7 m8 m9 m10 m11 m12
 have HW:=qH h2
 clear h2
 have ⟨m0,m1,m2,m3,m4,m5,m6,m7,m8,m9,m10,m11,m12⟩:=cz13 (WB.last (bs:=[]) HW.out)
 have HC:=qH (wtok_any tk w2 HW.out (by omega) (by omega))
 go_wp2_with fail
 refine HC.out.mono ?_
 rintro e w3 ⟨rfl,h2⟩
 clear HC HW m0 m1 m2 m3 m4 m5 m6 m7 m8 m9 m10 m11 m12
 have HW:=qH h2
 clear h2
 have ⟨m0,m1,m2,m3,m4,m5,m6,m7,m8,m9,m10,m11,m12⟩:=cz13 (WB.last (bs:=[]) HW.out)
 have HC:=qH (wid_any ses w3 HW.out (by omega))
 go_wp2_with fail
 refine HC.out.mono ?_
 rintro e w4 ⟨rfl,h2⟩
 clear HC HW m0 m1 m2 m3 m4 m5 m6 m7 m8 m9 m10 m11 m12
 have HW:=qH h2
 clear h2
 have ⟨m0,m1,m2,m3,m4,m5,m6,m7,m8,m9,m10,m11,m12⟩:=cz13 (WB.last (bs:=[]) HW.out)
 have HC:=qH (wask_7 row col kind r ea en ec es w4 HW.out HR.out hq1 hq2 HE.out (by omega))
 go_wp2_with fail
 refine HC.out.mono ?_
 rintro e w5 ⟨rfl,h2⟩
 clear HC HW m0 m1 m2 m3 m4 m5 m6 m7 m8 m9 m10 m11 m12
 have HW:=qH h2
 clear h2
 have h9:WB w [⟨w.heap.size,50,[.int .i64 1,.string tk,.int .i64 ses,.int .i64 rig,.string ot,.int .i64 7,.int .i64 row,.int .i64 col,.int .i64 kind,.bool r.s,.slice r.a r.l r.c,.slice r.b r.m r.d,.slice ea en ec]⟩] [] pb (lays (.ok []) (.num 1 1 5::.tok (natB tk)::.idn ses::.num 7 1 12::.idn col::.rat r.q::[])) _ w5:=HW.out
 rw [HSF.out] at h9
 obtain ⟨a,n,c,xs,ev,hy,hn,hs⟩:=h9
 have k0:=hy.st.cell 0 0 rfl rfl
 have k1:=hy.st.cell 0 1 rfl rfl
 have HY:=qH hy
 clear hy hn HW
 cases sF with
 | ok out =>
  obtain ⟨rfl,rfl⟩:=hs
  obtain ⟨n,rfl⟩:∃ n',n=n':=⟨_,rfl⟩
  go_wp2_with fail
  refine bodyPost_ret (v:=.tuple #[.slice a n c,.nilIface]) (by simp [results,Tryz.results18,go_sem]) rfl ?_
  have hl:=HY.out.len
  subst hl
  exact ⟨a,c,rfl,HY.out.mid,HY.out.st.bel⟩
 | error x =>
  have HS:=qH hs
  obtain ⟨eb,u,rfl,_⟩:=hs
  unfold eF at k1
  go_wp2_with fail
  go_quiet (fail)
  go_wp2_with fail
  refine bodyPost_ret (v:=.tuple #[.slice none 0 0,.iface 211 (.pointer (some ⟨eb,0,none⟩))]) (by simp [results,Tryz.results18,go_sem]) rfl ?_
  exact ⟨_,rfl,ErrB.keeps HS.out (Keeps.drewN _ _ (fun _=>False)) (fun _ _ _ h=>h) (fun _ _ _=>trivial),(HY.out.st.drewN _).bel⟩
def showRV:RepV:=⟨0,⟨#[]⟩,0,0,0,Rv.zero,none,0,0,[],Rv.zero,Rv.zero,false,false,1,0,0⟩
theorem showRV_ok (w:World):showRV.ok w:=⟨by show (0:Nat)≤_;omega,Rv.zero_ok _,Rv.zero_sh.num,Rv.zero_sh.den,⟨rfl,Sl.ofMid (Mid.nil w 0 45 3),fun _ h=>(by cases h)⟩,fun _ h=>(by cases h),by show (0:Nat)≤_;omega,Rv.zero_ok _,Rv.zero_sh.num,Rv.zero_sh.den,Rv.zero_ok _,Rv.zero_sh.num,Rv.zero_sh.den⟩
theorem show_enc:∃ l,encX ⟨1,12,natB ⟨#[]⟩,showRV.rep⟩=.ok l∧l.length=28:=⟨_,rfl,rfl⟩
theorem mawakeS (w:World) (hg:Hg w):Calls Tryz.prog 16 #[] w fun e w'=>e=.returned (.bool true)∧Below w.heap.size w w':=by
 obtain ⟨q,hq⟩:∃ q,Rat.divInt 1 2=q:=⟨_,rfl⟩
 have h1:lenW q.num.natAbs≤1:=by rw [← hq,half_num];exact smallW (by unfold W64;omega)
 have h2:lenW q.den≤1:=by rw [← hq,half_den];exact smallW (by unfold W64;omega)
 have hof:=fun (W:World)=>rof_any (Nat.le_refl 4398046511104) div_upto (by omega) (by omega) 1 2 W (by omega) (by omega) (by omega) (by omega) (by omega)
 rw [hq] at hof
 have he2:=encM_2
 rw [hq] at he2
 obtain ⟨l28,hl28,hn28⟩:=show_enc
 refine mawake_walk (decide (q.num<0)) q.num.natAbs (denN q.den) w (qH hg) (qH fun W=>?_) (qH hof) (qH fun a8 c8 b9 d9 W q1 q2=>?_)
  (qH fun W=>?_) (qH fun W=>?_) (qH fun a c W h=>conv_any a _ c _ W h) (qH fun a c W h=>conv_any a _ c _ W h)
  (qH fun eb W hg h=>told_B _ 90 1 _ W hg h)
 ·
  have h:=menc_else 2 rfl rfl rfl rfl 0 0 0 0 0 0 ⟨#[97,98,99,100,101,102,103,104]⟩ ⟨#[]⟩ Rv.zero none 0 0 [] W (.ok [2,97,98,99,100,101,102,103,104]) (qH encM_1) (by show (8:Nat)≤_;omega) (by show (0:Nat)≤_;omega) (Rv.zero_ok W) Rv.zero_sh.num Rv.zero_sh.den ⟨rfl,Sl.ofMid (Mid.nil W 0 146 4),fun _ h=>(by cases h)⟩ (by omega) (by omega)
  exact h.mono fun e w' ⟨a,c,he,hm,hb⟩=>⟨a,c,he,Sl.ofMid hm,hb⟩
 ·
  have h:=menc_17 1 0 0 2 0 ⟨#[97,98,99,100,101,102,103,104]⟩ ⟨#[]⟩ ⟨decide (q.num<0),a8,lenW q.num.natAbs,c8,b9,lenW (denN q.den),d9,q⟩ none 0 0 [] W (.ok [1,97,98,99,100,101,102,103,104,0,0,0,1,7,0,0,0,2,3,1,2,1,1]) (qH he2) (by show (8:Nat)≤_;omega) (by show (0:Nat)≤_;omega) ⟨rfl,rfl,rfl,q1,q2⟩ (by show lenW q.num.natAbs≤_;omega) (by show lenW q.den≤_;omega) ⟨rfl,Sl.ofMid (Mid.nil W 0 146 4),fun _ h=>(by cases h)⟩ (by omega) (by omega)
  exact h.mono fun e w' ⟨a,c,he,hm,hb⟩=>⟨a,c,he,Sl.ofMid hm,hb⟩
 ·
  have h:=mdec_bad _ _ _ _ (90,1) _ (bytes_abc W.heap.size (W.alloc (.cells #[.int .u8 2,.int .u8 97,.int .u8 98,.int .u8 99] 5 (4,5))) (heap_alloc_new' W _)) (by decide) (by omega) (by decide) rfl
  refine h.mono fun e w' hh=>?_
  obtain ⟨v,he,hv,hb⟩:=hh
  have hv0:=hv
  obtain ⟨eb,u,rfl,_⟩:=hv
  exact ⟨eb,he,hv0,bthen (belowBox W _) hb⟩
 ·
  have h:=eres_any 1 12 ⟨#[]⟩ showRV W (showRV_ok W) (by show (0:Nat)≤_;omega)
  rw [hl28] at h
  exact h.mono fun e w' ⟨a,c,he,hm,hb⟩=>⟨a,c,by rw [he,hn28],hb⟩
end Go.Proofs.YtmhainidincjhaaGreatDoor
namespace Go.Proofs.YtmhainidincjhaaGreatDoor
def PB:Prt→Prop
 | .tok t=>∀ x,x∈t→x<256
 | .raw t=>(∀ x,x∈t→x<256)∧t.length≤1048576
 | _=>True
theorem layP_big {p:Prt} (hp:PB p) {b:List Nat} (h:layP p=.ok b):(∀ x,x∈b→x<256)∧b.length≤1048576:=by
 cases p with
 | num n lo hi =>
  rw [layP_num] at h;split at h
  ·
   cases h
  ·
   injection h with h;subst h;refine ⟨fun x hx=>?_,by simp⟩;simp only [List.mem_singleton] at hx;omega
 | idn n =>
  rw [layP_idn] at h;split at h
  ·
   cases h
  ·
   injection h with h;subst h;refine ⟨fun x hx=>?_,by simp [be4]⟩;simp only [be4,List.mem_cons,List.not_mem_nil,or_false] at hx;omega
 | tok t =>
  rw [layP_tok] at h;split at h
  ·
   injection h with h;subst h;exact ⟨hp,by omega⟩
  ·
   cases h
 | rat q =>
  rw [layP_rat] at h
  cases he:encR q with
  | ok l=>rw [he] at h;injection h with h;subst h;have:=(enc_small he).2.2;exact ⟨(enc_lt he).1,by omega⟩
  | error f=>rw [he] at h;cases h
 | i64 n =>
  rw [layP_i64] at h;injection h with h;subst h
  refine ⟨fun x hx=>?_,by simp [be8]⟩
  obtain ⟨k,_,rfl⟩:=List.mem_map.1 hx
  omega
 | raw t=>rw [layP_raw] at h;injection h with h;subst h;exact hp
 | two n =>
  rw [layP_two] at h;split at h
  ·
   cases h
  ·
   injection h with h;subst h;refine ⟨fun x hx=>?_,by simp⟩;simp only [List.mem_cons,List.not_mem_nil,or_false] at hx;omega
theorem lays_big:∀ (ps:List Prt) (out l:List Nat),(∀ p,p∈ps→PB p)→(∀ x,x∈out→x<256)→lays (.ok out) ps=.ok l→(∀ x,x∈l→x<256)∧out.length≤l.length∧l.length≤out.length+1048576*ps.length
 | [],out,l,_,ho,h=>by
  rw [lays_nil] at h;injection h with h;subst h;exact ⟨ho,Nat.le_refl _,by simp⟩
 | p::ps,out,l,hp,ho,h=>by
  rw [lays_cons] at h
  cases hb:layP p with
  | error e =>
   rw [show lay1 (.ok out) p=.error (e,out.length) from by unfold lay1;simp only [hb],lays_error] at h
   cases h
  | ok b =>
   rw [show lay1 (.ok out) p=.ok (out++b) from by unfold lay1;simp only [hb]] at h
   obtain ⟨g1,g2⟩:=layP_big (hp p (by simp)) hb
   obtain ⟨k1,k2,k3⟩:=lays_big ps (out++b) l (fun q hq=>hp q (by simp [hq])) (fun x hx=>(List.mem_append.1 hx).elim (ho x) (g1 x)) h
   rw [List.length_append] at k2 k3
   rw [List.length_cons]
   exact ⟨k1,by omega,by omega⟩
theorem partsA_PB (a:Ans):(∀ p,p∈partsA a→PB p)∧(partsA a).length≤a.point.length+3:=by
 have hr:∀ l:List Rat,∀ p,p∈l.map Prt.rat→PB p:=fun l p hp=>by
  obtain ⟨q,_,rfl⟩:=List.mem_map.1 hp;trivial
 unfold partsA
 split
 ·
  exact ⟨List.forall_mem_cons.2 ⟨trivial,List.forall_mem_cons.2 ⟨trivial,List.forall_mem_cons.2 ⟨trivial,hr _⟩⟩⟩,by simp⟩
 ·
  exact ⟨List.forall_mem_cons.2 ⟨trivial,fun p h=>(by cases h)⟩,by simp⟩
theorem partsG_PB (x:Rng):(∀ p,p∈partsG x→PB p)∧(partsG x).length≤3:=by
 unfold partsG
 constructor
 ·
  refine List.forall_mem_cons.2 ⟨trivial,fun p hp=>?_⟩
  rcases List.mem_append.1 hp with hp | hp <;> split at hp <;> simp only [List.mem_singleton,List.not_mem_nil] at hp <;> subst hp <;> trivial
 ·
  simp only [List.length_cons,List.length_append]
  split <;> split <;> simp
theorem partsT_PB (op:Int) (p:Rep):(∀ q,q∈partsT op p→PB q)∧(partsT op p).length≤p.ans.point.length+4:=by
 have h0:∀ p,p∈([]:List Prt)→PB p:=fun p h=>(by cases h)
 unfold partsT
 repeat' split
 ·
  exact ⟨List.forall_mem_cons.2 ⟨trivial,List.forall_mem_cons.2 ⟨trivial,h0⟩⟩,by simp⟩
 ·
  exact ⟨List.forall_mem_cons.2 ⟨trivial,(partsA_PB _).1⟩,by have:=(partsA_PB p.ans).2;rw [List.length_cons];omega⟩
 ·
  exact ⟨List.forall_mem_cons.2 ⟨trivial,(partsG_PB _).1⟩,by have:=(partsG_PB p.rng).2;rw [List.length_cons];omega⟩
 ·
  exact ⟨List.forall_mem_cons.2 ⟨trivial,List.forall_mem_cons.2 ⟨trivial,List.forall_mem_cons.2 ⟨trivial,List.forall_mem_cons.2 ⟨trivial,h0⟩⟩⟩⟩,by simp⟩
 ·
  exact ⟨List.forall_mem_cons.2 ⟨trivial,h0⟩,by simp⟩
theorem partsX_PB (x:Res) (h1:∀ y,y∈x.token→y<256) (h2:∀ y,y∈x.rep.wher→y<256) (h3:x.rep.wher.length≤1048576):(∀ q,q∈partsX x→PB q)∧(partsX x).length≤x.rep.ans.point.length+6:=by
 have h0:∀ p,p∈([]:List Prt)→PB p:=fun p h=>(by cases h)
 have ht:=partsT_PB x.op x.rep
 unfold partsX
 split
 ·
  unfold partsV
  repeat' split
  ·
   exact ⟨List.forall_mem_cons.2 ⟨trivial,List.forall_mem_cons.2 ⟨trivial,ht.1⟩⟩,by simp only [List.length_cons];omega⟩
  ·
   exact ⟨List.forall_mem_cons.2 ⟨trivial,List.forall_mem_cons.2 ⟨trivial,List.forall_mem_cons.2 ⟨trivial,h0⟩⟩⟩,by simp⟩
  ·
   exact ⟨List.forall_mem_cons.2 ⟨trivial,List.forall_mem_cons.2 ⟨trivial,List.forall_mem_cons.2 ⟨h1,h0⟩⟩⟩,by simp⟩
  ·
   exact ⟨List.forall_mem_cons.2 ⟨trivial,List.forall_mem_cons.2 ⟨trivial,h0⟩⟩,by simp⟩
 ·
  exact ⟨List.forall_mem_cons.2 ⟨trivial,List.forall_mem_cons.2 ⟨trivial,List.forall_mem_cons.2 ⟨⟨h2,h3⟩,List.forall_mem_cons.2 ⟨trivial,h0⟩⟩⟩⟩,by simp [partsF]⟩
theorem encX_big {x:Res} (h1:∀ y,y∈x.token→y<256) (h2:∀ y,y∈x.rep.wher→y<256) (h3:x.rep.wher.length≤1048576) {l:List Nat} (h:encX x=.ok l):(∀ y,y∈l→y<256)∧2≤l.length∧l.length≤1048576*(x.rep.ans.point.length+6):=by
 obtain ⟨p1,p2⟩:=partsX_PB x h1 h2 h3
 obtain ⟨g1,_,g2⟩:=lays_big _ _ _ p1 (fun x hx=>by cases hx) h
 refine ⟨g1,?_,by rw [List.length_nil] at g2;have:=Nat.mul_le_mul_left 1048576 p2;omega⟩
 unfold encX partsX at h
 rw [lays_cons] at h
 cases hb:layP (.two x.rep.err) with
 | error e =>
  rw [show lay1 (.ok []) (.two x.rep.err)=.error (e,0) from by unfold lay1;simp only [hb];rfl,lays_error] at h
  cases h
 | ok b =>
  rw [show lay1 (.ok []) (.two x.rep.err)=.ok ([]++b) from by unfold lay1;simp only [hb]] at h
  have hp:∀ p,p∈(if x.rep.err=0 then partsV x else partsF x.rep)→PB p:=fun p hp=>p1 p (List.mem_cons_of_mem _ hp)
  obtain ⟨k0,_⟩:=layP_big (p:=.two x.rep.err) trivial hb
  obtain ⟨_,k2,_⟩:=lays_big _ _ _ hp (fun y hy=>k0 y (by simpa using hy)) h
  rw [layP_two] at hb
  split at hb
  ·
   cases hb
  ·
   injection hb with hb
   subst hb
   simpa using k2
theorem resT_fine {w:Go.World} {t:TolV} (h:TolW w t):(resT t).rep.ok∧(∀ y,y∈(resT t).token→y<256)∧(∀ y,y∈(resT t).rep.wher→y<256)∧(resT t).rep.wher.length≤1048576∧(resT t).rep.ans.point.length≤24:=by
 obtain ⟨r1,r2,r3,r4⟩:=h.r
 have z:I64s 0:=⟨by omega,by omega⟩
 have n0:∀ y,y∈([]:List Nat)→y<256:=fun y h=>(by cases h)
 have hz:Rep.zero.ok:=⟨z,z,z,z⟩
 unfold resT
 split
 ·
  refine ⟨⟨r1,z,z,z⟩,n0,fun y hy=>natB_lt _ y hy,?_,by simp [Rep.zero,Ans.zero]⟩
  show (natB t.wher).length≤_
  rw [natB_len];exact h.wh
 split
 ·
  exact ⟨⟨z,z,z,z⟩,n0,n0,by simp [Rep.zero],by simp [Rep.zero,Ans.zero]⟩
 split
 ·
  exact ⟨hz,fun y hy=>natB_lt _ y hy,n0,by simp [Rep.zero],by simp [Rep.zero,Ans.zero]⟩
 split
 ·
  unfold repT
  split
  ·
   exact ⟨⟨z,z,z,z⟩,n0,n0,by simp [Rep.zero],by simp [Rep.zero,Ans.zero]⟩
  split
  ·
   refine ⟨⟨z,z,z,z⟩,n0,n0,by simp [Rep.zero],?_⟩
   show (ansT t).point.length≤24
   unfold ansT
   split
   ·
    show ((t.ps.take 24).map PrtE.q).length≤24
    rw [List.length_map,List.length_take];omega
   ·
    exact Nat.zero_le _
  split
  ·
   exact ⟨⟨z,z,z,z⟩,n0,n0,by simp [Rep.zero],by simp [Rep.zero,Ans.zero]⟩
  split
  ·
   exact ⟨⟨z,r2,r3,r4⟩,n0,n0,by simp [Rep.zero],by simp [Rep.zero,Ans.zero]⟩
  ·
   exact ⟨hz,n0,n0,by simp [Rep.zero],by simp [Rep.zero,Ans.zero]⟩
 ·
  exact ⟨hz,n0,n0,by simp [Rep.zero],by simp [Rep.zero,Ans.zero]⟩
end Go.Proofs.YtmhainidincjhaaGreatDoor
