/-
 What the laws stand on, part Xc: contracts and plain laws of TMem, TAns, RAdd, RAdd1, TRng, TRes; the conditions are each law's own.
-/
import Derived.Test.YtmhainidincjhaaGreatDoorBN
import Derived.Test.YtmhainidincjhaaGreatDoorBL
import Derived.Test.YtmhainidincjhaaGreatDoorBXb
import Derived.Test.YtmhainidincjhaaGreatDoorBB
import Derived.Test.YtmhainidincjhaaGreatDoorBV
set_option linter.unusedVariables false
set_option linter.unusedSimpArgs false
set_option maxRecDepth 100000
set_option maxHeartbeats 16000000
namespace Go.Proofs.YtmhainidincjhaaGreatDoor
open Go.RowKit Go.Extern.Stop Go.Stop Go.Extern
structure PrtE where
 sg:Bool
 a:Option Addr
 n:Nat
 c:Nat
 b:Option Addr
 m:Nat
 d:Nat
 xs:List Nat
 ys:List Nat
def PrtE.cells (e:PrtE):List Value:=[.bool e.sg,.slice e.a e.n e.c,.slice e.b e.m e.d]
theorem prtCells_len (e:PrtE):e.cells.length=3:=rfl
def PrtE.q (e:PrtE):Rat:=ratG e.sg e.xs e.ys
def PrtE.w (w:World) (e:PrtE):Prop:=PartW w e.a e.n e.c e.b e.m e.d e.xs e.ys
structure TolV where
 verb:Int
 op:Int
 err:Int
 at9:Int
 id:Int
 tq:ByteArray
 wher:ByteArray
 u0:Int
 u1:Int
 u2:Int
 oc:Nat
 v:PrtE
 pa:Option Addr
 pn:Nat
 pc:Nat
 ps:List PrtE
 h0:Bool
 h1:Bool
def TolV.tl (t:TolV):List Value:=[.int .i64 t.at9,.int .i64 t.id,.string t.tq,.string t.wher,.int .i64 t.u0,.int .i64 t.u1,.int .i64 t.u2,.int .u8 (t.oc:Nat),.bool t.v.sg,.slice t.v.a t.v.n t.v.c,.slice t.v.b t.v.m t.v.d,.slice t.pa t.pn t.pc,.bool t.h0,.bool t.h1]
def TolV.cells (t:TolV):List Value:=[.int .i64 t.verb,.int .i64 t.op,.int .i64 t.err,.int .i64 t.at9,.int .i64 t.id,.string t.tq,.string t.wher,.int .i64 t.u0,.int .i64 t.u1,.int .i64 t.u2,.int .u8 (t.oc:Nat),.bool t.v.sg,.slice t.v.a t.v.n t.v.c,.slice t.v.b t.v.m t.v.d,.slice t.pa t.pn t.pc,.bool t.h0,.bool t.h1]
structure TolW (w:World) (t:TolV):Prop where
 tq:t.tq.size≤1048576
 wh:t.wher.size≤1048576
 oc:t.oc<256
 v:t.v.w w
 sl:Sl w 3 (.slice t.pa t.pn t.pc) t.pn (t.ps.flatMap PrtE.cells)
 len:t.ps.length=t.pn
 pn:t.pn≤1048576
 ok:∀ e,e∈t.ps→e.w w
 r:I64s t.at9∧I64s t.u0∧I64s t.u1∧I64s t.u2
theorem TolW.below {w w':World} {t:TolV} (h:TolW w t) (hb:Below w.heap.size w w'):TolW w' t:=⟨h.tq,h.wh,h.oc,h.v.below hb,Sl.below h.sl hb,h.len,h.pn,fun e he=>(h.ok e he).below hb,h.r⟩
theorem TolW.get {w:World} {t:TolV} (h:TolW w t) (k:Nat) (hk:k<t.pn):∃ e b o,t.ps[k]?=some e∧t.pa=some ⟨b,o,none⟩∧b<w.heap.size∧t.pn≤t.pc∧w.cell? ⟨b,o+k*3,none⟩=some (.bool e.sg)∧w.cell? ⟨b,o+k*3+1,none⟩=some (.slice e.a e.n e.c)∧w.cell? ⟨b,o+k*3+2,none⟩=some (.slice e.b e.m e.d)∧e.w w:=by
 have hkl:k<t.ps.length:=by rw [h.len];exact hk
 have hlen:=h.len
 obtain ⟨b,o,c',e,h1,h2,h3,h4⟩:=h.sl.plain (by omega)
 injection e with e1 e2 e3
 have hc:=fun j u hj=>h4 _ u (flat_at PrtE.cells 3 prtCells_len t.ps k hkl j u hj)
 have c0:=hc 0 _ rfl
 have c1:=hc 1 _ rfl
 have c2:=hc 2 _ rfl
 simp only [← Nat.add_assoc,Nat.add_zero] at c0 c1 c2
 exact ⟨t.ps[k],b,o,List.getElem?_eq_getElem hkl,e1,h3,by rw [e3];exact h1,c0,c1,c2,h.ok _ (List.getElem_mem hkl)⟩
def ansT (t:TolV):Ans:=if t.oc % 3=0 then ⟨1,t.v.q,(t.ps.take 24).map PrtE.q⟩ else ⟨((1+t.oc % 3:Nat):Int),0,[]⟩
def rngT (t:TolV):Rng:=⟨t.h0,t.h1,if t.h0=true then t.v.q else 0,if t.h1=true then t.v.q+1 else 0⟩
def repT (t:TolV):Rep :=
 if t.op=1∨t.op=2 then { Rep.zero with id:=t.id }
 else if t.op=9 then { Rep.zero with ans:=ansT t }
 else if t.op=10∨t.op=11 then { Rep.zero with rng:=rngT t }
 else if t.op=12 then { Rep.zero with u0:=t.u0,u1:=t.u1,u2:=t.u2 }
 else Rep.zero
def resT (t:TolV):Res :=
 if t.err≠0 then ⟨0,0,[],{ Rep.zero with err:=t.err,wher:=natB t.wher,at9:=t.at9 }⟩
 else if t.verb=2 then ⟨2,0,[],{ Rep.zero with id:=t.id }⟩
 else if t.verb=4 then ⟨4,0,natB t.tq,Rep.zero⟩
 else if t.verb=1 then ⟨1,t.op,[],repT t⟩
 else ⟨t.verb,0,[],Rep.zero⟩
def AnsT (m:Ans) (w:World) (e:Ending) (w':World):Prop :=
 ∃ (r:Rv) (pa:Option Addr) (pn pc:Nat) (vs:List Rv),e=.returned (.agg #[.int .i64 m.out,.bool r.s,.slice r.a r.l r.c,.slice r.b r.m r.d,.slice pa pn pc])∧r.sh∧r.q=m.value∧qs vs=m.point∧vs.length=pn∧pn≤24∧(∀ v,v∈vs→v.sh)∧(∀ y,y∈r.nums++numsV vs→NatW w' y.a y.c y.n)∧Mid w' w.heap.size 45 3 (.slice pa pn pc) pn (vs.flatMap Rv.cells)∧(pa=none∨∃ g,pa=some ⟨g,0,none⟩∧1≤pn)∧Below w.heap.size w w'
theorem tans_any (t:TolV) (v:Rv) (w:World) (h:TolW w t) (hv:v.ok w) (hs:lenW v.q.num.natAbs≤1099511627776∧lenW v.q.den≤1099511627776) (hq:v.q=t.v.q) :
  Calls Tryz.prog 117 #[.agg #[.int .i64 t.verb,.int .i64 t.op,.int .i64 t.err,.int .i64 t.at9,.int .i64 t.id,.string t.tq,.string t.wher,.int .i64 t.u0,.int .i64 t.u1,.int .i64 t.u2,.int .u8 (t.oc:Nat),.bool t.v.sg,.slice t.v.a t.v.n t.v.c,.slice t.v.b t.v.m t.v.d,.slice t.pa t.pn t.pc,.bool t.h0,.bool t.h1],.agg #[.bool v.s,.slice v.a v.l v.c,.slice v.b v.m v.d]] w (AnsT (ansT t) w):=by
 obtain ⟨i0,hi,hz0,hz1,hz2⟩:=info_parts Tryz.infoRat
 obtain ⟨iR,hiR,_,hzR,_⟩:=info_parts Tryz.infoAns
 have hoc:=h.oc
 obtain ⟨out,hout⟩:∃ out:Int,1+(t.oc:Int) % 3=out:=⟨_,rfl⟩
 have HOUT:=qH hout
 have HAB:=qH (show out=1→ansT t=⟨out,v.q,(t.ps.take 24).map PrtE.q⟩ from fun ho=>by
  unfold ansT
  rw [if_pos (by omega),ho,hq])
 have HOT:=qH (show out≠1→ansT t=⟨out,0,[]⟩ from fun ho=>by
  unfold ansT
  rw [if_neg (by omega),show ((1+t.oc % 3:Nat):Int)=out by omega])
 have HTW:=qH h
 have HV0:=qH hv
 have HS0:=qH hs
 clear h hv hs hq hout
 obtain ⟨W0,hW0⟩:∃ W0,W0=(((w.alloc (.cells #[.int .i64 t.verb,.int .i64 t.op,.int .i64 t.err,.int .i64 t.at9,.int .i64 t.id,.string t.tq,.string t.wher,.int .i64 t.u0,.int .i64 t.u1,.int .i64 t.u2,.int .u8 (t.oc:Nat),.bool t.v.sg,.slice t.v.a t.v.n t.v.c,.slice t.v.b t.v.m t.v.d,.slice t.pa t.pn t.pc,.bool t.h0,.bool t.h1] 112)).alloc (.cells #[.bool v.s,.slice v.a v.l v.c,.slice v.b v.m v.d] 45)).alloc (.cells #[.int .i64 0,.bool false,.slice none 0 0,.slice none 0 0,.slice none 0 0] 117)):=⟨_,rfl⟩
 have hbs:BS w [⟨w.heap.size,112,[.int .i64 t.verb,.int .i64 t.op,.int .i64 t.err,.int .i64 t.at9,.int .i64 t.id,.string t.tq,.string t.wher,.int .i64 t.u0,.int .i64 t.u1,.int .i64 t.u2,.int .u8 (t.oc:Nat),.bool t.v.sg,.slice t.v.a t.v.n t.v.c,.slice t.v.b t.v.m t.v.d,.slice t.pa t.pn t.pc,.bool t.h0,.bool t.h1]⟩,⟨w.heap.size+1,45,[.bool v.s,.slice v.a v.l v.c,.slice v.b v.m v.d]⟩,⟨w.heap.size+1+1,117,[.int .i64 0,.bool false,.slice none 0 0,.slice none 0 0,.slice none 0 0]⟩] [] (((w.alloc (.cells #[.int .i64 t.verb,.int .i64 t.op,.int .i64 t.err,.int .i64 t.at9,.int .i64 t.id,.string t.tq,.string t.wher,.int .i64 t.u0,.int .i64 t.u1,.int .i64 t.u2,.int .u8 (t.oc:Nat),.bool t.v.sg,.slice t.v.a t.v.n t.v.c,.slice t.v.b t.v.m t.v.d,.slice t.pa t.pn t.pc,.bool t.h0,.bool t.h1] 112)).alloc (.cells #[.bool v.s,.slice v.a v.l v.c,.slice v.b v.m v.d] 45)).alloc (.cells #[.int .i64 0,.bool false,.slice none 0 0,.slice none 0 0,.slice none 0 0] 117)) :=
   ((((BS.start w).alloc (p:=w.heap.size) rfl 112 [.int .i64 t.verb,.int .i64 t.op,.int .i64 t.err,.int .i64 t.at9,.int .i64 t.id,.string t.tq,.string t.wher,.int .i64 t.u0,.int .i64 t.u1,.int .i64 t.u2,.int .u8 (t.oc:Nat),.bool t.v.sg,.slice t.v.a t.v.n t.v.c,.slice t.v.b t.v.m t.v.d,.slice t.pa t.pn t.pc,.bool t.h0,.bool t.h1] rfl).alloc (p:=w.heap.size+1) (by simp) 45 [.bool v.s,.slice v.a v.l v.c,.slice v.b v.m v.d] rfl).alloc (p:=w.heap.size+1+1) (by simp) 117 [.int .i64 0,.bool false,.slice none 0 0,.slice none 0 0,.slice none 0 0] rfl)
 rw [← hW0] at hbs
 have HW0:=qH hW0
 have HN:=qH hbs
 clear hW0 hbs
 go_enter Tryz.func117,Tryz.ntmps117
 go_upto_region 1 with fail
 rw [← HW0.out]
 have k0_10e:=HN.out.cell 0 10 rfl rfl
 have f0_10e:=HN.out.free 0 10 rfl
 have l0:=HN.out.lt 0 rfl
 have HN0:=HN
 clear HN
 have HN:=qH (HN0.out.alloc (p:=W0.heap.size) rfl 117 [.int .i64 out,.bool false,.slice none 0 0,.slice none 0 0,.slice none 0 0] rfl)
 have k0_10:=HN.out.cell 0 10 rfl rfl
 have f0_10:=HN.out.free 0 10 rfl
 go_upto_region 2 with fail
 simp only [HOUT.out]
 replace HN:=qH HN.out
 clear k0_10 f0_10 l0 k0_10e f0_10e HN0
 generalize (W0.alloc (.cells #[.int .i64 out,.bool false,.slice none 0 0,.slice none 0 0,.slice none 0 0] 117))=wa1 at HN ⊢
 by_cases ho:out=1
 ·
  subst ho
  have ⟨k3_0,f3_0,k3_1,f3_1,k3_2,f3_2,k3_3,f3_3⟩:=HN.out.cf4 3 rfl
  have ⟨k1_0,f1_0,k1_1,f1_1,k1_2,f1_2⟩:=HN.out.cf3 1 rfl
  go_upto_region 6 with fail
  replace HN:=qH (((HN.out.set 3 1 rfl rfl (fun _=>by simp) (.bool v.s)).set 3 2 rfl rfl (fun _=>by simp) (.slice v.a v.l v.c)).set 3 3 rfl rfl (fun _=>by simp) (.slice v.b v.m v.d))
  clear k3_0 f3_0 k3_1 f3_1 k3_2 f3_2 k3_3 f3_3 k1_0 f1_0 k1_1 f1_1 k1_2 f1_2
  generalize (((wa1.setCell ⟨W0.heap.size,1,none⟩ (.bool v.s)).setCell ⟨W0.heap.size,2,none⟩ (.slice v.a v.l v.c)).setCell ⟨W0.heap.size,3,none⟩ (.slice v.b v.m v.d))=wa2 at HN ⊢
  go_loopw [6] (fun v6 wr=>∃ (j:Nat) (a:Option Addr) (pc:Nat) (vs:List Rv),j≤t.pn∧j≤24∧v6=.int .i64 j∧vs.length=j∧(∀ v,v∈vs→v.sh)∧qs vs=(t.ps.take j).map PrtE.q∧OB w [⟨w.heap.size,112,[.int .i64 t.verb,.int .i64 t.op,.int .i64 t.err,.int .i64 t.at9,.int .i64 t.id,.string t.tq,.string t.wher,.int .i64 t.u0,.int .i64 t.u1,.int .i64 t.u2,.int .u8 (t.oc:Nat),.bool t.v.sg,.slice t.v.a t.v.n t.v.c,.slice t.v.b t.v.m t.v.d,.slice t.pa t.pn t.pc,.bool t.h0,.bool t.h1]⟩,⟨w.heap.size+1,45,[.bool v.s,.slice v.a v.l v.c,.slice v.b v.m v.d]⟩,⟨w.heap.size+1+1,117,[.int .i64 0,.bool false,.slice none 0 0,.slice none 0 0,.slice none 0 0]⟩,⟨W0.heap.size,117,[.int .i64 1,.bool v.s,.slice v.a v.l v.c,.slice v.b v.m v.d,.slice a j pc]⟩] (numsV vs) 45 3 a j pc (vs.flatMap Rv.cells) wr) (fun v6 _=>24 - (intOf v6).toNat)
  case atStart=>exact ⟨0,none,0,[],Nat.zero_le _,Nat.zero_le _,rfl,rfl,fun _ h=>(by cases h),rfl,OB.start HN.out⟩
  case round =>
   obtain ⟨j,a,pc,vs,hj,hj24,rfl,hvl,hsh,hmp,hO⟩:=hrel
   have HO:=qH hO
   have HVL:=qH hvl
   have HSH:=qH hsh
   have HMP:=qH hmp
   clear hO hvl hsh hmp HN
   have k014:=HO.out.st.cell 0 14 rfl rfl
   by_cases hlt:j<t.pn∧j<24
   ·
    obtain ⟨hlt,hlt24⟩:=hlt
    obtain ⟨en,eb,eo,hx9,hea,hlt8,hnc,c0,c1,c2,hpw⟩:=HTW.out.get j hlt
    have HX9:=qH hx9
    have HEN:=qH (fun (W:World) (hb:Below w.heap.size w W)=>(⟨(hb.cell (p:=⟨eb,eo+j*3,none⟩) hlt8).trans c0,(hb.cell (p:=⟨eb,eo+j*3+1,none⟩) hlt8).trans c1,(hb.cell (p:=⟨eb,eo+j*3+2,none⟩) hlt8).trans c2⟩:W.cell? ⟨eb,eo+j*3,none⟩=some (.bool en.sg)∧W.cell? ⟨eb,eo+j*3+1,none⟩=some (.slice en.a en.n en.c)∧W.cell? ⟨eb,eo+j*3+2,none⟩=some (.slice en.b en.m en.d)))
    obtain ⟨q,hq⟩:∃ q,ratG en.sg en.xs en.ys=q:=⟨_,rfl⟩
    have hm8:=fun (W:World) (hb:Below w.heap.size w W)=>PartW.make hpw en.sg W hb
    have hsm:=PartW.size hpw en.sg
    rw [hq] at hm8 hsm
    have HM8:=qH hm8
    have HSM:=qH (show lenW q.num.natAbs≤1099511627776∧lenW q.den≤1099511627776 by omega)
    have HQ:=qH hq
    rw [hea] at HO k014
    clear c0 c1 c2 hpw hm8 hsm hq hx9 hlt8
    go_upto_region 8 with fail
    clear k014
    replace HO:=qH (show OB w [⟨w.heap.size,112,[.int .i64 t.verb,.int .i64 t.op,.int .i64 t.err,.int .i64 t.at9,.int .i64 t.id,.string t.tq,.string t.wher,.int .i64 t.u0,.int .i64 t.u1,.int .i64 t.u2,.int .u8 (t.oc:Nat),.bool t.v.sg,.slice t.v.a t.v.n t.v.c,.slice t.v.b t.v.m t.v.d,.slice (some ⟨eb,eo,none⟩) t.pn t.pc,.bool t.h0,.bool t.h1]⟩,⟨w.heap.size+1,45,[.bool v.s,.slice v.a v.l v.c,.slice v.b v.m v.d]⟩,⟨w.heap.size+1+1,117,[.int .i64 0,.bool false,.slice none 0 0,.slice none 0 0,.slice none 0 0]⟩,⟨W0.heap.size,117,[.int .i64 1,.bool v.s,.slice v.a v.l v.c,.slice v.b v.m v.d,.slice a j pc]⟩] (numsV vs) 45 3 a j pc (vs.flatMap Rv.cells) wr.drew from HO.out.call (Below.drawn wr 1))
    have HEA:=qH hea
    clear hea
    refine wp_region_held_drew (S:=fun W=>W.cell? ⟨w.heap.size,14,none⟩=some (.slice (some ⟨eb,eo,none⟩) t.pn t.pc)∧W.cell? ⟨eb,eo+j*3,none⟩=some (.bool en.sg)∧W.cell? ⟨eb,eo+j*3+1,none⟩=some (.slice en.a en.n en.c)∧W.cell? ⟨eb,eo+j*3+2,none⟩=some (.slice en.b en.m en.d)) (by kernel_rfl) (⟨HO.out.st.cell 0 14 rfl rfl,HEN.out _ HO.out.st.bel⟩) (fun hHeld=>?_)
    generalize wr.drew=wd at HO hHeld ⊢
    refine tm 0 (some 30) ?_
    refine tm 2 (some 32) ?_
    refine tl 3 (some 33) ?_
    refine tm 4 (some 34) ?_
    refine tl 5 (some 35) ?_
    refine tl 6 (some 36) ?_
    refine wpAnyH_ready (rs:=[1,7]) (by kernel_rfl) (by simp) ?_
    refine (AllReadyH.cons rfl (fun K hK=>?_) (AllReadyH.cons rfl (fun K hK=>?_) AllReadyH.nil))
    ·
     skip
     have k0:=HO.out.st.cell 3 4 rfl rfl
     go_simp
     clear k0
     refine hK.out _ _ (⟨HO.out.st.cell 0 14 rfl rfl,HEN.out _ HO.out.st.bel⟩) (fun hHeld2=>?_)
     clear hK K hHeld
     rename _=>hHeld
     try simp only [Act.put,stB,stZ,stS]
     refine wpAnyH_ready (rs:=[7]) (by kernel_rfl) (by simp) ?_
     refine (AllReadyH.cons rfl (fun K hK=>?_) AllReadyH.nil)
     go_simp
     refine (HM8.out _ HO.out.st.bel).mono ?_
     rintro e wd ⟨ra,rc,rb,rd,rfl,q1,q2,hb⟩
     obtain ⟨v9,hv⟩:∃ v9:Rv,v9=⟨decide (q.num<0),ra,lenW q.num.natAbs,rc,rb,lenW (denN q.den),rd,q⟩:=⟨_,rfl⟩
     have HV:=qH hv
     have HO3:=qH (show OB w [⟨w.heap.size,112,[.int .i64 t.verb,.int .i64 t.op,.int .i64 t.err,.int .i64 t.at9,.int .i64 t.id,.string t.tq,.string t.wher,.int .i64 t.u0,.int .i64 t.u1,.int .i64 t.u2,.int .u8 (t.oc:Nat),.bool t.v.sg,.slice t.v.a t.v.n t.v.c,.slice t.v.b t.v.m t.v.d,.slice (some ⟨eb,eo,none⟩) t.pn t.pc,.bool t.h0,.bool t.h1]⟩,⟨w.heap.size+1,45,[.bool v.s,.slice v.a v.l v.c,.slice v.b v.m v.d]⟩,⟨w.heap.size+1+1,117,[.int .i64 0,.bool false,.slice none 0 0,.slice none 0 0,.slice none 0 0]⟩,⟨W0.heap.size,117,[.int .i64 1,.bool v.s,.slice v.a v.l v.c,.slice v.b v.m v.d,.slice a j pc]⟩] (numsV (vs++[v9])) 45 3 a j pc (vs.flatMap Rv.cells) wd from ((((HO.out.call hb).got q2).got q1).ren fun x hx=>by
      unfold numsV at hx ⊢
      simp only [hv,Rv.nums,List.flatMap_append,List.flatMap_cons,List.flatMap_nil,List.append_nil,List.mem_append,List.mem_cons,List.not_mem_nil,or_false] at hx ⊢
      rcases hx with hx | hx | hx
      ·
       exact .inr (.inr hx)
      ·
       exact .inl hx
      ·
       exact .inr (.inl hx)))
     have HCS:=qH (show v9.cells=[.bool (decide (q.num<0)),.slice ra (lenW q.num.natAbs) rc,.slice rb (lenW (denN q.den)) rd] by rw [hv];rfl)
     replace HO:=HO3
     clear HO3 hb q1 q2 hv
     unfold ratV
     go_wp2_with fail
     generalize decide (q.num<0)=rs at HCS ⊢
     generalize lenW q.num.natAbs=rl at HCS ⊢
     generalize lenW (denN q.den)=rm at HCS ⊢
     refine hK.out _ _ (⟨HO.out.st.cell 0 14 rfl rfl,HEN.out _ HO.out.st.bel⟩) (fun hHeld2=>?_)
     clear hK K hHeld
     rename _=>hHeld
     try simp only [Act.put,stB,stZ,stS]
     refine wpAnyH_ready (rs:=[8]) (by kernel_rfl) (by simp) ?_
     refine (AllReadyH.cons rfl (fun K hK=>?_) AllReadyH.nil)
     go_simp
     refine hK.out _ _ ((fun hb9=>⟨(hb9.cell (p:=⟨w.heap.size,14,none⟩) (HO.out.st.lt 0 rfl)).trans (HO.out.st.cell 0 14 rfl rfl),HEN.out _ (bthen HO.out.st.bel hb9)⟩) (belowBox _ (.cells #[.bool rs,.slice ra rl rc,.slice rb rm rd] 45))) (fun hHeld2=>?_)
     clear hK K hHeld
     rename _=>hHeld
     try simp only [Act.put,stB,stZ,stS]
     refine wpAnyH_ready (rs:=[9]) (by kernel_rfl) (by simp) ?_
     refine (AllReadyH.cons rfl (fun K hK=>?_) AllReadyH.nil)
     refine step_append_at (a0:=a) (c0:=pc) rfl _ _ 115 115 rfl i0 (.agg #[.bool false,.slice none 0 0,.slice none 0 0]) 56 Tryz.underlying115v hi hz0 hz1 hz2 rfl rfl (HO.out.mid.alloc (.cells #[.bool rs,.slice ra rl rc,.slice rb rm rd] 45)) _ rfl 1 [.bool rs,.slice ra rl rc,.slice rb rm rd] ((Sl.lit _ 45 3 1 [.bool rs,.slice ra rl rc,.slice rb rm rd] (by unfold maxLen;omega) rfl).src (P:=Tryz.prog) Tryz.underlying115v (by
      intro u hu
      simp only [List.mem_cons,List.not_mem_nil,or_false] at hu
      rcases hu with rfl | rfl | rfl <;> rfl)) (by unfold maxLen;omega) (by omega) (Nat.le_trans HO.out.st.bel.size (belowBox _ _).size) ?_
     intro a6 c6 w6 hmo hgo hbo hao
     replace HO:=qH (HO.out.push (by decide) (by omega) hmo hgo hbo hao)
     clear hmo hgo hbo hao
     refine hK.out _ _ (⟨HO.out.st.cell 0 14 rfl rfl,HEN.out _ HO.out.st.bel⟩) (fun hHeld2=>?_)
     clear hK K hHeld
     rename _=>hHeld
     try simp only [Act.put,stB,stZ,stS]
     refine tm 10 (some 40) ?_
     refine wpAnyH_ready (rs:=[11]) (by kernel_rfl) (by simp) ?_
     refine (AllReadyH.cons rfl (fun K hK=>?_) AllReadyH.nil)
     have k0:=HO.out.st.cell 3 4 rfl rfl
     have f0:=HO.out.st.free 3 4 rfl
     go_simp
     clear k0 f0
     refine hK.out _ _ (⟨(HO.out.set 3 4 rfl rfl (fun _=>by simp) (.slice a6 (j+1) c6)).st.cell 0 14 rfl rfl,HEN.out _ (HO.out.set 3 4 rfl rfl (fun _=>by simp) (.slice a6 (j+1) c6)).st.bel⟩) (fun hHeld2=>?_)
     clear hK K hHeld
     rename _=>hHeld
     try simp only [Act.put,stB,stZ,stS]
     refine wpAnyH_done (by kernel_rfl) ?_ _
     have HO7:=qH (HO.out.set 3 4 rfl rfl (fun _=>by simp) (.slice a6 (j+1) c6))
     clear hHeld
     go_wp2_with fail
     go_roundw
     case rel =>
      refine ⟨j+1,a6,c6,vs++[v9],by omega,by omega,by go_num,by rw [List.length_append,HVL.out];rfl,fun u hu=>?_,?_,?_⟩
      ·
       rcases List.mem_append.1 hu with hu | hu
       ·
        exact HSH.out u hu
       ·
        rw [List.mem_singleton.1 hu,HV.out]
        exact ⟨rfl,rfl,rfl,HSM.out.1,HSM.out.2⟩
      ·
       show qs (vs++[v9])=_
       unfold qs
       rw [List.map_append,show vs.map (·.q)=_ from HMP.out,List.take_add_one,HX9.out,HV.out]
       rw [List.map_append]
       exact congrArg _ (show [q]=[PrtE.q en] by rw [← HQ.out];rfl)
      ·
       rw [List.flatMap_append,List.flatMap_cons,List.flatMap_nil,List.append_nil,HCS.out,HEA.out]
       exact HO7.out
     case measure=>simp [intOf];omega
    ·
     skip
     go_simp
     refine (HM8.out _ HO.out.st.bel).mono ?_
     rintro e wd ⟨ra,rc,rb,rd,rfl,q1,q2,hb⟩
     obtain ⟨v9,hv⟩:∃ v9:Rv,v9=⟨decide (q.num<0),ra,lenW q.num.natAbs,rc,rb,lenW (denN q.den),rd,q⟩:=⟨_,rfl⟩
     have HV:=qH hv
     have HO3:=qH (show OB w [⟨w.heap.size,112,[.int .i64 t.verb,.int .i64 t.op,.int .i64 t.err,.int .i64 t.at9,.int .i64 t.id,.string t.tq,.string t.wher,.int .i64 t.u0,.int .i64 t.u1,.int .i64 t.u2,.int .u8 (t.oc:Nat),.bool t.v.sg,.slice t.v.a t.v.n t.v.c,.slice t.v.b t.v.m t.v.d,.slice (some ⟨eb,eo,none⟩) t.pn t.pc,.bool t.h0,.bool t.h1]⟩,⟨w.heap.size+1,45,[.bool v.s,.slice v.a v.l v.c,.slice v.b v.m v.d]⟩,⟨w.heap.size+1+1,117,[.int .i64 0,.bool false,.slice none 0 0,.slice none 0 0,.slice none 0 0]⟩,⟨W0.heap.size,117,[.int .i64 1,.bool v.s,.slice v.a v.l v.c,.slice v.b v.m v.d,.slice a j pc]⟩] (numsV (vs++[v9])) 45 3 a j pc (vs.flatMap Rv.cells) wd from ((((HO.out.call hb).got q2).got q1).ren fun x hx=>by
      unfold numsV at hx ⊢
      simp only [hv,Rv.nums,List.flatMap_append,List.flatMap_cons,List.flatMap_nil,List.append_nil,List.mem_append,List.mem_cons,List.not_mem_nil,or_false] at hx ⊢
      rcases hx with hx | hx | hx
      ·
       exact .inr (.inr hx)
      ·
       exact .inl hx
      ·
       exact .inr (.inl hx)))
     have HCS:=qH (show v9.cells=[.bool (decide (q.num<0)),.slice ra (lenW q.num.natAbs) rc,.slice rb (lenW (denN q.den)) rd] by rw [hv];rfl)
     replace HO:=HO3
     clear HO3 hb q1 q2 hv
     unfold ratV
     go_wp2_with fail
     generalize decide (q.num<0)=rs at HCS ⊢
     generalize lenW q.num.natAbs=rl at HCS ⊢
     generalize lenW (denN q.den)=rm at HCS ⊢
     refine hK.out _ _ (⟨HO.out.st.cell 0 14 rfl rfl,HEN.out _ HO.out.st.bel⟩) (fun hHeld2=>?_)
     clear hK K hHeld
     rename _=>hHeld
     try simp only [Act.put,stB,stZ,stS]
     refine wpAnyH_ready (rs:=[1,8]) (by kernel_rfl) (by simp) ?_
     refine (AllReadyH.cons rfl (fun K hK=>?_) (AllReadyH.cons rfl (fun K hK=>?_) AllReadyH.nil))
     ·
      skip
      have k0:=HO.out.st.cell 3 4 rfl rfl
      go_simp
      clear k0
      refine hK.out _ _ (⟨HO.out.st.cell 0 14 rfl rfl,HEN.out _ HO.out.st.bel⟩) (fun hHeld2=>?_)
      clear hK K hHeld
      rename _=>hHeld
      try simp only [Act.put,stB,stZ,stS]
      refine wpAnyH_ready (rs:=[8]) (by kernel_rfl) (by simp) ?_
      refine (AllReadyH.cons rfl (fun K hK=>?_) AllReadyH.nil)
      go_simp
      refine hK.out _ _ ((fun hb9=>⟨(hb9.cell (p:=⟨w.heap.size,14,none⟩) (HO.out.st.lt 0 rfl)).trans (HO.out.st.cell 0 14 rfl rfl),HEN.out _ (bthen HO.out.st.bel hb9)⟩) (belowBox _ (.cells #[.bool rs,.slice ra rl rc,.slice rb rm rd] 45))) (fun hHeld2=>?_)
      clear hK K hHeld
      rename _=>hHeld
      try simp only [Act.put,stB,stZ,stS]
      refine wpAnyH_ready (rs:=[9]) (by kernel_rfl) (by simp) ?_
      refine (AllReadyH.cons rfl (fun K hK=>?_) AllReadyH.nil)
      refine step_append_at (a0:=a) (c0:=pc) rfl _ _ 115 115 rfl i0 (.agg #[.bool false,.slice none 0 0,.slice none 0 0]) 56 Tryz.underlying115v hi hz0 hz1 hz2 rfl rfl (HO.out.mid.alloc (.cells #[.bool rs,.slice ra rl rc,.slice rb rm rd] 45)) _ rfl 1 [.bool rs,.slice ra rl rc,.slice rb rm rd] ((Sl.lit _ 45 3 1 [.bool rs,.slice ra rl rc,.slice rb rm rd] (by unfold maxLen;omega) rfl).src (P:=Tryz.prog) Tryz.underlying115v (by
       intro u hu
       simp only [List.mem_cons,List.not_mem_nil,or_false] at hu
       rcases hu with rfl | rfl | rfl <;> rfl)) (by unfold maxLen;omega) (by omega) (Nat.le_trans HO.out.st.bel.size (belowBox _ _).size) ?_
      intro a6 c6 w6 hmo hgo hbo hao
      replace HO:=qH (HO.out.push (by decide) (by omega) hmo hgo hbo hao)
      clear hmo hgo hbo hao
      refine hK.out _ _ (⟨HO.out.st.cell 0 14 rfl rfl,HEN.out _ HO.out.st.bel⟩) (fun hHeld2=>?_)
      clear hK K hHeld
      rename _=>hHeld
      try simp only [Act.put,stB,stZ,stS]
      refine tm 10 (some 40) ?_
      refine wpAnyH_ready (rs:=[11]) (by kernel_rfl) (by simp) ?_
      refine (AllReadyH.cons rfl (fun K hK=>?_) AllReadyH.nil)
      have k0:=HO.out.st.cell 3 4 rfl rfl
      have f0:=HO.out.st.free 3 4 rfl
      go_simp
      clear k0 f0
      refine hK.out _ _ (⟨(HO.out.set 3 4 rfl rfl (fun _=>by simp) (.slice a6 (j+1) c6)).st.cell 0 14 rfl rfl,HEN.out _ (HO.out.set 3 4 rfl rfl (fun _=>by simp) (.slice a6 (j+1) c6)).st.bel⟩) (fun hHeld2=>?_)
      clear hK K hHeld
      rename _=>hHeld
      try simp only [Act.put,stB,stZ,stS]
      refine wpAnyH_done (by kernel_rfl) ?_ _
      have HO7:=qH (HO.out.set 3 4 rfl rfl (fun _=>by simp) (.slice a6 (j+1) c6))
      clear hHeld
      go_wp2_with fail
      go_roundw
      case rel =>
       refine ⟨j+1,a6,c6,vs++[v9],by omega,by omega,by go_num,by rw [List.length_append,HVL.out];rfl,fun u hu=>?_,?_,?_⟩
       ·
        rcases List.mem_append.1 hu with hu | hu
        ·
         exact HSH.out u hu
        ·
         rw [List.mem_singleton.1 hu,HV.out]
         exact ⟨rfl,rfl,rfl,HSM.out.1,HSM.out.2⟩
       ·
        show qs (vs++[v9])=_
        unfold qs
        rw [List.map_append,show vs.map (·.q)=_ from HMP.out,List.take_add_one,HX9.out,HV.out]
        rw [List.map_append]
        exact congrArg _ (show [q]=[PrtE.q en] by rw [← HQ.out];rfl)
       ·
        rw [List.flatMap_append,List.flatMap_cons,List.flatMap_nil,List.append_nil,HCS.out,HEA.out]
        exact HO7.out
      case measure=>simp [intOf];omega
     ·
      skip
      go_simp
      refine hK.out _ _ ((fun hb9=>⟨(hb9.cell (p:=⟨w.heap.size,14,none⟩) (HO.out.st.lt 0 rfl)).trans (HO.out.st.cell 0 14 rfl rfl),HEN.out _ (bthen HO.out.st.bel hb9)⟩) (belowBox _ (.cells #[.bool rs,.slice ra rl rc,.slice rb rm rd] 45))) (fun hHeld2=>?_)
      clear hK K hHeld
      rename _=>hHeld
      try simp only [Act.put,stB,stZ,stS]
      refine wpAnyH_ready (rs:=[1]) (by kernel_rfl) (by simp) ?_
      refine (AllReadyH.cons rfl (fun K hK=>?_) AllReadyH.nil)
      have k0:=((belowBox wd (.cells #[.bool rs,.slice ra rl rc,.slice rb rm rd] 45)).cell (p:=⟨W0.heap.size,4,none⟩) (HO.out.st.lt 3 rfl)).trans (HO.out.st.cell 3 4 rfl rfl)
      go_simp
      clear k0
      refine hK.out _ _ ((fun hb9=>⟨(hb9.cell (p:=⟨w.heap.size,14,none⟩) (HO.out.st.lt 0 rfl)).trans (HO.out.st.cell 0 14 rfl rfl),HEN.out _ (bthen HO.out.st.bel hb9)⟩) (belowBox _ (.cells #[.bool rs,.slice ra rl rc,.slice rb rm rd] 45))) (fun hHeld2=>?_)
      clear hK K hHeld
      rename _=>hHeld
      try simp only [Act.put,stB,stZ,stS]
      refine wpAnyH_ready (rs:=[9]) (by kernel_rfl) (by simp) ?_
      refine (AllReadyH.cons rfl (fun K hK=>?_) AllReadyH.nil)
      refine step_append_at (a0:=a) (c0:=pc) rfl _ _ 115 115 rfl i0 (.agg #[.bool false,.slice none 0 0,.slice none 0 0]) 56 Tryz.underlying115v hi hz0 hz1 hz2 rfl rfl (HO.out.mid.alloc (.cells #[.bool rs,.slice ra rl rc,.slice rb rm rd] 45)) _ rfl 1 [.bool rs,.slice ra rl rc,.slice rb rm rd] ((Sl.lit _ 45 3 1 [.bool rs,.slice ra rl rc,.slice rb rm rd] (by unfold maxLen;omega) rfl).src (P:=Tryz.prog) Tryz.underlying115v (by
       intro u hu
       simp only [List.mem_cons,List.not_mem_nil,or_false] at hu
       rcases hu with rfl | rfl | rfl <;> rfl)) (by unfold maxLen;omega) (by omega) (Nat.le_trans HO.out.st.bel.size (belowBox _ _).size) ?_
      intro a6 c6 w6 hmo hgo hbo hao
      replace HO:=qH (HO.out.push (by decide) (by omega) hmo hgo hbo hao)
      clear hmo hgo hbo hao
      refine hK.out _ _ (⟨HO.out.st.cell 0 14 rfl rfl,HEN.out _ HO.out.st.bel⟩) (fun hHeld2=>?_)
      clear hK K hHeld
      rename _=>hHeld
      try simp only [Act.put,stB,stZ,stS]
      refine tm 10 (some 40) ?_
      refine wpAnyH_ready (rs:=[11]) (by kernel_rfl) (by simp) ?_
      refine (AllReadyH.cons rfl (fun K hK=>?_) AllReadyH.nil)
      have k0:=HO.out.st.cell 3 4 rfl rfl
      have f0:=HO.out.st.free 3 4 rfl
      go_simp
      clear k0 f0
      refine hK.out _ _ (⟨(HO.out.set 3 4 rfl rfl (fun _=>by simp) (.slice a6 (j+1) c6)).st.cell 0 14 rfl rfl,HEN.out _ (HO.out.set 3 4 rfl rfl (fun _=>by simp) (.slice a6 (j+1) c6)).st.bel⟩) (fun hHeld2=>?_)
      clear hK K hHeld
      rename _=>hHeld
      try simp only [Act.put,stB,stZ,stS]
      refine wpAnyH_done (by kernel_rfl) ?_ _
      have HO7:=qH (HO.out.set 3 4 rfl rfl (fun _=>by simp) (.slice a6 (j+1) c6))
      clear hHeld
      go_wp2_with fail
      go_roundw
      case rel =>
       refine ⟨j+1,a6,c6,vs++[v9],by omega,by omega,by go_num,by rw [List.length_append,HVL.out];rfl,fun u hu=>?_,?_,?_⟩
       ·
        rcases List.mem_append.1 hu with hu | hu
        ·
         exact HSH.out u hu
        ·
         rw [List.mem_singleton.1 hu,HV.out]
         exact ⟨rfl,rfl,rfl,HSM.out.1,HSM.out.2⟩
       ·
        show qs (vs++[v9])=_
        unfold qs
        rw [List.map_append,show vs.map (·.q)=_ from HMP.out,List.take_add_one,HX9.out,HV.out]
        rw [List.map_append]
        exact congrArg _ (show [q]=[PrtE.q en] by rw [← HQ.out];rfl)
       ·
        rw [List.flatMap_append,List.flatMap_cons,List.flatMap_nil,List.append_nil,HCS.out,HEA.out]
        exact HO7.out
      case measure=>simp [intOf];omega
   ·
    have HJE:=qH (show (t.ps.take j)=t.ps.take 24 from by
     have hl:=HTW.out.len
     by_cases h24:j<24
     ·
      rw [List.take_of_length_le (by omega),List.take_of_length_le (by omega)]
     ·
      rw [show j=24 by omega])
    by_cases hlt2:j<t.pn
    ·
     have hlt3:¬ j<24:=by omega
     clear hlt
     have ⟨k20,f20⟩:=HO.out.st.cf1 2 rfl
     have k30:=HO.out.st.cell 3 0 rfl rfl
     have k21:=HO.out.st.cell 2 1 rfl rfl
     have f21:=HO.out.st.free 2 1 rfl
     have k31:=HO.out.st.cell 3 1 rfl rfl
     have k22:=HO.out.st.cell 2 2 rfl rfl
     have f22:=HO.out.st.free 2 2 rfl
     have k32:=HO.out.st.cell 3 2 rfl rfl
     have k23:=HO.out.st.cell 2 3 rfl rfl
     have f23:=HO.out.st.free 2 3 rfl
     have k33:=HO.out.st.cell 3 3 rfl rfl
     have k24:=HO.out.st.cell 2 4 rfl rfl
     have f24:=HO.out.st.free 2 4 rfl
     have k34:=HO.out.st.cell 3 4 rfl rfl
     have HOE:=qH (((((HO.out.set 2 0 rfl rfl (fun _=>by simp) (.int .i64 1)).set 2 1 rfl rfl (fun _=>by simp) (.bool v.s)).set 2 2 rfl rfl (fun _=>by simp) (.slice v.a v.l v.c)).set 2 3 rfl rfl (fun _=>by simp) (.slice v.b v.m v.d)).set 2 4 rfl rfl (fun _=>by simp) (.slice a j pc))
     go_wp2_with fail
     (try simp only [Exit.inBlock,Exit.then])
     refine bodyPost_ret (v:=.agg #[.int .i64 1,.bool v.s,.slice v.a v.l v.c,.slice v.b v.m v.d,.slice a j pc]) ?_ rfl ?_
     ·
      rw [results_cell1 rfl]
      have hbk:=(HOE.out.st.at 2 rfl:_=some (Obj.cells #[.int .i64 1,.bool v.s,.slice v.a v.l v.c,.slice v.b v.m v.d,.slice a j pc] 117 (0,0)))
      generalize (((((wr.setCell ⟨w.heap.size+1+1,0,none⟩ (.int .i64 1)).setCell ⟨w.heap.size+1+1,1,none⟩ (.bool v.s)).setCell ⟨w.heap.size+1+1,2,none⟩ (.slice v.a v.l v.c)).setCell ⟨w.heap.size+1+1,3,none⟩ (.slice v.b v.m v.d)).setCell ⟨w.heap.size+1+1,4,none⟩ (.slice a j pc))=WE at hbk ⊢
      exact Go.Lib.rl_loadVar_cells 117 _ hiR (fun _=>by kernel_rfl) (w.heap.size+1+1) 0 [.int .i64 1,.bool v.s,.slice v.a v.l v.c,.slice v.b v.m v.d,.slice a j pc] hzR.symm _ (fun k v hk=>by
       rw [Nat.zero_add]
       exact cell_of_block (j:=k) hbk (by simpa using hk))
     rw [HAB.out,← HJE.out,← HMP.out]
     have hbs:=HOE.out.st
     exact ⟨v,a,j,pc,vs,rfl,⟨HV0.out.s,HV0.out.l,HV0.out.m,HS0.out.1,HS0.out.2⟩,rfl,rfl,HVL.out,by omega,HSH.out,fun y hy=>by
      rcases List.mem_append.1 hy with hy | hy
      ·
       simp only [Rv.nums,List.mem_cons,List.not_mem_nil,or_false] at hy
       rcases hy with rfl | rfl
       ·
        exact (HV0.out.below hbs.bel).num
       ·
        exact (HV0.out.below hbs.bel).den
      ·
       exact hbs.num y hy,HOE.out.mid,HOE.out.hd,hbs.bel⟩
     trivial
    ·
     clear hlt
     have ⟨k20,f20⟩:=HO.out.st.cf1 2 rfl
     have k30:=HO.out.st.cell 3 0 rfl rfl
     have k21:=HO.out.st.cell 2 1 rfl rfl
     have f21:=HO.out.st.free 2 1 rfl
     have k31:=HO.out.st.cell 3 1 rfl rfl
     have k22:=HO.out.st.cell 2 2 rfl rfl
     have f22:=HO.out.st.free 2 2 rfl
     have k32:=HO.out.st.cell 3 2 rfl rfl
     have k23:=HO.out.st.cell 2 3 rfl rfl
     have f23:=HO.out.st.free 2 3 rfl
     have k33:=HO.out.st.cell 3 3 rfl rfl
     have k24:=HO.out.st.cell 2 4 rfl rfl
     have f24:=HO.out.st.free 2 4 rfl
     have k34:=HO.out.st.cell 3 4 rfl rfl
     have HOE:=qH (((((HO.out.set 2 0 rfl rfl (fun _=>by simp) (.int .i64 1)).set 2 1 rfl rfl (fun _=>by simp) (.bool v.s)).set 2 2 rfl rfl (fun _=>by simp) (.slice v.a v.l v.c)).set 2 3 rfl rfl (fun _=>by simp) (.slice v.b v.m v.d)).set 2 4 rfl rfl (fun _=>by simp) (.slice a j pc))
     go_wp2_with fail
     (try simp only [Exit.inBlock,Exit.then])
     refine bodyPost_ret (v:=.agg #[.int .i64 1,.bool v.s,.slice v.a v.l v.c,.slice v.b v.m v.d,.slice a j pc]) ?_ rfl ?_
     ·
      rw [results_cell1 rfl]
      have hbk:=(HOE.out.st.at 2 rfl:_=some (Obj.cells #[.int .i64 1,.bool v.s,.slice v.a v.l v.c,.slice v.b v.m v.d,.slice a j pc] 117 (0,0)))
      generalize (((((wr.setCell ⟨w.heap.size+1+1,0,none⟩ (.int .i64 1)).setCell ⟨w.heap.size+1+1,1,none⟩ (.bool v.s)).setCell ⟨w.heap.size+1+1,2,none⟩ (.slice v.a v.l v.c)).setCell ⟨w.heap.size+1+1,3,none⟩ (.slice v.b v.m v.d)).setCell ⟨w.heap.size+1+1,4,none⟩ (.slice a j pc))=WE at hbk ⊢
      exact Go.Lib.rl_loadVar_cells 117 _ hiR (fun _=>by kernel_rfl) (w.heap.size+1+1) 0 [.int .i64 1,.bool v.s,.slice v.a v.l v.c,.slice v.b v.m v.d,.slice a j pc] hzR.symm _ (fun k v hk=>by
       rw [Nat.zero_add]
       exact cell_of_block (j:=k) hbk (by simpa using hk))
     rw [HAB.out,← HJE.out,← HMP.out]
     have hbs:=HOE.out.st
     exact ⟨v,a,j,pc,vs,rfl,⟨HV0.out.s,HV0.out.l,HV0.out.m,HS0.out.1,HS0.out.2⟩,rfl,rfl,HVL.out,by omega,HSH.out,fun y hy=>by
      rcases List.mem_append.1 hy with hy | hy
      ·
       simp only [Rv.nums,List.mem_cons,List.not_mem_nil,or_false] at hy
       rcases hy with rfl | rfl
       ·
        exact (HV0.out.below hbs.bel).num
       ·
        exact (HV0.out.below hbs.bel).den
      ·
       exact hbs.num y hy,HOE.out.mid,HOE.out.hd,hbs.bel⟩
     trivial
 ·
  have g1:(out != 1)=true:=bne_iff_ne.2 ho
  have HAB:=qH (show ansT t=⟨out,0,[]⟩ from HOT.out ho)
  clear ho
  have ⟨k2_0,f2_0,k2_1,f2_1,k2_2,f2_2,k2_3,f2_3,k2_4,f2_4⟩:=HN.out.cf5 2 rfl
  have ⟨k3_0,f3_0,k3_1,f3_1,k3_2,f3_2,k3_3,f3_3,k3_4,f3_4⟩:=HN.out.cf5 3 rfl
  have HE:=qH (((((HN.out.set 2 0 rfl rfl (fun _=>by simp) (.int .i64 out)).set 2 1 rfl rfl (fun _=>by simp) (.bool false)).set 2 2 rfl rfl (fun _=>by simp) (.slice none 0 0)).set 2 3 rfl rfl (fun _=>by simp) (.slice none 0 0)).set 2 4 rfl rfl (fun _=>by simp) (.slice none 0 0))
  go_wp2_with fail
  (try simp only [Exit.inBlock,Exit.then])
  refine bodyPost_ret (v:=.agg #[.int .i64 out,.bool false,.slice none 0 0,.slice none 0 0,.slice none 0 0]) ?_ rfl ?_
  ·
   rw [results_cell1 rfl]
   have hbk:=(HE.out.at 2 rfl:_=some (Obj.cells #[.int .i64 out,.bool false,.slice none 0 0,.slice none 0 0,.slice none 0 0] 117 (0,0)))
   generalize (((((wa1.setCell ⟨w.heap.size+1+1,0,none⟩ (.int .i64 out)).setCell ⟨w.heap.size+1+1,1,none⟩ (.bool false)).setCell ⟨w.heap.size+1+1,2,none⟩ (.slice none 0 0)).setCell ⟨w.heap.size+1+1,3,none⟩ (.slice none 0 0)).setCell ⟨w.heap.size+1+1,4,none⟩ (.slice none 0 0))=WE at hbk ⊢
   exact Go.Lib.rl_loadVar_cells 117 _ hiR (fun _=>by kernel_rfl) (w.heap.size+1+1) 0 [.int .i64 out,.bool false,.slice none 0 0,.slice none 0 0,.slice none 0 0] hzR.symm _ (fun k v hk=>by
    rw [Nat.zero_add]
    exact cell_of_block (j:=k) hbk (by simpa using hk))
  rw [HAB.out]
  exact ⟨Rv.zero,none,0,0,[],rfl,Rv.zero_sh,rfl,rfl,rfl,by omega,fun _ h=>(by cases h),fun y hy=>by
   simp only [Rv.nums,numsV,List.flatMap_nil,List.append_nil,List.mem_cons,List.not_mem_nil,or_false] at hy
   rcases hy with rfl | rfl <;> exact NatW.zero _,(OB.start (T:=45) (sz:=3) HE.out).mid,.inl rfl,HE.out.bel⟩
theorem radd_at {K2 L:Nat} (hKL:L≤K2) (hD:DivUpto K2 L) (p q:Rat) (a b e f:Option Addr) (c d i g:Nat) (w:World) (ha:NatW w a c p.num.natAbs) (hb:NatW w b d (denN p.den)) (he:NatW w e i q.num.natAbs) (hf:NatW w f g (denN q.den)) (h4:lenW (p.num*(q.den:Int)+q.num*(p.den:Int)).natAbs≤K2) (h5:lenW ((p.den*q.den:Nat):Int).natAbs≤L) (hM1:∀ (a2:Option Addr) (c2:Nat) (W:World),NatW W a c p.num.natAbs→NatW W a2 c2 (q.den:Int).natAbs→Calls Tryz.prog 150 #[.agg #[.bool (decide (p.num<0)),.slice a (lenW (p.num).natAbs) c],.agg #[.bool (decide ((q.den:Int)<0)),.slice a2 (lenW ((q.den:Int)).natAbs) c2]] W (RetI (p.num*(q.den:Int)) W)) (hM2:∀ (a2:Option Addr) (c2:Nat) (W:World),NatW W e i q.num.natAbs→NatW W a2 c2 (p.den:Int).natAbs→Calls Tryz.prog 150 #[.agg #[.bool (decide (q.num<0)),.slice e (lenW (q.num).natAbs) i],.agg #[.bool (decide ((p.den:Int)<0)),.slice a2 (lenW ((p.den:Int)).natAbs) c2]] W (RetI (q.num*(p.den:Int)) W)) (hA:∀ (a2 a3:Option Addr) (c2 c3:Nat) (W:World),NatW W a2 c2 (p.num*(q.den:Int)).natAbs→NatW W a3 c3 (q.num*(p.den:Int)).natAbs→Calls Tryz.prog 197 #[.agg #[.bool (decide (p.num*(q.den:Int)<0)),.slice a2 (lenW (p.num*(q.den:Int)).natAbs) c2],.agg #[.bool (decide (q.num*(p.den:Int)<0)),.slice a3 (lenW (q.num*(p.den:Int)).natAbs) c3]] W (RetI (p.num*(q.den:Int)+q.num*(p.den:Int)) W)) (hPM:∀ (a2 a3:Option Addr) (c2 c3:Nat) (W:World),NatW W a2 c2 p.den→NatW W a3 c3 q.den→Calls Tryz.prog 189 #[.agg #[.slice a2 (lenW p.den) c2],.agg #[.slice a3 (lenW q.den) c3]] W (RetN (p.den*q.den) W)):Calls Tryz.prog 173 #[ratV a c b d p,ratV e i f g q] w (RetR (p+q) w):=by
 have hBq:=fun (W:World) (h:NatW W f g (denN q.den))=>rbelow_any (decide (q.num<0)) e f (lenW q.num.natAbs) i g q W h
 have hBp:=fun (W:World) (h:NatW W b d (denN p.den))=>rbelow_any (decide (p.num<0)) a b (lenW p.num.natAbs) c d p W h
 have hDp:=fun (W:World) (h:NatW W b d (denN p.den))=>den_any (decide (p.num<0)) a b (lenW p.num.natAbs) c d p W h
 have hDq:=fun (W:World) (h:NatW W f g (denN q.den))=>den_any (decide (q.num<0)) e f (lenW q.num.natAbs) i g q W h
 have hNI:=fun (a2:Option Addr) (c2:Nat) (W:World) (q1:NatW W a2 c2 (p.den*q.den))=>newI_false (p.den*q.den)▸inew_any false a2 c2 (p.den*q.den) W q1
 have hRN:=fun (a2 a3:Option Addr) (c2 c3:Nat) (W:World) (q1:NatW W a2 c2 (p.num*(q.den:Int)+q.num*(p.den:Int)).natAbs) (q2:NatW W a3 c3 ((p.den*q.den:Nat):Int).natAbs)=>rnew_any hKL hD (p.num*(q.den:Int)+q.num*(p.den:Int)) ((p.den*q.den:Nat):Int) a2 a3 c2 c3 W q1 q2 h4 h5 (by have:=Nat.mul_ne_zero p.den_nz q.den_nz;omega)
 rw [rat_add p q] at hRN
 obtain ⟨r,hr⟩:∃ r,p+q=r:=⟨_,rfl⟩
 rw [hr] at hRN
 rw [hr]
 obtain ⟨u,hu⟩:∃ u,p.num*(q.den:Int)+q.num*(p.den:Int)=u:=⟨_,rfl⟩
 rw [hu] at hRN hA
 obtain ⟨v,hv⟩:∃ v,p.den*q.den=v:=⟨_,rfl⟩
 rw [hv] at hPM hNI hRN
 obtain ⟨sp,hsp⟩:∃ s,decide (p.num<0)=s:=⟨_,rfl⟩
 obtain ⟨mp,hmp⟩:∃ m,p.num.natAbs=m:=⟨_,rfl⟩
 obtain ⟨sq,hsq⟩:∃ s,decide (q.num<0)=s:=⟨_,rfl⟩
 obtain ⟨mq,hmq⟩:∃ m,q.num.natAbs=m:=⟨_,rfl⟩
 obtain ⟨bp,hbp⟩:∃ s,decide ((p.den:Int)<0)=s:=⟨_,rfl⟩
 obtain ⟨np,hnp⟩:∃ m,(p.den:Int).natAbs=m:=⟨_,rfl⟩
 obtain ⟨bq,hbq⟩:∃ s,decide ((q.den:Int)<0)=s:=⟨_,rfl⟩
 obtain ⟨nq,hnq⟩:∃ m,(q.den:Int).natAbs=m:=⟨_,rfl⟩
 obtain ⟨dp,hdp⟩:∃ m,denN p.den=m:=⟨_,rfl⟩
 obtain ⟨dq,hdq⟩:∃ m,denN q.den=m:=⟨_,rfl⟩
 obtain ⟨x,hx⟩:∃ x,p.num*(q.den:Int)=x:=⟨_,rfl⟩
 obtain ⟨y,hy⟩:∃ y,q.num*(p.den:Int)=y:=⟨_,rfl⟩
 obtain ⟨sx,hsx⟩:∃ s,decide (x<0)=s:=⟨_,rfl⟩
 obtain ⟨mx,hmx⟩:∃ m,x.natAbs=m:=⟨_,rfl⟩
 obtain ⟨sy,hsy⟩:∃ s,decide (y<0)=s:=⟨_,rfl⟩
 obtain ⟨my,hmy⟩:∃ m,y.natAbs=m:=⟨_,rfl⟩
 unfold RetI at hBq hBp hM1 hM2
 rw [hsq,hmq,hdq,hbq,hnq] at hBq
 rw [hsp,hmp,hdp,hbp,hnp] at hBp
 rw [hx,hsx,hmx,hsp,hmp,hbq,hnq] at hM1
 rw [hy,hsy,hmy,hsq,hmq,hbp,hnp] at hM2
 rw [hmp] at ha
 rw [hdp] at hb
 rw [hmq] at he
 rw [hdq] at hf
 have HBq:=qH hBq
 have HBp:=qH hBp
 have HM1:=qH hM1
 have HM2:=qH hM2
 obtain ⟨su,hsu⟩:∃ s,decide (u<0)=s:=⟨_,rfl⟩
 obtain ⟨mu,hmu⟩:∃ m,u.natAbs=m:=⟨_,rfl⟩
 obtain ⟨sv,hsv⟩:∃ s,decide ((v:Int)<0)=s:=⟨_,rfl⟩
 obtain ⟨mv,hmv⟩:∃ m,(v:Int).natAbs=m:=⟨_,rfl⟩
 unfold RetI at hA hNI
 unfold RetRB ratV at hRN
 unfold ratV
 rw [hx,hy,hsx,hmx,hsy,hmy,hsu,hmu] at hA
 rw [hsp,hmp,hdp] at hDp
 rw [hsq,hmq,hdq] at hDq
 rw [hsv,hmv] at hNI
 rw [hsu,hmu,hsv,hmv] at hRN
 rw [hsp,hmp,hdp,hsq,hmq,hdq]
 have HA:=qH hA
 have HDp:=qH hDp
 have HDq:=qH hDq
 have HPM:=qH hPM
 have HNI:=qH hNI
 have HRN:=qH hRN
 clear hBq hBp hM1 hM2 hA hDp hDq hPM hNI hRN hr hu hv hsu hmu hsv hmv hsp hmp hsq hmq hbp hnp hbq hnq hdp hdq hsx hmx hsy hmy hx hy h4 h5 hKL hD
 obtain ⟨W0,hW0⟩:∃ W0,W0=(((w.alloc (.cells #[.bool sp,.slice a (lenW mp) c,.slice b (lenW dp) d] 45)).alloc (.cells #[.bool sq,.slice e (lenW mq) i,.slice f (lenW dq) g] 45)).alloc (.cells #[.bool false,.slice none 0 0,.slice none 0 0] 45)):=⟨_,rfl⟩
 have hbs:BS w [⟨w.heap.size,45,[.bool sp,.slice a (lenW mp) c,.slice b (lenW dp) d]⟩,⟨w.heap.size+1,45,[.bool sq,.slice e (lenW mq) i,.slice f (lenW dq) g]⟩,⟨w.heap.size+1+1,45,[.bool false,.slice none 0 0,.slice none 0 0]⟩] [⟨a,c,mp⟩,⟨b,d,dp⟩,⟨e,i,mq⟩,⟨f,g,dq⟩] (((w.alloc (.cells #[.bool sp,.slice a (lenW mp) c,.slice b (lenW dp) d] 45)).alloc (.cells #[.bool sq,.slice e (lenW mq) i,.slice f (lenW dq) g] 45)).alloc (.cells #[.bool false,.slice none 0 0,.slice none 0 0] 45)) :=
   ((((BS.begin [⟨a,c,mp⟩,⟨b,d,dp⟩,⟨e,i,mq⟩,⟨f,g,dq⟩] (fun y hy=>by
    rcases List.mem_cons.1 hy with rfl | hy
    ·
     exact ha
    rcases List.mem_cons.1 hy with rfl | hy
    ·
     exact hb
    rcases List.mem_cons.1 hy with rfl | hy
    ·
     exact he
    rw [List.mem_singleton.1 hy];exact hf)).alloc (p:=w.heap.size) rfl 45 [.bool sp,.slice a (lenW mp) c,.slice b (lenW dp) d] rfl).alloc (p:=w.heap.size+1) (by simp) 45 [.bool sq,.slice e (lenW mq) i,.slice f (lenW dq) g] rfl).alloc (p:=w.heap.size+1+1) (by simp) 45 [.bool false,.slice none 0 0,.slice none 0 0] rfl)
 rw [← hW0] at hbs
 have HW0:=qH hW0
 have HN:=qH hbs
 clear hW0 hbs
 clear ha hb he hf
 go_enter Tryz.func173,Tryz.ntmps173
 go_upto_region 1 with fail
 rw [← HW0.out]
 go_cut [5] (fun v5 wx=>∃ p5 a5 c5,v5=.pointer (some ⟨p5,0,none⟩)∧BS w [⟨w.heap.size,45,[.bool sp,.slice a (lenW mp) c,.slice b (lenW dp) d]⟩,⟨w.heap.size+1,45,[.bool sq,.slice e (lenW mq) i,.slice f (lenW dq) g]⟩,⟨w.heap.size+1+1,45,[.bool false,.slice none 0 0,.slice none 0 0]⟩,⟨p5,43,[.bool su,.slice a5 (lenW mu) c5]⟩] [⟨a,c,mp⟩,⟨b,d,dp⟩,⟨e,i,mq⟩,⟨f,g,dq⟩,⟨a5,c5,mu⟩] wx)
 case first =>
  replace HN:=qH HN.out.drew
  refine wp_region_held_drew (S:=fun W=>W.cell? ⟨w.heap.size,0,none⟩=some (.bool sp)∧W.cell? ⟨w.heap.size,1,none⟩=some (.slice a (lenW mp) c)∧W.cell? ⟨w.heap.size,2,none⟩=some (.slice b (lenW dp) d)∧W.cell? ⟨w.heap.size+1,0,none⟩=some (.bool sq)∧W.cell? ⟨w.heap.size+1,1,none⟩=some (.slice e (lenW mq) i)∧W.cell? ⟨w.heap.size+1,2,none⟩=some (.slice f (lenW dq) g)) (by kernel_rfl) (⟨HN.out.cell 0 0 rfl rfl,HN.out.cell 0 1 rfl rfl,HN.out.cell 0 2 rfl rfl,HN.out.cell 1 0 rfl rfl,HN.out.cell 1 1 rfl rfl,HN.out.cell 1 2 rfl rfl⟩) (fun hHeld=>?_)
  generalize W0.drew=wd at HN hHeld ⊢
  refine tm 0 (some 8) ?_
  refine tl 1 (some 9) ?_
  refine tl 2 (some 10) ?_
  refine tm 5 (some 13) ?_
  refine tl 6 (some 14) ?_
  refine tl 7 (some 15) ?_
  have tg:=Mk.mk (v:=0) (d:=0)
  iterate 7
   all_goals first
   | refine qz2 0 tg 3 0 1 11 1 2 ?_ ?_
   | refine qz2 1 tg 4 2 3 11 1 4 ?_ ?_
   | refine qz1 2 tg 3 0 4 ?_
   | refine qz2 3 tg 8 3 5 11 1 6 ?_ ?_
   | refine qz1 4 tg 4 2 6 ?_
   | refine qz2 5 tg 9 4 7 11 1 8 ?_ ?_
   | refine qz1 6 tg 8 3 8 ?_
   | refine qz2 7 tg 10 5 9 11 1 10 ?_ ?_
   | refine qz1 8 tg 9 4 10 ?_
   | refine qz1 9 tg 11 1 11 ?_
   | refine qz1 10 tg 10 5 11 ?_
   | refine qz1 11 tg 12 6 12 ?_
   all_goals intro K hK tg
   all_goals first
   |
    have _:Mk 0 _:=tg
    go_simp
    refine (HBq.out _ (HN.out.nat 3 rfl)).mono ?_
    rintro e wd ⟨a2,c2,rfl,hq0,hb⟩
    replace HN:=qH ((HN.out.call hb).got hq0)
    clear hb hq0
    go_wp2_with fail
   |
    have _:Mk 1 _:=tg
    go_simp
    replace HN:=qH (HN.out.alloc (p:=wd.heap.size) rfl 43 [.bool false,.slice none 0 0] rfl)
    generalize wd.heap.size=p11_ at HN ⊢
    generalize wd.alloc (.cells #[.bool false,.slice none 0 0] 43)=wd at HN  ⊢
   |
    have _:Mk 2 _:=tg
    go_simp
    refine (HM1.out _ _ _ (HN.out.nat 0 rfl) (HN.out.nat 4 rfl)).mono ?_
    rintro e wd ⟨a3,c3,rfl,hq0,hb⟩
    replace HN:=qH ((HN.out.call hb).got hq0)
    clear hb hq0
    go_wp2_with fail
   |
    have _:Mk 3 _:=tg
    go_simp
    refine (HBp.out _ (HN.out.nat 1 rfl)).mono ?_
    rintro e wd ⟨a4,c4,rfl,hq0,hb⟩
    replace HN:=qH ((HN.out.call hb).got hq0)
    clear hb hq0
    go_wp2_with fail
   |
    have _:Mk 4 _:=tg
    go_simp
    refine (HM2.out _ _ _ (HN.out.nat 2 rfl) (HN.out.nat 6 rfl)).mono ?_
    rintro e wd ⟨a5,c5,rfl,hq0,hb⟩
    replace HN:=qH ((HN.out.call hb).got hq0)
    clear hb hq0
    go_wp2_with fail
   |
    have _:Mk 5 _:=tg
    go_simp
    refine (HA.out _ _ _ _ _ (HN.out.nat 5 rfl) (HN.out.nat 7 rfl)).mono ?_
    rintro e wd ⟨a6,c6,rfl,hq0,hb⟩
    replace HN:=qH ((HN.out.call hb).got hq0)
    clear hb hq0
    go_wp2_with fail
   |
    have _:Mk 6 _:=tg
    have hc0:=HN.out.cell 3 0 rfl rfl
    have hf0:=HN.out.free 3 0 rfl
    have hc1:=HN.out.cell 3 1 rfl rfl
    have hf1:=HN.out.free 3 1 rfl
    go_simp
    clear hc0 hf0 hc1 hf1
    replace HN:=qH (((HN.out).set 3 0 rfl rfl (fun _=>by simp) (.bool su)).set 3 1 rfl rfl (fun _=>by simp) (.slice a6 (lenW mu) c6))
    generalize ((wd.setCell ⟨p11_,0,none⟩ (.bool su)).setCell ⟨p11_,1,none⟩ (.slice a6 (lenW mu) c6))=wd at HN  ⊢
   all_goals
    refine hK.out _ _ (⟨HN.out.cell 0 0 rfl rfl,HN.out.cell 0 1 rfl rfl,HN.out.cell 0 2 rfl rfl,HN.out.cell 1 0 rfl rfl,HN.out.cell 1 1 rfl rfl,HN.out.cell 1 2 rfl rfl⟩) (fun hHeld2=>?_)
    clear hK K hHeld
    rename _=>hHeld
    try simp only [Act.put,stB,stZ,stS]
  all_goals (refine wpAnyH_done (by kernel_rfl) ?_ _)
  all_goals
   go_wp2_with fail
   go_meet
   exact ⟨_,_,_,rfl,HN.out.only (List.Sublist.refl _) (fun z hz=>by
    simp only [List.mem_cons,List.not_mem_nil,or_false] at hz
    rcases hz with rfl | rfl | rfl | rfl | rfl <;> simp)⟩
 case rest =>
  obtain ⟨w1,rfl⟩:∃ w1:World,w1=wc:=⟨_,rfl⟩
  obtain ⟨p5,a5,c5,rfl,hn0⟩:=hcut
  have HN:=qH hn0
  clear hn0
  have ⟨k00,f00,k01,f01,k02,f02⟩:=HN.out.cf3 0 rfl
  have ⟨k10,f10,k11,f11,k12,f12⟩:=HN.out.cf3 1 rfl
  have ⟨k20,f20,k21,f21,k22,f22⟩:=HN.out.cf3 2 rfl
  have ⟨k30,f30,k31,f31⟩:=HN.out.cf2 3 rfl
  go_upto_region 2 with fail
  clear k00 f00 k01 f01 k02 f02 k10 f10 k11 f11 k12 f12 k20 f20 k21 f21 k22 f22 k30 f30 k31 f31
  go_cut [6] (fun v6 wx=>∃ p6 a8 c8 b9 d9,v6=.pointer (some ⟨p6,0,none⟩)∧BS w [⟨w.heap.size,45,[.bool sp,.slice a (lenW mp) c,.slice b (lenW dp) d]⟩,⟨w.heap.size+1,45,[.bool sq,.slice e (lenW mq) i,.slice f (lenW dq) g]⟩,⟨w.heap.size+1+1,45,[.bool false,.slice none 0 0,.slice none 0 0]⟩,⟨p5,43,[.bool su,.slice a5 (lenW mu) c5]⟩,⟨p6,45,[.bool (decide (r.num<0)),.slice a8 (lenW r.num.natAbs) c8,.slice b9 (lenW (denN r.den)) d9]⟩] [⟨a8,c8,r.num.natAbs⟩,⟨b9,d9,denN r.den⟩] wx)
  case first =>
   replace HN:=qH HN.out.drew
   refine wp_region_held_drew (S:=fun W=>W.cell? ⟨w.heap.size,0,none⟩=some (.bool sp)∧W.cell? ⟨w.heap.size,1,none⟩=some (.slice a (lenW mp) c)∧W.cell? ⟨w.heap.size,2,none⟩=some (.slice b (lenW dp) d)∧W.cell? ⟨w.heap.size+1,0,none⟩=some (.bool sq)∧W.cell? ⟨w.heap.size+1,1,none⟩=some (.slice e (lenW mq) i)∧W.cell? ⟨w.heap.size+1,2,none⟩=some (.slice f (lenW dq) g)∧W.cell? ⟨p5,0,none⟩=some (.bool su)∧W.cell? ⟨p5,1,none⟩=some (.slice a5 (lenW mu) c5)) (by kernel_rfl) (⟨HN.out.cell 0 0 rfl rfl,HN.out.cell 0 1 rfl rfl,HN.out.cell 0 2 rfl rfl,HN.out.cell 1 0 rfl rfl,HN.out.cell 1 1 rfl rfl,HN.out.cell 1 2 rfl rfl,HN.out.cell 3 0 rfl rfl,HN.out.cell 3 1 rfl rfl⟩) (fun hHeld=>?_)
   generalize w1.drew=wd at HN hHeld ⊢
   refine tl 0 (some 20) ?_
   refine tl 1 (some 21) ?_
   refine tl 3 (some 23) ?_
   have tg:=Mk.mk (v:=0) (d:=0)
   iterate 7
    all_goals first
    | refine qz2 0 tg 2 0 1 11 1 2 ?_ ?_
    | refine qz2 1 tg 4 2 3 11 1 4 ?_ ?_
    | refine qz1 2 tg 2 0 4 ?_
    | refine qz2 3 tg 5 3 5 11 1 6 ?_ ?_
    | refine qz1 4 tg 4 2 6 ?_
    | refine qz2 5 tg 6 4 7 11 1 8 ?_ ?_
    | refine qz1 6 tg 5 3 8 ?_
    | refine qz2 7 tg 7 5 9 11 1 10 ?_ ?_
    | refine qz1 8 tg 6 4 10 ?_
    | refine qz1 9 tg 11 1 11 ?_
    | refine qz1 10 tg 7 5 11 ?_
    | refine qz1 11 tg 12 6 12 ?_
    all_goals intro K hK tg
    all_goals first
    |
     have _:Mk 0 _:=tg
     go_simp
     refine (HDp.out _ (HN.out.nat 1 rfl)).mono ?_
     rintro e wd ⟨a2,c2,rfl,hq0,hb⟩
     replace HN:=qH ((HN.out.call hb).got hq0)
     clear hb hq0
     go_wp2_with fail
    |
     have _:Mk 1 _:=tg
     go_simp
     replace HN:=qH (HN.out.alloc (p:=wd.heap.size) rfl 45 [.bool false,.slice none 0 0,.slice none 0 0] rfl)
     generalize wd.heap.size=p11_ at HN ⊢
     generalize wd.alloc (.cells #[.bool false,.slice none 0 0,.slice none 0 0] 45)=wd at HN  ⊢
    |
     have _:Mk 2 _:=tg
     go_simp
     refine (HDq.out _ (HN.out.nat 3 rfl)).mono ?_
     rintro e wd ⟨a3,c3,rfl,hq0,hb⟩
     replace HN:=qH ((HN.out.call hb).got hq0)
     clear hb hq0
     go_wp2_with fail
    |
     have _:Mk 3 _:=tg
     go_simp
     refine (HPM.out _ _ _ _ _ (HN.out.nat 5 rfl) (HN.out.nat 6 rfl)).mono ?_
     rintro e wd ⟨a4,c4,rfl,hq0,hb⟩
     replace HN:=qH ((HN.out.call hb).got hq0)
     clear hb hq0
     go_wp2_with fail
    |
     have _:Mk 4 _:=tg
     go_simp
     refine (HNI.out _ _ _ (HN.out.nat 7 rfl)).mono ?_
     rintro e wd ⟨a7,c7,rfl,hq0,hb⟩
     replace HN:=qH ((HN.out.call hb).got hq0)
     clear hb hq0
     go_wp2_with fail
    |
     have _:Mk 5 _:=tg
     go_simp
     refine (HRN.out _ _ _ _ _ (HN.out.nat 4 rfl) (HN.out.nat 8 rfl)).mono ?_
     rintro e wd ⟨a8,c8,b9,d9,rfl,hq0,hq1,hb⟩
     replace HN:=qH (((HN.out.call hb).got hq0).got hq1)
     clear hb hq0 hq1
     go_wp2_with fail
    |
     have _:Mk 6 _:=tg
     have hc0:=HN.out.cell 4 0 rfl rfl
     have hf0:=HN.out.free 4 0 rfl
     have hc1:=HN.out.cell 4 1 rfl rfl
     have hf1:=HN.out.free 4 1 rfl
     have hc2:=HN.out.cell 4 2 rfl rfl
     have hf2:=HN.out.free 4 2 rfl
     go_simp
     clear hc0 hf0 hc1 hf1 hc2 hf2
     replace HN:=qH ((((HN.out).set 4 0 rfl rfl (fun _=>by simp) (.bool (decide (r.num<0)))).set 4 1 rfl rfl (fun _=>by simp) (.slice a8 (lenW r.num.natAbs) c8)).set 4 2 rfl rfl (fun _=>by simp) (.slice b9 (lenW (denN r.den)) d9))
     generalize (((wd.setCell ⟨p11_,0,none⟩ (.bool (decide (r.num<0)))).setCell ⟨p11_,1,none⟩ (.slice a8 (lenW r.num.natAbs) c8)).setCell ⟨p11_,2,none⟩ (.slice b9 (lenW (denN r.den)) d9))=wd at HN  ⊢
    all_goals
     refine hK.out _ _ (⟨HN.out.cell 0 0 rfl rfl,HN.out.cell 0 1 rfl rfl,HN.out.cell 0 2 rfl rfl,HN.out.cell 1 0 rfl rfl,HN.out.cell 1 1 rfl rfl,HN.out.cell 1 2 rfl rfl,HN.out.cell 3 0 rfl rfl,HN.out.cell 3 1 rfl rfl⟩) (fun hHeld2=>?_)
     clear hK K hHeld
     rename _=>hHeld
     try simp only [Act.put,stB,stZ,stS]
    all_goals first
    |
     have _:Mk 5 _:=tg
     refine tm 8 (some 19) ?_
     refine tm 9 (some 28) ?_
     refine tm 10 (some 29) ?_
    |
     have _:Mk 6 _:=tg
     refine tm 13 (some 7) ?_
    | skip
   all_goals (refine wpAnyH_done (by kernel_rfl) ?_ _)
   all_goals
    go_wp2_with fail
    go_meet
    exact ⟨_,_,_,_,_,rfl,HN.out.only (List.Sublist.refl _) (fun z hz=>by
     simp only [List.mem_cons,List.not_mem_nil,or_false] at hz
     rcases hz with rfl | rfl <;> simp)⟩
  case rest =>
   obtain ⟨w2,rfl⟩:∃ w2:World,w2=wc:=⟨_,rfl⟩
   obtain ⟨p6,a8,c8,b9,d9,rfl,hn0⟩:=hcut
   have HN:=qH hn0
   clear hn0
   have ⟨k00,f00,k01,f01,k02,f02⟩:=HN.out.cf3 0 rfl
   have ⟨k10,f10,k11,f11,k12,f12⟩:=HN.out.cf3 1 rfl
   have ⟨k20,f20,k21,f21,k22,f22⟩:=HN.out.cf3 2 rfl
   have ⟨k30,f30,k31,f31⟩:=HN.out.cf2 3 rfl
   have ⟨k40,f40,k41,f41,k42,f42⟩:=HN.out.cf3 4 rfl
   have HE:=qH ((((HN.out).set 2 0 rfl rfl (fun _=>by simp) (.bool (decide (r.num<0)))).set 2 1 rfl rfl (fun _=>by simp) (.slice a8 (lenW r.num.natAbs) c8)).set 2 2 rfl rfl (fun _=>by simp) (.slice b9 (lenW (denN r.den)) d9))
   have ⟨j0_2,j1_2,j2_2⟩:=HE.out.cg3 2 rfl
   go_wp2_with fail
   refine bodyPost_ret (v:=.agg #[.bool (decide (r.num<0)),.slice a8 (lenW r.num.natAbs) c8,.slice b9 (lenW (denN r.den)) d9]) (by simp [results,Tryz.results173,go_sem,j0_2,j1_2,j2_2,k00,k01,k02,k10,k11,k12,k20,k21,k22,k30,k31,k40,k41,k42]) rfl ?_
   exact ⟨a8,c8,b9,d9,rfl,HE.out.nat 0 rfl,HE.out.nat 1 rfl,HE.out.bel⟩
theorem imul_tf8 (a b:Option Addr) (c d m n:Nat) (w:World) (ha:NatW w a c m) (hb:NatW w b d n) (h1:lenW m+lenW n≤17592186044416) (h8:lenW m<8∨lenW n<8):Calls Tryz.prog 150 #[.agg #[.bool true,.slice a (lenW m) c],.agg #[.bool false,.slice b (lenW n) d]] w (RetI (newI true (m*n)) w):=by
 obtain ⟨W0,hW0⟩:∃ W0,W0=(((w.alloc (.cells #[.bool true,.slice a (lenW m) c] 43)).alloc (.cells #[.bool false,.slice b (lenW n) d] 43)).alloc (.cells #[.bool false,.slice none 0 0] 43)):=⟨_,rfl⟩
 have hbs:BS w [⟨w.heap.size,43,[.bool true,.slice a (lenW m) c]⟩,⟨w.heap.size+1,43,[.bool false,.slice b (lenW n) d]⟩,⟨w.heap.size+1+1,43,[.bool false,.slice none 0 0]⟩] [⟨a,c,m⟩,⟨b,d,n⟩] (((w.alloc (.cells #[.bool true,.slice a (lenW m) c] 43)).alloc (.cells #[.bool false,.slice b (lenW n) d] 43)).alloc (.cells #[.bool false,.slice none 0 0] 43)) :=
  (((BS.begin [⟨a,c,m⟩,⟨b,d,n⟩] (fun y hy=>by
   rcases List.mem_cons.1 hy with rfl | hy
   ·
    exact ha
   ·
    rw [List.mem_singleton.1 hy];exact hb)).alloc (p:=w.heap.size) rfl 43 [.bool true,.slice a (lenW m) c] rfl).alloc (p:=w.heap.size+1) (by simp) 43 [.bool false,.slice b (lenW n) d] rfl).alloc (p:=w.heap.size+1+1) (by simp) 43 [.bool false,.slice none 0 0] rfl
 rw [← hW0] at hbs
 have HW0:=qH hW0
 have HBS:=qH hbs
 clear hW0 hbs
 have HM:=qH (fun (W:World) (q1:NatW W a c m) (q2:NatW W b d n)=>mul_small a b c d m n W q1 q2 h1 h8)
 have HNew:=qH (fun (a2:Option Addr) (c2:Nat) (W:World) (q1:NatW W a2 c2 (m*n))=>inew_any true a2 c2 (m*n) W q1)
 clear ha hb h1 h8
 go_enter Tryz.func150,Tryz.ntmps150
 go_upto_region 1 with fail
 rw [← HW0.out]
 have hn:=HBS.out.drew
 refine wp_region_held_drew (S:=fun W=>W.cell? ⟨w.heap.size,0,none⟩=some (.bool true)∧W.cell? ⟨w.heap.size+1,0,none⟩=some (.bool false)∧W.cell? ⟨w.heap.size,1,none⟩=some (.slice a (lenW m) c)∧W.cell? ⟨w.heap.size+1,1,none⟩=some (.slice b (lenW n) d)) (by kernel_rfl) (⟨hn.cell 0 0 rfl rfl,hn.cell 1 0 rfl rfl,hn.cell 0 1 rfl rfl,hn.cell 1 1 rfl rfl⟩) (fun hHeld=>?_)
 refine tm 0 (some 5) ?_
 refine tl 1 (some 6) ?_
 refine tm 2 (some 7) ?_
 refine tl 3 (some 8) ?_
 refine tm 4 (some 9) ?_
 refine tm 5 (some 10) ?_
 refine tl 6 (some 11) ?_
 refine tm 7 (some 12) ?_
 refine tl 8 (some 13) ?_
 refine wpAnyH_ready (rs:=[9]) (by kernel_rfl) (by simp) ?_
 refine (AllReadyH.cons rfl (fun K hK=>?_) AllReadyH.nil)
 go_simp
 refine (HM.out _ (hn.nat 0 rfl) (hn.nat 1 rfl)).mono ?_
 rintro e w2 ⟨a8,c8,rfl,hq,hb2⟩
 have hn1:=(hn.call hb2).got hq
 clear hn hb2 hq
 have hn:=hn1
 clear hn1
 go_wp2_with fail
 refine hK.out _ _ (⟨hn.cell 0 0 rfl rfl,hn.cell 1 0 rfl rfl,hn.cell 0 1 rfl rfl,hn.cell 1 1 rfl rfl⟩) (fun hHeld2=>?_)
 clear hK K hHeld
 rename _=>hHeld
 try simp only [Act.put,stB,stZ,stS]
 refine wpAnyH_ready (rs:=[10]) (by kernel_rfl) (by simp) ?_
 refine (AllReadyH.cons rfl (fun K hK=>?_) AllReadyH.nil)
 go_simp
 refine (HNew.out _ _ _ (hn.nat 2 rfl)).mono ?_
 rintro e w3 ⟨a9,c9,rfl,hq,hb3⟩
 have hn1:=(hn.call hb3).got hq
 clear hn hb3 hq
 have hn:=hn1
 clear hn1
 go_wp2_with fail
 refine hK.out _ _ (⟨hn.cell 0 0 rfl rfl,hn.cell 1 0 rfl rfl,hn.cell 0 1 rfl rfl,hn.cell 1 1 rfl rfl⟩) (fun hHeld2=>?_)
 clear hK K hHeld
 rename _=>hHeld
 try simp only [Act.put,stB,stZ,stS]
 refine wpAnyH_ready (rs:=[11]) (by kernel_rfl) (by simp) ?_
 refine (AllReadyH.cons rfl (fun K hK=>?_) AllReadyH.nil)
 have k0:=hn.cell 2 0 rfl rfl
 have f0:=hn.free 2 0 rfl
 have k1:=hn.cell 2 1 rfl rfl
 have f1:=hn.free 2 1 rfl
 go_simp
 clear f0 f1
 have hn1:=(hn.set 2 0 rfl rfl (fun _=>by simp) (.bool (decide (newI true (m*n)<0)))).set 2 1 rfl rfl (fun _=>by simp) (.slice a9 (lenW (newI true (m*n)).natAbs) c9)
 clear hn
 have hn:=hn1
 clear hn1
 refine hK.out _ _ (⟨hn.cell 0 0 rfl rfl,hn.cell 1 0 rfl rfl,hn.cell 0 1 rfl rfl,hn.cell 1 1 rfl rfl⟩) (fun hHeld2=>?_)
 clear hK K hHeld
 rename _=>hHeld
 try simp only [Act.put,stB,stZ,stS]
 refine wpAnyH_done (by kernel_rfl) ?_ _
 have j0:=hn.cell 2 0 rfl rfl
 have j1:=hn.cell 2 1 rfl rfl
 have HN:=qH hn
 clear hn
 go_wp2
 refine bodyPost_ret (v:=.agg #[.bool (decide (newI true (m*n)<0)),.slice a9 (lenW (newI true (m*n)).natAbs) c9]) (by simp [results,Tryz.results150,go_sem,j0,j1,k0,k1]) rfl ?_
 exact RetI.of rfl rfl rfl (HN.out.nat 3 rfl) HN.out.bel
theorem imul_ff8 (a b:Option Addr) (c d m n:Nat) (w:World) (ha:NatW w a c m) (hb:NatW w b d n) (h1:lenW m+lenW n≤17592186044416) (h8:lenW m<8∨lenW n<8):Calls Tryz.prog 150 #[.agg #[.bool false,.slice a (lenW m) c],.agg #[.bool false,.slice b (lenW n) d]] w (RetI (newI false (m*n)) w):=by
 obtain ⟨W0,hW0⟩:∃ W0,W0=(((w.alloc (.cells #[.bool false,.slice a (lenW m) c] 43)).alloc (.cells #[.bool false,.slice b (lenW n) d] 43)).alloc (.cells #[.bool false,.slice none 0 0] 43)):=⟨_,rfl⟩
 have hbs:BS w [⟨w.heap.size,43,[.bool false,.slice a (lenW m) c]⟩,⟨w.heap.size+1,43,[.bool false,.slice b (lenW n) d]⟩,⟨w.heap.size+1+1,43,[.bool false,.slice none 0 0]⟩] [⟨a,c,m⟩,⟨b,d,n⟩] (((w.alloc (.cells #[.bool false,.slice a (lenW m) c] 43)).alloc (.cells #[.bool false,.slice b (lenW n) d] 43)).alloc (.cells #[.bool false,.slice none 0 0] 43)) :=
  (((BS.begin [⟨a,c,m⟩,⟨b,d,n⟩] (fun y hy=>by
   rcases List.mem_cons.1 hy with rfl | hy
   ·
    exact ha
   ·
    rw [List.mem_singleton.1 hy];exact hb)).alloc (p:=w.heap.size) rfl 43 [.bool false,.slice a (lenW m) c] rfl).alloc (p:=w.heap.size+1) (by simp) 43 [.bool false,.slice b (lenW n) d] rfl).alloc (p:=w.heap.size+1+1) (by simp) 43 [.bool false,.slice none 0 0] rfl
 rw [← hW0] at hbs
 have HW0:=qH hW0
 have HBS:=qH hbs
 clear hW0 hbs
 have HM:=qH (fun (W:World) (q1:NatW W a c m) (q2:NatW W b d n)=>mul_small a b c d m n W q1 q2 h1 h8)
 have HNew:=qH (fun (a2:Option Addr) (c2:Nat) (W:World) (q1:NatW W a2 c2 (m*n))=>inew_any false a2 c2 (m*n) W q1)
 clear ha hb h1 h8
 go_enter Tryz.func150,Tryz.ntmps150
 go_upto_region 1 with fail
 rw [← HW0.out]
 have hn:=HBS.out.drew
 refine wp_region_held_drew (S:=fun W=>W.cell? ⟨w.heap.size,0,none⟩=some (.bool false)∧W.cell? ⟨w.heap.size+1,0,none⟩=some (.bool false)∧W.cell? ⟨w.heap.size,1,none⟩=some (.slice a (lenW m) c)∧W.cell? ⟨w.heap.size+1,1,none⟩=some (.slice b (lenW n) d)) (by kernel_rfl) (⟨hn.cell 0 0 rfl rfl,hn.cell 1 0 rfl rfl,hn.cell 0 1 rfl rfl,hn.cell 1 1 rfl rfl⟩) (fun hHeld=>?_)
 refine tm 0 (some 5) ?_
 refine tl 1 (some 6) ?_
 refine tm 2 (some 7) ?_
 refine tl 3 (some 8) ?_
 refine tm 4 (some 9) ?_
 refine tm 5 (some 10) ?_
 refine tl 6 (some 11) ?_
 refine tm 7 (some 12) ?_
 refine tl 8 (some 13) ?_
 refine wpAnyH_ready (rs:=[9]) (by kernel_rfl) (by simp) ?_
 refine (AllReadyH.cons rfl (fun K hK=>?_) AllReadyH.nil)
 go_simp
 refine (HM.out _ (hn.nat 0 rfl) (hn.nat 1 rfl)).mono ?_
 rintro e w2 ⟨a8,c8,rfl,hq,hb2⟩
 have hn1:=(hn.call hb2).got hq
 clear hn hb2 hq
 have hn:=hn1
 clear hn1
 go_wp2_with fail
 refine hK.out _ _ (⟨hn.cell 0 0 rfl rfl,hn.cell 1 0 rfl rfl,hn.cell 0 1 rfl rfl,hn.cell 1 1 rfl rfl⟩) (fun hHeld2=>?_)
 clear hK K hHeld
 rename _=>hHeld
 try simp only [Act.put,stB,stZ,stS]
 refine wpAnyH_ready (rs:=[10]) (by kernel_rfl) (by simp) ?_
 refine (AllReadyH.cons rfl (fun K hK=>?_) AllReadyH.nil)
 go_simp
 refine (HNew.out _ _ _ (hn.nat 2 rfl)).mono ?_
 rintro e w3 ⟨a9,c9,rfl,hq,hb3⟩
 have hn1:=(hn.call hb3).got hq
 clear hn hb3 hq
 have hn:=hn1
 clear hn1
 go_wp2_with fail
 refine hK.out _ _ (⟨hn.cell 0 0 rfl rfl,hn.cell 1 0 rfl rfl,hn.cell 0 1 rfl rfl,hn.cell 1 1 rfl rfl⟩) (fun hHeld2=>?_)
 clear hK K hHeld
 rename _=>hHeld
 try simp only [Act.put,stB,stZ,stS]
 refine wpAnyH_ready (rs:=[11]) (by kernel_rfl) (by simp) ?_
 refine (AllReadyH.cons rfl (fun K hK=>?_) AllReadyH.nil)
 have k0:=hn.cell 2 0 rfl rfl
 have f0:=hn.free 2 0 rfl
 have k1:=hn.cell 2 1 rfl rfl
 have f1:=hn.free 2 1 rfl
 go_simp
 clear f0 f1
 have hn1:=(hn.set 2 0 rfl rfl (fun _=>by simp) (.bool (decide (newI false (m*n)<0)))).set 2 1 rfl rfl (fun _=>by simp) (.slice a9 (lenW (newI false (m*n)).natAbs) c9)
 clear hn
 have hn:=hn1
 clear hn1
 refine hK.out _ _ (⟨hn.cell 0 0 rfl rfl,hn.cell 1 0 rfl rfl,hn.cell 0 1 rfl rfl,hn.cell 1 1 rfl rfl⟩) (fun hHeld2=>?_)
 clear hK K hHeld
 rename _=>hHeld
 try simp only [Act.put,stB,stZ,stS]
 refine wpAnyH_done (by kernel_rfl) ?_ _
 have j0:=hn.cell 2 0 rfl rfl
 have j1:=hn.cell 2 1 rfl rfl
 have HN:=qH hn
 clear hn
 go_wp2
 refine bodyPost_ret (v:=.agg #[.bool (decide (newI false (m*n)<0)),.slice a9 (lenW (newI false (m*n)).natAbs) c9]) (by simp [results,Tryz.results150,go_sem,j0,j1,k0,k1]) rfl ?_
 exact RetI.of rfl rfl rfl (HN.out.nat 3 rfl) HN.out.bel
theorem imul_pos (x y:Int) (a b:Option Addr) (c d:Nat) (w:World) (ha:NatW w a c x.natAbs) (hb:NatW w b d y.natAbs) (h1:lenW x.natAbs+lenW y.natAbs≤17592186044416) (h8:lenW x.natAbs<8∨lenW y.natAbs<8) (h0:0≤y):Calls Tryz.prog 150 #[.agg #[.bool (decide (x<0)),.slice a (lenW (x).natAbs) c],.agg #[.bool (decide (y<0)),.slice b (lenW (y).natAbs) d]] w (RetI (x*y) w):=by
 rw [← newI_mul x y]
 have hy:decide (y<0)=false:=decide_eq_false (by omega)
 rw [hy]
 cases hx:decide (x<0)
 ·
  exact imul_ff8 a b c d _ _ w ha hb h1 h8
 ·
  exact imul_tf8 a b c d _ _ w ha hb h1 h8
theorem iadd_pos (x y:Int) (a b:Option Addr) (c d:Nat) (w:World) (ha:NatW w a c x.natAbs) (hb:NatW w b d y.natAbs) (h1:lenW x.natAbs≤17592186044416) (h2:lenW y.natAbs≤17592186044416) (h0:0≤y):Calls Tryz.prog 197 #[.agg #[.bool (decide (x<0)),.slice a (lenW (x).natAbs) c],.agg #[.bool (decide (y<0)),.slice b (lenW (y).natAbs) d]] w (RetI (x+y) w):=by
 have hy:decide (y<0)=false:=decide_eq_false (by omega)
 by_cases hs:decide (x<0)=decide (y<0)
 ·
  rw [← newI_add x y hs,← hs]
  rw [hy] at hs
  rw [hs]
  exact iadd_ff a b c d _ _ w ha hb h1 h2
 ·
  have hx:decide (x<0)=true:=by
   rw [hy] at hs
   revert hs;cases decide (x<0) <;> simp
  by_cases hle:y.natAbs≤x.natAbs
  ·
   rw [← newI_sub x y hs hle,hx,hy]
   exact iadd_tf_ge a b c d _ _ w ha hb h1 hle
  ·
   rw [← newI_bus x y hs (by omega),hx,hy]
   exact iadd_tf_lt a b c d _ _ w ha hb h2 (by omega)
theorem one_num:((1:Int):Rat).num=1:=rfl
theorem one_den:((1:Int):Rat).den=1:=rfl
theorem add_one_num (q:Rat):lenW (q.num*(((1:Int):Rat).den:Int)+((1:Int):Rat).num*(q.den:Int)).natAbs≤lenW q.num.natAbs+lenW q.den+1:=by
 rw [one_num,one_den,Int.one_mul]
 refine Nat.le_trans (lenW_mono (Int.natAbs_add_le _ _)) ?_
 rw [Int.natAbs_mul,Int.natAbs_natCast,Int.natAbs_natCast,Nat.mul_one]
 exact lenW_add (Nat.le_add_right _ _) (Nat.le_add_left _ _)
theorem radd_one (v u:Rv) (w:World) (hv:v.ok w) (h1:lenW v.q.num.natAbs≤1099511627776) (h2:lenW v.q.den≤1099511627776) (hu:u.ok w) (hq:u.q=((1:Int):Rat)) :
  Calls Tryz.prog 173 #[v.val,u.val] w (RvR (v.q+((1:Int):Rat)) w):=by
 rw [hv.val,hu.val,hq]
 have hun:=hu.num
 have hud:=hu.den
 rw [hq] at hun hud
 have h9:lenW 1=1:=lenW_pos1
 have h3:=add_one_num v.q
 have hp:lenW (v.q.num*(((1:Int):Rat).den:Int)).natAbs≤17592186044416:=by
  rw [one_den,Int.natAbs_mul,Int.natAbs_natCast,Nat.mul_one];omega
 have hr:lenW (((1:Int):Rat).num*(v.q.den:Int)).natAbs≤17592186044416:=by
  rw [one_num,Int.one_mul,Int.natAbs_natCast];omega
 refine (radd_at (Nat.le_refl 4398046511104) div_upto v.q ((1:Int):Rat) v.a v.b u.a u.b v.c v.d u.c u.d w hv.num hv.den hun hud (by omega) ?_ ?_ ?_ ?_ ?_).mono fun e w' hr=>RvR.of hr
 ·
  rw [Int.natAbs_natCast,one_den,Nat.mul_one];omega
 ·
  intro a2 c2 W q1 q2
  refine imul_pos _ _ _ _ _ _ W q1 q2 ?_ (.inr ?_) (Int.natCast_nonneg _)
  ·
   rw [Int.natAbs_natCast,one_den];omega
  ·
   rw [Int.natAbs_natCast,one_den];omega
 ·
  intro a2 c2 W q1 q2
  refine imul_pos _ _ _ _ _ _ W q1 q2 ?_ (.inl ?_) (Int.natCast_nonneg _)
  ·
   rw [Int.natAbs_natCast,one_num];show lenW 1+_≤_;omega
  ·
   rw [one_num];show lenW 1<8;omega
 ·
  intro a2 a3 c2 c3 W q1 q2
  exact iadd_pos _ _ _ _ _ _ W q1 q2 hp hr (by rw [one_num,Int.one_mul];exact Int.natCast_nonneg _)
 ·
  intro a2 a3 c2 c3 W q1 q2
  refine mul_small a2 a3 c2 c3 _ _ W q1 q2 ?_ (.inr ?_)
  ·
   rw [one_den];omega
  ·
   rw [one_den];omega
theorem RvR.ret {q:Rat} {w w':World} {e:Ending} (h:RvR q w e w'):RetR q w e w':=by
 obtain ⟨v,rfl,h1,rfl,h3⟩:=h
 exact ⟨v.a,v.c,v.b,v.d,by rw [h1.val],h1.num,h1.den,h3⟩
theorem add_one_small (q:Rat):lenW (q+((1:Int):Rat)).num.natAbs≤lenW q.num.natAbs+lenW q.den+1∧lenW (q+((1:Int):Rat)).den≤lenW q.den:=by
 have h3:=add_one_num q
 have hd:((q.den*(((1:Int):Rat)).den:Nat):Int)≠0:=by have:=Nat.mul_ne_zero q.den_nz (((1:Int):Rat)).den_nz;omega
 rw [← rat_add,rat_num _ _ hd,rat_den _ _ hd,newI_abs]
 refine ⟨Nat.le_trans (lenW_mono (Nat.div_le_self _ _)) h3,Nat.le_trans (lenW_mono (Nat.div_le_self _ _)) ?_⟩
 show lenW ((q.den*1:Nat):Int).natAbs≤lenW q.den
 rw [Nat.mul_one]
 exact Nat.le_refl _
def RngT (m:Rng) (w:World) (e:Ending) (w':World):Prop :=
 ∃ lo hi:Rv,e=.returned (.agg #[.bool lo.s,.slice lo.a lo.l lo.c,.slice lo.b lo.m lo.d,.bool hi.s,.slice hi.a hi.l hi.c,.slice hi.b hi.m hi.d,.bool m.hasLo,.bool m.hasHi])∧lo.sh∧hi.sh∧lo.q=m.lo∧hi.q=m.hi∧(∀ y,y∈lo.nums++hi.nums→NatW w' y.a y.c y.n)∧Below w.heap.size w w'
theorem trng_any (t:TolV) (v:Rv) (w:World) (hv:v.ok w) (hs:lenW v.q.num.natAbs≤1048577∧lenW v.q.den≤1048577) (hq:v.q=t.v.q) :
  Calls Tryz.prog 118 #[.agg #[.int .i64 t.verb,.int .i64 t.op,.int .i64 t.err,.int .i64 t.at9,.int .i64 t.id,.string t.tq,.string t.wher,.int .i64 t.u0,.int .i64 t.u1,.int .i64 t.u2,.int .u8 (t.oc:Nat),.bool t.v.sg,.slice t.v.a t.v.n t.v.c,.slice t.v.b t.v.m t.v.d,.slice t.pa t.pn t.pc,.bool t.h0,.bool t.h1],.agg #[.bool v.s,.slice v.a v.l v.c,.slice v.b v.m v.d]] w (RngT (rngT t) w):=by
 obtain ⟨g0,hg0⟩:∃ g,t.h0=g:=⟨_,rfl⟩
 obtain ⟨g1,hg1⟩:∃ g,t.h1=g:=⟨_,rfl⟩
 have HG:=qH (And.intro hg0 hg1)
 rw [hg0,hg1]
 obtain ⟨iR,hiR,_,hzR,_⟩:=info_parts Tryz.infoRng
 obtain ⟨lo,hlo⟩:∃ lo:Rv,(if g0=true then v else Rv.zero)=lo:=⟨_,rfl⟩
 have HLO2:=qH (show ∀ W,Below w.heap.size w W→lo.ok W from fun W hb=>by
  rw [← hlo];split
  ·
   exact hv.below hb
  ·
   exact Rv.zero_ok _)
 have HLQ:=qH (show lo.q=(rngT t).lo from by
  unfold rngT
  rw [← hlo,← hq,hg0]
  cases g0 <;> rfl)
 have HLS:=qH (show lenW lo.q.num.natAbs≤1099511627776∧lenW lo.q.den≤1099511627776 from by
  rw [← hlo];split
  ·
   exact ⟨by omega,by omega⟩
  ·
   exact ⟨Rv.zero_sh.num,Rv.zero_sh.den⟩)
 have HLO:=qH hlo
 have hsr:=add_one_small v.q
 obtain ⟨one,hone⟩:∃ one:Rat,((1:Int):Rat)=one:=⟨_,rfl⟩
 have hI:=fun W=>rint_any 1 W (by omega) (by omega)
 have hA:=fun (a b:Option Addr) (c d:Nat) (W:World) (n1:NatW W v.a v.c v.q.num.natAbs) (n2:NatW W v.b v.d (denN v.q.den)) (n3:NatW W a c ((1:Int):Rat).num.natAbs) (n4:NatW W b d (denN ((1:Int):Rat).den))=>(radd_one v ⟨decide (((1:Int):Rat).num<0),a,lenW ((1:Int):Rat).num.natAbs,c,b,lenW (denN ((1:Int):Rat).den),d,((1:Int):Rat)⟩ W ⟨hv.s,hv.l,hv.m,n1,n2⟩ (by omega) (by omega) ⟨rfl,rfl,rfl,n3,n4⟩ rfl).mono fun e w' h=>RvR.ret h
 have HTF:=qH (show g1=false→Rv.zero.q=(rngT t).hi from fun h=>by unfold rngT;rw [hg1,h];rfl)
 have HTR:=qH (show g1=true→v.q+((1:Int):Rat)=(rngT t).hi from fun h=>by unfold rngT;rw [hg1,h,hq];rfl)
 unfold Rv.val at hA
 rw [hone] at hI hA hsr HTR
 obtain ⟨r,hr⟩:∃ r,v.q+one=r:=⟨_,rfl⟩
 rw [hr] at hA hsr HTR
 unfold RetR ratV at hI hA
 have HI:=qH hI
 have HA:=qH hA
 have HSR:=qH (show lenW r.num.natAbs≤1099511627776∧lenW r.den≤1099511627776 from ⟨by omega,by omega⟩)
 clear hI hA hsr hs hr hone hlo hq hg0 hg1
 obtain ⟨W0,hW0⟩:∃ W0,W0=(((w.alloc (.cells #[.int .i64 t.verb,.int .i64 t.op,.int .i64 t.err,.int .i64 t.at9,.int .i64 t.id,.string t.tq,.string t.wher,.int .i64 t.u0,.int .i64 t.u1,.int .i64 t.u2,.int .u8 (t.oc:Nat),.bool t.v.sg,.slice t.v.a t.v.n t.v.c,.slice t.v.b t.v.m t.v.d,.slice t.pa t.pn t.pc,.bool g0,.bool g1] 112)).alloc (.cells #[.bool v.s,.slice v.a v.l v.c,.slice v.b v.m v.d] 45)).alloc (.cells #[.bool false,.slice none 0 0,.slice none 0 0,.bool false,.slice none 0 0,.slice none 0 0,.bool false,.bool false] 119)):=⟨_,rfl⟩
 have hbs:BS w [⟨w.heap.size,112,[.int .i64 t.verb,.int .i64 t.op,.int .i64 t.err,.int .i64 t.at9,.int .i64 t.id,.string t.tq,.string t.wher,.int .i64 t.u0,.int .i64 t.u1,.int .i64 t.u2,.int .u8 (t.oc:Nat),.bool t.v.sg,.slice t.v.a t.v.n t.v.c,.slice t.v.b t.v.m t.v.d,.slice t.pa t.pn t.pc,.bool g0,.bool g1]⟩,⟨w.heap.size+1,45,[.bool v.s,.slice v.a v.l v.c,.slice v.b v.m v.d]⟩,⟨w.heap.size+1+1,119,[.bool false,.slice none 0 0,.slice none 0 0,.bool false,.slice none 0 0,.slice none 0 0,.bool false,.bool false]⟩] [⟨v.a,v.c,v.q.num.natAbs⟩,⟨v.b,v.d,denN v.q.den⟩] (((w.alloc (.cells #[.int .i64 t.verb,.int .i64 t.op,.int .i64 t.err,.int .i64 t.at9,.int .i64 t.id,.string t.tq,.string t.wher,.int .i64 t.u0,.int .i64 t.u1,.int .i64 t.u2,.int .u8 (t.oc:Nat),.bool t.v.sg,.slice t.v.a t.v.n t.v.c,.slice t.v.b t.v.m t.v.d,.slice t.pa t.pn t.pc,.bool g0,.bool g1] 112)).alloc (.cells #[.bool v.s,.slice v.a v.l v.c,.slice v.b v.m v.d] 45)).alloc (.cells #[.bool false,.slice none 0 0,.slice none 0 0,.bool false,.slice none 0 0,.slice none 0 0,.bool false,.bool false] 119)) :=
   ((((BS.begin [⟨v.a,v.c,v.q.num.natAbs⟩,⟨v.b,v.d,denN v.q.den⟩] (fun y hy=>by
    rcases List.mem_cons.1 hy with rfl | hy
    ·
     exact hv.num
    rw [List.mem_singleton.1 hy];exact hv.den)).alloc (p:=w.heap.size) rfl 112 [.int .i64 t.verb,.int .i64 t.op,.int .i64 t.err,.int .i64 t.at9,.int .i64 t.id,.string t.tq,.string t.wher,.int .i64 t.u0,.int .i64 t.u1,.int .i64 t.u2,.int .u8 (t.oc:Nat),.bool t.v.sg,.slice t.v.a t.v.n t.v.c,.slice t.v.b t.v.m t.v.d,.slice t.pa t.pn t.pc,.bool g0,.bool g1] rfl).alloc (p:=w.heap.size+1) (by simp) 45 [.bool v.s,.slice v.a v.l v.c,.slice v.b v.m v.d] rfl).alloc (p:=w.heap.size+1+1) (by simp) 119 [.bool false,.slice none 0 0,.slice none 0 0,.bool false,.slice none 0 0,.slice none 0 0,.bool false,.bool false] rfl)
 rw [← hW0] at hbs
 have HW0:=qH hW0
 have HN:=qH hbs
 clear hW0 hbs
 clear hv
 go_enter Tryz.func118,Tryz.ntmps118
 go_upto_region 1 with fail
 rw [← HW0.out]
 have l0:=HN.out.lt 0 rfl
 have HN0:=HN
 clear HN
 have HN:=qH (HN0.out.alloc (p:=W0.heap.size) rfl 119 [.bool false,.slice none 0 0,.slice none 0 0,.bool false,.slice none 0 0,.slice none 0 0,.bool false,.bool false] rfl)
 go_upto_region 2 with fail
 replace HN:=qH HN.out
 clear l0 HN0
 generalize (W0.alloc (.cells #[.bool false,.slice none 0 0,.slice none 0 0,.bool false,.slice none 0 0,.slice none 0 0,.bool false,.bool false] 119))=wa1 at HN ⊢
 have k0_15:=HN.out.cell 0 15 rfl rfl
 have f0_15:=HN.out.free 0 15 rfl
 go_upto_if 8 with fail
 clear k0_15 f0_15
 go_cut [] (fun wx=>BS w [⟨w.heap.size,112,[.int .i64 t.verb,.int .i64 t.op,.int .i64 t.err,.int .i64 t.at9,.int .i64 t.id,.string t.tq,.string t.wher,.int .i64 t.u0,.int .i64 t.u1,.int .i64 t.u2,.int .u8 (t.oc:Nat),.bool t.v.sg,.slice t.v.a t.v.n t.v.c,.slice t.v.b t.v.m t.v.d,.slice t.pa t.pn t.pc,.bool g0,.bool g1]⟩,⟨w.heap.size+1,45,[.bool v.s,.slice v.a v.l v.c,.slice v.b v.m v.d]⟩,⟨w.heap.size+1+1,119,[.bool false,.slice none 0 0,.slice none 0 0,.bool false,.slice none 0 0,.slice none 0 0,.bool false,.bool false]⟩,⟨W0.heap.size,119,[.bool lo.s,.slice lo.a lo.l lo.c,.slice lo.b lo.m lo.d,.bool false,.slice none 0 0,.slice none 0 0,.bool g0,.bool false]⟩] [⟨v.a,v.c,v.q.num.natAbs⟩,⟨v.b,v.d,denN v.q.den⟩] wx)
 case first =>
  cases g0 with
  | true =>
   have HL:=qH (show v=lo from by rw [← HLO.out,if_pos rfl])
   go_upto_region 3 with fail
   replace HN:=qH HN.out.drew
   refine wp_region_held_drew (S:=fun W=>W.cell? ⟨w.heap.size+1,0,none⟩=some (.bool v.s)∧W.cell? ⟨w.heap.size+1,1,none⟩=some (.slice v.a v.l v.c)∧W.cell? ⟨w.heap.size+1,2,none⟩=some (.slice v.b v.m v.d)) (by kernel_rfl) (⟨HN.out.cell 1 0 rfl rfl,HN.out.cell 1 1 rfl rfl,HN.out.cell 1 2 rfl rfl⟩) (fun hHeld=>?_)
   generalize wa1.drew=wd at HN hHeld ⊢
   refine tl 0 (some 9) ?_
   refine tm 1 (some 10) ?_
   have tg:=Mk.mk (v:=0) (d:=0)
   iterate 2
    all_goals first
    | refine qz1 0 tg 2 0 1 ?_
    | refine qz1 1 tg 4 1 2 ?_
    all_goals intro K hK tg
    all_goals first
    |
     have _:Mk 0 _:=tg
     have hc6:=HN.out.cell 3 6 rfl rfl
     have hf6:=HN.out.free 3 6 rfl
     go_simp
     clear hc6 hf6
     replace HN:=qH ((HN.out).set 3 6 rfl rfl (fun _=>by simp) (.bool true))
     generalize (wd.setCell ⟨W0.heap.size,6,none⟩ (.bool true))=wd at HN  ⊢
    |
     have _:Mk 1 _:=tg
     have hc0:=HN.out.cell 3 0 rfl rfl
     have hf0:=HN.out.free 3 0 rfl
     have hc1:=HN.out.cell 3 1 rfl rfl
     have hf1:=HN.out.free 3 1 rfl
     have hc2:=HN.out.cell 3 2 rfl rfl
     have hf2:=HN.out.free 3 2 rfl
     go_simp
     clear hc0 hf0 hc1 hf1 hc2 hf2
     replace HN:=qH ((((HN.out).set 3 0 rfl rfl (fun _=>by simp) (.bool v.s)).set 3 1 rfl rfl (fun _=>by simp) (.slice v.a v.l v.c)).set 3 2 rfl rfl (fun _=>by simp) (.slice v.b v.m v.d))
     generalize (((wd.setCell ⟨W0.heap.size,0,none⟩ (.bool v.s)).setCell ⟨W0.heap.size,1,none⟩ (.slice v.a v.l v.c)).setCell ⟨W0.heap.size,2,none⟩ (.slice v.b v.m v.d))=wd at HN  ⊢
    all_goals
     refine hK.out _ _ (⟨HN.out.cell 1 0 rfl rfl,HN.out.cell 1 1 rfl rfl,HN.out.cell 1 2 rfl rfl⟩) (fun hHeld2=>?_)
     clear hK K hHeld
     rename _=>hHeld
     try simp only [Act.put,stB,stZ,stS]
    all_goals first
    |
     have _:Mk 0 _:=tg
     refine tm 3 (some 11) ?_
    | skip
   all_goals (refine wpAnyH_done (by kernel_rfl) ?_ _)
   all_goals
    go_wp2_with fail
    go_meet
    rw [← HL.out]
    exact HN.out
  | false =>
   have HL:=qH (show Rv.zero=lo from by rw [← HLO.out,if_neg (by decide)])
   go_wp2_with fail
   go_meet
   rw [← HL.out]
   exact HN.out
 case rest =>
  obtain ⟨w2,rfl⟩:∃ w2:World,w2=wc:=⟨_,rfl⟩
  have HN:=qH hcut
  clear hcut
  have k0_16:=HN.out.cell 0 16 rfl rfl
  have f0_16:=HN.out.free 0 16 rfl
  go_upto_if 14 with fail
  clear k0_16 f0_16
  go_cut [] (fun wx=>∃ hi:Rv,hi.sh∧hi.q=(rngT t).hi∧BS w [⟨w.heap.size,112,[.int .i64 t.verb,.int .i64 t.op,.int .i64 t.err,.int .i64 t.at9,.int .i64 t.id,.string t.tq,.string t.wher,.int .i64 t.u0,.int .i64 t.u1,.int .i64 t.u2,.int .u8 (t.oc:Nat),.bool t.v.sg,.slice t.v.a t.v.n t.v.c,.slice t.v.b t.v.m t.v.d,.slice t.pa t.pn t.pc,.bool g0,.bool g1]⟩,⟨w.heap.size+1,45,[.bool v.s,.slice v.a v.l v.c,.slice v.b v.m v.d]⟩,⟨w.heap.size+1+1,119,[.bool false,.slice none 0 0,.slice none 0 0,.bool false,.slice none 0 0,.slice none 0 0,.bool false,.bool false]⟩,⟨W0.heap.size,119,[.bool lo.s,.slice lo.a lo.l lo.c,.slice lo.b lo.m lo.d,.bool hi.s,.slice hi.a hi.l hi.c,.slice hi.b hi.m hi.d,.bool g0,.bool g1]⟩] [⟨hi.a,hi.c,hi.q.num.natAbs⟩,⟨hi.b,hi.d,denN hi.q.den⟩,⟨v.a,v.c,v.q.num.natAbs⟩,⟨v.b,v.d,denN v.q.den⟩] wx)
  case first =>
   cases g1 with
   | true =>
    go_upto_region 5 with fail
    replace HN:=qH HN.out.drew
    refine wp_region_held_drew (S:=fun W=>W.cell? ⟨w.heap.size+1,0,none⟩=some (.bool v.s)∧W.cell? ⟨w.heap.size+1,1,none⟩=some (.slice v.a v.l v.c)∧W.cell? ⟨w.heap.size+1,2,none⟩=some (.slice v.b v.m v.d)) (by kernel_rfl) (⟨HN.out.cell 1 0 rfl rfl,HN.out.cell 1 1 rfl rfl,HN.out.cell 1 2 rfl rfl⟩) (fun hHeld=>?_)
    generalize w2.drew=wd at HN hHeld ⊢
    refine tl 0 (some 15) ?_
    refine tm 3 (some 18) ?_
    have tg:=Mk.mk (v:=0) (d:=0)
    iterate 4
     all_goals first
     | refine qz1 0 tg 1 0 1 ?_
     | refine qz1 1 tg 2 1 2 ?_
     | refine qz1 2 tg 4 2 3 ?_
     | refine qz1 3 tg 6 3 4 ?_
     all_goals intro K hK tg
     all_goals first
     |
      have _:Mk 0 _:=tg
      go_simp
      refine (HI.out _).mono ?_
      rintro e wd ⟨ua,uc,ub,ud,rfl,hq0,hq1,hb⟩
      replace HN:=qH (((HN.out.call hb).got hq0).got hq1)
      clear hb hq0 hq1
      go_wp2_with fail
     |
      have _:Mk 1 _:=tg
      go_simp
      refine (HA.out _ _ _ _ _ (HN.out.nat 0 rfl) (HN.out.nat 1 rfl) (HN.out.nat 2 rfl) (HN.out.nat 3 rfl)).mono ?_
      rintro e wd ⟨ha,hc,hb2,hd,rfl,hq0,hq1,hb⟩
      replace HN:=qH (((HN.out.call hb).got hq0).got hq1)
      clear hb hq0 hq1
      go_wp2_with fail
     |
      have _:Mk 2 _:=tg
      have hc7:=HN.out.cell 3 7 rfl rfl
      have hf7:=HN.out.free 3 7 rfl
      go_simp
      clear hc7 hf7
      replace HN:=qH ((HN.out).set 3 7 rfl rfl (fun _=>by simp) (.bool true))
      generalize (wd.setCell ⟨W0.heap.size,7,none⟩ (.bool true))=wd at HN  ⊢
     |
      have _:Mk 3 _:=tg
      have hc3:=HN.out.cell 3 3 rfl rfl
      have hf3:=HN.out.free 3 3 rfl
      have hc4:=HN.out.cell 3 4 rfl rfl
      have hf4:=HN.out.free 3 4 rfl
      have hc5:=HN.out.cell 3 5 rfl rfl
      have hf5:=HN.out.free 3 5 rfl
      go_simp
      clear hc3 hf3 hc4 hf4 hc5 hf5
      replace HN:=qH ((((HN.out).set 3 3 rfl rfl (fun _=>by simp) (.bool (decide (r.num<0)))).set 3 4 rfl rfl (fun _=>by simp) (.slice ha (lenW r.num.natAbs) hc)).set 3 5 rfl rfl (fun _=>by simp) (.slice hb2 (lenW (denN r.den)) hd))
      generalize (((wd.setCell ⟨W0.heap.size,3,none⟩ (.bool (decide (r.num<0)))).setCell ⟨W0.heap.size,4,none⟩ (.slice ha (lenW r.num.natAbs) hc)).setCell ⟨W0.heap.size,5,none⟩ (.slice hb2 (lenW (denN r.den)) hd))=wd at HN  ⊢
     all_goals
      refine hK.out _ _ (⟨HN.out.cell 1 0 rfl rfl,HN.out.cell 1 1 rfl rfl,HN.out.cell 1 2 rfl rfl⟩) (fun hHeld2=>?_)
      clear hK K hHeld
      rename _=>hHeld
      try simp only [Act.put,stB,stZ,stS]
     all_goals first
     |
      have _:Mk 2 _:=tg
      refine tm 5 (some 19) ?_
     | skip
    all_goals (refine wpAnyH_done (by kernel_rfl) ?_ _)
    all_goals
     go_wp2_with fail
     go_meet
     exact ⟨⟨decide (r.num<0),ha,lenW r.num.natAbs,hc,hb2,lenW (denN r.den),hd,r⟩,⟨rfl,rfl,rfl,HSR.out.1,HSR.out.2⟩,HTR.out (by trivial),HN.out.only (List.Sublist.refl _) (by intro z hz;simp only [List.mem_cons,List.not_mem_nil,or_false] at hz ⊢;rcases hz with rfl | rfl | rfl | rfl <;> simp)⟩
   | false =>
    go_wp2_with fail
    go_meet
    exact ⟨Rv.zero,Rv.zero_sh,HTF.out (by trivial),(HN.out.gotk 0 (NatW.zero _)).gotk 0 (NatW.zero _)⟩
  case rest =>
   obtain ⟨w3,rfl⟩:∃ w3:World,w3=wc:=⟨_,rfl⟩
   obtain ⟨hi,hsh,hhq,hn0⟩:=hcut
   have HN:=qH hn0
   clear hn0
   have ⟨k2_0,f2_0,k2_1,f2_1,k2_2,f2_2,k2_3,f2_3,k2_4,f2_4,k2_5,f2_5,k2_6,f2_6,k2_7,f2_7⟩:=HN.out.cf8 2 rfl
   have ⟨k3_0,f3_0,k3_1,f3_1,k3_2,f3_2,k3_3,f3_3,k3_4,f3_4,k3_5,f3_5,k3_6,f3_6,k3_7,f3_7⟩:=HN.out.cf8 3 rfl
   have HE:=qH ((((((((HN.out.set 2 0 rfl rfl (fun _=>by simp) (.bool lo.s)).set 2 1 rfl rfl (fun _=>by simp) (.slice lo.a lo.l lo.c)).set 2 2 rfl rfl (fun _=>by simp) (.slice lo.b lo.m lo.d)).set 2 3 rfl rfl (fun _=>by simp) (.bool hi.s)).set 2 4 rfl rfl (fun _=>by simp) (.slice hi.a hi.l hi.c)).set 2 5 rfl rfl (fun _=>by simp) (.slice hi.b hi.m hi.d)).set 2 6 rfl rfl (fun _=>by simp) (.bool g0)).set 2 7 rfl rfl (fun _=>by simp) (.bool g1))
   go_wp2_with fail
   (try simp only [Exit.inBlock,Exit.then])
   refine bodyPost_ret (v:=.agg #[.bool lo.s,.slice lo.a lo.l lo.c,.slice lo.b lo.m lo.d,.bool hi.s,.slice hi.a hi.l hi.c,.slice hi.b hi.m hi.d,.bool g0,.bool g1]) ?_ rfl ?_
   ·
    rw [results_cell1 rfl]
    have hbk:=(HE.out.at 2 rfl:_=some (Obj.cells #[.bool lo.s,.slice lo.a lo.l lo.c,.slice lo.b lo.m lo.d,.bool hi.s,.slice hi.a hi.l hi.c,.slice hi.b hi.m hi.d,.bool g0,.bool g1] 119 (0,0)))
    generalize ((((((((w3.setCell ⟨w.heap.size+1+1,0,none⟩ (.bool lo.s)).setCell ⟨w.heap.size+1+1,1,none⟩ (.slice lo.a lo.l lo.c)).setCell ⟨w.heap.size+1+1,2,none⟩ (.slice lo.b lo.m lo.d)).setCell ⟨w.heap.size+1+1,3,none⟩ (.bool hi.s)).setCell ⟨w.heap.size+1+1,4,none⟩ (.slice hi.a hi.l hi.c)).setCell ⟨w.heap.size+1+1,5,none⟩ (.slice hi.b hi.m hi.d)).setCell ⟨w.heap.size+1+1,6,none⟩ (.bool g0)).setCell ⟨w.heap.size+1+1,7,none⟩ (.bool g1))=WE at hbk ⊢
    exact Go.Lib.rl_loadVar_cells 119 _ hiR (fun _=>by kernel_rfl) (w.heap.size+1+1) 0 [.bool lo.s,.slice lo.a lo.l lo.c,.slice lo.b lo.m lo.d,.bool hi.s,.slice hi.a hi.l hi.c,.slice hi.b hi.m hi.d,.bool g0,.bool g1] hzR.symm _ (fun k v hk=>by
     rw [Nat.zero_add]
     exact cell_of_block (j:=k) hbk (by simpa using hk))
   exact ⟨lo,hi,by rw [← HG.out.1,← HG.out.2];rfl,⟨(HLO2.out _ HE.out.bel).s,(HLO2.out _ HE.out.bel).l,(HLO2.out _ HE.out.bel).m,HLS.out.1,HLS.out.2⟩,hsh,HLQ.out,hhq,fun y hy=>by
    rcases List.mem_append.1 hy with hy | hy
    ·
     simp only [Rv.nums,List.mem_cons,List.not_mem_nil,or_false] at hy
     rcases hy with rfl | rfl
     ·
      exact (HLO2.out _ HE.out.bel).num
     ·
      exact (HLO2.out _ HE.out.bel).den
    ·
     exact HE.out.num y (List.mem_append_left _ hy),HE.out.bel⟩
theorem BS.gots {w W:World} {bs:List Bk} {ns l:List Nm} (h:BS w bs ns W) (hl:∀ y,y∈l→NatW W y.a y.c y.n):BS w bs (l++ns) W :=
 { h with num:=fun y hy=>(List.mem_append.1 hy).elim (hl y) (h.num y) }
theorem BS.setCells {w0:World} {bs:List Bk} {ns:List Nm} (i p:Nat) (T:TypeId):∀ (r pre tl:List Value) (w:World),i<bs.length→BS w0 (bs.set i ⟨p,T,pre++tl⟩) ns w→tl.length=r.length→(∀ u,u∈tl→∀ x,u≠.int .u64 x) →
  BS w0 (bs.set i ⟨p,T,pre++r⟩) ns (w.setCells p pre.length r)
 | [],pre,tl,w,hi,h,hl,_=>by
  obtain rfl:tl=[]:=List.eq_nil_of_length_eq_zero hl
  exact h
 | v::r,pre,t::tl,w,hi,h,hl,hu=>by
  have hs:=h.set i pre.length (b:=⟨p,T,pre++t::tl⟩) (u0:=t) (by rw [List.getElem?_set_self hi]) (by simp) (hu t List.mem_cons_self) v
  simp only [List.set_set] at hs
  rw [show (pre++t::tl).set pre.length v=(pre++[v])++tl by simp] at hs
  have h2:=BS.setCells i p T r (pre++[v]) tl (w.setCell ⟨p,pre.length,none⟩ v) hi hs (by simpa using hl) (fun u hu2=>hu u (List.mem_cons_of_mem _ hu2))
  rw [show (pre++[v])++r=pre++v::r by simp] at h2
  rw [show (pre++[v]).length=pre.length+1 by simp] at h2
  exact h2
theorem BS.setAll {w0 w:World} {bs:List Bk} {ns:List Nm} (h:BS w0 bs ns w) (i:Nat) {b:Bk} (hi:bs[i]?=some b) (hu:∀ u,u∈b.cs→∀ x,u≠.int .u64 x) (vs:List Value) (hl:b.cs.length=vs.length) :
  BS w0 (bs.set i ⟨b.p,b.T,vs⟩) ns (w.setCells b.p 0 vs):=by
 have hil:i<bs.length:=(List.getElem?_eq_some_iff.1 hi).1
 have hbe:bs[i]=b:=(List.getElem?_eq_some_iff.1 hi).2
 have h2:BS w0 (bs.set i ⟨b.p,b.T,[]++b.cs⟩) ns w:=by
  rw [List.nil_append,show (⟨b.p,b.T,b.cs⟩:Bk)=bs[i] by rw [hbe],List.set_getElem_self]
  exact h
 exact BS.setCells i b.p b.T vs [] b.cs w hil h2 hl hu
theorem BS.stored {w0 w W:World} {bs:List Bk} {ns:List Nm} (h:BS w0 bs ns w) (i:Nat) {b:Bk} (hi:bs[i]?=some b) {vs:List Value} (e:Hid (W=w.setCells b.p 0 vs)) (hu:∀ u,u∈b.cs→∀ x,u≠.int .u64 x) (hl:b.cs.length=vs.length):BS w0 (bs.set i ⟨b.p,b.T,vs⟩) ns W:=by
 rw [e.out]
 exact h.setAll i hi hu vs hl
theorem OB.join {w W1 W:World} {bs:List Bk} {ns l:List Nm} {T:TypeId} {sz:Nat} {a:Option Addr} {n c:Nat} {cs:List Value} (h:BS w bs ns W) (h1:BS w bs ns W1) (hl:∀ y,y∈l→NatW W y.a y.c y.n) (hm:Mid W W1.heap.size T sz (.slice a n c) n cs) (hd:a=none∨∃ g,a=some ⟨g,0,none⟩∧1≤n):OB w bs (l++ns) T sz a n c cs W :=
 ⟨h.gots hl,hm.mono h1.bel.size,fun k hk b hb e=>by
  have h2:=(hm.lt k hk).1
  have h3:b.p<W1.heap.size:=(Array.getElem?_eq_some_iff.1 (h1.box b hb).1).1
  omega,hd⟩
theorem Tryz.rowT:(Tryz.prog.underlying 112).map (·.isRow)=some true:=by kernel_rfl
theorem Tryz.sizT:(Tryz.prog.info? 112).map (·.size)=some 17:=by kernel_rfl
def RetTo (m:Res) (w:World) (e:Ending) (w':World):Prop:=∃ (vb op:Int) (tq:ByteArray) (x:RepV),e=.returned (.agg #[.int .i64 vb,.int .i64 op,.string tq,.int .i64 x.err,.string x.wher,.int .i64 x.at9,.int .i64 x.id,.int .i64 x.out,.bool x.v.s,.slice x.v.a x.v.l x.v.c,.slice x.v.b x.v.m x.v.d,.slice x.pa x.pn x.pc,.bool x.lo.s,.slice x.lo.a x.lo.l x.lo.c,.slice x.lo.b x.lo.m x.lo.d,.bool x.hi.s,.slice x.hi.a x.hi.l x.hi.c,.slice x.hi.b x.hi.m x.hi.d,.bool x.hl,.bool x.hh,.int .i64 x.u0,.int .i64 x.u1,.int .i64 x.u2])∧x.ok w'∧tq.size≤1048576∧x.pn≤24∧(⟨vb,op,natB tq,x.rep⟩:Res)=m∧((∀ k,(Value.slice x.pa x.pn x.pc).ownBlock=some k→w.heap.size≤k)∧(x.pa=none∨1≤x.pn))∧Below w.heap.size w w'
def TailR9 (t:TolV) (w:World) (xp vp:Nat) (v:Rv) (vb op er:Int) (wx:World):Prop:=∃ (op9:Int) (tq:ByteArray) (x:RepV) (ex:List Bk) (ns:List Nm),BS w (⟨w.heap.size,112,[.int .i64 vb,.int .i64 op,.int .i64 er,.int .i64 t.at9,.int .i64 t.id,.string t.tq,.string t.wher,.int .i64 t.u0,.int .i64 t.u1,.int .i64 t.u2,.int .u8 (t.oc:Nat),.bool t.v.sg,.slice t.v.a t.v.n t.v.c,.slice t.v.b t.v.m t.v.d,.slice t.pa t.pn t.pc,.bool t.h0,.bool t.h1]⟩::⟨w.heap.size+1,125,[.int .i64 0,.int .i64 0,.string ⟨#[]⟩,.int .i64 0,.string ⟨#[]⟩,.int .i64 0,.int .i64 0,.int .i64 0,.bool false,.slice none 0 0,.slice none 0 0,.slice none 0 0,.bool false,.slice none 0 0,.slice none 0 0,.bool false,.slice none 0 0,.slice none 0 0,.bool false,.bool false,.int .i64 0,.int .i64 0,.int .i64 0]⟩::⟨xp,125,[.int .i64 vb,.int .i64 op9,.string tq,.int .i64 x.err,.string x.wher,.int .i64 x.at9,.int .i64 x.id,.int .i64 x.out,.bool x.v.s,.slice x.v.a x.v.l x.v.c,.slice x.v.b x.v.m x.v.d,.slice x.pa x.pn x.pc,.bool x.lo.s,.slice x.lo.a x.lo.l x.lo.c,.slice x.lo.b x.lo.m x.lo.d,.bool x.hi.s,.slice x.hi.a x.hi.l x.hi.c,.slice x.hi.b x.hi.m x.hi.d,.bool x.hl,.bool x.hh,.int .i64 x.u0,.int .i64 x.u1,.int .i64 x.u2]⟩::⟨vp,45,v.cells⟩::ex) ns wx∧(⟨vb,op9,natB tq,x.rep⟩:Res)=resT t∧tq.size≤1048576∧x.pn≤24∧((∀ k,(Value.slice x.pa x.pn x.pc).ownBlock=some k→w.heap.size≤k)∧(x.pa=none∨1≤x.pn))∧∀ (bs2:List Bk) (W':World),BS w (bs2++ex) ns W'→x.ok W'
theorem tres_any (t:TolV) (w:World) (h:TolW w t):Calls Tryz.prog 52 #[.agg #[.int .i64 t.verb,.int .i64 t.op,.int .i64 t.err,.int .i64 t.at9,.int .i64 t.id,.string t.tq,.string t.wher,.int .i64 t.u0,.int .i64 t.u1,.int .i64 t.u2,.int .u8 (t.oc:Nat),.bool t.v.sg,.slice t.v.a t.v.n t.v.c,.slice t.v.b t.v.m t.v.d,.slice t.pa t.pn t.pc,.bool t.h0,.bool t.h1]] w (RetTo (resT t) w):=by
 obtain ⟨dT,htu,htd⟩:=Option.map_eq_some_iff.1 Tryz.rowT
 have HTU:=qH htu
 have HTD:=qH htd
 have HTW:=qH h
 have hmk:∀ W,Below w.heap.size w W→Calls Tryz.prog 26 #[.agg #[.bool t.v.sg,.slice t.v.a t.v.n t.v.c,.slice t.v.b t.v.m t.v.d]] W (fun e w'=>∃ v:Rv,e=.returned (.agg #[.bool v.s,.slice v.a v.l v.c,.slice v.b v.m v.d])∧v.sh∧v.q=t.v.q∧lenW v.q.num.natAbs≤1048577∧lenW v.q.den≤1048577∧(∀ y,y∈v.nums→NatW w' y.a y.c y.n)∧Below W.heap.size W w'):=fun W hb=>(PartW.make h.v t.v.sg W hb).mono fun e w' hr=>by
  have hsz:=PartW.size h.v t.v.sg
  obtain ⟨a,c,b,d,rfl,q1,q2,hb⟩:=hr
  exact ⟨⟨_,a,_,c,b,_,d,ratG t.v.sg t.v.xs t.v.ys⟩,rfl,⟨rfl,rfl,rfl,by show lenW (ratG t.v.sg t.v.xs t.v.ys).num.natAbs≤_;omega,by show lenW (ratG t.v.sg t.v.xs t.v.ys).den≤_;omega⟩,rfl,by show lenW (ratG t.v.sg t.v.xs t.v.ys).num.natAbs≤_;omega,hsz.2,fun y hy=>by
   simp only [Rv.nums,List.mem_cons,List.not_mem_nil,or_false] at hy
   rcases hy with rfl | rfl
   ·
    exact q1
   ·
    exact q2,hb⟩
 have han:=fun (v:Rv) (W:World) (hb:Below w.heap.size w W) (hv:v.ok W) (hs:lenW v.q.num.natAbs≤1099511627776∧lenW v.q.den≤1099511627776) (hq:v.q=t.v.q)=>tans_any t v W (h.below hb) hv hs hq
 have hrn:=fun (v:Rv) (W:World) (hv:v.ok W) (hs:lenW v.q.num.natAbs≤1048577∧lenW v.q.den≤1048577) (hq:v.q=t.v.q)=>trng_any t v W hv hs hq
 obtain ⟨vb,hvb⟩:∃ y,t.verb=y:=⟨_,rfl⟩
 obtain ⟨op,hop⟩:∃ y,t.op=y:=⟨_,rfl⟩
 obtain ⟨er,her⟩:∃ y,t.err=y:=⟨_,rfl⟩
 have hre:resT t=resT t:=rfl
 conv at hre=>rhs;unfold resT;rw [hvb,hop,her]
 rw [hvb,hop,her] at han hrn
 rw [hvb,hop,her]
 have HMK:=qH hmk
 have HAN:=qH han
 have HRN:=qH hrn
 have HRE:=qH hre
 have HOP:=qH hop
 clear h hmk han hrn hre hvb hop her htu htd
 obtain ⟨W0,hW0⟩:∃ W0,W0=((w.alloc (.cells #[.int .i64 vb,.int .i64 op,.int .i64 er,.int .i64 t.at9,.int .i64 t.id,.string t.tq,.string t.wher,.int .i64 t.u0,.int .i64 t.u1,.int .i64 t.u2,.int .u8 (t.oc:Nat),.bool t.v.sg,.slice t.v.a t.v.n t.v.c,.slice t.v.b t.v.m t.v.d,.slice t.pa t.pn t.pc,.bool t.h0,.bool t.h1] 112)).alloc (.cells #[.int .i64 0,.int .i64 0,.string ⟨#[]⟩,.int .i64 0,.string ⟨#[]⟩,.int .i64 0,.int .i64 0,.int .i64 0,.bool false,.slice none 0 0,.slice none 0 0,.slice none 0 0,.bool false,.slice none 0 0,.slice none 0 0,.bool false,.slice none 0 0,.slice none 0 0,.bool false,.bool false,.int .i64 0,.int .i64 0,.int .i64 0] 125)):=⟨_,rfl⟩
 have hbs:BS w [⟨w.heap.size,112,[.int .i64 vb,.int .i64 op,.int .i64 er,.int .i64 t.at9,.int .i64 t.id,.string t.tq,.string t.wher,.int .i64 t.u0,.int .i64 t.u1,.int .i64 t.u2,.int .u8 (t.oc:Nat),.bool t.v.sg,.slice t.v.a t.v.n t.v.c,.slice t.v.b t.v.m t.v.d,.slice t.pa t.pn t.pc,.bool t.h0,.bool t.h1]⟩,⟨w.heap.size+1,125,[.int .i64 0,.int .i64 0,.string ⟨#[]⟩,.int .i64 0,.string ⟨#[]⟩,.int .i64 0,.int .i64 0,.int .i64 0,.bool false,.slice none 0 0,.slice none 0 0,.slice none 0 0,.bool false,.slice none 0 0,.slice none 0 0,.bool false,.slice none 0 0,.slice none 0 0,.bool false,.bool false,.int .i64 0,.int .i64 0,.int .i64 0]⟩] [] ((w.alloc (.cells #[.int .i64 vb,.int .i64 op,.int .i64 er,.int .i64 t.at9,.int .i64 t.id,.string t.tq,.string t.wher,.int .i64 t.u0,.int .i64 t.u1,.int .i64 t.u2,.int .u8 (t.oc:Nat),.bool t.v.sg,.slice t.v.a t.v.n t.v.c,.slice t.v.b t.v.m t.v.d,.slice t.pa t.pn t.pc,.bool t.h0,.bool t.h1] 112)).alloc (.cells #[.int .i64 0,.int .i64 0,.string ⟨#[]⟩,.int .i64 0,.string ⟨#[]⟩,.int .i64 0,.int .i64 0,.int .i64 0,.bool false,.slice none 0 0,.slice none 0 0,.slice none 0 0,.bool false,.slice none 0 0,.slice none 0 0,.bool false,.slice none 0 0,.slice none 0 0,.bool false,.bool false,.int .i64 0,.int .i64 0,.int .i64 0] 125)) :=
   (((BS.start w).alloc (p:=w.heap.size) rfl 112 [.int .i64 vb,.int .i64 op,.int .i64 er,.int .i64 t.at9,.int .i64 t.id,.string t.tq,.string t.wher,.int .i64 t.u0,.int .i64 t.u1,.int .i64 t.u2,.int .u8 (t.oc:Nat),.bool t.v.sg,.slice t.v.a t.v.n t.v.c,.slice t.v.b t.v.m t.v.d,.slice t.pa t.pn t.pc,.bool t.h0,.bool t.h1] rfl).alloc (p:=w.heap.size+1) (by simp) 125 [.int .i64 0,.int .i64 0,.string ⟨#[]⟩,.int .i64 0,.string ⟨#[]⟩,.int .i64 0,.int .i64 0,.int .i64 0,.bool false,.slice none 0 0,.slice none 0 0,.slice none 0 0,.bool false,.slice none 0 0,.slice none 0 0,.bool false,.slice none 0 0,.slice none 0 0,.bool false,.bool false,.int .i64 0,.int .i64 0,.int .i64 0] rfl)
 rw [← hW0] at hbs
 have HW0:=qH hW0
 have HN:=qH hbs
 clear hW0 hbs
 go_enter Tryz.func52,Tryz.ntmps52
 go_upto_region 1 with fail
 rw [← HW0.out]
 obtain ⟨dX,hdu,hdr⟩:=Option.map_eq_some_iff.1 Tryz.rowX
 have HDU:=qH hdu
 have HDR:=qH hdr
 clear hdu hdr
 have ⟨k0_0e,f0_0e⟩:=HN.out.cf1 0 rfl
 have l0:=HN.out.lt 0 rfl
 have l1:=HN.out.lt 1 rfl
 have HN0:=HN
 clear HN
 have HN:=qH (HN0.out.alloc (p:=W0.heap.size) rfl 125 (.int .i64 0::.int .i64 0::.string ⟨#[]⟩::z20) rfl)
 have ⟨k0_0,f0_0⟩:=HN.out.cf1 0 rfl
 go_upto_region 2 with (refine store_new rfl 125 _ _ rfl (W0.heap.size) 0 [.int .i64 vb,.int .i64 0,.string ⟨#[]⟩,.int .i64 0,.string ⟨#[]⟩,.int .i64 0,.int .i64 0,.int .i64 0,.bool false,.slice none 0 0,.slice none 0 0,.slice none 0 0,.bool false,.slice none 0 0,.slice none 0 0,.bool false,.slice none 0 0,.slice none 0 0,.bool false,.bool false,.int .i64 0,.int .i64 0,.int .i64 0] rfl rfl (there_of (HN.out.at 2 rfl) 23 rfl) Tryz.sizX (by kernel_rfl) (fun wa1 HWA=>?_))
 replace HN:=qH (show BS w [⟨w.heap.size,112,(.int .i64 vb::.int .i64 op::.int .i64 er::t.tl)⟩,⟨w.heap.size+1,125,(.int .i64 0::.int .i64 0::.string ⟨#[]⟩::z20)⟩,⟨W0.heap.size,125,(.int .i64 vb::.int .i64 0::.string ⟨#[]⟩::z20)⟩] _ wa1 from HWA.out▸HN.out.setAll 2 rfl (by simp [z20,RepV.cells,TolV.tl]) (.int .i64 vb::.int .i64 0::.string ⟨#[]⟩::z20) rfl)
 clear HN0 k0_0e f0_0e l0 l1 k0_0 f0_0
 clear HWA
 obtain ⟨xp,hxp⟩:∃ xp,W0.heap.size=xp:=⟨_,rfl⟩
 rw [hxp] at HN ⊢
 clear hxp
 have k0_2:=HN.out.cell 0 2 rfl rfl
 have f0_2:=HN.out.free 0 2 rfl
 have k0_3:=HN.out.cell 0 3 rfl rfl
 have f0_3:=HN.out.free 0 3 rfl
 have k0_6:=HN.out.cell 0 6 rfl rfl
 have f0_6:=HN.out.free 0 6 rfl
 by_cases h0:er≠0
 ·
  have g0:(er != 0)=true:=bne_iff_ne.2 h0
  go_wp2_with (refine store_new rfl 125 _ _ rfl (w.heap.size+1) 0 _ rfl rfl (there_of (HN.out.at 1 rfl) 23 rfl) Tryz.sizX (by kernel_rfl) (fun we HWA=>?_))
  have HE:=qH (HN.out.stored 1 rfl HWA (by simp [z20,RepV.cells]) rfl)
  (try simp only [Exit.inBlock,Exit.then])
  refine bodyPost_ret (v:=.agg #[.int .i64 0,.int .i64 0,.string ⟨#[]⟩,.int .i64 er,.string t.wher,.int .i64 t.at9,.int .i64 0,.int .i64 0,.bool false,.slice none 0 0,.slice none 0 0,.slice none 0 0,.bool false,.slice none 0 0,.slice none 0 0,.bool false,.slice none 0 0,.slice none 0 0,.bool false,.bool false,.int .i64 0,.int .i64 0,.int .i64 0]) ?_ rfl ?_
  ·
   rw [results_cell1 rfl]
   exact run_loadVar_mid _ (w.heap.size+1) 0 125 _ dX (range_all (HE.out.at 1 rfl)) HDU.out HDR.out Tryz.sizX
  exact ⟨0,0,⟨#[]⟩,⟨er,t.wher,t.at9,0,0,Rv.zero,none,0,0,[],Rv.zero,Rv.zero,false,false,0,0,0⟩,rfl,⟨by have:=HTW.out.wh;show t.wher.size≤_;omega,Rv.zero_ok _,Rv.zero_sh.num,Rv.zero_sh.den,⟨rfl,Sl.ofMid (Mid.nil _ 0 45 3),fun _ h=>(by cases h)⟩,fun _ h=>(by cases h),by show (0:Nat)≤_;omega,Rv.zero_ok _,Rv.zero_sh.num,Rv.zero_sh.den,Rv.zero_ok _,Rv.zero_sh.num,Rv.zero_sh.den⟩,by show (0:Nat)≤_;omega,by show (0:Nat)≤_;omega,by rw [HRE.out,if_pos h0];rfl,⟨fun _ h=>(by cases h),.inl rfl⟩,HE.out.bel⟩
 ·
  have g0:(er != 0)=false:=bne_eq_false_iff_eq.2 (Classical.not_not.1 h0)
  have HRE2:=qH (HRE.out.trans (if_neg h0))
  clear HRE
  have HRE:=HRE2
  clear HRE2 h0
  go_upto_region 4 with fail
  clear g0 k0_2 f0_2 k0_3 f0_3 k0_6 f0_6
  have k0_11:=HN.out.cell 0 11 rfl rfl
  have f0_11:=HN.out.free 0 11 rfl
  have k0_12:=HN.out.cell 0 12 rfl rfl
  have f0_12:=HN.out.free 0 12 rfl
  have k0_13:=HN.out.cell 0 13 rfl rfl
  have f0_13:=HN.out.free 0 13 rfl
  go_wp2_with fail
  clear k0_11 f0_11 k0_12 f0_12 k0_13 f0_13
  refine (HMK.out wa1 HN.out.bel).mono ?_
  rintro e w2 ⟨v,rfl,hsh,hvq,hv1,hv2,hvn,hb⟩
  replace HN:=qH (HN.out.call hb)
  replace HN:=qH (HN.out.gots hvn)
  have HVS:=qH hsh
  have HVQ:=qH hvq
  have HV1:=qH (And.intro hv1 hv2)
  clear hb hvn hsh hvq hv1 hv2
  have l0:=HN.out.lt 0 rfl
  have HN0:=HN
  clear HN
  have HN:=qH (HN0.out.alloc (p:=w2.heap.size) rfl 45 [.bool v.s,.slice v.a v.l v.c,.slice v.b v.m v.d] rfl)
  go_upto_region 5 with fail
  replace HN:=qH (show BS w [⟨w.heap.size,112,(.int .i64 vb::.int .i64 op::.int .i64 er::t.tl)⟩,⟨w.heap.size+1,125,(.int .i64 0::.int .i64 0::.string ⟨#[]⟩::z20)⟩,⟨xp,125,(.int .i64 vb::.int .i64 0::.string ⟨#[]⟩::z20)⟩,⟨w2.heap.size,45,[.bool v.s,.slice v.a v.l v.c,.slice v.b v.m v.d]⟩] _ _ from HN.out)
  clear l0 HN0
  generalize (w2.alloc (.cells #[.bool v.s,.slice v.a v.l v.c,.slice v.b v.m v.d] 45))=wa3 at HN ⊢
  obtain ⟨vp,hvp⟩:∃ vp,w2.heap.size=vp:=⟨_,rfl⟩
  rw [hvp] at HN ⊢
  clear hvp
  have ⟨k2_0,f2_0⟩:=HN.out.cf1 2 rfl
  go_upto_block 0 with fail
  clear k2_0 f2_0
  go_cut [] (fun wx=>TailR9 t w xp vp v vb op er wx)
  case first =>
   by_cases hv2:vb=2
   ·
    subst hv2
    have k0_4:=HN.out.cell 0 4 rfl rfl
    have f0_4:=HN.out.free 0 4 rfl
    have k2_6:=HN.out.cell 2 6 rfl rfl
    have f2_6:=HN.out.free 2 6 rfl
    go_wp2_with fail
    replace HN:=qH (show BS w [⟨w.heap.size,112,(.int .i64 2::.int .i64 op::.int .i64 er::t.tl)⟩,⟨w.heap.size+1,125,(.int .i64 0::.int .i64 0::.string ⟨#[]⟩::z20)⟩,⟨xp,125,[.int .i64 2,.int .i64 0,.string ⟨#[]⟩,.int .i64 0,.string ⟨#[]⟩,.int .i64 0,.int .i64 t.id,.int .i64 0,.bool false,.slice none 0 0,.slice none 0 0,.slice none 0 0,.bool false,.slice none 0 0,.slice none 0 0,.bool false,.slice none 0 0,.slice none 0 0,.bool false,.bool false,.int .i64 0,.int .i64 0,.int .i64 0]⟩,⟨vp,45,[.bool v.s,.slice v.a v.l v.c,.slice v.b v.m v.d]⟩] _ _ from (HN.out.set 2 6 rfl rfl (fun _=>by simp) (.int .i64 t.id)))
    clear k0_4 f0_4 k2_6 f2_6
    generalize (wa3.setCell ⟨xp,6,none⟩ (.int .i64 t.id))=wa4 at HN ⊢
    go_meet
    exact ⟨0,⟨#[]⟩,⟨0,⟨#[]⟩,0,t.id,0,Rv.zero,none,0,0,[],Rv.zero,Rv.zero,false,false,0,0,0⟩,[],_,(HN.out),by rw [HRE.out];rfl,by show (0:Nat)≤_;omega,⟨by show (0:Nat)≤_;omega,⟨fun _ h=>(by cases h),.inl rfl⟩,fun _ _ _=>⟨by show (0:Nat)≤_;omega,Rv.zero_ok _,Rv.zero_sh.num,Rv.zero_sh.den,⟨rfl,Sl.ofMid (Mid.nil _ 0 45 3),fun _ h=>(by cases h)⟩,fun _ h=>(by cases h),by show (0:Nat)≤_;omega,Rv.zero_ok _,Rv.zero_sh.num,Rv.zero_sh.den,Rv.zero_ok _,Rv.zero_sh.num,Rv.zero_sh.den⟩⟩⟩
   by_cases hv4:vb=4
   ·
    subst hv4
    have k0_5:=HN.out.cell 0 5 rfl rfl
    have f0_5:=HN.out.free 0 5 rfl
    have k2_2:=HN.out.cell 2 2 rfl rfl
    have f2_2:=HN.out.free 2 2 rfl
    go_wp2_with fail
    replace HN:=qH (show BS w [⟨w.heap.size,112,(.int .i64 4::.int .i64 op::.int .i64 er::t.tl)⟩,⟨w.heap.size+1,125,(.int .i64 0::.int .i64 0::.string ⟨#[]⟩::z20)⟩,⟨xp,125,(.int .i64 4::.int .i64 0::.string t.tq::z20)⟩,⟨vp,45,[.bool v.s,.slice v.a v.l v.c,.slice v.b v.m v.d]⟩] _ _ from (HN.out.set 2 2 rfl rfl (fun _=>by simp) (.string t.tq)))
    clear k0_5 f0_5 k2_2 f2_2
    generalize (wa3.setCell ⟨xp,2,none⟩ (.string t.tq))=wa4 at HN ⊢
    go_meet
    exact ⟨0,t.tq,⟨0,⟨#[]⟩,0,0,0,Rv.zero,none,0,0,[],Rv.zero,Rv.zero,false,false,0,0,0⟩,[],_,(HN.out),by rw [HRE.out];rfl,by have:=HTW.out.tq;omega,⟨by show (0:Nat)≤_;omega,⟨fun _ h=>(by cases h),.inl rfl⟩,fun _ _ _=>⟨by show (0:Nat)≤_;omega,Rv.zero_ok _,Rv.zero_sh.num,Rv.zero_sh.den,⟨rfl,Sl.ofMid (Mid.nil _ 0 45 3),fun _ h=>(by cases h)⟩,fun _ h=>(by cases h),by show (0:Nat)≤_;omega,Rv.zero_ok _,Rv.zero_sh.num,Rv.zero_sh.den,Rv.zero_ok _,Rv.zero_sh.num,Rv.zero_sh.den⟩⟩⟩
   by_cases hv1:vb=1
   ·
    subst hv1
    have k0_1:=HN.out.cell 0 1 rfl rfl
    have f0_1:=HN.out.free 0 1 rfl
    have k2_1:=HN.out.cell 2 1 rfl rfl
    have f2_1:=HN.out.free 2 1 rfl
    go_upto_region 12 with fail
    replace HN:=qH (show BS w [⟨w.heap.size,112,(.int .i64 1::.int .i64 op::.int .i64 er::t.tl)⟩,⟨w.heap.size+1,125,(.int .i64 0::.int .i64 0::.string ⟨#[]⟩::z20)⟩,⟨xp,125,(.int .i64 1::.int .i64 op::.string ⟨#[]⟩::z20)⟩,⟨vp,45,[.bool v.s,.slice v.a v.l v.c,.slice v.b v.m v.d]⟩] _ _ from (HN.out.set 2 1 rfl rfl (fun _=>by simp) (.int .i64 op)))
    clear k0_1 f0_1 k2_1 f2_1
    generalize (wa3.setCell ⟨xp,1,none⟩ (.int .i64 op))=wa4 at HN ⊢
    have k2_1:=HN.out.cell 2 1 rfl rfl
    have f2_1:=HN.out.free 2 1 rfl
    have HRO:=qH (show resT t=⟨1,op,[],repT t⟩ from by rw [HRE.out,if_neg (by decide),if_neg (by decide),if_pos rfl])
    by_cases ho1:op=1
    ·
     subst ho1
     have k0_4:=HN.out.cell 0 4 rfl rfl
     have f0_4:=HN.out.free 0 4 rfl
     have k2_6:=HN.out.cell 2 6 rfl rfl
     have f2_6:=HN.out.free 2 6 rfl
     go_wp2_with fail
     replace HN:=qH (show BS w [⟨w.heap.size,112,(.int .i64 1::.int .i64 1::.int .i64 er::t.tl)⟩,⟨w.heap.size+1,125,(.int .i64 0::.int .i64 0::.string ⟨#[]⟩::z20)⟩,⟨xp,125,[.int .i64 1,.int .i64 1,.string ⟨#[]⟩,.int .i64 0,.string ⟨#[]⟩,.int .i64 0,.int .i64 t.id,.int .i64 0,.bool false,.slice none 0 0,.slice none 0 0,.slice none 0 0,.bool false,.slice none 0 0,.slice none 0 0,.bool false,.slice none 0 0,.slice none 0 0,.bool false,.bool false,.int .i64 0,.int .i64 0,.int .i64 0]⟩,⟨vp,45,[.bool v.s,.slice v.a v.l v.c,.slice v.b v.m v.d]⟩] _ _ from (HN.out.set 2 6 rfl rfl (fun _=>by simp) (.int .i64 t.id)))
     clear k0_4 f0_4 k2_6 f2_6
     generalize (wa4.setCell ⟨xp,6,none⟩ (.int .i64 t.id))=wa5 at HN ⊢
     go_meet
     exact ⟨1,⟨#[]⟩,⟨0,⟨#[]⟩,0,t.id,0,Rv.zero,none,0,0,[],Rv.zero,Rv.zero,false,false,0,0,0⟩,[],_,(HN.out),by rw [HRO.out];unfold repT;rw [HOP.out];rfl,by show (0:Nat)≤_;omega,⟨by show (0:Nat)≤_;omega,⟨fun _ h=>(by cases h),.inl rfl⟩,fun _ _ _=>⟨by show (0:Nat)≤_;omega,Rv.zero_ok _,Rv.zero_sh.num,Rv.zero_sh.den,⟨rfl,Sl.ofMid (Mid.nil _ 0 45 3),fun _ h=>(by cases h)⟩,fun _ h=>(by cases h),by show (0:Nat)≤_;omega,Rv.zero_ok _,Rv.zero_sh.num,Rv.zero_sh.den,Rv.zero_ok _,Rv.zero_sh.num,Rv.zero_sh.den⟩⟩⟩
    by_cases ho2:op=2
    ·
     subst ho2
     have k0_4:=HN.out.cell 0 4 rfl rfl
     have f0_4:=HN.out.free 0 4 rfl
     have k2_6:=HN.out.cell 2 6 rfl rfl
     have f2_6:=HN.out.free 2 6 rfl
     go_wp2_with fail
     replace HN:=qH (show BS w [⟨w.heap.size,112,(.int .i64 1::.int .i64 2::.int .i64 er::t.tl)⟩,⟨w.heap.size+1,125,(.int .i64 0::.int .i64 0::.string ⟨#[]⟩::z20)⟩,⟨xp,125,[.int .i64 1,.int .i64 2,.string ⟨#[]⟩,.int .i64 0,.string ⟨#[]⟩,.int .i64 0,.int .i64 t.id,.int .i64 0,.bool false,.slice none 0 0,.slice none 0 0,.slice none 0 0,.bool false,.slice none 0 0,.slice none 0 0,.bool false,.slice none 0 0,.slice none 0 0,.bool false,.bool false,.int .i64 0,.int .i64 0,.int .i64 0]⟩,⟨vp,45,[.bool v.s,.slice v.a v.l v.c,.slice v.b v.m v.d]⟩] _ _ from (HN.out.set 2 6 rfl rfl (fun _=>by simp) (.int .i64 t.id)))
     clear k0_4 f0_4 k2_6 f2_6
     generalize (wa4.setCell ⟨xp,6,none⟩ (.int .i64 t.id))=wa5 at HN ⊢
     go_meet
     exact ⟨2,⟨#[]⟩,⟨0,⟨#[]⟩,0,t.id,0,Rv.zero,none,0,0,[],Rv.zero,Rv.zero,false,false,0,0,0⟩,[],_,(HN.out),by rw [HRO.out];unfold repT;rw [HOP.out];rfl,by show (0:Nat)≤_;omega,⟨by show (0:Nat)≤_;omega,⟨fun _ h=>(by cases h),.inl rfl⟩,fun _ _ _=>⟨by show (0:Nat)≤_;omega,Rv.zero_ok _,Rv.zero_sh.num,Rv.zero_sh.den,⟨rfl,Sl.ofMid (Mid.nil _ 0 45 3),fun _ h=>(by cases h)⟩,fun _ h=>(by cases h),by show (0:Nat)≤_;omega,Rv.zero_ok _,Rv.zero_sh.num,Rv.zero_sh.den,Rv.zero_ok _,Rv.zero_sh.num,Rv.zero_sh.den⟩⟩⟩
    by_cases ho9:op=9
    ·
     subst ho9
     have ⟨k3a,k3b,k3c⟩:=HN.out.cg3 3 rfl
     go_wp2_with (refine wpList_load_mid rfl 112 _ rfl w.heap.size 0 rfl _ dT (range_all (HN.out.at 0 rfl)) HTU.out HTD.out Tryz.sizT ?_)
     clear k3a k3b k3c
     refine (HAN.out v _ HN.out.bel (HVS.out.ok HN.out fun y hy=>List.mem_append_left _ hy) ⟨HVS.out.num,HVS.out.den⟩ HVQ.out).mono ?_
     rintro e w8 ⟨r,pa,pn,pc,vs,rfl,hrs,hrq,hvq,hvl,hpn,hvs,hns,hmid,hhd,hb⟩
     have HPK:=qH (show (∀ k,(Value.slice pa pn pc).ownBlock=some k→w.heap.size≤k)∧(pa=none∨1≤pn) from ⟨fun k hk=>Nat.le_trans HN.out.bel.size (hmid.lt k hk).1,hhd.imp id fun ⟨_,_,h⟩=>h⟩)
     have HOB:=qH (OB.join (HN.out.call hb) HN.out hns hmid hhd)
     obtain ⟨ex,hq,hback⟩:=HOB.out.lend
     replace HN:=qH hq
     have HBK:=qH hback
     have HRS:=qH hrs
     have HRQ:=qH hrq
     have HPQ:=qH hvq
     have HVL:=qH hvl
     have HPN:=qH hpn
     have HPS:=qH hvs
     clear hq hback hrs hrq hvq hvl hpn hvs hns hmid hhd hb HOB
     have k2_7:=HN.out.cell 2 7 rfl rfl
     have f2_7:=HN.out.free 2 7 rfl
     have k2_8:=HN.out.cell 2 8 rfl rfl
     have f2_8:=HN.out.free 2 8 rfl
     have k2_9:=HN.out.cell 2 9 rfl rfl
     have f2_9:=HN.out.free 2 9 rfl
     have k2_10:=HN.out.cell 2 10 rfl rfl
     have f2_10:=HN.out.free 2 10 rfl
     have k2_11:=HN.out.cell 2 11 rfl rfl
     have f2_11:=HN.out.free 2 11 rfl
     go_wp2_with fail
     replace HN:=qH (show BS w (⟨w.heap.size,112,(.int .i64 1::.int .i64 9::.int .i64 er::t.tl)⟩::⟨w.heap.size+1,125,(.int .i64 0::.int .i64 0::.string ⟨#[]⟩::z20)⟩::⟨xp,125,[.int .i64 1,.int .i64 9,.string ⟨#[]⟩,.int .i64 0,.string ⟨#[]⟩,.int .i64 0,.int .i64 0,.int .i64 (ansT t).out,.bool r.s,.slice r.a r.l r.c,.slice r.b r.m r.d,.slice pa pn pc,.bool false,.slice none 0 0,.slice none 0 0,.bool false,.slice none 0 0,.slice none 0 0,.bool false,.bool false,.int .i64 0,.int .i64 0,.int .i64 0]⟩::⟨vp,45,[.bool v.s,.slice v.a v.l v.c,.slice v.b v.m v.d]⟩::ex) _ _ from (((((HN.out.set 2 7 rfl rfl (fun _=>by simp) (.int .i64 (ansT t).out)).set 2 8 rfl rfl (fun _=>by simp) (.bool r.s)).set 2 9 rfl rfl (fun _=>by simp) (.slice r.a r.l r.c)).set 2 10 rfl rfl (fun _=>by simp) (.slice r.b r.m r.d)).set 2 11 rfl rfl (fun _=>by simp) (.slice pa pn pc)))
     clear k2_7 f2_7 k2_8 f2_8 k2_9 f2_9 k2_10 f2_10 k2_11 f2_11
     generalize (((((w8.setCell ⟨xp,7,none⟩ (.int .i64 (ansT t).out)).setCell ⟨xp,8,none⟩ (.bool r.s)).setCell ⟨xp,9,none⟩ (.slice r.a r.l r.c)).setCell ⟨xp,10,none⟩ (.slice r.b r.m r.d)).setCell ⟨xp,11,none⟩ (.slice pa pn pc))=wa9 at HN ⊢
     go_meet
     exact ⟨9,⟨#[]⟩,⟨0,⟨#[]⟩,0,0,(ansT t).out,r,pa,pn,pc,vs,Rv.zero,Rv.zero,false,false,0,0,0⟩,ex,_,HN.out,by rw [HRO.out];unfold repT RepV.rep;rw [HOP.out];simp only [HRQ.out,HPQ.out];rfl,by show (0:Nat)≤_;omega,⟨HPN.out,HPK.out,fun bs2 W9 hb=>(fun hO=>⟨by show (0:Nat)≤_;omega,HRS.out.ok hb (fun x hx=>List.mem_append_left _ (List.mem_append_left _ hx)),HRS.out.num,HRS.out.den,⟨HVL.out,Sl.ofMid hO.mid,fun v hv=>(HPS.out v hv).ok hb (fun x hx=>List.mem_append_left _ (List.mem_append_right _ (List.mem_flatMap.2 ⟨v,hv,hx⟩)))⟩,fun v hv=>⟨(HPS.out v hv).num,(HPS.out v hv).den⟩,by have:=HPN.out;show pn≤_;omega,Rv.zero_ok _,Rv.zero_sh.num,Rv.zero_sh.den,Rv.zero_ok _,Rv.zero_sh.num,Rv.zero_sh.den⟩) (HBK.out bs2 _ W9 hb)⟩⟩
    by_cases ho10:op=10
    ·
     subst ho10
     have ⟨k3a,k3b,k3c⟩:=HN.out.cg3 3 rfl
     go_wp2_with (refine wpList_load_mid rfl 112 _ rfl w.heap.size 0 rfl _ dT (range_all (HN.out.at 0 rfl)) HTU.out HTD.out Tryz.sizT ?_)
     clear k3a k3b k3c
     refine (HRN.out v _ (HVS.out.ok HN.out fun y hy=>List.mem_append_left _ hy) HV1.out HVQ.out).mono ?_
     rintro e w8 ⟨lo,hi,rfl,hls,hhs,hlq,hhq,hns,hb⟩
     replace HN:=qH ((HN.out.call hb).gots hns)
     have HLS:=qH hls
     have HHS:=qH hhs
     have HLQ:=qH hlq
     have HHQ:=qH hhq
     clear hb hns hls hhs hlq hhq
     have k2_12:=HN.out.cell 2 12 rfl rfl
     have f2_12:=HN.out.free 2 12 rfl
     have k2_13:=HN.out.cell 2 13 rfl rfl
     have f2_13:=HN.out.free 2 13 rfl
     have k2_14:=HN.out.cell 2 14 rfl rfl
     have f2_14:=HN.out.free 2 14 rfl
     have k2_15:=HN.out.cell 2 15 rfl rfl
     have f2_15:=HN.out.free 2 15 rfl
     have k2_16:=HN.out.cell 2 16 rfl rfl
     have f2_16:=HN.out.free 2 16 rfl
     have k2_17:=HN.out.cell 2 17 rfl rfl
     have f2_17:=HN.out.free 2 17 rfl
     have k2_18:=HN.out.cell 2 18 rfl rfl
     have f2_18:=HN.out.free 2 18 rfl
     have k2_19:=HN.out.cell 2 19 rfl rfl
     have f2_19:=HN.out.free 2 19 rfl
     go_wp2_with fail
     replace HN:=qH (show BS w [⟨w.heap.size,112,(.int .i64 1::.int .i64 10::.int .i64 er::t.tl)⟩,⟨w.heap.size+1,125,(.int .i64 0::.int .i64 0::.string ⟨#[]⟩::z20)⟩,⟨xp,125,[.int .i64 1,.int .i64 10,.string ⟨#[]⟩,.int .i64 0,.string ⟨#[]⟩,.int .i64 0,.int .i64 0,.int .i64 0,.bool false,.slice none 0 0,.slice none 0 0,.slice none 0 0,.bool lo.s,.slice lo.a lo.l lo.c,.slice lo.b lo.m lo.d,.bool hi.s,.slice hi.a hi.l hi.c,.slice hi.b hi.m hi.d,.bool (rngT t).hasLo,.bool (rngT t).hasHi,.int .i64 0,.int .i64 0,.int .i64 0]⟩,⟨vp,45,[.bool v.s,.slice v.a v.l v.c,.slice v.b v.m v.d]⟩] _ _ from ((((((((HN.out.set 2 12 rfl rfl (fun _=>by simp) (.bool lo.s)).set 2 13 rfl rfl (fun _=>by simp) (.slice lo.a lo.l lo.c)).set 2 14 rfl rfl (fun _=>by simp) (.slice lo.b lo.m lo.d)).set 2 15 rfl rfl (fun _=>by simp) (.bool hi.s)).set 2 16 rfl rfl (fun _=>by simp) (.slice hi.a hi.l hi.c)).set 2 17 rfl rfl (fun _=>by simp) (.slice hi.b hi.m hi.d)).set 2 18 rfl rfl (fun _=>by simp) (.bool (rngT t).hasLo)).set 2 19 rfl rfl (fun _=>by simp) (.bool (rngT t).hasHi)))
     clear k2_12 f2_12 k2_13 f2_13 k2_14 f2_14 k2_15 f2_15 k2_16 f2_16 k2_17 f2_17 k2_18 f2_18 k2_19 f2_19
     generalize ((((((((w8.setCell ⟨xp,12,none⟩ (.bool lo.s)).setCell ⟨xp,13,none⟩ (.slice lo.a lo.l lo.c)).setCell ⟨xp,14,none⟩ (.slice lo.b lo.m lo.d)).setCell ⟨xp,15,none⟩ (.bool hi.s)).setCell ⟨xp,16,none⟩ (.slice hi.a hi.l hi.c)).setCell ⟨xp,17,none⟩ (.slice hi.b hi.m hi.d)).setCell ⟨xp,18,none⟩ (.bool (rngT t).hasLo)).setCell ⟨xp,19,none⟩ (.bool (rngT t).hasHi))=wa9 at HN ⊢
     go_meet
     exact ⟨10,⟨#[]⟩,⟨0,⟨#[]⟩,0,0,0,Rv.zero,none,0,0,[],lo,hi,(rngT t).hasLo,(rngT t).hasHi,0,0,0⟩,[],_,(HN.out),by rw [HRO.out];unfold repT RepV.rep;rw [HOP.out];simp only [HLQ.out,HHQ.out];rfl,by show (0:Nat)≤_;omega,⟨by show (0:Nat)≤_;omega,⟨fun _ h=>(by cases h),.inl rfl⟩,fun bs2 W9 hb=>⟨by show (0:Nat)≤_;omega,Rv.zero_ok _,Rv.zero_sh.num,Rv.zero_sh.den,⟨rfl,Sl.ofMid (Mid.nil _ 0 45 3),fun _ h=>(by cases h)⟩,fun _ h=>(by cases h),by show (0:Nat)≤_;omega,HLS.out.ok hb (fun x hx=>List.mem_append_left _ (List.mem_append_left _ hx)),HLS.out.num,HLS.out.den,HHS.out.ok hb (fun x hx=>List.mem_append_left _ (List.mem_append_right _ hx)),HHS.out.num,HHS.out.den⟩⟩⟩
    by_cases ho11:op=11
    ·
     subst ho11
     have ⟨k3a,k3b,k3c⟩:=HN.out.cg3 3 rfl
     go_wp2_with (refine wpList_load_mid rfl 112 _ rfl w.heap.size 0 rfl _ dT (range_all (HN.out.at 0 rfl)) HTU.out HTD.out Tryz.sizT ?_)
     clear k3a k3b k3c
     refine (HRN.out v _ (HVS.out.ok HN.out fun y hy=>List.mem_append_left _ hy) HV1.out HVQ.out).mono ?_
     rintro e w8 ⟨lo,hi,rfl,hls,hhs,hlq,hhq,hns,hb⟩
     replace HN:=qH ((HN.out.call hb).gots hns)
     have HLS:=qH hls
     have HHS:=qH hhs
     have HLQ:=qH hlq
     have HHQ:=qH hhq
     clear hb hns hls hhs hlq hhq
     have k2_12:=HN.out.cell 2 12 rfl rfl
     have f2_12:=HN.out.free 2 12 rfl
     have k2_13:=HN.out.cell 2 13 rfl rfl
     have f2_13:=HN.out.free 2 13 rfl
     have k2_14:=HN.out.cell 2 14 rfl rfl
     have f2_14:=HN.out.free 2 14 rfl
     have k2_15:=HN.out.cell 2 15 rfl rfl
     have f2_15:=HN.out.free 2 15 rfl
     have k2_16:=HN.out.cell 2 16 rfl rfl
     have f2_16:=HN.out.free 2 16 rfl
     have k2_17:=HN.out.cell 2 17 rfl rfl
     have f2_17:=HN.out.free 2 17 rfl
     have k2_18:=HN.out.cell 2 18 rfl rfl
     have f2_18:=HN.out.free 2 18 rfl
     have k2_19:=HN.out.cell 2 19 rfl rfl
     have f2_19:=HN.out.free 2 19 rfl
     go_wp2_with fail
     replace HN:=qH (show BS w [⟨w.heap.size,112,(.int .i64 1::.int .i64 11::.int .i64 er::t.tl)⟩,⟨w.heap.size+1,125,(.int .i64 0::.int .i64 0::.string ⟨#[]⟩::z20)⟩,⟨xp,125,[.int .i64 1,.int .i64 11,.string ⟨#[]⟩,.int .i64 0,.string ⟨#[]⟩,.int .i64 0,.int .i64 0,.int .i64 0,.bool false,.slice none 0 0,.slice none 0 0,.slice none 0 0,.bool lo.s,.slice lo.a lo.l lo.c,.slice lo.b lo.m lo.d,.bool hi.s,.slice hi.a hi.l hi.c,.slice hi.b hi.m hi.d,.bool (rngT t).hasLo,.bool (rngT t).hasHi,.int .i64 0,.int .i64 0,.int .i64 0]⟩,⟨vp,45,[.bool v.s,.slice v.a v.l v.c,.slice v.b v.m v.d]⟩] _ _ from ((((((((HN.out.set 2 12 rfl rfl (fun _=>by simp) (.bool lo.s)).set 2 13 rfl rfl (fun _=>by simp) (.slice lo.a lo.l lo.c)).set 2 14 rfl rfl (fun _=>by simp) (.slice lo.b lo.m lo.d)).set 2 15 rfl rfl (fun _=>by simp) (.bool hi.s)).set 2 16 rfl rfl (fun _=>by simp) (.slice hi.a hi.l hi.c)).set 2 17 rfl rfl (fun _=>by simp) (.slice hi.b hi.m hi.d)).set 2 18 rfl rfl (fun _=>by simp) (.bool (rngT t).hasLo)).set 2 19 rfl rfl (fun _=>by simp) (.bool (rngT t).hasHi)))
     clear k2_12 f2_12 k2_13 f2_13 k2_14 f2_14 k2_15 f2_15 k2_16 f2_16 k2_17 f2_17 k2_18 f2_18 k2_19 f2_19
     generalize ((((((((w8.setCell ⟨xp,12,none⟩ (.bool lo.s)).setCell ⟨xp,13,none⟩ (.slice lo.a lo.l lo.c)).setCell ⟨xp,14,none⟩ (.slice lo.b lo.m lo.d)).setCell ⟨xp,15,none⟩ (.bool hi.s)).setCell ⟨xp,16,none⟩ (.slice hi.a hi.l hi.c)).setCell ⟨xp,17,none⟩ (.slice hi.b hi.m hi.d)).setCell ⟨xp,18,none⟩ (.bool (rngT t).hasLo)).setCell ⟨xp,19,none⟩ (.bool (rngT t).hasHi))=wa9 at HN ⊢
     go_meet
     exact ⟨11,⟨#[]⟩,⟨0,⟨#[]⟩,0,0,0,Rv.zero,none,0,0,[],lo,hi,(rngT t).hasLo,(rngT t).hasHi,0,0,0⟩,[],_,(HN.out),by rw [HRO.out];unfold repT RepV.rep;rw [HOP.out];simp only [HLQ.out,HHQ.out];rfl,by show (0:Nat)≤_;omega,⟨by show (0:Nat)≤_;omega,⟨fun _ h=>(by cases h),.inl rfl⟩,fun bs2 W9 hb=>⟨by show (0:Nat)≤_;omega,Rv.zero_ok _,Rv.zero_sh.num,Rv.zero_sh.den,⟨rfl,Sl.ofMid (Mid.nil _ 0 45 3),fun _ h=>(by cases h)⟩,fun _ h=>(by cases h),by show (0:Nat)≤_;omega,HLS.out.ok hb (fun x hx=>List.mem_append_left _ (List.mem_append_left _ hx)),HLS.out.num,HLS.out.den,HHS.out.ok hb (fun x hx=>List.mem_append_left _ (List.mem_append_right _ hx)),HHS.out.num,HHS.out.den⟩⟩⟩
    by_cases ho12:op=12
    ·
     subst ho12
     have k0_7:=HN.out.cell 0 7 rfl rfl
     have f0_7:=HN.out.free 0 7 rfl
     have k0_8:=HN.out.cell 0 8 rfl rfl
     have f0_8:=HN.out.free 0 8 rfl
     have k0_9:=HN.out.cell 0 9 rfl rfl
     have f0_9:=HN.out.free 0 9 rfl
     have k2_20:=HN.out.cell 2 20 rfl rfl
     have f2_20:=HN.out.free 2 20 rfl
     have k2_21:=HN.out.cell 2 21 rfl rfl
     have f2_21:=HN.out.free 2 21 rfl
     have k2_22:=HN.out.cell 2 22 rfl rfl
     have f2_22:=HN.out.free 2 22 rfl
     go_wp2_with fail
     replace HN:=qH (show BS w [⟨w.heap.size,112,(.int .i64 1::.int .i64 12::.int .i64 er::t.tl)⟩,⟨w.heap.size+1,125,(.int .i64 0::.int .i64 0::.string ⟨#[]⟩::z20)⟩,⟨xp,125,[.int .i64 1,.int .i64 12,.string ⟨#[]⟩,.int .i64 0,.string ⟨#[]⟩,.int .i64 0,.int .i64 0,.int .i64 0,.bool false,.slice none 0 0,.slice none 0 0,.slice none 0 0,.bool false,.slice none 0 0,.slice none 0 0,.bool false,.slice none 0 0,.slice none 0 0,.bool false,.bool false,.int .i64 t.u0,.int .i64 t.u1,.int .i64 t.u2]⟩,⟨vp,45,[.bool v.s,.slice v.a v.l v.c,.slice v.b v.m v.d]⟩] _ _ from (((HN.out.set 2 20 rfl rfl (fun _=>by simp) (.int .i64 t.u0)).set 2 21 rfl rfl (fun _=>by simp) (.int .i64 t.u1)).set 2 22 rfl rfl (fun _=>by simp) (.int .i64 t.u2)))
     clear k0_7 f0_7 k0_8 f0_8 k0_9 f0_9 k2_20 f2_20 k2_21 f2_21 k2_22 f2_22
     generalize (((wa4.setCell ⟨xp,20,none⟩ (.int .i64 t.u0)).setCell ⟨xp,21,none⟩ (.int .i64 t.u1)).setCell ⟨xp,22,none⟩ (.int .i64 t.u2))=wa5 at HN ⊢
     go_meet
     exact ⟨12,⟨#[]⟩,⟨0,⟨#[]⟩,0,0,0,Rv.zero,none,0,0,[],Rv.zero,Rv.zero,false,false,t.u0,t.u1,t.u2⟩,[],_,(HN.out),by rw [HRO.out];unfold repT;rw [HOP.out];rfl,by show (0:Nat)≤_;omega,⟨by show (0:Nat)≤_;omega,⟨fun _ h=>(by cases h),.inl rfl⟩,fun _ _ _=>⟨by show (0:Nat)≤_;omega,Rv.zero_ok _,Rv.zero_sh.num,Rv.zero_sh.den,⟨rfl,Sl.ofMid (Mid.nil _ 0 45 3),fun _ h=>(by cases h)⟩,fun _ h=>(by cases h),by show (0:Nat)≤_;omega,Rv.zero_ok _,Rv.zero_sh.num,Rv.zero_sh.den,Rv.zero_ok _,Rv.zero_sh.num,Rv.zero_sh.den⟩⟩⟩
    have go1:(op==1)=false:=beq_eq_false_iff_ne.2 ho1
    have go2:(op==2)=false:=beq_eq_false_iff_ne.2 ho2
    have go9:(op==9)=false:=beq_eq_false_iff_ne.2 ho9
    have go10:(op==10)=false:=beq_eq_false_iff_ne.2 ho10
    have go11:(op==11)=false:=beq_eq_false_iff_ne.2 ho11
    have go12:(op==12)=false:=beq_eq_false_iff_ne.2 ho12
    go_wp2_with fail
    go_meet
    exact ⟨op,⟨#[]⟩,⟨0,⟨#[]⟩,0,0,0,Rv.zero,none,0,0,[],Rv.zero,Rv.zero,false,false,0,0,0⟩,[],_,(HN.out),by rw [HRO.out];unfold repT;rw [HOP.out,if_neg (by omega),if_neg ho9,if_neg (by omega),if_neg ho12];rfl,by show (0:Nat)≤_;omega,⟨by show (0:Nat)≤_;omega,⟨fun _ h=>(by cases h),.inl rfl⟩,fun _ _ _=>⟨by show (0:Nat)≤_;omega,Rv.zero_ok _,Rv.zero_sh.num,Rv.zero_sh.den,⟨rfl,Sl.ofMid (Mid.nil _ 0 45 3),fun _ h=>(by cases h)⟩,fun _ h=>(by cases h),by show (0:Nat)≤_;omega,Rv.zero_ok _,Rv.zero_sh.num,Rv.zero_sh.den,Rv.zero_ok _,Rv.zero_sh.num,Rv.zero_sh.den⟩⟩⟩
   have gv2:(vb==2)=false:=beq_eq_false_iff_ne.2 hv2
   have gv4:(vb==4)=false:=beq_eq_false_iff_ne.2 hv4
   have gv1:(vb==1)=false:=beq_eq_false_iff_ne.2 hv1
   go_wp2_with fail
   go_meet
   exact ⟨0,⟨#[]⟩,⟨0,⟨#[]⟩,0,0,0,Rv.zero,none,0,0,[],Rv.zero,Rv.zero,false,false,0,0,0⟩,[],_,(HN.out),by rw [HRE.out,if_neg hv2,if_neg hv4,if_neg hv1];rfl,by show (0:Nat)≤_;omega,⟨by show (0:Nat)≤_;omega,⟨fun _ h=>(by cases h),.inl rfl⟩,fun _ _ _=>⟨by show (0:Nat)≤_;omega,Rv.zero_ok _,Rv.zero_sh.num,Rv.zero_sh.den,⟨rfl,Sl.ofMid (Mid.nil _ 0 45 3),fun _ h=>(by cases h)⟩,fun _ h=>(by cases h),by show (0:Nat)≤_;omega,Rv.zero_ok _,Rv.zero_sh.num,Rv.zero_sh.den,Rv.zero_ok _,Rv.zero_sh.num,Rv.zero_sh.den⟩⟩⟩
  case rest =>
   obtain ⟨w9,rfl⟩:∃ w9:World,w9=wc:=⟨_,rfl⟩
   obtain ⟨op9,tq,x,ex,ns,hq,hre,htq,hpn,hpk,hok⟩:=hcut
   have HN:=qH hq
   have HOK:=qH hok
   clear hq hok
   go_wp2_with (first | refine wpList_load_mid rfl 125 _ rfl xp 0 rfl _ dX (range_all (HN.out.at 2 rfl)) HDU.out HDR.out Tryz.sizX ?_ | refine store_new rfl 125 _ _ rfl (w.heap.size+1) 0 _ rfl rfl (there_of (HN.out.at 1 rfl) 23 rfl) Tryz.sizX (by kernel_rfl) (fun we HWA=>?_))
   have HE:=qH (HN.out.stored 1 rfl HWA (by simp [z20,RepV.cells]) rfl)
   (try simp only [Exit.inBlock,Exit.then])
   refine bodyPost_ret (v:=.agg #[.int .i64 vb,.int .i64 op9,.string tq,.int .i64 x.err,.string x.wher,.int .i64 x.at9,.int .i64 x.id,.int .i64 x.out,.bool x.v.s,.slice x.v.a x.v.l x.v.c,.slice x.v.b x.v.m x.v.d,.slice x.pa x.pn x.pc,.bool x.lo.s,.slice x.lo.a x.lo.l x.lo.c,.slice x.lo.b x.lo.m x.lo.d,.bool x.hi.s,.slice x.hi.a x.hi.l x.hi.c,.slice x.hi.b x.hi.m x.hi.d,.bool x.hl,.bool x.hh,.int .i64 x.u0,.int .i64 x.u1,.int .i64 x.u2]) ?_ rfl ?_
   ·
    rw [results_cell1 rfl]
    exact run_loadVar_mid _ (w.heap.size+1) 0 125 _ dX (range_all (HE.out.at 1 rfl)) HDU.out HDR.out Tryz.sizX
   exact ⟨vb,op9,tq,x,rfl,HOK.out (⟨w.heap.size,112,(.int .i64 vb::.int .i64 op::.int .i64 er::t.tl)⟩::⟨w.heap.size+1,125,(.int .i64 vb::.int .i64 op9::.string tq::x.cells)⟩::⟨xp,125,(.int .i64 vb::.int .i64 op9::.string tq::x.cells)⟩::⟨vp,45,v.cells⟩::[]) _ HE.out,htq,hpn,hre,hpk,HE.out.bel⟩
end Go.Proofs.YtmhainidincjhaaGreatDoor
