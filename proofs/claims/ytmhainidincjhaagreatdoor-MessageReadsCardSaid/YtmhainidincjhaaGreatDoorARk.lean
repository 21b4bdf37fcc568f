/-
 What the laws stand on, part Rk: contracts and plain laws of FDec27, FLike27; the conditions are each law's own.
-/
import Derived.Test.YtmhainidincjhaaGreatDoorARj
import Derived.Test.YtmhainidincjhaaGreatDoorAQ
import Derived.Test.YtmhainidincjhaaGreatDoorARi
set_option linter.unusedVariables false
set_option linter.unusedSimpArgs false
set_option maxRecDepth 100000
set_option maxHeartbeats 16000000
namespace Go.Proofs.YtmhainidincjhaaGreatDoor
open Go.RowKit Go.Extern.Stop Go.Stop Go.Extern
theorem results_cell_tmp2 {fn:Func} {p u v:Tmp} {ty:TypeId} (h:fn.results=#[.cell p ty,.tmp u,.tmp v]) (tmps:Array Value) (P:Program) (w:World) :
  (results fn tmps).run P w =
   ((asAddr (tmps.getD p undef)).run P w).andThen fun a w1=>((loadVar ty a).run P w1).andThen fun x w2=>.ok (.tuple #[x,tmps.getD u undef,tmps.getD v undef]) w2:=by
 simp only [results,h]
 simp [Sem.run_bind,Result.andThen]
theorem ret_of2 {P:Program} {T:TypeId} {p:Nat} {v u u2:Value} {W:World} (h:(loadVar T ⟨p,0,none⟩).run P W=.ok v W) :
  ((asAddr (.pointer (some ⟨p,0,none⟩))).run P W).andThen (fun a w1=>((loadVar T a).run P w1).andThen fun x w2=>(.ok (Value.tuple #[x,u,u2]) w2:Result Value))=.ok (Value.tuple #[v,u,u2]) W:=by
 show ((loadVar T ⟨p,0,none⟩).run P W).andThen (fun x w2=>(.ok (Value.tuple #[x,u,u2]) w2:Result Value))=_
 rw [h];rfl
theorem BS.rot {w W:World} {x y z:Bk} {ns:List Nm} (h:BS w [x,y,z] ns W):BS w [y,z,x] ns W:=by
 have hp:[y,z,x].Perm [x,y,z]:=List.perm_append_singleton x [y,z]
 exact ⟨h.bel,fun b hb=>h.box b (hp.mem_iff.1 hb),(hp.pairwise_iff (fun {a b} e=>fun e2=>e e2.symm)).2 h.nod,h.num⟩
theorem QS.base {w0:World} {bs:List Bk} {ns:List Nm} {pb:Nat} {ba:Option Addr} {n c:Nat} {w:World} {mb:Nat} {cs:List Value} {st:RS} {W:World} (h:QS w0 bs ns pb ba n c w mb cs st none [] W):QS w0 bs ns pb ba n c W mb cs st none [] W :=
 ⟨h.tk,Nat.lt_of_lt_of_le h.lp h.sz,Nat.lt_of_lt_of_le h.lm h.sz,Nat.le_refl _,h.ow,fun _ _ h=>by cases h⟩
theorem qsome {w0:World} {bs:List Bk} {ns:List Nm} {pb:Nat} {ba:Option Addr} {n c:Nat} {w:World} {mb:Nat} {cs:List Value} {st:RS} {o:Option Nat} {L:List VE} {W:World} (m:Nat) {data:List Nat} (h:QS w0 bs ns pb ba n c w mb cs st o L W) (hd:BytesN w0 (.slice ba n c) data) (hn:n≤1048576) (hm:m≤1099511627776) :
  Calls Tryz.prog 104 #[.pointer (some ⟨pb,0,none⟩),.int .i64 m] W fun e w'=>∃ a' c',e=.returned (.slice a' m c')∧BytesN w' (.slice a' m c') (rNext data m st).1∧QS w0 bs ns pb ba n c w mb cs (rNext data m st).2 o L w' :=
 (tsome_any m data st W h.tk hd (by omega) hm).mono fun e w' hh=>by
  obtain ⟨a',c',he,hb,ht,hk,_⟩:=hh
  exact ⟨a',c',he,hb,h.next ht hk good_next⟩
theorem good_ask {data:List Nat} {st:RS} (h:Good9 (rAsk data st).2):Good9 st:=by
 cases st with
 | ok a=>exact ⟨a,rfl⟩
 | error x =>
  exfalso
  obtain ⟨k,hk⟩:=h
  have he:∀ k acc,(rEnts data k (.error x) acc).2=.error x:=fun k acc=>by cases k <;> rfl
  have hk:(rAskBody data (rPick data 1 12 (.error x)).1 (.error x)).2=.ok k:=hk
  generalize (rPick data 1 12 (.error x)).1=op at hk
  unfold rAskBody at hk
  repeat' split at hk
  all_goals first
   | cases hk
   | exact absurd ((he _ _).symm.trans hk) (by simp)
structure RefM.dok (w:World) (x:RefM):Prop where
 v:(x.qm=0∧x.q=0)∨x.v.ok w
 es:EsR w x.ea x.en x.ec x.vs
 ev:∀ e,e∈x.vs→(VP.rat e.q e.s e.a e.n e.c e.b e.m e.d).ok w
def RetFM (r:Except (Int × Nat) Msg) (w:World) (e:Ending) (w':World):Prop:=match r with
 | .error y=>e=.returned (.tuple #[.agg #[.int .i64 0,.int .i64 0,.int .i64 0,.string ⟨#[]⟩,.string ⟨#[]⟩,.int .i64 0,.int .i64 0,.int .i64 0,.int .i64 0,.bool false,.slice none 0 0,.slice none 0 0,.slice none 0 0],.int .i64 y.1,.int .i64 y.2])∧Below w.heap.size w w'
 | .ok m=>∃ x:RefM,e=.returned (.tuple #[.agg x.cells.toArray,.int .i64 0,.int .i64 0])∧x.dok w'∧x.msg=m∧Below w.heap.size w w'
def TailD (w W0:World) (a:Option Addr) (n c:Nat) (m:Msg) (st:RS) (wx:World):Prop:=∃ x:RefM,OB w (tBox (w.heap.size+1) a n c (stK st) (stE st)::⟨(w.heap.size+1+1),63,x.cells⟩::[⟨w.heap.size,63,[.int .i64 0,.int .i64 0,.int .i64 0,.string ⟨#[]⟩,.string ⟨#[]⟩,.int .i64 0,.int .i64 0,.int .i64 0,.int .i64 0,.bool false,.slice none 0 0,.slice none 0 0,.slice none 0 0]⟩]) [] 154 4 x.ea x.en x.ec (x.vs.flatMap VE.cells) wx∧(stK st≤n∧(∀ z,st=.error z→z.1≠0)) ∧
 (Good9 st→x.msg=m∧x.vs.length=x.en∧((x.qm=0∧x.q=0)∨EvK (fun k=>k<W0.heap.size) wx x.fr)∧∀ u,u∈x.vs→EvK (fun k=>k<W0.heap.size) wx u)
section
variable {data : List Nat} {mm : Msg}
def rBody (data:List Nat):Msg × RS:=rMsgBody data (rPick data 1 5 (.ok 0)).1 (rNext data 8 (rPick data 1 5 (.ok 0)).2).1 (rNext data 8 (rPick data 1 5 (.ok 0)).2).2
end
theorem f27dec (a:Option Addr) (n c:Nat) (data:List Nat) (w:World) (hd:BytesN w (.slice a n c) data) (h8:∀ x,x∈data→x<256) (hn:n≤1048576) :
  Calls Tryz.prog 41 #[.slice a n c] w (RetFM (decM data) w):=by
 obtain ⟨iR,hiR,_,hzR,_⟩:=info_parts Tryz.infoRM
 have hdb:decM data=match rEnd data (rBody data).2 with
  | some x=>.error x
  | none=>.ok (rBody data).1:=rfl
 obtain ⟨R,hR⟩:∃ R,decM data=R:=⟨_,rfl⟩
 rw [hR] at hdb ⊢
 unfold rBody at hdb
 obtain ⟨W0,hW0⟩:∃ W0,W0=(((w.alloc (.cells #[.int .i64 0,.int .i64 0,.int .i64 0,.string ⟨#[]⟩,.string ⟨#[]⟩,.int .i64 0,.int .i64 0,.int .i64 0,.int .i64 0,.bool false,.slice none 0 0,.slice none 0 0,.slice none 0 0] 63)).alloc (.cells #[.slice a n c,.int .i64 0,.int .i64 0] 207)).alloc (.cells #[.int .i64 0,.int .i64 0,.int .i64 0,.string ⟨#[]⟩,.string ⟨#[]⟩,.int .i64 0,.int .i64 0,.int .i64 0,.int .i64 0,.bool false,.slice none 0 0,.slice none 0 0,.slice none 0 0] 63)):=⟨_,rfl⟩
 have HW0:=Lib.hid hW0
 clear hW0 hR
 have hP:=fun (W:World) (h:QS w [⟨w.heap.size,63,[.int .i64 0,.int .i64 0,.int .i64 0,.string ⟨#[]⟩,.string ⟨#[]⟩,.int .i64 0,.int .i64 0,.int .i64 0,.int .i64 0,.bool false,.slice none 0 0,.slice none 0 0,.slice none 0 0]⟩] [] (w.heap.size+1) a n c W0 (w.heap.size+1+1) [.int .i64 0,.int .i64 0,.int .i64 0,.string ⟨#[]⟩,.string ⟨#[]⟩,.int .i64 0,.int .i64 0,.int .i64 0,.int .i64 0,.bool false,.slice none 0 0,.slice none 0 0,.slice none 0 0] (.ok 0) none [] W)=>qnum 1 5 h hd h8 hn
 generalize (rPick data 1 5 (.ok 0)).1=verb at hP hdb
 generalize (rPick data 1 5 (.ok 0)).2=st1 at hP hdb
 have hT:=fun (cs:List Value) (W:World) (h:QS w [⟨w.heap.size,63,[.int .i64 0,.int .i64 0,.int .i64 0,.string ⟨#[]⟩,.string ⟨#[]⟩,.int .i64 0,.int .i64 0,.int .i64 0,.int .i64 0,.bool false,.slice none 0 0,.slice none 0 0,.slice none 0 0]⟩] [] (w.heap.size+1) a n c W0 (w.heap.size+1+1) cs st1 none [] W)=>qsome 8 h hd hn (by omega)
 have htb:∀ x,x∈(rNext data 8 st1).1→x<256:=rNext_lt h8 8 st1
 generalize (rNext data 8 st1).1=tq at hT htb hdb
 generalize (rNext data 8 st1).2=st2 at hT hdb
 have HDB:=Lib.hid hdb
 have HP:=Lib.hid hP
 have HT:=Lib.hid hT
 have HD:=Lib.hid hd
 have H8:=Lib.hid h8
 have HTK:=Lib.hid (And.intro trivial htb)
 clear hd h8 hP hT htb hdb
 have hb0:BS w [⟨w.heap.size,63,[.int .i64 0,.int .i64 0,.int .i64 0,.string ⟨#[]⟩,.string ⟨#[]⟩,.int .i64 0,.int .i64 0,.int .i64 0,.int .i64 0,.bool false,.slice none 0 0,.slice none 0 0,.slice none 0 0]⟩,⟨(w.heap.size+1),207,[.slice a n c,.int .i64 0,.int .i64 0]⟩,⟨(w.heap.size+1+1),63,[.int .i64 0,.int .i64 0,.int .i64 0,.string ⟨#[]⟩,.string ⟨#[]⟩,.int .i64 0,.int .i64 0,.int .i64 0,.int .i64 0,.bool false,.slice none 0 0,.slice none 0 0,.slice none 0 0]⟩] [] (((w.alloc (.cells #[.int .i64 0,.int .i64 0,.int .i64 0,.string ⟨#[]⟩,.string ⟨#[]⟩,.int .i64 0,.int .i64 0,.int .i64 0,.int .i64 0,.bool false,.slice none 0 0,.slice none 0 0,.slice none 0 0] 63)).alloc (.cells #[.slice a n c,.int .i64 0,.int .i64 0] 207)).alloc (.cells #[.int .i64 0,.int .i64 0,.int .i64 0,.string ⟨#[]⟩,.string ⟨#[]⟩,.int .i64 0,.int .i64 0,.int .i64 0,.int .i64 0,.bool false,.slice none 0 0,.slice none 0 0,.slice none 0 0] 63)):=(((BS.start w).alloc (p:=w.heap.size) rfl 63 [.int .i64 0,.int .i64 0,.int .i64 0,.string ⟨#[]⟩,.string ⟨#[]⟩,.int .i64 0,.int .i64 0,.int .i64 0,.int .i64 0,.bool false,.slice none 0 0,.slice none 0 0,.slice none 0 0] rfl).alloc (p:=w.heap.size+1) (by simp) 207 [.slice a n c,.int .i64 0,.int .i64 0] rfl).alloc (p:=w.heap.size+1+1) (by simp) 63 [.int .i64 0,.int .i64 0,.int .i64 0,.string ⟨#[]⟩,.string ⟨#[]⟩,.int .i64 0,.int .i64 0,.int .i64 0,.int .i64 0,.bool false,.slice none 0 0,.slice none 0 0,.slice none 0 0] rfl
 rw [← HW0.out] at hb0
 have HR0:=Lib.hid (hb0.lt 0 rfl)
 have HN:=Lib.hid (show QS w [⟨w.heap.size,63,[.int .i64 0,.int .i64 0,.int .i64 0,.string ⟨#[]⟩,.string ⟨#[]⟩,.int .i64 0,.int .i64 0,.int .i64 0,.int .i64 0,.bool false,.slice none 0 0,.slice none 0 0,.slice none 0 0]⟩] [] (w.heap.size+1) a n c W0 (w.heap.size+1+1) [.int .i64 0,.int .i64 0,.int .i64 0,.string ⟨#[]⟩,.string ⟨#[]⟩,.int .i64 0,.int .i64 0,.int .i64 0,.int .i64 0,.bool false,.slice none 0 0,.slice none 0 0,.slice none 0 0] (.ok 0) none [] W0 from ⟨⟨hb0.rot,Nat.zero_le _,fun _ h=>by cases h⟩,hb0.lt 1 rfl,hb0.lt 2 rfl,Nat.le_refl _,(fun _ h=>by cases h),fun _ _ h=>by cases h⟩)
 clear hb0
 go_enter Tryz.func41,Tryz.ntmps41
 go_upto_region 3 with fail
 rw [← HW0.out]
 go_wp2_with fail
 refine (HP.out _ HN.out).mono ?_
 rintro e w1 ⟨rfl,hq⟩
 replace HN:=Lib.hid hq
 clear hq
 have k0:=HN.out.cell 0 rfl
 have f0:=HN.out.free 0
 go_wp2_with fail
 replace HN:=Lib.hid (show QS w [⟨w.heap.size,63,[.int .i64 0,.int .i64 0,.int .i64 0,.string ⟨#[]⟩,.string ⟨#[]⟩,.int .i64 0,.int .i64 0,.int .i64 0,.int .i64 0,.bool false,.slice none 0 0,.slice none 0 0,.slice none 0 0]⟩] [] (w.heap.size+1) a n c W0 (w.heap.size+1+1) [.int .i64 verb,.int .i64 0,.int .i64 0,.string ⟨#[]⟩,.string ⟨#[]⟩,.int .i64 0,.int .i64 0,.int .i64 0,.int .i64 0,.bool false,.slice none 0 0,.slice none 0 0,.slice none 0 0] st1 none [] _ from (HN.out.set 0 rfl (fun _=>by simp) (.int .i64 verb)))
 clear k0 f0
 generalize (w1.setCell ⟨w.heap.size+1+1,0,none⟩ (.int .i64 verb))=w2 at HN ⊢
 refine (HT.out _ _ HN.out).mono ?_
 rintro e w3 ⟨a1,c1,rfl,hby,hq⟩
 have hcv:=conv_any _ 8 _ _ w3 hby
 replace HN:=Lib.hid hq
 clear hq hby
 have k3:=HN.out.cell 3 rfl
 have f3:=HN.out.free 3
 go_upto_region 5 with fail
 replace HN:=Lib.hid (show QS w [⟨w.heap.size,63,[.int .i64 0,.int .i64 0,.int .i64 0,.string ⟨#[]⟩,.string ⟨#[]⟩,.int .i64 0,.int .i64 0,.int .i64 0,.int .i64 0,.bool false,.slice none 0 0,.slice none 0 0,.slice none 0 0]⟩] [] (w.heap.size+1) a n c W0 (w.heap.size+1+1) [.int .i64 verb,.int .i64 0,.int .i64 0,.string (strB tq),.string ⟨#[]⟩,.int .i64 0,.int .i64 0,.int .i64 0,.int .i64 0,.bool false,.slice none 0 0,.slice none 0 0,.slice none 0 0] st2 none [] _ from (HN.out.set 3 rfl (fun _=>by simp) (.string (strB tq))))
 clear hcv k3 f3
 generalize (w3.setCell ⟨w.heap.size+1+1,3,none⟩ (.string (strB tq)))=w4 at HN ⊢
 have k0:=HN.out.cell 0 rfl
 go_upto_block 0 with fail
 clear k0
 go_cut [] (fun wx=>TailD w W0 a n c (rMsgBody data verb tq st2).1 (rMsgBody data verb tq st2).2 wx)
 case first =>
  by_cases h1:verb=1
  ·
   subst h1
   go_wp2_with fail
   refine (qid HN.out HD.out H8.out hn).mono ?_
   rintro e w5 ⟨us,rfl,hid,hq⟩
   have HUS:=Lib.hid hid
   replace HN:=Lib.hid hq
   clear hq hid
   have k1:=HN.out.cell 1 rfl
   have f1:=HN.out.free 1
   go_wp2_with fail
   replace HN:=Lib.hid (show QS w [⟨w.heap.size,63,[.int .i64 0,.int .i64 0,.int .i64 0,.string ⟨#[]⟩,.string ⟨#[]⟩,.int .i64 0,.int .i64 0,.int .i64 0,.int .i64 0,.bool false,.slice none 0 0,.slice none 0 0,.slice none 0 0]⟩] [] (w.heap.size+1) a n c W0 (w.heap.size+1+1) [.int .i64 1,.int .i64 us,.int .i64 0,.string (strB tq),.string ⟨#[]⟩,.int .i64 0,.int .i64 0,.int .i64 0,.int .i64 0,.bool false,.slice none 0 0,.slice none 0 0,.slice none 0 0] (rId data st2).2 none [] _ from (HN.out.set 1 rfl (fun _=>by simp) (.int .i64 us)))
   clear k1 f1
   generalize (w5.setCell ⟨w.heap.size+1+1,1,none⟩ (.int .i64 us))=w6 at HN ⊢
   refine (tqst_any (⟨1,us,0,strB tq,⟨#[]⟩,0,0,0,0,0,false,none,0,0,none,0,0,none,0,0,[]⟩:RefM) data (rId data st2).2 _ HN.out.base HD.out H8.out hn).mono ?_
   rintro e w7 ⟨x,rfl,⟨x1,x2,x3,x4,x5⟩,hO,hkz,hev⟩
   have HX:=Lib.hid (And.intro x1 (And.intro x2 (And.intro x3 (And.intro x4 x5))))
   have HO:=Lib.hid hO
   have HKZ:=Lib.hid hkz
   have HEV:=Lib.hid hev
   have HSZ:=Lib.hid HN.out.sz
   clear x1 x2 x3 x4 x5 hO hkz hev HN
   have HBD:=Lib.hid (show rMsgBody data 1 tq st2=(⟨1,tq,(rId data st2).1,0,[],(rAsk data (rId data st2).2).1⟩,(rAsk data (rId data st2).2).2) from rfl)
   go_wp2_with fail
   go_meet
   rw [HBD.out]
   obtain ⟨x1,x2,x3,x4,x5⟩:=HX.out
   exact ⟨x,HO.out,HKZ.out,fun hg=>⟨by simp only [RefM.msg,x1,x2,x3,x4,x5,natB_strB HTK.out.2,(HEV.out hg).1,HUS.out (good_ask hg)];rfl,(HEV.out hg).2.1,(HEV.out hg).2.2.1.imp_right fun h2=>h2.mono fun k hk=>Nat.lt_of_lt_of_le hk HSZ.out,fun u hu=>((HEV.out hg).2.2.2 u hu).mono fun k hk=>Nat.lt_of_lt_of_le hk HSZ.out⟩⟩
  by_cases h3:verb=3
  ·
   subst h3
   go_wp2_with fail
   refine (qid HN.out HD.out H8.out hn).mono ?_
   rintro e w5 ⟨us,rfl,hid,hq⟩
   have HUS:=Lib.hid hid
   replace HN:=Lib.hid hq
   clear hq hid
   have k1:=HN.out.cell 1 rfl
   have f1:=HN.out.free 1
   go_wp2_with fail
   replace HN:=Lib.hid (show QS w [⟨w.heap.size,63,[.int .i64 0,.int .i64 0,.int .i64 0,.string ⟨#[]⟩,.string ⟨#[]⟩,.int .i64 0,.int .i64 0,.int .i64 0,.int .i64 0,.bool false,.slice none 0 0,.slice none 0 0,.slice none 0 0]⟩] [] (w.heap.size+1) a n c W0 (w.heap.size+1+1) [.int .i64 3,.int .i64 us,.int .i64 0,.string (strB tq),.string ⟨#[]⟩,.int .i64 0,.int .i64 0,.int .i64 0,.int .i64 0,.bool false,.slice none 0 0,.slice none 0 0,.slice none 0 0] (rId data st2).2 none [] _ from (HN.out.set 1 rfl (fun _=>by simp) (.int .i64 us)))
   clear k1 f1
   generalize (w5.setCell ⟨w.heap.size+1+1,1,none⟩ (.int .i64 us))=w6 at HN ⊢
   have HBD:=Lib.hid (show rMsgBody data 3 tq st2=(⟨3,tq,(rId data st2).1,0,[],Qst.zero⟩,(rId data st2).2) from rfl)
   go_meet
   rw [HBD.out]
   exact ⟨⟨3,us,0,strB tq,⟨#[]⟩,0,0,0,0,0,false,none,0,0,none,0,0,none,0,0,[]⟩,OB.start HN.out.tk.1,HN.out.tk.2,fun hg=>⟨by simp only [RefM.msg,RefM.ask,natB_strB HTK.out.2,HUS.out hg];rfl,rfl,.inl ⟨rfl,rfl⟩,fun u hu=>by cases hu⟩⟩
  by_cases h4:verb=4
  ·
   subst h4
   go_wp2_with fail
   refine (qnum 0 255 HN.out HD.out H8.out hn).mono ?_
   rintro e w5 ⟨rfl,hq⟩
   replace HN:=Lib.hid hq
   clear hq
   have k2:=HN.out.cell 2 rfl
   have f2:=HN.out.free 2
   go_wp2_with fail
   replace HN:=Lib.hid (show QS w [⟨w.heap.size,63,[.int .i64 0,.int .i64 0,.int .i64 0,.string ⟨#[]⟩,.string ⟨#[]⟩,.int .i64 0,.int .i64 0,.int .i64 0,.int .i64 0,.bool false,.slice none 0 0,.slice none 0 0,.slice none 0 0]⟩] [] (w.heap.size+1) a n c W0 (w.heap.size+1+1) [.int .i64 4,.int .i64 0,.int .i64 (rPick data 0 255 st2).1,.string (strB tq),.string ⟨#[]⟩,.int .i64 0,.int .i64 0,.int .i64 0,.int .i64 0,.bool false,.slice none 0 0,.slice none 0 0,.slice none 0 0] (rPick data 0 255 st2).2 none [] _ from (HN.out.set 2 rfl (fun _=>by simp) (.int .i64 (rPick data 0 255 st2).1)))
   clear k2 f2
   generalize (w5.setCell ⟨w.heap.size+1+1,2,none⟩ (.int .i64 (rPick data 0 255 st2).1))=w6 at HN ⊢
   have HBD:=Lib.hid (show rMsgBody data 4 tq st2=(⟨4,tq,0,(rPick data 0 255 st2).1,[],Qst.zero⟩,(rPick data 0 255 st2).2) from rfl)
   go_meet
   rw [HBD.out]
   exact ⟨⟨4,0,(rPick data 0 255 st2).1,strB tq,⟨#[]⟩,0,0,0,0,0,false,none,0,0,none,0,0,none,0,0,[]⟩,OB.start HN.out.tk.1,HN.out.tk.2,fun hg=>⟨by simp only [RefM.msg,RefM.ask,natB_strB HTK.out.2];rfl,rfl,.inl ⟨rfl,rfl⟩,fun u hu=>by cases hu⟩⟩
  by_cases h5:verb=5
  ·
   subst h5
   go_wp2_with fail
   refine (qsome 8 HN.out HD.out hn (by omega)).mono ?_
   rintro e w5 ⟨a2,c2,rfl,hby,hq⟩
   have hcv:=conv_any _ 8 _ _ w5 hby
   replace HN:=Lib.hid hq
   clear hq hby
   have k4:=HN.out.cell 4 rfl
   have f4:=HN.out.free 4
   go_wp2_with fail
   replace HN:=Lib.hid (show QS w [⟨w.heap.size,63,[.int .i64 0,.int .i64 0,.int .i64 0,.string ⟨#[]⟩,.string ⟨#[]⟩,.int .i64 0,.int .i64 0,.int .i64 0,.int .i64 0,.bool false,.slice none 0 0,.slice none 0 0,.slice none 0 0]⟩] [] (w.heap.size+1) a n c W0 (w.heap.size+1+1) [.int .i64 5,.int .i64 0,.int .i64 0,.string (strB tq),.string (strB (rNext data 8 st2).1),.int .i64 0,.int .i64 0,.int .i64 0,.int .i64 0,.bool false,.slice none 0 0,.slice none 0 0,.slice none 0 0] (rNext data 8 st2).2 none [] _ from (HN.out.set 4 rfl (fun _=>by simp) (.string (strB (rNext data 8 st2).1))))
   clear hcv k4 f4
   generalize (w5.setCell ⟨w.heap.size+1+1,4,none⟩ (.string (strB (rNext data 8 st2).1)))=w6 at HN ⊢
   have HBD:=Lib.hid (show rMsgBody data 5 tq st2=(⟨5,tq,0,0,(rTok data st2).1,Qst.zero⟩,(rNext data 8 st2).2) from rfl)
   go_meet
   rw [HBD.out]
   exact ⟨⟨5,0,0,strB tq,(strB (rNext data 8 st2).1),0,0,0,0,0,false,none,0,0,none,0,0,none,0,0,[]⟩,OB.start HN.out.tk.1,HN.out.tk.2,fun hg=>⟨by simp only [RefM.msg,RefM.ask,natB_strB HTK.out.2,natB_strB (l:=(rNext data 8 st2).1) (rNext_lt H8.out 8 st2)];rfl,rfl,.inl ⟨rfl,rfl⟩,fun u hu=>by cases hu⟩⟩
  have g1:(verb==1)=false:=beq_eq_false_iff_ne.2 h1
  have g3:(verb==3)=false:=beq_eq_false_iff_ne.2 h3
  have g4:(verb==4)=false:=beq_eq_false_iff_ne.2 h4
  have g5:(verb==5)=false:=beq_eq_false_iff_ne.2 h5
  go_wp2_with fail
  have HBD:=Lib.hid (show rMsgBody data verb tq st2=(⟨verb,tq,0,0,[],Qst.zero⟩,st2) from by unfold rMsgBody;rw [if_neg h1,if_neg h3,if_neg h4,if_neg h5])
  go_meet
  rw [HBD.out]
  exact ⟨⟨verb,0,0,strB tq,⟨#[]⟩,0,0,0,0,0,false,none,0,0,none,0,0,none,0,0,[]⟩,OB.start HN.out.tk.1,HN.out.tk.2,fun hg=>⟨by simp only [RefM.msg,RefM.ask,natB_strB HTK.out.2];rfl,rfl,.inl ⟨rfl,rfl⟩,fun u hu=>by cases hu⟩⟩
 case rest =>
  obtain ⟨w3,rfl⟩:∃ w3:World,w3=wc:=⟨_,rfl⟩
  clear HP HT HN
  generalize hmm:(rMsgBody data verb tq st2).1=mm at hcut ⊢
  generalize hss:(rMsgBody data verb tq st2).2=st at hcut ⊢
  have HHM:=Lib.hid (And.intro hmm hss)
  clear hmm hss
  obtain ⟨x,hO,hkz,hev⟩:=hcut
  have HO:=Lib.hid (show OB w (tBox (w.heap.size+1) a n c (stK st) (stE st)::⟨(w.heap.size+1+1),63,[.int .i64 x.verb,.int .i64 x.ses,.int .i64 x.rig,.string x.tk,.string x.ot,.int .i64 x.op,.int .i64 x.row,.int .i64 x.col,.int .i64 x.kind,.bool x.qs,.slice x.qa x.qn x.qc,.slice x.qb x.qm x.qd,.slice x.ea x.en x.ec]⟩::[⟨w.heap.size,63,[.int .i64 0,.int .i64 0,.int .i64 0,.string ⟨#[]⟩,.string ⟨#[]⟩,.int .i64 0,.int .i64 0,.int .i64 0,.int .i64 0,.bool false,.slice none 0 0,.slice none 0 0,.slice none 0 0]⟩]) [] 154 4 x.ea x.en x.ec (x.vs.flatMap VE.cells) w3 from hO)
  have HEV:=Lib.hid hev
  clear hO hev
  cases st with
  | error y =>
   have hz:(y.1==0)=false:=beq_eq_false_iff_ne.2 (hkz.2 y rfl)
   have hz2:(y.1 != 0)=true:=bne_iff_ne.2 (hkz.2 y rfl)
   simp only [stK,stE] at HO
   obtain ⟨yk,y2⟩:=y
   simp only at HO hz hz2
   have k01:=HO.out.st.cell 0 1 rfl rfl
   have k02:=HO.out.st.cell 0 2 rfl rfl
   clear hkz
   go_upto_region 18 with fail
   clear k01 k02 hz hz2
   replace HO:=Lib.hid (HO.out.call (Below.refl _ _).drew)
   refine wp_region_held_drew (S:=fun W=>W.cell? ⟨w.heap.size+1,1,none⟩=some (.int .i64 y2)∧W.cell? ⟨w.heap.size+1,2,none⟩=some (.int .i64 yk)) (by kernel_rfl) (⟨HO.out.st.cell 0 1 rfl rfl,HO.out.st.cell 0 2 rfl rfl⟩) (fun hHeld=>?_)
   generalize w3.drew=wd at HO hHeld ⊢
   refine tm 0 (some 64) ?_
   refine tm 1 (some 65) ?_
   refine tl 2 (some 66) ?_
   refine tm 3 (some 67) ?_
   refine tl 4 (some 68) ?_
   refine tm 5 (some 69) ?_
   refine tl 6 (some 70) ?_
   refine tm 7 (some 71) ?_
   refine tl 8 (some 72) ?_
   refine wpAnyH_ready (rs:=[9]) (by kernel_rfl) (by simp) ?_
   refine (AllReadyH.cons rfl (fun K hK=>?_) AllReadyH.nil)
   have ⟨k20,f20,k21,f21,k22,f22,k23,f23,k24,f24,k25,f25,k26,f26,k27,f27,k28,f28,k29,f29,k210,f210,k211,f211,k212,f212⟩:=HO.out.st.cf13 2 rfl
   go_simp
   clear k20 f20 k21 f21 k22 f22 k23 f23 k24 f24 k25 f25 k26 f26 k27 f27 k28 f28 k29 f29 k210 f210 k211 f211 k212 f212
   have HE:=Lib.hid (((((((((((((HO.out.set 2 0 rfl rfl (fun _=>by simp) (.int .i64 0)).set 2 1 rfl rfl (fun _=>by simp) (.int .i64 0)).set 2 2 rfl rfl (fun _=>by simp) (.int .i64 0)).set 2 3 rfl rfl (fun _=>by simp) (.string ⟨#[]⟩)).set 2 4 rfl rfl (fun _=>by simp) (.string ⟨#[]⟩)).set 2 5 rfl rfl (fun _=>by simp) (.int .i64 0)).set 2 6 rfl rfl (fun _=>by simp) (.int .i64 0)).set 2 7 rfl rfl (fun _=>by simp) (.int .i64 0)).set 2 8 rfl rfl (fun _=>by simp) (.int .i64 0)).set 2 9 rfl rfl (fun _=>by simp) (.bool false)).set 2 10 rfl rfl (fun _=>by simp) (.slice none 0 0)).set 2 11 rfl rfl (fun _=>by simp) (.slice none 0 0)).set 2 12 rfl rfl (fun _=>by simp) (.slice none 0 0))
   generalize (((((((((((((wd.setCell ⟨w.heap.size,0,none⟩ (.int .i64 0)).setCell ⟨w.heap.size,1,none⟩ (.int .i64 0)).setCell ⟨w.heap.size,2,none⟩ (.int .i64 0)).setCell ⟨w.heap.size,3,none⟩ (.string ⟨#[]⟩)).setCell ⟨w.heap.size,4,none⟩ (.string ⟨#[]⟩)).setCell ⟨w.heap.size,5,none⟩ (.int .i64 0)).setCell ⟨w.heap.size,6,none⟩ (.int .i64 0)).setCell ⟨w.heap.size,7,none⟩ (.int .i64 0)).setCell ⟨w.heap.size,8,none⟩ (.int .i64 0)).setCell ⟨w.heap.size,9,none⟩ (.bool false)).setCell ⟨w.heap.size,10,none⟩ (.slice none 0 0)).setCell ⟨w.heap.size,11,none⟩ (.slice none 0 0)).setCell ⟨w.heap.size,12,none⟩ (.slice none 0 0))=we at HE ⊢
   refine hK.out _ _ (⟨HE.out.st.cell 0 1 rfl rfl,HE.out.st.cell 0 2 rfl rfl⟩) (fun hHeld2=>?_)
   clear hK K hHeld
   rename _=>hHeld
   try simp only [Act.put,stB,stZ,stS]
   refine tm 10 (some 3) ?_
   refine tm 11 (some 4) ?_
   refine wpAnyH_done (by kernel_rfl) ?_ _
   clear hHeld
   go_wp2_with fail
   (try simp only [Exit.inBlock,Exit.then])
   refine bodyPost_ret (v:=.tuple #[.agg #[.int .i64 0,.int .i64 0,.int .i64 0,.string ⟨#[]⟩,.string ⟨#[]⟩,.int .i64 0,.int .i64 0,.int .i64 0,.int .i64 0,.bool false,.slice none 0 0,.slice none 0 0,.slice none 0 0],.int .i64 yk,.int .i64 y2]) ?_ rfl ?_
   ·
    rw [results_cell_tmp2 rfl]
    have hbk:=(HE.out.st.at 2 rfl:_=some (Obj.cells #[.int .i64 0,.int .i64 0,.int .i64 0,.string ⟨#[]⟩,.string ⟨#[]⟩,.int .i64 0,.int .i64 0,.int .i64 0,.int .i64 0,.bool false,.slice none 0 0,.slice none 0 0,.slice none 0 0] 63 (0,0)))
    generalize we=WE at hbk ⊢
    have hld:=Go.Lib.rl_loadVar_cells 63 _ hiR (fun _=>by kernel_rfl) (w.heap.size) 0 [.int .i64 0,.int .i64 0,.int .i64 0,.string ⟨#[]⟩,.string ⟨#[]⟩,.int .i64 0,.int .i64 0,.int .i64 0,.int .i64 0,.bool false,.slice none 0 0,.slice none 0 0,.slice none 0 0] hzR.symm WE (fun k v hk=>by
     rw [Nat.zero_add]
     exact cell_of_block (j:=k) hbk (by simpa using hk))
    exact ret_of2 hld
   rw [show R=.error (yk,y2) from by rw [HDB.out,HHM.out.2];rfl]
   exact ⟨rfl,HE.out.st.bel⟩
  | ok k =>
   simp only [stK,stE] at HO
   have hk:k≤n:=hkz.1
   have hl:=HD.out.len.1
   have k01:=HO.out.st.cell 0 1 rfl rfl
   have k02:=HO.out.st.cell 0 2 rfl rfl
   by_cases hkn:k=n
   ·
    subst hkn
    clear hkz
    have hS:∀ b,b=w.heap.size→b<W0.heap.size:=fun b e=>by rw [e];exact HR0.out
    have ⟨k10,k11,k12,k13,k14,k15,k16,k17,k18,k19,k110,k111,k112⟩:=HO.out.st.cg13 1 rfl
    have ⟨k20,f20,k21,f21,k22,f22,k23,f23,k24,f24,k25,f25,k26,f26,k27,f27,k28,f28,k29,f29,k210,f210,k211,f211,k212,f212⟩:=HO.out.st.cf13 2 rfl
    have HE:=Lib.hid (((((((((((((HO.out.set 2 0 rfl rfl (fun _=>by simp) (.int .i64 x.verb)).set 2 1 rfl rfl (fun _=>by simp) (.int .i64 x.ses)).set 2 2 rfl rfl (fun _=>by simp) (.int .i64 x.rig)).set 2 3 rfl rfl (fun _=>by simp) (.string x.tk)).set 2 4 rfl rfl (fun _=>by simp) (.string x.ot)).set 2 5 rfl rfl (fun _=>by simp) (.int .i64 x.op)).set 2 6 rfl rfl (fun _=>by simp) (.int .i64 x.row)).set 2 7 rfl rfl (fun _=>by simp) (.int .i64 x.col)).set 2 8 rfl rfl (fun _=>by simp) (.int .i64 x.kind)).set 2 9 rfl rfl (fun _=>by simp) (.bool x.qs)).set 2 10 rfl rfl (fun _=>by simp) (.slice x.qa x.qn x.qc)).set 2 11 rfl rfl (fun _=>by simp) (.slice x.qb x.qm x.qd)).set 2 12 rfl rfl (fun _=>by simp) (.slice x.ea x.en x.ec))
    have HV:=Lib.hid (fun (u:VE) (hu:EvK (fun k=>k<W0.heap.size) w3 u)=>(show EvK (fun k=>k<W0.heap.size) (((((((((((((w3.setCell ⟨w.heap.size,0,none⟩ (.int .i64 x.verb)).setCell ⟨w.heap.size,1,none⟩ (.int .i64 x.ses)).setCell ⟨w.heap.size,2,none⟩ (.int .i64 x.rig)).setCell ⟨w.heap.size,3,none⟩ (.string x.tk)).setCell ⟨w.heap.size,4,none⟩ (.string x.ot)).setCell ⟨w.heap.size,5,none⟩ (.int .i64 x.op)).setCell ⟨w.heap.size,6,none⟩ (.int .i64 x.row)).setCell ⟨w.heap.size,7,none⟩ (.int .i64 x.col)).setCell ⟨w.heap.size,8,none⟩ (.int .i64 x.kind)).setCell ⟨w.heap.size,9,none⟩ (.bool x.qs)).setCell ⟨w.heap.size,10,none⟩ (.slice x.qa x.qn x.qc)).setCell ⟨w.heap.size,11,none⟩ (.slice x.qb x.qm x.qd)).setCell ⟨w.heap.size,12,none⟩ (.slice x.ea x.en x.ec)) u from (((((((((((((hu.keeps (Keeps.setCell _ ⟨w.heap.size,0,none⟩ _ (S:=fun b=>b=w.heap.size) rfl) hS).keeps (Keeps.setCell _ ⟨w.heap.size,1,none⟩ _ (S:=fun b=>b=w.heap.size) rfl) hS).keeps (Keeps.setCell _ ⟨w.heap.size,2,none⟩ _ (S:=fun b=>b=w.heap.size) rfl) hS).keeps (Keeps.setCell _ ⟨w.heap.size,3,none⟩ _ (S:=fun b=>b=w.heap.size) rfl) hS).keeps (Keeps.setCell _ ⟨w.heap.size,4,none⟩ _ (S:=fun b=>b=w.heap.size) rfl) hS).keeps (Keeps.setCell _ ⟨w.heap.size,5,none⟩ _ (S:=fun b=>b=w.heap.size) rfl) hS).keeps (Keeps.setCell _ ⟨w.heap.size,6,none⟩ _ (S:=fun b=>b=w.heap.size) rfl) hS).keeps (Keeps.setCell _ ⟨w.heap.size,7,none⟩ _ (S:=fun b=>b=w.heap.size) rfl) hS).keeps (Keeps.setCell _ ⟨w.heap.size,8,none⟩ _ (S:=fun b=>b=w.heap.size) rfl) hS).keeps (Keeps.setCell _ ⟨w.heap.size,9,none⟩ _ (S:=fun b=>b=w.heap.size) rfl) hS).keeps (Keeps.setCell _ ⟨w.heap.size,10,none⟩ _ (S:=fun b=>b=w.heap.size) rfl) hS).keeps (Keeps.setCell _ ⟨w.heap.size,11,none⟩ _ (S:=fun b=>b=w.heap.size) rfl) hS).keeps (Keeps.setCell _ ⟨w.heap.size,12,none⟩ _ (S:=fun b=>b=w.heap.size) rfl) hS)))
    go_wp2_with fail
    (try simp only [Exit.inBlock,Exit.then])
    refine bodyPost_ret (v:=.tuple #[.agg #[.int .i64 x.verb,.int .i64 x.ses,.int .i64 x.rig,.string x.tk,.string x.ot,.int .i64 x.op,.int .i64 x.row,.int .i64 x.col,.int .i64 x.kind,.bool x.qs,.slice x.qa x.qn x.qc,.slice x.qb x.qm x.qd,.slice x.ea x.en x.ec],.int .i64 0,.int .i64 0]) ?_ rfl ?_
    ·
     rw [results_cell_tmp2 rfl]
     have hbk:=(HE.out.st.at 2 rfl:_=some (Obj.cells #[.int .i64 x.verb,.int .i64 x.ses,.int .i64 x.rig,.string x.tk,.string x.ot,.int .i64 x.op,.int .i64 x.row,.int .i64 x.col,.int .i64 x.kind,.bool x.qs,.slice x.qa x.qn x.qc,.slice x.qb x.qm x.qd,.slice x.ea x.en x.ec] 63 (0,0)))
     generalize (((((((((((((w3.setCell ⟨w.heap.size,0,none⟩ (.int .i64 x.verb)).setCell ⟨w.heap.size,1,none⟩ (.int .i64 x.ses)).setCell ⟨w.heap.size,2,none⟩ (.int .i64 x.rig)).setCell ⟨w.heap.size,3,none⟩ (.string x.tk)).setCell ⟨w.heap.size,4,none⟩ (.string x.ot)).setCell ⟨w.heap.size,5,none⟩ (.int .i64 x.op)).setCell ⟨w.heap.size,6,none⟩ (.int .i64 x.row)).setCell ⟨w.heap.size,7,none⟩ (.int .i64 x.col)).setCell ⟨w.heap.size,8,none⟩ (.int .i64 x.kind)).setCell ⟨w.heap.size,9,none⟩ (.bool x.qs)).setCell ⟨w.heap.size,10,none⟩ (.slice x.qa x.qn x.qc)).setCell ⟨w.heap.size,11,none⟩ (.slice x.qb x.qm x.qd)).setCell ⟨w.heap.size,12,none⟩ (.slice x.ea x.en x.ec))=WE at hbk ⊢
     have hld:=Go.Lib.rl_loadVar_cells 63 _ hiR (fun _=>by kernel_rfl) (w.heap.size) 0 [.int .i64 x.verb,.int .i64 x.ses,.int .i64 x.rig,.string x.tk,.string x.ot,.int .i64 x.op,.int .i64 x.row,.int .i64 x.col,.int .i64 x.kind,.bool x.qs,.slice x.qa x.qn x.qc,.slice x.qb x.qm x.qd,.slice x.ea x.en x.ec] hzR.symm WE (fun k v hk=>by
      rw [Nat.zero_add]
      exact cell_of_block (j:=k) hbk (by simpa using hk))
     exact ret_of2 hld
    rw [show R=.ok mm from by rw [HDB.out,HHM.out.2,HHM.out.1,show rEnd data (.ok k)=none from if_pos hl]]
    obtain ⟨h1,h2,h3,h4⟩:=HEV.out ⟨k,rfl⟩
    exact ⟨x,rfl,⟨h3.imp_right fun h=>(HV.out x.fr h).ok,⟨h2,Sl.ofMid HE.out.mid⟩,fun u hu=>(HV.out u (h4 u hu)).ok⟩,h1,HE.out.st.bel⟩
   ·
    have e1:((k:Int) != (n:Int))=true:=bne_iff_ne.2 (by omega)
    have e2:(k != n)=true:=bne_iff_ne.2 hkn
    have f02:=HO.out.st.free 0 2 rfl
    clear hkz
    go_upto_region 18 with fail
    have HO2:=Lib.hid (HO.out.set 0 2 rfl rfl (fun _=>by simp) (.int .i64 270))
    clear k01 k02 f02 HO e1 e2
    have HO:=HO2
    generalize w3.setCell ⟨w.heap.size+1,2,none⟩ (.int .i64 270)=w4 at HO HO2 ⊢
    replace HO:=Lib.hid (HO.out.call (Below.refl _ _).drew)
    clear HO2
    refine wp_region_held_drew (S:=fun W=>W.cell? ⟨w.heap.size+1,1,none⟩=some (.int .i64 k)∧W.cell? ⟨w.heap.size+1,2,none⟩=some (.int .i64 270)) (by kernel_rfl) (⟨HO.out.st.cell 0 1 rfl rfl,HO.out.st.cell 0 2 rfl rfl⟩) (fun hHeld=>?_)
    generalize w4.drew=wd at HO hHeld ⊢
    refine tm 0 (some 64) ?_
    refine tm 1 (some 65) ?_
    refine tl 2 (some 66) ?_
    refine tm 3 (some 67) ?_
    refine tl 4 (some 68) ?_
    refine tm 5 (some 69) ?_
    refine tl 6 (some 70) ?_
    refine tm 7 (some 71) ?_
    refine tl 8 (some 72) ?_
    refine wpAnyH_ready (rs:=[9]) (by kernel_rfl) (by simp) ?_
    refine (AllReadyH.cons rfl (fun K hK=>?_) AllReadyH.nil)
    have ⟨k20,f20,k21,f21,k22,f22,k23,f23,k24,f24,k25,f25,k26,f26,k27,f27,k28,f28,k29,f29,k210,f210,k211,f211,k212,f212⟩:=HO.out.st.cf13 2 rfl
    go_simp
    clear k20 f20 k21 f21 k22 f22 k23 f23 k24 f24 k25 f25 k26 f26 k27 f27 k28 f28 k29 f29 k210 f210 k211 f211 k212 f212
    have HE:=Lib.hid (((((((((((((HO.out.set 2 0 rfl rfl (fun _=>by simp) (.int .i64 0)).set 2 1 rfl rfl (fun _=>by simp) (.int .i64 0)).set 2 2 rfl rfl (fun _=>by simp) (.int .i64 0)).set 2 3 rfl rfl (fun _=>by simp) (.string ⟨#[]⟩)).set 2 4 rfl rfl (fun _=>by simp) (.string ⟨#[]⟩)).set 2 5 rfl rfl (fun _=>by simp) (.int .i64 0)).set 2 6 rfl rfl (fun _=>by simp) (.int .i64 0)).set 2 7 rfl rfl (fun _=>by simp) (.int .i64 0)).set 2 8 rfl rfl (fun _=>by simp) (.int .i64 0)).set 2 9 rfl rfl (fun _=>by simp) (.bool false)).set 2 10 rfl rfl (fun _=>by simp) (.slice none 0 0)).set 2 11 rfl rfl (fun _=>by simp) (.slice none 0 0)).set 2 12 rfl rfl (fun _=>by simp) (.slice none 0 0))
    generalize (((((((((((((wd.setCell ⟨w.heap.size,0,none⟩ (.int .i64 0)).setCell ⟨w.heap.size,1,none⟩ (.int .i64 0)).setCell ⟨w.heap.size,2,none⟩ (.int .i64 0)).setCell ⟨w.heap.size,3,none⟩ (.string ⟨#[]⟩)).setCell ⟨w.heap.size,4,none⟩ (.string ⟨#[]⟩)).setCell ⟨w.heap.size,5,none⟩ (.int .i64 0)).setCell ⟨w.heap.size,6,none⟩ (.int .i64 0)).setCell ⟨w.heap.size,7,none⟩ (.int .i64 0)).setCell ⟨w.heap.size,8,none⟩ (.int .i64 0)).setCell ⟨w.heap.size,9,none⟩ (.bool false)).setCell ⟨w.heap.size,10,none⟩ (.slice none 0 0)).setCell ⟨w.heap.size,11,none⟩ (.slice none 0 0)).setCell ⟨w.heap.size,12,none⟩ (.slice none 0 0))=we at HE ⊢
    refine hK.out _ _ (⟨HE.out.st.cell 0 1 rfl rfl,HE.out.st.cell 0 2 rfl rfl⟩) (fun hHeld2=>?_)
    clear hK K hHeld
    rename _=>hHeld
    try simp only [Act.put,stB,stZ,stS]
    refine tm 10 (some 3) ?_
    refine tm 11 (some 4) ?_
    refine wpAnyH_done (by kernel_rfl) ?_ _
    clear hHeld
    go_wp2_with fail
    (try simp only [Exit.inBlock,Exit.then])
    refine bodyPost_ret (v:=.tuple #[.agg #[.int .i64 0,.int .i64 0,.int .i64 0,.string ⟨#[]⟩,.string ⟨#[]⟩,.int .i64 0,.int .i64 0,.int .i64 0,.int .i64 0,.bool false,.slice none 0 0,.slice none 0 0,.slice none 0 0],.int .i64 270,.int .i64 k]) ?_ rfl ?_
    ·
     rw [results_cell_tmp2 rfl]
     have hbk:=(HE.out.st.at 2 rfl:_=some (Obj.cells #[.int .i64 0,.int .i64 0,.int .i64 0,.string ⟨#[]⟩,.string ⟨#[]⟩,.int .i64 0,.int .i64 0,.int .i64 0,.int .i64 0,.bool false,.slice none 0 0,.slice none 0 0,.slice none 0 0] 63 (0,0)))
     generalize we=WE at hbk ⊢
     have hld:=Go.Lib.rl_loadVar_cells 63 _ hiR (fun _=>by kernel_rfl) (w.heap.size) 0 [.int .i64 0,.int .i64 0,.int .i64 0,.string ⟨#[]⟩,.string ⟨#[]⟩,.int .i64 0,.int .i64 0,.int .i64 0,.int .i64 0,.bool false,.slice none 0 0,.slice none 0 0,.slice none 0 0] hzR.symm WE (fun k v hk=>by
      rw [Nat.zero_add]
      exact cell_of_block (j:=k) hbk (by simpa using hk))
     exact ret_of2 hld
    rw [show R=.error (270,k) from by rw [HDB.out,HHM.out.2,show rEnd data (.ok k)=some (270,k) from if_neg (by omega)]]
    exact ⟨rfl,HE.out.st.bel⟩
theorem frac_none (s1 s2:Bool) (a b a8 b9:Option Addr) (l c k d n8 c8 d9:Nat) (w:World) (HF:Hid (∀ W,Below w.heap.size w W→Calls Tryz.prog 44 #[.agg #[.bool s1,.slice a l c,.slice b k d]] W (fun e w'=>e=.returned (.bool true)∧Below W.heap.size W w'))):Calls Tryz.prog 107 #[.agg #[.bool s1,.slice a l c,.slice b k d],.agg #[.bool s2,.slice a8 n8 c8,.slice b9 0 d9]] w (fun e w'=>e=.returned (.bool true)∧Below w.heap.size w w'):=by
 obtain ⟨W0,hW0⟩:∃ W0,W0=((w.alloc (.cells #[.bool s1,.slice a l c,.slice b k d] 45)).alloc (.cells #[.bool s2,.slice a8 n8 c8,.slice b9 0 d9] 60)):=⟨_,rfl⟩
 have hbs:BS w [⟨w.heap.size,45,[.bool s1,.slice a l c,.slice b k d]⟩,⟨w.heap.size+1,60,[.bool s2,.slice a8 n8 c8,.slice b9 0 d9]⟩] [] ((w.alloc (.cells #[.bool s1,.slice a l c,.slice b k d] 45)).alloc (.cells #[.bool s2,.slice a8 n8 c8,.slice b9 0 d9] 60)) :=
   (((BS.start w).alloc (p:=w.heap.size) rfl 45 [.bool s1,.slice a l c,.slice b k d] rfl).alloc (p:=w.heap.size+1) (by simp) 60 [.bool s2,.slice a8 n8 c8,.slice b9 0 d9] rfl)
 rw [← hW0] at hbs
 have HW0:=Lib.hid hW0
 have HN:=Lib.hid hbs
 clear hW0 hbs
 go_enter Tryz.func107,Tryz.ntmps107
 go_wp2_with fail
 rw [← HW0.out]
 refine (HF.out _ HN.out.bel).mono ?_
 rintro e w1 ⟨rfl,hb⟩
 replace HN:=Lib.hid (HN.out.call hb)
 clear hb 
 have ⟨k00,f00,k01,f01,k02,f02⟩:=HN.out.cf3 0 rfl
 have ⟨k10,f10,k11,f11,k12,f12⟩:=HN.out.cf3 1 rfl
 have HE:=Lib.hid (HN.out)
 go_wp2_with fail
 refine bodyPost_ret (v:=.bool true) (by simp [results,Tryz.results107,go_sem,k00,k01,k02,k10,k11,k12]) rfl ?_
 exact ⟨rfl,HE.out.bel⟩
theorem frac_some (s1 s2:Bool) (a b a8 b9:Option Addr) (l c k d n8 c8 m9 d9:Nat) (w:World) (hm:((m9:Int)==0)=false) (HF:Hid (∀ W,Below w.heap.size w W→Calls Tryz.prog 38 #[.agg #[.bool s1,.slice a l c,.slice b k d],.agg #[.bool s2,.slice a8 n8 c8,.slice b9 m9 d9]] W (fun e w'=>e=.returned (.bool true)∧Below W.heap.size W w'))):Calls Tryz.prog 107 #[.agg #[.bool s1,.slice a l c,.slice b k d],.agg #[.bool s2,.slice a8 n8 c8,.slice b9 m9 d9]] w (fun e w'=>e=.returned (.bool true)∧Below w.heap.size w w'):=by
 obtain ⟨W0,hW0⟩:∃ W0,W0=((w.alloc (.cells #[.bool s1,.slice a l c,.slice b k d] 45)).alloc (.cells #[.bool s2,.slice a8 n8 c8,.slice b9 m9 d9] 60)):=⟨_,rfl⟩
 have hbs:BS w [⟨w.heap.size,45,[.bool s1,.slice a l c,.slice b k d]⟩,⟨w.heap.size+1,60,[.bool s2,.slice a8 n8 c8,.slice b9 m9 d9]⟩] [] ((w.alloc (.cells #[.bool s1,.slice a l c,.slice b k d] 45)).alloc (.cells #[.bool s2,.slice a8 n8 c8,.slice b9 m9 d9] 60)) :=
   (((BS.start w).alloc (p:=w.heap.size) rfl 45 [.bool s1,.slice a l c,.slice b k d] rfl).alloc (p:=w.heap.size+1) (by simp) 60 [.bool s2,.slice a8 n8 c8,.slice b9 m9 d9] rfl)
 rw [← hW0] at hbs
 have HW0:=Lib.hid hW0
 have HN:=Lib.hid hbs
 clear hW0 hbs
 go_enter Tryz.func107,Tryz.ntmps107
 go_wp2_with fail
 rw [← HW0.out]
 refine (HF.out _ HN.out.bel).mono ?_
 rintro e w1 ⟨rfl,hb⟩
 replace HN:=Lib.hid (HN.out.call hb)
 clear hb 
 have ⟨k00,f00,k01,f01,k02,f02⟩:=HN.out.cf3 0 rfl
 have ⟨k10,f10,k11,f11,k12,f12⟩:=HN.out.cf3 1 rfl
 have HE:=Lib.hid (HN.out)
 go_wp2_with fail
 refine bodyPost_ret (v:=.bool true) (by simp [results,Tryz.results107,go_sem,k00,k01,k02,k10,k11,k12]) rfl ?_
 exact ⟨rfl,HE.out.bel⟩
theorem f27frac (r:Rv) (v:VE) (w:World) (h:r.ok w) (hq:r.q=v.q) (hv:(v.m=0∧v.q=0)∨(VP.rat v.q v.s v.a v.n v.c v.b v.m v.d).ok w) :
  Calls Tryz.prog 107 #[.agg #[.bool r.s,.slice r.a r.l r.c,.slice r.b r.m r.d],.agg #[.bool v.s,.slice v.a v.n v.c,.slice v.b v.m v.d]] w (fun e w'=>e=.returned (.bool true)∧Below w.heap.size w w'):=by
 obtain ⟨hs,hl,hm,n1,n2⟩:=h
 rcases hv with ⟨h0,h1⟩ | ⟨e1,hw,b1,b2⟩
 ·
  rw [h0]
  refine frac_none r.s v.s r.a r.b v.a v.b r.l r.c r.m r.d v.n v.c v.d w (Lib.hid fun W hb=>?_)
  have hz:=rzero_any r.a r.b r.c r.d r.m r.q W
  rw [← hs,← hl,show decide (r.q=0)=true from decide_eq_true (hq.trans h1)] at hz
  exact hz
 ·
  have h3:v.m≠0:=fun h0=>by
   have h4:=hw.den.1
   rw [h0] at h4
   exact absurd (nd_eq0.1 h4.symm) (Rat.den_nz _)
  refine frac_some r.s v.s r.a r.b v.a v.b r.l r.c r.m r.d v.n v.c v.m v.d w (beq_eq_false_iff_ne.2 (by omega)) (Lib.hid fun W hb=>?_)
  have l1:=(lenW_nd v.q.num.natAbs).2
  have l2:=(lenW_nd v.q.den).2
  have e2:=hw.num.1
  have e3:=hw.den.1
  rw [hq] at hs hl hm n1 n2
  have hz:=like8_any v.q r.a r.b r.c r.d v.a v.b v.n v.c v.m v.d W (n1.below hb) (n2.below hb) (hw.below hb) (by omega) (by omega)
  unfold ratV at hz
  rw [← hs,← hl,← hm] at hz
  rw [← hs] at e1
  rw [e1]
  exact hz
theorem like_walk27 (vb ses rig op row col kd:Int) (tq ot:ByteArray) (s1 s2:Bool) (a b a8 b9:Option Addr) (l c k d n8 c8 m9 d9:Nat) (ea fa:Option Addr) (en ec fc:Nat) (w:World) (hen:en≤ec∧ec≤9223372036854775807) (hen2:en≤fc∧fc≤9223372036854775807)
  (HF:Hid (∀ W,Below w.heap.size w W→Calls Tryz.prog 107 #[.agg #[.bool s1,.slice a l c,.slice b k d],.agg #[.bool s2,.slice a8 n8 c8,.slice b9 m9 d9]] W (fun e w'=>e=.returned (.bool true)∧Below W.heap.size W w')))
  (HE:Hid (∀ j,j<en→∃ (id:Int) (u1 u2:Bool) (g1 h1 g2 h2:Option Addr) (x1 y1 z1 t1 x2 y2 z2 t2 eb eo fb fo:Nat),ea=some ⟨eb,eo,none⟩∧fa=some ⟨fb,fo,none⟩∧(∀ W,Below w.heap.size w W→W.cell? ⟨eb,eo+j*4,none⟩=some (.int .i64 id)∧W.cell? ⟨eb,eo+j*4+1,none⟩=some (.bool u1)∧W.cell? ⟨eb,eo+j*4+2,none⟩=some (.slice g1 x1 y1)∧W.cell? ⟨eb,eo+j*4+3,none⟩=some (.slice h1 z1 t1)∧W.cell? ⟨fb,fo+j*4,none⟩=some (.int .i64 id)∧W.cell? ⟨fb,fo+j*4+1,none⟩=some (.bool u2)∧W.cell? ⟨fb,fo+j*4+2,none⟩=some (.slice g2 x2 y2)∧W.cell? ⟨fb,fo+j*4+3,none⟩=some (.slice h2 z2 t2))∧∀ W,Below w.heap.size w W→Calls Tryz.prog 107 #[.agg #[.bool u1,.slice g1 x1 y1,.slice h1 z1 t1],.agg #[.bool u2,.slice g2 x2 y2,.slice h2 z2 t2]] W (fun e w'=>e=.returned (.bool true)∧Below W.heap.size W w'))) :
  Calls Tryz.prog 42 #[.agg #[.int .i64 vb,.string tq,.int .i64 ses,.int .i64 rig,.string ot,.int .i64 op,.int .i64 row,.int .i64 col,.int .i64 kd,.bool s1,.slice a l c,.slice b k d,.slice ea en ec],.agg #[.int .i64 vb,.int .i64 ses,.int .i64 rig,.string tq,.string ot,.int .i64 op,.int .i64 row,.int .i64 col,.int .i64 kd,.bool s2,.slice a8 n8 c8,.slice b9 m9 d9,.slice fa en fc]] w (fun e w'=>e=.returned (.bool true)∧Below w.heap.size w w'):=by
 obtain ⟨hc1,hc2⟩:=hen
 obtain ⟨hc3,hc4⟩:=hen2
 obtain ⟨W0,hW0⟩:∃ W0,W0=((w.alloc (.cells #[.int .i64 vb,.string tq,.int .i64 ses,.int .i64 rig,.string ot,.int .i64 op,.int .i64 row,.int .i64 col,.int .i64 kd,.bool s1,.slice a l c,.slice b k d,.slice ea en ec] 50)).alloc (.cells #[.int .i64 vb,.int .i64 ses,.int .i64 rig,.string tq,.string ot,.int .i64 op,.int .i64 row,.int .i64 col,.int .i64 kd,.bool s2,.slice a8 n8 c8,.slice b9 m9 d9,.slice fa en fc] 63)):=⟨_,rfl⟩
 have hbs:BS w [⟨w.heap.size,50,[.int .i64 vb,.string tq,.int .i64 ses,.int .i64 rig,.string ot,.int .i64 op,.int .i64 row,.int .i64 col,.int .i64 kd,.bool s1,.slice a l c,.slice b k d,.slice ea en ec]⟩,⟨w.heap.size+1,63,[.int .i64 vb,.int .i64 ses,.int .i64 rig,.string tq,.string ot,.int .i64 op,.int .i64 row,.int .i64 col,.int .i64 kd,.bool s2,.slice a8 n8 c8,.slice b9 m9 d9,.slice fa en fc]⟩] [] ((w.alloc (.cells #[.int .i64 vb,.string tq,.int .i64 ses,.int .i64 rig,.string ot,.int .i64 op,.int .i64 row,.int .i64 col,.int .i64 kd,.bool s1,.slice a l c,.slice b k d,.slice ea en ec] 50)).alloc (.cells #[.int .i64 vb,.int .i64 ses,.int .i64 rig,.string tq,.string ot,.int .i64 op,.int .i64 row,.int .i64 col,.int .i64 kd,.bool s2,.slice a8 n8 c8,.slice b9 m9 d9,.slice fa en fc] 63)) :=
   (((BS.start w).alloc (p:=w.heap.size) rfl 50 [.int .i64 vb,.string tq,.int .i64 ses,.int .i64 rig,.string ot,.int .i64 op,.int .i64 row,.int .i64 col,.int .i64 kd,.bool s1,.slice a l c,.slice b k d,.slice ea en ec] rfl).alloc (p:=w.heap.size+1) (by simp) 63 [.int .i64 vb,.int .i64 ses,.int .i64 rig,.string tq,.string ot,.int .i64 op,.int .i64 row,.int .i64 col,.int .i64 kd,.bool s2,.slice a8 n8 c8,.slice b9 m9 d9,.slice fa en fc] rfl)
 rw [← hW0] at hbs
 have HW0:=Lib.hid hW0
 have HN:=Lib.hid hbs
 clear hW0 hbs
 go_enter Tryz.func42,Tryz.ntmps42
 go_wp2_with fail
 rw [← HW0.out]
 refine (HF.out _ HN.out.bel).mono ?_
 rintro e w1 ⟨rfl,hb⟩
 replace HN:=Lib.hid (HN.out.call hb)
 clear hb 
 have ⟨k00,f00,k01,f01,k02,f02,k03,f03,k04,f04,k05,f05,k06,f06,k07,f07,k08,f08,k09,f09,k010,f010,k011,f011,k012,f012⟩:=HN.out.cf13 0 rfl
 have ⟨k10,f10,k11,f11,k12,f12,k13,f13,k14,f14,k15,f15,k16,f16,k17,f17,k18,f18,k19,f19,k110,f110,k111,f111,k112,f112⟩:=HN.out.cf13 1 rfl
 go_upto_region 4 with fail
 clear k00 f00 k01 f01 k02 f02 k03 f03 k04 f04 k05 f05 k06 f06 k07 f07 k08 f08 k09 f09 k010 f010 k011 f011 k012 f012 k10 f10 k11 f11 k12 f12 k13 f13 k14 f14 k15 f15 k16 f16 k17 f17 k18 f18 k19 f19 k110 f110 k111 f111 k112 f112
 go_loopw [5] (fun v5 wr=>∃ j:Nat,j≤en∧v5=.int .i64 j∧BS w [⟨w.heap.size,50,[.int .i64 vb,.string tq,.int .i64 ses,.int .i64 rig,.string ot,.int .i64 op,.int .i64 row,.int .i64 col,.int .i64 kd,.bool s1,.slice a l c,.slice b k d,.slice ea en ec]⟩,⟨w.heap.size+1,63,[.int .i64 vb,.int .i64 ses,.int .i64 rig,.string tq,.string ot,.int .i64 op,.int .i64 row,.int .i64 col,.int .i64 kd,.bool s2,.slice a8 n8 c8,.slice b9 m9 d9,.slice fa en fc]⟩] [] wr) (fun v5 _=>en - (intOf v5).toNat)
 case atStart=>exact ⟨0,Nat.zero_le _,rfl,HN.out⟩
 case round =>
  obtain ⟨j,hj,rfl,hn0⟩:=hrel
  replace HN:=Lib.hid hn0
  clear hn0
  have k112:=HN.out.cell 1 12 rfl rfl
  by_cases hlt:j<en
  ·
   obtain ⟨id,u1,u2,g1,h1,g2,h2,x1,y1,z1,t1,x2,y2,z2,t2,eb,eo,fb,fo,hea,hfa,hc,hf⟩:=HE.out j hlt
   have HFJ:=Lib.hid hf
   have HCJ:=Lib.hid hc
   clear hf hc
   go_upto_region 6 with fail
   clear k112
   rw [hea,hfa] at HN
   have HEA:=Lib.hid (And.intro hea hfa)
   clear hea hfa
   replace HN:=Lib.hid HN.out.drew
   refine wp_region_held_drew (S:=fun W=>W.cell? ⟨w.heap.size,12,none⟩=some (.slice (some ⟨eb,eo,none⟩) en ec)∧W.cell? ⟨w.heap.size+1,12,none⟩=some (.slice (some ⟨fb,fo,none⟩) en fc)∧W.cell? ⟨eb,eo+j*4,none⟩=some (.int .i64 id)∧W.cell? ⟨eb,eo+j*4+1,none⟩=some (.bool u1)∧W.cell? ⟨eb,eo+j*4+2,none⟩=some (.slice g1 x1 y1)∧W.cell? ⟨eb,eo+j*4+3,none⟩=some (.slice h1 z1 t1)∧W.cell? ⟨fb,fo+j*4,none⟩=some (.int .i64 id)∧W.cell? ⟨fb,fo+j*4+1,none⟩=some (.bool u2)∧W.cell? ⟨fb,fo+j*4+2,none⟩=some (.slice g2 x2 y2)∧W.cell? ⟨fb,fo+j*4+3,none⟩=some (.slice h2 z2 t2)) (by kernel_rfl) (⟨HN.out.cell 0 12 rfl rfl,HN.out.cell 1 12 rfl rfl,(HCJ.out _ HN.out.bel).1,(HCJ.out _ HN.out.bel).2.1,(HCJ.out _ HN.out.bel).2.2.1,(HCJ.out _ HN.out.bel).2.2.2.1,(HCJ.out _ HN.out.bel).2.2.2.2.1,(HCJ.out _ HN.out.bel).2.2.2.2.2.1,(HCJ.out _ HN.out.bel).2.2.2.2.2.2.1,(HCJ.out _ HN.out.bel).2.2.2.2.2.2.2⟩) (fun hHeld=>?_)
   generalize wr.drew=wd at HN hHeld ⊢
   refine tm 0 (some 97) ?_
   refine tm 1 (some 98) ?_
   refine tl 2 (some 99) ?_
   refine tm 3 (some 100) ?_
   refine tl 4 (some 101) ?_
   refine tm 5 (some 102) ?_
   refine tl 6 (some 103) ?_
   refine tm 7 (some 104) ?_
   refine tl 8 (some 105) ?_
   refine tm 9 (some 106) ?_
   refine tl 10 (some 107) ?_
   refine tm 11 (some 108) ?_
   refine tl 12 (some 109) ?_
   refine tm 13 (some 110) ?_
   refine tm 14 (some 111) ?_
   refine tm 15 (some 112) ?_
   refine tm 16 (some 113) ?_
   refine tl 17 (some 114) ?_
   refine tm 18 (some 115) ?_
   refine tl 19 (some 116) ?_
   refine tm 20 (some 117) ?_
   refine tl 21 (some 118) ?_
   refine tm 22 (some 119) ?_
   refine tl 23 (some 120) ?_
   refine tm 24 (some 121) ?_
   refine tl 25 (some 122) ?_
   refine tm 26 (some 123) ?_
   refine tl 27 (some 124) ?_
   have tg:=Mk.mk (v:=0) (d:=0)
   iterate 1
    all_goals first
    |
     have _:Mk _ 0:=tg
     refine wpAnyH_ready (rs:=[28]) (by kernel_rfl) (by simp) (AllReadyH.cons rfl (fun K hK=>cT 0 1 fun tg=>?_) AllReadyH.nil)
    all_goals first
    |
     have _:Mk 0 _:=tg
     go_simp
     refine (HFJ.out _ HN.out.bel).mono ?_
     rintro e wd ⟨rfl,hb⟩
     replace HN:=Lib.hid (HN.out.call hb)
     clear hb 
     go_wp2_with fail
     refine hK.out _ _ (⟨HN.out.cell 0 12 rfl rfl,HN.out.cell 1 12 rfl rfl,(HCJ.out _ HN.out.bel).1,(HCJ.out _ HN.out.bel).2.1,(HCJ.out _ HN.out.bel).2.2.1,(HCJ.out _ HN.out.bel).2.2.2.1,(HCJ.out _ HN.out.bel).2.2.2.2.1,(HCJ.out _ HN.out.bel).2.2.2.2.2.1,(HCJ.out _ HN.out.bel).2.2.2.2.2.2.1,(HCJ.out _ HN.out.bel).2.2.2.2.2.2.2⟩) (fun hHeld2=>?_)
     clear hK K hHeld
     rename _=>hHeld
     try simp only [Act.put,stB,stZ,stS]
     refine tm 29 (some 126) ?_
     refine tm 30 (some 127) ?_
   all_goals (refine wpAnyH_done (by kernel_rfl) ?_ _)
   all_goals
    clear hHeld
    go_wp2_with fail
    go_roundw
    case rel=>exact ⟨j+1,by omega,by go_num,by rw [HEA.out.1,HEA.out.2];exact HN.out⟩
    case measure=>simp [intOf];omega
  ·
   obtain rfl:j=en:=by omega
   go_wp2_with fail
   go_ret
   exact ⟨rfl,HN.out.bel⟩
theorem f27like (x:MsgV) (y:RefM) (w:World) (hx:x.ok w) (hy:y.dok w) (hm:x.msg=y.msg):Calls Tryz.prog 42 #[x.val,.agg y.cells.toArray] w (fun e w'=>e=.returned (.bool true)∧Below w.heap.size w w'):=by
 have q1:x.verb=y.verb:=congrArg Msg.verb hm
 have q2:x.tk=y.tk:=by
  have h:=congrArg (fun m=>strB (Msg.token m)) hm
  simpa only [MsgV.msg,RefM.msg,strB_natB] using h
 have q3:x.ses=y.ses:=congrArg Msg.session hm
 have q4:x.rig=y.rig:=congrArg Msg.rights hm
 have q5:x.ot=y.ot:=by
  have h:=congrArg (fun m=>strB (Msg.other m)) hm
  simpa only [MsgV.msg,RefM.msg,strB_natB] using h
 have q6:x.op=y.op:=congrArg (fun m=>(Msg.ask m).op) hm
 have q7:x.row=y.row:=congrArg (fun m=>(Msg.ask m).row) hm
 have q8:x.col=y.col:=congrArg (fun m=>(Msg.ask m).col) hm
 have q9:x.kind=y.kind:=congrArg (fun m=>(Msg.ask m).kind) hm
 have qv:x.r.q=y.q:=congrArg (fun m=>(Msg.ask m).v) hm
 have qe:x.es.map EntV.ent=y.vs.map VE.ent:=congrArg (fun m=>(Msg.ask m).es) hm
 have l1:=hx.es.len
 have l2:=hy.es.len
 have ql:x.en=y.en:=by
  have h:=congrArg List.length qe
  rw [List.length_map,List.length_map] at h
  omega
 obtain ⟨a',c',e,h1,h2,h3⟩:=Sl.len hx.es.sl
 cases e
 have hc:=hy.es.cap
 have hr:=Lib.hid fun (W:World) (hb:Below w.heap.size w W)=>f27frac x.r y.fr W (hx.r.below hb) qv (hy.v.imp_right fun h=>VP.ok.below h hb)
 have HS:=Lib.hid (fun (j:Nat) (hj:j<x.en)=>(by
  obtain ⟨u,eb,eo,hu,ha,hlt,_,c0,c1,c2,c3,hok,_⟩:=hx.es.get j hj
  obtain ⟨v,fb,fo,hv,hfa,hlt2,d0,d1,d2,d3⟩:=hy.es.get j (by omega)
  have huv:EntV.ent u=VE.ent v:=by
   have h:=congrArg (fun l=>l[j]?) qe
   simp only [List.getElem?_map,hu,hv,Option.map_some] at h
   injection h
  have hid:u.id=v.id:=congrArg Ent.id huv
  rw [← hid] at d0
  have cb:=fun (W:World) (hb:Below w.heap.size w W) (p:Addr) (k:Value) (hl:p.block<w.heap.size) (hp:w.cell? p=some k)=>(hb.cell (p:=p) hl).trans hp
  exact ⟨u.id,u.r.s,v.s,u.r.a,u.r.b,v.a,v.b,u.r.l,u.r.c,u.r.m,u.r.d,v.n,v.c,v.m,v.d,eb,eo,fb,fo,ha,hfa,fun W hb=>⟨cb W hb _ _ hlt c0,cb W hb _ _ hlt c1,cb W hb _ _ hlt c2,cb W hb _ _ hlt c3,cb W hb _ _ hlt2 d0,cb W hb _ _ hlt2 d1,cb W hb _ _ hlt2 d2,cb W hb _ _ hlt2 d3⟩,
   fun W hb=>f27frac u.r v W (hok.below hb) (congrArg Ent.v huv) (.inr (VP.ok.below (hy.ev v (List.mem_of_getElem? hv)) hb))⟩:∃ (id:Int) (u1 u2:Bool) (g1 h1 g2 h2:Option Addr) (x1 y1 z1 t1 x2 y2 z2 t2 eb eo fb fo:Nat),x.ea=some ⟨eb,eo,none⟩∧y.ea=some ⟨fb,fo,none⟩∧(∀ W,Below w.heap.size w W→W.cell? ⟨eb,eo+j*4,none⟩=some (.int .i64 id)∧W.cell? ⟨eb,eo+j*4+1,none⟩=some (.bool u1)∧W.cell? ⟨eb,eo+j*4+2,none⟩=some (.slice g1 x1 y1)∧W.cell? ⟨eb,eo+j*4+3,none⟩=some (.slice h1 z1 t1)∧W.cell? ⟨fb,fo+j*4,none⟩=some (.int .i64 id)∧W.cell? ⟨fb,fo+j*4+1,none⟩=some (.bool u2)∧W.cell? ⟨fb,fo+j*4+2,none⟩=some (.slice g2 x2 y2)∧W.cell? ⟨fb,fo+j*4+3,none⟩=some (.slice h2 z2 t2))∧∀ W,Below w.heap.size w W→Calls Tryz.prog 107 #[.agg #[.bool u1,.slice g1 x1 y1,.slice h1 z1 t1],.agg #[.bool u2,.slice g2 x2 y2,.slice h2 z2 t2]] W (fun e w'=>e=.returned (.bool true)∧Below W.heap.size W w')))
 have hw:=like_walk27 x.verb x.ses x.rig x.op x.row x.col x.kind x.tk x.ot x.r.s y.qs x.r.a x.r.b y.qa y.qb x.r.l x.r.c x.r.m x.r.d y.qn y.qc y.qm y.qd x.ea y.ea x.en x.ec y.ec w ⟨h1,by unfold maxLen at h2;omega⟩ (by rw [ql];exact hc) hr HS
 unfold MsgV.val RefM.cells
 rw [← q1,← q2,← q3,← q4,← q5,← q6,← q7,← q8,← q9,← ql]
 exact hw
end Go.Proofs.YtmhainidincjhaaGreatDoor
