/-
 What the laws stand on, part Q: contracts and plain laws of RDec; the conditions are each law's own.
-/
import Derived.Test.YtmhainidincjhaaGreatDoorAK
import Derived.Test.YtmhainidincjhaaGreatDoorAT
import Derived.Test.YtmhainidincjhaaGreatDoorAS
import Derived.Test.YtmhainidincjhaaGreatDoorAR
set_option linter.unusedVariables false
set_option linter.unusedSimpArgs false
set_option maxRecDepth 100000
set_option maxHeartbeats 16000000
namespace Go.Proofs.YtmhainidincjhaaGreatDoor
open Go.RowKit Go.Extern.Stop Go.Stop Go.Extern
theorem Tryz.infoM:(Tryz.prog.info? 50).map (fun i=>(i.zero,i.size,i.bytes))=some (some (.agg #[.int .i64 0,.string ⟨#[]⟩,.int .i64 0,.int .i64 0,.string ⟨#[]⟩,.int .i64 0,.int .i64 0,.int .i64 0,.int .i64 0,.bool false,.slice none 0 0,.slice none 0 0,.slice none 0 0]),13,168):=by kernel_rfl
theorem strB_len (l:List Nat):(strB l).size=l.length:=by unfold strB;simp [ByteArray.size]
theorem results_cell_tmp {fn:Func} {p u:Tmp} {ty:TypeId} (h:fn.results=#[.cell p ty,.tmp u]) (tmps:Array Value) (P:Program) (w:World) :
  (results fn tmps).run P w =
   ((asAddr (tmps.getD p undef)).run P w).andThen fun a w1=>((loadVar ty a).run P w1).andThen fun x w2=>.ok (.tuple #[x,tmps.getD u undef]) w2:=by
 simp only [results,h]
 simp [Sem.run_bind,Result.andThen]
theorem ret_of {P:Program} {T:TypeId} {p:Nat} {v u:Value} {W:World} (h:(loadVar T ⟨p,0,none⟩).run P W=.ok v W) :
  ((asAddr (.pointer (some ⟨p,0,none⟩))).run P W).andThen (fun a w1=>((loadVar T a).run P w1).andThen fun x w2=>(.ok (Value.tuple #[x,u]) w2:Result Value))=.ok (Value.tuple #[v,u]) W:=by
 show ((loadVar T ⟨p,0,none⟩).run P W).andThen (fun x w2=>(.ok (Value.tuple #[x,u]) w2:Result Value))=_
 rw [h];rfl
def RetMD (r:Except (Int × Nat) Msg) (w:World) (e:Ending) (w':World):Prop:=match r with
 | .error x=>∃ v,e=.returned (.tuple #[.agg #[.int .i64 0,.string ⟨#[]⟩,.int .i64 0,.int .i64 0,.string ⟨#[]⟩,.int .i64 0,.int .i64 0,.int .i64 0,.int .i64 0,.bool false,.slice none 0 0,.slice none 0 0,.slice none 0 0],v])∧ErrB w' (fun _=>True) v x.1 x.2∧Below w.heap.size w w'
 | .ok m=>∃ x:MsgV,e=.returned (.tuple #[x.val,.nilIface])∧x.ok w'∧x.msg=m∧Below w.heap.size w w'
def TailM (w:World) (a:Option Addr) (n c:Nat) (m:Msg) (st:RS) (wx:World):Prop:=∃ (x:MsgV) (ex:List Bk) (ns:List Nm),RdW w (⟨w.heap.size,50,[.int .i64 0,.string ⟨#[]⟩,.int .i64 0,.int .i64 0,.string ⟨#[]⟩,.int .i64 0,.int .i64 0,.int .i64 0,.int .i64 0,.bool false,.slice none 0 0,.slice none 0 0,.slice none 0 0]⟩::⟨w.heap.size+1+1,50,x.cells⟩::ex) ns (w.heap.size+1) a n c st wx∧x.msg=m∧∀ (bs2:List Bk) (W':World),BS w (bs2++ex) ns W'→x.ok W'
theorem mdec_any (a:Option Addr) (n c:Nat) (data:List Nat) (w:World) (hd:BytesN w (.slice a n c) data) (h8:∀ x,x∈data→x<256) (hn:n≤1099511627776) :
  Calls Tryz.prog 24 #[.slice a n c] w (RetMD (decM data) w):=by
 obtain ⟨iR,hiR,_,hzR,_⟩:=info_parts Tryz.infoM
 have hdm:decM data=match rEndS data (rMsgBody data (rPick data 1 5 (.ok 0)).1 (rTok data (rPick data 1 5 (.ok 0)).2).1 (rTok data (rPick data 1 5 (.ok 0)).2).2).2 with
  | .error x=>.error x
  | .ok _=>.ok (rMsgBody data (rPick data 1 5 (.ok 0)).1 (rTok data (rPick data 1 5 (.ok 0)).2).1 (rTok data (rPick data 1 5 (.ok 0)).2).2).1:=by
  unfold decM
  rw [rEnd_S]
  unfold rMsg
  cases rEndS data (rMsgBody data (rPick data 1 5 (.ok 0)).1 (rTok data (rPick data 1 5 (.ok 0)).2).1 (rTok data (rPick data 1 5 (.ok 0)).2).2).2 <;> rfl
 obtain ⟨res,hres⟩:∃ res,decM data=res:=⟨_,rfl⟩
 rw [hres] at hdm ⊢
 clear hres
 revert hdm
 have hP:=fun (bs:List Bk) (ns:List Nm) (W:World) (h:RdW w bs ns (w.heap.size+1) a n c (.ok 0) W)=>rpick_any 1 5 data (.ok 0) W h hd h8 hn
 generalize (rPick data 1 5 (.ok 0)).1=verb at hP ⊢
 generalize (rPick data 1 5 (.ok 0)).2=st1 at hP ⊢
 have hT:=fun (bs:List Bk) (ns:List Nm) (W:World) (h:RdW w bs ns (w.heap.size+1) a n c st1 W)=>rtok_any data st1 W h hd hn
 have htl:(rTok data st1).1.length=8:=rNext_len data 8 st1
 have htb:∀ x,x∈(rTok data st1).1→x<256:=rNext_lt h8 8 st1
 generalize (rTok data st1).1=tk at hT htl htb ⊢
 generalize (rTok data st1).2=st2 at hT ⊢
 intro hdm
 have HDM:=Lib.hid hdm
 clear hdm
 have HP:=Lib.hid hP
 have HT:=Lib.hid hT
 have HD:=Lib.hid hd
 have H8:=Lib.hid h8
 have HTK:=Lib.hid (And.intro htl htb)
 clear hd h8 hP hT htl htb
 obtain ⟨W0,hW0⟩:∃ W0,W0=(((w.alloc (.cells #[.int .i64 0,.string ⟨#[]⟩,.int .i64 0,.int .i64 0,.string ⟨#[]⟩,.int .i64 0,.int .i64 0,.int .i64 0,.int .i64 0,.bool false,.slice none 0 0,.slice none 0 0,.slice none 0 0] 50)).alloc (.cells #[.slice a n c,.int .i64 0,.nilIface] 158)).alloc (.cells #[.int .i64 0,.string ⟨#[]⟩,.int .i64 0,.int .i64 0,.string ⟨#[]⟩,.int .i64 0,.int .i64 0,.int .i64 0,.int .i64 0,.bool false,.slice none 0 0,.slice none 0 0,.slice none 0 0] 50)):=⟨_,rfl⟩
 have hb0:BS w [⟨w.heap.size,50,[.int .i64 0,.string ⟨#[]⟩,.int .i64 0,.int .i64 0,.string ⟨#[]⟩,.int .i64 0,.int .i64 0,.int .i64 0,.int .i64 0,.bool false,.slice none 0 0,.slice none 0 0,.slice none 0 0]⟩,⟨w.heap.size+1,158,[.slice a n c,.int .i64 0,.nilIface]⟩,⟨w.heap.size+1+1,50,[.int .i64 0,.string ⟨#[]⟩,.int .i64 0,.int .i64 0,.string ⟨#[]⟩,.int .i64 0,.int .i64 0,.int .i64 0,.int .i64 0,.bool false,.slice none 0 0,.slice none 0 0,.slice none 0 0]⟩] [] (((w.alloc (.cells #[.int .i64 0,.string ⟨#[]⟩,.int .i64 0,.int .i64 0,.string ⟨#[]⟩,.int .i64 0,.int .i64 0,.int .i64 0,.int .i64 0,.bool false,.slice none 0 0,.slice none 0 0,.slice none 0 0] 50)).alloc (.cells #[.slice a n c,.int .i64 0,.nilIface] 158)).alloc (.cells #[.int .i64 0,.string ⟨#[]⟩,.int .i64 0,.int .i64 0,.string ⟨#[]⟩,.int .i64 0,.int .i64 0,.int .i64 0,.int .i64 0,.bool false,.slice none 0 0,.slice none 0 0,.slice none 0 0] 50)):=(((BS.start w).alloc (p:=w.heap.size) rfl 50 [.int .i64 0,.string ⟨#[]⟩,.int .i64 0,.int .i64 0,.string ⟨#[]⟩,.int .i64 0,.int .i64 0,.int .i64 0,.int .i64 0,.bool false,.slice none 0 0,.slice none 0 0,.slice none 0 0] rfl).alloc (p:=w.heap.size+1) (by simp) 158 [.slice a n c,.int .i64 0,.nilIface] rfl).alloc (p:=w.heap.size+1+1) (by simp) 50 [.int .i64 0,.string ⟨#[]⟩,.int .i64 0,.int .i64 0,.string ⟨#[]⟩,.int .i64 0,.int .i64 0,.int .i64 0,.int .i64 0,.bool false,.slice none 0 0,.slice none 0 0,.slice none 0 0] rfl
 have hn0:RdW w (⟨w.heap.size,50,[.int .i64 0,.string ⟨#[]⟩,.int .i64 0,.int .i64 0,.string ⟨#[]⟩,.int .i64 0,.int .i64 0,.int .i64 0,.int .i64 0,.bool false,.slice none 0 0,.slice none 0 0,.slice none 0 0]⟩::⟨w.heap.size+1+1,50,[.int .i64 0,.string ⟨#[]⟩,.int .i64 0,.int .i64 0,.string ⟨#[]⟩,.int .i64 0,.int .i64 0,.int .i64 0,.int .i64 0,.bool false,.slice none 0 0,.slice none 0 0,.slice none 0 0]⟩::[]) [] (w.heap.size+1) a n c (.ok 0) (((w.alloc (.cells #[.int .i64 0,.string ⟨#[]⟩,.int .i64 0,.int .i64 0,.string ⟨#[]⟩,.int .i64 0,.int .i64 0,.int .i64 0,.int .i64 0,.bool false,.slice none 0 0,.slice none 0 0,.slice none 0 0] 50)).alloc (.cells #[.slice a n c,.int .i64 0,.nilIface] 158)).alloc (.cells #[.int .i64 0,.string ⟨#[]⟩,.int .i64 0,.int .i64 0,.string ⟨#[]⟩,.int .i64 0,.int .i64 0,.int .i64 0,.int .i64 0,.bool false,.slice none 0 0,.slice none 0 0,.slice none 0 0] 50)):=⟨0,.nilIface,hb0.front 1 rfl,⟨rfl,rfl,Nat.zero_le _⟩,Nat.zero_le _⟩
 rw [← hW0] at hn0
 have HW0:=Lib.hid hW0
 have HN:=Lib.hid hn0
 clear hW0 hn0 hb0
 go_enter Tryz.func24,Tryz.ntmps24
 go_upto_region 3 with fail
 rw [← HW0.out]
 go_wp2_with fail
 refine (HP.out _ _ W0 HN.out).mono ?_
 rintro e w1 ⟨rfl,hq⟩
 replace HN:=Lib.hid hq
 clear hq
 have k10:=HN.out.cell 1 0 rfl rfl
 have f10:=HN.out.free 1 0 rfl
 go_wp2_with fail
 replace HN:=Lib.hid (show RdW w (⟨w.heap.size,50,[.int .i64 0,.string ⟨#[]⟩,.int .i64 0,.int .i64 0,.string ⟨#[]⟩,.int .i64 0,.int .i64 0,.int .i64 0,.int .i64 0,.bool false,.slice none 0 0,.slice none 0 0,.slice none 0 0]⟩::⟨w.heap.size+1+1,50,[.int .i64 verb,.string ⟨#[]⟩,.int .i64 0,.int .i64 0,.string ⟨#[]⟩,.int .i64 0,.int .i64 0,.int .i64 0,.int .i64 0,.bool false,.slice none 0 0,.slice none 0 0,.slice none 0 0]⟩::[]) _ (w.heap.size+1) a n c _ _ from (HN.out.set 1 0 rfl rfl (fun _=>by simp) (.int .i64 verb)))
 clear k10 f10
 generalize (w1.setCell ⟨w.heap.size+1+1,0,none⟩ (.int .i64 verb))=wa2 at HN ⊢
 refine (HT.out _ _ wa2 HN.out).mono ?_
 rintro e w3 ⟨rfl,hq⟩
 replace HN:=Lib.hid hq
 clear hq
 have k11:=HN.out.cell 1 1 rfl rfl
 have f11:=HN.out.free 1 1 rfl
 go_upto_region 5 with fail
 replace HN:=Lib.hid (show RdW w (⟨w.heap.size,50,[.int .i64 0,.string ⟨#[]⟩,.int .i64 0,.int .i64 0,.string ⟨#[]⟩,.int .i64 0,.int .i64 0,.int .i64 0,.int .i64 0,.bool false,.slice none 0 0,.slice none 0 0,.slice none 0 0]⟩::⟨w.heap.size+1+1,50,[.int .i64 verb,.string (strB tk),.int .i64 0,.int .i64 0,.string ⟨#[]⟩,.int .i64 0,.int .i64 0,.int .i64 0,.int .i64 0,.bool false,.slice none 0 0,.slice none 0 0,.slice none 0 0]⟩::[]) _ (w.heap.size+1) a n c _ _ from (HN.out.set 1 1 rfl rfl (fun _=>by simp) (.string (strB tk))))
 clear k11 f11
 generalize (w3.setCell ⟨w.heap.size+1+1,1,none⟩ (.string (strB tk)))=wa4 at HN ⊢
 have k10:=HN.out.cell 1 0 rfl rfl
 go_upto_block 0 with fail
 clear k10
 go_cut [] (fun wx=>TailM w a n c (rMsgBody data verb tk st2).1 (rMsgBody data verb tk st2).2 wx)
 case first =>
  by_cases h1:verb=1
  ·
   subst h1
   go_wp2_with fail
   refine (rid_any data st2 wa4 HN.out HD.out H8.out hn).mono ?_
   rintro e w5 ⟨rfl,hq⟩
   replace HN:=Lib.hid hq
   clear hq
   have k12:=HN.out.cell 1 2 rfl rfl
   have f12:=HN.out.free 1 2 rfl
   go_wp2_with fail
   replace HN:=Lib.hid (show RdW w (⟨w.heap.size,50,[.int .i64 0,.string ⟨#[]⟩,.int .i64 0,.int .i64 0,.string ⟨#[]⟩,.int .i64 0,.int .i64 0,.int .i64 0,.int .i64 0,.bool false,.slice none 0 0,.slice none 0 0,.slice none 0 0]⟩::⟨w.heap.size+1+1,50,[.int .i64 1,.string (strB tk),.int .i64 (rId data st2).1,.int .i64 0,.string ⟨#[]⟩,.int .i64 0,.int .i64 0,.int .i64 0,.int .i64 0,.bool false,.slice none 0 0,.slice none 0 0,.slice none 0 0]⟩::[]) _ (w.heap.size+1) a n c _ _ from (HN.out.set 1 2 rfl rfl (fun _=>by simp) (.int .i64 (rId data st2).1)))
   clear k12 f12
   generalize (w5.setCell ⟨w.heap.size+1+1,2,none⟩ (.int .i64 (rId data st2).1))=wa6 at HN ⊢
   refine (rask_any data (rId data st2).2 wa6 HN.out HD.out H8.out hn).mono ?_
   rintro e w7 ⟨r,ea,en,ec,vs,rfl,hrs,hrq,hes,hvl,hen,hsh,k9,ev9,hO,hs9,hk9⟩
   obtain ⟨ex,hq,hback⟩:=hO.lendR hs9 hk9
   replace HN:=Lib.hid hq
   have HRS:=Lib.hid hrs
   have HRQ:=Lib.hid hrq
   have HES:=Lib.hid hes
   have HVL:=Lib.hid hvl
   have HEN:=Lib.hid hen
   have HVS:=Lib.hid hsh
   have HBK:=Lib.hid hback
   clear hq hes hvl hen hsh hback hO hs9 hk9 hrs hrq
   have k15:=HN.out.cell 1 5 rfl rfl
   have f15:=HN.out.free 1 5 rfl
   have k16:=HN.out.cell 1 6 rfl rfl
   have f16:=HN.out.free 1 6 rfl
   have k17:=HN.out.cell 1 7 rfl rfl
   have f17:=HN.out.free 1 7 rfl
   have k18:=HN.out.cell 1 8 rfl rfl
   have f18:=HN.out.free 1 8 rfl
   have k19:=HN.out.cell 1 9 rfl rfl
   have f19:=HN.out.free 1 9 rfl
   have k110:=HN.out.cell 1 10 rfl rfl
   have f110:=HN.out.free 1 10 rfl
   have k111:=HN.out.cell 1 11 rfl rfl
   have f111:=HN.out.free 1 11 rfl
   have k112:=HN.out.cell 1 12 rfl rfl
   have f112:=HN.out.free 1 12 rfl
   go_wp2_with fail
   replace HN:=Lib.hid (show RdW w (⟨w.heap.size,50,[.int .i64 0,.string ⟨#[]⟩,.int .i64 0,.int .i64 0,.string ⟨#[]⟩,.int .i64 0,.int .i64 0,.int .i64 0,.int .i64 0,.bool false,.slice none 0 0,.slice none 0 0,.slice none 0 0]⟩::⟨w.heap.size+1+1,50,[.int .i64 1,.string (strB tk),.int .i64 (rId data st2).1,.int .i64 0,.string ⟨#[]⟩,.int .i64 (rAsk data (rId data st2).2).1.op,.int .i64 (rAsk data (rId data st2).2).1.row,.int .i64 (rAsk data (rId data st2).2).1.col,.int .i64 (rAsk data (rId data st2).2).1.kind,.bool r.s,.slice r.a r.l r.c,.slice r.b r.m r.d,.slice ea en ec]⟩::([]++ex)) _ (w.heap.size+1) a n c _ _ from ((((((((HN.out.set 1 5 rfl rfl (fun _=>by simp) (.int .i64 (rAsk data (rId data st2).2).1.op)).set 1 6 rfl rfl (fun _=>by simp) (.int .i64 (rAsk data (rId data st2).2).1.row)).set 1 7 rfl rfl (fun _=>by simp) (.int .i64 (rAsk data (rId data st2).2).1.col)).set 1 8 rfl rfl (fun _=>by simp) (.int .i64 (rAsk data (rId data st2).2).1.kind)).set 1 9 rfl rfl (fun _=>by simp) (.bool r.s)).set 1 10 rfl rfl (fun _=>by simp) (.slice r.a r.l r.c)).set 1 11 rfl rfl (fun _=>by simp) (.slice r.b r.m r.d)).set 1 12 rfl rfl (fun _=>by simp) (.slice ea en ec)))
   clear k15 f15 k16 f16 k17 f17 k18 f18 k19 f19 k110 f110 k111 f111 k112 f112
   generalize ((((((((w7.setCell ⟨w.heap.size+1+1,5,none⟩ (.int .i64 (rAsk data (rId data st2).2).1.op)).setCell ⟨w.heap.size+1+1,6,none⟩ (.int .i64 (rAsk data (rId data st2).2).1.row)).setCell ⟨w.heap.size+1+1,7,none⟩ (.int .i64 (rAsk data (rId data st2).2).1.col)).setCell ⟨w.heap.size+1+1,8,none⟩ (.int .i64 (rAsk data (rId data st2).2).1.kind)).setCell ⟨w.heap.size+1+1,9,none⟩ (.bool r.s)).setCell ⟨w.heap.size+1+1,10,none⟩ (.slice r.a r.l r.c)).setCell ⟨w.heap.size+1+1,11,none⟩ (.slice r.b r.m r.d)).setCell ⟨w.heap.size+1+1,12,none⟩ (.slice ea en ec))=wa8 at HN ⊢
   go_meet
   rw [show rMsgBody data 1 tk st2=(⟨1,tk,(rId data st2).1,0,[],(rAsk data (rId data st2).2).1⟩,(rAsk data (rId data st2).2).2) from rfl]
   exact ⟨⟨1,strB tk,(rId data st2).1,0,⟨#[]⟩,(rAsk data (rId data st2).2).1.op,(rAsk data (rId data st2).2).1.row,(rAsk data (rId data st2).2).1.col,(rAsk data (rId data st2).2).1.kind,r,ea,en,ec,vs⟩,ex,_,HN.out,by unfold MsgV.msg;simp only [HRQ.out,HES.out,natB_strB HTK.out.2];rfl,fun bs2 W' hy=>by
    have hO:=HBK.out bs2 _ W' hy
    have hbs:=hO.st
    exact ⟨by rw [strB_len,HTK.out.1];omega,by show (0:Nat)≤_;omega,HRS.out.ok hbs (fun x hx=>List.mem_append_left _ hx),HRS.out.num,HRS.out.den,⟨HVL.out,Sl.ofMid hO.mid,fun v hv=>⟨(HVS.out v hv).ok hbs (fun x hx=>List.mem_append_right _ (List.mem_append_left _ (List.mem_flatMap.2 ⟨v,hv,hx⟩))),(HVS.out v hv).num,(HVS.out v hv).den⟩⟩,by have:=HEN.out;show en≤_;omega⟩⟩
  by_cases h3:verb=3
  ·
   subst h3
   go_wp2_with fail
   refine (rid_any data st2 wa4 HN.out HD.out H8.out hn).mono ?_
   rintro e w5 ⟨rfl,hq⟩
   replace HN:=Lib.hid hq
   clear hq
   have k12:=HN.out.cell 1 2 rfl rfl
   have f12:=HN.out.free 1 2 rfl
   go_wp2_with fail
   replace HN:=Lib.hid (show RdW w (⟨w.heap.size,50,[.int .i64 0,.string ⟨#[]⟩,.int .i64 0,.int .i64 0,.string ⟨#[]⟩,.int .i64 0,.int .i64 0,.int .i64 0,.int .i64 0,.bool false,.slice none 0 0,.slice none 0 0,.slice none 0 0]⟩::⟨w.heap.size+1+1,50,[.int .i64 3,.string (strB tk),.int .i64 (rId data st2).1,.int .i64 0,.string ⟨#[]⟩,.int .i64 0,.int .i64 0,.int .i64 0,.int .i64 0,.bool false,.slice none 0 0,.slice none 0 0,.slice none 0 0]⟩::[]) _ (w.heap.size+1) a n c _ _ from (HN.out.set 1 2 rfl rfl (fun _=>by simp) (.int .i64 (rId data st2).1)))
   clear k12 f12
   generalize (w5.setCell ⟨w.heap.size+1+1,2,none⟩ (.int .i64 (rId data st2).1))=wa6 at HN ⊢
   go_meet
   rw [show rMsgBody data 3 tk st2=(⟨3,tk,(rId data st2).1,0,[],Qst.zero⟩,(rId data st2).2) from rfl]
   exact ⟨⟨3,strB tk,(rId data st2).1,0,⟨#[]⟩,0,0,0,0,Rv.zero,none,0,0,[]⟩,[],[],HN.out,by unfold MsgV.msg;simp only [natB_strB HTK.out.2];rfl,fun _ W' _=>⟨by rw [strB_len,HTK.out.1];omega,by show (0:Nat)≤_;omega,Rv.zero_ok _,Rv.zero_sh.num,Rv.zero_sh.den,⟨rfl,Sl.ofMid (Mid.nil _ w.heap.size 146 4),fun _ h=>(by cases h)⟩,by show (0:Nat)≤_;omega⟩⟩
  by_cases h4:verb=4
  ·
   subst h4
   go_wp2_with fail
   refine (rpick_any 0 255 data st2 wa4 HN.out HD.out H8.out hn).mono ?_
   rintro e w5 ⟨rfl,hq⟩
   replace HN:=Lib.hid hq
   clear hq
   have k13:=HN.out.cell 1 3 rfl rfl
   have f13:=HN.out.free 1 3 rfl
   go_wp2_with fail
   replace HN:=Lib.hid (show RdW w (⟨w.heap.size,50,[.int .i64 0,.string ⟨#[]⟩,.int .i64 0,.int .i64 0,.string ⟨#[]⟩,.int .i64 0,.int .i64 0,.int .i64 0,.int .i64 0,.bool false,.slice none 0 0,.slice none 0 0,.slice none 0 0]⟩::⟨w.heap.size+1+1,50,[.int .i64 4,.string (strB tk),.int .i64 0,.int .i64 (rPick data 0 255 st2).1,.string ⟨#[]⟩,.int .i64 0,.int .i64 0,.int .i64 0,.int .i64 0,.bool false,.slice none 0 0,.slice none 0 0,.slice none 0 0]⟩::[]) _ (w.heap.size+1) a n c _ _ from (HN.out.set 1 3 rfl rfl (fun _=>by simp) (.int .i64 (rPick data 0 255 st2).1)))
   clear k13 f13
   generalize (w5.setCell ⟨w.heap.size+1+1,3,none⟩ (.int .i64 (rPick data 0 255 st2).1))=wa6 at HN ⊢
   go_meet
   rw [show rMsgBody data 4 tk st2=(⟨4,tk,0,(rPick data 0 255 st2).1,[],Qst.zero⟩,(rPick data 0 255 st2).2) from rfl]
   exact ⟨⟨4,strB tk,0,(rPick data 0 255 st2).1,⟨#[]⟩,0,0,0,0,Rv.zero,none,0,0,[]⟩,[],[],HN.out,by unfold MsgV.msg;simp only [natB_strB HTK.out.2];rfl,fun _ W' _=>⟨by rw [strB_len,HTK.out.1];omega,by show (0:Nat)≤_;omega,Rv.zero_ok _,Rv.zero_sh.num,Rv.zero_sh.den,⟨rfl,Sl.ofMid (Mid.nil _ w.heap.size 146 4),fun _ h=>(by cases h)⟩,by show (0:Nat)≤_;omega⟩⟩
  by_cases h5:verb=5
  ·
   subst h5
   go_wp2_with fail
   refine (rtok_any data st2 wa4 HN.out HD.out hn).mono ?_
   rintro e w5 ⟨rfl,hq⟩
   replace HN:=Lib.hid hq
   clear hq
   have k14:=HN.out.cell 1 4 rfl rfl
   have f14:=HN.out.free 1 4 rfl
   go_wp2_with fail
   replace HN:=Lib.hid (show RdW w (⟨w.heap.size,50,[.int .i64 0,.string ⟨#[]⟩,.int .i64 0,.int .i64 0,.string ⟨#[]⟩,.int .i64 0,.int .i64 0,.int .i64 0,.int .i64 0,.bool false,.slice none 0 0,.slice none 0 0,.slice none 0 0]⟩::⟨w.heap.size+1+1,50,[.int .i64 5,.string (strB tk),.int .i64 0,.int .i64 0,.string (strB (rTok data st2).1),.int .i64 0,.int .i64 0,.int .i64 0,.int .i64 0,.bool false,.slice none 0 0,.slice none 0 0,.slice none 0 0]⟩::[]) _ (w.heap.size+1) a n c _ _ from (HN.out.set 1 4 rfl rfl (fun _=>by simp) (.string (strB (rTok data st2).1))))
   clear k14 f14
   generalize (w5.setCell ⟨w.heap.size+1+1,4,none⟩ (.string (strB (rTok data st2).1)))=wa6 at HN ⊢
   go_meet
   rw [show rMsgBody data 5 tk st2=(⟨5,tk,0,0,(rTok data st2).1,Qst.zero⟩,(rTok data st2).2) from rfl]
   exact ⟨⟨5,strB tk,0,0,strB (rTok data st2).1,0,0,0,0,Rv.zero,none,0,0,[]⟩,[],[],HN.out,by unfold MsgV.msg;simp only [natB_strB HTK.out.2,natB_strB (l:=(rTok data st2).1) (rNext_lt H8.out 8 st2)];rfl,fun _ W' _=>⟨by rw [strB_len,HTK.out.1];omega,by show (strB _).size≤_;rw [strB_len];show (rNext data 8 st2).1.length≤_;rw [rNext_len data 8 st2];omega,Rv.zero_ok _,Rv.zero_sh.num,Rv.zero_sh.den,⟨rfl,Sl.ofMid (Mid.nil _ w.heap.size 146 4),fun _ h=>(by cases h)⟩,by show (0:Nat)≤_;omega⟩⟩
  have g1:(verb==1)=false:=beq_eq_false_iff_ne.2 h1
  have g3:(verb==3)=false:=beq_eq_false_iff_ne.2 h3
  have g4:(verb==4)=false:=beq_eq_false_iff_ne.2 h4
  have g5:(verb==5)=false:=beq_eq_false_iff_ne.2 h5
  go_wp2_with fail
  go_meet
  rw [show rMsgBody data verb tk st2=(⟨verb,tk,0,0,[],Qst.zero⟩,st2) from by unfold rMsgBody;rw [if_neg h1,if_neg h3,if_neg h4,if_neg h5]]
  exact ⟨⟨verb,strB tk,0,0,⟨#[]⟩,0,0,0,0,Rv.zero,none,0,0,[]⟩,[],[],HN.out,by unfold MsgV.msg;simp only [natB_strB HTK.out.2];rfl,fun _ W' _=>⟨by rw [strB_len,HTK.out.1];omega,by show (0:Nat)≤_;omega,Rv.zero_ok _,Rv.zero_sh.num,Rv.zero_sh.den,⟨rfl,Sl.ofMid (Mid.nil _ w.heap.size 146 4),fun _ h=>(by cases h)⟩,by show (0:Nat)≤_;omega⟩⟩
 case rest =>
  obtain ⟨w8,rfl⟩:∃ w8:World,w8=wc:=⟨_,rfl⟩
  generalize (rMsgBody data verb tk st2).1=mm at HDM hcut
  generalize (rMsgBody data verb tk st2).2=st at HDM hcut
  obtain ⟨x,ex,ns,hq,hms,hok⟩:=hcut
  have HN:=Lib.hid (show RdW w (⟨w.heap.size,50,[.int .i64 0,.string ⟨#[]⟩,.int .i64 0,.int .i64 0,.string ⟨#[]⟩,.int .i64 0,.int .i64 0,.int .i64 0,.int .i64 0,.bool false,.slice none 0 0,.slice none 0 0,.slice none 0 0]⟩::⟨w.heap.size+1+1,50,[.int .i64 x.verb,.string x.tk,.int .i64 x.ses,.int .i64 x.rig,.string x.ot,.int .i64 x.op,.int .i64 x.row,.int .i64 x.col,.int .i64 x.kind,.bool x.r.s,.slice x.r.a x.r.l x.r.c,.slice x.r.b x.r.m x.r.d,.slice x.ea x.en x.ec]⟩::ex) ns (w.heap.size+1) a n c st w8 from hq)
  have HMS:=Lib.hid hms
  have HOK:=Lib.hid hok
  clear hq hms hok HP HT
  have HEN9:=Lib.hid (rend_any data st w8 HN.out HD.out hn)
  cases hE:rEndS data st with
  | error x9 =>
   rw [hE] at HEN9
   rw [hE] at HDM
   clear hE
   go_wp2_with fail
   refine HEN9.out.mono ?_
   rintro e w14 ⟨k9,ev9,rfl,hy,hs,hk⟩
   have HRS9:=Lib.hid hs
   obtain ⟨eb,u,rfl,_⟩:=hs
   replace HN:=Lib.hid (show RdX w (⟨w.heap.size,50,[.int .i64 0,.string ⟨#[]⟩,.int .i64 0,.int .i64 0,.string ⟨#[]⟩,.int .i64 0,.int .i64 0,.int .i64 0,.int .i64 0,.bool false,.slice none 0 0,.slice none 0 0,.slice none 0 0]⟩::⟨w.heap.size+1+1,50,[.int .i64 x.verb,.string x.tk,.int .i64 x.ses,.int .i64 x.rig,.string x.ot,.int .i64 x.op,.int .i64 x.row,.int .i64 x.col,.int .i64 x.kind,.bool x.r.s,.slice x.r.a x.r.l x.r.c,.slice x.r.b x.r.m x.r.d,.slice x.ea x.en x.ec]⟩::ex) _ (w.heap.size+1) a n c _ _ _ _ from ⟨hy,HRS9.out,hk⟩)
   clear HEN9 hy hk
   unfold eF
   have k00:=HN.out.cell 0 0 rfl rfl
   have f00:=HN.out.free 0 0 rfl
   have k01:=HN.out.cell 0 1 rfl rfl
   have f01:=HN.out.free 0 1 rfl
   have k02:=HN.out.cell 0 2 rfl rfl
   have f02:=HN.out.free 0 2 rfl
   have k03:=HN.out.cell 0 3 rfl rfl
   have f03:=HN.out.free 0 3 rfl
   have k04:=HN.out.cell 0 4 rfl rfl
   have f04:=HN.out.free 0 4 rfl
   have k05:=HN.out.cell 0 5 rfl rfl
   have f05:=HN.out.free 0 5 rfl
   have k06:=HN.out.cell 0 6 rfl rfl
   have f06:=HN.out.free 0 6 rfl
   have k07:=HN.out.cell 0 7 rfl rfl
   have f07:=HN.out.free 0 7 rfl
   have k08:=HN.out.cell 0 8 rfl rfl
   have f08:=HN.out.free 0 8 rfl
   have k09:=HN.out.cell 0 9 rfl rfl
   have f09:=HN.out.free 0 9 rfl
   have k010:=HN.out.cell 0 10 rfl rfl
   have f010:=HN.out.free 0 10 rfl
   have k011:=HN.out.cell 0 11 rfl rfl
   have f011:=HN.out.free 0 11 rfl
   have k012:=HN.out.cell 0 12 rfl rfl
   have f012:=HN.out.free 0 12 rfl
   have HE:=Lib.hid (show RdX w (⟨w.heap.size,50,[.int .i64 0,.string ⟨#[]⟩,.int .i64 0,.int .i64 0,.string ⟨#[]⟩,.int .i64 0,.int .i64 0,.int .i64 0,.int .i64 0,.bool false,.slice none 0 0,.slice none 0 0,.slice none 0 0]⟩::⟨w.heap.size+1+1,50,[.int .i64 x.verb,.string x.tk,.int .i64 x.ses,.int .i64 x.rig,.string x.ot,.int .i64 x.op,.int .i64 x.row,.int .i64 x.col,.int .i64 x.kind,.bool x.r.s,.slice x.r.a x.r.l x.r.c,.slice x.r.b x.r.m x.r.d,.slice x.ea x.en x.ec]⟩::ex) _ (w.heap.size+1) a n c _ _ _ _ from (((((((((((((HN.out.set 0 0 rfl rfl (fun _=>by simp) (.int .i64 0)).set 0 1 rfl rfl (fun _=>by simp) (.string ⟨#[]⟩)).set 0 2 rfl rfl (fun _=>by simp) (.int .i64 0)).set 0 3 rfl rfl (fun _=>by simp) (.int .i64 0)).set 0 4 rfl rfl (fun _=>by simp) (.string ⟨#[]⟩)).set 0 5 rfl rfl (fun _=>by simp) (.int .i64 0)).set 0 6 rfl rfl (fun _=>by simp) (.int .i64 0)).set 0 7 rfl rfl (fun _=>by simp) (.int .i64 0)).set 0 8 rfl rfl (fun _=>by simp) (.int .i64 0)).set 0 9 rfl rfl (fun _=>by simp) (.bool false)).set 0 10 rfl rfl (fun _=>by simp) (.slice none 0 0)).set 0 11 rfl rfl (fun _=>by simp) (.slice none 0 0)).set 0 12 rfl rfl (fun _=>by simp) (.slice none 0 0)))
   go_wp2_with fail
   (try simp only [Exit.inBlock,Exit.then])
   refine bodyPost_ret (v:=.tuple #[.agg #[.int .i64 0,.string ⟨#[]⟩,.int .i64 0,.int .i64 0,.string ⟨#[]⟩,.int .i64 0,.int .i64 0,.int .i64 0,.int .i64 0,.bool false,.slice none 0 0,.slice none 0 0,.slice none 0 0],eF eb]) ?_ rfl ?_
   ·
    rw [results_cell_tmp rfl]
    have hbk:=(HE.out.at 0 rfl:_=some (Obj.cells #[.int .i64 0,.string ⟨#[]⟩,.int .i64 0,.int .i64 0,.string ⟨#[]⟩,.int .i64 0,.int .i64 0,.int .i64 0,.int .i64 0,.bool false,.slice none 0 0,.slice none 0 0,.slice none 0 0] 50 (0,0)))
    generalize (((((((((((((w14.setCell ⟨w.heap.size,0,none⟩ (.int .i64 0)).setCell ⟨w.heap.size,1,none⟩ (.string ⟨#[]⟩)).setCell ⟨w.heap.size,2,none⟩ (.int .i64 0)).setCell ⟨w.heap.size,3,none⟩ (.int .i64 0)).setCell ⟨w.heap.size,4,none⟩ (.string ⟨#[]⟩)).setCell ⟨w.heap.size,5,none⟩ (.int .i64 0)).setCell ⟨w.heap.size,6,none⟩ (.int .i64 0)).setCell ⟨w.heap.size,7,none⟩ (.int .i64 0)).setCell ⟨w.heap.size,8,none⟩ (.int .i64 0)).setCell ⟨w.heap.size,9,none⟩ (.bool false)).setCell ⟨w.heap.size,10,none⟩ (.slice none 0 0)).setCell ⟨w.heap.size,11,none⟩ (.slice none 0 0)).setCell ⟨w.heap.size,12,none⟩ (.slice none 0 0))=WE at hbk ⊢
    have hld:=Go.Lib.rl_loadVar_cells 50 _ hiR (fun _=>by kernel_rfl) (w.heap.size) 0 [.int .i64 0,.string ⟨#[]⟩,.int .i64 0,.int .i64 0,.string ⟨#[]⟩,.int .i64 0,.int .i64 0,.int .i64 0,.int .i64 0,.bool false,.slice none 0 0,.slice none 0 0,.slice none 0 0] hzR.symm WE (fun k v hk=>by
     rw [Nat.zero_add]
     exact cell_of_block (j:=k) hbk (by simpa using hk))
    exact ret_of hld
   rw [HDM.out]
   exact ⟨eF eb,rfl,HE.out.err,HE.out.1.bel⟩
  | ok x9 =>
   rw [hE] at HEN9
   rw [hE] at HDM
   clear hE
   go_wp2_with fail
   refine HEN9.out.mono ?_
   rintro e w14 ⟨k9,ev9,rfl,hy,hs,hk⟩
   have HRS9:=Lib.hid hs
   obtain ⟨rfl,rfl,_⟩:=hs
   replace HN:=Lib.hid (show RdW w (⟨w.heap.size,50,[.int .i64 0,.string ⟨#[]⟩,.int .i64 0,.int .i64 0,.string ⟨#[]⟩,.int .i64 0,.int .i64 0,.int .i64 0,.int .i64 0,.bool false,.slice none 0 0,.slice none 0 0,.slice none 0 0]⟩::⟨w.heap.size+1+1,50,[.int .i64 x.verb,.string x.tk,.int .i64 x.ses,.int .i64 x.rig,.string x.ot,.int .i64 x.op,.int .i64 x.row,.int .i64 x.col,.int .i64 x.kind,.bool x.r.s,.slice x.r.a x.r.l x.r.c,.slice x.r.b x.r.m x.r.d,.slice x.ea x.en x.ec]⟩::ex) _ (w.heap.size+1) a n c _ _ from ⟨_,.nilIface,hy,HRS9.out,hk⟩)
   clear HEN9 hy hk
   have k00:=HN.out.cell 0 0 rfl rfl
   have f00:=HN.out.free 0 0 rfl
   have k01:=HN.out.cell 0 1 rfl rfl
   have f01:=HN.out.free 0 1 rfl
   have k02:=HN.out.cell 0 2 rfl rfl
   have f02:=HN.out.free 0 2 rfl
   have k03:=HN.out.cell 0 3 rfl rfl
   have f03:=HN.out.free 0 3 rfl
   have k04:=HN.out.cell 0 4 rfl rfl
   have f04:=HN.out.free 0 4 rfl
   have k05:=HN.out.cell 0 5 rfl rfl
   have f05:=HN.out.free 0 5 rfl
   have k06:=HN.out.cell 0 6 rfl rfl
   have f06:=HN.out.free 0 6 rfl
   have k07:=HN.out.cell 0 7 rfl rfl
   have f07:=HN.out.free 0 7 rfl
   have k08:=HN.out.cell 0 8 rfl rfl
   have f08:=HN.out.free 0 8 rfl
   have k09:=HN.out.cell 0 9 rfl rfl
   have f09:=HN.out.free 0 9 rfl
   have k010:=HN.out.cell 0 10 rfl rfl
   have f010:=HN.out.free 0 10 rfl
   have k011:=HN.out.cell 0 11 rfl rfl
   have f011:=HN.out.free 0 11 rfl
   have k012:=HN.out.cell 0 12 rfl rfl
   have f012:=HN.out.free 0 12 rfl
   have k10:=HN.out.cell 1 0 rfl rfl
   have f10:=HN.out.free 1 0 rfl
   have k11:=HN.out.cell 1 1 rfl rfl
   have f11:=HN.out.free 1 1 rfl
   have k12:=HN.out.cell 1 2 rfl rfl
   have f12:=HN.out.free 1 2 rfl
   have k13:=HN.out.cell 1 3 rfl rfl
   have f13:=HN.out.free 1 3 rfl
   have k14:=HN.out.cell 1 4 rfl rfl
   have f14:=HN.out.free 1 4 rfl
   have k15:=HN.out.cell 1 5 rfl rfl
   have f15:=HN.out.free 1 5 rfl
   have k16:=HN.out.cell 1 6 rfl rfl
   have f16:=HN.out.free 1 6 rfl
   have k17:=HN.out.cell 1 7 rfl rfl
   have f17:=HN.out.free 1 7 rfl
   have k18:=HN.out.cell 1 8 rfl rfl
   have f18:=HN.out.free 1 8 rfl
   have k19:=HN.out.cell 1 9 rfl rfl
   have f19:=HN.out.free 1 9 rfl
   have k110:=HN.out.cell 1 10 rfl rfl
   have f110:=HN.out.free 1 10 rfl
   have k111:=HN.out.cell 1 11 rfl rfl
   have f111:=HN.out.free 1 11 rfl
   have k112:=HN.out.cell 1 12 rfl rfl
   have f112:=HN.out.free 1 12 rfl
   have HE:=Lib.hid (show RdW w (⟨w.heap.size,50,[.int .i64 x.verb,.string x.tk,.int .i64 x.ses,.int .i64 x.rig,.string x.ot,.int .i64 x.op,.int .i64 x.row,.int .i64 x.col,.int .i64 x.kind,.bool x.r.s,.slice x.r.a x.r.l x.r.c,.slice x.r.b x.r.m x.r.d,.slice x.ea x.en x.ec]⟩::⟨w.heap.size+1+1,50,[.int .i64 x.verb,.string x.tk,.int .i64 x.ses,.int .i64 x.rig,.string x.ot,.int .i64 x.op,.int .i64 x.row,.int .i64 x.col,.int .i64 x.kind,.bool x.r.s,.slice x.r.a x.r.l x.r.c,.slice x.r.b x.r.m x.r.d,.slice x.ea x.en x.ec]⟩::ex) _ (w.heap.size+1) a n c _ _ from (((((((((((((HN.out.set 0 0 rfl rfl (fun _=>by simp) (.int .i64 x.verb)).set 0 1 rfl rfl (fun _=>by simp) (.string x.tk)).set 0 2 rfl rfl (fun _=>by simp) (.int .i64 x.ses)).set 0 3 rfl rfl (fun _=>by simp) (.int .i64 x.rig)).set 0 4 rfl rfl (fun _=>by simp) (.string x.ot)).set 0 5 rfl rfl (fun _=>by simp) (.int .i64 x.op)).set 0 6 rfl rfl (fun _=>by simp) (.int .i64 x.row)).set 0 7 rfl rfl (fun _=>by simp) (.int .i64 x.col)).set 0 8 rfl rfl (fun _=>by simp) (.int .i64 x.kind)).set 0 9 rfl rfl (fun _=>by simp) (.bool x.r.s)).set 0 10 rfl rfl (fun _=>by simp) (.slice x.r.a x.r.l x.r.c)).set 0 11 rfl rfl (fun _=>by simp) (.slice x.r.b x.r.m x.r.d)).set 0 12 rfl rfl (fun _=>by simp) (.slice x.ea x.en x.ec)))
   go_wp2_with fail
   (try simp only [Exit.inBlock,Exit.then])
   refine bodyPost_ret (v:=.tuple #[.agg #[.int .i64 x.verb,.string x.tk,.int .i64 x.ses,.int .i64 x.rig,.string x.ot,.int .i64 x.op,.int .i64 x.row,.int .i64 x.col,.int .i64 x.kind,.bool x.r.s,.slice x.r.a x.r.l x.r.c,.slice x.r.b x.r.m x.r.d,.slice x.ea x.en x.ec],.nilIface]) ?_ rfl ?_
   ·
    rw [results_cell_tmp rfl]
    have hbk:=(HE.out.at 0 rfl:_=some (Obj.cells #[.int .i64 x.verb,.string x.tk,.int .i64 x.ses,.int .i64 x.rig,.string x.ot,.int .i64 x.op,.int .i64 x.row,.int .i64 x.col,.int .i64 x.kind,.bool x.r.s,.slice x.r.a x.r.l x.r.c,.slice x.r.b x.r.m x.r.d,.slice x.ea x.en x.ec] 50 (0,0)))
    generalize (((((((((((((w14.setCell ⟨w.heap.size,0,none⟩ (.int .i64 x.verb)).setCell ⟨w.heap.size,1,none⟩ (.string x.tk)).setCell ⟨w.heap.size,2,none⟩ (.int .i64 x.ses)).setCell ⟨w.heap.size,3,none⟩ (.int .i64 x.rig)).setCell ⟨w.heap.size,4,none⟩ (.string x.ot)).setCell ⟨w.heap.size,5,none⟩ (.int .i64 x.op)).setCell ⟨w.heap.size,6,none⟩ (.int .i64 x.row)).setCell ⟨w.heap.size,7,none⟩ (.int .i64 x.col)).setCell ⟨w.heap.size,8,none⟩ (.int .i64 x.kind)).setCell ⟨w.heap.size,9,none⟩ (.bool x.r.s)).setCell ⟨w.heap.size,10,none⟩ (.slice x.r.a x.r.l x.r.c)).setCell ⟨w.heap.size,11,none⟩ (.slice x.r.b x.r.m x.r.d)).setCell ⟨w.heap.size,12,none⟩ (.slice x.ea x.en x.ec))=WE at hbk ⊢
    have hld:=Go.Lib.rl_loadVar_cells 50 _ hiR (fun _=>by kernel_rfl) (w.heap.size) 0 [.int .i64 x.verb,.string x.tk,.int .i64 x.ses,.int .i64 x.rig,.string x.ot,.int .i64 x.op,.int .i64 x.row,.int .i64 x.col,.int .i64 x.kind,.bool x.r.s,.slice x.r.a x.r.l x.r.c,.slice x.r.b x.r.m x.r.d,.slice x.ea x.en x.ec] hzR.symm WE (fun k v hk=>by
     rw [Nat.zero_add]
     exact cell_of_block (j:=k) hbk (by simpa using hk))
    exact ret_of hld
   obtain ⟨k8,ev8,hy,hs,_⟩:=HE.out.get
   rw [HDM.out]
   refine ⟨x,rfl,HOK.out (rBox (w.heap.size+1) a n c k8 ev8::⟨w.heap.size,50,[.int .i64 x.verb,.string x.tk,.int .i64 x.ses,.int .i64 x.rig,.string x.ot,.int .i64 x.op,.int .i64 x.row,.int .i64 x.col,.int .i64 x.kind,.bool x.r.s,.slice x.r.a x.r.l x.r.c,.slice x.r.b x.r.m x.r.d,.slice x.ea x.en x.ec]⟩::⟨w.heap.size+1+1,50,[.int .i64 x.verb,.string x.tk,.int .i64 x.ses,.int .i64 x.rig,.string x.ot,.int .i64 x.op,.int .i64 x.row,.int .i64 x.col,.int .i64 x.kind,.bool x.r.s,.slice x.r.a x.r.l x.r.c,.slice x.r.b x.r.m x.r.d,.slice x.ea x.en x.ec]⟩::[]) _ hy,HMS.out,hy.bel⟩
end Go.Proofs.YtmhainidincjhaaGreatDoor
