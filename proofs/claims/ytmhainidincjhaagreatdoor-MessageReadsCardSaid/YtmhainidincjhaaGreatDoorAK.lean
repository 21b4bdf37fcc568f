/-
 What the laws stand on, part K: contracts and plain laws of RAsk; the conditions are each law's own.
-/
import Derived.Test.YtmhainidincjhaaGreatDoorAT
set_option linter.unusedVariables false
set_option linter.unusedSimpArgs false
set_option maxRecDepth 100000
set_option maxHeartbeats 16000000
namespace Go.Proofs.YtmhainidincjhaaGreatDoor
open Go.RowKit Go.Extern.Stop Go.Stop Go.Extern
theorem OB.ren {w W:World} {bs:List Bk} {ns ns':List Nm} {T:TypeId} {sz:Nat} {a:Option Addr} {n c:Nat} {cs:List Value} (h:OB w bs ns T sz a n c cs W) (hn:∀ x,x∈ns'→x∈ns):OB w bs ns' T sz a n c cs W:=⟨h.st.only (List.Sublist.refl _) hn,h.mid,h.nod,h.hd⟩
def AskR (w0:World) (bs:List Bk) (ns:List Nm) (pb:Nat) (ba:Option Addr) (n c:Nat) (q:Qst) (st:RS) (e:Ending) (w':World):Prop :=
 ∃ r ea en ec vs,e=.returned (.agg #[.int .i64 q.op,.int .i64 q.row,.int .i64 q.col,.int .i64 q.kind,.bool r.s,.slice r.a r.l r.c,.slice r.b r.m r.d,.slice ea en ec])∧Rv.sh r∧r.q=q.v∧vs.map EntV.ent=q.es∧vs.length=en∧en≤255∧(∀ v,v∈vs→v.r.sh)∧∃ k ev,OB w0 (rBox pb ba n c k ev::bs) (r.nums++(numsE vs++ns)) 146 4 ea en ec (vs.flatMap EntV.cells) w'∧RSt w' pb n k ev st∧k≤n
theorem Tryz.infoQ:(Tryz.prog.info? 48).map (fun i=>(i.zero,i.size,i.bytes))=some (some (.agg #[.int .i64 0,.int .i64 0,.int .i64 0,.int .i64 0,.bool false,.slice none 0 0,.slice none 0 0,.slice none 0 0]),8,112):=by kernel_rfl
theorem rask_any {w0:World} {bs:List Bk} {ns:List Nm} {pb:Nat} {ba:Option Addr} {n c:Nat} (data:List Nat) (st:RS) (w:World) (h:RdW w0 bs ns pb ba n c st w) (hd:BytesN w0 (.slice ba n c) data) (h8:∀ x,x∈data→x<256) (hn:n≤1099511627776) :
  Calls Tryz.prog 66 #[.pointer (some ⟨pb,0,none⟩)] w (AskR w0 bs ns pb ba n c (rAsk data st).1 (rAsk data st).2):=by
 obtain ⟨iR,hiR,_,hzR,_⟩:=info_parts Tryz.infoQ
 unfold rAsk
 have hP:=fun (bs:List Bk) (W:World) (h:RdW w0 bs ns pb ba n c st W)=>rpick_any 1 12 data st W h hd h8 hn
 generalize (rPick data 1 12 st).1=op at hP ⊢
 generalize (rPick data 1 12 st).2=st1 at hP ⊢
 have HP:=Lib.hid hP
 have HD:=Lib.hid hd
 have H8:=Lib.hid h8
 clear hd h8 hP
 obtain ⟨W0,hW0⟩:∃ W0,W0=(w.alloc (.cells #[.int .i64 0,.int .i64 0,.int .i64 0,.int .i64 0,.bool false,.slice none 0 0,.slice none 0 0,.slice none 0 0] 48)):=⟨_,rfl⟩
 have hn0:RdW w0 (⟨w.heap.size,48,[.int .i64 0,.int .i64 0,.int .i64 0,.int .i64 0,.bool false,.slice none 0 0,.slice none 0 0,.slice none 0 0]⟩::bs) ns pb ba n c st (w.alloc (.cells #[.int .i64 0,.int .i64 0,.int .i64 0,.int .i64 0,.bool false,.slice none 0 0,.slice none 0 0,.slice none 0 0] 48)):=(h.alloc (p:=w.heap.size) rfl 48 [.int .i64 0,.int .i64 0,.int .i64 0,.int .i64 0,.bool false,.slice none 0 0,.slice none 0 0,.slice none 0 0] rfl).ins 0
 rw [← hW0] at hn0
 have HW0:=Lib.hid hW0
 have HN:=Lib.hid hn0
 clear hW0 hn0
 clear h
 go_enter Tryz.func66,Tryz.ntmps66
 go_upto_region 1 with fail
 rw [← HW0.out]
 go_wp2_with fail
 refine (HP.out _ W0 HN.out).mono ?_
 rintro e w1 ⟨rfl,hn1⟩
 replace HN:=Lib.hid hn1
 clear hn1
 have HN0:=HN
 clear HN
 have HN:=Lib.hid (show RdW w0 (⟨w.heap.size,48,[.int .i64 0,.int .i64 0,.int .i64 0,.int .i64 0,.bool false,.slice none 0 0,.slice none 0 0,.slice none 0 0]⟩::⟨w1.heap.size,48,[.int .i64 op,.int .i64 0,.int .i64 0,.int .i64 0,.bool false,.slice none 0 0,.slice none 0 0,.slice none 0 0]⟩::bs) _ pb ba n c _ _ from (HN0.out.alloc (p:=w1.heap.size) rfl 48 [.int .i64 op,.int .i64 0,.int .i64 0,.int .i64 0,.bool false,.slice none 0 0,.slice none 0 0,.slice none 0 0] rfl).ins 1)
 go_upto_region 2 with fail
 replace HN:=Lib.hid (show RdW w0 (⟨w.heap.size,48,[.int .i64 0,.int .i64 0,.int .i64 0,.int .i64 0,.bool false,.slice none 0 0,.slice none 0 0,.slice none 0 0]⟩::⟨w1.heap.size,48,[.int .i64 op,.int .i64 0,.int .i64 0,.int .i64 0,.bool false,.slice none 0 0,.slice none 0 0,.slice none 0 0]⟩::bs) _ pb ba n c _ _ from HN.out)
 generalize (w1.alloc (.cells #[.int .i64 op,.int .i64 0,.int .i64 0,.int .i64 0,.bool false,.slice none 0 0,.slice none 0 0,.slice none 0 0] 48))=wa2 at HN ⊢
 by_cases h1:op=1
 ·
  subst h1
  have k10:=HN.out.cell 1 0 rfl rfl
  have f10:=HN.out.free 1 0 rfl
  go_wp2_with fail
  clear k10 f10
  refine (rpick_any 0 3 data st1 wa2 HN.out HD.out H8.out hn).mono ?_
  rintro e w3 ⟨rfl,hq⟩
  replace HN:=Lib.hid hq
  clear hq
  have k13:=HN.out.cell 1 3 rfl rfl
  have f13:=HN.out.free 1 3 rfl
  go_wp2_with fail
  replace HN:=Lib.hid (show RdW w0 (⟨w.heap.size,48,[.int .i64 0,.int .i64 0,.int .i64 0,.int .i64 0,.bool false,.slice none 0 0,.slice none 0 0,.slice none 0 0]⟩::⟨w1.heap.size,48,[.int .i64 1,.int .i64 0,.int .i64 0,.int .i64 (rPick data 0 3 st1).1,.bool false,.slice none 0 0,.slice none 0 0,.slice none 0 0]⟩::bs) _ pb ba n c _ _ from (HN.out.set 1 3 rfl rfl (fun _=>by simp) (.int .i64 (rPick data 0 3 st1).1)))
  clear k13 f13
  generalize (w3.setCell ⟨w1.heap.size,3,none⟩ (.int .i64 (rPick data 0 3 st1).1))=wa4 at HN ⊢
  refine (rrat_rv data (rPick data 0 3 st1).2 wa4 HN.out HD.out H8.out hn).mono ?_
  rintro e w5 ⟨r,rfl,hrs,hrq,hq⟩
  replace HN:=Lib.hid hq
  clear hq
  have HRS:=Lib.hid hrs
  have HRQ:=Lib.hid hrq
  clear hrs hrq
  have k14:=HN.out.cell 1 4 rfl rfl
  have f14:=HN.out.free 1 4 rfl
  have k15:=HN.out.cell 1 5 rfl rfl
  have f15:=HN.out.free 1 5 rfl
  have k16:=HN.out.cell 1 6 rfl rfl
  have f16:=HN.out.free 1 6 rfl
  go_wp2_with fail
  replace HN:=Lib.hid (show RdW w0 (⟨w.heap.size,48,[.int .i64 0,.int .i64 0,.int .i64 0,.int .i64 0,.bool false,.slice none 0 0,.slice none 0 0,.slice none 0 0]⟩::⟨w1.heap.size,48,[.int .i64 1,.int .i64 0,.int .i64 0,.int .i64 (rPick data 0 3 st1).1,.bool r.s,.slice r.a r.l r.c,.slice r.b r.m r.d,.slice none 0 0]⟩::bs) _ pb ba n c _ _ from (((HN.out.set 1 4 rfl rfl (fun _=>by simp) (.bool r.s)).set 1 5 rfl rfl (fun _=>by simp) (.slice r.a r.l r.c)).set 1 6 rfl rfl (fun _=>by simp) (.slice r.b r.m r.d)))
  clear k14 f14 k15 f15 k16 f16
  generalize (((w5.setCell ⟨w1.heap.size,4,none⟩ (.bool r.s)).setCell ⟨w1.heap.size,5,none⟩ (.slice r.a r.l r.c)).setCell ⟨w1.heap.size,6,none⟩ (.slice r.b r.m r.d))=wa6 at HN ⊢
  refine (rents_any data (rRat data (rPick data 0 3 st1).2).2 wa6 HN.out HD.out H8.out hn).mono ?_
  rintro e w7 ⟨ea,en,ec,vs,rfl,hes,hvl,hen,hsh,k9,ev9,hO,hs9,hk9⟩
  obtain ⟨ex,hq,hback⟩:=hO.lendR hs9 hk9
  replace HN:=Lib.hid hq
  have HES:=Lib.hid hes
  have HVL:=Lib.hid hvl
  have HEN:=Lib.hid hen
  have HVS:=Lib.hid hsh
  have HBK:=Lib.hid hback
  clear hq hes hvl hen hsh hback hO hs9 hk9
  have k17:=HN.out.cell 1 7 rfl rfl
  have f17:=HN.out.free 1 7 rfl
  go_upto_region 24 with fail
  replace HN:=Lib.hid (show RdW w0 (⟨w.heap.size,48,[.int .i64 0,.int .i64 0,.int .i64 0,.int .i64 0,.bool false,.slice none 0 0,.slice none 0 0,.slice none 0 0]⟩::⟨w1.heap.size,48,[.int .i64 1,.int .i64 0,.int .i64 0,.int .i64 (rPick data 0 3 st1).1,.bool r.s,.slice r.a r.l r.c,.slice r.b r.m r.d,.slice ea en ec]⟩::(bs++ex)) _ pb ba n c _ _ from (HN.out.set 1 7 rfl rfl (fun _=>by simp) (.slice ea en ec)))
  clear k17 f17
  generalize (w7.setCell ⟨w1.heap.size,7,none⟩ (.slice ea en ec))=wa8 at HN ⊢
  have HAB:=Lib.hid (show rAskBody data 1 st1=(⟨1,0,0,(rPick data 0 3 st1).1,(rRat data (rPick data 0 3 st1).2).1,(rEntries data (rRat data (rPick data 0 3 st1).2).2).1⟩,(rEntries data (rRat data (rPick data 0 3 st1).2).2).2) from rfl)
  have k00:=HN.out.cell 0 0 rfl rfl
  have f00:=HN.out.free 0 0 rfl
  have k01:=HN.out.cell 0 1 rfl rfl
  have f01:=HN.out.free 0 1 rfl
  have k02:=HN.out.cell 0 2 rfl rfl
  have f02:=HN.out.free 0 2 rfl
  have k03:=HN.out.cell 0 3 rfl rfl
  have f03:=HN.out.free 0 3 rfl
  have k04:=HN.out.cell 0 4 rfl rfl
  have f04:=HN.out.free 0 4 rfl
  have k05:=HN.out.cell 0 5 rfl rfl
  have f05:=HN.out.free 0 5 rfl
  have k06:=HN.out.cell 0 6 rfl rfl
  have f06:=HN.out.free 0 6 rfl
  have k07:=HN.out.cell 0 7 rfl rfl
  have f07:=HN.out.free 0 7 rfl
  have k10:=HN.out.cell 1 0 rfl rfl
  have f10:=HN.out.free 1 0 rfl
  have k11:=HN.out.cell 1 1 rfl rfl
  have f11:=HN.out.free 1 1 rfl
  have k12:=HN.out.cell 1 2 rfl rfl
  have f12:=HN.out.free 1 2 rfl
  have k13:=HN.out.cell 1 3 rfl rfl
  have f13:=HN.out.free 1 3 rfl
  have k14:=HN.out.cell 1 4 rfl rfl
  have f14:=HN.out.free 1 4 rfl
  have k15:=HN.out.cell 1 5 rfl rfl
  have f15:=HN.out.free 1 5 rfl
  have k16:=HN.out.cell 1 6 rfl rfl
  have f16:=HN.out.free 1 6 rfl
  have k17:=HN.out.cell 1 7 rfl rfl
  have f17:=HN.out.free 1 7 rfl
  have HE:=Lib.hid (show RdW w0 (⟨w.heap.size,48,[.int .i64 1,.int .i64 0,.int .i64 0,.int .i64 (rPick data 0 3 st1).1,.bool r.s,.slice r.a r.l r.c,.slice r.b r.m r.d,.slice ea en ec]⟩::⟨w1.heap.size,48,[.int .i64 1,.int .i64 0,.int .i64 0,.int .i64 (rPick data 0 3 st1).1,.bool r.s,.slice r.a r.l r.c,.slice r.b r.m r.d,.slice ea en ec]⟩::(bs++ex)) _ pb ba n c _ _ from ((((((((HN.out.set 0 0 rfl rfl (fun _=>by simp) (.int .i64 1)).set 0 1 rfl rfl (fun _=>by simp) (.int .i64 0)).set 0 2 rfl rfl (fun _=>by simp) (.int .i64 0)).set 0 3 rfl rfl (fun _=>by simp) (.int .i64 (rPick data 0 3 st1).1)).set 0 4 rfl rfl (fun _=>by simp) (.bool r.s)).set 0 5 rfl rfl (fun _=>by simp) (.slice r.a r.l r.c)).set 0 6 rfl rfl (fun _=>by simp) (.slice r.b r.m r.d)).set 0 7 rfl rfl (fun _=>by simp) (.slice ea en ec)))
  go_wp2_with fail
  (try simp only [Exit.inBlock,Exit.then])
  refine bodyPost_ret (v:=.agg #[.int .i64 1,.int .i64 0,.int .i64 0,.int .i64 (rPick data 0 3 st1).1,.bool r.s,.slice r.a r.l r.c,.slice r.b r.m r.d,.slice ea en ec]) ?_ rfl ?_
  ·
   rw [results_cell1 rfl]
   have hbk:=(HE.out.at 0 rfl:_=some (Obj.cells #[.int .i64 1,.int .i64 0,.int .i64 0,.int .i64 (rPick data 0 3 st1).1,.bool r.s,.slice r.a r.l r.c,.slice r.b r.m r.d,.slice ea en ec] 48 (0,0)))
   generalize ((((((((wa8.setCell ⟨w.heap.size,0,none⟩ (.int .i64 1)).setCell ⟨w.heap.size,1,none⟩ (.int .i64 0)).setCell ⟨w.heap.size,2,none⟩ (.int .i64 0)).setCell ⟨w.heap.size,3,none⟩ (.int .i64 (rPick data 0 3 st1).1)).setCell ⟨w.heap.size,4,none⟩ (.bool r.s)).setCell ⟨w.heap.size,5,none⟩ (.slice r.a r.l r.c)).setCell ⟨w.heap.size,6,none⟩ (.slice r.b r.m r.d)).setCell ⟨w.heap.size,7,none⟩ (.slice ea en ec))=WE at hbk ⊢
   exact Go.Lib.rl_loadVar_cells 48 _ hiR (fun _=>by kernel_rfl) (w.heap.size) 0 [.int .i64 1,.int .i64 0,.int .i64 0,.int .i64 (rPick data 0 3 st1).1,.bool r.s,.slice r.a r.l r.c,.slice r.b r.m r.d,.slice ea en ec] hzR.symm _ (fun k v hk=>by
    rw [Nat.zero_add]
    exact cell_of_block (j:=k) hbk (by simpa using hk))
  rw [HAB.out]
  obtain ⟨k9,ev9,hy,hs,hk⟩:=(HE.out.only (.cons _ (.cons _ (List.Sublist.refl _))) (fun _ h=>h)).get
  exact ⟨r,ea,en,ec,vs,rfl,HRS.out,HRQ.out,HES.out,HVL.out,HEN.out,HVS.out,k9,ev9,(HBK.out _ _ _ hy).ren (fun x hx=>by simp only [List.mem_append] at hx ⊢;rcases hx with hx | hx | hx;exact .inr (.inl hx);exact .inl hx;exact .inr (.inr hx)),hs,hk⟩
 by_cases h2:op=2
 ·
  subst h2
  have k10:=HN.out.cell 1 0 rfl rfl
  have f10:=HN.out.free 1 0 rfl
  go_wp2_with fail
  clear k10 f10
  refine (rrat_rv data st1 wa2 HN.out HD.out H8.out hn).mono ?_
  rintro e w3 ⟨r,rfl,hrs,hrq,hq⟩
  replace HN:=Lib.hid hq
  clear hq
  have HRS:=Lib.hid hrs
  have HRQ:=Lib.hid hrq
  clear hrs hrq
  have k14:=HN.out.cell 1 4 rfl rfl
  have f14:=HN.out.free 1 4 rfl
  have k15:=HN.out.cell 1 5 rfl rfl
  have f15:=HN.out.free 1 5 rfl
  have k16:=HN.out.cell 1 6 rfl rfl
  have f16:=HN.out.free 1 6 rfl
  go_wp2_with fail
  replace HN:=Lib.hid (show RdW w0 (⟨w.heap.size,48,[.int .i64 0,.int .i64 0,.int .i64 0,.int .i64 0,.bool false,.slice none 0 0,.slice none 0 0,.slice none 0 0]⟩::⟨w1.heap.size,48,[.int .i64 2,.int .i64 0,.int .i64 0,.int .i64 0,.bool r.s,.slice r.a r.l r.c,.slice r.b r.m r.d,.slice none 0 0]⟩::bs) _ pb ba n c _ _ from (((HN.out.set 1 4 rfl rfl (fun _=>by simp) (.bool r.s)).set 1 5 rfl rfl (fun _=>by simp) (.slice r.a r.l r.c)).set 1 6 rfl rfl (fun _=>by simp) (.slice r.b r.m r.d)))
  clear k14 f14 k15 f15 k16 f16
  generalize (((w3.setCell ⟨w1.heap.size,4,none⟩ (.bool r.s)).setCell ⟨w1.heap.size,5,none⟩ (.slice r.a r.l r.c)).setCell ⟨w1.heap.size,6,none⟩ (.slice r.b r.m r.d))=wa4 at HN ⊢
  refine (rents_any data (rRat data st1).2 wa4 HN.out HD.out H8.out hn).mono ?_
  rintro e w5 ⟨ea,en,ec,vs,rfl,hes,hvl,hen,hsh,k9,ev9,hO,hs9,hk9⟩
  obtain ⟨ex,hq,hback⟩:=hO.lendR hs9 hk9
  replace HN:=Lib.hid hq
  have HES:=Lib.hid hes
  have HVL:=Lib.hid hvl
  have HEN:=Lib.hid hen
  have HVS:=Lib.hid hsh
  have HBK:=Lib.hid hback
  clear hq hes hvl hen hsh hback hO hs9 hk9
  have k17:=HN.out.cell 1 7 rfl rfl
  have f17:=HN.out.free 1 7 rfl
  go_upto_region 24 with fail
  replace HN:=Lib.hid (show RdW w0 (⟨w.heap.size,48,[.int .i64 0,.int .i64 0,.int .i64 0,.int .i64 0,.bool false,.slice none 0 0,.slice none 0 0,.slice none 0 0]⟩::⟨w1.heap.size,48,[.int .i64 2,.int .i64 0,.int .i64 0,.int .i64 0,.bool r.s,.slice r.a r.l r.c,.slice r.b r.m r.d,.slice ea en ec]⟩::(bs++ex)) _ pb ba n c _ _ from (HN.out.set 1 7 rfl rfl (fun _=>by simp) (.slice ea en ec)))
  clear k17 f17
  generalize (w5.setCell ⟨w1.heap.size,7,none⟩ (.slice ea en ec))=wa6 at HN ⊢
  have HAB:=Lib.hid (show rAskBody data 2 st1=(⟨2,0,0,0,(rRat data st1).1,(rEntries data (rRat data st1).2).1⟩,(rEntries data (rRat data st1).2).2) from rfl)
  have k00:=HN.out.cell 0 0 rfl rfl
  have f00:=HN.out.free 0 0 rfl
  have k01:=HN.out.cell 0 1 rfl rfl
  have f01:=HN.out.free 0 1 rfl
  have k02:=HN.out.cell 0 2 rfl rfl
  have f02:=HN.out.free 0 2 rfl
  have k03:=HN.out.cell 0 3 rfl rfl
  have f03:=HN.out.free 0 3 rfl
  have k04:=HN.out.cell 0 4 rfl rfl
  have f04:=HN.out.free 0 4 rfl
  have k05:=HN.out.cell 0 5 rfl rfl
  have f05:=HN.out.free 0 5 rfl
  have k06:=HN.out.cell 0 6 rfl rfl
  have f06:=HN.out.free 0 6 rfl
  have k07:=HN.out.cell 0 7 rfl rfl
  have f07:=HN.out.free 0 7 rfl
  have k10:=HN.out.cell 1 0 rfl rfl
  have f10:=HN.out.free 1 0 rfl
  have k11:=HN.out.cell 1 1 rfl rfl
  have f11:=HN.out.free 1 1 rfl
  have k12:=HN.out.cell 1 2 rfl rfl
  have f12:=HN.out.free 1 2 rfl
  have k13:=HN.out.cell 1 3 rfl rfl
  have f13:=HN.out.free 1 3 rfl
  have k14:=HN.out.cell 1 4 rfl rfl
  have f14:=HN.out.free 1 4 rfl
  have k15:=HN.out.cell 1 5 rfl rfl
  have f15:=HN.out.free 1 5 rfl
  have k16:=HN.out.cell 1 6 rfl rfl
  have f16:=HN.out.free 1 6 rfl
  have k17:=HN.out.cell 1 7 rfl rfl
  have f17:=HN.out.free 1 7 rfl
  have HE:=Lib.hid (show RdW w0 (⟨w.heap.size,48,[.int .i64 2,.int .i64 0,.int .i64 0,.int .i64 0,.bool r.s,.slice r.a r.l r.c,.slice r.b r.m r.d,.slice ea en ec]⟩::⟨w1.heap.size,48,[.int .i64 2,.int .i64 0,.int .i64 0,.int .i64 0,.bool r.s,.slice r.a r.l r.c,.slice r.b r.m r.d,.slice ea en ec]⟩::(bs++ex)) _ pb ba n c _ _ from ((((((((HN.out.set 0 0 rfl rfl (fun _=>by simp) (.int .i64 2)).set 0 1 rfl rfl (fun _=>by simp) (.int .i64 0)).set 0 2 rfl rfl (fun _=>by simp) (.int .i64 0)).set 0 3 rfl rfl (fun _=>by simp) (.int .i64 0)).set 0 4 rfl rfl (fun _=>by simp) (.bool r.s)).set 0 5 rfl rfl (fun _=>by simp) (.slice r.a r.l r.c)).set 0 6 rfl rfl (fun _=>by simp) (.slice r.b r.m r.d)).set 0 7 rfl rfl (fun _=>by simp) (.slice ea en ec)))
  go_wp2_with fail
  (try simp only [Exit.inBlock,Exit.then])
  refine bodyPost_ret (v:=.agg #[.int .i64 2,.int .i64 0,.int .i64 0,.int .i64 0,.bool r.s,.slice r.a r.l r.c,.slice r.b r.m r.d,.slice ea en ec]) ?_ rfl ?_
  ·
   rw [results_cell1 rfl]
   have hbk:=(HE.out.at 0 rfl:_=some (Obj.cells #[.int .i64 2,.int .i64 0,.int .i64 0,.int .i64 0,.bool r.s,.slice r.a r.l r.c,.slice r.b r.m r.d,.slice ea en ec] 48 (0,0)))
   generalize ((((((((wa6.setCell ⟨w.heap.size,0,none⟩ (.int .i64 2)).setCell ⟨w.heap.size,1,none⟩ (.int .i64 0)).setCell ⟨w.heap.size,2,none⟩ (.int .i64 0)).setCell ⟨w.heap.size,3,none⟩ (.int .i64 0)).setCell ⟨w.heap.size,4,none⟩ (.bool r.s)).setCell ⟨w.heap.size,5,none⟩ (.slice r.a r.l r.c)).setCell ⟨w.heap.size,6,none⟩ (.slice r.b r.m r.d)).setCell ⟨w.heap.size,7,none⟩ (.slice ea en ec))=WE at hbk ⊢
   exact Go.Lib.rl_loadVar_cells 48 _ hiR (fun _=>by kernel_rfl) (w.heap.size) 0 [.int .i64 2,.int .i64 0,.int .i64 0,.int .i64 0,.bool r.s,.slice r.a r.l r.c,.slice r.b r.m r.d,.slice ea en ec] hzR.symm _ (fun k v hk=>by
    rw [Nat.zero_add]
    exact cell_of_block (j:=k) hbk (by simpa using hk))
  rw [HAB.out]
  obtain ⟨k9,ev9,hy,hs,hk⟩:=(HE.out.only (.cons _ (.cons _ (List.Sublist.refl _))) (fun _ h=>h)).get
  exact ⟨r,ea,en,ec,vs,rfl,HRS.out,HRQ.out,HES.out,HVL.out,HEN.out,HVS.out,k9,ev9,(HBK.out _ _ _ hy).ren (fun x hx=>by simp only [List.mem_append] at hx ⊢;rcases hx with hx | hx | hx;exact .inr (.inl hx);exact .inl hx;exact .inr (.inr hx)),hs,hk⟩
 by_cases h5:op=5
 ·
  subst h5
  have k10:=HN.out.cell 1 0 rfl rfl
  have f10:=HN.out.free 1 0 rfl
  go_wp2_with fail
  clear k10 f10
  refine (rid_any data st1 wa2 HN.out HD.out H8.out hn).mono ?_
  rintro e w3 ⟨rfl,hq⟩
  replace HN:=Lib.hid hq
  clear hq
  have k11:=HN.out.cell 1 1 rfl rfl
  have f11:=HN.out.free 1 1 rfl
  go_wp2_with fail
  replace HN:=Lib.hid (show RdW w0 (⟨w.heap.size,48,[.int .i64 0,.int .i64 0,.int .i64 0,.int .i64 0,.bool false,.slice none 0 0,.slice none 0 0,.slice none 0 0]⟩::⟨w1.heap.size,48,[.int .i64 5,.int .i64 (rId data st1).1,.int .i64 0,.int .i64 0,.bool false,.slice none 0 0,.slice none 0 0,.slice none 0 0]⟩::bs) _ pb ba n c _ _ from (HN.out.set 1 1 rfl rfl (fun _=>by simp) (.int .i64 (rId data st1).1)))
  clear k11 f11
  generalize (w3.setCell ⟨w1.heap.size,1,none⟩ (.int .i64 (rId data st1).1))=wa4 at HN ⊢
  refine (rid_any data (rId data st1).2 wa4 HN.out HD.out H8.out hn).mono ?_
  rintro e w5 ⟨rfl,hq⟩
  replace HN:=Lib.hid hq
  clear hq
  have k12:=HN.out.cell 1 2 rfl rfl
  have f12:=HN.out.free 1 2 rfl
  go_wp2_with fail
  replace HN:=Lib.hid (show RdW w0 (⟨w.heap.size,48,[.int .i64 0,.int .i64 0,.int .i64 0,.int .i64 0,.bool false,.slice none 0 0,.slice none 0 0,.slice none 0 0]⟩::⟨w1.heap.size,48,[.int .i64 5,.int .i64 (rId data st1).1,.int .i64 (rId data (rId data st1).2).1,.int .i64 0,.bool false,.slice none 0 0,.slice none 0 0,.slice none 0 0]⟩::bs) _ pb ba n c _ _ from (HN.out.set 1 2 rfl rfl (fun _=>by simp) (.int .i64 (rId data (rId data st1).2).1)))
  clear k12 f12
  generalize (w5.setCell ⟨w1.heap.size,2,none⟩ (.int .i64 (rId data (rId data st1).2).1))=wa6 at HN ⊢
  refine (rrat_rv data (rId data (rId data st1).2).2 wa6 HN.out HD.out H8.out hn).mono ?_
  rintro e w7 ⟨r,rfl,hrs,hrq,hq⟩
  replace HN:=Lib.hid hq
  clear hq
  have HRS:=Lib.hid hrs
  have HRQ:=Lib.hid hrq
  clear hrs hrq
  have k14:=HN.out.cell 1 4 rfl rfl
  have f14:=HN.out.free 1 4 rfl
  have k15:=HN.out.cell 1 5 rfl rfl
  have f15:=HN.out.free 1 5 rfl
  have k16:=HN.out.cell 1 6 rfl rfl
  have f16:=HN.out.free 1 6 rfl
  go_upto_region 24 with fail
  replace HN:=Lib.hid (show RdW w0 (⟨w.heap.size,48,[.int .i64 0,.int .i64 0,.int .i64 0,.int .i64 0,.bool false,.slice none 0 0,.slice none 0 0,.slice none 0 0]⟩::⟨w1.heap.size,48,[.int .i64 5,.int .i64 (rId data st1).1,.int .i64 (rId data (rId data st1).2).1,.int .i64 0,.bool r.s,.slice r.a r.l r.c,.slice r.b r.m r.d,.slice none 0 0]⟩::bs) _ pb ba n c _ _ from (((HN.out.set 1 4 rfl rfl (fun _=>by simp) (.bool r.s)).set 1 5 rfl rfl (fun _=>by simp) (.slice r.a r.l r.c)).set 1 6 rfl rfl (fun _=>by simp) (.slice r.b r.m r.d)))
  clear k14 f14 k15 f15 k16 f16
  generalize (((w7.setCell ⟨w1.heap.size,4,none⟩ (.bool r.s)).setCell ⟨w1.heap.size,5,none⟩ (.slice r.a r.l r.c)).setCell ⟨w1.heap.size,6,none⟩ (.slice r.b r.m r.d))=wa8 at HN ⊢
  have HAB:=Lib.hid (show rAskBody data 5 st1=(⟨5,(rId data st1).1,(rId data (rId data st1).2).1,0,(rRat data (rId data (rId data st1).2).2).1,[]⟩,(rRat data (rId data (rId data st1).2).2).2) from rfl)
  have k00:=HN.out.cell 0 0 rfl rfl
  have f00:=HN.out.free 0 0 rfl
  have k01:=HN.out.cell 0 1 rfl rfl
  have f01:=HN.out.free 0 1 rfl
  have k02:=HN.out.cell 0 2 rfl rfl
  have f02:=HN.out.free 0 2 rfl
  have k03:=HN.out.cell 0 3 rfl rfl
  have f03:=HN.out.free 0 3 rfl
  have k04:=HN.out.cell 0 4 rfl rfl
  have f04:=HN.out.free 0 4 rfl
  have k05:=HN.out.cell 0 5 rfl rfl
  have f05:=HN.out.free 0 5 rfl
  have k06:=HN.out.cell 0 6 rfl rfl
  have f06:=HN.out.free 0 6 rfl
  have k07:=HN.out.cell 0 7 rfl rfl
  have f07:=HN.out.free 0 7 rfl
  have k10:=HN.out.cell 1 0 rfl rfl
  have f10:=HN.out.free 1 0 rfl
  have k11:=HN.out.cell 1 1 rfl rfl
  have f11:=HN.out.free 1 1 rfl
  have k12:=HN.out.cell 1 2 rfl rfl
  have f12:=HN.out.free 1 2 rfl
  have k13:=HN.out.cell 1 3 rfl rfl
  have f13:=HN.out.free 1 3 rfl
  have k14:=HN.out.cell 1 4 rfl rfl
  have f14:=HN.out.free 1 4 rfl
  have k15:=HN.out.cell 1 5 rfl rfl
  have f15:=HN.out.free 1 5 rfl
  have k16:=HN.out.cell 1 6 rfl rfl
  have f16:=HN.out.free 1 6 rfl
  have k17:=HN.out.cell 1 7 rfl rfl
  have f17:=HN.out.free 1 7 rfl
  have HE:=Lib.hid (show RdW w0 (⟨w.heap.size,48,[.int .i64 5,.int .i64 (rId data st1).1,.int .i64 (rId data (rId data st1).2).1,.int .i64 0,.bool r.s,.slice r.a r.l r.c,.slice r.b r.m r.d,.slice none 0 0]⟩::⟨w1.heap.size,48,[.int .i64 5,.int .i64 (rId data st1).1,.int .i64 (rId data (rId data st1).2).1,.int .i64 0,.bool r.s,.slice r.a r.l r.c,.slice r.b r.m r.d,.slice none 0 0]⟩::bs) _ pb ba n c _ _ from ((((((((HN.out.set 0 0 rfl rfl (fun _=>by simp) (.int .i64 5)).set 0 1 rfl rfl (fun _=>by simp) (.int .i64 (rId data st1).1)).set 0 2 rfl rfl (fun _=>by simp) (.int .i64 (rId data (rId data st1).2).1)).set 0 3 rfl rfl (fun _=>by simp) (.int .i64 0)).set 0 4 rfl rfl (fun _=>by simp) (.bool r.s)).set 0 5 rfl rfl (fun _=>by simp) (.slice r.a r.l r.c)).set 0 6 rfl rfl (fun _=>by simp) (.slice r.b r.m r.d)).set 0 7 rfl rfl (fun _=>by simp) (.slice none 0 0)))
  go_wp2_with fail
  (try simp only [Exit.inBlock,Exit.then])
  refine bodyPost_ret (v:=.agg #[.int .i64 5,.int .i64 (rId data st1).1,.int .i64 (rId data (rId data st1).2).1,.int .i64 0,.bool r.s,.slice r.a r.l r.c,.slice r.b r.m r.d,.slice none 0 0]) ?_ rfl ?_
  ·
   rw [results_cell1 rfl]
   have hbk:=(HE.out.at 0 rfl:_=some (Obj.cells #[.int .i64 5,.int .i64 (rId data st1).1,.int .i64 (rId data (rId data st1).2).1,.int .i64 0,.bool r.s,.slice r.a r.l r.c,.slice r.b r.m r.d,.slice none 0 0] 48 (0,0)))
   generalize ((((((((wa8.setCell ⟨w.heap.size,0,none⟩ (.int .i64 5)).setCell ⟨w.heap.size,1,none⟩ (.int .i64 (rId data st1).1)).setCell ⟨w.heap.size,2,none⟩ (.int .i64 (rId data (rId data st1).2).1)).setCell ⟨w.heap.size,3,none⟩ (.int .i64 0)).setCell ⟨w.heap.size,4,none⟩ (.bool r.s)).setCell ⟨w.heap.size,5,none⟩ (.slice r.a r.l r.c)).setCell ⟨w.heap.size,6,none⟩ (.slice r.b r.m r.d)).setCell ⟨w.heap.size,7,none⟩ (.slice none 0 0))=WE at hbk ⊢
   exact Go.Lib.rl_loadVar_cells 48 _ hiR (fun _=>by kernel_rfl) (w.heap.size) 0 [.int .i64 5,.int .i64 (rId data st1).1,.int .i64 (rId data (rId data st1).2).1,.int .i64 0,.bool r.s,.slice r.a r.l r.c,.slice r.b r.m r.d,.slice none 0 0] hzR.symm _ (fun k v hk=>by
    rw [Nat.zero_add]
    exact cell_of_block (j:=k) hbk (by simpa using hk))
  rw [HAB.out]
  obtain ⟨k9,ev9,hy,hs,hk⟩:=(HE.out.only (.cons _ (.cons _ (List.Sublist.refl _))) (fun _ h=>h)).get
  exact ⟨r,none,0,0,[],rfl,HRS.out,HRQ.out,rfl,rfl,by omega,fun _ h=>(by cases h),k9,ev9,OB.start (hy.only (List.Sublist.refl _) fun x hx=>by simpa [numsE] using hx),hs,hk⟩
 by_cases h7:op=7
 ·
  subst h7
  have k10:=HN.out.cell 1 0 rfl rfl
  have f10:=HN.out.free 1 0 rfl
  go_wp2_with fail
  clear k10 f10
  refine (rid_any data st1 wa2 HN.out HD.out H8.out hn).mono ?_
  rintro e w3 ⟨rfl,hq⟩
  replace HN:=Lib.hid hq
  clear hq
  have k12:=HN.out.cell 1 2 rfl rfl
  have f12:=HN.out.free 1 2 rfl
  go_wp2_with fail
  replace HN:=Lib.hid (show RdW w0 (⟨w.heap.size,48,[.int .i64 0,.int .i64 0,.int .i64 0,.int .i64 0,.bool false,.slice none 0 0,.slice none 0 0,.slice none 0 0]⟩::⟨w1.heap.size,48,[.int .i64 7,.int .i64 0,.int .i64 (rId data st1).1,.int .i64 0,.bool false,.slice none 0 0,.slice none 0 0,.slice none 0 0]⟩::bs) _ pb ba n c _ _ from (HN.out.set 1 2 rfl rfl (fun _=>by simp) (.int .i64 (rId data st1).1)))
  clear k12 f12
  generalize (w3.setCell ⟨w1.heap.size,2,none⟩ (.int .i64 (rId data st1).1))=wa4 at HN ⊢
  refine (rrat_rv data (rId data st1).2 wa4 HN.out HD.out H8.out hn).mono ?_
  rintro e w5 ⟨r,rfl,hrs,hrq,hq⟩
  replace HN:=Lib.hid hq
  clear hq
  have HRS:=Lib.hid hrs
  have HRQ:=Lib.hid hrq
  clear hrs hrq
  have k14:=HN.out.cell 1 4 rfl rfl
  have f14:=HN.out.free 1 4 rfl
  have k15:=HN.out.cell 1 5 rfl rfl
  have f15:=HN.out.free 1 5 rfl
  have k16:=HN.out.cell 1 6 rfl rfl
  have f16:=HN.out.free 1 6 rfl
  go_upto_region 24 with fail
  replace HN:=Lib.hid (show RdW w0 (⟨w.heap.size,48,[.int .i64 0,.int .i64 0,.int .i64 0,.int .i64 0,.bool false,.slice none 0 0,.slice none 0 0,.slice none 0 0]⟩::⟨w1.heap.size,48,[.int .i64 7,.int .i64 0,.int .i64 (rId data st1).1,.int .i64 0,.bool r.s,.slice r.a r.l r.c,.slice r.b r.m r.d,.slice none 0 0]⟩::bs) _ pb ba n c _ _ from (((HN.out.set 1 4 rfl rfl (fun _=>by simp) (.bool r.s)).set 1 5 rfl rfl (fun _=>by simp) (.slice r.a r.l r.c)).set 1 6 rfl rfl (fun _=>by simp) (.slice r.b r.m r.d)))
  clear k14 f14 k15 f15 k16 f16
  generalize (((w5.setCell ⟨w1.heap.size,4,none⟩ (.bool r.s)).setCell ⟨w1.heap.size,5,none⟩ (.slice r.a r.l r.c)).setCell ⟨w1.heap.size,6,none⟩ (.slice r.b r.m r.d))=wa6 at HN ⊢
  have HAB:=Lib.hid (show rAskBody data 7 st1=(⟨7,0,(rId data st1).1,0,(rRat data (rId data st1).2).1,[]⟩,(rRat data (rId data st1).2).2) from rfl)
  have k00:=HN.out.cell 0 0 rfl rfl
  have f00:=HN.out.free 0 0 rfl
  have k01:=HN.out.cell 0 1 rfl rfl
  have f01:=HN.out.free 0 1 rfl
  have k02:=HN.out.cell 0 2 rfl rfl
  have f02:=HN.out.free 0 2 rfl
  have k03:=HN.out.cell 0 3 rfl rfl
  have f03:=HN.out.free 0 3 rfl
  have k04:=HN.out.cell 0 4 rfl rfl
  have f04:=HN.out.free 0 4 rfl
  have k05:=HN.out.cell 0 5 rfl rfl
  have f05:=HN.out.free 0 5 rfl
  have k06:=HN.out.cell 0 6 rfl rfl
  have f06:=HN.out.free 0 6 rfl
  have k07:=HN.out.cell 0 7 rfl rfl
  have f07:=HN.out.free 0 7 rfl
  have k10:=HN.out.cell 1 0 rfl rfl
  have f10:=HN.out.free 1 0 rfl
  have k11:=HN.out.cell 1 1 rfl rfl
  have f11:=HN.out.free 1 1 rfl
  have k12:=HN.out.cell 1 2 rfl rfl
  have f12:=HN.out.free 1 2 rfl
  have k13:=HN.out.cell 1 3 rfl rfl
  have f13:=HN.out.free 1 3 rfl
  have k14:=HN.out.cell 1 4 rfl rfl
  have f14:=HN.out.free 1 4 rfl
  have k15:=HN.out.cell 1 5 rfl rfl
  have f15:=HN.out.free 1 5 rfl
  have k16:=HN.out.cell 1 6 rfl rfl
  have f16:=HN.out.free 1 6 rfl
  have k17:=HN.out.cell 1 7 rfl rfl
  have f17:=HN.out.free 1 7 rfl
  have HE:=Lib.hid (show RdW w0 (⟨w.heap.size,48,[.int .i64 7,.int .i64 0,.int .i64 (rId data st1).1,.int .i64 0,.bool r.s,.slice r.a r.l r.c,.slice r.b r.m r.d,.slice none 0 0]⟩::⟨w1.heap.size,48,[.int .i64 7,.int .i64 0,.int .i64 (rId data st1).1,.int .i64 0,.bool r.s,.slice r.a r.l r.c,.slice r.b r.m r.d,.slice none 0 0]⟩::bs) _ pb ba n c _ _ from ((((((((HN.out.set 0 0 rfl rfl (fun _=>by simp) (.int .i64 7)).set 0 1 rfl rfl (fun _=>by simp) (.int .i64 0)).set 0 2 rfl rfl (fun _=>by simp) (.int .i64 (rId data st1).1)).set 0 3 rfl rfl (fun _=>by simp) (.int .i64 0)).set 0 4 rfl rfl (fun _=>by simp) (.bool r.s)).set 0 5 rfl rfl (fun _=>by simp) (.slice r.a r.l r.c)).set 0 6 rfl rfl (fun _=>by simp) (.slice r.b r.m r.d)).set 0 7 rfl rfl (fun _=>by simp) (.slice none 0 0)))
  go_wp2_with fail
  (try simp only [Exit.inBlock,Exit.then])
  refine bodyPost_ret (v:=.agg #[.int .i64 7,.int .i64 0,.int .i64 (rId data st1).1,.int .i64 0,.bool r.s,.slice r.a r.l r.c,.slice r.b r.m r.d,.slice none 0 0]) ?_ rfl ?_
  ·
   rw [results_cell1 rfl]
   have hbk:=(HE.out.at 0 rfl:_=some (Obj.cells #[.int .i64 7,.int .i64 0,.int .i64 (rId data st1).1,.int .i64 0,.bool r.s,.slice r.a r.l r.c,.slice r.b r.m r.d,.slice none 0 0] 48 (0,0)))
   generalize ((((((((wa6.setCell ⟨w.heap.size,0,none⟩ (.int .i64 7)).setCell ⟨w.heap.size,1,none⟩ (.int .i64 0)).setCell ⟨w.heap.size,2,none⟩ (.int .i64 (rId data st1).1)).setCell ⟨w.heap.size,3,none⟩ (.int .i64 0)).setCell ⟨w.heap.size,4,none⟩ (.bool r.s)).setCell ⟨w.heap.size,5,none⟩ (.slice r.a r.l r.c)).setCell ⟨w.heap.size,6,none⟩ (.slice r.b r.m r.d)).setCell ⟨w.heap.size,7,none⟩ (.slice none 0 0))=WE at hbk ⊢
   exact Go.Lib.rl_loadVar_cells 48 _ hiR (fun _=>by kernel_rfl) (w.heap.size) 0 [.int .i64 7,.int .i64 0,.int .i64 (rId data st1).1,.int .i64 0,.bool r.s,.slice r.a r.l r.c,.slice r.b r.m r.d,.slice none 0 0] hzR.symm _ (fun k v hk=>by
    rw [Nat.zero_add]
    exact cell_of_block (j:=k) hbk (by simpa using hk))
  rw [HAB.out]
  obtain ⟨k9,ev9,hy,hs,hk⟩:=(HE.out.only (.cons _ (.cons _ (List.Sublist.refl _))) (fun _ h=>h)).get
  exact ⟨r,none,0,0,[],rfl,HRS.out,HRQ.out,rfl,rfl,by omega,fun _ h=>(by cases h),k9,ev9,OB.start (hy.only (List.Sublist.refl _) fun x hx=>by simpa [numsE] using hx),hs,hk⟩
 by_cases h6:op=6
 ·
  subst h6
  have k10:=HN.out.cell 1 0 rfl rfl
  have f10:=HN.out.free 1 0 rfl
  go_wp2_with fail
  clear k10 f10
  refine (rid_any data st1 wa2 HN.out HD.out H8.out hn).mono ?_
  rintro e w3 ⟨rfl,hq⟩
  replace HN:=Lib.hid hq
  clear hq
  have k11:=HN.out.cell 1 1 rfl rfl
  have f11:=HN.out.free 1 1 rfl
  go_wp2_with fail
  replace HN:=Lib.hid (show RdW w0 (⟨w.heap.size,48,[.int .i64 0,.int .i64 0,.int .i64 0,.int .i64 0,.bool false,.slice none 0 0,.slice none 0 0,.slice none 0 0]⟩::⟨w1.heap.size,48,[.int .i64 6,.int .i64 (rId data st1).1,.int .i64 0,.int .i64 0,.bool false,.slice none 0 0,.slice none 0 0,.slice none 0 0]⟩::bs) _ pb ba n c _ _ from (HN.out.set 1 1 rfl rfl (fun _=>by simp) (.int .i64 (rId data st1).1)))
  clear k11 f11
  generalize (w3.setCell ⟨w1.heap.size,1,none⟩ (.int .i64 (rId data st1).1))=wa4 at HN ⊢
  refine (rrat_rv data (rId data st1).2 wa4 HN.out HD.out H8.out hn).mono ?_
  rintro e w5 ⟨r,rfl,hrs,hrq,hq⟩
  replace HN:=Lib.hid hq
  clear hq
  have HRS:=Lib.hid hrs
  have HRQ:=Lib.hid hrq
  clear hrs hrq
  have k14:=HN.out.cell 1 4 rfl rfl
  have f14:=HN.out.free 1 4 rfl
  have k15:=HN.out.cell 1 5 rfl rfl
  have f15:=HN.out.free 1 5 rfl
  have k16:=HN.out.cell 1 6 rfl rfl
  have f16:=HN.out.free 1 6 rfl
  go_upto_region 24 with fail
  replace HN:=Lib.hid (show RdW w0 (⟨w.heap.size,48,[.int .i64 0,.int .i64 0,.int .i64 0,.int .i64 0,.bool false,.slice none 0 0,.slice none 0 0,.slice none 0 0]⟩::⟨w1.heap.size,48,[.int .i64 6,.int .i64 (rId data st1).1,.int .i64 0,.int .i64 0,.bool r.s,.slice r.a r.l r.c,.slice r.b r.m r.d,.slice none 0 0]⟩::bs) _ pb ba n c _ _ from (((HN.out.set 1 4 rfl rfl (fun _=>by simp) (.bool r.s)).set 1 5 rfl rfl (fun _=>by simp) (.slice r.a r.l r.c)).set 1 6 rfl rfl (fun _=>by simp) (.slice r.b r.m r.d)))
  clear k14 f14 k15 f15 k16 f16
  generalize (((w5.setCell ⟨w1.heap.size,4,none⟩ (.bool r.s)).setCell ⟨w1.heap.size,5,none⟩ (.slice r.a r.l r.c)).setCell ⟨w1.heap.size,6,none⟩ (.slice r.b r.m r.d))=wa6 at HN ⊢
  have HAB:=Lib.hid (show rAskBody data 6 st1=(⟨6,(rId data st1).1,0,0,(rRat data (rId data st1).2).1,[]⟩,(rRat data (rId data st1).2).2) from rfl)
  have k00:=HN.out.cell 0 0 rfl rfl
  have f00:=HN.out.free 0 0 rfl
  have k01:=HN.out.cell 0 1 rfl rfl
  have f01:=HN.out.free 0 1 rfl
  have k02:=HN.out.cell 0 2 rfl rfl
  have f02:=HN.out.free 0 2 rfl
  have k03:=HN.out.cell 0 3 rfl rfl
  have f03:=HN.out.free 0 3 rfl
  have k04:=HN.out.cell 0 4 rfl rfl
  have f04:=HN.out.free 0 4 rfl
  have k05:=HN.out.cell 0 5 rfl rfl
  have f05:=HN.out.free 0 5 rfl
  have k06:=HN.out.cell 0 6 rfl rfl
  have f06:=HN.out.free 0 6 rfl
  have k07:=HN.out.cell 0 7 rfl rfl
  have f07:=HN.out.free 0 7 rfl
  have k10:=HN.out.cell 1 0 rfl rfl
  have f10:=HN.out.free 1 0 rfl
  have k11:=HN.out.cell 1 1 rfl rfl
  have f11:=HN.out.free 1 1 rfl
  have k12:=HN.out.cell 1 2 rfl rfl
  have f12:=HN.out.free 1 2 rfl
  have k13:=HN.out.cell 1 3 rfl rfl
  have f13:=HN.out.free 1 3 rfl
  have k14:=HN.out.cell 1 4 rfl rfl
  have f14:=HN.out.free 1 4 rfl
  have k15:=HN.out.cell 1 5 rfl rfl
  have f15:=HN.out.free 1 5 rfl
  have k16:=HN.out.cell 1 6 rfl rfl
  have f16:=HN.out.free 1 6 rfl
  have k17:=HN.out.cell 1 7 rfl rfl
  have f17:=HN.out.free 1 7 rfl
  have HE:=Lib.hid (show RdW w0 (⟨w.heap.size,48,[.int .i64 6,.int .i64 (rId data st1).1,.int .i64 0,.int .i64 0,.bool r.s,.slice r.a r.l r.c,.slice r.b r.m r.d,.slice none 0 0]⟩::⟨w1.heap.size,48,[.int .i64 6,.int .i64 (rId data st1).1,.int .i64 0,.int .i64 0,.bool r.s,.slice r.a r.l r.c,.slice r.b r.m r.d,.slice none 0 0]⟩::bs) _ pb ba n c _ _ from ((((((((HN.out.set 0 0 rfl rfl (fun _=>by simp) (.int .i64 6)).set 0 1 rfl rfl (fun _=>by simp) (.int .i64 (rId data st1).1)).set 0 2 rfl rfl (fun _=>by simp) (.int .i64 0)).set 0 3 rfl rfl (fun _=>by simp) (.int .i64 0)).set 0 4 rfl rfl (fun _=>by simp) (.bool r.s)).set 0 5 rfl rfl (fun _=>by simp) (.slice r.a r.l r.c)).set 0 6 rfl rfl (fun _=>by simp) (.slice r.b r.m r.d)).set 0 7 rfl rfl (fun _=>by simp) (.slice none 0 0)))
  go_wp2_with fail
  (try simp only [Exit.inBlock,Exit.then])
  refine bodyPost_ret (v:=.agg #[.int .i64 6,.int .i64 (rId data st1).1,.int .i64 0,.int .i64 0,.bool r.s,.slice r.a r.l r.c,.slice r.b r.m r.d,.slice none 0 0]) ?_ rfl ?_
  ·
   rw [results_cell1 rfl]
   have hbk:=(HE.out.at 0 rfl:_=some (Obj.cells #[.int .i64 6,.int .i64 (rId data st1).1,.int .i64 0,.int .i64 0,.bool r.s,.slice r.a r.l r.c,.slice r.b r.m r.d,.slice none 0 0] 48 (0,0)))
   generalize ((((((((wa6.setCell ⟨w.heap.size,0,none⟩ (.int .i64 6)).setCell ⟨w.heap.size,1,none⟩ (.int .i64 (rId data st1).1)).setCell ⟨w.heap.size,2,none⟩ (.int .i64 0)).setCell ⟨w.heap.size,3,none⟩ (.int .i64 0)).setCell ⟨w.heap.size,4,none⟩ (.bool r.s)).setCell ⟨w.heap.size,5,none⟩ (.slice r.a r.l r.c)).setCell ⟨w.heap.size,6,none⟩ (.slice r.b r.m r.d)).setCell ⟨w.heap.size,7,none⟩ (.slice none 0 0))=WE at hbk ⊢
   exact Go.Lib.rl_loadVar_cells 48 _ hiR (fun _=>by kernel_rfl) (w.heap.size) 0 [.int .i64 6,.int .i64 (rId data st1).1,.int .i64 0,.int .i64 0,.bool r.s,.slice r.a r.l r.c,.slice r.b r.m r.d,.slice none 0 0] hzR.symm _ (fun k v hk=>by
    rw [Nat.zero_add]
    exact cell_of_block (j:=k) hbk (by simpa using hk))
  rw [HAB.out]
  obtain ⟨k9,ev9,hy,hs,hk⟩:=(HE.out.only (.cons _ (.cons _ (List.Sublist.refl _))) (fun _ h=>h)).get
  exact ⟨r,none,0,0,[],rfl,HRS.out,HRQ.out,rfl,rfl,by omega,fun _ h=>(by cases h),k9,ev9,OB.start (hy.only (List.Sublist.refl _) fun x hx=>by simpa [numsE] using hx),hs,hk⟩
 by_cases h8:op=8
 ·
  subst h8
  have k10:=HN.out.cell 1 0 rfl rfl
  have f10:=HN.out.free 1 0 rfl
  go_wp2_with fail
  clear k10 f10
  refine (rpick_any 0 3 data st1 wa2 HN.out HD.out H8.out hn).mono ?_
  rintro e w3 ⟨rfl,hq⟩
  replace HN:=Lib.hid hq
  clear hq
  have k13:=HN.out.cell 1 3 rfl rfl
  have f13:=HN.out.free 1 3 rfl
  go_wp2_with fail
  replace HN:=Lib.hid (show RdW w0 (⟨w.heap.size,48,[.int .i64 0,.int .i64 0,.int .i64 0,.int .i64 0,.bool false,.slice none 0 0,.slice none 0 0,.slice none 0 0]⟩::⟨w1.heap.size,48,[.int .i64 8,.int .i64 0,.int .i64 0,.int .i64 (rPick data 0 3 st1).1,.bool false,.slice none 0 0,.slice none 0 0,.slice none 0 0]⟩::bs) _ pb ba n c _ _ from (HN.out.set 1 3 rfl rfl (fun _=>by simp) (.int .i64 (rPick data 0 3 st1).1)))
  clear k13 f13
  generalize (w3.setCell ⟨w1.heap.size,3,none⟩ (.int .i64 (rPick data 0 3 st1).1))=wa4 at HN ⊢
  refine (rid_any data (rPick data 0 3 st1).2 wa4 HN.out HD.out H8.out hn).mono ?_
  rintro e w5 ⟨rfl,hq⟩
  replace HN:=Lib.hid hq
  clear hq
  have k11:=HN.out.cell 1 1 rfl rfl
  have f11:=HN.out.free 1 1 rfl
  go_upto_region 24 with fail
  replace HN:=Lib.hid (show RdW w0 (⟨w.heap.size,48,[.int .i64 0,.int .i64 0,.int .i64 0,.int .i64 0,.bool false,.slice none 0 0,.slice none 0 0,.slice none 0 0]⟩::⟨w1.heap.size,48,[.int .i64 8,.int .i64 (rId data (rPick data 0 3 st1).2).1,.int .i64 0,.int .i64 (rPick data 0 3 st1).1,.bool false,.slice none 0 0,.slice none 0 0,.slice none 0 0]⟩::bs) _ pb ba n c _ _ from (HN.out.set 1 1 rfl rfl (fun _=>by simp) (.int .i64 (rId data (rPick data 0 3 st1).2).1)))
  clear k11 f11
  generalize (w5.setCell ⟨w1.heap.size,1,none⟩ (.int .i64 (rId data (rPick data 0 3 st1).2).1))=wa6 at HN ⊢
  have HAB:=Lib.hid (show rAskBody data 8 st1=(⟨8,(rId data (rPick data 0 3 st1).2).1,0,(rPick data 0 3 st1).1,0,[]⟩,(rId data (rPick data 0 3 st1).2).2) from rfl)
  replace HN:=Lib.hid HN.out.zero
  have k00:=HN.out.cell 0 0 rfl rfl
  have f00:=HN.out.free 0 0 rfl
  have k01:=HN.out.cell 0 1 rfl rfl
  have f01:=HN.out.free 0 1 rfl
  have k02:=HN.out.cell 0 2 rfl rfl
  have f02:=HN.out.free 0 2 rfl
  have k03:=HN.out.cell 0 3 rfl rfl
  have f03:=HN.out.free 0 3 rfl
  have k04:=HN.out.cell 0 4 rfl rfl
  have f04:=HN.out.free 0 4 rfl
  have k05:=HN.out.cell 0 5 rfl rfl
  have f05:=HN.out.free 0 5 rfl
  have k06:=HN.out.cell 0 6 rfl rfl
  have f06:=HN.out.free 0 6 rfl
  have k07:=HN.out.cell 0 7 rfl rfl
  have f07:=HN.out.free 0 7 rfl
  have k10:=HN.out.cell 1 0 rfl rfl
  have f10:=HN.out.free 1 0 rfl
  have k11:=HN.out.cell 1 1 rfl rfl
  have f11:=HN.out.free 1 1 rfl
  have k12:=HN.out.cell 1 2 rfl rfl
  have f12:=HN.out.free 1 2 rfl
  have k13:=HN.out.cell 1 3 rfl rfl
  have f13:=HN.out.free 1 3 rfl
  have k14:=HN.out.cell 1 4 rfl rfl
  have f14:=HN.out.free 1 4 rfl
  have k15:=HN.out.cell 1 5 rfl rfl
  have f15:=HN.out.free 1 5 rfl
  have k16:=HN.out.cell 1 6 rfl rfl
  have f16:=HN.out.free 1 6 rfl
  have k17:=HN.out.cell 1 7 rfl rfl
  have f17:=HN.out.free 1 7 rfl
  have HE:=Lib.hid (show RdW w0 (⟨w.heap.size,48,[.int .i64 8,.int .i64 (rId data (rPick data 0 3 st1).2).1,.int .i64 0,.int .i64 (rPick data 0 3 st1).1,.bool false,.slice none 0 0,.slice none 0 0,.slice none 0 0]⟩::⟨w1.heap.size,48,[.int .i64 8,.int .i64 (rId data (rPick data 0 3 st1).2).1,.int .i64 0,.int .i64 (rPick data 0 3 st1).1,.bool false,.slice none 0 0,.slice none 0 0,.slice none 0 0]⟩::bs) _ pb ba n c _ _ from ((((((((HN.out.set 0 0 rfl rfl (fun _=>by simp) (.int .i64 8)).set 0 1 rfl rfl (fun _=>by simp) (.int .i64 (rId data (rPick data 0 3 st1).2).1)).set 0 2 rfl rfl (fun _=>by simp) (.int .i64 0)).set 0 3 rfl rfl (fun _=>by simp) (.int .i64 (rPick data 0 3 st1).1)).set 0 4 rfl rfl (fun _=>by simp) (.bool false)).set 0 5 rfl rfl (fun _=>by simp) (.slice none 0 0)).set 0 6 rfl rfl (fun _=>by simp) (.slice none 0 0)).set 0 7 rfl rfl (fun _=>by simp) (.slice none 0 0)))
  go_wp2_with fail
  (try simp only [Exit.inBlock,Exit.then])
  refine bodyPost_ret (v:=.agg #[.int .i64 8,.int .i64 (rId data (rPick data 0 3 st1).2).1,.int .i64 0,.int .i64 (rPick data 0 3 st1).1,.bool false,.slice none 0 0,.slice none 0 0,.slice none 0 0]) ?_ rfl ?_
  ·
   rw [results_cell1 rfl]
   have hbk:=(HE.out.at 0 rfl:_=some (Obj.cells #[.int .i64 8,.int .i64 (rId data (rPick data 0 3 st1).2).1,.int .i64 0,.int .i64 (rPick data 0 3 st1).1,.bool false,.slice none 0 0,.slice none 0 0,.slice none 0 0] 48 (0,0)))
   generalize ((((((((wa6.setCell ⟨w.heap.size,0,none⟩ (.int .i64 8)).setCell ⟨w.heap.size,1,none⟩ (.int .i64 (rId data (rPick data 0 3 st1).2).1)).setCell ⟨w.heap.size,2,none⟩ (.int .i64 0)).setCell ⟨w.heap.size,3,none⟩ (.int .i64 (rPick data 0 3 st1).1)).setCell ⟨w.heap.size,4,none⟩ (.bool false)).setCell ⟨w.heap.size,5,none⟩ (.slice none 0 0)).setCell ⟨w.heap.size,6,none⟩ (.slice none 0 0)).setCell ⟨w.heap.size,7,none⟩ (.slice none 0 0))=WE at hbk ⊢
   exact Go.Lib.rl_loadVar_cells 48 _ hiR (fun _=>by kernel_rfl) (w.heap.size) 0 [.int .i64 8,.int .i64 (rId data (rPick data 0 3 st1).2).1,.int .i64 0,.int .i64 (rPick data 0 3 st1).1,.bool false,.slice none 0 0,.slice none 0 0,.slice none 0 0] hzR.symm _ (fun k v hk=>by
    rw [Nat.zero_add]
    exact cell_of_block (j:=k) hbk (by simpa using hk))
  rw [HAB.out]
  obtain ⟨k9,ev9,hy,hs,hk⟩:=(HE.out.only (.cons _ (.cons _ (List.Sublist.refl _))) (fun _ h=>h)).get
  exact ⟨Rv.zero,none,0,0,[],rfl,Rv.zero_sh,rfl,rfl,rfl,by omega,fun _ h=>(by cases h),k9,ev9,OB.start (hy.only (List.Sublist.refl _) fun x hx=>by simpa [numsE] using hx),hs,hk⟩
 by_cases h3:op=3
 ·
  subst h3
  have k10:=HN.out.cell 1 0 rfl rfl
  have f10:=HN.out.free 1 0 rfl
  go_wp2_with fail
  clear k10 f10
  refine (rid_any data st1 wa2 HN.out HD.out H8.out hn).mono ?_
  rintro e w3 ⟨rfl,hq⟩
  replace HN:=Lib.hid hq
  clear hq
  have k11:=HN.out.cell 1 1 rfl rfl
  have f11:=HN.out.free 1 1 rfl
  go_upto_region 24 with fail
  replace HN:=Lib.hid (show RdW w0 (⟨w.heap.size,48,[.int .i64 0,.int .i64 0,.int .i64 0,.int .i64 0,.bool false,.slice none 0 0,.slice none 0 0,.slice none 0 0]⟩::⟨w1.heap.size,48,[.int .i64 3,.int .i64 (rId data st1).1,.int .i64 0,.int .i64 0,.bool false,.slice none 0 0,.slice none 0 0,.slice none 0 0]⟩::bs) _ pb ba n c _ _ from (HN.out.set 1 1 rfl rfl (fun _=>by simp) (.int .i64 (rId data st1).1)))
  clear k11 f11
  generalize (w3.setCell ⟨w1.heap.size,1,none⟩ (.int .i64 (rId data st1).1))=wa4 at HN ⊢
  have HAB:=Lib.hid (show rAskBody data 3 st1=(⟨3,(rId data st1).1,0,0,0,[]⟩,(rId data st1).2) from rfl)
  replace HN:=Lib.hid HN.out.zero
  have k00:=HN.out.cell 0 0 rfl rfl
  have f00:=HN.out.free 0 0 rfl
  have k01:=HN.out.cell 0 1 rfl rfl
  have f01:=HN.out.free 0 1 rfl
  have k02:=HN.out.cell 0 2 rfl rfl
  have f02:=HN.out.free 0 2 rfl
  have k03:=HN.out.cell 0 3 rfl rfl
  have f03:=HN.out.free 0 3 rfl
  have k04:=HN.out.cell 0 4 rfl rfl
  have f04:=HN.out.free 0 4 rfl
  have k05:=HN.out.cell 0 5 rfl rfl
  have f05:=HN.out.free 0 5 rfl
  have k06:=HN.out.cell 0 6 rfl rfl
  have f06:=HN.out.free 0 6 rfl
  have k07:=HN.out.cell 0 7 rfl rfl
  have f07:=HN.out.free 0 7 rfl
  have k10:=HN.out.cell 1 0 rfl rfl
  have f10:=HN.out.free 1 0 rfl
  have k11:=HN.out.cell 1 1 rfl rfl
  have f11:=HN.out.free 1 1 rfl
  have k12:=HN.out.cell 1 2 rfl rfl
  have f12:=HN.out.free 1 2 rfl
  have k13:=HN.out.cell 1 3 rfl rfl
  have f13:=HN.out.free 1 3 rfl
  have k14:=HN.out.cell 1 4 rfl rfl
  have f14:=HN.out.free 1 4 rfl
  have k15:=HN.out.cell 1 5 rfl rfl
  have f15:=HN.out.free 1 5 rfl
  have k16:=HN.out.cell 1 6 rfl rfl
  have f16:=HN.out.free 1 6 rfl
  have k17:=HN.out.cell 1 7 rfl rfl
  have f17:=HN.out.free 1 7 rfl
  have HE:=Lib.hid (show RdW w0 (⟨w.heap.size,48,[.int .i64 3,.int .i64 (rId data st1).1,.int .i64 0,.int .i64 0,.bool false,.slice none 0 0,.slice none 0 0,.slice none 0 0]⟩::⟨w1.heap.size,48,[.int .i64 3,.int .i64 (rId data st1).1,.int .i64 0,.int .i64 0,.bool false,.slice none 0 0,.slice none 0 0,.slice none 0 0]⟩::bs) _ pb ba n c _ _ from ((((((((HN.out.set 0 0 rfl rfl (fun _=>by simp) (.int .i64 3)).set 0 1 rfl rfl (fun _=>by simp) (.int .i64 (rId data st1).1)).set 0 2 rfl rfl (fun _=>by simp) (.int .i64 0)).set 0 3 rfl rfl (fun _=>by simp) (.int .i64 0)).set 0 4 rfl rfl (fun _=>by simp) (.bool false)).set 0 5 rfl rfl (fun _=>by simp) (.slice none 0 0)).set 0 6 rfl rfl (fun _=>by simp) (.slice none 0 0)).set 0 7 rfl rfl (fun _=>by simp) (.slice none 0 0)))
  go_wp2_with fail
  (try simp only [Exit.inBlock,Exit.then])
  refine bodyPost_ret (v:=.agg #[.int .i64 3,.int .i64 (rId data st1).1,.int .i64 0,.int .i64 0,.bool false,.slice none 0 0,.slice none 0 0,.slice none 0 0]) ?_ rfl ?_
  ·
   rw [results_cell1 rfl]
   have hbk:=(HE.out.at 0 rfl:_=some (Obj.cells #[.int .i64 3,.int .i64 (rId data st1).1,.int .i64 0,.int .i64 0,.bool false,.slice none 0 0,.slice none 0 0,.slice none 0 0] 48 (0,0)))
   generalize ((((((((wa4.setCell ⟨w.heap.size,0,none⟩ (.int .i64 3)).setCell ⟨w.heap.size,1,none⟩ (.int .i64 (rId data st1).1)).setCell ⟨w.heap.size,2,none⟩ (.int .i64 0)).setCell ⟨w.heap.size,3,none⟩ (.int .i64 0)).setCell ⟨w.heap.size,4,none⟩ (.bool false)).setCell ⟨w.heap.size,5,none⟩ (.slice none 0 0)).setCell ⟨w.heap.size,6,none⟩ (.slice none 0 0)).setCell ⟨w.heap.size,7,none⟩ (.slice none 0 0))=WE at hbk ⊢
   exact Go.Lib.rl_loadVar_cells 48 _ hiR (fun _=>by kernel_rfl) (w.heap.size) 0 [.int .i64 3,.int .i64 (rId data st1).1,.int .i64 0,.int .i64 0,.bool false,.slice none 0 0,.slice none 0 0,.slice none 0 0] hzR.symm _ (fun k v hk=>by
    rw [Nat.zero_add]
    exact cell_of_block (j:=k) hbk (by simpa using hk))
  rw [HAB.out]
  obtain ⟨k9,ev9,hy,hs,hk⟩:=(HE.out.only (.cons _ (.cons _ (List.Sublist.refl _))) (fun _ h=>h)).get
  exact ⟨Rv.zero,none,0,0,[],rfl,Rv.zero_sh,rfl,rfl,rfl,by omega,fun _ h=>(by cases h),k9,ev9,OB.start (hy.only (List.Sublist.refl _) fun x hx=>by simpa [numsE] using hx),hs,hk⟩
 by_cases h11:op=11
 ·
  subst h11
  have k10:=HN.out.cell 1 0 rfl rfl
  have f10:=HN.out.free 1 0 rfl
  go_wp2_with fail
  clear k10 f10
  refine (rid_any data st1 wa2 HN.out HD.out H8.out hn).mono ?_
  rintro e w3 ⟨rfl,hq⟩
  replace HN:=Lib.hid hq
  clear hq
  have k11:=HN.out.cell 1 1 rfl rfl
  have f11:=HN.out.free 1 1 rfl
  go_upto_region 24 with fail
  replace HN:=Lib.hid (show RdW w0 (⟨w.heap.size,48,[.int .i64 0,.int .i64 0,.int .i64 0,.int .i64 0,.bool false,.slice none 0 0,.slice none 0 0,.slice none 0 0]⟩::⟨w1.heap.size,48,[.int .i64 11,.int .i64 (rId data st1).1,.int .i64 0,.int .i64 0,.bool false,.slice none 0 0,.slice none 0 0,.slice none 0 0]⟩::bs) _ pb ba n c _ _ from (HN.out.set 1 1 rfl rfl (fun _=>by simp) (.int .i64 (rId data st1).1)))
  clear k11 f11
  generalize (w3.setCell ⟨w1.heap.size,1,none⟩ (.int .i64 (rId data st1).1))=wa4 at HN ⊢
  have HAB:=Lib.hid (show rAskBody data 11 st1=(⟨11,(rId data st1).1,0,0,0,[]⟩,(rId data st1).2) from rfl)
  replace HN:=Lib.hid HN.out.zero
  have k00:=HN.out.cell 0 0 rfl rfl
  have f00:=HN.out.free 0 0 rfl
  have k01:=HN.out.cell 0 1 rfl rfl
  have f01:=HN.out.free 0 1 rfl
  have k02:=HN.out.cell 0 2 rfl rfl
  have f02:=HN.out.free 0 2 rfl
  have k03:=HN.out.cell 0 3 rfl rfl
  have f03:=HN.out.free 0 3 rfl
  have k04:=HN.out.cell 0 4 rfl rfl
  have f04:=HN.out.free 0 4 rfl
  have k05:=HN.out.cell 0 5 rfl rfl
  have f05:=HN.out.free 0 5 rfl
  have k06:=HN.out.cell 0 6 rfl rfl
  have f06:=HN.out.free 0 6 rfl
  have k07:=HN.out.cell 0 7 rfl rfl
  have f07:=HN.out.free 0 7 rfl
  have k10:=HN.out.cell 1 0 rfl rfl
  have f10:=HN.out.free 1 0 rfl
  have k11:=HN.out.cell 1 1 rfl rfl
  have f11:=HN.out.free 1 1 rfl
  have k12:=HN.out.cell 1 2 rfl rfl
  have f12:=HN.out.free 1 2 rfl
  have k13:=HN.out.cell 1 3 rfl rfl
  have f13:=HN.out.free 1 3 rfl
  have k14:=HN.out.cell 1 4 rfl rfl
  have f14:=HN.out.free 1 4 rfl
  have k15:=HN.out.cell 1 5 rfl rfl
  have f15:=HN.out.free 1 5 rfl
  have k16:=HN.out.cell 1 6 rfl rfl
  have f16:=HN.out.free 1 6 rfl
  have k17:=HN.out.cell 1 7 rfl rfl
  have f17:=HN.out.free 1 7 rfl
  have HE:=Lib.hid (show RdW w0 (⟨w.heap.size,48,[.int .i64 11,.int .i64 (rId data st1).1,.int .i64 0,.int .i64 0,.bool false,.slice none 0 0,.slice none 0 0,.slice none 0 0]⟩::⟨w1.heap.size,48,[.int .i64 11,.int .i64 (rId data st1).1,.int .i64 0,.int .i64 0,.bool false,.slice none 0 0,.slice none 0 0,.slice none 0 0]⟩::bs) _ pb ba n c _ _ from ((((((((HN.out.set 0 0 rfl rfl (fun _=>by simp) (.int .i64 11)).set 0 1 rfl rfl (fun _=>by simp) (.int .i64 (rId data st1).1)).set 0 2 rfl rfl (fun _=>by simp) (.int .i64 0)).set 0 3 rfl rfl (fun _=>by simp) (.int .i64 0)).set 0 4 rfl rfl (fun _=>by simp) (.bool false)).set 0 5 rfl rfl (fun _=>by simp) (.slice none 0 0)).set 0 6 rfl rfl (fun _=>by simp) (.slice none 0 0)).set 0 7 rfl rfl (fun _=>by simp) (.slice none 0 0)))
  go_wp2_with fail
  (try simp only [Exit.inBlock,Exit.then])
  refine bodyPost_ret (v:=.agg #[.int .i64 11,.int .i64 (rId data st1).1,.int .i64 0,.int .i64 0,.bool false,.slice none 0 0,.slice none 0 0,.slice none 0 0]) ?_ rfl ?_
  ·
   rw [results_cell1 rfl]
   have hbk:=(HE.out.at 0 rfl:_=some (Obj.cells #[.int .i64 11,.int .i64 (rId data st1).1,.int .i64 0,.int .i64 0,.bool false,.slice none 0 0,.slice none 0 0,.slice none 0 0] 48 (0,0)))
   generalize ((((((((wa4.setCell ⟨w.heap.size,0,none⟩ (.int .i64 11)).setCell ⟨w.heap.size,1,none⟩ (.int .i64 (rId data st1).1)).setCell ⟨w.heap.size,2,none⟩ (.int .i64 0)).setCell ⟨w.heap.size,3,none⟩ (.int .i64 0)).setCell ⟨w.heap.size,4,none⟩ (.bool false)).setCell ⟨w.heap.size,5,none⟩ (.slice none 0 0)).setCell ⟨w.heap.size,6,none⟩ (.slice none 0 0)).setCell ⟨w.heap.size,7,none⟩ (.slice none 0 0))=WE at hbk ⊢
   exact Go.Lib.rl_loadVar_cells 48 _ hiR (fun _=>by kernel_rfl) (w.heap.size) 0 [.int .i64 11,.int .i64 (rId data st1).1,.int .i64 0,.int .i64 0,.bool false,.slice none 0 0,.slice none 0 0,.slice none 0 0] hzR.symm _ (fun k v hk=>by
    rw [Nat.zero_add]
    exact cell_of_block (j:=k) hbk (by simpa using hk))
  rw [HAB.out]
  obtain ⟨k9,ev9,hy,hs,hk⟩:=(HE.out.only (.cons _ (.cons _ (List.Sublist.refl _))) (fun _ h=>h)).get
  exact ⟨Rv.zero,none,0,0,[],rfl,Rv.zero_sh,rfl,rfl,rfl,by omega,fun _ h=>(by cases h),k9,ev9,OB.start (hy.only (List.Sublist.refl _) fun x hx=>by simpa [numsE] using hx),hs,hk⟩
 by_cases h4:op=4
 ·
  subst h4
  have k10:=HN.out.cell 1 0 rfl rfl
  have f10:=HN.out.free 1 0 rfl
  go_wp2_with fail
  clear k10 f10
  refine (rid_any data st1 wa2 HN.out HD.out H8.out hn).mono ?_
  rintro e w3 ⟨rfl,hq⟩
  replace HN:=Lib.hid hq
  clear hq
  have k12:=HN.out.cell 1 2 rfl rfl
  have f12:=HN.out.free 1 2 rfl
  go_upto_region 24 with fail
  replace HN:=Lib.hid (show RdW w0 (⟨w.heap.size,48,[.int .i64 0,.int .i64 0,.int .i64 0,.int .i64 0,.bool false,.slice none 0 0,.slice none 0 0,.slice none 0 0]⟩::⟨w1.heap.size,48,[.int .i64 4,.int .i64 0,.int .i64 (rId data st1).1,.int .i64 0,.bool false,.slice none 0 0,.slice none 0 0,.slice none 0 0]⟩::bs) _ pb ba n c _ _ from (HN.out.set 1 2 rfl rfl (fun _=>by simp) (.int .i64 (rId data st1).1)))
  clear k12 f12
  generalize (w3.setCell ⟨w1.heap.size,2,none⟩ (.int .i64 (rId data st1).1))=wa4 at HN ⊢
  have HAB:=Lib.hid (show rAskBody data 4 st1=(⟨4,0,(rId data st1).1,0,0,[]⟩,(rId data st1).2) from rfl)
  replace HN:=Lib.hid HN.out.zero
  have k00:=HN.out.cell 0 0 rfl rfl
  have f00:=HN.out.free 0 0 rfl
  have k01:=HN.out.cell 0 1 rfl rfl
  have f01:=HN.out.free 0 1 rfl
  have k02:=HN.out.cell 0 2 rfl rfl
  have f02:=HN.out.free 0 2 rfl
  have k03:=HN.out.cell 0 3 rfl rfl
  have f03:=HN.out.free 0 3 rfl
  have k04:=HN.out.cell 0 4 rfl rfl
  have f04:=HN.out.free 0 4 rfl
  have k05:=HN.out.cell 0 5 rfl rfl
  have f05:=HN.out.free 0 5 rfl
  have k06:=HN.out.cell 0 6 rfl rfl
  have f06:=HN.out.free 0 6 rfl
  have k07:=HN.out.cell 0 7 rfl rfl
  have f07:=HN.out.free 0 7 rfl
  have k10:=HN.out.cell 1 0 rfl rfl
  have f10:=HN.out.free 1 0 rfl
  have k11:=HN.out.cell 1 1 rfl rfl
  have f11:=HN.out.free 1 1 rfl
  have k12:=HN.out.cell 1 2 rfl rfl
  have f12:=HN.out.free 1 2 rfl
  have k13:=HN.out.cell 1 3 rfl rfl
  have f13:=HN.out.free 1 3 rfl
  have k14:=HN.out.cell 1 4 rfl rfl
  have f14:=HN.out.free 1 4 rfl
  have k15:=HN.out.cell 1 5 rfl rfl
  have f15:=HN.out.free 1 5 rfl
  have k16:=HN.out.cell 1 6 rfl rfl
  have f16:=HN.out.free 1 6 rfl
  have k17:=HN.out.cell 1 7 rfl rfl
  have f17:=HN.out.free 1 7 rfl
  have HE:=Lib.hid (show RdW w0 (⟨w.heap.size,48,[.int .i64 4,.int .i64 0,.int .i64 (rId data st1).1,.int .i64 0,.bool false,.slice none 0 0,.slice none 0 0,.slice none 0 0]⟩::⟨w1.heap.size,48,[.int .i64 4,.int .i64 0,.int .i64 (rId data st1).1,.int .i64 0,.bool false,.slice none 0 0,.slice none 0 0,.slice none 0 0]⟩::bs) _ pb ba n c _ _ from ((((((((HN.out.set 0 0 rfl rfl (fun _=>by simp) (.int .i64 4)).set 0 1 rfl rfl (fun _=>by simp) (.int .i64 0)).set 0 2 rfl rfl (fun _=>by simp) (.int .i64 (rId data st1).1)).set 0 3 rfl rfl (fun _=>by simp) (.int .i64 0)).set 0 4 rfl rfl (fun _=>by simp) (.bool false)).set 0 5 rfl rfl (fun _=>by simp) (.slice none 0 0)).set 0 6 rfl rfl (fun _=>by simp) (.slice none 0 0)).set 0 7 rfl rfl (fun _=>by simp) (.slice none 0 0)))
  go_wp2_with fail
  (try simp only [Exit.inBlock,Exit.then])
  refine bodyPost_ret (v:=.agg #[.int .i64 4,.int .i64 0,.int .i64 (rId data st1).1,.int .i64 0,.bool false,.slice none 0 0,.slice none 0 0,.slice none 0 0]) ?_ rfl ?_
  ·
   rw [results_cell1 rfl]
   have hbk:=(HE.out.at 0 rfl:_=some (Obj.cells #[.int .i64 4,.int .i64 0,.int .i64 (rId data st1).1,.int .i64 0,.bool false,.slice none 0 0,.slice none 0 0,.slice none 0 0] 48 (0,0)))
   generalize ((((((((wa4.setCell ⟨w.heap.size,0,none⟩ (.int .i64 4)).setCell ⟨w.heap.size,1,none⟩ (.int .i64 0)).setCell ⟨w.heap.size,2,none⟩ (.int .i64 (rId data st1).1)).setCell ⟨w.heap.size,3,none⟩ (.int .i64 0)).setCell ⟨w.heap.size,4,none⟩ (.bool false)).setCell ⟨w.heap.size,5,none⟩ (.slice none 0 0)).setCell ⟨w.heap.size,6,none⟩ (.slice none 0 0)).setCell ⟨w.heap.size,7,none⟩ (.slice none 0 0))=WE at hbk ⊢
   exact Go.Lib.rl_loadVar_cells 48 _ hiR (fun _=>by kernel_rfl) (w.heap.size) 0 [.int .i64 4,.int .i64 0,.int .i64 (rId data st1).1,.int .i64 0,.bool false,.slice none 0 0,.slice none 0 0,.slice none 0 0] hzR.symm _ (fun k v hk=>by
    rw [Nat.zero_add]
    exact cell_of_block (j:=k) hbk (by simpa using hk))
  rw [HAB.out]
  obtain ⟨k9,ev9,hy,hs,hk⟩:=(HE.out.only (.cons _ (.cons _ (List.Sublist.refl _))) (fun _ h=>h)).get
  exact ⟨Rv.zero,none,0,0,[],rfl,Rv.zero_sh,rfl,rfl,rfl,by omega,fun _ h=>(by cases h),k9,ev9,OB.start (hy.only (List.Sublist.refl _) fun x hx=>by simpa [numsE] using hx),hs,hk⟩
 by_cases h10:op=10
 ·
  subst h10
  have k10:=HN.out.cell 1 0 rfl rfl
  have f10:=HN.out.free 1 0 rfl
  go_wp2_with fail
  clear k10 f10
  refine (rid_any data st1 wa2 HN.out HD.out H8.out hn).mono ?_
  rintro e w3 ⟨rfl,hq⟩
  replace HN:=Lib.hid hq
  clear hq
  have k12:=HN.out.cell 1 2 rfl rfl
  have f12:=HN.out.free 1 2 rfl
  go_upto_region 24 with fail
  replace HN:=Lib.hid (show RdW w0 (⟨w.heap.size,48,[.int .i64 0,.int .i64 0,.int .i64 0,.int .i64 0,.bool false,.slice none 0 0,.slice none 0 0,.slice none 0 0]⟩::⟨w1.heap.size,48,[.int .i64 10,.int .i64 0,.int .i64 (rId data st1).1,.int .i64 0,.bool false,.slice none 0 0,.slice none 0 0,.slice none 0 0]⟩::bs) _ pb ba n c _ _ from (HN.out.set 1 2 rfl rfl (fun _=>by simp) (.int .i64 (rId data st1).1)))
  clear k12 f12
  generalize (w3.setCell ⟨w1.heap.size,2,none⟩ (.int .i64 (rId data st1).1))=wa4 at HN ⊢
  have HAB:=Lib.hid (show rAskBody data 10 st1=(⟨10,0,(rId data st1).1,0,0,[]⟩,(rId data st1).2) from rfl)
  replace HN:=Lib.hid HN.out.zero
  have k00:=HN.out.cell 0 0 rfl rfl
  have f00:=HN.out.free 0 0 rfl
  have k01:=HN.out.cell 0 1 rfl rfl
  have f01:=HN.out.free 0 1 rfl
  have k02:=HN.out.cell 0 2 rfl rfl
  have f02:=HN.out.free 0 2 rfl
  have k03:=HN.out.cell 0 3 rfl rfl
  have f03:=HN.out.free 0 3 rfl
  have k04:=HN.out.cell 0 4 rfl rfl
  have f04:=HN.out.free 0 4 rfl
  have k05:=HN.out.cell 0 5 rfl rfl
  have f05:=HN.out.free 0 5 rfl
  have k06:=HN.out.cell 0 6 rfl rfl
  have f06:=HN.out.free 0 6 rfl
  have k07:=HN.out.cell 0 7 rfl rfl
  have f07:=HN.out.free 0 7 rfl
  have k10:=HN.out.cell 1 0 rfl rfl
  have f10:=HN.out.free 1 0 rfl
  have k11:=HN.out.cell 1 1 rfl rfl
  have f11:=HN.out.free 1 1 rfl
  have k12:=HN.out.cell 1 2 rfl rfl
  have f12:=HN.out.free 1 2 rfl
  have k13:=HN.out.cell 1 3 rfl rfl
  have f13:=HN.out.free 1 3 rfl
  have k14:=HN.out.cell 1 4 rfl rfl
  have f14:=HN.out.free 1 4 rfl
  have k15:=HN.out.cell 1 5 rfl rfl
  have f15:=HN.out.free 1 5 rfl
  have k16:=HN.out.cell 1 6 rfl rfl
  have f16:=HN.out.free 1 6 rfl
  have k17:=HN.out.cell 1 7 rfl rfl
  have f17:=HN.out.free 1 7 rfl
  have HE:=Lib.hid (show RdW w0 (⟨w.heap.size,48,[.int .i64 10,.int .i64 0,.int .i64 (rId data st1).1,.int .i64 0,.bool false,.slice none 0 0,.slice none 0 0,.slice none 0 0]⟩::⟨w1.heap.size,48,[.int .i64 10,.int .i64 0,.int .i64 (rId data st1).1,.int .i64 0,.bool false,.slice none 0 0,.slice none 0 0,.slice none 0 0]⟩::bs) _ pb ba n c _ _ from ((((((((HN.out.set 0 0 rfl rfl (fun _=>by simp) (.int .i64 10)).set 0 1 rfl rfl (fun _=>by simp) (.int .i64 0)).set 0 2 rfl rfl (fun _=>by simp) (.int .i64 (rId data st1).1)).set 0 3 rfl rfl (fun _=>by simp) (.int .i64 0)).set 0 4 rfl rfl (fun _=>by simp) (.bool false)).set 0 5 rfl rfl (fun _=>by simp) (.slice none 0 0)).set 0 6 rfl rfl (fun _=>by simp) (.slice none 0 0)).set 0 7 rfl rfl (fun _=>by simp) (.slice none 0 0)))
  go_wp2_with fail
  (try simp only [Exit.inBlock,Exit.then])
  refine bodyPost_ret (v:=.agg #[.int .i64 10,.int .i64 0,.int .i64 (rId data st1).1,.int .i64 0,.bool false,.slice none 0 0,.slice none 0 0,.slice none 0 0]) ?_ rfl ?_
  ·
   rw [results_cell1 rfl]
   have hbk:=(HE.out.at 0 rfl:_=some (Obj.cells #[.int .i64 10,.int .i64 0,.int .i64 (rId data st1).1,.int .i64 0,.bool false,.slice none 0 0,.slice none 0 0,.slice none 0 0] 48 (0,0)))
   generalize ((((((((wa4.setCell ⟨w.heap.size,0,none⟩ (.int .i64 10)).setCell ⟨w.heap.size,1,none⟩ (.int .i64 0)).setCell ⟨w.heap.size,2,none⟩ (.int .i64 (rId data st1).1)).setCell ⟨w.heap.size,3,none⟩ (.int .i64 0)).setCell ⟨w.heap.size,4,none⟩ (.bool false)).setCell ⟨w.heap.size,5,none⟩ (.slice none 0 0)).setCell ⟨w.heap.size,6,none⟩ (.slice none 0 0)).setCell ⟨w.heap.size,7,none⟩ (.slice none 0 0))=WE at hbk ⊢
   exact Go.Lib.rl_loadVar_cells 48 _ hiR (fun _=>by kernel_rfl) (w.heap.size) 0 [.int .i64 10,.int .i64 0,.int .i64 (rId data st1).1,.int .i64 0,.bool false,.slice none 0 0,.slice none 0 0,.slice none 0 0] hzR.symm _ (fun k v hk=>by
    rw [Nat.zero_add]
    exact cell_of_block (j:=k) hbk (by simpa using hk))
  rw [HAB.out]
  obtain ⟨k9,ev9,hy,hs,hk⟩:=(HE.out.only (.cons _ (.cons _ (List.Sublist.refl _))) (fun _ h=>h)).get
  exact ⟨Rv.zero,none,0,0,[],rfl,Rv.zero_sh,rfl,rfl,rfl,by omega,fun _ h=>(by cases h),k9,ev9,OB.start (hy.only (List.Sublist.refl _) fun x hx=>by simpa [numsE] using hx),hs,hk⟩
 have g1:(op==1)=false:=beq_eq_false_iff_ne.2 h1
 have g2:(op==2)=false:=beq_eq_false_iff_ne.2 h2
 have g5:(op==5)=false:=beq_eq_false_iff_ne.2 h5
 have g7:(op==7)=false:=beq_eq_false_iff_ne.2 h7
 have g6:(op==6)=false:=beq_eq_false_iff_ne.2 h6
 have g8:(op==8)=false:=beq_eq_false_iff_ne.2 h8
 have g3:(op==3)=false:=beq_eq_false_iff_ne.2 h3
 have g11:(op==11)=false:=beq_eq_false_iff_ne.2 h11
 have g4:(op==4)=false:=beq_eq_false_iff_ne.2 h4
 have g10:(op==10)=false:=beq_eq_false_iff_ne.2 h10
 have k10:=HN.out.cell 1 0 rfl rfl
 have f10:=HN.out.free 1 0 rfl
 go_upto_region 24 with fail
 clear k10 f10
 have HAB:=Lib.hid (show rAskBody data op st1=(⟨op,0,0,0,0,[]⟩,st1) from by unfold rAskBody;rw [if_neg h1,if_neg h2,if_neg h5,if_neg h7,if_neg h6,if_neg h8,if_neg (by omega),if_neg (by omega)])
 replace HN:=Lib.hid HN.out.zero
 have k00:=HN.out.cell 0 0 rfl rfl
 have f00:=HN.out.free 0 0 rfl
 have k01:=HN.out.cell 0 1 rfl rfl
 have f01:=HN.out.free 0 1 rfl
 have k02:=HN.out.cell 0 2 rfl rfl
 have f02:=HN.out.free 0 2 rfl
 have k03:=HN.out.cell 0 3 rfl rfl
 have f03:=HN.out.free 0 3 rfl
 have k04:=HN.out.cell 0 4 rfl rfl
 have f04:=HN.out.free 0 4 rfl
 have k05:=HN.out.cell 0 5 rfl rfl
 have f05:=HN.out.free 0 5 rfl
 have k06:=HN.out.cell 0 6 rfl rfl
 have f06:=HN.out.free 0 6 rfl
 have k07:=HN.out.cell 0 7 rfl rfl
 have f07:=HN.out.free 0 7 rfl
 have k10:=HN.out.cell 1 0 rfl rfl
 have f10:=HN.out.free 1 0 rfl
 have k11:=HN.out.cell 1 1 rfl rfl
 have f11:=HN.out.free 1 1 rfl
 have k12:=HN.out.cell 1 2 rfl rfl
 have f12:=HN.out.free 1 2 rfl
 have k13:=HN.out.cell 1 3 rfl rfl
 have f13:=HN.out.free 1 3 rfl
 have k14:=HN.out.cell 1 4 rfl rfl
 have f14:=HN.out.free 1 4 rfl
 have k15:=HN.out.cell 1 5 rfl rfl
 have f15:=HN.out.free 1 5 rfl
 have k16:=HN.out.cell 1 6 rfl rfl
 have f16:=HN.out.free 1 6 rfl
 have k17:=HN.out.cell 1 7 rfl rfl
 have f17:=HN.out.free 1 7 rfl
 have HE:=Lib.hid (show RdW w0 (⟨w.heap.size,48,[.int .i64 op,.int .i64 0,.int .i64 0,.int .i64 0,.bool false,.slice none 0 0,.slice none 0 0,.slice none 0 0]⟩::⟨w1.heap.size,48,[.int .i64 op,.int .i64 0,.int .i64 0,.int .i64 0,.bool false,.slice none 0 0,.slice none 0 0,.slice none 0 0]⟩::bs) _ pb ba n c _ _ from ((((((((HN.out.set 0 0 rfl rfl (fun _=>by simp) (.int .i64 op)).set 0 1 rfl rfl (fun _=>by simp) (.int .i64 0)).set 0 2 rfl rfl (fun _=>by simp) (.int .i64 0)).set 0 3 rfl rfl (fun _=>by simp) (.int .i64 0)).set 0 4 rfl rfl (fun _=>by simp) (.bool false)).set 0 5 rfl rfl (fun _=>by simp) (.slice none 0 0)).set 0 6 rfl rfl (fun _=>by simp) (.slice none 0 0)).set 0 7 rfl rfl (fun _=>by simp) (.slice none 0 0)))
 go_wp2_with fail
 (try simp only [Exit.inBlock,Exit.then])
 refine bodyPost_ret (v:=.agg #[.int .i64 op,.int .i64 0,.int .i64 0,.int .i64 0,.bool false,.slice none 0 0,.slice none 0 0,.slice none 0 0]) ?_ rfl ?_
 ·
  rw [results_cell1 rfl]
  have hbk:=(HE.out.at 0 rfl:_=some (Obj.cells #[.int .i64 op,.int .i64 0,.int .i64 0,.int .i64 0,.bool false,.slice none 0 0,.slice none 0 0,.slice none 0 0] 48 (0,0)))
  generalize ((((((((wa2.setCell ⟨w.heap.size,0,none⟩ (.int .i64 op)).setCell ⟨w.heap.size,1,none⟩ (.int .i64 0)).setCell ⟨w.heap.size,2,none⟩ (.int .i64 0)).setCell ⟨w.heap.size,3,none⟩ (.int .i64 0)).setCell ⟨w.heap.size,4,none⟩ (.bool false)).setCell ⟨w.heap.size,5,none⟩ (.slice none 0 0)).setCell ⟨w.heap.size,6,none⟩ (.slice none 0 0)).setCell ⟨w.heap.size,7,none⟩ (.slice none 0 0))=WE at hbk ⊢
  exact Go.Lib.rl_loadVar_cells 48 _ hiR (fun _=>by kernel_rfl) (w.heap.size) 0 [.int .i64 op,.int .i64 0,.int .i64 0,.int .i64 0,.bool false,.slice none 0 0,.slice none 0 0,.slice none 0 0] hzR.symm _ (fun k v hk=>by
   rw [Nat.zero_add]
   exact cell_of_block (j:=k) hbk (by simpa using hk))
 rw [HAB.out]
 obtain ⟨k9,ev9,hy,hs,hk⟩:=(HE.out.only (.cons _ (.cons _ (List.Sublist.refl _))) (fun _ h=>h)).get
 exact ⟨Rv.zero,none,0,0,[],rfl,Rv.zero_sh,rfl,rfl,rfl,by omega,fun _ h=>(by cases h),k9,ev9,OB.start (hy.only (List.Sublist.refl _) fun x hx=>by simpa [numsE] using hx),hs,hk⟩
end Go.Proofs.YtmhainidincjhaaGreatDoor
