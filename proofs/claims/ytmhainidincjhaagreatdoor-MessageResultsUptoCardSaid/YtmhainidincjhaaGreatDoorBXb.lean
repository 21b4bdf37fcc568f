/-
 What the laws stand on, part Xb: contracts and plain laws of RInt, RAns, RRng, RTld, RRes; the conditions are each law's own.
-/
import Derived.Test.YtmhainidincjhaaGreatDoorBT
import Derived.Test.YtmhainidincjhaaGreatDoorBN
import Derived.Test.YtmhainidincjhaaGreatDoorBK
import Derived.Test.YtmhainidincjhaaGreatDoorBU
import Derived.Test.YtmhainidincjhaaGreatDoorBV
import Derived.Test.YtmhainidincjhaaGreatDoorBXa
import Derived.Deep.CutBlock
import Derived.Deep.MidRow
import Derived.Test.YtmhainidincjhaaGreatDoorBQ
set_option linter.unusedVariables false
set_option linter.unusedSimpArgs false
set_option maxRecDepth 100000
set_option maxHeartbeats 16000000
namespace Go.Proofs.YtmhainidincjhaaGreatDoor
open Go.RowKit Go.Extern.Stop Go.Stop Go.Extern
theorem or_low (a x:Nat) (ha:a*256<18446744073709551616) (hx:x<256):bits .or .u64 ((a*256:Nat):Int) (x:Int)=((a*256+x:Nat):Int):=by
 show IntKind.u64.wrap ((BitVec.ofInt 64 ((a*256:Nat):Int) ||| BitVec.ofInt 64 (x:Int)).toNat:Int)=_
 have e1:(BitVec.ofInt 64 ((a*256:Nat):Int)).toNat=a*256:=by rw [BitVec.toNat_ofInt];omega
 have e2:(BitVec.ofInt 64 (x:Int)).toNat=x:=by rw [BitVec.toNat_ofInt];omega
 have e3:=Nat.shiftLeft_add_eq_or_of_lt (i:=8) (b:=x) hx a
 rw [Nat.shiftLeft_eq] at e3
 rw [BitVec.toNat_or,e1,e2,show a*256=a*2^8 from rfl,← e3]
 unfold IntKind.wrap
 simp [IntKind.bits,IntKind.signed]
 omega
theorem wrap_back (m:Nat) (hm:m<18446744073709551616):wrap64 (m:Int)=wrapI m:=by
 unfold wrapI wrap64
 split <;> omega
theorem rint_go {w0:World} {bs:List Bk} {ns:List Nm} {pb:Nat} {ba:Option Addr} {n c:Nat} (ys:List Nat) (st:RS) (w:World) (hl:ys.length=8) (h8:∀ x,x∈ys→x<256) (HNX:Hid (Calls Tryz.prog 111 #[.pointer (some ⟨pb,0,none⟩),.int .i64 8] w (NextR w0 bs ns pb ba n c 8 ys st))) :
  Calls Tryz.prog 112 #[.pointer (some ⟨pb,0,none⟩)] w (IntR w0 bs ns pb ba n c (wrapI (undig 256 ys)) st):=by
 go_enter Tryz.func112,Tryz.ntmps112
 go_wp2_with fail
 refine HNX.out.mono ?_
 rintro e w1 ⟨a1,c1,rfl,hby,hr,_⟩
 have HR:=qH hr
 have HBY:=qH hby
 have hc1:=hby.len
 have hc2:8≤c1:=hc1.2.1
 have hc3:c1≤9223372036854775807:=hc1.2.2.1
 have HY8:=qH (And.intro hl h8)
 clear hby hc1 HNX hr hl h8
 go_wp2_with fail
 go_loopw [3,9] (fun v3 v9 wr=>∃ (k m:Nat),k≤8∧v9=.int .i64 k∧v3=.int .u64 m∧m=undig 256 (ys.take k)∧wr=w1) (fun _ v9 _=>8 - (intOf v9).toNat)
 case atStart=>exact ⟨0,0,by omega,rfl,rfl,rfl,rfl⟩
 case round =>
  obtain ⟨k,m,hk,rfl,rfl,hm,rfl⟩:=hrel
  by_cases hlt:k<8
  ·
   have hkl:k<ys.length:=by rw [HY8.out.1];exact hlt
   obtain ⟨b,o,rfl,hb,hc⟩:=HBY.out.get k (List.getElem?_eq_getElem hkl)
   have hx:=HY8.out.2 ys[k] (List.getElem_mem hkl)
   have hsn:undig 256 (ys.take (k+1))=undig 256 (ys.take k)*256+ys[k]:=by rw [List.take_add_one,List.getElem?_eq_getElem hkl];exact undig_snoc 256 _ _
   rw [← hm] at hsn
   have hml:m<256^k:=by
    have h:=undig_lt (B:=256) (ys.take k) (fun x hx=>HY8.out.2 x (List.mem_of_mem_take hx))
    rw [← hm,List.length_take,Nat.min_eq_left (by omega)] at h
    exact h
   have hm2:m*256<18446744073709551616:=by
    have h:=Nat.pow_le_pow_right (n:=256) (by omega) (show k≤7 by omega)
    omega
   generalize ys[k]=x at hc hx hsn
   have e1:IntKind.u64.wrap ((m:Int)*256)=((m*256:Nat):Int):=by unfold IntKind.wrap;simp [IntKind.bits,IntKind.signed];omega
   have e2:=or_low m x hm2 hx
   have HSN:=qH hsn
   obtain ⟨y,hy⟩:∃ y,m*256=y:=⟨_,rfl⟩
   rw [hy] at e1 e2 HSN hm2
   obtain ⟨z,hz⟩:∃ z,y+x=z:=⟨_,rfl⟩
   rw [hz] at e2 HSN
   clear hsn hm hml hkl hy hz
   go_wp2_with fail
   go_roundw
   case rel=>exact ⟨k+1,z,by omega,by go_num,by go_num,HSN.out.symm,by trivial⟩
   case measure=>simp [intOf];omega
  ·
   obtain rfl:k=8:=by omega
   rw [List.take_of_length_le (by rw [HY8.out.1];exact Nat.le_refl _)] at hm
   have hml:m<18446744073709551616:=by
    have h:=undig_lt (B:=256) ys HY8.out.2
    rw [← hm,HY8.out.1] at h
    exact h
   have HWB:=qH (wrap_back m hml)
   have HM:=qH hm
   clear hm
   go_wp2_with fail
   go_ret
   exact ⟨congrArg (fun z=>Ending.returned (.int .i64 z)) (HWB.out.trans (by rw [HM.out])),HR.out⟩
theorem rdint_any {w0:World} {bs:List Bk} {ns:List Nm} {pb:Nat} {ba:Option Addr} {n c:Nat} (data:List Nat) (st:RS) (w:World) (h:RdW w0 bs ns pb ba n c st w) (hd:BytesN w0 (.slice ba n c) data) (hb:∀ x,x∈data→x<256) (hn:n≤1099511627776) :
  Calls Tryz.prog 112 #[.pointer (some ⟨pb,0,none⟩)] w (IntR w0 bs ns pb ba n c (rInt data st).1 (rInt data st).2) :=
 rint_go _ _ w (rNext_len data 8 st) (rNext_lt hb 8 st) (qH (rnext_any 8 data st w h hd hn (by omega)))
theorem Tryz.underlying115v:Tryz.prog.underlying 115=some (.slice 45):=by kernel_rfl
theorem Tryz.infoAns:(Tryz.prog.info? 117).map (fun i=>(i.zero,i.size,i.bytes))=some (some (.agg #[.int .i64 0,.bool false,.slice none 0 0,.slice none 0 0,.slice none 0 0]),5,88):=by kernel_rfl
theorem OB.only {w W:World} {bs bs':List Bk} {ns:List Nm} {T:TypeId} {sz:Nat} {a:Option Addr} {n c:Nat} {cs:List Value} (h:OB w bs ns T sz a n c cs W) (hb:bs'.Sublist bs):OB w bs' ns T sz a n c cs W:=⟨h.st.only hb fun _ h=>h,h.mid,fun k hk b hb2=>h.nod k hk b (hb.subset hb2),h.hd⟩
def numsV (vs:List Rv):List Nm:=vs.flatMap Rv.nums
theorem pts_first (vs:List Rv):∀ s,(vs.flatMap Rv.cells)[0]?≠some (.string s):=fun s=>by
 cases vs with
 | nil=>simp
 | cons v vs=>simp [Rv.cells]
def AnsR (w0:World) (bs:List Bk) (ns:List Nm) (pb:Nat) (ba:Option Addr) (n c:Nat) (q:Ans) (st:RS) (e:Ending) (w':World):Prop :=
 ∃ r pa pn pc vs,e=.returned (.agg #[.int .i64 q.out,.bool r.s,.slice r.a r.l r.c,.slice r.b r.m r.d,.slice pa pn pc])∧Rv.sh r∧r.q=q.value∧qs vs=q.point∧vs.length=pn∧pn≤255∧(∀ v,v∈vs→v.sh)∧∃ k ev,OB w0 (rBox pb ba n c k ev::bs) (r.nums++(numsV vs++ns)) 45 3 pa pn pc (vs.flatMap Rv.cells) w'∧RSt w' pb n k ev st∧k≤n
theorem rans_any {w0:World} {bs:List Bk} {ns:List Nm} {pb:Nat} {ba:Option Addr} {n c:Nat} (data:List Nat) (st:RS) (w:World) (h:RdW w0 bs ns pb ba n c st w) (hd:BytesN w0 (.slice ba n c) data) (h8:∀ x,x∈data→x<256) (hn:n≤1099511627776) :
  Calls Tryz.prog 169 #[.pointer (some ⟨pb,0,none⟩)] w (AnsR w0 bs ns pb ba n c (rAns data st).1 (rAns data st).2):=by
 obtain ⟨i0,hi,hz0,hz1,hz2⟩:=info_parts Tryz.infoRat
 obtain ⟨iR,hiR,_,hzR,_⟩:=info_parts Tryz.infoAns
 unfold rAns
 have hP:=fun (bs:List Bk) (W:World) (h:RdW w0 bs ns pb ba n c st W)=>rpick_any 1 3 data st W h hd h8 hn
 generalize (rPick data 1 3 st).1=out at hP ⊢
 generalize (rPick data 1 3 st).2=st1 at hP ⊢
 have HP:=qH hP
 have HD:=qH hd
 have H8:=qH h8
 clear hd h8 hP
 obtain ⟨W0,hW0⟩:∃ W0,W0=(w.alloc (.cells #[.int .i64 0,.bool false,.slice none 0 0,.slice none 0 0,.slice none 0 0] 117)):=⟨_,rfl⟩
 have hn0:RdW w0 (⟨w.heap.size,117,[.int .i64 0,.bool false,.slice none 0 0,.slice none 0 0,.slice none 0 0]⟩::bs) ns pb ba n c st (w.alloc (.cells #[.int .i64 0,.bool false,.slice none 0 0,.slice none 0 0,.slice none 0 0] 117)):=(h.alloc (p:=w.heap.size) rfl 117 [.int .i64 0,.bool false,.slice none 0 0,.slice none 0 0,.slice none 0 0] rfl).ins 0
 rw [← hW0] at hn0
 have HW0:=qH hW0
 have HN:=qH hn0
 clear hW0 hn0
 clear h
 go_enter Tryz.func169,Tryz.ntmps169
 go_upto_region 1 with fail
 rw [← HW0.out]
 go_wp2_with fail
 refine (HP.out _ W0 HN.out).mono ?_
 rintro e w1 ⟨rfl,hq⟩
 replace HN:=qH hq
 clear hq
 have HN0:=HN
 clear HN
 have HN:=qH (show RdW w0 (⟨w.heap.size,117,[.int .i64 0,.bool false,.slice none 0 0,.slice none 0 0,.slice none 0 0]⟩::⟨w1.heap.size,117,[.int .i64 out,.bool false,.slice none 0 0,.slice none 0 0,.slice none 0 0]⟩::bs) _ pb ba n c _ _ from (HN0.out.alloc (p:=w1.heap.size) rfl 117 [.int .i64 out,.bool false,.slice none 0 0,.slice none 0 0,.slice none 0 0] rfl).ins 1)
 go_upto_region 2 with fail
 replace HN:=qH (show RdW w0 (⟨w.heap.size,117,[.int .i64 0,.bool false,.slice none 0 0,.slice none 0 0,.slice none 0 0]⟩::⟨w1.heap.size,117,[.int .i64 out,.bool false,.slice none 0 0,.slice none 0 0,.slice none 0 0]⟩::bs) _ pb ba n c _ _ from HN.out)
 generalize (w1.alloc (.cells #[.int .i64 out,.bool false,.slice none 0 0,.slice none 0 0,.slice none 0 0] 117))=wa2 at HN ⊢
 by_cases ho:out=1
 ·
  subst ho
  have HAB:=qH (show rAnsBody data 1 st1=(⟨1,(rRat data st1).1,(rPoint data (rRat data st1).2).1⟩,(rPoint data (rRat data st1).2).2) from rfl)
  have k10:=HN.out.cell 1 0 rfl rfl
  have f10:=HN.out.free 1 0 rfl
  go_wp2_with fail
  clear k10 f10
  refine (rrat_rv data st1 wa2 HN.out HD.out H8.out hn).mono ?_
  rintro e w3 ⟨r,rfl,hrs,hrq,hq⟩
  replace HN:=qH hq
  clear hq
  have HRS:=qH hrs
  have HRQ:=qH hrq
  clear hrs hrq
  have k11:=HN.out.cell 1 1 rfl rfl
  have f11:=HN.out.free 1 1 rfl
  have k12:=HN.out.cell 1 2 rfl rfl
  have f12:=HN.out.free 1 2 rfl
  have k13:=HN.out.cell 1 3 rfl rfl
  have f13:=HN.out.free 1 3 rfl
  go_wp2_with fail
  replace HN:=qH (show RdW w0 (⟨w.heap.size,117,[.int .i64 0,.bool false,.slice none 0 0,.slice none 0 0,.slice none 0 0]⟩::⟨w1.heap.size,117,[.int .i64 1,.bool r.s,.slice r.a r.l r.c,.slice r.b r.m r.d,.slice none 0 0]⟩::bs) _ pb ba n c _ _ from (((HN.out.set 1 1 rfl rfl (fun _=>by simp) (.bool r.s)).set 1 2 rfl rfl (fun _=>by simp) (.slice r.a r.l r.c)).set 1 3 rfl rfl (fun _=>by simp) (.slice r.b r.m r.d)))
  clear k11 f11 k12 f12 k13 f13
  generalize (((w3.setCell ⟨w1.heap.size,1,none⟩ (.bool r.s)).setCell ⟨w1.heap.size,2,none⟩ (.slice r.a r.l r.c)).setCell ⟨w1.heap.size,3,none⟩ (.slice r.b r.m r.d))=wa4 at HN ⊢
  refine (rpick_any 0 64 data (rRat data st1).2 wa4 HN.out HD.out H8.out hn).mono ?_
  rintro e w5 ⟨rfl,hq⟩
  replace HN:=qH hq
  clear hq
  have hN0:=pick_nonneg data 0 64 (rRat data st1).2
  have hN1:=rPick_le H8.out 0 64 (rRat data st1).2
  have HPT:=qH (show rPoint data (rRat data st1).2=rRats data (rPick data 0 64 (rRat data st1).2).1.toNat (rPick data 0 64 (rRat data st1).2).2 [] from rfl)
  generalize (rPick data 0 64 (rRat data st1).2).1=z at hN0 hN1 HPT ⊢
  generalize (rPick data 0 64 (rRat data st1).2).2=st2 at HN HPT
  obtain ⟨m,rfl⟩:∃ m:Nat,z=(m:Int):=⟨z.toNat,by omega⟩
  rw [Int.toNat_natCast] at HPT
  have hm:m≤255:=by omega
  clear hN0 hN1
  go_upto_region 6 with fail
  go_loopw [16] (fun v16 wr=>∃ (j:Nat) (a:Option Addr) (pc:Nat) (vs:List Rv) (st:RS) (k:Nat) (ev:Value),j≤m∧v16=.int .i64 j∧vs.length=j∧(∀ v,v∈vs→v.sh)∧rRats data m st2 []=rRats data (m - j) st (qs vs)∧OB w0 (rBox pb ba n c k ev::⟨w.heap.size,117,[.int .i64 0,.bool false,.slice none 0 0,.slice none 0 0,.slice none 0 0]⟩::⟨w1.heap.size,117,[.int .i64 1,.bool r.s,.slice r.a r.l r.c,.slice r.b r.m r.d,.slice a j pc]⟩::bs) (numsV vs++(r.nums++ns)) 45 3 a j pc (vs.flatMap Rv.cells) wr∧RSt wr pb n k ev st∧k≤n) (fun v16 _=>m - (intOf v16).toNat)
  case atStart =>
   obtain ⟨k,ev,hy,hs,hk⟩:=HN.out.get
   exact ⟨0,none,0,[],st2,k,ev,Nat.zero_le _,rfl,rfl,fun _ h=>(by cases h),rfl,OB.start hy,hs,hk⟩
  case round =>
   obtain ⟨j,a,pc,vs,st,k,ev,hj,rfl,hvl,hsh,hR,hO,hs,hk⟩:=hrel
   have HVL:=qH hvl
   have HSH:=qH hsh
   clear hvl hsh HN
   by_cases hlt:j<m
   ·
    obtain ⟨M,hM⟩:∃ M,m - j=M+1:=⟨m - j - 1,by omega⟩
    rw [hM,show rRats data (M+1) st (qs vs)=rRats data M (rRat data st).2 (qs vs++[(rRat data st).1]) from rfl,show M=m - (j+1) by omega] at hR
    have HR:=qH hR
    obtain ⟨ex,hst,hback⟩:=hO.lend
    have HBK:=qH (fun (k:Nat) (ev:Value) (ns2:List Nm) (W:World) (h:BS w0 (rBox pb ba n c k ev::⟨w.heap.size,117,[.int .i64 0,.bool false,.slice none 0 0,.slice none 0 0,.slice none 0 0]⟩::⟨w1.heap.size,117,[.int .i64 1,.bool r.s,.slice r.a r.l r.c,.slice r.b r.m r.d,.slice a j pc]⟩::(bs++ex)) ns2 W)=>hback (rBox pb ba n c k ev::⟨w.heap.size,117,[.int .i64 0,.bool false,.slice none 0 0,.slice none 0 0,.slice none 0 0]⟩::⟨w1.heap.size,117,[.int .i64 1,.bool r.s,.slice r.a r.l r.c,.slice r.b r.m r.d,.slice a j pc]⟩::bs) ns2 W h)
    have HN:=qH (show RdW w0 (⟨w.heap.size,117,[.int .i64 0,.bool false,.slice none 0 0,.slice none 0 0,.slice none 0 0]⟩::⟨w1.heap.size,117,[.int .i64 1,.bool r.s,.slice r.a r.l r.c,.slice r.b r.m r.d,.slice a j pc]⟩::(bs++ex)) (numsV vs++(r.nums++ns)) pb ba n c st wr from ⟨k,ev,hst,hs,hk⟩)
    clear hR hst hback hO hs hk hM
    go_upto_region 7 with fail
    replace HN:=qH (HN.out.call (Below.refl _ _).drew)
    refine wp_region_held_drew (S:=fun _=>True) (by kernel_rfl) (trivial) (fun hHeld=>?_)
    generalize wr.drew=wd at HN hHeld ⊢
    refine tm 0 (some 18) ?_
    refine tm 2 (some 20) ?_
    refine wpAnyH_ready (rs:=[1,3]) (by kernel_rfl) (by simp) ?_
    refine (AllReadyH.cons rfl (fun K hK=>?_) (AllReadyH.cons rfl (fun K hK=>?_) AllReadyH.nil))
    ·
     skip
     have k0:=HN.out.cell 1 4 rfl rfl
     go_simp
     clear k0
     refine hK.out _ _ (trivial) (fun hHeld2=>?_)
     clear hK K hHeld
     rename _=>hHeld
     try simp only [Act.put,stB,stZ,stS]
     refine wpAnyH_ready (rs:=[3]) (by kernel_rfl) (by simp) ?_
     refine (AllReadyH.cons rfl (fun K hK=>?_) AllReadyH.nil)
     go_simp
     refine (rrat_rv data st wd HN.out HD.out H8.out hn).mono ?_
     rintro e wd ⟨x,rfl,hxs,hxq,hq⟩
     replace HN:=qH hq
     have HXS:=qH hxs
     have HXQ:=qH hxq
     clear hq hxs hxq
     go_wp2_with fail
     refine hK.out _ _ (trivial) (fun hHeld2=>?_)
     clear hK K hHeld
     rename _=>hHeld
     try simp only [Act.put,stB,stZ,stS]
     refine wpAnyH_ready (rs:=[4]) (by kernel_rfl) (by simp) ?_
     refine (AllReadyH.cons rfl (fun K hK=>?_) AllReadyH.nil)
     go_simp
     refine hK.out _ _ (trivial) (fun hHeld2=>?_)
     clear hK K hHeld
     rename _=>hHeld
     try simp only [Act.put,stB,stZ,stS]
     refine wpAnyH_ready (rs:=[5]) (by kernel_rfl) (by simp) ?_
     refine (AllReadyH.cons rfl (fun K hK=>?_) AllReadyH.nil)
     obtain ⟨k9,ev9,hy,hs9,hk9⟩:=HN.out.get
     have HO:=qH (HBK.out _ _ _ _ hy)
     have HS9:=qH hs9
     have HK9:=qH hk9
     clear hy hs9 hk9
     refine step_append_at (a0:=a) (c0:=pc) rfl _ _ 115 115 rfl i0 (.agg #[.bool false,.slice none 0 0,.slice none 0 0]) 56 Tryz.underlying115v hi hz0 hz1 hz2 rfl rfl (HO.out.mid.alloc (.cells #[.bool x.s,.slice x.a x.l x.c,.slice x.b x.m x.d] 45)) _ rfl 1 [.bool x.s,.slice x.a x.l x.c,.slice x.b x.m x.d] ((Sl.lit _ 45 3 1 [.bool x.s,.slice x.a x.l x.c,.slice x.b x.m x.d] (by unfold maxLen;omega) rfl).src (P:=Tryz.prog) Tryz.underlying115v (by
      intro u hu
      simp only [List.mem_cons,List.not_mem_nil,or_false] at hu
      rcases hu with rfl | rfl | rfl <;> rfl)) (by unfold maxLen;omega) (by omega) (Nat.le_trans HO.out.st.bel.size (belowBox _ _).size) ?_
     intro a6 c6 w6 hmo hgo hbo hao
     replace HS9:=qH (RSt.keeps HS9.out (grown_keeps hgo) fun b hb=>HO.out.first (by omega) (pts_first vs) b hb)
     replace HO:=qH (HO.out.push (by decide) (by omega) hmo hgo hbo hao)
     clear hmo hgo hbo hao HN
     refine hK.out _ _ (trivial) (fun hHeld2=>?_)
     clear hK K hHeld
     rename _=>hHeld
     try simp only [Act.put,stB,stZ,stS]
     refine tm 6 (some 24) ?_
     refine wpAnyH_ready (rs:=[7]) (by kernel_rfl) (by simp) ?_
     refine (AllReadyH.cons rfl (fun K hK=>?_) AllReadyH.nil)
     have k0:=HO.out.st.cell 2 4 rfl rfl
     have f0:=HO.out.st.free 2 4 rfl
     go_simp
     clear k0 f0
     refine hK.out _ _ (trivial) (fun hHeld2=>?_)
     clear hK K hHeld
     rename _=>hHeld
     try simp only [Act.put,stB,stZ,stS]
     refine wpAnyH_done (by kernel_rfl) ?_ _
     have HO7:=qH (HO.out.set 2 4 rfl rfl (fun _=>by simp) (.slice a6 (j+1) c6))
     have HS7:=qH ((show RdX w0 (⟨w.heap.size,117,[.int .i64 0,.bool false,.slice none 0 0,.slice none 0 0,.slice none 0 0]⟩::⟨w1.heap.size,117,[.int .i64 1,.bool r.s,.slice r.a r.l r.c,.slice r.b r.m r.d,.slice a j pc]⟩::bs) _ pb ba n c _ k9 ev9 w6 from ⟨HO.out.st,HS9.out,HK9.out⟩).set 1 4 rfl rfl (fun _=>by simp) (.slice a6 (j+1) c6)).2.1
     clear hHeld
     go_wp2_with fail
     go_roundw
     case rel =>
      refine ⟨j+1,a6,c6,vs++[x],(rRat data st).2,k9,ev9,by omega,by go_num,by rw [List.length_append,HVL.out];rfl,fun u hu=>?_,?_,?_,HS7.out,HK9.out⟩
      ·
       rcases List.mem_append.1 hu with hu | hu
       ·
        exact HSH.out u hu
       ·
        rw [List.mem_singleton.1 hu];exact HXS.out
      ·
       rw [HR.out]
       unfold qs
       rw [List.map_append,List.map_cons,List.map_nil,HXQ.out]
      ·
       rw [List.flatMap_append,List.flatMap_cons,List.flatMap_nil,List.append_nil]
       exact HO7.out.ren (fun y hy=>by
        unfold numsV at hy ⊢
        simp only [List.flatMap_append,List.flatMap_cons,List.flatMap_nil,List.append_nil,List.mem_append] at hy ⊢
        rcases hy with (hy | hy) | hy
        ·
         exact .inr (.inl hy)
        ·
         exact .inl hy
        ·
         exact .inr (.inr hy))
     case measure=>simp [intOf];omega
    ·
     skip
     go_simp
     refine (rrat_rv data st wd HN.out HD.out H8.out hn).mono ?_
     rintro e wd ⟨x,rfl,hxs,hxq,hq⟩
     replace HN:=qH hq
     have HXS:=qH hxs
     have HXQ:=qH hxq
     clear hq hxs hxq
     go_wp2_with fail
     refine hK.out _ _ (trivial) (fun hHeld2=>?_)
     clear hK K hHeld
     rename _=>hHeld
     try simp only [Act.put,stB,stZ,stS]
     refine wpAnyH_ready (rs:=[1,4]) (by kernel_rfl) (by simp) ?_
     refine (AllReadyH.cons rfl (fun K hK=>?_) (AllReadyH.cons rfl (fun K hK=>?_) AllReadyH.nil))
     ·
      skip
      have k0:=HN.out.cell 1 4 rfl rfl
      go_simp
      clear k0
      refine hK.out _ _ (trivial) (fun hHeld2=>?_)
      clear hK K hHeld
      rename _=>hHeld
      try simp only [Act.put,stB,stZ,stS]
      refine wpAnyH_ready (rs:=[4]) (by kernel_rfl) (by simp) ?_
      refine (AllReadyH.cons rfl (fun K hK=>?_) AllReadyH.nil)
      go_simp
      refine hK.out _ _ (trivial) (fun hHeld2=>?_)
      clear hK K hHeld
      rename _=>hHeld
      try simp only [Act.put,stB,stZ,stS]
      refine wpAnyH_ready (rs:=[5]) (by kernel_rfl) (by simp) ?_
      refine (AllReadyH.cons rfl (fun K hK=>?_) AllReadyH.nil)
      obtain ⟨k9,ev9,hy,hs9,hk9⟩:=HN.out.get
      have HO:=qH (HBK.out _ _ _ _ hy)
      have HS9:=qH hs9
      have HK9:=qH hk9
      clear hy hs9 hk9
      refine step_append_at (a0:=a) (c0:=pc) rfl _ _ 115 115 rfl i0 (.agg #[.bool false,.slice none 0 0,.slice none 0 0]) 56 Tryz.underlying115v hi hz0 hz1 hz2 rfl rfl (HO.out.mid.alloc (.cells #[.bool x.s,.slice x.a x.l x.c,.slice x.b x.m x.d] 45)) _ rfl 1 [.bool x.s,.slice x.a x.l x.c,.slice x.b x.m x.d] ((Sl.lit _ 45 3 1 [.bool x.s,.slice x.a x.l x.c,.slice x.b x.m x.d] (by unfold maxLen;omega) rfl).src (P:=Tryz.prog) Tryz.underlying115v (by
       intro u hu
       simp only [List.mem_cons,List.not_mem_nil,or_false] at hu
       rcases hu with rfl | rfl | rfl <;> rfl)) (by unfold maxLen;omega) (by omega) (Nat.le_trans HO.out.st.bel.size (belowBox _ _).size) ?_
      intro a6 c6 w6 hmo hgo hbo hao
      replace HS9:=qH (RSt.keeps HS9.out (grown_keeps hgo) fun b hb=>HO.out.first (by omega) (pts_first vs) b hb)
      replace HO:=qH (HO.out.push (by decide) (by omega) hmo hgo hbo hao)
      clear hmo hgo hbo hao HN
      refine hK.out _ _ (trivial) (fun hHeld2=>?_)
      clear hK K hHeld
      rename _=>hHeld
      try simp only [Act.put,stB,stZ,stS]
      refine tm 6 (some 24) ?_
      refine wpAnyH_ready (rs:=[7]) (by kernel_rfl) (by simp) ?_
      refine (AllReadyH.cons rfl (fun K hK=>?_) AllReadyH.nil)
      have k0:=HO.out.st.cell 2 4 rfl rfl
      have f0:=HO.out.st.free 2 4 rfl
      go_simp
      clear k0 f0
      refine hK.out _ _ (trivial) (fun hHeld2=>?_)
      clear hK K hHeld
      rename _=>hHeld
      try simp only [Act.put,stB,stZ,stS]
      refine wpAnyH_done (by kernel_rfl) ?_ _
      have HO7:=qH (HO.out.set 2 4 rfl rfl (fun _=>by simp) (.slice a6 (j+1) c6))
      have HS7:=qH ((show RdX w0 (⟨w.heap.size,117,[.int .i64 0,.bool false,.slice none 0 0,.slice none 0 0,.slice none 0 0]⟩::⟨w1.heap.size,117,[.int .i64 1,.bool r.s,.slice r.a r.l r.c,.slice r.b r.m r.d,.slice a j pc]⟩::bs) _ pb ba n c _ k9 ev9 w6 from ⟨HO.out.st,HS9.out,HK9.out⟩).set 1 4 rfl rfl (fun _=>by simp) (.slice a6 (j+1) c6)).2.1
      clear hHeld
      go_wp2_with fail
      go_roundw
      case rel =>
       refine ⟨j+1,a6,c6,vs++[x],(rRat data st).2,k9,ev9,by omega,by go_num,by rw [List.length_append,HVL.out];rfl,fun u hu=>?_,?_,?_,HS7.out,HK9.out⟩
       ·
        rcases List.mem_append.1 hu with hu | hu
        ·
         exact HSH.out u hu
        ·
         rw [List.mem_singleton.1 hu];exact HXS.out
       ·
        rw [HR.out]
        unfold qs
        rw [List.map_append,List.map_cons,List.map_nil,HXQ.out]
       ·
        rw [List.flatMap_append,List.flatMap_cons,List.flatMap_nil,List.append_nil]
        exact HO7.out.ren (fun y hy=>by
         unfold numsV at hy ⊢
         simp only [List.flatMap_append,List.flatMap_cons,List.flatMap_nil,List.append_nil,List.mem_append] at hy ⊢
         rcases hy with (hy | hy) | hy
         ·
          exact .inr (.inl hy)
         ·
          exact .inl hy
         ·
          exact .inr (.inr hy))
      case measure=>simp [intOf];omega
     ·
      skip
      go_simp
      refine hK.out _ _ (trivial) (fun hHeld2=>?_)
      clear hK K hHeld
      rename _=>hHeld
      try simp only [Act.put,stB,stZ,stS]
      refine wpAnyH_ready (rs:=[1]) (by kernel_rfl) (by simp) ?_
      refine (AllReadyH.cons rfl (fun K hK=>?_) AllReadyH.nil)
      have k0:=((belowBox wd (.cells #[.bool x.s,.slice x.a x.l x.c,.slice x.b x.m x.d] 45)).cell (p:=⟨w1.heap.size,4,none⟩) (HN.out.tl.lt 1 rfl)).trans (HN.out.cell 1 4 rfl rfl)
      go_simp
      clear k0
      refine hK.out _ _ (trivial) (fun hHeld2=>?_)
      clear hK K hHeld
      rename _=>hHeld
      try simp only [Act.put,stB,stZ,stS]
      refine wpAnyH_ready (rs:=[5]) (by kernel_rfl) (by simp) ?_
      refine (AllReadyH.cons rfl (fun K hK=>?_) AllReadyH.nil)
      obtain ⟨k9,ev9,hy,hs9,hk9⟩:=HN.out.get
      have HO:=qH (HBK.out _ _ _ _ hy)
      have HS9:=qH hs9
      have HK9:=qH hk9
      clear hy hs9 hk9
      refine step_append_at (a0:=a) (c0:=pc) rfl _ _ 115 115 rfl i0 (.agg #[.bool false,.slice none 0 0,.slice none 0 0]) 56 Tryz.underlying115v hi hz0 hz1 hz2 rfl rfl (HO.out.mid.alloc (.cells #[.bool x.s,.slice x.a x.l x.c,.slice x.b x.m x.d] 45)) _ rfl 1 [.bool x.s,.slice x.a x.l x.c,.slice x.b x.m x.d] ((Sl.lit _ 45 3 1 [.bool x.s,.slice x.a x.l x.c,.slice x.b x.m x.d] (by unfold maxLen;omega) rfl).src (P:=Tryz.prog) Tryz.underlying115v (by
       intro u hu
       simp only [List.mem_cons,List.not_mem_nil,or_false] at hu
       rcases hu with rfl | rfl | rfl <;> rfl)) (by unfold maxLen;omega) (by omega) (Nat.le_trans HO.out.st.bel.size (belowBox _ _).size) ?_
      intro a6 c6 w6 hmo hgo hbo hao
      replace HS9:=qH (RSt.keeps HS9.out (grown_keeps hgo) fun b hb=>HO.out.first (by omega) (pts_first vs) b hb)
      replace HO:=qH (HO.out.push (by decide) (by omega) hmo hgo hbo hao)
      clear hmo hgo hbo hao HN
      refine hK.out _ _ (trivial) (fun hHeld2=>?_)
      clear hK K hHeld
      rename _=>hHeld
      try simp only [Act.put,stB,stZ,stS]
      refine tm 6 (some 24) ?_
      refine wpAnyH_ready (rs:=[7]) (by kernel_rfl) (by simp) ?_
      refine (AllReadyH.cons rfl (fun K hK=>?_) AllReadyH.nil)
      have k0:=HO.out.st.cell 2 4 rfl rfl
      have f0:=HO.out.st.free 2 4 rfl
      go_simp
      clear k0 f0
      refine hK.out _ _ (trivial) (fun hHeld2=>?_)
      clear hK K hHeld
      rename _=>hHeld
      try simp only [Act.put,stB,stZ,stS]
      refine wpAnyH_done (by kernel_rfl) ?_ _
      have HO7:=qH (HO.out.set 2 4 rfl rfl (fun _=>by simp) (.slice a6 (j+1) c6))
      have HS7:=qH ((show RdX w0 (⟨w.heap.size,117,[.int .i64 0,.bool false,.slice none 0 0,.slice none 0 0,.slice none 0 0]⟩::⟨w1.heap.size,117,[.int .i64 1,.bool r.s,.slice r.a r.l r.c,.slice r.b r.m r.d,.slice a j pc]⟩::bs) _ pb ba n c _ k9 ev9 w6 from ⟨HO.out.st,HS9.out,HK9.out⟩).set 1 4 rfl rfl (fun _=>by simp) (.slice a6 (j+1) c6)).2.1
      clear hHeld
      go_wp2_with fail
      go_roundw
      case rel =>
       refine ⟨j+1,a6,c6,vs++[x],(rRat data st).2,k9,ev9,by omega,by go_num,by rw [List.length_append,HVL.out];rfl,fun u hu=>?_,?_,?_,HS7.out,HK9.out⟩
       ·
        rcases List.mem_append.1 hu with hu | hu
        ·
         exact HSH.out u hu
        ·
         rw [List.mem_singleton.1 hu];exact HXS.out
       ·
        rw [HR.out]
        unfold qs
        rw [List.map_append,List.map_cons,List.map_nil,HXQ.out]
       ·
        rw [List.flatMap_append,List.flatMap_cons,List.flatMap_nil,List.append_nil]
        exact HO7.out.ren (fun y hy=>by
         unfold numsV at hy ⊢
         simp only [List.flatMap_append,List.flatMap_cons,List.flatMap_nil,List.append_nil,List.mem_append] at hy ⊢
         rcases hy with (hy | hy) | hy
         ·
          exact .inr (.inl hy)
         ·
          exact .inl hy
         ·
          exact .inr (.inr hy))
      case measure=>simp [intOf];omega
   ·
    obtain rfl:j=m:=by omega
    rw [Nat.sub_self,show rRats data 0 st (qs vs)=(qs vs,st) from rfl] at hR
    have HR:=qH hR
    have HN:=qH (show RdX w0 (⟨w.heap.size,117,[.int .i64 0,.bool false,.slice none 0 0,.slice none 0 0,.slice none 0 0]⟩::⟨w1.heap.size,117,[.int .i64 1,.bool r.s,.slice r.a r.l r.c,.slice r.b r.m r.d,.slice a j pc]⟩::bs) (numsV vs++(r.nums++ns)) pb ba n c st k ev wr from ⟨hO.st,hs,hk⟩)
    have HO:=qH hO
    clear hR hO hs hk
    have k00:=HN.out.cell 0 0 rfl rfl
    have f00:=HN.out.free 0 0 rfl
    have k10:=HN.out.cell 1 0 rfl rfl
    have k01:=HN.out.cell 0 1 rfl rfl
    have f01:=HN.out.free 0 1 rfl
    have k11:=HN.out.cell 1 1 rfl rfl
    have k02:=HN.out.cell 0 2 rfl rfl
    have f02:=HN.out.free 0 2 rfl
    have k12:=HN.out.cell 1 2 rfl rfl
    have k03:=HN.out.cell 0 3 rfl rfl
    have f03:=HN.out.free 0 3 rfl
    have k13:=HN.out.cell 1 3 rfl rfl
    have k04:=HN.out.cell 0 4 rfl rfl
    have f04:=HN.out.free 0 4 rfl
    have k14:=HN.out.cell 1 4 rfl rfl
    have HE:=qH (((((HN.out.set 0 0 rfl rfl (fun _=>by simp) (.int .i64 1)).set 0 1 rfl rfl (fun _=>by simp) (.bool r.s)).set 0 2 rfl rfl (fun _=>by simp) (.slice r.a r.l r.c)).set 0 3 rfl rfl (fun _=>by simp) (.slice r.b r.m r.d)).set 0 4 rfl rfl (fun _=>by simp) (.slice a j pc))
    have HOE:=qH (((((HO.out.set 1 0 rfl rfl (fun _=>by simp) (.int .i64 1)).set 1 1 rfl rfl (fun _=>by simp) (.bool r.s)).set 1 2 rfl rfl (fun _=>by simp) (.slice r.a r.l r.c)).set 1 3 rfl rfl (fun _=>by simp) (.slice r.b r.m r.d)).set 1 4 rfl rfl (fun _=>by simp) (.slice a j pc))
    go_wp2_with fail
    (try simp only [Exit.inBlock,Exit.then])
    refine bodyPost_ret (v:=.agg #[.int .i64 1,.bool r.s,.slice r.a r.l r.c,.slice r.b r.m r.d,.slice a j pc]) ?_ rfl ?_
    ·
     rw [results_cell1 rfl]
     have hbk:=(HE.out.at 0 rfl:_=some (Obj.cells #[.int .i64 1,.bool r.s,.slice r.a r.l r.c,.slice r.b r.m r.d,.slice a j pc] 117 (0,0)))
     generalize (((((wr.setCell ⟨w.heap.size,0,none⟩ (.int .i64 1)).setCell ⟨w.heap.size,1,none⟩ (.bool r.s)).setCell ⟨w.heap.size,2,none⟩ (.slice r.a r.l r.c)).setCell ⟨w.heap.size,3,none⟩ (.slice r.b r.m r.d)).setCell ⟨w.heap.size,4,none⟩ (.slice a j pc))=WE at hbk ⊢
     exact Go.Lib.rl_loadVar_cells 117 _ hiR (fun _=>by kernel_rfl) (w.heap.size) 0 [.int .i64 1,.bool r.s,.slice r.a r.l r.c,.slice r.b r.m r.d,.slice a j pc] hzR.symm _ (fun k v hk=>by
      rw [Nat.zero_add]
      exact cell_of_block (j:=k) hbk (by simpa using hk))
    rw [HAB.out,HPT.out,HR.out]
    exact ⟨r,a,j,pc,vs,rfl,HRS.out,HRQ.out,rfl,HVL.out,hm,HSH.out,k,ev,(HOE.out.only (.cons_cons _ (.cons _ (.cons _ (List.Sublist.refl _))))).ren (fun x hx=>by simp only [List.mem_append] at hx ⊢;rcases hx with hx | hx | hx;exact .inr (.inl hx);exact .inl hx;exact .inr (.inr hx)),HE.out.2.1,HE.out.2.2⟩
 ·
  have g1:(out != 1)=true:=bne_iff_ne.2 ho
  replace HN:=qH HN.out.zero
  have HAB:=qH (show rAnsBody data out st1=(⟨out,0,[]⟩,st1) from by unfold rAnsBody;rw [if_neg ho])
  clear ho
  have k00:=HN.out.cell 0 0 rfl rfl
  have f00:=HN.out.free 0 0 rfl
  have k01:=HN.out.cell 0 1 rfl rfl
  have f01:=HN.out.free 0 1 rfl
  have k02:=HN.out.cell 0 2 rfl rfl
  have f02:=HN.out.free 0 2 rfl
  have k03:=HN.out.cell 0 3 rfl rfl
  have f03:=HN.out.free 0 3 rfl
  have k04:=HN.out.cell 0 4 rfl rfl
  have f04:=HN.out.free 0 4 rfl
  have k10:=HN.out.cell 1 0 rfl rfl
  have f10:=HN.out.free 1 0 rfl
  have k11:=HN.out.cell 1 1 rfl rfl
  have f11:=HN.out.free 1 1 rfl
  have k12:=HN.out.cell 1 2 rfl rfl
  have f12:=HN.out.free 1 2 rfl
  have k13:=HN.out.cell 1 3 rfl rfl
  have f13:=HN.out.free 1 3 rfl
  have k14:=HN.out.cell 1 4 rfl rfl
  have f14:=HN.out.free 1 4 rfl
  have HE:=qH (show RdW w0 (⟨w.heap.size,117,[.int .i64 out,.bool false,.slice none 0 0,.slice none 0 0,.slice none 0 0]⟩::⟨w1.heap.size,117,[.int .i64 out,.bool false,.slice none 0 0,.slice none 0 0,.slice none 0 0]⟩::bs) _ pb ba n c _ _ from (((((HN.out.set 0 0 rfl rfl (fun _=>by simp) (.int .i64 out)).set 0 1 rfl rfl (fun _=>by simp) (.bool false)).set 0 2 rfl rfl (fun _=>by simp) (.slice none 0 0)).set 0 3 rfl rfl (fun _=>by simp) (.slice none 0 0)).set 0 4 rfl rfl (fun _=>by simp) (.slice none 0 0)))
  go_wp2_with fail
  (try simp only [Exit.inBlock,Exit.then])
  refine bodyPost_ret (v:=.agg #[.int .i64 out,.bool false,.slice none 0 0,.slice none 0 0,.slice none 0 0]) ?_ rfl ?_
  ·
   rw [results_cell1 rfl]
   have hbk:=(HE.out.at 0 rfl:_=some (Obj.cells #[.int .i64 out,.bool false,.slice none 0 0,.slice none 0 0,.slice none 0 0] 117 (0,0)))
   generalize (((((wa2.setCell ⟨w.heap.size,0,none⟩ (.int .i64 out)).setCell ⟨w.heap.size,1,none⟩ (.bool false)).setCell ⟨w.heap.size,2,none⟩ (.slice none 0 0)).setCell ⟨w.heap.size,3,none⟩ (.slice none 0 0)).setCell ⟨w.heap.size,4,none⟩ (.slice none 0 0))=WE at hbk ⊢
   exact Go.Lib.rl_loadVar_cells 117 _ hiR (fun _=>by kernel_rfl) (w.heap.size) 0 [.int .i64 out,.bool false,.slice none 0 0,.slice none 0 0,.slice none 0 0] hzR.symm _ (fun k v hk=>by
    rw [Nat.zero_add]
    exact cell_of_block (j:=k) hbk (by simpa using hk))
  rw [HAB.out]
  obtain ⟨k9,ev9,hy,hs,hk⟩:=(HE.out.only (.cons _ (.cons _ (List.Sublist.refl _))) (fun _ h=>h)).get
  exact ⟨Rv.zero,none,0,0,[],rfl,Rv.zero_sh,rfl,rfl,rfl,by omega,fun _ h=>(by cases h),k9,ev9,OB.start (hy.only (List.Sublist.refl _) fun x hx=>by simpa [numsV] using hx),hs,hk⟩
theorem Tryz.infoRng:(Tryz.prog.info? 119).map (fun i=>(i.zero,i.size,i.bytes))=some (some (.agg #[.bool false,.slice none 0 0,.slice none 0 0,.bool false,.slice none 0 0,.slice none 0 0,.bool false,.bool false]),8,120):=by kernel_rfl
def RngR (w0:World) (bs:List Bk) (ns:List Nm) (pb:Nat) (ba:Option Addr) (n c:Nat) (q:Rng) (st:RS) (e:Ending) (w':World):Prop :=
 ∃ l g:Rv,e=.returned (.agg #[.bool l.s,.slice l.a l.l l.c,.slice l.b l.m l.d,.bool g.s,.slice g.a g.l g.c,.slice g.b g.m g.d,.bool q.hasLo,.bool q.hasHi])∧l.sh∧g.sh∧l.q=q.lo∧g.q=q.hi∧RdW w0 bs (l.nums++(g.nums++ns)) pb ba n c st w'
theorem low_bit:∀ m:Fin 256,(bits .and .i64 ((m.val:Nat):Int) 1 != 0)=decide (((m.val:Nat):Int) % 2=1):=by decide +kernel
theorem next_bit:∀ m:Fin 256,(bits .and .i64 ((m.val:Nat):Int) 2 != 0)=decide (((m.val:Nat):Int) / 2 % 2=1):=by decide +kernel
theorem rrng_all {w0:World} {bs:List Bk} {ns:List Nm} {pb:Nat} {ba:Option Addr} {n c:Nat} (z:Int) (st1:RS) (b1 b2:Bool) (HB1:Hid (decide (z % 2=1)=b1)) (HB2:Hid (decide (z / 2 % 2=1)=b2)) (e1:(bits .and .i64 z 1 != 0)=b1) (e2:(bits .and .i64 z 2 != 0)=b2) (data:List Nat) (st:RS) (w:World)
  (HP:Hid (∀ (bs:List Bk) (W:World),RdW w0 bs ns pb ba n c st W→Calls Tryz.prog 63 #[.pointer (some ⟨pb,0,none⟩),.int .i64 0,.int .i64 3] W (IntR w0 bs ns pb ba n c z st1)))
  (h:RdW w0 bs ns pb ba n c st w) (hd:BytesN w0 (.slice ba n c) data) (h8:∀ x,x∈data→x<256) (hn:n≤1099511627776) :
  Calls Tryz.prog 170 #[.pointer (some ⟨pb,0,none⟩)] w (RngR w0 bs ns pb ba n c (rRngBody data z st1).1 (rRngBody data z st1).2):=by
 obtain ⟨iR,hiR,_,hzR,_⟩:=info_parts Tryz.infoRng
 have HD:=qH hd
 have H8:=qH h8
 clear hd h8
 obtain ⟨W0,hW0⟩:∃ W0,W0=((w.alloc (.cells #[.bool false,.slice none 0 0,.slice none 0 0,.bool false,.slice none 0 0,.slice none 0 0,.bool false,.bool false] 119)).alloc (.cells #[.bool false,.slice none 0 0,.slice none 0 0,.bool false,.slice none 0 0,.slice none 0 0,.bool false,.bool false] 119)):=⟨_,rfl⟩
 have hn0:RdW w0 (⟨w.heap.size,119,[.bool false,.slice none 0 0,.slice none 0 0,.bool false,.slice none 0 0,.slice none 0 0,.bool false,.bool false]⟩::⟨w.heap.size+1,119,[.bool false,.slice none 0 0,.slice none 0 0,.bool false,.slice none 0 0,.slice none 0 0,.bool false,.bool false]⟩::bs) ns pb ba n c st ((w.alloc (.cells #[.bool false,.slice none 0 0,.slice none 0 0,.bool false,.slice none 0 0,.slice none 0 0,.bool false,.bool false] 119)).alloc (.cells #[.bool false,.slice none 0 0,.slice none 0 0,.bool false,.slice none 0 0,.slice none 0 0,.bool false,.bool false] 119)):=((((h.alloc (p:=w.heap.size) rfl 119 [.bool false,.slice none 0 0,.slice none 0 0,.bool false,.slice none 0 0,.slice none 0 0,.bool false,.bool false] rfl).ins 0).alloc (p:=w.heap.size+1) (by simp) 119 [.bool false,.slice none 0 0,.slice none 0 0,.bool false,.slice none 0 0,.slice none 0 0,.bool false,.bool false] rfl).ins 1)
 rw [← hW0] at hn0
 have HW0:=qH hW0
 have HN:=qH hn0
 clear hW0 hn0
 clear h
 obtain ⟨xp,hxp⟩:∃ xp,w.heap.size+1=xp:=⟨_,rfl⟩
 rw [hxp] at HN
 have HXP:=qH hxp
 clear hxp
 go_enter Tryz.func170,Tryz.ntmps170
 go_upto_region 2 with fail
 rw [← HW0.out]
 (try simp only [HXP.out])
 go_wp2_with fail
 refine (HP.out _ W0 HN.out).mono ?_
 rintro e w1 ⟨rfl,hq⟩
 replace HN:=qH hq
 clear hq HP
 go_upto_if 9 with fail
 go_cut [] (fun wx=>∃ l:Rv,RdW w0 (⟨w.heap.size,119,[.bool false,.slice none 0 0,.slice none 0 0,.bool false,.slice none 0 0,.slice none 0 0,.bool false,.bool false]⟩::⟨xp,119,[.bool l.s,.slice l.a l.l l.c,.slice l.b l.m l.d,.bool false,.slice none 0 0,.slice none 0 0,.bool b1,.bool false]⟩::bs) (l.nums++ns) pb ba n c (rIf b1 data st1).2 wx∧l.sh∧l.q=(rIf b1 data st1).1)
 case first =>
  cases b1 with
  | false =>
   go_wp2_with fail
   go_meet
   exact ⟨Rv.zero,HN.out.zero,Rv.zero_sh,rfl⟩
  | true =>
   have k16:=HN.out.cell 1 6 rfl rfl
   have f16:=HN.out.free 1 6 rfl
   go_upto_region 5 with fail
   replace HN:=qH (show RdW w0 (⟨w.heap.size,119,[.bool false,.slice none 0 0,.slice none 0 0,.bool false,.slice none 0 0,.slice none 0 0,.bool false,.bool false]⟩::⟨xp,119,[.bool false,.slice none 0 0,.slice none 0 0,.bool false,.slice none 0 0,.slice none 0 0,.bool true,.bool false]⟩::bs) _ pb ba n c _ _ from (HN.out.set 1 6 rfl rfl (fun _=>by simp) (.bool true)))
   clear k16 f16
   generalize (w1.setCell ⟨xp,6,none⟩ (.bool true))=wa2 at HN ⊢
   go_wp2_with fail
   refine (rrat_rv data st1 wa2 HN.out HD.out H8.out hn).mono ?_
   rintro e w3 ⟨l,rfl,hs,hq9,hq⟩
   replace HN:=qH hq
   clear hq
   have HS9:=qH hs
   have HQ9:=qH hq9
   clear hs hq9
   have k10:=HN.out.cell 1 0 rfl rfl
   have f10:=HN.out.free 1 0 rfl
   have k11:=HN.out.cell 1 1 rfl rfl
   have f11:=HN.out.free 1 1 rfl
   have k12:=HN.out.cell 1 2 rfl rfl
   have f12:=HN.out.free 1 2 rfl
   go_wp2_with fail
   replace HN:=qH (show RdW w0 (⟨w.heap.size,119,[.bool false,.slice none 0 0,.slice none 0 0,.bool false,.slice none 0 0,.slice none 0 0,.bool false,.bool false]⟩::⟨xp,119,[.bool l.s,.slice l.a l.l l.c,.slice l.b l.m l.d,.bool false,.slice none 0 0,.slice none 0 0,.bool true,.bool false]⟩::bs) _ pb ba n c _ _ from (((HN.out.set 1 0 rfl rfl (fun _=>by simp) (.bool l.s)).set 1 1 rfl rfl (fun _=>by simp) (.slice l.a l.l l.c)).set 1 2 rfl rfl (fun _=>by simp) (.slice l.b l.m l.d)))
   clear k10 f10 k11 f11 k12 f12
   generalize (((w3.setCell ⟨xp,0,none⟩ (.bool l.s)).setCell ⟨xp,1,none⟩ (.slice l.a l.l l.c)).setCell ⟨xp,2,none⟩ (.slice l.b l.m l.d))=wa4 at HN ⊢
   go_meet
   exact ⟨l,HN.out,HS9.out,HQ9.out⟩
 case rest =>
  obtain ⟨w42,rfl⟩:∃ w9:World,w9=wc:=⟨_,rfl⟩
  obtain ⟨l,hq,hsl,hql⟩:=hcut
  replace HN:=qH hq
  have HSl:=qH hsl
  have HQl:=qH hql
  clear hq hsl hql e1
  go_upto_if 16 with fail
  go_cut [] (fun wx=>∃ g:Rv,RdW w0 (⟨w.heap.size,119,[.bool false,.slice none 0 0,.slice none 0 0,.bool false,.slice none 0 0,.slice none 0 0,.bool false,.bool false]⟩::⟨xp,119,[.bool l.s,.slice l.a l.l l.c,.slice l.b l.m l.d,.bool g.s,.slice g.a g.l g.c,.slice g.b g.m g.d,.bool b1,.bool b2]⟩::bs) (g.nums++(l.nums++ns)) pb ba n c (rIf b2 data (rIf b1 data st1).2).2 wx∧g.sh∧g.q=(rIf b2 data (rIf b1 data st1).2).1)
  case first =>
   cases b2 with
   | false =>
    go_wp2_with fail
    go_meet
    exact ⟨Rv.zero,HN.out.zero,Rv.zero_sh,rfl⟩
   | true =>
    have k17:=HN.out.cell 1 7 rfl rfl
    have f17:=HN.out.free 1 7 rfl
    go_upto_region 8 with fail
    replace HN:=qH (show RdW w0 (⟨w.heap.size,119,[.bool false,.slice none 0 0,.slice none 0 0,.bool false,.slice none 0 0,.slice none 0 0,.bool false,.bool false]⟩::⟨xp,119,[.bool l.s,.slice l.a l.l l.c,.slice l.b l.m l.d,.bool false,.slice none 0 0,.slice none 0 0,.bool b1,.bool true]⟩::bs) _ pb ba n c _ _ from (HN.out.set 1 7 rfl rfl (fun _=>by simp) (.bool true)))
    clear k17 f17
    generalize (w42.setCell ⟨xp,7,none⟩ (.bool true))=wa3 at HN ⊢
    go_wp2_with fail
    refine (rrat_rv data (rIf b1 data st1).2 wa3 HN.out HD.out H8.out hn).mono ?_
    rintro e w4 ⟨g,rfl,hs,hq9,hq⟩
    replace HN:=qH hq
    clear hq
    have HS9:=qH hs
    have HQ9:=qH hq9
    clear hs hq9
    have k13:=HN.out.cell 1 3 rfl rfl
    have f13:=HN.out.free 1 3 rfl
    have k14:=HN.out.cell 1 4 rfl rfl
    have f14:=HN.out.free 1 4 rfl
    have k15:=HN.out.cell 1 5 rfl rfl
    have f15:=HN.out.free 1 5 rfl
    go_wp2_with fail
    replace HN:=qH (show RdW w0 (⟨w.heap.size,119,[.bool false,.slice none 0 0,.slice none 0 0,.bool false,.slice none 0 0,.slice none 0 0,.bool false,.bool false]⟩::⟨xp,119,[.bool l.s,.slice l.a l.l l.c,.slice l.b l.m l.d,.bool g.s,.slice g.a g.l g.c,.slice g.b g.m g.d,.bool b1,.bool true]⟩::bs) _ pb ba n c _ _ from (((HN.out.set 1 3 rfl rfl (fun _=>by simp) (.bool g.s)).set 1 4 rfl rfl (fun _=>by simp) (.slice g.a g.l g.c)).set 1 5 rfl rfl (fun _=>by simp) (.slice g.b g.m g.d)))
    clear k13 f13 k14 f14 k15 f15
    generalize (((w4.setCell ⟨xp,3,none⟩ (.bool g.s)).setCell ⟨xp,4,none⟩ (.slice g.a g.l g.c)).setCell ⟨xp,5,none⟩ (.slice g.b g.m g.d))=wa5 at HN ⊢
    go_meet
    exact ⟨g,HN.out,HS9.out,HQ9.out⟩
  case rest =>
   obtain ⟨w43,rfl⟩:∃ w9:World,w9=wc:=⟨_,rfl⟩
   obtain ⟨g,hq,hsg,hqg⟩:=hcut
   replace HN:=qH hq
   have HSg:=qH hsg
   have HQg:=qH hqg
   clear hq hsg hqg e2
   go_upto_region 9 with fail
   have HAB:=qH (show rRngBody data z st1=(⟨b1,b2,(rIf b1 data st1).1,(rIf b2 data (rIf b1 data st1).2).1⟩,(rIf b2 data (rIf b1 data st1).2).2) from by unfold rRngBody;simp only [HB1.out,HB2.out])
   have k00:=HN.out.cell 0 0 rfl rfl
   have f00:=HN.out.free 0 0 rfl
   have k01:=HN.out.cell 0 1 rfl rfl
   have f01:=HN.out.free 0 1 rfl
   have k02:=HN.out.cell 0 2 rfl rfl
   have f02:=HN.out.free 0 2 rfl
   have k03:=HN.out.cell 0 3 rfl rfl
   have f03:=HN.out.free 0 3 rfl
   have k04:=HN.out.cell 0 4 rfl rfl
   have f04:=HN.out.free 0 4 rfl
   have k05:=HN.out.cell 0 5 rfl rfl
   have f05:=HN.out.free 0 5 rfl
   have k06:=HN.out.cell 0 6 rfl rfl
   have f06:=HN.out.free 0 6 rfl
   have k07:=HN.out.cell 0 7 rfl rfl
   have f07:=HN.out.free 0 7 rfl
   have k10:=HN.out.cell 1 0 rfl rfl
   have f10:=HN.out.free 1 0 rfl
   have k11:=HN.out.cell 1 1 rfl rfl
   have f11:=HN.out.free 1 1 rfl
   have k12:=HN.out.cell 1 2 rfl rfl
   have f12:=HN.out.free 1 2 rfl
   have k13:=HN.out.cell 1 3 rfl rfl
   have f13:=HN.out.free 1 3 rfl
   have k14:=HN.out.cell 1 4 rfl rfl
   have f14:=HN.out.free 1 4 rfl
   have k15:=HN.out.cell 1 5 rfl rfl
   have f15:=HN.out.free 1 5 rfl
   have k16:=HN.out.cell 1 6 rfl rfl
   have f16:=HN.out.free 1 6 rfl
   have k17:=HN.out.cell 1 7 rfl rfl
   have f17:=HN.out.free 1 7 rfl
   have HE:=qH (show RdW w0 (⟨w.heap.size,119,[.bool l.s,.slice l.a l.l l.c,.slice l.b l.m l.d,.bool g.s,.slice g.a g.l g.c,.slice g.b g.m g.d,.bool b1,.bool b2]⟩::⟨xp,119,[.bool l.s,.slice l.a l.l l.c,.slice l.b l.m l.d,.bool g.s,.slice g.a g.l g.c,.slice g.b g.m g.d,.bool b1,.bool b2]⟩::bs) _ pb ba n c _ _ from ((((((((HN.out.set 0 0 rfl rfl (fun _=>by simp) (.bool l.s)).set 0 1 rfl rfl (fun _=>by simp) (.slice l.a l.l l.c)).set 0 2 rfl rfl (fun _=>by simp) (.slice l.b l.m l.d)).set 0 3 rfl rfl (fun _=>by simp) (.bool g.s)).set 0 4 rfl rfl (fun _=>by simp) (.slice g.a g.l g.c)).set 0 5 rfl rfl (fun _=>by simp) (.slice g.b g.m g.d)).set 0 6 rfl rfl (fun _=>by simp) (.bool b1)).set 0 7 rfl rfl (fun _=>by simp) (.bool b2)))
   go_wp2_with fail
   (try simp only [Exit.inBlock,Exit.then])
   refine bodyPost_ret (v:=.agg #[.bool l.s,.slice l.a l.l l.c,.slice l.b l.m l.d,.bool g.s,.slice g.a g.l g.c,.slice g.b g.m g.d,.bool b1,.bool b2]) ?_ rfl ?_
   ·
    rw [results_cell1 rfl]
    have hbk:=(HE.out.at 0 rfl:_=some (Obj.cells #[.bool l.s,.slice l.a l.l l.c,.slice l.b l.m l.d,.bool g.s,.slice g.a g.l g.c,.slice g.b g.m g.d,.bool b1,.bool b2] 119 (0,0)))
    generalize ((((((((w43.setCell ⟨w.heap.size,0,none⟩ (.bool l.s)).setCell ⟨w.heap.size,1,none⟩ (.slice l.a l.l l.c)).setCell ⟨w.heap.size,2,none⟩ (.slice l.b l.m l.d)).setCell ⟨w.heap.size,3,none⟩ (.bool g.s)).setCell ⟨w.heap.size,4,none⟩ (.slice g.a g.l g.c)).setCell ⟨w.heap.size,5,none⟩ (.slice g.b g.m g.d)).setCell ⟨w.heap.size,6,none⟩ (.bool b1)).setCell ⟨w.heap.size,7,none⟩ (.bool b2))=WE at hbk ⊢
    exact Go.Lib.rl_loadVar_cells 119 _ hiR (fun _=>by kernel_rfl) (w.heap.size) 0 [.bool l.s,.slice l.a l.l l.c,.slice l.b l.m l.d,.bool g.s,.slice g.a g.l g.c,.slice g.b g.m g.d,.bool b1,.bool b2] hzR.symm _ (fun k v hk=>by
     rw [Nat.zero_add]
     exact cell_of_block (j:=k) hbk (by simpa using hk))
   rw [HAB.out]
   exact ⟨l,g,rfl,HSl.out,HSg.out,HQl.out,HQg.out,HE.out.only (.cons _ (.cons _ (List.Sublist.refl _))) (fun x hx=>by simp only [List.mem_append] at hx ⊢;rcases hx with hx | hx | hx;exact .inr (.inl hx);exact .inl hx;exact .inr (.inr hx))⟩
theorem rrng_any {w0:World} {bs:List Bk} {ns:List Nm} {pb:Nat} {ba:Option Addr} {n c:Nat} (data:List Nat) (st:RS) (w:World) (h:RdW w0 bs ns pb ba n c st w) (hd:BytesN w0 (.slice ba n c) data) (h8:∀ x,x∈data→x<256) (hn:n≤1099511627776) :
  Calls Tryz.prog 170 #[.pointer (some ⟨pb,0,none⟩)] w (RngR w0 bs ns pb ba n c (rRng data st).1 (rRng data st).2):=by
 have HP:=qH (fun (bs:List Bk) (W:World) (h:RdW w0 bs ns pb ba n c st W)=>rpick_any 0 3 data st W h hd h8 hn)
 have h0:=pick_nonneg data 0 3 st
 have h1:=rPick_le h8 0 3 st
 unfold rRng
 generalize (rPick data 0 3 st).1=z at HP h0 h1 ⊢
 generalize (rPick data 0 3 st).2=st1 at HP ⊢
 obtain ⟨m,rfl⟩:∃ m:Nat,z=(m:Int):=⟨z.toNat,by omega⟩
 have e1:=low_bit ⟨m,by omega⟩
 have e2:=next_bit ⟨m,by omega⟩
 simp only at e1 e2
 exact rrng_all _ st1 _ _ (qH rfl) (qH rfl) e1 e2 data st w HP h hd h8 hn
def TailT (w0:World) (rb bs:List Bk) (ns:List Nm) (pp pb:Nat) (ba:Option Addr) (n c:Nat) (rp:Rep) (st:RS) (wx:World):Prop:=∃ (x:RepV) (ex:List Bk) (ns2:List Nm),RdW w0 (rb++⟨pp,123,x.cells⟩::(bs++ex)) (ns2++ns) pb ba n c st wx∧x.rep=rp∧∀ (bs2:List Bk) (W':World),BS w0 (bs2++ex) (ns2++ns) W'→x.ok W'
def TldR (w0:World) (bs:List Bk) (ns:List Nm) (pb:Nat) (ba:Option Addr) (n c:Nat) (op:Int) (rp:Rep) (st:RS) (e:Ending) (w':World):Prop:=∃ (x:RepV) (ex:List Bk) (ns2:List Nm),e=.returned (.tuple #[.int .i64 op,.agg x.cells.toArray])∧RdW w0 (bs++ex) (ns2++ns) pb ba n c st w'∧x.rep=rp∧∀ (bs2:List Bk) (W':World),BS w0 (bs2++ex) (ns2++ns) W'→x.ok W'
theorem Tryz.rowRp:(Tryz.prog.underlying 123).map (·.isRow)=some true:=by kernel_rfl
theorem Tryz.sizRp:(Tryz.prog.info? 123).map (·.size)=some 20:=by kernel_rfl
theorem range_all {w:World} {T:TypeId} {b:Nat} {vs:List Value} (hb:w.heap[b]?=some (.cells vs.toArray T (0,0))):w.rangeAt b 0 vs:=fun j v hj=>cell_of_block hb (by rw [Nat.zero_add];simpa using hj)
theorem there_of {w:World} {T:TypeId} {b:Nat} {vs:List Value} (hb:w.heap[b]?=some (.cells vs.toArray T (0,0))) (n:Nat) (hn:vs.length=n):w.there b 0 n:=fun j hj=>by
 refine ⟨?_,free_of_block hb⟩
 rw [Nat.zero_add,cell_of_block (u:=vs[j]'(by omega)) hb (by simp)]
 rfl
theorem RdW.setCells {w0:World} {bs:List Bk} {ns:List Nm} {pb:Nat} {ba:Option Addr} {n c:Nat} {st:RS} (i p:Nat) (T:TypeId):∀ (r pre tl:List Value) (w:World),i<bs.length→RdW w0 (bs.set i ⟨p,T,pre++tl⟩) ns pb ba n c st w→tl.length=r.length→(∀ u,u∈tl→∀ x,u≠.int .u64 x)→(∀ s,(pre++tl)[0]?≠some (.string s))→(∀ s,(pre++r)[0]?≠some (.string s)) →
  RdW w0 (bs.set i ⟨p,T,pre++r⟩) ns pb ba n c st (w.setCells p pre.length r)
 | [],pre,tl,w,hi,h,hl,_,_,_=>by
  obtain rfl:tl=[]:=List.eq_nil_of_length_eq_zero hl
  exact h
 | v::r,pre,t::tl,w,hi,h,hl,hu,h0,h1=>by
  have hs:=h.set i pre.length (b:=⟨p,T,pre++t::tl⟩) (u0:=t) (by rw [List.getElem?_set_self hi]) (by simp) (hu t List.mem_cons_self) v h0
  simp only [List.set_set] at hs
  rw [show (pre++t::tl).set pre.length v=(pre++[v])++tl by simp] at hs
  have h2:=RdW.setCells i p T r (pre++[v]) tl (w.setCell ⟨p,pre.length,none⟩ v) hi hs (by simpa using hl) (fun u hu2=>hu u (List.mem_cons_of_mem _ hu2)) (fun s=>by
   have:=h1 s
   cases pre <;> simpa using this) (fun s=>by
   have:=h1 s
   cases pre <;> simpa using this)
  rw [show (pre++[v])++r=pre++v::r by simp] at h2
  rw [show (pre++[v]).length=pre.length+1 by simp] at h2
  exact h2
theorem RdW.setAll {w0 w:World} {bs:List Bk} {ns:List Nm} {pb:Nat} {ba:Option Addr} {n c:Nat} {st:RS} (h:RdW w0 bs ns pb ba n c st w) (i:Nat) {b:Bk} (hi:bs[i]?=some b) (hu:∀ u,u∈b.cs→∀ x,u≠.int .u64 x) (h0:∀ s,b.cs[0]?≠some (.string s)) (vs:List Value) (hl:b.cs.length=vs.length) (h1:∀ s,vs[0]?≠some (.string s)) :
  RdW w0 (bs.set i ⟨b.p,b.T,vs⟩) ns pb ba n c st (w.setCells b.p 0 vs):=by
 have hil:i<bs.length:=(List.getElem?_eq_some_iff.1 hi).1
 have hbe:bs[i]=b:=(List.getElem?_eq_some_iff.1 hi).2
 have h2:RdW w0 (bs.set i ⟨b.p,b.T,[]++b.cs⟩) ns pb ba n c st w:=by
  rw [List.nil_append,show (⟨b.p,b.T,b.cs⟩:Bk)=bs[i] by rw [hbe],List.set_getElem_self]
  exact h
 exact RdW.setCells i b.p b.T vs [] b.cs w hil h2 hl hu h0 h1
theorem results_tmp_cell {fn:Func} {p u:Tmp} {ty:TypeId} (h:fn.results=#[.tmp u,.cell p ty]) (tmps:Array Value) (P:Program) (w:World) :
  (results fn tmps).run P w =
   ((asAddr (tmps.getD p undef)).run P w).andThen fun a w1=>((loadVar ty a).run P w1).andThen fun x w2=>.ok (.tuple #[tmps.getD u undef,x]) w2:=by
 simp only [results,h]
 simp [Sem.run_bind,Result.andThen]
theorem ret_of3 {P:Program} {T:TypeId} {p:Nat} {v u:Value} {W:World} (h:(loadVar T ⟨p,0,none⟩).run P W=.ok v W) :
  ((asAddr (.pointer (some ⟨p,0,none⟩))).run P W).andThen (fun a w1=>((loadVar T a).run P w1).andThen fun x w2=>(.ok (Value.tuple #[u,x]) w2:Result Value))=.ok (Value.tuple #[u,v]) W:=by
 show ((loadVar T ⟨p,0,none⟩).run P W).andThen (fun x w2=>(.ok (Value.tuple #[u,x]) w2:Result Value))=_
 rw [h];rfl
theorem fst_tld (data:List Nat) (op:Int) (st:RS):(rTldBody data op st).1.1=op:=by
 unfold rTldBody
 repeat' split
 all_goals rfl
theorem rtld_any {w0:World} {bs:List Bk} {ns:List Nm} {pb:Nat} {ba:Option Addr} {n c:Nat} (data:List Nat) (st:RS) (w:World) (h:RdW w0 bs ns pb ba n c st w) (hd:BytesN w0 (.slice ba n c) data) (h8:∀ x,x∈data→x<256) (hn:n≤1099511627776) :
  Calls Tryz.prog 113 #[.pointer (some ⟨pb,0,none⟩)] w (TldR w0 bs ns pb ba n c (rTld data st).1.1 (rTld data st).1.2 (rTld data st).2):=by
 unfold rTld
 have hP:=fun (bs:List Bk) (W:World) (h:RdW w0 bs ns pb ba n c st W)=>rpick_any 1 12 data st W h hd h8 hn
 generalize (rPick data 1 12 st).1=op at hP ⊢
 generalize (rPick data 1 12 st).2=st1 at hP ⊢
 have HP:=qH hP
 have HD:=qH hd
 have H8:=qH h8
 clear hd h8 hP
 obtain ⟨W0,hW0⟩:∃ W0,W0=(w.alloc (.cells #[.int .i64 0,.string ⟨#[]⟩,.int .i64 0,.int .i64 0,.int .i64 0,.bool false,.slice none 0 0,.slice none 0 0,.slice none 0 0,.bool false,.slice none 0 0,.slice none 0 0,.bool false,.slice none 0 0,.slice none 0 0,.bool false,.bool false,.int .i64 0,.int .i64 0,.int .i64 0] 123)):=⟨_,rfl⟩
 have hn0:RdW w0 (⟨w.heap.size,123,[.int .i64 0,.string ⟨#[]⟩,.int .i64 0,.int .i64 0,.int .i64 0,.bool false,.slice none 0 0,.slice none 0 0,.slice none 0 0,.bool false,.slice none 0 0,.slice none 0 0,.bool false,.slice none 0 0,.slice none 0 0,.bool false,.bool false,.int .i64 0,.int .i64 0,.int .i64 0]⟩::bs) ns pb ba n c st (w.alloc (.cells #[.int .i64 0,.string ⟨#[]⟩,.int .i64 0,.int .i64 0,.int .i64 0,.bool false,.slice none 0 0,.slice none 0 0,.slice none 0 0,.bool false,.slice none 0 0,.slice none 0 0,.bool false,.slice none 0 0,.slice none 0 0,.bool false,.bool false,.int .i64 0,.int .i64 0,.int .i64 0] 123)):=((h.alloc (p:=w.heap.size) rfl 123 [.int .i64 0,.string ⟨#[]⟩,.int .i64 0,.int .i64 0,.int .i64 0,.bool false,.slice none 0 0,.slice none 0 0,.slice none 0 0,.bool false,.slice none 0 0,.slice none 0 0,.bool false,.slice none 0 0,.slice none 0 0,.bool false,.bool false,.int .i64 0,.int .i64 0,.int .i64 0] rfl).ins 0)
 rw [← hW0] at hn0
 have HW0:=qH hW0
 have HN:=qH hn0
 clear hW0 hn0
 clear h
 go_enter Tryz.func113,Tryz.ntmps113
 go_upto_region 1 with fail
 rw [← HW0.out]
 go_wp2_with fail
 refine (HP.out _ W0 HN.out).mono ?_
 rintro e w1 ⟨rfl,hq⟩
 replace HN:=qH hq
 clear hq HP
 have HN0:=HN
 clear HN
 have HN:=qH (show RdW w0 (⟨w.heap.size,123,[.int .i64 0,.string ⟨#[]⟩,.int .i64 0,.int .i64 0,.int .i64 0,.bool false,.slice none 0 0,.slice none 0 0,.slice none 0 0,.bool false,.slice none 0 0,.slice none 0 0,.bool false,.slice none 0 0,.slice none 0 0,.bool false,.bool false,.int .i64 0,.int .i64 0,.int .i64 0]⟩::⟨w1.heap.size,123,[.int .i64 0,.string ⟨#[]⟩,.int .i64 0,.int .i64 0,.int .i64 0,.bool false,.slice none 0 0,.slice none 0 0,.slice none 0 0,.bool false,.slice none 0 0,.slice none 0 0,.bool false,.slice none 0 0,.slice none 0 0,.bool false,.bool false,.int .i64 0,.int .i64 0,.int .i64 0]⟩::bs) _ pb ba n c _ _ from ((HN0.out.alloc (p:=w1.heap.size) rfl 123 [.int .i64 0,.string ⟨#[]⟩,.int .i64 0,.int .i64 0,.int .i64 0,.bool false,.slice none 0 0,.slice none 0 0,.slice none 0 0,.bool false,.slice none 0 0,.slice none 0 0,.bool false,.slice none 0 0,.slice none 0 0,.bool false,.bool false,.int .i64 0,.int .i64 0,.int .i64 0] rfl).ins 1))
 go_upto_region 3 with fail
 replace HN:=qH (show RdW w0 (⟨w.heap.size,123,[.int .i64 0,.string ⟨#[]⟩,.int .i64 0,.int .i64 0,.int .i64 0,.bool false,.slice none 0 0,.slice none 0 0,.slice none 0 0,.bool false,.slice none 0 0,.slice none 0 0,.bool false,.slice none 0 0,.slice none 0 0,.bool false,.bool false,.int .i64 0,.int .i64 0,.int .i64 0]⟩::⟨w1.heap.size,123,[.int .i64 0,.string ⟨#[]⟩,.int .i64 0,.int .i64 0,.int .i64 0,.bool false,.slice none 0 0,.slice none 0 0,.slice none 0 0,.bool false,.slice none 0 0,.slice none 0 0,.bool false,.slice none 0 0,.slice none 0 0,.bool false,.bool false,.int .i64 0,.int .i64 0,.int .i64 0]⟩::bs) _ pb ba n c _ _ from HN.out)
 generalize (w1.alloc (.cells #[.int .i64 0,.string ⟨#[]⟩,.int .i64 0,.int .i64 0,.int .i64 0,.bool false,.slice none 0 0,.slice none 0 0,.slice none 0 0,.bool false,.slice none 0 0,.slice none 0 0,.bool false,.slice none 0 0,.slice none 0 0,.bool false,.bool false,.int .i64 0,.int .i64 0,.int .i64 0] 123))=wa2 at HN ⊢
 go_upto_block 0 with fail
 obtain ⟨pp,hpp⟩:∃ pp,w1.heap.size=pp:=⟨_,rfl⟩
 rw [hpp] at HN ⊢
 clear hpp
 go_cut [] (fun wx=>TailT w0 (⟨w.heap.size,123,[.int .i64 0,.string ⟨#[]⟩,.int .i64 0,.int .i64 0,.int .i64 0,.bool false,.slice none 0 0,.slice none 0 0,.slice none 0 0,.bool false,.slice none 0 0,.slice none 0 0,.bool false,.slice none 0 0,.slice none 0 0,.bool false,.bool false,.int .i64 0,.int .i64 0,.int .i64 0]⟩::[]) bs ns pp pb ba n c (rTldBody data op st1).1.2 (rTldBody data op st1).2 wx)
 case first =>
  by_cases h1:op=1
  ·
   subst h1
   go_wp2_with fail
   refine (rid_any data st1 wa2 HN.out HD.out H8.out hn).mono ?_
   rintro e w3 ⟨rfl,hq⟩
   replace HN:=qH hq
   clear hq
   have k13:=HN.out.cell 1 3 rfl rfl
   have f13:=HN.out.free 1 3 rfl
   go_wp2_with fail
   replace HN:=qH (show RdW w0 (⟨w.heap.size,123,[.int .i64 0,.string ⟨#[]⟩,.int .i64 0,.int .i64 0,.int .i64 0,.bool false,.slice none 0 0,.slice none 0 0,.slice none 0 0,.bool false,.slice none 0 0,.slice none 0 0,.bool false,.slice none 0 0,.slice none 0 0,.bool false,.bool false,.int .i64 0,.int .i64 0,.int .i64 0]⟩::⟨pp,123,[.int .i64 0,.string ⟨#[]⟩,.int .i64 0,.int .i64 (rId data st1).1,.int .i64 0,.bool false,.slice none 0 0,.slice none 0 0,.slice none 0 0,.bool false,.slice none 0 0,.slice none 0 0,.bool false,.slice none 0 0,.slice none 0 0,.bool false,.bool false,.int .i64 0,.int .i64 0,.int .i64 0]⟩::bs) _ pb ba n c _ _ from (HN.out.set 1 3 rfl rfl (fun _=>by simp) (.int .i64 (rId data st1).1)))
   clear k13 f13
   generalize (w3.setCell ⟨pp,3,none⟩ (.int .i64 (rId data st1).1))=wa4 at HN ⊢
   go_meet
   rw [show rTldBody data 1 st1=((1,{ Rep.zero with id:=(rId data st1).1 }),(rId data st1).2) from rfl]
   exact ⟨⟨0,⟨#[]⟩,0,(rId data st1).1,0,Rv.zero,none,0,0,[],Rv.zero,Rv.zero,false,false,0,0,0⟩,[],[],by rw [List.append_nil];exact HN.out,rfl,fun _ _ _=>⟨by show (0:Nat)≤_;omega,Rv.zero_ok _,Rv.zero_sh.num,Rv.zero_sh.den,⟨rfl,Sl.ofMid (Mid.nil _ 0 45 3),fun _ h=>(by cases h)⟩,fun _ h=>(by cases h),by show (0:Nat)≤_;omega,Rv.zero_ok _,Rv.zero_sh.num,Rv.zero_sh.den,Rv.zero_ok _,Rv.zero_sh.num,Rv.zero_sh.den⟩⟩
  by_cases h2:op=2
  ·
   subst h2
   go_wp2_with fail
   refine (rid_any data st1 wa2 HN.out HD.out H8.out hn).mono ?_
   rintro e w3 ⟨rfl,hq⟩
   replace HN:=qH hq
   clear hq
   have k13:=HN.out.cell 1 3 rfl rfl
   have f13:=HN.out.free 1 3 rfl
   go_wp2_with fail
   replace HN:=qH (show RdW w0 (⟨w.heap.size,123,[.int .i64 0,.string ⟨#[]⟩,.int .i64 0,.int .i64 0,.int .i64 0,.bool false,.slice none 0 0,.slice none 0 0,.slice none 0 0,.bool false,.slice none 0 0,.slice none 0 0,.bool false,.slice none 0 0,.slice none 0 0,.bool false,.bool false,.int .i64 0,.int .i64 0,.int .i64 0]⟩::⟨pp,123,[.int .i64 0,.string ⟨#[]⟩,.int .i64 0,.int .i64 (rId data st1).1,.int .i64 0,.bool false,.slice none 0 0,.slice none 0 0,.slice none 0 0,.bool false,.slice none 0 0,.slice none 0 0,.bool false,.slice none 0 0,.slice none 0 0,.bool false,.bool false,.int .i64 0,.int .i64 0,.int .i64 0]⟩::bs) _ pb ba n c _ _ from (HN.out.set 1 3 rfl rfl (fun _=>by simp) (.int .i64 (rId data st1).1)))
   clear k13 f13
   generalize (w3.setCell ⟨pp,3,none⟩ (.int .i64 (rId data st1).1))=wa4 at HN ⊢
   go_meet
   rw [show rTldBody data 2 st1=((2,{ Rep.zero with id:=(rId data st1).1 }),(rId data st1).2) from rfl]
   exact ⟨⟨0,⟨#[]⟩,0,(rId data st1).1,0,Rv.zero,none,0,0,[],Rv.zero,Rv.zero,false,false,0,0,0⟩,[],[],by rw [List.append_nil];exact HN.out,rfl,fun _ _ _=>⟨by show (0:Nat)≤_;omega,Rv.zero_ok _,Rv.zero_sh.num,Rv.zero_sh.den,⟨rfl,Sl.ofMid (Mid.nil _ 0 45 3),fun _ h=>(by cases h)⟩,fun _ h=>(by cases h),by show (0:Nat)≤_;omega,Rv.zero_ok _,Rv.zero_sh.num,Rv.zero_sh.den,Rv.zero_ok _,Rv.zero_sh.num,Rv.zero_sh.den⟩⟩
  by_cases h9:op=9
  ·
   subst h9
   go_wp2_with fail
   refine (rans_any data st1 wa2 HN.out HD.out H8.out hn).mono ?_
   rintro e w3 ⟨r,pa,pn,pc,vs,rfl,hrs,hrq,hvq,hvl,hpn,hsh,k9,ev9,hO,hs9,hk9⟩
   obtain ⟨ex,hq,hback⟩:=hO.lendR hs9 hk9
   replace HN:=qH hq
   have HRS:=qH hrs
   have HRQ:=qH hrq
   have HVQ:=qH hvq
   have HVL:=qH hvl
   have HPN:=qH hpn
   have HVS:=qH hsh
   have HBK:=qH hback
   clear hq hrs hrq hvq hvl hpn hsh hback hO hs9 hk9
   have k14:=HN.out.cell 1 4 rfl rfl
   have f14:=HN.out.free 1 4 rfl
   have k15:=HN.out.cell 1 5 rfl rfl
   have f15:=HN.out.free 1 5 rfl
   have k16:=HN.out.cell 1 6 rfl rfl
   have f16:=HN.out.free 1 6 rfl
   have k17:=HN.out.cell 1 7 rfl rfl
   have f17:=HN.out.free 1 7 rfl
   have k18:=HN.out.cell 1 8 rfl rfl
   have f18:=HN.out.free 1 8 rfl
   go_wp2_with fail
   replace HN:=qH (show RdW w0 (⟨w.heap.size,123,[.int .i64 0,.string ⟨#[]⟩,.int .i64 0,.int .i64 0,.int .i64 0,.bool false,.slice none 0 0,.slice none 0 0,.slice none 0 0,.bool false,.slice none 0 0,.slice none 0 0,.bool false,.slice none 0 0,.slice none 0 0,.bool false,.bool false,.int .i64 0,.int .i64 0,.int .i64 0]⟩::⟨pp,123,[.int .i64 0,.string ⟨#[]⟩,.int .i64 0,.int .i64 0,.int .i64 (rAns data st1).1.out,.bool r.s,.slice r.a r.l r.c,.slice r.b r.m r.d,.slice pa pn pc,.bool false,.slice none 0 0,.slice none 0 0,.bool false,.slice none 0 0,.slice none 0 0,.bool false,.bool false,.int .i64 0,.int .i64 0,.int .i64 0]⟩::(bs++ex)) _ pb ba n c _ _ from (((((HN.out.set 1 4 rfl rfl (fun _=>by simp) (.int .i64 (rAns data st1).1.out)).set 1 5 rfl rfl (fun _=>by simp) (.bool r.s)).set 1 6 rfl rfl (fun _=>by simp) (.slice r.a r.l r.c)).set 1 7 rfl rfl (fun _=>by simp) (.slice r.b r.m r.d)).set 1 8 rfl rfl (fun _=>by simp) (.slice pa pn pc)))
   clear k14 f14 k15 f15 k16 f16 k17 f17 k18 f18
   generalize (((((w3.setCell ⟨pp,4,none⟩ (.int .i64 (rAns data st1).1.out)).setCell ⟨pp,5,none⟩ (.bool r.s)).setCell ⟨pp,6,none⟩ (.slice r.a r.l r.c)).setCell ⟨pp,7,none⟩ (.slice r.b r.m r.d)).setCell ⟨pp,8,none⟩ (.slice pa pn pc))=wa4 at HN ⊢
   go_meet
   rw [show rTldBody data 9 st1=((9,{ Rep.zero with ans:=(rAns data st1).1 }),(rAns data st1).2) from rfl]
   exact ⟨⟨0,⟨#[]⟩,0,0,(rAns data st1).1.out,r,pa,pn,pc,vs,Rv.zero,Rv.zero,false,false,0,0,0⟩,ex,r.nums++numsV vs,by rw [List.append_assoc];exact HN.out,by unfold RepV.rep;simp only [HRQ.out,HVQ.out];rfl,fun bs2 W9 hb=>(fun hO=>⟨by show (0:Nat)≤_;omega,HRS.out.ok hb (fun x hx=>List.mem_append_left _ (List.mem_append_left _ hx)),HRS.out.num,HRS.out.den,⟨HVL.out,Sl.ofMid hO.mid,fun v hv=>(HVS.out v hv).ok hb (fun x hx=>List.mem_append_left _ (List.mem_append_right _ (List.mem_flatMap.2 ⟨v,hv,hx⟩)))⟩,fun v hv=>⟨(HVS.out v hv).num,(HVS.out v hv).den⟩,by have:=HPN.out;show pn≤_;omega,Rv.zero_ok _,Rv.zero_sh.num,Rv.zero_sh.den,Rv.zero_ok _,Rv.zero_sh.num,Rv.zero_sh.den⟩) (HBK.out bs2 _ W9 hb)⟩
  by_cases h10:op=10
  ·
   subst h10
   go_wp2_with fail
   refine (rrng_any data st1 wa2 HN.out HD.out H8.out hn).mono ?_
   rintro e w3 ⟨l,g,rfl,hls,hgs,hlq,hgq,hq⟩
   replace HN:=qH hq
   clear hq
   have HLS:=qH hls
   have HGS:=qH hgs
   have HLQ:=qH hlq
   have HGQ:=qH hgq
   clear hls hgs hlq hgq
   have k19:=HN.out.cell 1 9 rfl rfl
   have f19:=HN.out.free 1 9 rfl
   have k110:=HN.out.cell 1 10 rfl rfl
   have f110:=HN.out.free 1 10 rfl
   have k111:=HN.out.cell 1 11 rfl rfl
   have f111:=HN.out.free 1 11 rfl
   have k112:=HN.out.cell 1 12 rfl rfl
   have f112:=HN.out.free 1 12 rfl
   have k113:=HN.out.cell 1 13 rfl rfl
   have f113:=HN.out.free 1 13 rfl
   have k114:=HN.out.cell 1 14 rfl rfl
   have f114:=HN.out.free 1 14 rfl
   have k115:=HN.out.cell 1 15 rfl rfl
   have f115:=HN.out.free 1 15 rfl
   have k116:=HN.out.cell 1 16 rfl rfl
   have f116:=HN.out.free 1 16 rfl
   go_wp2_with fail
   replace HN:=qH (show RdW w0 (⟨w.heap.size,123,[.int .i64 0,.string ⟨#[]⟩,.int .i64 0,.int .i64 0,.int .i64 0,.bool false,.slice none 0 0,.slice none 0 0,.slice none 0 0,.bool false,.slice none 0 0,.slice none 0 0,.bool false,.slice none 0 0,.slice none 0 0,.bool false,.bool false,.int .i64 0,.int .i64 0,.int .i64 0]⟩::⟨pp,123,[.int .i64 0,.string ⟨#[]⟩,.int .i64 0,.int .i64 0,.int .i64 0,.bool false,.slice none 0 0,.slice none 0 0,.slice none 0 0,.bool l.s,.slice l.a l.l l.c,.slice l.b l.m l.d,.bool g.s,.slice g.a g.l g.c,.slice g.b g.m g.d,.bool (rRng data st1).1.hasLo,.bool (rRng data st1).1.hasHi,.int .i64 0,.int .i64 0,.int .i64 0]⟩::bs) _ pb ba n c _ _ from ((((((((HN.out.set 1 9 rfl rfl (fun _=>by simp) (.bool l.s)).set 1 10 rfl rfl (fun _=>by simp) (.slice l.a l.l l.c)).set 1 11 rfl rfl (fun _=>by simp) (.slice l.b l.m l.d)).set 1 12 rfl rfl (fun _=>by simp) (.bool g.s)).set 1 13 rfl rfl (fun _=>by simp) (.slice g.a g.l g.c)).set 1 14 rfl rfl (fun _=>by simp) (.slice g.b g.m g.d)).set 1 15 rfl rfl (fun _=>by simp) (.bool (rRng data st1).1.hasLo)).set 1 16 rfl rfl (fun _=>by simp) (.bool (rRng data st1).1.hasHi)))
   clear k19 f19 k110 f110 k111 f111 k112 f112 k113 f113 k114 f114 k115 f115 k116 f116
   generalize ((((((((w3.setCell ⟨pp,9,none⟩ (.bool l.s)).setCell ⟨pp,10,none⟩ (.slice l.a l.l l.c)).setCell ⟨pp,11,none⟩ (.slice l.b l.m l.d)).setCell ⟨pp,12,none⟩ (.bool g.s)).setCell ⟨pp,13,none⟩ (.slice g.a g.l g.c)).setCell ⟨pp,14,none⟩ (.slice g.b g.m g.d)).setCell ⟨pp,15,none⟩ (.bool (rRng data st1).1.hasLo)).setCell ⟨pp,16,none⟩ (.bool (rRng data st1).1.hasHi))=wa4 at HN ⊢
   go_meet
   rw [show rTldBody data 10 st1=((10,{ Rep.zero with rng:=(rRng data st1).1 }),(rRng data st1).2) from rfl]
   exact ⟨⟨0,⟨#[]⟩,0,0,0,Rv.zero,none,0,0,[],l,g,(rRng data st1).1.hasLo,(rRng data st1).1.hasHi,0,0,0⟩,[],l.nums++g.nums,by rw [List.append_nil,List.append_assoc];exact HN.out,by unfold RepV.rep;simp only [HLQ.out,HGQ.out];rfl,fun bs2 W9 hb=>⟨by show (0:Nat)≤_;omega,Rv.zero_ok _,Rv.zero_sh.num,Rv.zero_sh.den,⟨rfl,Sl.ofMid (Mid.nil _ 0 45 3),fun _ h=>(by cases h)⟩,fun _ h=>(by cases h),by show (0:Nat)≤_;omega,HLS.out.ok hb (fun x hx=>List.mem_append_left _ (List.mem_append_left _ hx)),HLS.out.num,HLS.out.den,HGS.out.ok hb (fun x hx=>List.mem_append_left _ (List.mem_append_right _ hx)),HGS.out.num,HGS.out.den⟩⟩
  by_cases h11:op=11
  ·
   subst h11
   go_wp2_with fail
   refine (rrng_any data st1 wa2 HN.out HD.out H8.out hn).mono ?_
   rintro e w3 ⟨l,g,rfl,hls,hgs,hlq,hgq,hq⟩
   replace HN:=qH hq
   clear hq
   have HLS:=qH hls
   have HGS:=qH hgs
   have HLQ:=qH hlq
   have HGQ:=qH hgq
   clear hls hgs hlq hgq
   have k19:=HN.out.cell 1 9 rfl rfl
   have f19:=HN.out.free 1 9 rfl
   have k110:=HN.out.cell 1 10 rfl rfl
   have f110:=HN.out.free 1 10 rfl
   have k111:=HN.out.cell 1 11 rfl rfl
   have f111:=HN.out.free 1 11 rfl
   have k112:=HN.out.cell 1 12 rfl rfl
   have f112:=HN.out.free 1 12 rfl
   have k113:=HN.out.cell 1 13 rfl rfl
   have f113:=HN.out.free 1 13 rfl
   have k114:=HN.out.cell 1 14 rfl rfl
   have f114:=HN.out.free 1 14 rfl
   have k115:=HN.out.cell 1 15 rfl rfl
   have f115:=HN.out.free 1 15 rfl
   have k116:=HN.out.cell 1 16 rfl rfl
   have f116:=HN.out.free 1 16 rfl
   go_wp2_with fail
   replace HN:=qH (show RdW w0 (⟨w.heap.size,123,[.int .i64 0,.string ⟨#[]⟩,.int .i64 0,.int .i64 0,.int .i64 0,.bool false,.slice none 0 0,.slice none 0 0,.slice none 0 0,.bool false,.slice none 0 0,.slice none 0 0,.bool false,.slice none 0 0,.slice none 0 0,.bool false,.bool false,.int .i64 0,.int .i64 0,.int .i64 0]⟩::⟨pp,123,[.int .i64 0,.string ⟨#[]⟩,.int .i64 0,.int .i64 0,.int .i64 0,.bool false,.slice none 0 0,.slice none 0 0,.slice none 0 0,.bool l.s,.slice l.a l.l l.c,.slice l.b l.m l.d,.bool g.s,.slice g.a g.l g.c,.slice g.b g.m g.d,.bool (rRng data st1).1.hasLo,.bool (rRng data st1).1.hasHi,.int .i64 0,.int .i64 0,.int .i64 0]⟩::bs) _ pb ba n c _ _ from ((((((((HN.out.set 1 9 rfl rfl (fun _=>by simp) (.bool l.s)).set 1 10 rfl rfl (fun _=>by simp) (.slice l.a l.l l.c)).set 1 11 rfl rfl (fun _=>by simp) (.slice l.b l.m l.d)).set 1 12 rfl rfl (fun _=>by simp) (.bool g.s)).set 1 13 rfl rfl (fun _=>by simp) (.slice g.a g.l g.c)).set 1 14 rfl rfl (fun _=>by simp) (.slice g.b g.m g.d)).set 1 15 rfl rfl (fun _=>by simp) (.bool (rRng data st1).1.hasLo)).set 1 16 rfl rfl (fun _=>by simp) (.bool (rRng data st1).1.hasHi)))
   clear k19 f19 k110 f110 k111 f111 k112 f112 k113 f113 k114 f114 k115 f115 k116 f116
   generalize ((((((((w3.setCell ⟨pp,9,none⟩ (.bool l.s)).setCell ⟨pp,10,none⟩ (.slice l.a l.l l.c)).setCell ⟨pp,11,none⟩ (.slice l.b l.m l.d)).setCell ⟨pp,12,none⟩ (.bool g.s)).setCell ⟨pp,13,none⟩ (.slice g.a g.l g.c)).setCell ⟨pp,14,none⟩ (.slice g.b g.m g.d)).setCell ⟨pp,15,none⟩ (.bool (rRng data st1).1.hasLo)).setCell ⟨pp,16,none⟩ (.bool (rRng data st1).1.hasHi))=wa4 at HN ⊢
   go_meet
   rw [show rTldBody data 11 st1=((11,{ Rep.zero with rng:=(rRng data st1).1 }),(rRng data st1).2) from rfl]
   exact ⟨⟨0,⟨#[]⟩,0,0,0,Rv.zero,none,0,0,[],l,g,(rRng data st1).1.hasLo,(rRng data st1).1.hasHi,0,0,0⟩,[],l.nums++g.nums,by rw [List.append_nil,List.append_assoc];exact HN.out,by unfold RepV.rep;simp only [HLQ.out,HGQ.out];rfl,fun bs2 W9 hb=>⟨by show (0:Nat)≤_;omega,Rv.zero_ok _,Rv.zero_sh.num,Rv.zero_sh.den,⟨rfl,Sl.ofMid (Mid.nil _ 0 45 3),fun _ h=>(by cases h)⟩,fun _ h=>(by cases h),by show (0:Nat)≤_;omega,HLS.out.ok hb (fun x hx=>List.mem_append_left _ (List.mem_append_left _ hx)),HLS.out.num,HLS.out.den,HGS.out.ok hb (fun x hx=>List.mem_append_left _ (List.mem_append_right _ hx)),HGS.out.num,HGS.out.den⟩⟩
  by_cases h12:op=12
  ·
   subst h12
   go_wp2_with fail
   refine (rdint_any data st1 wa2 HN.out HD.out H8.out hn).mono ?_
   rintro e w3 ⟨rfl,hq⟩
   replace HN:=qH hq
   clear hq
   have k117:=HN.out.cell 1 17 rfl rfl
   have f117:=HN.out.free 1 17 rfl
   go_wp2_with fail
   replace HN:=qH (show RdW w0 (⟨w.heap.size,123,[.int .i64 0,.string ⟨#[]⟩,.int .i64 0,.int .i64 0,.int .i64 0,.bool false,.slice none 0 0,.slice none 0 0,.slice none 0 0,.bool false,.slice none 0 0,.slice none 0 0,.bool false,.slice none 0 0,.slice none 0 0,.bool false,.bool false,.int .i64 0,.int .i64 0,.int .i64 0]⟩::⟨pp,123,[.int .i64 0,.string ⟨#[]⟩,.int .i64 0,.int .i64 0,.int .i64 0,.bool false,.slice none 0 0,.slice none 0 0,.slice none 0 0,.bool false,.slice none 0 0,.slice none 0 0,.bool false,.slice none 0 0,.slice none 0 0,.bool false,.bool false,.int .i64 (rInt data st1).1,.int .i64 0,.int .i64 0]⟩::bs) _ pb ba n c _ _ from (HN.out.set 1 17 rfl rfl (fun _=>by simp) (.int .i64 (rInt data st1).1)))
   clear k117 f117
   generalize (w3.setCell ⟨pp,17,none⟩ (.int .i64 (rInt data st1).1))=wa4 at HN ⊢
   refine (rdint_any data (rInt data st1).2 wa4 HN.out HD.out H8.out hn).mono ?_
   rintro e w5 ⟨rfl,hq⟩
   replace HN:=qH hq
   clear hq
   have k118:=HN.out.cell 1 18 rfl rfl
   have f118:=HN.out.free 1 18 rfl
   go_wp2_with fail
   replace HN:=qH (show RdW w0 (⟨w.heap.size,123,[.int .i64 0,.string ⟨#[]⟩,.int .i64 0,.int .i64 0,.int .i64 0,.bool false,.slice none 0 0,.slice none 0 0,.slice none 0 0,.bool false,.slice none 0 0,.slice none 0 0,.bool false,.slice none 0 0,.slice none 0 0,.bool false,.bool false,.int .i64 0,.int .i64 0,.int .i64 0]⟩::⟨pp,123,[.int .i64 0,.string ⟨#[]⟩,.int .i64 0,.int .i64 0,.int .i64 0,.bool false,.slice none 0 0,.slice none 0 0,.slice none 0 0,.bool false,.slice none 0 0,.slice none 0 0,.bool false,.slice none 0 0,.slice none 0 0,.bool false,.bool false,.int .i64 (rInt data st1).1,.int .i64 (rInt data (rInt data st1).2).1,.int .i64 0]⟩::bs) _ pb ba n c _ _ from (HN.out.set 1 18 rfl rfl (fun _=>by simp) (.int .i64 (rInt data (rInt data st1).2).1)))
   clear k118 f118
   generalize (w5.setCell ⟨pp,18,none⟩ (.int .i64 (rInt data (rInt data st1).2).1))=wa6 at HN ⊢
   refine (rdint_any data (rInt data (rInt data st1).2).2 wa6 HN.out HD.out H8.out hn).mono ?_
   rintro e w7 ⟨rfl,hq⟩
   replace HN:=qH hq
   clear hq
   have k119:=HN.out.cell 1 19 rfl rfl
   have f119:=HN.out.free 1 19 rfl
   go_wp2_with fail
   replace HN:=qH (show RdW w0 (⟨w.heap.size,123,[.int .i64 0,.string ⟨#[]⟩,.int .i64 0,.int .i64 0,.int .i64 0,.bool false,.slice none 0 0,.slice none 0 0,.slice none 0 0,.bool false,.slice none 0 0,.slice none 0 0,.bool false,.slice none 0 0,.slice none 0 0,.bool false,.bool false,.int .i64 0,.int .i64 0,.int .i64 0]⟩::⟨pp,123,[.int .i64 0,.string ⟨#[]⟩,.int .i64 0,.int .i64 0,.int .i64 0,.bool false,.slice none 0 0,.slice none 0 0,.slice none 0 0,.bool false,.slice none 0 0,.slice none 0 0,.bool false,.slice none 0 0,.slice none 0 0,.bool false,.bool false,.int .i64 (rInt data st1).1,.int .i64 (rInt data (rInt data st1).2).1,.int .i64 (rInt data (rInt data (rInt data st1).2).2).1]⟩::bs) _ pb ba n c _ _ from (HN.out.set 1 19 rfl rfl (fun _=>by simp) (.int .i64 (rInt data (rInt data (rInt data st1).2).2).1)))
   clear k119 f119
   generalize (w7.setCell ⟨pp,19,none⟩ (.int .i64 (rInt data (rInt data (rInt data st1).2).2).1))=wa8 at HN ⊢
   go_meet
   rw [show rTldBody data 12 st1=((12,{ Rep.zero with u0:=(rInt data st1).1,u1:=(rInt data (rInt data st1).2).1,u2:=(rInt data (rInt data (rInt data st1).2).2).1 }),(rInt data (rInt data (rInt data st1).2).2).2) from rfl]
   exact ⟨⟨0,⟨#[]⟩,0,0,0,Rv.zero,none,0,0,[],Rv.zero,Rv.zero,false,false,(rInt data st1).1,(rInt data (rInt data st1).2).1,(rInt data (rInt data (rInt data st1).2).2).1⟩,[],[],by rw [List.append_nil];exact HN.out,rfl,fun _ _ _=>⟨by show (0:Nat)≤_;omega,Rv.zero_ok _,Rv.zero_sh.num,Rv.zero_sh.den,⟨rfl,Sl.ofMid (Mid.nil _ 0 45 3),fun _ h=>(by cases h)⟩,fun _ h=>(by cases h),by show (0:Nat)≤_;omega,Rv.zero_ok _,Rv.zero_sh.num,Rv.zero_sh.den,Rv.zero_ok _,Rv.zero_sh.num,Rv.zero_sh.den⟩⟩
  have g1:(op==1)=false:=beq_eq_false_iff_ne.2 h1
  have g2:(op==2)=false:=beq_eq_false_iff_ne.2 h2
  have g9:(op==9)=false:=beq_eq_false_iff_ne.2 h9
  have g10:(op==10)=false:=beq_eq_false_iff_ne.2 h10
  have g11:(op==11)=false:=beq_eq_false_iff_ne.2 h11
  have g12:(op==12)=false:=beq_eq_false_iff_ne.2 h12
  go_wp2_with fail
  go_meet
  rw [show rTldBody data op st1=((op,Rep.zero),st1) from by unfold rTldBody;rw [if_neg (by omega),if_neg h9,if_neg (by omega),if_neg h12]]
  exact ⟨⟨0,⟨#[]⟩,0,0,0,Rv.zero,none,0,0,[],Rv.zero,Rv.zero,false,false,0,0,0⟩,[],[],by rw [List.append_nil];exact HN.out,rfl,fun _ _ _=>⟨by show (0:Nat)≤_;omega,Rv.zero_ok _,Rv.zero_sh.num,Rv.zero_sh.den,⟨rfl,Sl.ofMid (Mid.nil _ 0 45 3),fun _ h=>(by cases h)⟩,fun _ h=>(by cases h),by show (0:Nat)≤_;omega,Rv.zero_ok _,Rv.zero_sh.num,Rv.zero_sh.den,Rv.zero_ok _,Rv.zero_sh.num,Rv.zero_sh.den⟩⟩
 case rest =>
  obtain ⟨w8,rfl⟩:∃ w8:World,w8=wc:=⟨_,rfl⟩
  obtain ⟨x,ex,ns2,hq,hrp,hok⟩:=hcut
  have HN:=qH (show RdW w0 (⟨w.heap.size,123,[.int .i64 0,.string ⟨#[]⟩,.int .i64 0,.int .i64 0,.int .i64 0,.bool false,.slice none 0 0,.slice none 0 0,.slice none 0 0,.bool false,.slice none 0 0,.slice none 0 0,.bool false,.slice none 0 0,.slice none 0 0,.bool false,.bool false,.int .i64 0,.int .i64 0,.int .i64 0]⟩::⟨pp,123,[.int .i64 x.err,.string x.wher,.int .i64 x.at9,.int .i64 x.id,.int .i64 x.out,.bool x.v.s,.slice x.v.a x.v.l x.v.c,.slice x.v.b x.v.m x.v.d,.slice x.pa x.pn x.pc,.bool x.lo.s,.slice x.lo.a x.lo.l x.lo.c,.slice x.lo.b x.lo.m x.lo.d,.bool x.hi.s,.slice x.hi.a x.hi.l x.hi.c,.slice x.hi.b x.hi.m x.hi.d,.bool x.hl,.bool x.hh,.int .i64 x.u0,.int .i64 x.u1,.int .i64 x.u2]⟩::(bs++ex)) (ns2++ns) pb ba n c (rTldBody data op st1).2 w8 from hq)
  have HRP:=qH hrp
  have HOK:=qH hok
  obtain ⟨dP,hdu,hdr⟩:=Option.map_eq_some_iff.1 Tryz.rowRp
  have HDU:=qH hdu
  have HDR:=qH hdr
  clear hq hrp hok hdu hdr
  go_upto_region 16 with fail
  replace HN:=qH (HN.out.call (Below.refl _ _).drew)
  refine wp_region_held_drew (S:=fun _=>True) (by kernel_rfl) (trivial) (fun hHeld=>?_)
  generalize w8.drew=wd at HN hHeld ⊢
  refine tm 0 (some 40) ?_
  refine tm 2 (some 2) ?_
  refine wpAnyH_ready (rs:=[1]) (by kernel_rfl) (by simp) ?_
  refine (AllReadyH.cons (o:={ dst:=some 41,op:=Op.load 123 (Operand.tmp 5),type:=123,pos := "message.go:382",after:=#[{ on:=2,ground:=Ground.gcOnly Departure.lateStores }],guard:=none }) rfl (fun K hK=>?_) AllReadyH.nil)
  refine wp_load_mid 123 _ rfl pp 0 rfl [.int .i64 x.err,.string x.wher,.int .i64 x.at9,.int .i64 x.id,.int .i64 x.out,.bool x.v.s,.slice x.v.a x.v.l x.v.c,.slice x.v.b x.v.m x.v.d,.slice x.pa x.pn x.pc,.bool x.lo.s,.slice x.lo.a x.lo.l x.lo.c,.slice x.lo.b x.lo.m x.lo.d,.bool x.hi.s,.slice x.hi.a x.hi.l x.hi.c,.slice x.hi.b x.hi.m x.hi.d,.bool x.hl,.bool x.hh,.int .i64 x.u0,.int .i64 x.u1,.int .i64 x.u2] dP (range_all (HN.out.at 1 rfl)) HDU.out HDR.out Tryz.sizRp ?_
  refine hK.out _ _ (trivial) (fun hHeld2=>?_)
  clear hK K hHeld
  rename _=>hHeld
  try simp only [Act.put,stB,stZ,stS]
  refine wpAnyH_ready (rs:=[3]) (by kernel_rfl) (by simp) ?_
  refine (AllReadyH.cons (o:={ dst:=none,op:=Op.store 123 (Operand.tmp 3) (Operand.tmp 41),type:=0,pos := "message.go:382",after:=#[{ on:=1,ground:=Ground.data },{ on:=2,ground:=Ground.chain },{ on:=0,ground:=Ground.phase },{ on:=1,ground:=Ground.phase },{ on:=2,ground:=Ground.phase }],guard:=none }) rfl (fun K hK=>?_) AllReadyH.nil)
  refine wp_store_mid 123 _ _ rfl w.heap.size 0 #[.int .i64 x.err,.string x.wher,.int .i64 x.at9,.int .i64 x.id,.int .i64 x.out,.bool x.v.s,.slice x.v.a x.v.l x.v.c,.slice x.v.b x.v.m x.v.d,.slice x.pa x.pn x.pc,.bool x.lo.s,.slice x.lo.a x.lo.l x.lo.c,.slice x.lo.b x.lo.m x.lo.d,.bool x.hi.s,.slice x.hi.a x.hi.l x.hi.c,.slice x.hi.b x.hi.m x.hi.d,.bool x.hl,.bool x.hh,.int .i64 x.u0,.int .i64 x.u1,.int .i64 x.u2] rfl rfl (there_of (HN.out.at 0 rfl) 20 rfl) Tryz.sizRp (by kernel_rfl) ?_
  replace HN:=qH (show RdW w0 (⟨w.heap.size,123,[.int .i64 x.err,.string x.wher,.int .i64 x.at9,.int .i64 x.id,.int .i64 x.out,.bool x.v.s,.slice x.v.a x.v.l x.v.c,.slice x.v.b x.v.m x.v.d,.slice x.pa x.pn x.pc,.bool x.lo.s,.slice x.lo.a x.lo.l x.lo.c,.slice x.lo.b x.lo.m x.lo.d,.bool x.hi.s,.slice x.hi.a x.hi.l x.hi.c,.slice x.hi.b x.hi.m x.hi.d,.bool x.hl,.bool x.hh,.int .i64 x.u0,.int .i64 x.u1,.int .i64 x.u2]⟩::⟨pp,123,[.int .i64 x.err,.string x.wher,.int .i64 x.at9,.int .i64 x.id,.int .i64 x.out,.bool x.v.s,.slice x.v.a x.v.l x.v.c,.slice x.v.b x.v.m x.v.d,.slice x.pa x.pn x.pc,.bool x.lo.s,.slice x.lo.a x.lo.l x.lo.c,.slice x.lo.b x.lo.m x.lo.d,.bool x.hi.s,.slice x.hi.a x.hi.l x.hi.c,.slice x.hi.b x.hi.m x.hi.d,.bool x.hl,.bool x.hh,.int .i64 x.u0,.int .i64 x.u1,.int .i64 x.u2]⟩::(bs++ex)) (ns2++ns) pb ba n c (rTldBody data op st1).2 _ from HN.out.setAll 0 rfl (by simp) (by simp) [.int .i64 x.err,.string x.wher,.int .i64 x.at9,.int .i64 x.id,.int .i64 x.out,.bool x.v.s,.slice x.v.a x.v.l x.v.c,.slice x.v.b x.v.m x.v.d,.slice x.pa x.pn x.pc,.bool x.lo.s,.slice x.lo.a x.lo.l x.lo.c,.slice x.lo.b x.lo.m x.lo.d,.bool x.hi.s,.slice x.hi.a x.hi.l x.hi.c,.slice x.hi.b x.hi.m x.hi.d,.bool x.hl,.bool x.hh,.int .i64 x.u0,.int .i64 x.u1,.int .i64 x.u2] rfl (by simp))
  generalize wd.setCells w.heap.size 0 (#[.int .i64 x.err,.string x.wher,.int .i64 x.at9,.int .i64 x.id,.int .i64 x.out,.bool x.v.s,.slice x.v.a x.v.l x.v.c,.slice x.v.b x.v.m x.v.d,.slice x.pa x.pn x.pc,.bool x.lo.s,.slice x.lo.a x.lo.l x.lo.c,.slice x.lo.b x.lo.m x.lo.d,.bool x.hi.s,.slice x.hi.a x.hi.l x.hi.c,.slice x.hi.b x.hi.m x.hi.d,.bool x.hl,.bool x.hh,.int .i64 x.u0,.int .i64 x.u1,.int .i64 x.u2]:Array Value).toList=wd at HN ⊢
  refine hK.out _ _ (trivial) (fun hHeld2=>?_)
  clear hK K hHeld
  rename _=>hHeld
  try simp only [Act.put,stB,stZ,stS]
  refine wpAnyH_done (by kernel_rfl) ?_ _
  clear hHeld
  go_wp2_with fail
  (try simp only [Exit.inBlock,Exit.then])
  refine bodyPost_ret (v:=.tuple #[.int .i64 op,.agg #[.int .i64 x.err,.string x.wher,.int .i64 x.at9,.int .i64 x.id,.int .i64 x.out,.bool x.v.s,.slice x.v.a x.v.l x.v.c,.slice x.v.b x.v.m x.v.d,.slice x.pa x.pn x.pc,.bool x.lo.s,.slice x.lo.a x.lo.l x.lo.c,.slice x.lo.b x.lo.m x.lo.d,.bool x.hi.s,.slice x.hi.a x.hi.l x.hi.c,.slice x.hi.b x.hi.m x.hi.d,.bool x.hl,.bool x.hh,.int .i64 x.u0,.int .i64 x.u1,.int .i64 x.u2]]) ?_ rfl ?_
  ·
   rw [results_tmp_cell rfl]
   exact ret_of3 (run_loadVar_mid _ w.heap.size 0 123 x.cells dP (range_all (HN.out.at 0 rfl)) HDU.out HDR.out Tryz.sizRp)
  rw [fst_tld]
  exact ⟨x,ex,ns2,rfl,HN.out.only (.cons _ (.cons _ (List.Sublist.refl _))) (fun _ h=>h),HRP.out,HOK.out⟩
theorem or_low64 (a x:Nat) (ha:a<256) (hx:x<256):bits .or .i64 ((a*256:Nat):Int) (x:Int)=((a*256+x:Nat):Int):=by
 show IntKind.i64.wrap ((BitVec.ofInt 64 ((a*256:Nat):Int) ||| BitVec.ofInt 64 (x:Int)).toNat:Int)=_
 have e1:(BitVec.ofInt 64 ((a*256:Nat):Int)).toNat=a*256:=by rw [BitVec.toNat_ofInt];omega
 have e2:(BitVec.ofInt 64 (x:Int)).toNat=x:=by rw [BitVec.toNat_ofInt];omega
 have e3:=Nat.shiftLeft_add_eq_or_of_lt (i:=8) (b:=x) hx a
 rw [Nat.shiftLeft_eq] at e3
 rw [BitVec.toNat_or,e1,e2,show a*256=a*2^8 from rfl,← e3]
 rw [IntWalk.i64_in _ (by omega)]
def RetXD (r:Except (Int × Nat) Res) (w:World) (e:Ending) (w':World):Prop:=match r with
 | .error y=>∃ v,e=.returned (.tuple #[.agg #[.int .i64 0,.int .i64 0,.string ⟨#[]⟩,.int .i64 0,.string ⟨#[]⟩,.int .i64 0,.int .i64 0,.int .i64 0,.bool false,.slice none 0 0,.slice none 0 0,.slice none 0 0,.bool false,.slice none 0 0,.slice none 0 0,.bool false,.slice none 0 0,.slice none 0 0,.bool false,.bool false,.int .i64 0,.int .i64 0,.int .i64 0],v])∧ErrB w' (fun _=>True) v y.1 y.2∧Below w.heap.size w w'
 | .ok m=>∃ (vb op:Int) (tk:ByteArray) (x:RepV),e=.returned (.tuple #[.agg #[.int .i64 vb,.int .i64 op,.string tk,.int .i64 x.err,.string x.wher,.int .i64 x.at9,.int .i64 x.id,.int .i64 x.out,.bool x.v.s,.slice x.v.a x.v.l x.v.c,.slice x.v.b x.v.m x.v.d,.slice x.pa x.pn x.pc,.bool x.lo.s,.slice x.lo.a x.lo.l x.lo.c,.slice x.lo.b x.lo.m x.lo.d,.bool x.hi.s,.slice x.hi.a x.hi.l x.hi.c,.slice x.hi.b x.hi.m x.hi.d,.bool x.hl,.bool x.hh,.int .i64 x.u0,.int .i64 x.u1,.int .i64 x.u2],.nilIface])∧x.ok w'∧tk.size≤4294967296∧(⟨vb,op,natB tk,x.rep⟩:Res)=m∧Below w.heap.size w w'
theorem Tryz.rowX:(Tryz.prog.underlying 125).map (·.isRow)=some true:=by kernel_rfl
theorem Tryz.sizX:(Tryz.prog.info? 125).map (·.size)=some 23:=by kernel_rfl
theorem there_from {w:World} {T:TypeId} {b:Nat} {vs:List Value} (hb:w.heap[b]?=some (.cells vs.toArray T (0,0))) (o n:Nat) (hn:vs.length=o+n):w.there b o n:=fun j hj=>by
 refine ⟨?_,free_of_block hb⟩
 rw [cell_of_block (u:=vs[o+j]'(by omega)) hb (by simp)]
 rfl
theorem RdX.setCells {w0:World} {bs:List Bk} {ns:List Nm} {pb:Nat} {ba:Option Addr} {n c:Nat} {st:RS} {k:Nat} {ev:Value} (i p:Nat) (T:TypeId):∀ (r pre tl:List Value) (w:World),i<bs.length→RdX w0 (bs.set i ⟨p,T,pre++tl⟩) ns pb ba n c st k ev w→tl.length=r.length→(∀ u,u∈tl→∀ x,u≠.int .u64 x)→(∀ s,(pre++tl)[0]?≠some (.string s))→(∀ s,(pre++r)[0]?≠some (.string s)) →
  RdX w0 (bs.set i ⟨p,T,pre++r⟩) ns pb ba n c st k ev (w.setCells p pre.length r)
 | [],pre,tl,w,hi,h,hl,_,_,_=>by
  obtain rfl:tl=[]:=List.eq_nil_of_length_eq_zero hl
  exact h
 | v::r,pre,t::tl,w,hi,h,hl,hu,h0,h1=>by
  have hs:=h.set i pre.length (b:=⟨p,T,pre++t::tl⟩) (u0:=t) (by rw [List.getElem?_set_self hi]) (by simp) (hu t List.mem_cons_self) v h0
  simp only [List.set_set] at hs
  rw [show (pre++t::tl).set pre.length v=(pre++[v])++tl by simp] at hs
  have h2:=RdX.setCells i p T r (pre++[v]) tl (w.setCell ⟨p,pre.length,none⟩ v) hi hs (by simpa using hl) (fun u hu2=>hu u (List.mem_cons_of_mem _ hu2)) (fun s=>by
   have:=h1 s
   cases pre <;> simpa using this) (fun s=>by
   have:=h1 s
   cases pre <;> simpa using this)
  rw [show (pre++[v])++r=pre++v::r by simp] at h2
  rw [show (pre++[v]).length=pre.length+1 by simp] at h2
  exact h2
theorem RdX.setAll {w0 w:World} {bs:List Bk} {ns:List Nm} {pb:Nat} {ba:Option Addr} {n c:Nat} {st:RS} {k:Nat} {ev:Value} (h:RdX w0 bs ns pb ba n c st k ev w) (i:Nat) {b:Bk} (hi:bs[i]?=some b) (hu:∀ u,u∈b.cs→∀ x,u≠.int .u64 x) (h0:∀ s,b.cs[0]?≠some (.string s)) (vs:List Value) (hl:b.cs.length=vs.length) (h1:∀ s,vs[0]?≠some (.string s)) :
  RdX w0 (bs.set i ⟨b.p,b.T,vs⟩) ns pb ba n c st k ev (w.setCells b.p 0 vs):=by
 have hil:i<bs.length:=(List.getElem?_eq_some_iff.1 hi).1
 have hbe:bs[i]=b:=(List.getElem?_eq_some_iff.1 hi).2
 have h2:RdX w0 (bs.set i ⟨b.p,b.T,[]++b.cs⟩) ns pb ba n c st k ev w:=by
  rw [List.nil_append,show (⟨b.p,b.T,b.cs⟩:Bk)=bs[i] by rw [hbe],List.set_getElem_self]
  exact h
 exact RdX.setCells i b.p b.T vs [] b.cs w hil h2 hl hu h0 h1
theorem RdX.stored {w0 w W:World} {bs:List Bk} {ns:List Nm} {pb:Nat} {ba:Option Addr} {n c:Nat} {st:RS} {k:Nat} {ev:Value} (h:RdX w0 bs ns pb ba n c st k ev w) (i:Nat) {b:Bk} (hi:bs[i]?=some b) {vs:List Value} (e:Hid (W=w.setCells b.p 0 vs)) (hu:∀ u,u∈b.cs→∀ x,u≠.int .u64 x) (h0:∀ s,b.cs[0]?≠some (.string s)) (hl:b.cs.length=vs.length) (h1:∀ s,vs[0]?≠some (.string s)):RdX w0 (bs.set i ⟨b.p,b.T,vs⟩) ns pb ba n c st k ev W:=by
 rw [e.out]
 exact h.setAll i hi hu h0 vs hl h1
theorem RdW.storedW {w0 w W:World} {bs:List Bk} {ns:List Nm} {pb:Nat} {ba:Option Addr} {n c:Nat} {st:RS} (h:RdW w0 bs ns pb ba n c st w) (i:Nat) {b:Bk} (hi:bs[i]?=some b) {vs:List Value} (e:Hid (W=w.setCells b.p 0 vs)) (hu:∀ u,u∈b.cs→∀ x,u≠.int .u64 x) (h0:∀ s,b.cs[0]?≠some (.string s)) (hl:b.cs.length=vs.length) (h1:∀ s,vs[0]?≠some (.string s)):RdW w0 (bs.set i ⟨b.p,b.T,vs⟩) ns pb ba n c st W:=by
 rw [e.out]
 exact h.setAll i hi hu h0 vs hl h1
theorem store_new {P:Program} {ops:Array Oper} {rest:List Oper} {op:Oper} {a:Act} {w:World} {Q:Exit→Act→World→Prop} (hgd:op.guard=none) (ty:TypeId) (x y:Operand) (ho:op.op=.store ty x y)
  (b o:Nat) (l:List Value) (hx:a.eval x=.pointer (some ⟨b,o,none⟩)) (hy:a.eval y=.agg l.toArray)
  (ht:w.there b o l.length) (hi:(P.info? ty).map (·.size)=some l.length) (h1:l.toArray.all (·.oneCell')=true)
  (h:∀ W,Hid (W=w.setCells b o l)→wpList P ops Q rest (a.put op.dst undef) W):wpList P ops Q (op::rest) a w :=
 wpList_store_mid hgd ty x y ho b o l.toArray hx hy ht hi h1 (h _ (qH rfl))
def TailX (w:World) (xp:Nat) (a:Option Addr) (n c:Nat) (m:Res) (st:RS) (wx:World):Prop:=∃ (vb op:Int) (tq:ByteArray) (x:RepV) (ex:List Bk) (ns:List Nm),RdW w (⟨w.heap.size,125,[.int .i64 0,.int .i64 0,.string ⟨#[]⟩,.int .i64 0,.string ⟨#[]⟩,.int .i64 0,.int .i64 0,.int .i64 0,.bool false,.slice none 0 0,.slice none 0 0,.slice none 0 0,.bool false,.slice none 0 0,.slice none 0 0,.bool false,.slice none 0 0,.slice none 0 0,.bool false,.bool false,.int .i64 0,.int .i64 0,.int .i64 0]⟩::⟨xp,125,.int .i64 vb::.int .i64 op::.string tq::x.cells⟩::ex) ns (w.heap.size+1) a n c st wx∧(⟨vb,op,natB tq,x.rep⟩:Res)=m∧tq.size≤4294967296∧∀ (bs2:List Bk) (W':World),BS w (bs2++ex) ns W'→x.ok W'
theorem rres_any (a:Option Addr) (n c:Nat) (data:List Nat) (w:World) (hd:BytesN w (.slice a n c) data) (h8:∀ x,x∈data→x<256) (hn:n≤1099511627776) :
  Calls Tryz.prog 50 #[.slice a n c] w (RetXD (decX data) w):=by
 have hdx:decX data=match rEndS data (rX data (.ok 0)).2 with
  | .error x=>.error x
  | .ok _=>.ok (rX data (.ok 0)).1:=by
  unfold decX
  rw [rEnd_S]
  cases rEndS data (rX data (.ok 0)).2 <;> rfl
 obtain ⟨R,hR⟩:∃ R,decX data=R:=⟨_,rfl⟩
 rw [hR] at hdx ⊢
 clear hR
 have hd1:=hd
 have hT:=fun (bs:List Bk) (ns:List Nm) (W:World) (h:RdW w bs ns (w.heap.size+1) a n c (.ok 0) W)=>rnext_any 2 data (.ok 0) W h hd hn (by omega)
 have hl2:(rNext data 2 (.ok 0)).1.length=2:=rNext_len data 2 (.ok 0)
 have hb2:=rNext_lt h8 2 (.ok 0)
 unfold rX rTwo at hdx
 simp only at hdx
 generalize (rNext data 2 (.ok 0)).1=ys at hT hl2 hb2 hdx
 generalize (rNext data 2 (.ok 0)).2=st1 at hT hdx
 obtain ⟨y0,y1,rfl⟩:=len2 hl2
 have hy0:y0<256:=hb2 y0 (by simp)
 have hy1:y1<256:=hb2 y1 (by simp)
 rw [show un2 [y0,y1]=((y0*256+y1:Nat):Int) from rfl] at hdx
 have e2:bits .or .i64 (IntKind.i64.wrap (IntKind.i64.wrap (y0:Int)*256)) (IntKind.i64.wrap (y1:Int))=((y0*256+y1:Nat):Int):=by
  rw [IntWalk.i64_in (y0:Int) (by omega),IntWalk.i64_in (y1:Int) (by omega),IntWalk.i64_in ((y0:Int)*256) (by omega),show (y0:Int)*256=((y0*256:Nat):Int) by omega]
  exact or_low64 y0 y1 hy0 hy1
 obtain ⟨er,her⟩:∃ er:Nat,y0*256+y1=er:=⟨_,rfl⟩
 rw [her] at hdx e2
 have HE2:=qH e2
 clear e2
 have HDX:=qH hdx
 have HD:=qH hd
 have H8:=qH h8
 have HT:=qH hT
 clear hd h8 hT hdx hl2 hb2 her hd1
 obtain ⟨W0,hW0⟩:∃ W0,W0=(((w.alloc (.cells #[.int .i64 0,.int .i64 0,.string ⟨#[]⟩,.int .i64 0,.string ⟨#[]⟩,.int .i64 0,.int .i64 0,.int .i64 0,.bool false,.slice none 0 0,.slice none 0 0,.slice none 0 0,.bool false,.slice none 0 0,.slice none 0 0,.bool false,.slice none 0 0,.slice none 0 0,.bool false,.bool false,.int .i64 0,.int .i64 0,.int .i64 0] 125)).alloc (.cells #[.slice a n c,.int .i64 0,.nilIface] 158)).alloc (.cells #[.int .i64 0,.int .i64 0,.string ⟨#[]⟩,.int .i64 0,.string ⟨#[]⟩,.int .i64 0,.int .i64 0,.int .i64 0,.bool false,.slice none 0 0,.slice none 0 0,.slice none 0 0,.bool false,.slice none 0 0,.slice none 0 0,.bool false,.slice none 0 0,.slice none 0 0,.bool false,.bool false,.int .i64 0,.int .i64 0,.int .i64 0] 125)):=⟨_,rfl⟩
 have hb0:BS w [⟨w.heap.size,125,[.int .i64 0,.int .i64 0,.string ⟨#[]⟩,.int .i64 0,.string ⟨#[]⟩,.int .i64 0,.int .i64 0,.int .i64 0,.bool false,.slice none 0 0,.slice none 0 0,.slice none 0 0,.bool false,.slice none 0 0,.slice none 0 0,.bool false,.slice none 0 0,.slice none 0 0,.bool false,.bool false,.int .i64 0,.int .i64 0,.int .i64 0]⟩,⟨w.heap.size+1,158,[.slice a n c,.int .i64 0,.nilIface]⟩,⟨w.heap.size+1+1,125,[.int .i64 0,.int .i64 0,.string ⟨#[]⟩,.int .i64 0,.string ⟨#[]⟩,.int .i64 0,.int .i64 0,.int .i64 0,.bool false,.slice none 0 0,.slice none 0 0,.slice none 0 0,.bool false,.slice none 0 0,.slice none 0 0,.bool false,.slice none 0 0,.slice none 0 0,.bool false,.bool false,.int .i64 0,.int .i64 0,.int .i64 0]⟩] [] (((w.alloc (.cells #[.int .i64 0,.int .i64 0,.string ⟨#[]⟩,.int .i64 0,.string ⟨#[]⟩,.int .i64 0,.int .i64 0,.int .i64 0,.bool false,.slice none 0 0,.slice none 0 0,.slice none 0 0,.bool false,.slice none 0 0,.slice none 0 0,.bool false,.slice none 0 0,.slice none 0 0,.bool false,.bool false,.int .i64 0,.int .i64 0,.int .i64 0] 125)).alloc (.cells #[.slice a n c,.int .i64 0,.nilIface] 158)).alloc (.cells #[.int .i64 0,.int .i64 0,.string ⟨#[]⟩,.int .i64 0,.string ⟨#[]⟩,.int .i64 0,.int .i64 0,.int .i64 0,.bool false,.slice none 0 0,.slice none 0 0,.slice none 0 0,.bool false,.slice none 0 0,.slice none 0 0,.bool false,.slice none 0 0,.slice none 0 0,.bool false,.bool false,.int .i64 0,.int .i64 0,.int .i64 0] 125)):=(((BS.start w).alloc (p:=w.heap.size) rfl 125 [.int .i64 0,.int .i64 0,.string ⟨#[]⟩,.int .i64 0,.string ⟨#[]⟩,.int .i64 0,.int .i64 0,.int .i64 0,.bool false,.slice none 0 0,.slice none 0 0,.slice none 0 0,.bool false,.slice none 0 0,.slice none 0 0,.bool false,.slice none 0 0,.slice none 0 0,.bool false,.bool false,.int .i64 0,.int .i64 0,.int .i64 0] rfl).alloc (p:=w.heap.size+1) (by simp) 158 [.slice a n c,.int .i64 0,.nilIface] rfl).alloc (p:=w.heap.size+1+1) (by simp) 125 [.int .i64 0,.int .i64 0,.string ⟨#[]⟩,.int .i64 0,.string ⟨#[]⟩,.int .i64 0,.int .i64 0,.int .i64 0,.bool false,.slice none 0 0,.slice none 0 0,.slice none 0 0,.bool false,.slice none 0 0,.slice none 0 0,.bool false,.slice none 0 0,.slice none 0 0,.bool false,.bool false,.int .i64 0,.int .i64 0,.int .i64 0] rfl
 obtain ⟨xp,hxp⟩:∃ xp,w.heap.size+1+1=xp:=⟨_,rfl⟩
 rw [hxp] at hb0
 have hn0:RdW w (⟨w.heap.size,125,[.int .i64 0,.int .i64 0,.string ⟨#[]⟩,.int .i64 0,.string ⟨#[]⟩,.int .i64 0,.int .i64 0,.int .i64 0,.bool false,.slice none 0 0,.slice none 0 0,.slice none 0 0,.bool false,.slice none 0 0,.slice none 0 0,.bool false,.slice none 0 0,.slice none 0 0,.bool false,.bool false,.int .i64 0,.int .i64 0,.int .i64 0]⟩::⟨xp,125,[.int .i64 0,.int .i64 0,.string ⟨#[]⟩,.int .i64 0,.string ⟨#[]⟩,.int .i64 0,.int .i64 0,.int .i64 0,.bool false,.slice none 0 0,.slice none 0 0,.slice none 0 0,.bool false,.slice none 0 0,.slice none 0 0,.bool false,.slice none 0 0,.slice none 0 0,.bool false,.bool false,.int .i64 0,.int .i64 0,.int .i64 0]⟩::[]) [] (w.heap.size+1) a n c (.ok 0) (((w.alloc (.cells #[.int .i64 0,.int .i64 0,.string ⟨#[]⟩,.int .i64 0,.string ⟨#[]⟩,.int .i64 0,.int .i64 0,.int .i64 0,.bool false,.slice none 0 0,.slice none 0 0,.slice none 0 0,.bool false,.slice none 0 0,.slice none 0 0,.bool false,.slice none 0 0,.slice none 0 0,.bool false,.bool false,.int .i64 0,.int .i64 0,.int .i64 0] 125)).alloc (.cells #[.slice a n c,.int .i64 0,.nilIface] 158)).alloc (.cells #[.int .i64 0,.int .i64 0,.string ⟨#[]⟩,.int .i64 0,.string ⟨#[]⟩,.int .i64 0,.int .i64 0,.int .i64 0,.bool false,.slice none 0 0,.slice none 0 0,.slice none 0 0,.bool false,.slice none 0 0,.slice none 0 0,.bool false,.slice none 0 0,.slice none 0 0,.bool false,.bool false,.int .i64 0,.int .i64 0,.int .i64 0] 125)):=⟨0,.nilIface,hb0.front 1 rfl,⟨rfl,rfl,Nat.zero_le _⟩,Nat.zero_le _⟩
 rw [← hW0] at hn0
 have HW0:=qH hW0
 have HXP:=qH hxp
 have HN:=qH hn0
 clear hW0 hn0 hb0 hxp
 go_enter Tryz.func50,Tryz.ntmps50
 go_upto_region 3 with fail
 rw [← HW0.out]
 (try simp only [HXP.out])
 go_wp2_with fail
 refine (HT.out _ _ W0 HN.out).mono ?_
 rintro e w1 ⟨a1,c1,rfl,hby,hq,_⟩
 have HBY:=qH hby
 replace HN:=qH hq
 have hc9:=hby.len.2.1
 have hc8:=hby.len.2.2.1
 clear hby hq HT
 go_upto_region 4 with fail
 go_cut [] (fun wx=>RdW w ((⟨w.heap.size,125,[.int .i64 0,.int .i64 0,.string ⟨#[]⟩,.int .i64 0,.string ⟨#[]⟩,.int .i64 0,.int .i64 0,.int .i64 0,.bool false,.slice none 0 0,.slice none 0 0,.slice none 0 0,.bool false,.slice none 0 0,.slice none 0 0,.bool false,.slice none 0 0,.slice none 0 0,.bool false,.bool false,.int .i64 0,.int .i64 0,.int .i64 0]⟩::⟨xp,125,[.int .i64 0,.int .i64 0,.string ⟨#[]⟩,.int .i64 er,.string ⟨#[]⟩,.int .i64 0,.int .i64 0,.int .i64 0,.bool false,.slice none 0 0,.slice none 0 0,.slice none 0 0,.bool false,.slice none 0 0,.slice none 0 0,.bool false,.slice none 0 0,.slice none 0 0,.bool false,.bool false,.int .i64 0,.int .i64 0,.int .i64 0]⟩::[])) [] (w.heap.size+1) a n c st1 wx)
 case first =>
  obtain ⟨bb,oo,rfl,_,_⟩:=HBY.out.get 0 (x:=y0) rfl
  replace HN:=qH (HN.out.call (Below.refl _ _).drew)
  replace HBY:=qH (HBY.out.below (Below.refl _ _).drew)
  refine wp_region_held_drew (S:=fun _=>True) (by kernel_rfl) (trivial) (fun hHeld=>?_)
  generalize w1.drew=wd at HN HBY hHeld ⊢
  refine tm 0 (some 15) ?_
  refine tl 1 (some 16) ?_
  refine tm 5 (some 20) ?_
  refine tl 6 (some 21) ?_
  refine wpAnyH_ready (rs:=[2,7]) (by kernel_rfl) (by simp) ?_
  refine (AllReadyH.cons rfl (fun K hK=>?_) (AllReadyH.cons rfl (fun K hK=>?_) AllReadyH.nil))
  ·
   skip
   obtain ⟨_,_,he,_,g0⟩:=HBY.out.get 0 (x:=y0) rfl
   cases he
   (try rw [Nat.add_zero] at g0)
   go_simp
   clear g0
   refine hK.out _ _ (trivial) (fun hHeld2=>?_)
   clear hK K hHeld
   rename _=>hHeld
   try simp only [Act.put,stB,stZ,stS]
   refine tm 3 (some 18) ?_
   refine tm 4 (some 19) ?_
   refine wpAnyH_ready (rs:=[7]) (by kernel_rfl) (by simp) ?_
   refine (AllReadyH.cons rfl (fun K hK=>?_) AllReadyH.nil)
   obtain ⟨_,_,he,_,g0⟩:=HBY.out.get 1 (x:=y1) rfl
   cases he
   (try rw [Nat.add_zero] at g0)
   go_simp
   clear g0
   refine hK.out _ _ (trivial) (fun hHeld2=>?_)
   clear hK K hHeld
   rename _=>hHeld
   try simp only [Act.put,stB,stZ,stS]
   refine tm 8 (some 23) ?_
   refine tm 9 (some 24) ?_
   refine tm 10 (some 25) ?_
   refine tm 11 (some 26) ?_
   refine wpAnyH_ready (rs:=[12]) (by kernel_rfl) (by simp) ?_
   refine (AllReadyH.cons rfl (fun K hK=>?_) AllReadyH.nil)
   have k0:=HN.out.cell 1 3 rfl rfl
   have f0:=HN.out.free 1 3 rfl
   go_simp
   clear k0 f0
   refine hK.out _ _ (trivial) (fun hHeld2=>?_)
   clear hK K hHeld
   rename _=>hHeld
   try simp only [Act.put,stB,stZ,stS]
   refine wpAnyH_done (by kernel_rfl) ?_ _
   have HF:=qH (HN.out.set 1 3 rfl rfl (fun _=>by simp) (.int .i64 er))
   clear hHeld
   go_wp2_with fail
   go_meet
   rw [HE2.out]
   exact HF.out
  ·
   skip
   obtain ⟨_,_,he,_,g0⟩:=HBY.out.get 1 (x:=y1) rfl
   cases he
   (try rw [Nat.add_zero] at g0)
   go_simp
   clear g0
   refine hK.out _ _ (trivial) (fun hHeld2=>?_)
   clear hK K hHeld
   rename _=>hHeld
   try simp only [Act.put,stB,stZ,stS]
   refine tm 8 (some 23) ?_
   refine wpAnyH_ready (rs:=[2]) (by kernel_rfl) (by simp) ?_
   refine (AllReadyH.cons rfl (fun K hK=>?_) AllReadyH.nil)
   obtain ⟨_,_,he,_,g0⟩:=HBY.out.get 0 (x:=y0) rfl
   cases he
   (try rw [Nat.add_zero] at g0)
   go_simp
   clear g0
   refine hK.out _ _ (trivial) (fun hHeld2=>?_)
   clear hK K hHeld
   rename _=>hHeld
   try simp only [Act.put,stB,stZ,stS]
   refine tm 3 (some 18) ?_
   refine tm 4 (some 19) ?_
   refine tm 9 (some 24) ?_
   refine tm 10 (some 25) ?_
   refine tm 11 (some 26) ?_
   refine wpAnyH_ready (rs:=[12]) (by kernel_rfl) (by simp) ?_
   refine (AllReadyH.cons rfl (fun K hK=>?_) AllReadyH.nil)
   have k0:=HN.out.cell 1 3 rfl rfl
   have f0:=HN.out.free 1 3 rfl
   go_simp
   clear k0 f0
   refine hK.out _ _ (trivial) (fun hHeld2=>?_)
   clear hK K hHeld
   rename _=>hHeld
   try simp only [Act.put,stB,stZ,stS]
   refine wpAnyH_done (by kernel_rfl) ?_ _
   have HF:=qH (HN.out.set 1 3 rfl rfl (fun _=>by simp) (.int .i64 er))
   clear hHeld
   go_wp2_with fail
   go_meet
   rw [HE2.out]
   exact HF.out
 case rest =>
  obtain ⟨w2,rfl⟩:∃ w2:World,w2=wc:=⟨_,rfl⟩
  replace HN:=qH hcut
  clear hcut HE2 HBY hc9 hc8
  have k13:=HN.out.cell 1 3 rfl rfl
  by_cases h0:er=0
  ·
   subst h0
   have hdv:R=match rEndS data (rVBody data (rPick data 1 5 st1).1 (rPick data 1 5 st1).2).2 with
     | .error x=>.error x
     | .ok _=>.ok (rVBody data (rPick data 1 5 st1).1 (rPick data 1 5 st1).2).1:=HDX.out
   have hP:=fun (bs:List Bk) (W:World) (h:RdW w bs [] (w.heap.size+1) a n c st1 W)=>rpick_any 1 5 data st1 W h HD.out H8.out hn
   generalize (rPick data 1 5 st1).1=vb at hP hdv
   generalize (rPick data 1 5 st1).2=st2 at hP hdv
   have HP:=qH hP
   have HDV:=qH hdv
   clear hP hdv HDX
   go_upto_region 13 with fail
   clear k13
   go_wp2_with fail
   refine (HP.out _ w2 HN.out).mono ?_
   rintro e w3 ⟨rfl,hq⟩
   replace HN:=qH hq
   clear hq HP
   have k10:=HN.out.cell 1 0 rfl rfl
   have f10:=HN.out.free 1 0 rfl
   go_upto_region 14 with fail
   replace HN:=qH (show RdW w (⟨w.heap.size,125,[.int .i64 0,.int .i64 0,.string ⟨#[]⟩,.int .i64 0,.string ⟨#[]⟩,.int .i64 0,.int .i64 0,.int .i64 0,.bool false,.slice none 0 0,.slice none 0 0,.slice none 0 0,.bool false,.slice none 0 0,.slice none 0 0,.bool false,.slice none 0 0,.slice none 0 0,.bool false,.bool false,.int .i64 0,.int .i64 0,.int .i64 0]⟩::⟨xp,125,[.int .i64 vb,.int .i64 0,.string ⟨#[]⟩,.int .i64 ((0:Nat):Int),.string ⟨#[]⟩,.int .i64 0,.int .i64 0,.int .i64 0,.bool false,.slice none 0 0,.slice none 0 0,.slice none 0 0,.bool false,.slice none 0 0,.slice none 0 0,.bool false,.slice none 0 0,.slice none 0 0,.bool false,.bool false,.int .i64 0,.int .i64 0,.int .i64 0]⟩::[]) _ (w.heap.size+1) a n c _ _ from (HN.out.set 1 0 rfl rfl (fun _=>by simp) (.int .i64 vb)))
   clear k10 f10
   generalize (w3.setCell ⟨xp,0,none⟩ (.int .i64 vb))=wa4 at HN ⊢
   have k10:=HN.out.cell 1 0 rfl rfl
   go_upto_block 0 with fail
   clear k10
   go_cut [] (fun wx=>TailX w xp a n c (rVBody data vb st2).1 (rVBody data vb st2).2 wx)
   case first =>
    by_cases h1:vb=1
    ·
     subst h1
     go_wp2_with fail
     refine (rtld_any data st2 wa4 HN.out HD.out H8.out hn).mono ?_
     rintro e w5 ⟨x,ex,ns2,rfl,hq,hrp,hok⟩
     replace HN:=qH hq
     have HRP:=qH hrp
     have HOK:=qH hok
     clear hq hrp hok
     have k11:=HN.out.cell 1 1 rfl rfl
     have f11:=HN.out.free 1 1 rfl
     have HQ1:=qH (HN.out.set 1 1 rfl rfl (fun _=>by simp) (.int .i64 (rTld data st2).1.1))
     go_wp2_with (refine wpList_store_mid rfl 123 _ _ rfl xp 3 #[.int .i64 x.err,.string x.wher,.int .i64 x.at9,.int .i64 x.id,.int .i64 x.out,.bool x.v.s,.slice x.v.a x.v.l x.v.c,.slice x.v.b x.v.m x.v.d,.slice x.pa x.pn x.pc,.bool x.lo.s,.slice x.lo.a x.lo.l x.lo.c,.slice x.lo.b x.lo.m x.lo.d,.bool x.hi.s,.slice x.hi.a x.hi.l x.hi.c,.slice x.hi.b x.hi.m x.hi.d,.bool x.hl,.bool x.hh,.int .i64 x.u0,.int .i64 x.u1,.int .i64 x.u2] rfl rfl (there_from (HQ1.out.at 1 rfl) 3 20 rfl) Tryz.sizRp (by kernel_rfl) ?_)
     have HQ2:=qH (show RdW w (⟨w.heap.size,125,[.int .i64 0,.int .i64 0,.string ⟨#[]⟩,.int .i64 0,.string ⟨#[]⟩,.int .i64 0,.int .i64 0,.int .i64 0,.bool false,.slice none 0 0,.slice none 0 0,.slice none 0 0,.bool false,.slice none 0 0,.slice none 0 0,.bool false,.slice none 0 0,.slice none 0 0,.bool false,.bool false,.int .i64 0,.int .i64 0,.int .i64 0]⟩::⟨xp,125,[.int .i64 1,.int .i64 (rTld data st2).1.1,.string ⟨#[]⟩,.int .i64 x.err,.string x.wher,.int .i64 x.at9,.int .i64 x.id,.int .i64 x.out,.bool x.v.s,.slice x.v.a x.v.l x.v.c,.slice x.v.b x.v.m x.v.d,.slice x.pa x.pn x.pc,.bool x.lo.s,.slice x.lo.a x.lo.l x.lo.c,.slice x.lo.b x.lo.m x.lo.d,.bool x.hi.s,.slice x.hi.a x.hi.l x.hi.c,.slice x.hi.b x.hi.m x.hi.d,.bool x.hl,.bool x.hh,.int .i64 x.u0,.int .i64 x.u1,.int .i64 x.u2]⟩::([]++ex)) _ (w.heap.size+1) a n c _ _ from RdW.setCells 1 xp 125 [.int .i64 x.err,.string x.wher,.int .i64 x.at9,.int .i64 x.id,.int .i64 x.out,.bool x.v.s,.slice x.v.a x.v.l x.v.c,.slice x.v.b x.v.m x.v.d,.slice x.pa x.pn x.pc,.bool x.lo.s,.slice x.lo.a x.lo.l x.lo.c,.slice x.lo.b x.lo.m x.lo.d,.bool x.hi.s,.slice x.hi.a x.hi.l x.hi.c,.slice x.hi.b x.hi.m x.hi.d,.bool x.hl,.bool x.hh,.int .i64 x.u0,.int .i64 x.u1,.int .i64 x.u2] [.int .i64 1,.int .i64 (rTld data st2).1.1,.string ⟨#[]⟩] [.int .i64 ((0:Nat):Int),.string ⟨#[]⟩,.int .i64 0,.int .i64 0,.int .i64 0,.bool false,.slice none 0 0,.slice none 0 0,.slice none 0 0,.bool false,.slice none 0 0,.slice none 0 0,.bool false,.slice none 0 0,.slice none 0 0,.bool false,.bool false,.int .i64 0,.int .i64 0,.int .i64 0] _ (by simp) HQ1.out rfl (by simp) (by simp) (by simp))
     clear k11 f11
     go_meet
     rw [show rVBody data 1 st2=(⟨1,(rTld data st2).1.1,[],(rTld data st2).1.2⟩,(rTld data st2).2) from rfl]
     exact ⟨1,_,⟨#[]⟩,x,ex,ns2++[],HQ2.out,by rw [HRP.out];rfl,by show (0:Nat)≤_;omega,HOK.out⟩
    by_cases h2:vb=2
    ·
     subst h2
     go_wp2_with fail
     refine (rid_any data st2 wa4 HN.out HD.out H8.out hn).mono ?_
     rintro e w5 ⟨rfl,hq⟩
     replace HN:=qH hq
     clear hq
     have k16:=HN.out.cell 1 6 rfl rfl
     have f16:=HN.out.free 1 6 rfl
     go_wp2_with fail
     replace HN:=qH (show RdW w (⟨w.heap.size,125,[.int .i64 0,.int .i64 0,.string ⟨#[]⟩,.int .i64 0,.string ⟨#[]⟩,.int .i64 0,.int .i64 0,.int .i64 0,.bool false,.slice none 0 0,.slice none 0 0,.slice none 0 0,.bool false,.slice none 0 0,.slice none 0 0,.bool false,.slice none 0 0,.slice none 0 0,.bool false,.bool false,.int .i64 0,.int .i64 0,.int .i64 0]⟩::⟨xp,125,[.int .i64 2,.int .i64 0,.string ⟨#[]⟩,.int .i64 ((0:Nat):Int),.string ⟨#[]⟩,.int .i64 0,.int .i64 (rId data st2).1,.int .i64 0,.bool false,.slice none 0 0,.slice none 0 0,.slice none 0 0,.bool false,.slice none 0 0,.slice none 0 0,.bool false,.slice none 0 0,.slice none 0 0,.bool false,.bool false,.int .i64 0,.int .i64 0,.int .i64 0]⟩::[]) _ (w.heap.size+1) a n c _ _ from (HN.out.set 1 6 rfl rfl (fun _=>by simp) (.int .i64 (rId data st2).1)))
     clear k16 f16
     generalize (w5.setCell ⟨xp,6,none⟩ (.int .i64 (rId data st2).1))=wa6 at HN ⊢
     go_meet
     rw [show rVBody data 2 st2=(⟨2,0,[],{ Rep.zero with id:=(rId data st2).1 }⟩,(rId data st2).2) from rfl]
     exact ⟨2,0,⟨#[]⟩,⟨((0:Nat):Int),⟨#[]⟩,0,(rId data st2).1,0,Rv.zero,none,0,0,[],Rv.zero,Rv.zero,false,false,0,0,0⟩,[],[],HN.out,rfl,by show (0:Nat)≤_;omega,fun _ _ _=>⟨by show (0:Nat)≤_;omega,Rv.zero_ok _,Rv.zero_sh.num,Rv.zero_sh.den,⟨rfl,Sl.ofMid (Mid.nil _ 0 45 3),fun _ h=>(by cases h)⟩,fun _ h=>(by cases h),by show (0:Nat)≤_;omega,Rv.zero_ok _,Rv.zero_sh.num,Rv.zero_sh.den,Rv.zero_ok _,Rv.zero_sh.num,Rv.zero_sh.den⟩⟩
    by_cases h4:vb=4
    ·
     subst h4
     go_wp2_with fail
     refine (rtok_any data st2 wa4 HN.out HD.out hn).mono ?_
     rintro e w5 ⟨rfl,hq⟩
     replace HN:=qH hq
     clear hq
     have k12:=HN.out.cell 1 2 rfl rfl
     have f12:=HN.out.free 1 2 rfl
     go_wp2_with fail
     replace HN:=qH (show RdW w (⟨w.heap.size,125,[.int .i64 0,.int .i64 0,.string ⟨#[]⟩,.int .i64 0,.string ⟨#[]⟩,.int .i64 0,.int .i64 0,.int .i64 0,.bool false,.slice none 0 0,.slice none 0 0,.slice none 0 0,.bool false,.slice none 0 0,.slice none 0 0,.bool false,.slice none 0 0,.slice none 0 0,.bool false,.bool false,.int .i64 0,.int .i64 0,.int .i64 0]⟩::⟨xp,125,[.int .i64 4,.int .i64 0,.string (strB (rTok data st2).1),.int .i64 ((0:Nat):Int),.string ⟨#[]⟩,.int .i64 0,.int .i64 0,.int .i64 0,.bool false,.slice none 0 0,.slice none 0 0,.slice none 0 0,.bool false,.slice none 0 0,.slice none 0 0,.bool false,.slice none 0 0,.slice none 0 0,.bool false,.bool false,.int .i64 0,.int .i64 0,.int .i64 0]⟩::[]) _ (w.heap.size+1) a n c _ _ from (HN.out.set 1 2 rfl rfl (fun _=>by simp) (.string (strB (rTok data st2).1))))
     clear k12 f12
     generalize (w5.setCell ⟨xp,2,none⟩ (.string (strB (rTok data st2).1)))=wa6 at HN ⊢
     go_meet
     rw [show rVBody data 4 st2=(⟨4,0,(rTok data st2).1,Rep.zero⟩,(rTok data st2).2) from rfl]
     exact ⟨4,0,(strB (rTok data st2).1),⟨((0:Nat):Int),⟨#[]⟩,0,0,0,Rv.zero,none,0,0,[],Rv.zero,Rv.zero,false,false,0,0,0⟩,[],[],HN.out,by rw [natB_strB (l:=(rTok data st2).1) (rNext_lt H8.out 8 st2)];rfl,by rw [strB_len];show (rNext data 8 st2).1.length≤_;rw [rNext_len data 8 st2];omega,fun _ _ _=>⟨by show (0:Nat)≤_;omega,Rv.zero_ok _,Rv.zero_sh.num,Rv.zero_sh.den,⟨rfl,Sl.ofMid (Mid.nil _ 0 45 3),fun _ h=>(by cases h)⟩,fun _ h=>(by cases h),by show (0:Nat)≤_;omega,Rv.zero_ok _,Rv.zero_sh.num,Rv.zero_sh.den,Rv.zero_ok _,Rv.zero_sh.num,Rv.zero_sh.den⟩⟩
    have g1:(vb==1)=false:=beq_eq_false_iff_ne.2 h1
    have g2:(vb==2)=false:=beq_eq_false_iff_ne.2 h2
    have g4:(vb==4)=false:=beq_eq_false_iff_ne.2 h4
    go_wp2_with fail
    go_meet
    rw [show rVBody data vb st2=(⟨vb,0,[],Rep.zero⟩,st2) from by unfold rVBody;rw [if_neg h1,if_neg h2,if_neg h4]]
    exact ⟨vb,0,⟨#[]⟩,⟨((0:Nat):Int),⟨#[]⟩,0,0,0,Rv.zero,none,0,0,[],Rv.zero,Rv.zero,false,false,0,0,0⟩,[],[],HN.out,rfl,by show (0:Nat)≤_;omega,fun _ _ _=>⟨by show (0:Nat)≤_;omega,Rv.zero_ok _,Rv.zero_sh.num,Rv.zero_sh.den,⟨rfl,Sl.ofMid (Mid.nil _ 0 45 3),fun _ h=>(by cases h)⟩,fun _ h=>(by cases h),by show (0:Nat)≤_;omega,Rv.zero_ok _,Rv.zero_sh.num,Rv.zero_sh.den,Rv.zero_ok _,Rv.zero_sh.num,Rv.zero_sh.den⟩⟩
   case rest =>
    obtain ⟨w8,rfl⟩:∃ w8:World,w8=wc:=⟨_,rfl⟩
    generalize (rVBody data vb st2).1=mm at hcut HDV
    generalize (rVBody data vb st2).2=st3 at hcut HDV
    obtain ⟨vb,op,tq,x,ex,ns,hq,hre,htq,hok⟩:=hcut
    have HN:=qH (show RdW w (⟨w.heap.size,125,[.int .i64 0,.int .i64 0,.string ⟨#[]⟩,.int .i64 0,.string ⟨#[]⟩,.int .i64 0,.int .i64 0,.int .i64 0,.bool false,.slice none 0 0,.slice none 0 0,.slice none 0 0,.bool false,.slice none 0 0,.slice none 0 0,.bool false,.slice none 0 0,.slice none 0 0,.bool false,.bool false,.int .i64 0,.int .i64 0,.int .i64 0]⟩::⟨xp,125,[.int .i64 vb,.int .i64 op,.string tq,.int .i64 x.err,.string x.wher,.int .i64 x.at9,.int .i64 x.id,.int .i64 x.out,.bool x.v.s,.slice x.v.a x.v.l x.v.c,.slice x.v.b x.v.m x.v.d,.slice x.pa x.pn x.pc,.bool x.lo.s,.slice x.lo.a x.lo.l x.lo.c,.slice x.lo.b x.lo.m x.lo.d,.bool x.hi.s,.slice x.hi.a x.hi.l x.hi.c,.slice x.hi.b x.hi.m x.hi.d,.bool x.hl,.bool x.hh,.int .i64 x.u0,.int .i64 x.u1,.int .i64 x.u2]⟩::ex) ns (w.heap.size+1) a n c st3 w8 from hq)
    have HRE:=qH hre
    have HTQ:=qH htq
    have HOK:=qH hok
    clear hq hre htq hok
    obtain ⟨dX,hdu,hdr⟩:=Option.map_eq_some_iff.1 Tryz.rowX
    have HDU:=qH hdu
    have HDR:=qH hdr
    clear hdu hdr
    have HEN9:=qH (rend_any data st3 w8 HN.out HD.out hn)
    cases hE:rEndS data st3 with
    | error x9 =>
     rw [hE] at HEN9
     rw [hE] at HDV
     clear hE
     go_wp2_with fail
     refine HEN9.out.mono ?_
     rintro e w9 ⟨k9,ev9,rfl,hy,hs,hk⟩
     have HRS9:=qH hs
     obtain ⟨eb,u,rfl,_⟩:=hs
     replace HN:=qH (show RdX w (⟨w.heap.size,125,[.int .i64 0,.int .i64 0,.string ⟨#[]⟩,.int .i64 0,.string ⟨#[]⟩,.int .i64 0,.int .i64 0,.int .i64 0,.bool false,.slice none 0 0,.slice none 0 0,.slice none 0 0,.bool false,.slice none 0 0,.slice none 0 0,.bool false,.slice none 0 0,.slice none 0 0,.bool false,.bool false,.int .i64 0,.int .i64 0,.int .i64 0]⟩::⟨xp,125,[.int .i64 vb,.int .i64 op,.string tq,.int .i64 x.err,.string x.wher,.int .i64 x.at9,.int .i64 x.id,.int .i64 x.out,.bool x.v.s,.slice x.v.a x.v.l x.v.c,.slice x.v.b x.v.m x.v.d,.slice x.pa x.pn x.pc,.bool x.lo.s,.slice x.lo.a x.lo.l x.lo.c,.slice x.lo.b x.lo.m x.lo.d,.bool x.hi.s,.slice x.hi.a x.hi.l x.hi.c,.slice x.hi.b x.hi.m x.hi.d,.bool x.hl,.bool x.hh,.int .i64 x.u0,.int .i64 x.u1,.int .i64 x.u2]⟩::ex) _ (w.heap.size+1) a n c _ _ _ _ from ⟨hy,HRS9.out,hk⟩)
     clear HEN9 hy hk
     unfold eF
     go_wp2_with (refine store_new rfl 125 _ _ rfl w.heap.size 0 _ rfl rfl (there_of (HN.out.at 0 rfl) 23 rfl) Tryz.sizX (by kernel_rfl) (fun we HWA=>?_))
     have HE:=qH (HN.out.stored 0 rfl HWA (by simp) (by simp) rfl (by simp))
     (try simp only [Exit.inBlock,Exit.then])
     refine bodyPost_ret (v:=.tuple #[.agg #[.int .i64 0,.int .i64 0,.string ⟨#[]⟩,.int .i64 0,.string ⟨#[]⟩,.int .i64 0,.int .i64 0,.int .i64 0,.bool false,.slice none 0 0,.slice none 0 0,.slice none 0 0,.bool false,.slice none 0 0,.slice none 0 0,.bool false,.slice none 0 0,.slice none 0 0,.bool false,.bool false,.int .i64 0,.int .i64 0,.int .i64 0],eF eb]) ?_ rfl ?_
     ·
      rw [results_cell_tmp rfl]
      exact ret_of (run_loadVar_mid _ w.heap.size 0 125 _ dX (range_all (HE.out.at 0 rfl)) HDU.out HDR.out Tryz.sizX)
     rw [HDV.out]
     exact ⟨eF eb,rfl,HE.out.err,HE.out.1.bel⟩
    | ok x9 =>
     rw [hE] at HEN9
     rw [hE] at HDV
     clear hE
     go_wp2_with fail
     refine HEN9.out.mono ?_
     rintro e w9 ⟨k9,ev9,rfl,hy,hs,hk⟩
     have HRS9:=qH hs
     obtain ⟨rfl,rfl,_⟩:=hs
     replace HN:=qH (show RdW w (⟨w.heap.size,125,[.int .i64 0,.int .i64 0,.string ⟨#[]⟩,.int .i64 0,.string ⟨#[]⟩,.int .i64 0,.int .i64 0,.int .i64 0,.bool false,.slice none 0 0,.slice none 0 0,.slice none 0 0,.bool false,.slice none 0 0,.slice none 0 0,.bool false,.slice none 0 0,.slice none 0 0,.bool false,.bool false,.int .i64 0,.int .i64 0,.int .i64 0]⟩::⟨xp,125,[.int .i64 vb,.int .i64 op,.string tq,.int .i64 x.err,.string x.wher,.int .i64 x.at9,.int .i64 x.id,.int .i64 x.out,.bool x.v.s,.slice x.v.a x.v.l x.v.c,.slice x.v.b x.v.m x.v.d,.slice x.pa x.pn x.pc,.bool x.lo.s,.slice x.lo.a x.lo.l x.lo.c,.slice x.lo.b x.lo.m x.lo.d,.bool x.hi.s,.slice x.hi.a x.hi.l x.hi.c,.slice x.hi.b x.hi.m x.hi.d,.bool x.hl,.bool x.hh,.int .i64 x.u0,.int .i64 x.u1,.int .i64 x.u2]⟩::ex) _ (w.heap.size+1) a n c _ _ from ⟨_,.nilIface,hy,HRS9.out,hk⟩)
     clear HEN9 hy hk
     go_wp2_with (first | refine wpList_load_mid rfl 125 _ rfl xp 0 rfl _ dX (range_all (HN.out.at 1 rfl)) HDU.out HDR.out Tryz.sizX ?_ | refine store_new rfl 125 _ _ rfl w.heap.size 0 _ rfl rfl (there_of (HN.out.at 0 rfl) 23 rfl) Tryz.sizX (by kernel_rfl) (fun we HWA=>?_))
     have HE:=qH (HN.out.storedW 0 rfl HWA (by simp) (by simp) rfl (by simp))
     (try simp only [Exit.inBlock,Exit.then])
     refine bodyPost_ret (v:=.tuple #[.agg #[.int .i64 vb,.int .i64 op,.string tq,.int .i64 x.err,.string x.wher,.int .i64 x.at9,.int .i64 x.id,.int .i64 x.out,.bool x.v.s,.slice x.v.a x.v.l x.v.c,.slice x.v.b x.v.m x.v.d,.slice x.pa x.pn x.pc,.bool x.lo.s,.slice x.lo.a x.lo.l x.lo.c,.slice x.lo.b x.lo.m x.lo.d,.bool x.hi.s,.slice x.hi.a x.hi.l x.hi.c,.slice x.hi.b x.hi.m x.hi.d,.bool x.hl,.bool x.hh,.int .i64 x.u0,.int .i64 x.u1,.int .i64 x.u2],.nilIface]) ?_ rfl ?_
     ·
      rw [results_cell_tmp rfl]
      exact ret_of (run_loadVar_mid _ w.heap.size 0 125 _ dX (range_all (HE.out.at 0 rfl)) HDU.out HDR.out Tryz.sizX)
     obtain ⟨k8,ev8,hy,hs,_⟩:=HE.out.get
     rw [HDV.out]
     exact ⟨vb,op,tq,x,rfl,HOK.out (rBox (w.heap.size+1) a n c k8 ev8::⟨w.heap.size,125,[.int .i64 vb,.int .i64 op,.string tq,.int .i64 x.err,.string x.wher,.int .i64 x.at9,.int .i64 x.id,.int .i64 x.out,.bool x.v.s,.slice x.v.a x.v.l x.v.c,.slice x.v.b x.v.m x.v.d,.slice x.pa x.pn x.pc,.bool x.lo.s,.slice x.lo.a x.lo.l x.lo.c,.slice x.lo.b x.lo.m x.lo.d,.bool x.hi.s,.slice x.hi.a x.hi.l x.hi.c,.slice x.hi.b x.hi.m x.hi.d,.bool x.hl,.bool x.hh,.int .i64 x.u0,.int .i64 x.u1,.int .i64 x.u2]⟩::⟨xp,125,[.int .i64 vb,.int .i64 op,.string tq,.int .i64 x.err,.string x.wher,.int .i64 x.at9,.int .i64 x.id,.int .i64 x.out,.bool x.v.s,.slice x.v.a x.v.l x.v.c,.slice x.v.b x.v.m x.v.d,.slice x.pa x.pn x.pc,.bool x.lo.s,.slice x.lo.a x.lo.l x.lo.c,.slice x.lo.b x.lo.m x.lo.d,.bool x.hi.s,.slice x.hi.a x.hi.l x.hi.c,.slice x.hi.b x.hi.m x.hi.d,.bool x.hl,.bool x.hh,.int .i64 x.u0,.int .i64 x.u1,.int .i64 x.u2]⟩::[]) _ hy,HTQ.out,HRE.out,hy.bel⟩
  ·
   have g0:((er:Int) != 0)=true:=bne_iff_ne.2 (by omega)
   have hdv:R=match rEndS data (rF er data st1).2 with
     | .error x=>.error x
     | .ok _=>.ok (rF er data st1).1:=by rw [HDX.out,show rXBody data (er:Int) st1=rF er data st1 from if_neg (by omega)]
   unfold rF at hdv
   simp only at hdv
   have hP:=fun (bs:List Bk) (W:World) (h:RdW w bs [] (w.heap.size+1) a n c st1 W)=>rpick_any 0 255 data st1 W h HD.out H8.out hn
   have hN0:=pick_nonneg data 0 255 st1
   have hN1:=rPick_le H8.out 0 255 st1
   generalize (rPick data 0 255 st1).1=z at hP hdv hN0 hN1
   generalize (rPick data 0 255 st1).2=st2 at hP hdv
   obtain ⟨m,rfl⟩:∃ m:Nat,z=(m:Int):=⟨z.toNat,by omega⟩
   rw [Int.toNat_natCast] at hdv
   have hm:m≤255:=by omega
   have hT:=fun (bs:List Bk) (W:World) (h:RdW w bs [] (w.heap.size+1) a n c st2 W)=>rnext_any m data st2 W h HD.out hn (by omega)
   unfold rRaw at hdv
   have hb2:=rNext_lt H8.out m st2
   have hl2:=rNext_len data m st2
   generalize (rNext data m st2).1=ys at hT hdv hb2 hl2
   generalize (rNext data m st2).2=st3 at hT hdv
   have HP:=qH hP
   have HT:=qH hT
   have HDV:=qH hdv
   have HYS:=qH (And.intro hb2 hl2)
   clear hP hT hdv HDX hN0 hN1 hb2 hl2 h0
   go_upto_region 6 with fail
   clear k13 g0
   go_wp2_with fail
   refine (HP.out _ w2 HN.out).mono ?_
   rintro e w3 ⟨rfl,hq⟩
   replace HN:=qH hq
   clear hq HP
   go_wp2_with fail
   refine (HT.out _ w3 HN.out).mono ?_
   rintro e w4 ⟨a1,c1,rfl,hby,hq,_⟩
   replace HN:=qH hq
   have hcv:=conv_any a1 m c1 ys _ hby
   clear hq hby HT
   have k14:=HN.out.cell 1 4 rfl rfl
   have f14:=HN.out.free 1 4 rfl
   go_upto_region 8 with fail
   replace HN:=qH (show RdW w (⟨w.heap.size,125,[.int .i64 0,.int .i64 0,.string ⟨#[]⟩,.int .i64 0,.string ⟨#[]⟩,.int .i64 0,.int .i64 0,.int .i64 0,.bool false,.slice none 0 0,.slice none 0 0,.slice none 0 0,.bool false,.slice none 0 0,.slice none 0 0,.bool false,.slice none 0 0,.slice none 0 0,.bool false,.bool false,.int .i64 0,.int .i64 0,.int .i64 0]⟩::⟨xp,125,[.int .i64 0,.int .i64 0,.string ⟨#[]⟩,.int .i64 er,.string (strB ys),.int .i64 0,.int .i64 0,.int .i64 0,.bool false,.slice none 0 0,.slice none 0 0,.slice none 0 0,.bool false,.slice none 0 0,.slice none 0 0,.bool false,.slice none 0 0,.slice none 0 0,.bool false,.bool false,.int .i64 0,.int .i64 0,.int .i64 0]⟩::[]) _ (w.heap.size+1) a n c _ _ from (HN.out.set 1 4 rfl rfl (fun _=>by simp) (.string (strB ys))))
   clear k14 f14
   generalize (w4.setCell ⟨xp,4,none⟩ (.string (strB ys)))=wa5 at HN ⊢
   clear hcv
   go_wp2_with fail
   refine (rdint_any data st3 wa5 HN.out HD.out H8.out hn).mono ?_
   rintro e w6 ⟨rfl,hq⟩
   replace HN:=qH hq
   clear hq
   have k15:=HN.out.cell 1 5 rfl rfl
   have f15:=HN.out.free 1 5 rfl
   go_upto_region 9 with fail
   replace HN:=qH (show RdW w (⟨w.heap.size,125,[.int .i64 0,.int .i64 0,.string ⟨#[]⟩,.int .i64 0,.string ⟨#[]⟩,.int .i64 0,.int .i64 0,.int .i64 0,.bool false,.slice none 0 0,.slice none 0 0,.slice none 0 0,.bool false,.slice none 0 0,.slice none 0 0,.bool false,.slice none 0 0,.slice none 0 0,.bool false,.bool false,.int .i64 0,.int .i64 0,.int .i64 0]⟩::⟨xp,125,[.int .i64 0,.int .i64 0,.string ⟨#[]⟩,.int .i64 er,.string (strB ys),.int .i64 (rInt data st3).1,.int .i64 0,.int .i64 0,.bool false,.slice none 0 0,.slice none 0 0,.slice none 0 0,.bool false,.slice none 0 0,.slice none 0 0,.bool false,.slice none 0 0,.slice none 0 0,.bool false,.bool false,.int .i64 0,.int .i64 0,.int .i64 0]⟩::[]) _ (w.heap.size+1) a n c _ _ from (HN.out.set 1 5 rfl rfl (fun _=>by simp) (.int .i64 (rInt data st3).1)))
   clear k15 f15
   generalize (w6.setCell ⟨xp,5,none⟩ (.int .i64 (rInt data st3).1))=wa7 at HN ⊢
   obtain ⟨x,hx⟩:∃ x:RepV,x=⟨(er:Int),(strB ys),(rInt data st3).1,0,0,Rv.zero,none,0,0,[],Rv.zero,Rv.zero,false,false,0,0,0⟩:=⟨_,rfl⟩
   obtain ⟨vb,hvb⟩:∃ v:Int,v=0:=⟨_,rfl⟩
   obtain ⟨op,hop⟩:∃ v:Int,v=0:=⟨_,rfl⟩
   obtain ⟨tq,htq⟩:∃ t:ByteArray,t=⟨#[]⟩:=⟨_,rfl⟩
   obtain ⟨ex,hex⟩:∃ l:List Bk,l=[]:=⟨_,rfl⟩
   replace HN:=qH (show RdW w (⟨w.heap.size,125,[.int .i64 0,.int .i64 0,.string ⟨#[]⟩,.int .i64 0,.string ⟨#[]⟩,.int .i64 0,.int .i64 0,.int .i64 0,.bool false,.slice none 0 0,.slice none 0 0,.slice none 0 0,.bool false,.slice none 0 0,.slice none 0 0,.bool false,.slice none 0 0,.slice none 0 0,.bool false,.bool false,.int .i64 0,.int .i64 0,.int .i64 0]⟩::⟨xp,125,[.int .i64 vb,.int .i64 op,.string tq,.int .i64 x.err,.string x.wher,.int .i64 x.at9,.int .i64 x.id,.int .i64 x.out,.bool x.v.s,.slice x.v.a x.v.l x.v.c,.slice x.v.b x.v.m x.v.d,.slice x.pa x.pn x.pc,.bool x.lo.s,.slice x.lo.a x.lo.l x.lo.c,.slice x.lo.b x.lo.m x.lo.d,.bool x.hi.s,.slice x.hi.a x.hi.l x.hi.c,.slice x.hi.b x.hi.m x.hi.d,.bool x.hl,.bool x.hh,.int .i64 x.u0,.int .i64 x.u1,.int .i64 x.u2]⟩::ex) [] (w.heap.size+1) a n c (rInt data st3).2 wa7 from by rw [hx,hvb,hop,htq,hex];exact HN.out)
   have HRE:=qH (show (⟨vb,op,natB tq,x.rep⟩:Res)=⟨0,0,[],{ Rep.zero with err:=er,wher:=ys,at9:=(rInt data st3).1 }⟩ from by rw [hx,hvb,hop,htq];unfold RepV.rep;simp only [natB_strB HYS.out.1];rfl)
   have HTQ:=qH (show tq.size≤4294967296 from by rw [htq];show (0:Nat)≤_;omega)
   have HOK:=qH (fun (bs2:List Bk) (W':World) (_:BS w (bs2++ex) [] W')=>(show x.ok W' from by rw [hx];exact ⟨by show (strB ys).size≤_;rw [strB_len,HYS.out.2];omega,Rv.zero_ok _,Rv.zero_sh.num,Rv.zero_sh.den,⟨rfl,Sl.ofMid (Mid.nil _ 0 45 3),fun _ h=>(by cases h)⟩,fun _ h=>(by cases h),by show (0:Nat)≤_;omega,Rv.zero_ok _,Rv.zero_sh.num,Rv.zero_sh.den,Rv.zero_ok _,Rv.zero_sh.num,Rv.zero_sh.den⟩))
   clear hx hvb hop htq hex
   obtain ⟨dX,hdu,hdr⟩:=Option.map_eq_some_iff.1 Tryz.rowX
   have HDU:=qH hdu
   have HDR:=qH hdr
   clear hdu hdr
   have HEN9:=qH (rend_any data (rInt data st3).2 wa7 HN.out HD.out hn)
   cases hE:rEndS data (rInt data st3).2 with
   | error x9 =>
    rw [hE] at HEN9
    rw [hE] at HDV
    clear hE
    go_wp2_with fail
    refine HEN9.out.mono ?_
    rintro e w8 ⟨k9,ev9,rfl,hy,hs,hk⟩
    have HRS9:=qH hs
    obtain ⟨eb,u,rfl,_⟩:=hs
    replace HN:=qH (show RdX w (⟨w.heap.size,125,[.int .i64 0,.int .i64 0,.string ⟨#[]⟩,.int .i64 0,.string ⟨#[]⟩,.int .i64 0,.int .i64 0,.int .i64 0,.bool false,.slice none 0 0,.slice none 0 0,.slice none 0 0,.bool false,.slice none 0 0,.slice none 0 0,.bool false,.slice none 0 0,.slice none 0 0,.bool false,.bool false,.int .i64 0,.int .i64 0,.int .i64 0]⟩::⟨xp,125,[.int .i64 vb,.int .i64 op,.string tq,.int .i64 x.err,.string x.wher,.int .i64 x.at9,.int .i64 x.id,.int .i64 x.out,.bool x.v.s,.slice x.v.a x.v.l x.v.c,.slice x.v.b x.v.m x.v.d,.slice x.pa x.pn x.pc,.bool x.lo.s,.slice x.lo.a x.lo.l x.lo.c,.slice x.lo.b x.lo.m x.lo.d,.bool x.hi.s,.slice x.hi.a x.hi.l x.hi.c,.slice x.hi.b x.hi.m x.hi.d,.bool x.hl,.bool x.hh,.int .i64 x.u0,.int .i64 x.u1,.int .i64 x.u2]⟩::ex) _ (w.heap.size+1) a n c _ _ _ _ from ⟨hy,HRS9.out,hk⟩)
    clear HEN9 hy hk
    unfold eF
    go_wp2_with (refine store_new rfl 125 _ _ rfl w.heap.size 0 _ rfl rfl (there_of (HN.out.at 0 rfl) 23 rfl) Tryz.sizX (by kernel_rfl) (fun we HWA=>?_))
    have HE:=qH (HN.out.stored 0 rfl HWA (by simp) (by simp) rfl (by simp))
    (try simp only [Exit.inBlock,Exit.then])
    refine bodyPost_ret (v:=.tuple #[.agg #[.int .i64 0,.int .i64 0,.string ⟨#[]⟩,.int .i64 0,.string ⟨#[]⟩,.int .i64 0,.int .i64 0,.int .i64 0,.bool false,.slice none 0 0,.slice none 0 0,.slice none 0 0,.bool false,.slice none 0 0,.slice none 0 0,.bool false,.slice none 0 0,.slice none 0 0,.bool false,.bool false,.int .i64 0,.int .i64 0,.int .i64 0],eF eb]) ?_ rfl ?_
    ·
     rw [results_cell_tmp rfl]
     exact ret_of (run_loadVar_mid _ w.heap.size 0 125 _ dX (range_all (HE.out.at 0 rfl)) HDU.out HDR.out Tryz.sizX)
    rw [HDV.out]
    exact ⟨eF eb,rfl,HE.out.err,HE.out.1.bel⟩
   | ok x9 =>
    rw [hE] at HEN9
    rw [hE] at HDV
    clear hE
    go_wp2_with fail
    refine HEN9.out.mono ?_
    rintro e w8 ⟨k9,ev9,rfl,hy,hs,hk⟩
    have HRS9:=qH hs
    obtain ⟨rfl,rfl,_⟩:=hs
    replace HN:=qH (show RdW w (⟨w.heap.size,125,[.int .i64 0,.int .i64 0,.string ⟨#[]⟩,.int .i64 0,.string ⟨#[]⟩,.int .i64 0,.int .i64 0,.int .i64 0,.bool false,.slice none 0 0,.slice none 0 0,.slice none 0 0,.bool false,.slice none 0 0,.slice none 0 0,.bool false,.slice none 0 0,.slice none 0 0,.bool false,.bool false,.int .i64 0,.int .i64 0,.int .i64 0]⟩::⟨xp,125,[.int .i64 vb,.int .i64 op,.string tq,.int .i64 x.err,.string x.wher,.int .i64 x.at9,.int .i64 x.id,.int .i64 x.out,.bool x.v.s,.slice x.v.a x.v.l x.v.c,.slice x.v.b x.v.m x.v.d,.slice x.pa x.pn x.pc,.bool x.lo.s,.slice x.lo.a x.lo.l x.lo.c,.slice x.lo.b x.lo.m x.lo.d,.bool x.hi.s,.slice x.hi.a x.hi.l x.hi.c,.slice x.hi.b x.hi.m x.hi.d,.bool x.hl,.bool x.hh,.int .i64 x.u0,.int .i64 x.u1,.int .i64 x.u2]⟩::ex) _ (w.heap.size+1) a n c _ _ from ⟨_,.nilIface,hy,HRS9.out,hk⟩)
    clear HEN9 hy hk
    go_wp2_with (first | refine wpList_load_mid rfl 125 _ rfl xp 0 rfl _ dX (range_all (HN.out.at 1 rfl)) HDU.out HDR.out Tryz.sizX ?_ | refine store_new rfl 125 _ _ rfl w.heap.size 0 _ rfl rfl (there_of (HN.out.at 0 rfl) 23 rfl) Tryz.sizX (by kernel_rfl) (fun we HWA=>?_))
    have HE:=qH (HN.out.storedW 0 rfl HWA (by simp) (by simp) rfl (by simp))
    (try simp only [Exit.inBlock,Exit.then])
    refine bodyPost_ret (v:=.tuple #[.agg #[.int .i64 vb,.int .i64 op,.string tq,.int .i64 x.err,.string x.wher,.int .i64 x.at9,.int .i64 x.id,.int .i64 x.out,.bool x.v.s,.slice x.v.a x.v.l x.v.c,.slice x.v.b x.v.m x.v.d,.slice x.pa x.pn x.pc,.bool x.lo.s,.slice x.lo.a x.lo.l x.lo.c,.slice x.lo.b x.lo.m x.lo.d,.bool x.hi.s,.slice x.hi.a x.hi.l x.hi.c,.slice x.hi.b x.hi.m x.hi.d,.bool x.hl,.bool x.hh,.int .i64 x.u0,.int .i64 x.u1,.int .i64 x.u2],.nilIface]) ?_ rfl ?_
    ·
     rw [results_cell_tmp rfl]
     exact ret_of (run_loadVar_mid _ w.heap.size 0 125 _ dX (range_all (HE.out.at 0 rfl)) HDU.out HDR.out Tryz.sizX)
    obtain ⟨k8,ev8,hy,hs,_⟩:=HE.out.get
    rw [HDV.out]
    exact ⟨vb,op,tq,x,rfl,HOK.out (rBox (w.heap.size+1) a n c k8 ev8::⟨w.heap.size,125,[.int .i64 vb,.int .i64 op,.string tq,.int .i64 x.err,.string x.wher,.int .i64 x.at9,.int .i64 x.id,.int .i64 x.out,.bool x.v.s,.slice x.v.a x.v.l x.v.c,.slice x.v.b x.v.m x.v.d,.slice x.pa x.pn x.pc,.bool x.lo.s,.slice x.lo.a x.lo.l x.lo.c,.slice x.lo.b x.lo.m x.lo.d,.bool x.hi.s,.slice x.hi.a x.hi.l x.hi.c,.slice x.hi.b x.hi.m x.hi.d,.bool x.hl,.bool x.hh,.int .i64 x.u0,.int .i64 x.u1,.int .i64 x.u2]⟩::⟨xp,125,[.int .i64 vb,.int .i64 op,.string tq,.int .i64 x.err,.string x.wher,.int .i64 x.at9,.int .i64 x.id,.int .i64 x.out,.bool x.v.s,.slice x.v.a x.v.l x.v.c,.slice x.v.b x.v.m x.v.d,.slice x.pa x.pn x.pc,.bool x.lo.s,.slice x.lo.a x.lo.l x.lo.c,.slice x.lo.b x.lo.m x.lo.d,.bool x.hi.s,.slice x.hi.a x.hi.l x.hi.c,.slice x.hi.b x.hi.m x.hi.d,.bool x.hl,.bool x.hh,.int .i64 x.u0,.int .i64 x.u1,.int .i64 x.u2]⟩::[]) _ hy,HTQ.out,HRE.out,hy.bel⟩
end Go.Proofs.YtmhainidincjhaaGreatDoor
