/-
 What the laws stand on, part Xa: contracts and plain laws of WAns, WTold, WRes; the conditions are each law's own.
-/
import Derived.Test.YtmhainidincjhaaGreatDoorBG
import Derived.Test.YtmhainidincjhaaGreatDoorBV
import Derived.Deep.CutBlock
set_option linter.unusedVariables false
set_option linter.unusedSimpArgs false
set_option maxRecDepth 100000
set_option maxHeartbeats 16000000
namespace Go.Proofs.YtmhainidincjhaaGreatDoor
open Go.RowKit Go.Extern.Stop Go.Stop Go.Extern
theorem WB.call {w0 w w':World} {bs:List Bk} {ns:List Nm} {pb L:Nat} {st:WS} (h:WB w0 bs ns pb st L w) (hb:Below w.heap.size w w'):WB w0 bs ns pb st L w':=by
 obtain ⟨a,n,c,xs,ev,hy,hn,hs⟩:=h
 refine ⟨a,n,c,xs,ev,hy.call hb,hn,?_⟩
 cases st with
 | ok out=>exact hs
 | error x=>exact ErrB.keeps hs (Keeps.of_below hb (S:=fun k=>w.heap.size≤k) fun b h1 _=>h1) (fun b h1 _ h2=>by have h2:w.heap.size≤b:=h2;omega) (fun b _ h=>h)
theorem flag_any (b:Bool) (k:Int) (w:World):Calls Tryz.prog 196 #[.bool b,.int .i64 k] w fun e w'=>e=.returned (.int .i64 (flg b k))∧w'=w:=by
 cases b with
 | true =>
  go_enter Tryz.func196,Tryz.ntmps196
  go_wp2_with fail
  go_ret
  exact ⟨rfl,rfl⟩
 | false =>
  go_enter Tryz.func196,Tryz.ntmps196
  go_wp2_with fail
  go_ret
  exact ⟨rfl,rfl⟩
theorem wans_one {w0:World} {bs:List Bk} {ns:List Nm} {pb:Nat} {st:WS} {L:Nat} (r:Rv) (pa:Option Addr) (pn pc:Nat) (vs:List Rv) (w:World) (h:WB w0 bs ns pb st L w) (hr:r.ok w0) (r1:lenW r.q.num.natAbs≤1099511627776) (r2:lenW r.q.den≤1099511627776) (hE:VecW w0 pa pn pc vs) (hs:∀ v,v∈vs→lenW v.q.num.natAbs≤1099511627776∧lenW v.q.den≤1099511627776) (hL:L+2000+513*pn≤1099511627776) :
  Calls Tryz.prog 171 #[.pointer (some ⟨pb,0,none⟩),.agg #[.int .i64 1,.bool r.s,.slice r.a r.l r.c,.slice r.b r.m r.d,.slice pa pn pc]] w fun e w'=>e=.returned (.tuple #[])∧WB w0 bs ns pb (lays st (partsA ⟨1,r.q,qs vs⟩)) (L+515+513*pn) w':=by
 obtain ⟨st1,hst⟩:∃ st1,lay1 (lay1 (lay1 st (.num 1 1 3)) (.rat r.q)) (.num (pn:Int) 0 64)=st1:=⟨_,rfl⟩
 have hfin:lays st (partsA ⟨1,r.q,qs vs⟩)=lays st1 ((qs vs).map Prt.rat):=by
  unfold partsA
  simp only [if_true]
  rw [lays_cons,lays_cons,lays_cons,qs_len,hE.len,hst]
 rw [hfin]
 have HST1:=qH hst
 clear hfin hst
 have RK:=qH hr
 have HE:=qH hE
 have HS:=qH hs
 clear hr hE hs
 have HW:=qH (h.alloc 117 [.int .i64 1,.bool r.s,.slice r.a r.l r.c,.slice r.b r.m r.d,.slice pa pn pc])
 clear h
 obtain ⟨w1,hw1⟩:∃ w1,w1=w.alloc (.cells #[.int .i64 1,.bool r.s,.slice r.a r.l r.c,.slice r.b r.m r.d,.slice pa pn pc] 117):=⟨_,rfl⟩
 have HW1:=qH (show WB w0 (bs++[⟨w.heap.size,117,[.int .i64 1,.bool r.s,.slice r.a r.l r.c,.slice r.b r.m r.d,.slice pa pn pc]⟩]) ns pb st L w1 from hw1▸HW.out)
 clear HW
 have HW:=HW1
 clear HW1
 have HWE:=qH hw1
 clear hw1
 have hbl:=HW.out.last
 have m0:=cell_of_block (j:=0) hbl rfl
 clear hbl
 go_enter Tryz.func171,Tryz.ntmps171
 go_upto_region 1 with fail
 rw [← HWE.out]
 have HC:=qH (pick_any (1:Int) 1 3 w1 HW.out (by omega))
 go_wp2_with fail
 refine HC.out.mono ?_
 rintro e w2 ⟨rfl,h2⟩
 clear HC HW m0
 have HW:=qH h2
 clear h2
 have hbl:=HW.out.last
 have m0:=cell_of_block (j:=0) hbl rfl
 clear hbl
 have hbl:=HW.out.last
 have m1:=cell_of_block (j:=1) hbl rfl
 have m2:=cell_of_block (j:=2) hbl rfl
 have m3:=cell_of_block (j:=3) hbl rfl
 clear hbl
 have HC:=qH (wrat_any r.q r.a r.b r.c r.d w2 HW.out (by omega) (RK.out.num.below HW.out.bel) (RK.out.den.below HW.out.bel) r1 r2)
 rw [← RK.out.val] at HC
 unfold Rv.val at HC
 go_wp2_with fail
 refine HC.out.mono ?_
 rintro e w3 ⟨rfl,h2⟩
 clear HC HW m1 m2 m3
 have HW:=qH h2
 clear h2
 clear m0
 have hbl:=HW.out.last
 have m4:=cell_of_block (j:=4) hbl rfl
 clear hbl
 have HC:=qH (pick_any (pn:Int) 0 64 w3 HW.out (by omega))
 go_wp2_with fail
 refine HC.out.mono ?_
 rintro e w4 ⟨rfl,h2⟩
 clear HC HW m4
 have HW:=qH h2
 clear h2
 have hbl:=HW.out.last
 have m4:=cell_of_block (j:=4) hbl rfl
 clear hbl
 go_upto_region 6 with fail
 clear m4
 have HWD:=qH HW.out.drop
 rw [HST1.out] at HWD
 clear HW
 go_loopw [25] (fun v25 wr=>∃ k:Nat,k≤pn∧v25=.int .i64 k∧WB w0 bs ns pb (lays st1 (((qs vs).take k).map Prt.rat)) (L+515+513*k) wr) (fun v25 _=>pn - (intOf v25).toNat)
 case atStart=>exact ⟨0,Nat.zero_le _,rfl,HWD.out.le (by omega)⟩
 case round =>
  obtain ⟨k,hk,rfl,hw⟩:=hrel
  by_cases hlt:k<pn
  ·
   obtain ⟨b,o,x,rfl,hx,hb,c0,c1,c2,xok⟩:=HE.out.get k hlt
   have hcap:=HE.out.sl.lenI
   have hbel:=hw.bel
   have d0:=(hbel.cell (p:=⟨b,o+k*3,none⟩) hb).trans c0
   have d1:=(hbel.cell (p:=⟨b,o+k*3+1,none⟩) hb).trans c1
   have d2:=(hbel.cell (p:=⟨b,o+k*3+2,none⟩) hb).trans c2
   have hstep:lays st1 (((qs vs).take (k+1)).map Prt.rat)=lay1 (lays st1 (((qs vs).take k).map Prt.rat)) (.rat x.q):=by
    rw [List.take_add_one,qs_get hx,List.map_append,lays_append];rfl
   have HST:=qH hstep
   have HWA:=qH (hw.alloc 45 [.bool x.s,.slice x.a x.l x.c,.slice x.b x.m x.d])
   have HXO:=qH xok
   have hxs:=HS.out x (List.mem_of_getElem? hx)
   have HKL:=qH (show L+515+513*k≤1099511627776 by omega)
   clear hstep c0 c1 c2 hbel xok hx hw
   go_upto_region 8 with fail
   have hbl:=HWA.out.last
   have ⟨m0,m1,m2⟩:=cz3 hbl
   have HRT:=qH (wrat_any x.q x.a x.b x.c x.d _ HWA.out HKL.out (HXO.out.num.below HWA.out.bel) (HXO.out.den.below HWA.out.bel) hxs.1 hxs.2)
   rw [← HXO.out.val] at HRT
   unfold Rv.val at HRT
   clear hbl d0 d1 d2
   go_wp2_with fail
   refine HRT.out.mono ?_
   rintro e w3 ⟨rfl,h3⟩
   have HW3:=qH h3.drop
   clear h3 m0 m1 m2
   go_wp2_with fail
   go_roundw
   case rel=>exact ⟨k+1,by omega,by go_num,by rw [HST.out];exact HW3.out.le (by omega)⟩
   case measure=>simp [intOf];omega
  ·
   obtain rfl:k=pn:=by omega
   have HWE:=qH hw
   clear hw
   go_wp2_with fail
   go_end0
   refine ⟨rfl,?_⟩
   have h9:=HWE.out
   rw [List.take_of_length_le (by rw [qs_len,HE.out.len];exact Nat.le_refl _)] at h9
   exact h9
theorem wans_two {w0:World} {bs:List Bk} {ns:List Nm} {pb:Nat} {st:WS} {L:Nat} (out:Int) (ho:(out != 1)=true) (r:Rv) (pa:Option Addr) (pn pc:Nat) (vs:List Rv) (w:World) (h:WB w0 bs ns pb st L w) (hr:r.ok w0) (r1:lenW r.q.num.natAbs≤1099511627776) (r2:lenW r.q.den≤1099511627776) (hE:VecW w0 pa pn pc vs) (hs:∀ v,v∈vs→lenW v.q.num.natAbs≤1099511627776∧lenW v.q.den≤1099511627776) (hL:L+2000+513*pn≤1099511627776) :
  Calls Tryz.prog 171 #[.pointer (some ⟨pb,0,none⟩),.agg #[.int .i64 out,.bool r.s,.slice r.a r.l r.c,.slice r.b r.m r.d,.slice pa pn pc]] w fun e w'=>e=.returned (.tuple #[])∧WB w0 bs ns pb (lay1 st (.num out 1 3)) (L+515+513*pn) w':=by
 have RK:=qH hr
 have HE:=qH hE
 have HS:=qH hs
 clear hr hE hs
 have HW:=qH (h.alloc 117 [.int .i64 out,.bool r.s,.slice r.a r.l r.c,.slice r.b r.m r.d,.slice pa pn pc])
 clear h
 obtain ⟨w1,hw1⟩:∃ w1,w1=w.alloc (.cells #[.int .i64 out,.bool r.s,.slice r.a r.l r.c,.slice r.b r.m r.d,.slice pa pn pc] 117):=⟨_,rfl⟩
 have HW1:=qH (show WB w0 (bs++[⟨w.heap.size,117,[.int .i64 out,.bool r.s,.slice r.a r.l r.c,.slice r.b r.m r.d,.slice pa pn pc]⟩]) ns pb st L w1 from hw1▸HW.out)
 clear HW
 have HW:=HW1
 clear HW1
 have HWE:=qH hw1
 clear hw1
 have hbl:=HW.out.last
 have m0:=cell_of_block (j:=0) hbl rfl
 clear hbl
 go_enter Tryz.func171,Tryz.ntmps171
 go_upto_region 1 with fail
 rw [← HWE.out]
 have HC:=qH (pick_any (out:Int) 1 3 w1 HW.out (by omega))
 go_wp2_with fail
 refine HC.out.mono ?_
 rintro e w2 ⟨rfl,h2⟩
 clear HC HW m0
 have HW:=qH h2
 clear h2
 have hbl:=HW.out.last
 have m0:=cell_of_block (j:=0) hbl rfl
 clear hbl
 go_wp2_with fail
 refine bodyPost_ret (v:=.tuple #[]) (by simp [results,Tryz.results171,go_sem]) rfl ?_
 exact ⟨rfl,HW.out.drop.le (by omega)⟩
theorem wans_any {w0:World} {bs:List Bk} {ns:List Nm} {pb:Nat} {st:WS} {L:Nat} (out:Int) (r:Rv) (pa:Option Addr) (pn pc:Nat) (vs:List Rv) (w:World) (h:WB w0 bs ns pb st L w) (hr:r.ok w0) (r1:lenW r.q.num.natAbs≤1099511627776) (r2:lenW r.q.den≤1099511627776) (hE:VecW w0 pa pn pc vs) (hs:∀ v,v∈vs→lenW v.q.num.natAbs≤1099511627776∧lenW v.q.den≤1099511627776) (hL:L+2000+513*pn≤1099511627776) :
  Calls Tryz.prog 171 #[.pointer (some ⟨pb,0,none⟩),.agg #[.int .i64 out,.bool r.s,.slice r.a r.l r.c,.slice r.b r.m r.d,.slice pa pn pc]] w fun e w'=>e=.returned (.tuple #[])∧WB w0 bs ns pb (lays st (partsA ⟨out,r.q,qs vs⟩)) (L+515+513*pn) w':=by
 by_cases ho:out=1
 ·
  subst ho;exact wans_one r pa pn pc vs w h hr r1 r2 hE hs hL
 ·
  rw [show partsA ⟨out,r.q,qs vs⟩=[.num out 1 3] by unfold partsA;simp only [if_neg ho]]
  exact wans_two out (bne_iff_ne.2 ho) r pa pn pc vs w h hr r1 r2 hE hs hL
theorem wrng_ff {w0:World} {bs:List Bk} {ns:List Nm} {pb:Nat} {st:WS} {L:Nat} (l g:Rv) (w:World) (h:WB w0 bs ns pb st L w) (hl:l.ok w0) (l1:lenW l.q.num.natAbs≤1099511627776) (l2:lenW l.q.den≤1099511627776) (hg:g.ok w0) (g1:lenW g.q.num.natAbs≤1099511627776) (g2:lenW g.q.den≤1099511627776) (hL:L+2000≤1099511627776) :
  Calls Tryz.prog 172 #[.pointer (some ⟨pb,0,none⟩),.agg #[.bool l.s,.slice l.a l.l l.c,.slice l.b l.m l.d,.bool g.s,.slice g.a g.l g.c,.slice g.b g.m g.d,.bool false,.bool false]] w fun e w'=>e=.returned (.tuple #[])∧WB w0 bs ns pb (lays st [.num 0 0 3]) (L+1027) w':=by
 have LK:=qH hl
 have GK:=qH hg
 clear hl hg
 have HW:=qH (h.alloc 119 [.bool l.s,.slice l.a l.l l.c,.slice l.b l.m l.d,.bool g.s,.slice g.a g.l g.c,.slice g.b g.m g.d,.bool false,.bool false])
 clear h
 obtain ⟨w1,hw1⟩:∃ w1,w1=w.alloc (.cells #[.bool l.s,.slice l.a l.l l.c,.slice l.b l.m l.d,.bool g.s,.slice g.a g.l g.c,.slice g.b g.m g.d,.bool false,.bool false] 119):=⟨_,rfl⟩
 have HW1:=qH (show WB w0 (bs++[⟨w.heap.size,119,[.bool l.s,.slice l.a l.l l.c,.slice l.b l.m l.d,.bool g.s,.slice g.a g.l g.c,.slice g.b g.m g.d,.bool false,.bool false]⟩]) ns pb st L w1 from hw1▸HW.out)
 clear HW
 have HW:=HW1
 clear HW1
 have HWE:=qH hw1
 clear hw1
 go_enter Tryz.func172,Tryz.ntmps172
 go_upto_region 1 with fail
 rw [← HWE.out]
 have hbl:=HW.out.last
 have m6:=cell_of_block (j:=6) hbl rfl
 have m7:=cell_of_block (j:=7) hbl rfl
 clear hbl
 go_cut [] (fun wx=>WB w0 (bs++[⟨w.heap.size,119,[.bool l.s,.slice l.a l.l l.c,.slice l.b l.m l.d,.bool g.s,.slice g.a g.l g.c,.slice g.b g.m g.d,.bool false,.bool false]⟩]) ns pb (lay1 st (.num 0 0 3)) (L+1) wx)
 case first =>
  clear m6 m7
  replace HW:=qH (HW.out.call (Below.refl _ _).drew)
  refine wp_region_held_drew (S:=fun W=>W.cell? ⟨w.heap.size,6,none⟩=some (.bool false)∧W.cell? ⟨w.heap.size,7,none⟩=some (.bool false)) (by kernel_rfl) (⟨cell_of_block (j:=6) HW.out.last rfl,cell_of_block (j:=7) HW.out.last rfl⟩) (fun hHeld=>?_)
  generalize w1.drew=wd at HW hHeld ⊢
  refine tm 0 (some 4) ?_
  refine tm 1 (some 5) ?_
  refine tl 2 (some 6) ?_
  refine tm 4 (some 8) ?_
  refine tl 5 (some 9) ?_
  refine wpAnyH_ready (rs:=[3]) (by kernel_rfl) (by simp) ?_
  refine (AllReadyH.cons rfl (fun K hK=>?_) AllReadyH.nil)
  go_simp
  refine (flag_any _ _ _).mono ?_
  rintro e w2 ⟨rfl,rfl⟩
  go_wp2_with fail
  refine hK.out _ _ (⟨cell_of_block (j:=6) HW.out.last rfl,cell_of_block (j:=7) HW.out.last rfl⟩) (fun hHeld2=>?_)
  clear hK K hHeld
  rename _=>hHeld
  try simp only [Act.put,stB,stZ,stS]
  refine wpAnyH_ready (rs:=[6]) (by kernel_rfl) (by simp) ?_
  refine (AllReadyH.cons rfl (fun K hK=>?_) AllReadyH.nil)
  go_simp
  refine (flag_any _ _ _).mono ?_
  rintro e w2 ⟨rfl,rfl⟩
  go_wp2_with fail
  refine hK.out _ _ (⟨cell_of_block (j:=6) HW.out.last rfl,cell_of_block (j:=7) HW.out.last rfl⟩) (fun hHeld2=>?_)
  clear hK K hHeld
  rename _=>hHeld
  try simp only [Act.put,stB,stZ,stS]
  refine tm 7 (some 11) ?_
  refine wpAnyH_ready (rs:=[8]) (by kernel_rfl) (by simp) ?_
  refine (AllReadyH.cons rfl (fun K hK=>?_) AllReadyH.nil)
  go_simp
  refine (pick_any (0:Int) 0 3 _ HW.out (by omega)).mono ?_
  rintro e wd ⟨rfl,h2⟩
  replace HW:=qH h2
  clear h2
  go_wp2_with fail
  refine hK.out _ _ (⟨cell_of_block (j:=6) HW.out.last rfl,cell_of_block (j:=7) HW.out.last rfl⟩) (fun hHeld2=>?_)
  clear hK K hHeld
  rename _=>hHeld
  try simp only [Act.put,stB,stZ,stS]
  refine wpAnyH_done (by kernel_rfl) ?_ _
  clear hHeld
  go_wp2_with fail
  go_meet
  exact HW.out
 case rest =>
  obtain ⟨w3,rfl⟩:∃ w3:World,w3=wc:=⟨_,rfl⟩
  replace HW:=qH hcut
  clear hcut
  have hbl:=HW.out.last
  have m6:=cell_of_block (j:=6) hbl rfl
  have m7:=cell_of_block (j:=7) hbl rfl
  clear hbl
  go_wp2_with fail
  go_end0
  exact ⟨rfl,HW.out.drop.le (by omega)⟩
theorem wrng_ft {w0:World} {bs:List Bk} {ns:List Nm} {pb:Nat} {st:WS} {L:Nat} (l g:Rv) (w:World) (h:WB w0 bs ns pb st L w) (hl:l.ok w0) (l1:lenW l.q.num.natAbs≤1099511627776) (l2:lenW l.q.den≤1099511627776) (hg:g.ok w0) (g1:lenW g.q.num.natAbs≤1099511627776) (g2:lenW g.q.den≤1099511627776) (hL:L+2000≤1099511627776) :
  Calls Tryz.prog 172 #[.pointer (some ⟨pb,0,none⟩),.agg #[.bool l.s,.slice l.a l.l l.c,.slice l.b l.m l.d,.bool g.s,.slice g.a g.l g.c,.slice g.b g.m g.d,.bool false,.bool true]] w fun e w'=>e=.returned (.tuple #[])∧WB w0 bs ns pb (lays st [.num 2 0 3,.rat g.q]) (L+1027) w':=by
 have LK:=qH hl
 have GK:=qH hg
 clear hl hg
 have HW:=qH (h.alloc 119 [.bool l.s,.slice l.a l.l l.c,.slice l.b l.m l.d,.bool g.s,.slice g.a g.l g.c,.slice g.b g.m g.d,.bool false,.bool true])
 clear h
 obtain ⟨w1,hw1⟩:∃ w1,w1=w.alloc (.cells #[.bool l.s,.slice l.a l.l l.c,.slice l.b l.m l.d,.bool g.s,.slice g.a g.l g.c,.slice g.b g.m g.d,.bool false,.bool true] 119):=⟨_,rfl⟩
 have HW1:=qH (show WB w0 (bs++[⟨w.heap.size,119,[.bool l.s,.slice l.a l.l l.c,.slice l.b l.m l.d,.bool g.s,.slice g.a g.l g.c,.slice g.b g.m g.d,.bool false,.bool true]⟩]) ns pb st L w1 from hw1▸HW.out)
 clear HW
 have HW:=HW1
 clear HW1
 have HWE:=qH hw1
 clear hw1
 go_enter Tryz.func172,Tryz.ntmps172
 go_upto_region 1 with fail
 rw [← HWE.out]
 have hbl:=HW.out.last
 have m6:=cell_of_block (j:=6) hbl rfl
 have m7:=cell_of_block (j:=7) hbl rfl
 clear hbl
 go_cut [] (fun wx=>WB w0 (bs++[⟨w.heap.size,119,[.bool l.s,.slice l.a l.l l.c,.slice l.b l.m l.d,.bool g.s,.slice g.a g.l g.c,.slice g.b g.m g.d,.bool false,.bool true]⟩]) ns pb (lay1 st (.num 2 0 3)) (L+1) wx)
 case first =>
  clear m6 m7
  replace HW:=qH (HW.out.call (Below.refl _ _).drew)
  refine wp_region_held_drew (S:=fun W=>W.cell? ⟨w.heap.size,6,none⟩=some (.bool false)∧W.cell? ⟨w.heap.size,7,none⟩=some (.bool true)) (by kernel_rfl) (⟨cell_of_block (j:=6) HW.out.last rfl,cell_of_block (j:=7) HW.out.last rfl⟩) (fun hHeld=>?_)
  generalize w1.drew=wd at HW hHeld ⊢
  refine tm 0 (some 4) ?_
  refine tm 1 (some 5) ?_
  refine tl 2 (some 6) ?_
  refine tm 4 (some 8) ?_
  refine tl 5 (some 9) ?_
  refine wpAnyH_ready (rs:=[3]) (by kernel_rfl) (by simp) ?_
  refine (AllReadyH.cons rfl (fun K hK=>?_) AllReadyH.nil)
  go_simp
  refine (flag_any _ _ _).mono ?_
  rintro e w2 ⟨rfl,rfl⟩
  go_wp2_with fail
  refine hK.out _ _ (⟨cell_of_block (j:=6) HW.out.last rfl,cell_of_block (j:=7) HW.out.last rfl⟩) (fun hHeld2=>?_)
  clear hK K hHeld
  rename _=>hHeld
  try simp only [Act.put,stB,stZ,stS]
  refine wpAnyH_ready (rs:=[6]) (by kernel_rfl) (by simp) ?_
  refine (AllReadyH.cons rfl (fun K hK=>?_) AllReadyH.nil)
  go_simp
  refine (flag_any _ _ _).mono ?_
  rintro e w2 ⟨rfl,rfl⟩
  go_wp2_with fail
  refine hK.out _ _ (⟨cell_of_block (j:=6) HW.out.last rfl,cell_of_block (j:=7) HW.out.last rfl⟩) (fun hHeld2=>?_)
  clear hK K hHeld
  rename _=>hHeld
  try simp only [Act.put,stB,stZ,stS]
  refine tm 7 (some 11) ?_
  refine wpAnyH_ready (rs:=[8]) (by kernel_rfl) (by simp) ?_
  refine (AllReadyH.cons rfl (fun K hK=>?_) AllReadyH.nil)
  go_simp
  refine (pick_any (2:Int) 0 3 _ HW.out (by omega)).mono ?_
  rintro e wd ⟨rfl,h2⟩
  replace HW:=qH h2
  clear h2
  go_wp2_with fail
  refine hK.out _ _ (⟨cell_of_block (j:=6) HW.out.last rfl,cell_of_block (j:=7) HW.out.last rfl⟩) (fun hHeld2=>?_)
  clear hK K hHeld
  rename _=>hHeld
  try simp only [Act.put,stB,stZ,stS]
  refine wpAnyH_done (by kernel_rfl) ?_ _
  clear hHeld
  go_wp2_with fail
  go_meet
  exact HW.out
 case rest =>
  obtain ⟨w3,rfl⟩:∃ w3:World,w3=wc:=⟨_,rfl⟩
  replace HW:=qH hcut
  clear hcut
  have hbl:=HW.out.last
  have m3:=cell_of_block (j:=3) hbl rfl
  have m4:=cell_of_block (j:=4) hbl rfl
  have m5:=cell_of_block (j:=5) hbl rfl
  have m6:=cell_of_block (j:=6) hbl rfl
  have m7:=cell_of_block (j:=7) hbl rfl
  clear hbl
  have HC:=qH (wrat_any g.q g.a g.b g.c g.d w3 HW.out (by omega) (GK.out.num.below HW.out.bel) (GK.out.den.below HW.out.bel) g1 g2)
  rw [← GK.out.val] at HC
  unfold Rv.val at HC
  go_wp2_with fail
  refine HC.out.mono ?_
  rintro e w4 ⟨rfl,h2⟩
  clear HC HW m3 m4 m5 m6 m7
  have HW:=qH h2
  clear h2
  go_wp2_with fail
  go_end0
  exact ⟨rfl,HW.out.drop.le (by omega)⟩
theorem wrng_tf {w0:World} {bs:List Bk} {ns:List Nm} {pb:Nat} {st:WS} {L:Nat} (l g:Rv) (w:World) (h:WB w0 bs ns pb st L w) (hl:l.ok w0) (l1:lenW l.q.num.natAbs≤1099511627776) (l2:lenW l.q.den≤1099511627776) (hg:g.ok w0) (g1:lenW g.q.num.natAbs≤1099511627776) (g2:lenW g.q.den≤1099511627776) (hL:L+2000≤1099511627776) :
  Calls Tryz.prog 172 #[.pointer (some ⟨pb,0,none⟩),.agg #[.bool l.s,.slice l.a l.l l.c,.slice l.b l.m l.d,.bool g.s,.slice g.a g.l g.c,.slice g.b g.m g.d,.bool true,.bool false]] w fun e w'=>e=.returned (.tuple #[])∧WB w0 bs ns pb (lays st [.num 1 0 3,.rat l.q]) (L+1027) w':=by
 have LK:=qH hl
 have GK:=qH hg
 clear hl hg
 have HW:=qH (h.alloc 119 [.bool l.s,.slice l.a l.l l.c,.slice l.b l.m l.d,.bool g.s,.slice g.a g.l g.c,.slice g.b g.m g.d,.bool true,.bool false])
 clear h
 obtain ⟨w1,hw1⟩:∃ w1,w1=w.alloc (.cells #[.bool l.s,.slice l.a l.l l.c,.slice l.b l.m l.d,.bool g.s,.slice g.a g.l g.c,.slice g.b g.m g.d,.bool true,.bool false] 119):=⟨_,rfl⟩
 have HW1:=qH (show WB w0 (bs++[⟨w.heap.size,119,[.bool l.s,.slice l.a l.l l.c,.slice l.b l.m l.d,.bool g.s,.slice g.a g.l g.c,.slice g.b g.m g.d,.bool true,.bool false]⟩]) ns pb st L w1 from hw1▸HW.out)
 clear HW
 have HW:=HW1
 clear HW1
 have HWE:=qH hw1
 clear hw1
 go_enter Tryz.func172,Tryz.ntmps172
 go_upto_region 1 with fail
 rw [← HWE.out]
 have hbl:=HW.out.last
 have m6:=cell_of_block (j:=6) hbl rfl
 have m7:=cell_of_block (j:=7) hbl rfl
 clear hbl
 go_cut [] (fun wx=>WB w0 (bs++[⟨w.heap.size,119,[.bool l.s,.slice l.a l.l l.c,.slice l.b l.m l.d,.bool g.s,.slice g.a g.l g.c,.slice g.b g.m g.d,.bool true,.bool false]⟩]) ns pb (lay1 st (.num 1 0 3)) (L+1) wx)
 case first =>
  clear m6 m7
  replace HW:=qH (HW.out.call (Below.refl _ _).drew)
  refine wp_region_held_drew (S:=fun W=>W.cell? ⟨w.heap.size,6,none⟩=some (.bool true)∧W.cell? ⟨w.heap.size,7,none⟩=some (.bool false)) (by kernel_rfl) (⟨cell_of_block (j:=6) HW.out.last rfl,cell_of_block (j:=7) HW.out.last rfl⟩) (fun hHeld=>?_)
  generalize w1.drew=wd at HW hHeld ⊢
  refine tm 0 (some 4) ?_
  refine tm 1 (some 5) ?_
  refine tl 2 (some 6) ?_
  refine tm 4 (some 8) ?_
  refine tl 5 (some 9) ?_
  refine wpAnyH_ready (rs:=[3]) (by kernel_rfl) (by simp) ?_
  refine (AllReadyH.cons rfl (fun K hK=>?_) AllReadyH.nil)
  go_simp
  refine (flag_any _ _ _).mono ?_
  rintro e w2 ⟨rfl,rfl⟩
  go_wp2_with fail
  refine hK.out _ _ (⟨cell_of_block (j:=6) HW.out.last rfl,cell_of_block (j:=7) HW.out.last rfl⟩) (fun hHeld2=>?_)
  clear hK K hHeld
  rename _=>hHeld
  try simp only [Act.put,stB,stZ,stS]
  refine wpAnyH_ready (rs:=[6]) (by kernel_rfl) (by simp) ?_
  refine (AllReadyH.cons rfl (fun K hK=>?_) AllReadyH.nil)
  go_simp
  refine (flag_any _ _ _).mono ?_
  rintro e w2 ⟨rfl,rfl⟩
  go_wp2_with fail
  refine hK.out _ _ (⟨cell_of_block (j:=6) HW.out.last rfl,cell_of_block (j:=7) HW.out.last rfl⟩) (fun hHeld2=>?_)
  clear hK K hHeld
  rename _=>hHeld
  try simp only [Act.put,stB,stZ,stS]
  refine tm 7 (some 11) ?_
  refine wpAnyH_ready (rs:=[8]) (by kernel_rfl) (by simp) ?_
  refine (AllReadyH.cons rfl (fun K hK=>?_) AllReadyH.nil)
  go_simp
  refine (pick_any (1:Int) 0 3 _ HW.out (by omega)).mono ?_
  rintro e wd ⟨rfl,h2⟩
  replace HW:=qH h2
  clear h2
  go_wp2_with fail
  refine hK.out _ _ (⟨cell_of_block (j:=6) HW.out.last rfl,cell_of_block (j:=7) HW.out.last rfl⟩) (fun hHeld2=>?_)
  clear hK K hHeld
  rename _=>hHeld
  try simp only [Act.put,stB,stZ,stS]
  refine wpAnyH_done (by kernel_rfl) ?_ _
  clear hHeld
  go_wp2_with fail
  go_meet
  exact HW.out
 case rest =>
  obtain ⟨w3,rfl⟩:∃ w3:World,w3=wc:=⟨_,rfl⟩
  replace HW:=qH hcut
  clear hcut
  have hbl:=HW.out.last
  have ⟨m0,m1,m2⟩:=cz3 hbl
  have m6:=cell_of_block (j:=6) hbl rfl
  clear hbl
  have HC:=qH (wrat_any l.q l.a l.b l.c l.d w3 HW.out (by omega) (LK.out.num.below HW.out.bel) (LK.out.den.below HW.out.bel) l1 l2)
  rw [← LK.out.val] at HC
  unfold Rv.val at HC
  go_wp2_with fail
  refine HC.out.mono ?_
  rintro e w4 ⟨rfl,h2⟩
  clear HC HW m0 m1 m2 m6
  have HW:=qH h2
  clear h2
  have hbl:=HW.out.last
  have m7:=cell_of_block (j:=7) hbl rfl
  clear hbl
  go_wp2_with fail
  go_end0
  exact ⟨rfl,HW.out.drop.le (by omega)⟩
theorem wrng_tt {w0:World} {bs:List Bk} {ns:List Nm} {pb:Nat} {st:WS} {L:Nat} (l g:Rv) (w:World) (h:WB w0 bs ns pb st L w) (hl:l.ok w0) (l1:lenW l.q.num.natAbs≤1099511627776) (l2:lenW l.q.den≤1099511627776) (hg:g.ok w0) (g1:lenW g.q.num.natAbs≤1099511627776) (g2:lenW g.q.den≤1099511627776) (hL:L+2000≤1099511627776) :
  Calls Tryz.prog 172 #[.pointer (some ⟨pb,0,none⟩),.agg #[.bool l.s,.slice l.a l.l l.c,.slice l.b l.m l.d,.bool g.s,.slice g.a g.l g.c,.slice g.b g.m g.d,.bool true,.bool true]] w fun e w'=>e=.returned (.tuple #[])∧WB w0 bs ns pb (lays st [.num 3 0 3,.rat l.q,.rat g.q]) (L+1027) w':=by
 have LK:=qH hl
 have GK:=qH hg
 clear hl hg
 have HW:=qH (h.alloc 119 [.bool l.s,.slice l.a l.l l.c,.slice l.b l.m l.d,.bool g.s,.slice g.a g.l g.c,.slice g.b g.m g.d,.bool true,.bool true])
 clear h
 obtain ⟨w1,hw1⟩:∃ w1,w1=w.alloc (.cells #[.bool l.s,.slice l.a l.l l.c,.slice l.b l.m l.d,.bool g.s,.slice g.a g.l g.c,.slice g.b g.m g.d,.bool true,.bool true] 119):=⟨_,rfl⟩
 have HW1:=qH (show WB w0 (bs++[⟨w.heap.size,119,[.bool l.s,.slice l.a l.l l.c,.slice l.b l.m l.d,.bool g.s,.slice g.a g.l g.c,.slice g.b g.m g.d,.bool true,.bool true]⟩]) ns pb st L w1 from hw1▸HW.out)
 clear HW
 have HW:=HW1
 clear HW1
 have HWE:=qH hw1
 clear hw1
 go_enter Tryz.func172,Tryz.ntmps172
 go_upto_region 1 with fail
 rw [← HWE.out]
 have hbl:=HW.out.last
 have m6:=cell_of_block (j:=6) hbl rfl
 have m7:=cell_of_block (j:=7) hbl rfl
 clear hbl
 go_cut [] (fun wx=>WB w0 (bs++[⟨w.heap.size,119,[.bool l.s,.slice l.a l.l l.c,.slice l.b l.m l.d,.bool g.s,.slice g.a g.l g.c,.slice g.b g.m g.d,.bool true,.bool true]⟩]) ns pb (lay1 st (.num 3 0 3)) (L+1) wx)
 case first =>
  clear m6 m7
  replace HW:=qH (HW.out.call (Below.refl _ _).drew)
  refine wp_region_held_drew (S:=fun W=>W.cell? ⟨w.heap.size,6,none⟩=some (.bool true)∧W.cell? ⟨w.heap.size,7,none⟩=some (.bool true)) (by kernel_rfl) (⟨cell_of_block (j:=6) HW.out.last rfl,cell_of_block (j:=7) HW.out.last rfl⟩) (fun hHeld=>?_)
  generalize w1.drew=wd at HW hHeld ⊢
  refine tm 0 (some 4) ?_
  refine tm 1 (some 5) ?_
  refine tl 2 (some 6) ?_
  refine tm 4 (some 8) ?_
  refine tl 5 (some 9) ?_
  refine wpAnyH_ready (rs:=[3]) (by kernel_rfl) (by simp) ?_
  refine (AllReadyH.cons rfl (fun K hK=>?_) AllReadyH.nil)
  go_simp
  refine (flag_any _ _ _).mono ?_
  rintro e w2 ⟨rfl,rfl⟩
  go_wp2_with fail
  refine hK.out _ _ (⟨cell_of_block (j:=6) HW.out.last rfl,cell_of_block (j:=7) HW.out.last rfl⟩) (fun hHeld2=>?_)
  clear hK K hHeld
  rename _=>hHeld
  try simp only [Act.put,stB,stZ,stS]
  refine wpAnyH_ready (rs:=[6]) (by kernel_rfl) (by simp) ?_
  refine (AllReadyH.cons rfl (fun K hK=>?_) AllReadyH.nil)
  go_simp
  refine (flag_any _ _ _).mono ?_
  rintro e w2 ⟨rfl,rfl⟩
  go_wp2_with fail
  refine hK.out _ _ (⟨cell_of_block (j:=6) HW.out.last rfl,cell_of_block (j:=7) HW.out.last rfl⟩) (fun hHeld2=>?_)
  clear hK K hHeld
  rename _=>hHeld
  try simp only [Act.put,stB,stZ,stS]
  refine tm 7 (some 11) ?_
  refine wpAnyH_ready (rs:=[8]) (by kernel_rfl) (by simp) ?_
  refine (AllReadyH.cons rfl (fun K hK=>?_) AllReadyH.nil)
  go_simp
  refine (pick_any (3:Int) 0 3 _ HW.out (by omega)).mono ?_
  rintro e wd ⟨rfl,h2⟩
  replace HW:=qH h2
  clear h2
  go_wp2_with fail
  refine hK.out _ _ (⟨cell_of_block (j:=6) HW.out.last rfl,cell_of_block (j:=7) HW.out.last rfl⟩) (fun hHeld2=>?_)
  clear hK K hHeld
  rename _=>hHeld
  try simp only [Act.put,stB,stZ,stS]
  refine wpAnyH_done (by kernel_rfl) ?_ _
  clear hHeld
  go_wp2_with fail
  go_meet
  exact HW.out
 case rest =>
  obtain ⟨w3,rfl⟩:∃ w3:World,w3=wc:=⟨_,rfl⟩
  replace HW:=qH hcut
  clear hcut
  have hbl:=HW.out.last
  have ⟨m0,m1,m2⟩:=cz3 hbl
  have m6:=cell_of_block (j:=6) hbl rfl
  clear hbl
  have HC:=qH (wrat_any l.q l.a l.b l.c l.d w3 HW.out (by omega) (LK.out.num.below HW.out.bel) (LK.out.den.below HW.out.bel) l1 l2)
  rw [← LK.out.val] at HC
  unfold Rv.val at HC
  go_wp2_with fail
  refine HC.out.mono ?_
  rintro e w4 ⟨rfl,h2⟩
  clear HC HW m0 m1 m2 m6
  have HW:=qH h2
  clear h2
  have hbl:=HW.out.last
  have m3:=cell_of_block (j:=3) hbl rfl
  have m4:=cell_of_block (j:=4) hbl rfl
  have m5:=cell_of_block (j:=5) hbl rfl
  have m7:=cell_of_block (j:=7) hbl rfl
  clear hbl
  have HC:=qH (wrat_any g.q g.a g.b g.c g.d w4 HW.out (by omega) (GK.out.num.below HW.out.bel) (GK.out.den.below HW.out.bel) g1 g2)
  rw [← GK.out.val] at HC
  unfold Rv.val at HC
  go_wp2_with fail
  refine HC.out.mono ?_
  rintro e w5 ⟨rfl,h2⟩
  clear HC HW m3 m4 m5 m7
  have HW:=qH h2
  clear h2
  go_wp2_with fail
  go_end0
  exact ⟨rfl,HW.out.drop.le (by omega)⟩
theorem wrng_any {w0:World} {bs:List Bk} {ns:List Nm} {pb:Nat} {st:WS} {L:Nat} (lo hi:Bool) (l g:Rv) (w:World) (h:WB w0 bs ns pb st L w) (hl:l.ok w0) (l1:lenW l.q.num.natAbs≤1099511627776) (l2:lenW l.q.den≤1099511627776) (hg:g.ok w0) (g1:lenW g.q.num.natAbs≤1099511627776) (g2:lenW g.q.den≤1099511627776) (hL:L+2000≤1099511627776) :
  Calls Tryz.prog 172 #[.pointer (some ⟨pb,0,none⟩),.agg #[.bool l.s,.slice l.a l.l l.c,.slice l.b l.m l.d,.bool g.s,.slice g.a g.l g.c,.slice g.b g.m g.d,.bool lo,.bool hi]] w fun e w'=>e=.returned (.tuple #[])∧WB w0 bs ns pb (lays st (partsG ⟨lo,hi,l.q,g.q⟩)) (L+1027) w':=by
 cases lo <;> cases hi
 ·
  exact wrng_ff l g w h hl l1 l2 hg g1 g2 hL
 ·
  exact wrng_ft l g w h hl l1 l2 hg g1 g2 hL
 ·
  exact wrng_tf l g w h hl l1 l2 hg g1 g2 hL
 ·
  exact wrng_tt l g w h hl l1 l2 hg g1 g2 hL
structure RepV where
 err:Int
 wher:ByteArray
 at9:Int
 id:Int
 out:Int
 v:Rv
 pa:Option Addr
 pn:Nat
 pc:Nat
 ps:List Rv
 lo:Rv
 hi:Rv
 hl:Bool
 hh:Bool
 u0:Int
 u1:Int
 u2:Int
def RepV.cells (x:RepV):List Value:=[.int .i64 x.err,.string x.wher,.int .i64 x.at9,.int .i64 x.id,.int .i64 x.out,.bool x.v.s,.slice x.v.a x.v.l x.v.c,.slice x.v.b x.v.m x.v.d,.slice x.pa x.pn x.pc,.bool x.lo.s,.slice x.lo.a x.lo.l x.lo.c,.slice x.lo.b x.lo.m x.lo.d,.bool x.hi.s,.slice x.hi.a x.hi.l x.hi.c,.slice x.hi.b x.hi.m x.hi.d,.bool x.hl,.bool x.hh,.int .i64 x.u0,.int .i64 x.u1,.int .i64 x.u2]
def RepV.rep (x:RepV):Rep:=⟨x.err,natB x.wher,x.at9,x.id,⟨x.out,x.v.q,qs x.ps⟩,⟨x.hl,x.hh,x.lo.q,x.hi.q⟩,x.u0,x.u1,x.u2⟩
structure RepV.ok (w:World) (x:RepV):Prop where
 wh:x.wher.size≤4294967296
 v:x.v.ok w
 v1:lenW x.v.q.num.natAbs≤1099511627776
 v2:lenW x.v.q.den≤1099511627776
 ps:VecW w x.pa x.pn x.pc x.ps
 ps1:∀ v,v∈x.ps→lenW v.q.num.natAbs≤1099511627776∧lenW v.q.den≤1099511627776
 pn:x.pn≤134217728
 lo:x.lo.ok w
 lo1:lenW x.lo.q.num.natAbs≤1099511627776
 lo2:lenW x.lo.q.den≤1099511627776
 hi:x.hi.ok w
 hi1:lenW x.hi.q.num.natAbs≤1099511627776
 hi2:lenW x.hi.q.den≤1099511627776
theorem RepV.ok.below {w w':World} {x:RepV} (h:x.ok w) (hb:Below w.heap.size w w'):x.ok w' :=
 ⟨h.wh,h.v.below hb,h.v1,h.v2,h.ps.below hb,h.ps1,h.pn,h.lo.below hb,h.lo1,h.lo2,h.hi.below hb,h.hi1,h.hi2⟩
theorem wtold_1 {w0:World} {bs:List Bk} {ns:List Nm} {pb:Nat} {st:WS} {L:Nat} (x:RepV) (w:World) (h:WB w0 bs ns pb st L w) (hx:x.ok w0) (hL:L+3000+513*x.pn≤1099511627776) :
  Calls Tryz.prog 116 #[.pointer (some ⟨pb,0,none⟩),.int .i64 1,.agg #[.int .i64 x.err,.string x.wher,.int .i64 x.at9,.int .i64 x.id,.int .i64 x.out,.bool x.v.s,.slice x.v.a x.v.l x.v.c,.slice x.v.b x.v.m x.v.d,.slice x.pa x.pn x.pc,.bool x.lo.s,.slice x.lo.a x.lo.l x.lo.c,.slice x.lo.b x.lo.m x.lo.d,.bool x.hi.s,.slice x.hi.a x.hi.l x.hi.c,.slice x.hi.b x.hi.m x.hi.d,.bool x.hl,.bool x.hh,.int .i64 x.u0,.int .i64 x.u1,.int .i64 x.u2]] w fun e w'=>e=.returned (.tuple #[])∧WB w0 bs ns pb (lays st (.num 1 1 12::[.idn x.id])) (L+1600+513*x.pn) w':=by
 have HX:=qH hx
 clear hx
 have HW:=qH (h.alloc 123 x.cells)
 clear h
 obtain ⟨w1,hw1⟩:∃ w1,w1=w.alloc (.cells #[.int .i64 x.err,.string x.wher,.int .i64 x.at9,.int .i64 x.id,.int .i64 x.out,.bool x.v.s,.slice x.v.a x.v.l x.v.c,.slice x.v.b x.v.m x.v.d,.slice x.pa x.pn x.pc,.bool x.lo.s,.slice x.lo.a x.lo.l x.lo.c,.slice x.lo.b x.lo.m x.lo.d,.bool x.hi.s,.slice x.hi.a x.hi.l x.hi.c,.slice x.hi.b x.hi.m x.hi.d,.bool x.hl,.bool x.hh,.int .i64 x.u0,.int .i64 x.u1,.int .i64 x.u2] 123):=⟨_,rfl⟩
 have HW1:=qH (show WB w0 (bs++[⟨w.heap.size,123,x.cells⟩]) ns pb st L w1 from hw1▸HW.out)
 clear HW
 have HW:=HW1
 clear HW1
 have HWE:=qH hw1
 clear hw1
 go_enter Tryz.func116,Tryz.ntmps116
 go_upto_region 1 with fail
 rw [← HWE.out]
 have HC:=qH (pick_any (1:Int) 1 12 w1 HW.out (by omega))
 go_wp2_with fail
 refine HC.out.mono ?_
 rintro e w2 ⟨rfl,h2⟩
 clear HC HW
 have HW:=qH h2
 clear h2
 have hbl:=HW.out.last
 have m3:=cell_of_block (j:=3) hbl rfl
 clear hbl
 have HC:=qH (wid_any x.id w2 HW.out (by omega))
 go_wp2_with fail
 refine HC.out.mono ?_
 rintro e w3 ⟨rfl,h2⟩
 clear HC HW m3
 have HW:=qH h2
 clear h2
 go_wp2_with fail
 go_end0
 exact ⟨rfl,HW.out.drop.le (by omega)⟩
theorem wtold_2 {w0:World} {bs:List Bk} {ns:List Nm} {pb:Nat} {st:WS} {L:Nat} (x:RepV) (w:World) (h:WB w0 bs ns pb st L w) (hx:x.ok w0) (hL:L+3000+513*x.pn≤1099511627776) :
  Calls Tryz.prog 116 #[.pointer (some ⟨pb,0,none⟩),.int .i64 2,.agg #[.int .i64 x.err,.string x.wher,.int .i64 x.at9,.int .i64 x.id,.int .i64 x.out,.bool x.v.s,.slice x.v.a x.v.l x.v.c,.slice x.v.b x.v.m x.v.d,.slice x.pa x.pn x.pc,.bool x.lo.s,.slice x.lo.a x.lo.l x.lo.c,.slice x.lo.b x.lo.m x.lo.d,.bool x.hi.s,.slice x.hi.a x.hi.l x.hi.c,.slice x.hi.b x.hi.m x.hi.d,.bool x.hl,.bool x.hh,.int .i64 x.u0,.int .i64 x.u1,.int .i64 x.u2]] w fun e w'=>e=.returned (.tuple #[])∧WB w0 bs ns pb (lays st (.num 2 1 12::[.idn x.id])) (L+1600+513*x.pn) w':=by
 have HX:=qH hx
 clear hx
 have HW:=qH (h.alloc 123 x.cells)
 clear h
 obtain ⟨w1,hw1⟩:∃ w1,w1=w.alloc (.cells #[.int .i64 x.err,.string x.wher,.int .i64 x.at9,.int .i64 x.id,.int .i64 x.out,.bool x.v.s,.slice x.v.a x.v.l x.v.c,.slice x.v.b x.v.m x.v.d,.slice x.pa x.pn x.pc,.bool x.lo.s,.slice x.lo.a x.lo.l x.lo.c,.slice x.lo.b x.lo.m x.lo.d,.bool x.hi.s,.slice x.hi.a x.hi.l x.hi.c,.slice x.hi.b x.hi.m x.hi.d,.bool x.hl,.bool x.hh,.int .i64 x.u0,.int .i64 x.u1,.int .i64 x.u2] 123):=⟨_,rfl⟩
 have HW1:=qH (show WB w0 (bs++[⟨w.heap.size,123,x.cells⟩]) ns pb st L w1 from hw1▸HW.out)
 clear HW
 have HW:=HW1
 clear HW1
 have HWE:=qH hw1
 clear hw1
 go_enter Tryz.func116,Tryz.ntmps116
 go_upto_region 1 with fail
 rw [← HWE.out]
 have HC:=qH (pick_any (2:Int) 1 12 w1 HW.out (by omega))
 go_wp2_with fail
 refine HC.out.mono ?_
 rintro e w2 ⟨rfl,h2⟩
 clear HC HW
 have HW:=qH h2
 clear h2
 have hbl:=HW.out.last
 have m3:=cell_of_block (j:=3) hbl rfl
 clear hbl
 have HC:=qH (wid_any x.id w2 HW.out (by omega))
 go_wp2_with fail
 refine HC.out.mono ?_
 rintro e w3 ⟨rfl,h2⟩
 clear HC HW m3
 have HW:=qH h2
 clear h2
 go_wp2_with fail
 go_end0
 exact ⟨rfl,HW.out.drop.le (by omega)⟩
theorem wtold_9 {w0:World} {bs:List Bk} {ns:List Nm} {pb:Nat} {st:WS} {L:Nat} (x:RepV) (w:World) (h:WB w0 bs ns pb st L w) (hx:x.ok w0) (hL:L+3000+513*x.pn≤1099511627776) :
  Calls Tryz.prog 116 #[.pointer (some ⟨pb,0,none⟩),.int .i64 9,.agg #[.int .i64 x.err,.string x.wher,.int .i64 x.at9,.int .i64 x.id,.int .i64 x.out,.bool x.v.s,.slice x.v.a x.v.l x.v.c,.slice x.v.b x.v.m x.v.d,.slice x.pa x.pn x.pc,.bool x.lo.s,.slice x.lo.a x.lo.l x.lo.c,.slice x.lo.b x.lo.m x.lo.d,.bool x.hi.s,.slice x.hi.a x.hi.l x.hi.c,.slice x.hi.b x.hi.m x.hi.d,.bool x.hl,.bool x.hh,.int .i64 x.u0,.int .i64 x.u1,.int .i64 x.u2]] w fun e w'=>e=.returned (.tuple #[])∧WB w0 bs ns pb (lays st (.num 9 1 12::partsA x.rep.ans)) (L+1600+513*x.pn) w':=by
 have HX:=qH hx
 clear hx
 have HW:=qH (h.alloc 123 x.cells)
 clear h
 obtain ⟨w1,hw1⟩:∃ w1,w1=w.alloc (.cells #[.int .i64 x.err,.string x.wher,.int .i64 x.at9,.int .i64 x.id,.int .i64 x.out,.bool x.v.s,.slice x.v.a x.v.l x.v.c,.slice x.v.b x.v.m x.v.d,.slice x.pa x.pn x.pc,.bool x.lo.s,.slice x.lo.a x.lo.l x.lo.c,.slice x.lo.b x.lo.m x.lo.d,.bool x.hi.s,.slice x.hi.a x.hi.l x.hi.c,.slice x.hi.b x.hi.m x.hi.d,.bool x.hl,.bool x.hh,.int .i64 x.u0,.int .i64 x.u1,.int .i64 x.u2] 123):=⟨_,rfl⟩
 have HW1:=qH (show WB w0 (bs++[⟨w.heap.size,123,x.cells⟩]) ns pb st L w1 from hw1▸HW.out)
 clear HW
 have HW:=HW1
 clear HW1
 have HWE:=qH hw1
 clear hw1
 go_enter Tryz.func116,Tryz.ntmps116
 go_upto_region 1 with fail
 rw [← HWE.out]
 have HC:=qH (pick_any (9:Int) 1 12 w1 HW.out (by omega))
 go_wp2_with fail
 refine HC.out.mono ?_
 rintro e w2 ⟨rfl,h2⟩
 clear HC HW
 have HW:=qH h2
 clear h2
 have hbl:=HW.out.last
 have m4:=cell_of_block (j:=4) hbl rfl
 have m5:=cell_of_block (j:=5) hbl rfl
 have m6:=cell_of_block (j:=6) hbl rfl
 have m7:=cell_of_block (j:=7) hbl rfl
 have m8:=cell_of_block (j:=8) hbl rfl
 clear hbl
 have HC:=qH (wans_any x.out x.v x.pa x.pn x.pc x.ps w2 HW.out HX.out.v HX.out.v1 HX.out.v2 HX.out.ps HX.out.ps1 (by omega))
 go_wp2_with fail
 refine HC.out.mono ?_
 rintro e w3 ⟨rfl,h2⟩
 clear HC HW m4 m5 m6 m7 m8
 have HW:=qH h2
 clear h2
 go_wp2_with fail
 go_end0
 exact ⟨rfl,HW.out.drop.le (by omega)⟩
theorem wtold_10 {w0:World} {bs:List Bk} {ns:List Nm} {pb:Nat} {st:WS} {L:Nat} (x:RepV) (w:World) (h:WB w0 bs ns pb st L w) (hx:x.ok w0) (hL:L+3000+513*x.pn≤1099511627776) :
  Calls Tryz.prog 116 #[.pointer (some ⟨pb,0,none⟩),.int .i64 10,.agg #[.int .i64 x.err,.string x.wher,.int .i64 x.at9,.int .i64 x.id,.int .i64 x.out,.bool x.v.s,.slice x.v.a x.v.l x.v.c,.slice x.v.b x.v.m x.v.d,.slice x.pa x.pn x.pc,.bool x.lo.s,.slice x.lo.a x.lo.l x.lo.c,.slice x.lo.b x.lo.m x.lo.d,.bool x.hi.s,.slice x.hi.a x.hi.l x.hi.c,.slice x.hi.b x.hi.m x.hi.d,.bool x.hl,.bool x.hh,.int .i64 x.u0,.int .i64 x.u1,.int .i64 x.u2]] w fun e w'=>e=.returned (.tuple #[])∧WB w0 bs ns pb (lays st (.num 10 1 12::partsG x.rep.rng)) (L+1600+513*x.pn) w':=by
 have HX:=qH hx
 clear hx
 have HW:=qH (h.alloc 123 x.cells)
 clear h
 obtain ⟨w1,hw1⟩:∃ w1,w1=w.alloc (.cells #[.int .i64 x.err,.string x.wher,.int .i64 x.at9,.int .i64 x.id,.int .i64 x.out,.bool x.v.s,.slice x.v.a x.v.l x.v.c,.slice x.v.b x.v.m x.v.d,.slice x.pa x.pn x.pc,.bool x.lo.s,.slice x.lo.a x.lo.l x.lo.c,.slice x.lo.b x.lo.m x.lo.d,.bool x.hi.s,.slice x.hi.a x.hi.l x.hi.c,.slice x.hi.b x.hi.m x.hi.d,.bool x.hl,.bool x.hh,.int .i64 x.u0,.int .i64 x.u1,.int .i64 x.u2] 123):=⟨_,rfl⟩
 have HW1:=qH (show WB w0 (bs++[⟨w.heap.size,123,x.cells⟩]) ns pb st L w1 from hw1▸HW.out)
 clear HW
 have HW:=HW1
 clear HW1
 have HWE:=qH hw1
 clear hw1
 go_enter Tryz.func116,Tryz.ntmps116
 go_upto_region 1 with fail
 rw [← HWE.out]
 have HC:=qH (pick_any (10:Int) 1 12 w1 HW.out (by omega))
 go_wp2_with fail
 refine HC.out.mono ?_
 rintro e w2 ⟨rfl,h2⟩
 clear HC HW
 have HW:=qH h2
 clear h2
 have hbl:=HW.out.last
 have m9:=cell_of_block (j:=9) hbl rfl
 have m10:=cell_of_block (j:=10) hbl rfl
 have m11:=cell_of_block (j:=11) hbl rfl
 have m12:=cell_of_block (j:=12) hbl rfl
 have m13:=cell_of_block (j:=13) hbl rfl
 have m14:=cell_of_block (j:=14) hbl rfl
 have m15:=cell_of_block (j:=15) hbl rfl
 have m16:=cell_of_block (j:=16) hbl rfl
 clear hbl
 have HC:=qH (wrng_any x.hl x.hh x.lo x.hi w2 HW.out HX.out.lo HX.out.lo1 HX.out.lo2 HX.out.hi HX.out.hi1 HX.out.hi2 (by omega))
 go_wp2_with fail
 refine HC.out.mono ?_
 rintro e w3 ⟨rfl,h2⟩
 clear HC HW m9 m10 m11 m12 m13 m14 m15 m16
 have HW:=qH h2
 clear h2
 go_wp2_with fail
 go_end0
 exact ⟨rfl,HW.out.drop.le (by omega)⟩
theorem wtold_11 {w0:World} {bs:List Bk} {ns:List Nm} {pb:Nat} {st:WS} {L:Nat} (x:RepV) (w:World) (h:WB w0 bs ns pb st L w) (hx:x.ok w0) (hL:L+3000+513*x.pn≤1099511627776) :
  Calls Tryz.prog 116 #[.pointer (some ⟨pb,0,none⟩),.int .i64 11,.agg #[.int .i64 x.err,.string x.wher,.int .i64 x.at9,.int .i64 x.id,.int .i64 x.out,.bool x.v.s,.slice x.v.a x.v.l x.v.c,.slice x.v.b x.v.m x.v.d,.slice x.pa x.pn x.pc,.bool x.lo.s,.slice x.lo.a x.lo.l x.lo.c,.slice x.lo.b x.lo.m x.lo.d,.bool x.hi.s,.slice x.hi.a x.hi.l x.hi.c,.slice x.hi.b x.hi.m x.hi.d,.bool x.hl,.bool x.hh,.int .i64 x.u0,.int .i64 x.u1,.int .i64 x.u2]] w fun e w'=>e=.returned (.tuple #[])∧WB w0 bs ns pb (lays st (.num 11 1 12::partsG x.rep.rng)) (L+1600+513*x.pn) w':=by
 have HX:=qH hx
 clear hx
 have HW:=qH (h.alloc 123 x.cells)
 clear h
 obtain ⟨w1,hw1⟩:∃ w1,w1=w.alloc (.cells #[.int .i64 x.err,.string x.wher,.int .i64 x.at9,.int .i64 x.id,.int .i64 x.out,.bool x.v.s,.slice x.v.a x.v.l x.v.c,.slice x.v.b x.v.m x.v.d,.slice x.pa x.pn x.pc,.bool x.lo.s,.slice x.lo.a x.lo.l x.lo.c,.slice x.lo.b x.lo.m x.lo.d,.bool x.hi.s,.slice x.hi.a x.hi.l x.hi.c,.slice x.hi.b x.hi.m x.hi.d,.bool x.hl,.bool x.hh,.int .i64 x.u0,.int .i64 x.u1,.int .i64 x.u2] 123):=⟨_,rfl⟩
 have HW1:=qH (show WB w0 (bs++[⟨w.heap.size,123,x.cells⟩]) ns pb st L w1 from hw1▸HW.out)
 clear HW
 have HW:=HW1
 clear HW1
 have HWE:=qH hw1
 clear hw1
 go_enter Tryz.func116,Tryz.ntmps116
 go_upto_region 1 with fail
 rw [← HWE.out]
 have HC:=qH (pick_any (11:Int) 1 12 w1 HW.out (by omega))
 go_wp2_with fail
 refine HC.out.mono ?_
 rintro e w2 ⟨rfl,h2⟩
 clear HC HW
 have HW:=qH h2
 clear h2
 have hbl:=HW.out.last
 have m9:=cell_of_block (j:=9) hbl rfl
 have m10:=cell_of_block (j:=10) hbl rfl
 have m11:=cell_of_block (j:=11) hbl rfl
 have m12:=cell_of_block (j:=12) hbl rfl
 have m13:=cell_of_block (j:=13) hbl rfl
 have m14:=cell_of_block (j:=14) hbl rfl
 have m15:=cell_of_block (j:=15) hbl rfl
 have m16:=cell_of_block (j:=16) hbl rfl
 clear hbl
 have HC:=qH (wrng_any x.hl x.hh x.lo x.hi w2 HW.out HX.out.lo HX.out.lo1 HX.out.lo2 HX.out.hi HX.out.hi1 HX.out.hi2 (by omega))
 go_wp2_with fail
 refine HC.out.mono ?_
 rintro e w3 ⟨rfl,h2⟩
 clear HC HW m9 m10 m11 m12 m13 m14 m15 m16
 have HW:=qH h2
 clear h2
 go_wp2_with fail
 go_end0
 exact ⟨rfl,HW.out.drop.le (by omega)⟩
theorem wtold_12 {w0:World} {bs:List Bk} {ns:List Nm} {pb:Nat} {st:WS} {L:Nat} (x:RepV) (w:World) (h:WB w0 bs ns pb st L w) (hx:x.ok w0) (hL:L+3000+513*x.pn≤1099511627776) :
  Calls Tryz.prog 116 #[.pointer (some ⟨pb,0,none⟩),.int .i64 12,.agg #[.int .i64 x.err,.string x.wher,.int .i64 x.at9,.int .i64 x.id,.int .i64 x.out,.bool x.v.s,.slice x.v.a x.v.l x.v.c,.slice x.v.b x.v.m x.v.d,.slice x.pa x.pn x.pc,.bool x.lo.s,.slice x.lo.a x.lo.l x.lo.c,.slice x.lo.b x.lo.m x.lo.d,.bool x.hi.s,.slice x.hi.a x.hi.l x.hi.c,.slice x.hi.b x.hi.m x.hi.d,.bool x.hl,.bool x.hh,.int .i64 x.u0,.int .i64 x.u1,.int .i64 x.u2]] w fun e w'=>e=.returned (.tuple #[])∧WB w0 bs ns pb (lays st (.num 12 1 12::[.i64 x.u0,.i64 x.u1,.i64 x.u2])) (L+1600+513*x.pn) w':=by
 have HX:=qH hx
 clear hx
 have HW:=qH (h.alloc 123 x.cells)
 clear h
 obtain ⟨w1,hw1⟩:∃ w1,w1=w.alloc (.cells #[.int .i64 x.err,.string x.wher,.int .i64 x.at9,.int .i64 x.id,.int .i64 x.out,.bool x.v.s,.slice x.v.a x.v.l x.v.c,.slice x.v.b x.v.m x.v.d,.slice x.pa x.pn x.pc,.bool x.lo.s,.slice x.lo.a x.lo.l x.lo.c,.slice x.lo.b x.lo.m x.lo.d,.bool x.hi.s,.slice x.hi.a x.hi.l x.hi.c,.slice x.hi.b x.hi.m x.hi.d,.bool x.hl,.bool x.hh,.int .i64 x.u0,.int .i64 x.u1,.int .i64 x.u2] 123):=⟨_,rfl⟩
 have HW1:=qH (show WB w0 (bs++[⟨w.heap.size,123,x.cells⟩]) ns pb st L w1 from hw1▸HW.out)
 clear HW
 have HW:=HW1
 clear HW1
 have HWE:=qH hw1
 clear hw1
 go_enter Tryz.func116,Tryz.ntmps116
 go_upto_region 1 with fail
 rw [← HWE.out]
 have HC:=qH (pick_any (12:Int) 1 12 w1 HW.out (by omega))
 go_wp2_with fail
 refine HC.out.mono ?_
 rintro e w2 ⟨rfl,h2⟩
 clear HC HW
 have HW:=qH h2
 clear h2
 have hbl:=HW.out.last
 have m17:=cell_of_block (j:=17) hbl rfl
 clear hbl
 have HC:=qH (wint_any x.u0 w2 HW.out (by omega))
 go_wp2_with fail
 refine HC.out.mono ?_
 rintro e w3 ⟨rfl,h2⟩
 clear HC HW m17
 have HW:=qH h2
 clear h2
 have hbl:=HW.out.last
 have m18:=cell_of_block (j:=18) hbl rfl
 clear hbl
 have HC:=qH (wint_any x.u1 w3 HW.out (by omega))
 go_wp2_with fail
 refine HC.out.mono ?_
 rintro e w4 ⟨rfl,h2⟩
 clear HC HW m18
 have HW:=qH h2
 clear h2
 have hbl:=HW.out.last
 have m19:=cell_of_block (j:=19) hbl rfl
 clear hbl
 have HC:=qH (wint_any x.u2 w4 HW.out (by omega))
 go_wp2_with fail
 refine HC.out.mono ?_
 rintro e w5 ⟨rfl,h2⟩
 clear HC HW m19
 have HW:=qH h2
 clear h2
 go_wp2_with fail
 go_end0
 exact ⟨rfl,HW.out.drop.le (by omega)⟩
theorem wtold_else {w0:World} {bs:List Bk} {ns:List Nm} {pb:Nat} {st:WS} {L:Nat} (op:Int) (n1:(op==1)=false) (n2:(op==2)=false) (n9:(op==9)=false) (n10:(op==10)=false) (n11:(op==11)=false) (n12:(op==12)=false) (x:RepV) (w:World) (h:WB w0 bs ns pb st L w) (hx:x.ok w0) (hL:L+3000+513*x.pn≤1099511627776) :
  Calls Tryz.prog 116 #[.pointer (some ⟨pb,0,none⟩),.int .i64 op,.agg #[.int .i64 x.err,.string x.wher,.int .i64 x.at9,.int .i64 x.id,.int .i64 x.out,.bool x.v.s,.slice x.v.a x.v.l x.v.c,.slice x.v.b x.v.m x.v.d,.slice x.pa x.pn x.pc,.bool x.lo.s,.slice x.lo.a x.lo.l x.lo.c,.slice x.lo.b x.lo.m x.lo.d,.bool x.hi.s,.slice x.hi.a x.hi.l x.hi.c,.slice x.hi.b x.hi.m x.hi.d,.bool x.hl,.bool x.hh,.int .i64 x.u0,.int .i64 x.u1,.int .i64 x.u2]] w fun e w'=>e=.returned (.tuple #[])∧WB w0 bs ns pb (lays st (.num op 1 12::[])) (L+1600+513*x.pn) w':=by
 have HX:=qH hx
 clear hx
 have HW:=qH (h.alloc 123 x.cells)
 clear h
 obtain ⟨w1,hw1⟩:∃ w1,w1=w.alloc (.cells #[.int .i64 x.err,.string x.wher,.int .i64 x.at9,.int .i64 x.id,.int .i64 x.out,.bool x.v.s,.slice x.v.a x.v.l x.v.c,.slice x.v.b x.v.m x.v.d,.slice x.pa x.pn x.pc,.bool x.lo.s,.slice x.lo.a x.lo.l x.lo.c,.slice x.lo.b x.lo.m x.lo.d,.bool x.hi.s,.slice x.hi.a x.hi.l x.hi.c,.slice x.hi.b x.hi.m x.hi.d,.bool x.hl,.bool x.hh,.int .i64 x.u0,.int .i64 x.u1,.int .i64 x.u2] 123):=⟨_,rfl⟩
 have HW1:=qH (show WB w0 (bs++[⟨w.heap.size,123,x.cells⟩]) ns pb st L w1 from hw1▸HW.out)
 clear HW
 have HW:=HW1
 clear HW1
 have HWE:=qH hw1
 clear hw1
 go_enter Tryz.func116,Tryz.ntmps116
 go_upto_region 1 with fail
 rw [← HWE.out]
 have HC:=qH (pick_any (op:Int) 1 12 w1 HW.out (by omega))
 go_wp2_with fail
 refine HC.out.mono ?_
 rintro e w2 ⟨rfl,h2⟩
 clear HC HW
 have HW:=qH h2
 clear h2
 go_wp2_with fail
 go_end0
 exact ⟨rfl,HW.out.drop.le (by omega)⟩
theorem wtold_any {w0:World} {bs:List Bk} {ns:List Nm} {pb:Nat} {st:WS} {L:Nat} (op:Int) (x:RepV) (w:World) (h:WB w0 bs ns pb st L w) (hx:x.ok w0) (hL:L+3000+513*x.pn≤1099511627776) :
  Calls Tryz.prog 116 #[.pointer (some ⟨pb,0,none⟩),.int .i64 op,.agg #[.int .i64 x.err,.string x.wher,.int .i64 x.at9,.int .i64 x.id,.int .i64 x.out,.bool x.v.s,.slice x.v.a x.v.l x.v.c,.slice x.v.b x.v.m x.v.d,.slice x.pa x.pn x.pc,.bool x.lo.s,.slice x.lo.a x.lo.l x.lo.c,.slice x.lo.b x.lo.m x.lo.d,.bool x.hi.s,.slice x.hi.a x.hi.l x.hi.c,.slice x.hi.b x.hi.m x.hi.d,.bool x.hl,.bool x.hh,.int .i64 x.u0,.int .i64 x.u1,.int .i64 x.u2]] w fun e w'=>e=.returned (.tuple #[])∧WB w0 bs ns pb (lays st (partsT op x.rep)) (L+1600+513*x.pn) w':=by
 by_cases h1:op=1
 ·
  subst h1;exact wtold_1 x w h hx hL
 by_cases h2:op=2
 ·
  subst h2;exact wtold_2 x w h hx hL
 by_cases h9:op=9
 ·
  subst h9;exact wtold_9 x w h hx hL
 by_cases h10:op=10
 ·
  subst h10;exact wtold_10 x w h hx hL
 by_cases h11:op=11
 ·
  subst h11;exact wtold_11 x w h hx hL
 by_cases h12:op=12
 ·
  subst h12;exact wtold_12 x w h hx hL
 rw [show partsT op x.rep=[.num op 1 12] by unfold partsT;rw [if_neg (by omega),if_neg h9,if_neg (by omega),if_neg h12]]
 exact wtold_else op (beq_eq_false_iff_ne.2 h1) (beq_eq_false_iff_ne.2 h2) (beq_eq_false_iff_ne.2 h9) (beq_eq_false_iff_ne.2 h10) (beq_eq_false_iff_ne.2 h11) (beq_eq_false_iff_ne.2 h12) x w h hx hL
theorem WSt.call {w w':World} {pb:Nat} {o:Option Nat} {ev:Value} {xs:List Nat} {st:WS} (h:WSt w pb o ev xs st) (hb:Below w.heap.size w w'):WSt w' pb o ev xs st:=by
 cases st with
 | ok out=>exact h
 | error x=>exact ErrB.keeps h (Keeps.of_below hb (S:=fun k=>w.heap.size≤k) fun b h1 _=>h1) (fun b h1 _ h2=>by have h2:w.heap.size≤b:=h2;omega) (fun b _ h=>h)
theorem eres_any (vb op:Int) (tq:ByteArray) (x:RepV) (w:World) (hx:x.ok w) (ht:tq.size≤4294967296):Calls Tryz.prog 51 #[.agg #[.int .i64 vb,.int .i64 op,.string tq,.int .i64 x.err,.string x.wher,.int .i64 x.at9,.int .i64 x.id,.int .i64 x.out,.bool x.v.s,.slice x.v.a x.v.l x.v.c,.slice x.v.b x.v.m x.v.d,.slice x.pa x.pn x.pc,.bool x.lo.s,.slice x.lo.a x.lo.l x.lo.c,.slice x.lo.b x.lo.m x.lo.d,.bool x.hi.s,.slice x.hi.a x.hi.l x.hi.c,.slice x.hi.b x.hi.m x.hi.d,.bool x.hl,.bool x.hh,.int .i64 x.u0,.int .i64 x.u1,.int .i64 x.u2]] w (RetM (encX ⟨vb,op,natB tq,x.rep⟩) w):=by
 obtain ⟨i0,hi,hz0,hz1,hz2⟩:=info_parts Tryz.info_bytes
 obtain ⟨y0,h0⟩:∃ y:Nat,x.err / 256 % 256=(y:Int):=⟨(x.err / 256 % 256).toNat,by omega⟩
 obtain ⟨y1,h1⟩:∃ y:Nat,x.err % 256=(y:Int):=⟨(x.err % 256).toNat,by omega⟩
 have e1:=wrap8 h0
 have e2:=wrap8 h1
 obtain ⟨st0,hst0⟩:∃ st0:WS,(if x.err<0∨65535<x.err then .error (270,0) else .ok [])=st0:=⟨_,rfl⟩
 have hmo:lay1 (.ok []) (.two x.err)=more st0 [y0,y1]:=by
  rw [← hst0]
  unfold lay1
  rw [layP_two]
  by_cases hc:x.err<0∨65535<x.err
  ·
   simp only [if_pos hc];rfl
  ·
   simp only [if_neg hc,h0,h1];rfl
 have HMO:=qH hmo
 have HST:=qH hst0
 have HX:=qH hx
 have hb0:BS w [⟨w.heap.size+1,140,[.slice none 0 0,.nilIface]⟩,⟨w.heap.size,125,[.int .i64 vb,.int .i64 op,.string tq,.int .i64 x.err,.string x.wher,.int .i64 x.at9,.int .i64 x.id,.int .i64 x.out,.bool x.v.s,.slice x.v.a x.v.l x.v.c,.slice x.v.b x.v.m x.v.d,.slice x.pa x.pn x.pc,.bool x.lo.s,.slice x.lo.a x.lo.l x.lo.c,.slice x.lo.b x.lo.m x.lo.d,.bool x.hi.s,.slice x.hi.a x.hi.l x.hi.c,.slice x.hi.b x.hi.m x.hi.d,.bool x.hl,.bool x.hh,.int .i64 x.u0,.int .i64 x.u1,.int .i64 x.u2]⟩] [] ((w.alloc (.cells #[.int .i64 vb,.int .i64 op,.string tq,.int .i64 x.err,.string x.wher,.int .i64 x.at9,.int .i64 x.id,.int .i64 x.out,.bool x.v.s,.slice x.v.a x.v.l x.v.c,.slice x.v.b x.v.m x.v.d,.slice x.pa x.pn x.pc,.bool x.lo.s,.slice x.lo.a x.lo.l x.lo.c,.slice x.lo.b x.lo.m x.lo.d,.bool x.hi.s,.slice x.hi.a x.hi.l x.hi.c,.slice x.hi.b x.hi.m x.hi.d,.bool x.hl,.bool x.hh,.int .i64 x.u0,.int .i64 x.u1,.int .i64 x.u2] 125)).alloc (.cells #[.slice none 0 0,.nilIface] 140)) :=
  BS.swap2 (bs:=[]) (((BS.start w).alloc (p:=w.heap.size) rfl 125 [.int .i64 vb,.int .i64 op,.string tq,.int .i64 x.err,.string x.wher,.int .i64 x.at9,.int .i64 x.id,.int .i64 x.out,.bool x.v.s,.slice x.v.a x.v.l x.v.c,.slice x.v.b x.v.m x.v.d,.slice x.pa x.pn x.pc,.bool x.lo.s,.slice x.lo.a x.lo.l x.lo.c,.slice x.lo.b x.lo.m x.lo.d,.bool x.hi.s,.slice x.hi.a x.hi.l x.hi.c,.slice x.hi.b x.hi.m x.hi.d,.bool x.hl,.bool x.hh,.int .i64 x.u0,.int .i64 x.u1,.int .i64 x.u2] rfl).alloc (p:=w.heap.size+1) (by simp) 140 [.slice none 0 0,.nilIface] rfl)
 obtain ⟨wr,hwr⟩:∃ w1,w1=((w.alloc (.cells #[.int .i64 vb,.int .i64 op,.string tq,.int .i64 x.err,.string x.wher,.int .i64 x.at9,.int .i64 x.id,.int .i64 x.out,.bool x.v.s,.slice x.v.a x.v.l x.v.c,.slice x.v.b x.v.m x.v.d,.slice x.pa x.pn x.pc,.bool x.lo.s,.slice x.lo.a x.lo.l x.lo.c,.slice x.lo.b x.lo.m x.lo.d,.bool x.hi.s,.slice x.hi.a x.hi.l x.hi.c,.slice x.hi.b x.hi.m x.hi.d,.bool x.hl,.bool x.hh,.int .i64 x.u0,.int .i64 x.u1,.int .i64 x.u2] 125)).alloc (.cells #[.slice none 0 0,.nilIface] 140)):=⟨_,rfl⟩
 rw [← hwr] at hb0
 obtain ⟨pb,hpb⟩:∃ pb,w.heap.size+1=pb:=⟨_,rfl⟩
 rw [hpb] at hb0
 have HW:=qH (show WB w [⟨w.heap.size,125,[.int .i64 vb,.int .i64 op,.string tq,.int .i64 x.err,.string x.wher,.int .i64 x.at9,.int .i64 x.id,.int .i64 x.out,.bool x.v.s,.slice x.v.a x.v.l x.v.c,.slice x.v.b x.v.m x.v.d,.slice x.pa x.pn x.pc,.bool x.lo.s,.slice x.lo.a x.lo.l x.lo.c,.slice x.lo.b x.lo.m x.lo.d,.bool x.hi.s,.slice x.hi.a x.hi.l x.hi.c,.slice x.hi.b x.hi.m x.hi.d,.bool x.hl,.bool x.hh,.int .i64 x.u0,.int .i64 x.u1,.int .i64 x.u2]⟩] [] pb (.ok []) (0) wr from ⟨none,0,0,[],.nilIface,YB.start hb0,Nat.le_refl _,rfl,rfl⟩)
 have HWE:=qH hwr
 have HPB:=qH hpb
 have hpn:=hx.pn
 have hwh:=hx.wh
 clear hb0 hwr hpb hmo hst0 hx h0 h1
 have hbl:=WB.last (bs:=[]) HW.out
 have m3:=cell_of_block (j:=3) hbl rfl
 clear hbl
 go_enter Tryz.func51,Tryz.ntmps51
 go_upto_region 2 with fail
 rw [← HWE.out]
 (try simp only [HPB.out])
 go_cut [16] (fun v16 wx=>v16=.bool (decide (x.err<0∨65535<x.err))∧wx=wr)
 case first =>
  by_cases hc1:x.err<0
  ·
   go_wp2_with fail
   go_meet
   exact ⟨congrArg Value.bool (decide_eq_true (p:=x.err<0∨65535<x.err) (.inl hc1)).symm,rfl⟩
  ·
   by_cases hc2:65535<x.err
   ·
    go_wp2_with fail
    go_meet
    exact ⟨congrArg Value.bool (decide_eq_true (p:=x.err<0∨65535<x.err) (.inr hc2)).symm,rfl⟩
   ·
    have hc3:x.err≤65535:=by omega
    go_wp2_with fail
    go_meet
    exact ⟨congrArg Value.bool (decide_eq_false (p:=x.err<0∨65535<x.err) (by omega)).symm,rfl⟩
 case rest =>
  obtain ⟨w2,rfl⟩:∃ w2:World,w2=wc:=⟨_,rfl⟩
  obtain ⟨rfl,rfl⟩:=hcut
  obtain ⟨bb,hbb⟩:∃ bb,decide (x.err<0∨65535<x.err)=bb:=⟨_,rfl⟩
  rw [hbb]
  have HC:=qH hbb
  clear hbb
  go_upto_if 16 with fail
  go_cut [] (fun wx=>WB w [⟨w.heap.size,125,[.int .i64 vb,.int .i64 op,.string tq,.int .i64 x.err,.string x.wher,.int .i64 x.at9,.int .i64 x.id,.int .i64 x.out,.bool x.v.s,.slice x.v.a x.v.l x.v.c,.slice x.v.b x.v.m x.v.d,.slice x.pa x.pn x.pc,.bool x.lo.s,.slice x.lo.a x.lo.l x.lo.c,.slice x.lo.b x.lo.m x.lo.d,.bool x.hi.s,.slice x.hi.a x.hi.l x.hi.c,.slice x.hi.b x.hi.m x.hi.d,.bool x.hl,.bool x.hh,.int .i64 x.u0,.int .i64 x.u1,.int .i64 x.u2]⟩] [] pb (st0) (0) wx)
  case first =>
   cases bb with
   | true =>
    have hc9:=of_decide_eq_true HC.out
    obtain ⟨a,n,c,xs,ev,hy,hn,hs⟩:=HW.out
    have HF:=qH (fail_any 270 _ hy hs (by omega))
    unfold eE at HF
    obtain rfl:n=0:=by omega
    have HC9:=qH hc9
    clear hy hs hc9
    go_wp2_with fail
    refine HF.out.mono ?_
    rintro e w2 ⟨ev2,rfl,hy2,hs2⟩
    have HG:=qH (show WB w [⟨w.heap.size,125,[.int .i64 vb,.int .i64 op,.string tq,.int .i64 x.err,.string x.wher,.int .i64 x.at9,.int .i64 x.id,.int .i64 x.out,.bool x.v.s,.slice x.v.a x.v.l x.v.c,.slice x.v.b x.v.m x.v.d,.slice x.pa x.pn x.pc,.bool x.lo.s,.slice x.lo.a x.lo.l x.lo.c,.slice x.lo.b x.lo.m x.lo.d,.bool x.hi.s,.slice x.hi.a x.hi.l x.hi.c,.slice x.hi.b x.hi.m x.hi.d,.bool x.hl,.bool x.hh,.int .i64 x.u0,.int .i64 x.u1,.int .i64 x.u2]⟩] [] pb (st0) (0) w2 from ⟨a,0,c,xs,ev2,hy2,Nat.le_refl _,by rw [← HST.out,if_pos HC9.out];exact hs2⟩)
    clear hy2 hs2 HF
    go_wp2_with fail
    go_meet
    exact HG.out
   | false =>
    have HG:=qH (show WB w [⟨w.heap.size,125,[.int .i64 vb,.int .i64 op,.string tq,.int .i64 x.err,.string x.wher,.int .i64 x.at9,.int .i64 x.id,.int .i64 x.out,.bool x.v.s,.slice x.v.a x.v.l x.v.c,.slice x.v.b x.v.m x.v.d,.slice x.pa x.pn x.pc,.bool x.lo.s,.slice x.lo.a x.lo.l x.lo.c,.slice x.lo.b x.lo.m x.lo.d,.bool x.hi.s,.slice x.hi.a x.hi.l x.hi.c,.slice x.hi.b x.hi.m x.hi.d,.bool x.hl,.bool x.hh,.int .i64 x.u0,.int .i64 x.u1,.int .i64 x.u2]⟩] [] pb (st0) (0) _ from by rw [← HST.out,if_neg (of_decide_eq_false HC.out)];exact HW.out)
    go_wp2_with fail
    go_meet
    exact HG.out
  case rest =>
   obtain ⟨w3,rfl⟩:∃ w3:World,w3=wc:=⟨_,rfl⟩
   replace HW:=qH hcut
   clear hcut m3 HC
   go_upto_region 4 with fail
   go_cut [] (fun wx=>WB w [⟨w.heap.size,125,[.int .i64 vb,.int .i64 op,.string tq,.int .i64 x.err,.string x.wher,.int .i64 x.at9,.int .i64 x.id,.int .i64 x.out,.bool x.v.s,.slice x.v.a x.v.l x.v.c,.slice x.v.b x.v.m x.v.d,.slice x.pa x.pn x.pc,.bool x.lo.s,.slice x.lo.a x.lo.l x.lo.c,.slice x.lo.b x.lo.m x.lo.d,.bool x.hi.s,.slice x.hi.a x.hi.l x.hi.c,.slice x.hi.b x.hi.m x.hi.d,.bool x.hl,.bool x.hh,.int .i64 x.u0,.int .i64 x.u1,.int .i64 x.u2]⟩] [] pb (more st0 [y0,y1]) (2) wx)
   case first =>
    obtain ⟨a,n,c,xs,ev,hy,hn,hs⟩:=HW.out
    have HYD:=qH hy
    have HS:=qH hs
    have HN:=qH hn
    clear hy hs
    replace HYD:=qH (HYD.out.call (Below.refl _ _).drew)
    replace HS:=qH (HS.out.call (Below.refl _ _).drew)
    refine wp_region_held_drew (S:=fun W=>W.cell? ⟨w.heap.size,3,none⟩=some (.int .i64 x.err)) (by kernel_rfl) (HYD.out.st.cell 1 3 rfl rfl) (fun hHeld=>?_)
    generalize w3.drew=wd at HYD HS hHeld ⊢
    refine tm 0 (some 20) ?_
    refine tm 1 (some 21) ?_
    refine tl 2 (some 22) ?_
    refine tm 3 (some 23) ?_
    refine tm 5 (some 25) ?_
    refine tm 6 (some 26) ?_
    refine tl 7 (some 27) ?_
    refine tm 8 (some 28) ?_
    refine tm 9 (some 29) ?_
    refine tm 10 (some 30) ?_
    refine tm 11 (some 31) ?_
    refine tl 12 (some 32) ?_
    refine tm 13 (some 33) ?_
    refine wpAnyH_ready (rs:=[4,14]) (by kernel_rfl) (by simp) ?_
    refine (AllReadyH.cons rfl (fun K hK=>?_) (AllReadyH.cons rfl (fun K hK=>?_) AllReadyH.nil))
    ·
     skip
     have k0:=HYD.out.st.cell 0 0 rfl rfl
     go_simp
     clear k0
     refine hK.out _ _ (HYD.out.st.cell 1 3 rfl rfl) (fun hHeld2=>?_)
     clear hK K hHeld
     rename _=>hHeld
     try simp only [Act.put,stB,stZ,stS]
     refine wpAnyH_ready (rs:=[14]) (by kernel_rfl) (by simp) ?_
     refine (AllReadyH.cons rfl (fun K hK=>?_) AllReadyH.nil)
     go_simp
     have HYA:=qH (show YB w (wBox pb a n c ev::[⟨w.heap.size,125,(.int .i64 vb::.int .i64 op::.string tq::x.cells)⟩]) [] a n c xs (wd.alloc (.cells #[.int .u8 (y0:Nat),.int .u8 (y1:Nat)] 5)) from HYD.out.call (belowBox _ _))
     refine hK.out _ _ (HYA.out.st.cell 1 3 rfl rfl) (fun hHeld2=>?_)
     clear hK K hHeld
     rename _=>hHeld
     try simp only [Act.put,stB,stZ,stS]
     refine wpAnyH_ready (rs:=[15]) (by kernel_rfl) (by simp) ?_
     refine (AllReadyH.cons rfl (fun K hK=>?_) AllReadyH.nil)
     refine step_append_mid (v:=.slice a n c) rfl _ _ 32 32 rfl i0 (.int .u8 0) 1 Tryz.underlying32 hi hz0 hz1 hz2 rfl rfl (HYA.out.mid) _ rfl 2 _ ((Sl.lit _ 5 1 2 [BN y0,BN y1] (by unfold maxLen;omega) rfl).src (P:=Tryz.prog) Tryz.underlying32 (one_BN [y0,y1])) (by unfold maxLen;omega) (by omega) HYA.out.st.bel.size ?_
     intro a4 c4 w4 hmo hgo hbo
     have HP:=qH (show YB w (wBox pb a n c ev::[⟨w.heap.size,125,(.int .i64 vb::.int .i64 op::.string tq::x.cells)⟩]) [] a4 (n+2) c4 (xs++[y0,y1]) w4 from HYD.out.push (W':=w4) (ob:=.cells #[.int .u8 (y0:Nat),.int .u8 (y1:Nat)] 5) (ys:=[y0,y1]) hmo hgo hbo)
     have HG:=qH (show Keeps wd w4 (fun z=>(Value.slice a n c).ownBlock=some z) from grown_keeps (ob:=.cells #[.int .u8 (y0:Nat),.int .u8 (y1:Nat)] 5) hgo)
     have HBO:=qH hbo
     clear hmo hgo hbo
     refine hK.out _ _ (HP.out.st.cell 1 3 rfl rfl) (fun hHeld2=>?_)
     clear hK K hHeld
     rename _=>hHeld
     try simp only [Act.put,stB,stZ,stS]
     refine tl 16 (some 36) ?_
     refine tm 17 (some 37) ?_
     refine wpAnyH_ready (rs:=[18]) (by kernel_rfl) (by simp) ?_
     refine (AllReadyH.cons rfl (fun K hK=>?_) AllReadyH.nil)
     have q4:=HP.out.st.cell 0 0 rfl rfl
     have q5:=HP.out.st.free 0 0 rfl
     go_simp
     clear q4 q5
     refine hK.out _ _ ((HP.out.st.set 0 0 rfl rfl (fun _=>by simp) (.slice a4 (n+2) c4)).cell 1 3 rfl rfl) (fun hHeld2=>?_)
     clear hK K hHeld
     rename _=>hHeld
     try simp only [Act.put,stB,stZ,stS]
     refine wpAnyH_done (by kernel_rfl) ?_ _
     have HFIN:=qH (show WB w [⟨w.heap.size,125,[.int .i64 vb,.int .i64 op,.string tq,.int .i64 x.err,.string x.wher,.int .i64 x.at9,.int .i64 x.id,.int .i64 x.out,.bool x.v.s,.slice x.v.a x.v.l x.v.c,.slice x.v.b x.v.m x.v.d,.slice x.pa x.pn x.pc,.bool x.lo.s,.slice x.lo.a x.lo.l x.lo.c,.slice x.lo.b x.lo.m x.lo.d,.bool x.hi.s,.slice x.hi.a x.hi.l x.hi.c,.slice x.hi.b x.hi.m x.hi.d,.bool x.hl,.bool x.hh,.int .i64 x.u0,.int .i64 x.u1,.int .i64 x.u2]⟩] [] pb (more (st0) [y0,y1]) (2) (w4.setCell ⟨pb,0,none⟩ (.slice a4 (n+2) c4)) from by
      obtain ⟨g1,g2⟩:=YB.stored HYD.out HP.out HG.out
      refine ⟨a4,n+2,c4,xs++[y0,y1],ev,g1,by have:=HN.out;omega,HS.out.push (v:=.slice a n c) (v':=.slice a4 (n+2) c4) g2 fun q hq=>?_⟩
      rcases HBO.out with ho | ho
      ·
       exact .inl (by rw [← ho];exact hq)
      ·
       rw [hq] at ho
       injection ho with ho
       right
       rw [ho]
       simp)
     go_wp2_with fail
     go_meet
     exact HFIN.out
    ·
     skip
     go_simp
     have HYA:=qH (show YB w (wBox pb a n c ev::[⟨w.heap.size,125,(.int .i64 vb::.int .i64 op::.string tq::x.cells)⟩]) [] a n c xs (wd.alloc (.cells #[.int .u8 (y0:Nat),.int .u8 (y1:Nat)] 5)) from HYD.out.call (belowBox _ _))
     refine hK.out _ _ (HYA.out.st.cell 1 3 rfl rfl) (fun hHeld2=>?_)
     clear hK K hHeld
     rename _=>hHeld
     try simp only [Act.put,stB,stZ,stS]
     refine wpAnyH_ready (rs:=[4]) (by kernel_rfl) (by simp) ?_
     refine (AllReadyH.cons rfl (fun K hK=>?_) AllReadyH.nil)
     have k0:=HYA.out.st.cell 0 0 rfl rfl
     go_simp
     clear k0
     refine hK.out _ _ (HYA.out.st.cell 1 3 rfl rfl) (fun hHeld2=>?_)
     clear hK K hHeld
     rename _=>hHeld
     try simp only [Act.put,stB,stZ,stS]
     refine wpAnyH_ready (rs:=[15]) (by kernel_rfl) (by simp) ?_
     refine (AllReadyH.cons rfl (fun K hK=>?_) AllReadyH.nil)
     refine step_append_mid (v:=.slice a n c) rfl _ _ 32 32 rfl i0 (.int .u8 0) 1 Tryz.underlying32 hi hz0 hz1 hz2 rfl rfl (HYA.out.mid) _ rfl 2 _ ((Sl.lit _ 5 1 2 [BN y0,BN y1] (by unfold maxLen;omega) rfl).src (P:=Tryz.prog) Tryz.underlying32 (one_BN [y0,y1])) (by unfold maxLen;omega) (by omega) HYA.out.st.bel.size ?_
     intro a4 c4 w4 hmo hgo hbo
     have HP:=qH (show YB w (wBox pb a n c ev::[⟨w.heap.size,125,(.int .i64 vb::.int .i64 op::.string tq::x.cells)⟩]) [] a4 (n+2) c4 (xs++[y0,y1]) w4 from HYD.out.push (W':=w4) (ob:=.cells #[.int .u8 (y0:Nat),.int .u8 (y1:Nat)] 5) (ys:=[y0,y1]) hmo hgo hbo)
     have HG:=qH (show Keeps wd w4 (fun z=>(Value.slice a n c).ownBlock=some z) from grown_keeps (ob:=.cells #[.int .u8 (y0:Nat),.int .u8 (y1:Nat)] 5) hgo)
     have HBO:=qH hbo
     clear hmo hgo hbo
     refine hK.out _ _ (HP.out.st.cell 1 3 rfl rfl) (fun hHeld2=>?_)
     clear hK K hHeld
     rename _=>hHeld
     try simp only [Act.put,stB,stZ,stS]
     refine tl 16 (some 36) ?_
     refine tm 17 (some 37) ?_
     refine wpAnyH_ready (rs:=[18]) (by kernel_rfl) (by simp) ?_
     refine (AllReadyH.cons rfl (fun K hK=>?_) AllReadyH.nil)
     have q4:=HP.out.st.cell 0 0 rfl rfl
     have q5:=HP.out.st.free 0 0 rfl
     go_simp
     clear q4 q5
     refine hK.out _ _ ((HP.out.st.set 0 0 rfl rfl (fun _=>by simp) (.slice a4 (n+2) c4)).cell 1 3 rfl rfl) (fun hHeld2=>?_)
     clear hK K hHeld
     rename _=>hHeld
     try simp only [Act.put,stB,stZ,stS]
     refine wpAnyH_done (by kernel_rfl) ?_ _
     have HFIN:=qH (show WB w [⟨w.heap.size,125,[.int .i64 vb,.int .i64 op,.string tq,.int .i64 x.err,.string x.wher,.int .i64 x.at9,.int .i64 x.id,.int .i64 x.out,.bool x.v.s,.slice x.v.a x.v.l x.v.c,.slice x.v.b x.v.m x.v.d,.slice x.pa x.pn x.pc,.bool x.lo.s,.slice x.lo.a x.lo.l x.lo.c,.slice x.lo.b x.lo.m x.lo.d,.bool x.hi.s,.slice x.hi.a x.hi.l x.hi.c,.slice x.hi.b x.hi.m x.hi.d,.bool x.hl,.bool x.hh,.int .i64 x.u0,.int .i64 x.u1,.int .i64 x.u2]⟩] [] pb (more (st0) [y0,y1]) (2) (w4.setCell ⟨pb,0,none⟩ (.slice a4 (n+2) c4)) from by
      obtain ⟨g1,g2⟩:=YB.stored HYD.out HP.out HG.out
      refine ⟨a4,n+2,c4,xs++[y0,y1],ev,g1,by have:=HN.out;omega,HS.out.push (v:=.slice a n c) (v':=.slice a4 (n+2) c4) g2 fun q hq=>?_⟩
      rcases HBO.out with ho | ho
      ·
       exact .inl (by rw [← ho];exact hq)
      ·
       rw [hq] at ho
       injection ho with ho
       right
       rw [ho]
       simp)
     go_wp2_with fail
     go_meet
     exact HFIN.out
   case rest =>
    obtain ⟨w4,rfl⟩:∃ w4:World,w4=wc:=⟨_,rfl⟩
    replace HW:=qH hcut
    clear hcut e1 e2
    rw [← HMO.out] at HW
    clear HMO HST
    have hbl:=WB.last (bs:=[]) HW.out
    have m3:=cell_of_block (j:=3) hbl rfl
    clear hbl
    by_cases h0:x.err=0
    ·
     have g0:(x.err != 0)=false:=bne_eq_false_iff_eq.2 h0
     have HEX:=qH (show encX ⟨vb,op,natB tq,x.rep⟩=lays (lay1 (.ok []) (.two x.err)) (partsV ⟨vb,op,natB tq,x.rep⟩) from by unfold encX partsX;rw [if_pos (show x.rep.err=0 from h0)];rfl)
     clear h0
     go_upto_region 12 with fail
     clear m3 g0
     have hbl:=WB.last (bs:=[]) HW.out
     have m0:=cell_of_block (j:=0) hbl rfl
     clear hbl
     have HC:=qH (pick_any vb 1 5 _ HW.out (by omega))
     go_wp2_with fail
     refine HC.out.mono ?_
     rintro e w5 ⟨rfl,h2⟩
     clear HC HW m0
     have HW:=qH h2
     clear h2
     have hbl:=WB.last (bs:=[]) HW.out
     have m0:=cell_of_block (j:=0) hbl rfl
     clear hbl
     go_upto_block 0 with fail
     clear m0
     go_cut [] (fun wx=>WB w [⟨w.heap.size,125,[.int .i64 vb,.int .i64 op,.string tq,.int .i64 x.err,.string x.wher,.int .i64 x.at9,.int .i64 x.id,.int .i64 x.out,.bool x.v.s,.slice x.v.a x.v.l x.v.c,.slice x.v.b x.v.m x.v.d,.slice x.pa x.pn x.pc,.bool x.lo.s,.slice x.lo.a x.lo.l x.lo.c,.slice x.lo.b x.lo.m x.lo.d,.bool x.hi.s,.slice x.hi.a x.hi.l x.hi.c,.slice x.hi.b x.hi.m x.hi.d,.bool x.hl,.bool x.hh,.int .i64 x.u0,.int .i64 x.u1,.int .i64 x.u2]⟩] [] pb (lays (lay1 (.ok []) (.two x.err)) (partsV ⟨vb,op,natB tq,x.rep⟩)) (5000+513*x.pn+tq.size) wx)
     case first =>
      by_cases h1:vb=1
      ·
       subst h1
       have HPV:=qH (show partsV ⟨1,op,natB tq,x.rep⟩=.num 1 1 5::partsT op x.rep from rfl)
       have hbl:=WB.last (bs:=[]) HW.out
       have m1:=cell_of_block (j:=1) hbl rfl
       clear hbl
       have HRG:=qH (range_of (w:=w5) (b:=w.heap.size) (o:=3) (vs:=x.cells) (WB.last (bs:=[]) HW.out) (fun j v hj=>by
        have hj2:j<20:=(List.getElem?_eq_some_iff.1 hj).1
        rw [← hj,List.getElem?_toArray,Nat.add_comm]
        rfl))
       obtain ⟨dP,hdu,hdr⟩:=Option.map_eq_some_iff.1 Tryz.rowP
       have HDU:=qH hdu
       have HDR:=qH hdr
       clear hdu hdr
       have HC:=qH (wtold_any op x w5 HW.out HX.out (by omega))
       go_wp2_with (refine wpList_load_mid rfl 123 _ rfl w.heap.size 3 rfl [.int .i64 x.err,.string x.wher,.int .i64 x.at9,.int .i64 x.id,.int .i64 x.out,.bool x.v.s,.slice x.v.a x.v.l x.v.c,.slice x.v.b x.v.m x.v.d,.slice x.pa x.pn x.pc,.bool x.lo.s,.slice x.lo.a x.lo.l x.lo.c,.slice x.lo.b x.lo.m x.lo.d,.bool x.hi.s,.slice x.hi.a x.hi.l x.hi.c,.slice x.hi.b x.hi.m x.hi.d,.bool x.hl,.bool x.hh,.int .i64 x.u0,.int .i64 x.u1,.int .i64 x.u2] dP HRG.out HDU.out HDR.out Tryz.sizP ?_)
       refine HC.out.mono ?_
       rintro e w6 ⟨rfl,h2⟩
       clear HC HW m1 HRG
       have HW:=qH h2
       clear h2
       go_wp2_with fail
       go_meet
       rw [HPV.out]
       exact HW.out.le (by omega)
      by_cases h2:vb=2
      ·
       subst h2
       have HPV:=qH (show partsV ⟨2,op,natB tq,x.rep⟩=.num 2 1 5::[.idn x.id] from rfl)
       have hbl:=WB.last (bs:=[]) HW.out
       have m6:=cell_of_block (j:=6) hbl rfl
       clear hbl
       have HC:=qH (wid_any x.id w5 HW.out (by omega))
       go_wp2_with fail
       refine HC.out.mono ?_
       rintro e w6 ⟨rfl,h2⟩
       clear HC HW m6
       have HW:=qH h2
       clear h2
       go_wp2_with fail
       go_meet
       rw [HPV.out]
       exact HW.out.le (by omega)
      by_cases h4:vb=4
      ·
       subst h4
       have HPV:=qH (show partsV ⟨4,op,natB tq,x.rep⟩=.num 4 1 5::[.tok (natB tq)] from rfl)
       have hbl:=WB.last (bs:=[]) HW.out
       have m2:=cell_of_block (j:=2) hbl rfl
       clear hbl
       have HC:=qH (wtok_any tq w5 HW.out (by omega) (by omega))
       go_wp2_with fail
       refine HC.out.mono ?_
       rintro e w6 ⟨rfl,h2⟩
       clear HC HW m2
       have HW:=qH h2
       clear h2
       go_wp2_with fail
       go_meet
       rw [HPV.out]
       exact HW.out.le (by omega)
      have g1:(vb==1)=false:=beq_eq_false_iff_ne.2 h1
      have g2:(vb==2)=false:=beq_eq_false_iff_ne.2 h2
      have g4:(vb==4)=false:=beq_eq_false_iff_ne.2 h4
      have HPV:=qH (show partsV ⟨vb,op,natB tq,x.rep⟩=.num vb 1 5::[] from by unfold partsV;rw [if_neg h1,if_neg h2,if_neg h4])
      go_wp2_with fail
      go_meet
      rw [HPV.out]
      exact HW.out.le (by omega)
     case rest =>
      obtain ⟨w7,rfl⟩:∃ w7:World,w7=wc:=⟨_,rfl⟩
      replace HW:=qH hcut
      clear hcut
      obtain ⟨sF,hsf⟩:∃ sF,lays (lay1 (.ok []) (.two x.err)) (partsV ⟨vb,op,natB tq,x.rep⟩)=sF:=⟨_,rfl⟩
      rw [hsf] at HW
      have HSF:=qH hsf
      clear hsf
      obtain ⟨a,n,c,xs,ev,hy,hn,hs⟩:=HW.out
      have k0:=hy.st.cell 0 0 rfl rfl
      have k1:=hy.st.cell 0 1 rfl rfl
      have HY:=qH hy
      clear hy hn HW
      cases sF with
      | ok out =>
       obtain ⟨rfl,rfl⟩:=hs
       obtain ⟨n,rfl⟩:∃ n',n=n':=⟨_,rfl⟩
       go_wp2_with fail
       refine bodyPost_ret (v:=.tuple #[.slice a n c,.nilIface]) (by simp [results,Tryz.results51,go_sem]) rfl ?_
       have hl:=HY.out.len
       subst hl
       rw [HEX.out,HSF.out]
       exact ⟨a,c,rfl,HY.out.mid,HY.out.st.bel⟩
      | error z =>
       have HS:=qH hs
       obtain ⟨eb,u,rfl,_⟩:=hs
       unfold eF at k1
       go_wp2_with fail
       go_quiet (fail)
       go_wp2_with fail
       refine bodyPost_ret (v:=.tuple #[.slice none 0 0,.iface 211 (.pointer (some ⟨eb,0,none⟩))]) (by simp [results,Tryz.results51,go_sem]) rfl ?_
       rw [HEX.out,HSF.out]
       exact ⟨_,rfl,ErrB.keeps HS.out (Keeps.drewN _ _ (fun _=>False)) (fun _ _ _ h=>h) (fun _ _ _=>trivial),(HY.out.st.drewN _).bel⟩
    ·
     have g0:(x.err != 0)=true:=bne_iff_ne.2 h0
     have HEX:=qH (show encX ⟨vb,op,natB tq,x.rep⟩=lays (lay1 (.ok []) (.two x.err)) (partsF x.rep) from by unfold encX partsX;rw [if_neg (show ¬ x.rep.err=0 from h0)];rfl)
     clear h0
     go_upto_region 6 with fail
     clear m3 g0
     have hbl:=WB.last (bs:=[]) HW.out
     have m4:=cell_of_block (j:=4) hbl rfl
     clear hbl
     have HC:=qH (pick_any (x.wher.size:Int) 0 255 _ HW.out (by omega))
     go_wp2_with fail
     refine HC.out.mono ?_
     rintro e w5 ⟨rfl,h2⟩
     clear HC HW m4
     have HW:=qH h2
     clear h2
     go_upto_region 7 with fail
     go_cut [] (fun wx=>WB w [⟨w.heap.size,125,[.int .i64 vb,.int .i64 op,.string tq,.int .i64 x.err,.string x.wher,.int .i64 x.at9,.int .i64 x.id,.int .i64 x.out,.bool x.v.s,.slice x.v.a x.v.l x.v.c,.slice x.v.b x.v.m x.v.d,.slice x.pa x.pn x.pc,.bool x.lo.s,.slice x.lo.a x.lo.l x.lo.c,.slice x.lo.b x.lo.m x.lo.d,.bool x.hi.s,.slice x.hi.a x.hi.l x.hi.c,.slice x.hi.b x.hi.m x.hi.d,.bool x.hl,.bool x.hh,.int .i64 x.u0,.int .i64 x.u1,.int .i64 x.u2]⟩] [] pb (lay1 (lay1 (lay1 (.ok []) (.two x.err)) (.num x.wher.size 0 255)) (.raw (natB x.wher))) (3+x.wher.size) wx)
     case first =>
      obtain ⟨st1,hs1⟩:∃ s1,s1=lay1 (lay1 (.ok []) (.two x.err)) (.num x.wher.size 0 255):=⟨_,rfl⟩
      rw [← hs1] at HW
      have HS1:=qH hs1
      clear hs1
      obtain ⟨a,n,c,xs,ev,hy,hn,hs⟩:=HW.out
      have HYD:=qH hy
      have HS:=qH hs
      have HN:=qH hn
      clear hy hs
      have k0:=HYD.out.st.cell 0 0 rfl rfl
      have m4:=HYD.out.st.cell 1 4 rfl rfl
      have HMJ:=qH (show Mid w5.drew w.heap.size 5 1 (.slice a n c) n (xs.map BN) from HYD.out.mid.drew)
      have HSJ:=qH (src_str x.wher (w:=w5.drew))
      have HWJ:=qH (show w.heap.size≤w5.drew.heap.size from HYD.out.st.bel.size)
      replace HYD:=qH (HYD.out.call (Below.drawn w5 1))
      replace HS:=qH (HS.out.call (Below.drawn w5 1))
      go_region_law ((refine step_append_mid (v:=.slice a n c) (by rfl) _ _ 32 9 (by rfl) i0 (.int .u8 0) 1 Tryz.underlying32 hi hz0 hz1 hz2 rfl (by rfl) HMJ.out _ (by rfl) x.wher.size _ HSJ.out (by unfold maxLen;omega) (by omega) HWJ.out ?_;intro a4 c4 w4 hmo hgo hbo;have HP:=qH (show YB w (wBox pb a n c ev::[⟨w.heap.size,125,[.int .i64 vb,.int .i64 op,.string tq,.int .i64 x.err,.string x.wher,.int .i64 x.at9,.int .i64 x.id,.int .i64 x.out,.bool x.v.s,.slice x.v.a x.v.l x.v.c,.slice x.v.b x.v.m x.v.d,.slice x.pa x.pn x.pc,.bool x.lo.s,.slice x.lo.a x.lo.l x.lo.c,.slice x.lo.b x.lo.m x.lo.d,.bool x.hi.s,.slice x.hi.a x.hi.l x.hi.c,.slice x.hi.b x.hi.m x.hi.d,.bool x.hl,.bool x.hh,.int .i64 x.u0,.int .i64 x.u1,.int .i64 x.u2]⟩]) [] a4 (n+x.wher.size) c4 (xs++natB x.wher) w4 from HYD.out.push0 (ys:=natB x.wher) hmo hgo hbo);have HG:=qH (show Keeps w5.drew w4 (fun z=>(Value.slice a n c).ownBlock=some z) from Keeps.of_grown hgo (S:=fun z=>(Value.slice a n c).ownBlock=some z) fun z hz=>hz);have HBO:=qH hbo;clear hmo hgo hbo;have q4:=HP.out.st.cell 0 0 rfl rfl;have q5:=HP.out.st.free 0 0 rfl))
      all_goals
       clear k0 m4 q4 q5
       have HRAW:=qH (show lay1 st1 (.raw (natB x.wher))=more st1 (natB x.wher) from by cases st1 <;> rfl)
       have HFIN:=qH (show WB w [⟨w.heap.size,125,[.int .i64 vb,.int .i64 op,.string tq,.int .i64 x.err,.string x.wher,.int .i64 x.at9,.int .i64 x.id,.int .i64 x.out,.bool x.v.s,.slice x.v.a x.v.l x.v.c,.slice x.v.b x.v.m x.v.d,.slice x.pa x.pn x.pc,.bool x.lo.s,.slice x.lo.a x.lo.l x.lo.c,.slice x.lo.b x.lo.m x.lo.d,.bool x.hi.s,.slice x.hi.a x.hi.l x.hi.c,.slice x.hi.b x.hi.m x.hi.d,.bool x.hl,.bool x.hh,.int .i64 x.u0,.int .i64 x.u1,.int .i64 x.u2]⟩] [] pb (more (st1) (natB x.wher)) (3+x.wher.size) (w4.setCell ⟨pb,0,none⟩ (.slice a4 (n+x.wher.size) c4)) from by
        obtain ⟨g1,g2⟩:=YB.stored HYD.out HP.out HG.out
        refine ⟨a4,n+x.wher.size,c4,xs++(natB x.wher),ev,g1,by have:=HN.out;omega,HS.out.push (v:=.slice a n c) (v':=.slice a4 (n+x.wher.size) c4) g2 fun q hq=>?_⟩
        rcases HBO.out with ho | ho
        ·
         exact .inl (by rw [← ho];exact hq)
        ·
         rw [hq] at ho
         injection ho with ho
         right
         rw [ho]
         exact Nat.le_refl _)
       go_wp2_with fail
       go_meet
       rw [← HS1.out,HRAW.out]
       exact HFIN.out
     case rest =>
      obtain ⟨w7,rfl⟩:∃ w7:World,w7=wc:=⟨_,rfl⟩
      replace HW:=qH hcut
      clear hcut
      have hbl:=WB.last (bs:=[]) HW.out
      have m5:=cell_of_block (j:=5) hbl rfl
      clear hbl
      have HC:=qH (wint_any x.at9 w7 HW.out (by omega))
      go_wp2_with fail
      refine HC.out.mono ?_
      rintro e w8 ⟨rfl,h2⟩
      clear HC HW m5
      have HW:=qH (show WB w _ _ pb (lays (lay1 (.ok []) (.two x.err)) (partsF x.rep)) _ w8 from by unfold partsF;rw [show (x.rep.wher.length:Int)=x.wher.size from by rw [show x.rep.wher=natB x.wher from rfl,natB_len]];exact h2)
      clear h2
      obtain ⟨sF,hsf⟩:∃ sF,lays (lay1 (.ok []) (.two x.err)) (partsF x.rep)=sF:=⟨_,rfl⟩
      rw [hsf] at HW
      have HSF:=qH hsf
      clear hsf
      obtain ⟨a,n,c,xs,ev,hy,hn,hs⟩:=HW.out
      have k0:=hy.st.cell 0 0 rfl rfl
      have k1:=hy.st.cell 0 1 rfl rfl
      have HY:=qH hy
      clear hy hn HW
      cases sF with
      | ok out =>
       obtain ⟨rfl,rfl⟩:=hs
       obtain ⟨n,rfl⟩:∃ n',n=n':=⟨_,rfl⟩
       go_wp2_with fail
       refine bodyPost_ret (v:=.tuple #[.slice a n c,.nilIface]) (by simp [results,Tryz.results51,go_sem]) rfl ?_
       have hl:=HY.out.len
       subst hl
       rw [HEX.out,HSF.out]
       exact ⟨a,c,rfl,HY.out.mid,HY.out.st.bel⟩
      | error z =>
       have HS:=qH hs
       obtain ⟨eb,u,rfl,_⟩:=hs
       unfold eF at k1
       go_wp2_with fail
       go_quiet (fail)
       go_wp2_with fail
       refine bodyPost_ret (v:=.tuple #[.slice none 0 0,.iface 211 (.pointer (some ⟨eb,0,none⟩))]) (by simp [results,Tryz.results51,go_sem]) rfl ?_
       rw [HEX.out,HSF.out]
       exact ⟨_,rfl,ErrB.keeps HS.out (Keeps.drewN _ _ (fun _=>False)) (fun _ _ _ h=>h) (fun _ _ _=>trivial),(HY.out.st.drewN _).bel⟩
end Go.Proofs.YtmhainidincjhaaGreatDoor
