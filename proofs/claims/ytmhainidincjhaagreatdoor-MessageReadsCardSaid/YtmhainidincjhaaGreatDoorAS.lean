/-
 What the laws stand on, part S: contracts and plain laws of WEnc, WEnc2; the conditions are each law's own.
-/
import Derived.Test.YtmhainidincjhaaGreatDoorAP
import Derived.Deep.QuietTactic
import Derived.BigQuiet
set_option linter.unusedVariables false
set_option linter.unusedSimpArgs false
set_option maxRecDepth 100000
set_option maxHeartbeats 16000000
namespace Go.Proofs.YtmhainidincjhaaGreatDoor
open Go.RowKit Go.Extern.Stop Go.Stop Go.Extern
def RetM (r:WS) (w:World) (e:Ending) (w':World):Prop:=match r with
 | .error x=>∃ v,e=.returned (.tuple #[.slice none 0 0,v])∧ErrB w' (fun _=>True) v x.1 x.2∧Below w.heap.size w w'
 | .ok l=>∃ a c,e=.returned (.tuple #[.slice a l.length c,.nilIface])∧Mid w' w.heap.size 5 1 (.slice a l.length c) l.length (l.map BN)∧Below w.heap.size w w'
theorem menc_1 (ses rig op row col kind:Int) (tk ot:ByteArray) (r:Rv) (ea:Option Addr) (en ec:Nat) (es:List EntV) (w:World) (sF:WS) (HSF:Hid (lays (.ok []) (.num 1 1 5::.tok (natB tk)::.idn ses::partsQ ⟨op,row,col,kind,r.q,es.map EntV.ent⟩)=sF)) (ht:tk.size≤4294967296) (hot:ot.size≤4294967296) (hr:r.ok w) (hq1:lenW r.q.num.natAbs≤1099511627776) (hq2:lenW r.q.den≤1099511627776) (hE:EntsW w ea en ec es) (hen:en≤4294967296) (hec:en≤134217728) :
  Calls Tryz.prog 18 #[.agg #[.int .i64 1,.string tk,.int .i64 ses,.int .i64 rig,.string ot,.int .i64 op,.int .i64 row,.int .i64 col,.int .i64 kind,.bool r.s,.slice r.a r.l r.c,.slice r.b r.m r.d,.slice ea en ec]] w (RetM sF w):=by
 have hb0:BS w [⟨w.heap.size+1,140,[.slice none 0 0,.nilIface]⟩,⟨w.heap.size,50,[.int .i64 1,.string tk,.int .i64 ses,.int .i64 rig,.string ot,.int .i64 op,.int .i64 row,.int .i64 col,.int .i64 kind,.bool r.s,.slice r.a r.l r.c,.slice r.b r.m r.d,.slice ea en ec]⟩] [] ((w.alloc (.cells #[.int .i64 1,.string tk,.int .i64 ses,.int .i64 rig,.string ot,.int .i64 op,.int .i64 row,.int .i64 col,.int .i64 kind,.bool r.s,.slice r.a r.l r.c,.slice r.b r.m r.d,.slice ea en ec] 50)).alloc (.cells #[.slice none 0 0,.nilIface] 140)) :=
  BS.swap2 (bs:=[]) (((BS.start w).alloc (p:=w.heap.size) rfl 50 [.int .i64 1,.string tk,.int .i64 ses,.int .i64 rig,.string ot,.int .i64 op,.int .i64 row,.int .i64 col,.int .i64 kind,.bool r.s,.slice r.a r.l r.c,.slice r.b r.m r.d,.slice ea en ec] rfl).alloc (p:=w.heap.size+1) (by simp) 140 [.slice none 0 0,.nilIface] rfl)
 obtain ⟨w1,hw1⟩:∃ w1,w1=((w.alloc (.cells #[.int .i64 1,.string tk,.int .i64 ses,.int .i64 rig,.string ot,.int .i64 op,.int .i64 row,.int .i64 col,.int .i64 kind,.bool r.s,.slice r.a r.l r.c,.slice r.b r.m r.d,.slice ea en ec] 50)).alloc (.cells #[.slice none 0 0,.nilIface] 140)):=⟨_,rfl⟩
 rw [← hw1] at hb0
 obtain ⟨pb,hpb⟩:∃ pb,w.heap.size+1=pb:=⟨_,rfl⟩
 rw [hpb] at hb0
 have HW:=Lib.hid (show WB w [⟨w.heap.size,50,[.int .i64 1,.string tk,.int .i64 ses,.int .i64 rig,.string ot,.int .i64 op,.int .i64 row,.int .i64 col,.int .i64 kind,.bool r.s,.slice r.a r.l r.c,.slice r.b r.m r.d,.slice ea en ec]⟩] [] pb (.ok []) 0 w1 from ⟨none,0,0,[],.nilIface,YB.start hb0,Nat.le_refl _,rfl,rfl⟩)
 have HWE:=Lib.hid hw1
 have HPB:=Lib.hid hpb
 have HR:=Lib.hid hr
 have HE:=Lib.hid hE
 clear hb0 hw1 hpb hr hE
 have hbl:=WB.last (bs:=[]) HW.out
 have m0:=cell_of_block (j:=0) hbl rfl
 have m1:=cell_of_block (j:=1) hbl rfl
 have m2:=cell_of_block (j:=2) hbl rfl
 have m3:=cell_of_block (j:=3) hbl rfl
 have m4:=cell_of_block (j:=4) hbl rfl
 have m5:=cell_of_block (j:=5) hbl rfl
 have m6:=cell_of_block (j:=6) hbl rfl
 have m7:=cell_of_block (j:=7) hbl rfl
 have m8:=cell_of_block (j:=8) hbl rfl
 have m9:=cell_of_block (j:=9) hbl rfl
 have m10:=cell_of_block (j:=10) hbl rfl
 have m11:=cell_of_block (j:=11) hbl rfl
 have m12:=cell_of_block (j:=12) hbl rfl
 clear hbl
 go_enter Tryz.func18,Tryz.ntmps18
 go_upto_region 2 with fail
 rw [← HWE.out]
 (try simp only [HPB.out])
 have HC:=Lib.hid (pick_any (1:Int) 1 5 w1 HW.out (by omega))
 go_wp2_with fail
 refine HC.out.mono ?_
 rintro e w2 ⟨rfl,h2⟩
 clear HC HW m0 m1 m2 m3 m4 m5 m6 m7 m8 m9 m10 m11 m12
 have HW:=Lib.hid h2
 clear h2
 have hbl:=WB.last (bs:=[]) HW.out
 have m0:=cell_of_block (j:=0) hbl rfl
 have m1:=cell_of_block (j:=1) hbl rfl
 have m2:=cell_of_block (j:=2) hbl rfl
 have m3:=cell_of_block (j:=3) hbl rfl
 have m4:=cell_of_block (j:=4) hbl rfl
 have m5:=cell_of_block (j:=5) hbl rfl
 have m6:=cell_of_block (j:=6) hbl rfl
 have m7:=cell_of_block (j:=7) hbl rfl
 have m8:=cell_of_block (j:=8) hbl rfl
 have m9:=cell_of_block (j:=9) hbl rfl
 have m10:=cell_of_block (j:=10) hbl rfl
 have m11:=cell_of_block (j:=11) hbl rfl
 have m12:=cell_of_block (j:=12) hbl rfl
 clear hbl
 have HC:=Lib.hid (wtok_any tk w2 HW.out (by omega) (by omega))
 go_wp2_with fail
 refine HC.out.mono ?_
 rintro e w3 ⟨rfl,h2⟩
 clear HC HW m0 m1 m2 m3 m4 m5 m6 m7 m8 m9 m10 m11 m12
 have HW:=Lib.hid h2
 clear h2
 have hbl:=WB.last (bs:=[]) HW.out
 have m0:=cell_of_block (j:=0) hbl rfl
 have m1:=cell_of_block (j:=1) hbl rfl
 have m2:=cell_of_block (j:=2) hbl rfl
 have m3:=cell_of_block (j:=3) hbl rfl
 have m4:=cell_of_block (j:=4) hbl rfl
 have m5:=cell_of_block (j:=5) hbl rfl
 have m6:=cell_of_block (j:=6) hbl rfl
 have m7:=cell_of_block (j:=7) hbl rfl
 have m8:=cell_of_block (j:=8) hbl rfl
 have m9:=cell_of_block (j:=9) hbl rfl
 have m10:=cell_of_block (j:=10) hbl rfl
 have m11:=cell_of_block (j:=11) hbl rfl
 have m12:=cell_of_block (j:=12) hbl rfl
 clear hbl
 have HC:=Lib.hid (wid_any ses w3 HW.out (by omega))
 go_wp2_with fail
 refine HC.out.mono ?_
 rintro e w4 ⟨rfl,h2⟩
 clear HC HW m0 m1 m2 m3 m4 m5 m6 m7 m8 m9 m10 m11 m12
 have HW:=Lib.hid h2
 clear h2
 have hbl:=WB.last (bs:=[]) HW.out
 have m0:=cell_of_block (j:=0) hbl rfl
 have m1:=cell_of_block (j:=1) hbl rfl
 have m2:=cell_of_block (j:=2) hbl rfl
 have m3:=cell_of_block (j:=3) hbl rfl
 have m4:=cell_of_block (j:=4) hbl rfl
 have m5:=cell_of_block (j:=5) hbl rfl
 have m6:=cell_of_block (j:=6) hbl rfl
 have m7:=cell_of_block (j:=7) hbl rfl
 have m8:=cell_of_block (j:=8) hbl rfl
 have m9:=cell_of_block (j:=9) hbl rfl
 have m10:=cell_of_block (j:=10) hbl rfl
 have m11:=cell_of_block (j:=11) hbl rfl
 have m12:=cell_of_block (j:=12) hbl rfl
 clear hbl
 have HC:=Lib.hid (wask_any op row col kind r ea en ec es w4 HW.out HR.out hq1 hq2 HE.out (by omega))
 go_wp2_with fail
 refine HC.out.mono ?_
 rintro e w5 ⟨rfl,h2⟩
 clear HC HW m0 m1 m2 m3 m4 m5 m6 m7 m8 m9 m10 m11 m12
 have HW:=Lib.hid h2
 clear h2
 have h9:WB w [⟨w.heap.size,50,[.int .i64 1,.string tk,.int .i64 ses,.int .i64 rig,.string ot,.int .i64 op,.int .i64 row,.int .i64 col,.int .i64 kind,.bool r.s,.slice r.a r.l r.c,.slice r.b r.m r.d,.slice ea en ec]⟩] [] pb (lays (.ok []) (.num 1 1 5::.tok (natB tk)::.idn ses::partsQ ⟨op,row,col,kind,r.q,es.map EntV.ent⟩)) _ w5:=HW.out
 rw [HSF.out] at h9
 obtain ⟨a,n,c,xs,ev,hy,hn,hs⟩:=h9
 have k0:=hy.st.cell 0 0 rfl rfl
 have k1:=hy.st.cell 0 1 rfl rfl
 have HY:=Lib.hid hy
 clear hy hn HW
 cases sF with
 | ok out =>
  obtain ⟨rfl,rfl⟩:=hs
  obtain ⟨n,rfl⟩:∃ n',n=n':=⟨_,rfl⟩
  go_wp2_with fail
  refine bodyPost_ret (v:=.tuple #[.slice a n c,.nilIface]) (by simp [results,Tryz.results18,go_sem]) rfl ?_
  have hl:=HY.out.len
  subst hl
  exact ⟨a,c,rfl,HY.out.mid,HY.out.st.bel⟩
 | error x =>
  have HS:=Lib.hid hs
  obtain ⟨eb,u,rfl,_⟩:=hs
  unfold eF at k1
  go_wp2_with fail
  go_quiet (fail)
  go_wp2_with fail
  refine bodyPost_ret (v:=.tuple #[.slice none 0 0,.iface 211 (.pointer (some ⟨eb,0,none⟩))]) (by simp [results,Tryz.results18,go_sem]) rfl ?_
  exact ⟨_,rfl,ErrB.keeps HS.out (Keeps.drewN _ _ (fun _=>False)) (fun _ _ _ h=>h) (fun _ _ _=>trivial),(HY.out.st.drewN _).bel⟩
theorem menc_3 (ses rig op row col kind:Int) (tk ot:ByteArray) (r:Rv) (ea:Option Addr) (en ec:Nat) (es:List EntV) (w:World) (sF:WS) (HSF:Hid (lays (.ok []) (.num 3 1 5::.tok (natB tk)::.idn ses::[])=sF)) (ht:tk.size≤4294967296) (hot:ot.size≤4294967296) (hr:r.ok w) (hq1:lenW r.q.num.natAbs≤1099511627776) (hq2:lenW r.q.den≤1099511627776) (hE:EntsW w ea en ec es) (hen:en≤4294967296) (hec:en≤134217728) :
  Calls Tryz.prog 18 #[.agg #[.int .i64 3,.string tk,.int .i64 ses,.int .i64 rig,.string ot,.int .i64 op,.int .i64 row,.int .i64 col,.int .i64 kind,.bool r.s,.slice r.a r.l r.c,.slice r.b r.m r.d,.slice ea en ec]] w (RetM sF w):=by
 have hb0:BS w [⟨w.heap.size+1,140,[.slice none 0 0,.nilIface]⟩,⟨w.heap.size,50,[.int .i64 3,.string tk,.int .i64 ses,.int .i64 rig,.string ot,.int .i64 op,.int .i64 row,.int .i64 col,.int .i64 kind,.bool r.s,.slice r.a r.l r.c,.slice r.b r.m r.d,.slice ea en ec]⟩] [] ((w.alloc (.cells #[.int .i64 3,.string tk,.int .i64 ses,.int .i64 rig,.string ot,.int .i64 op,.int .i64 row,.int .i64 col,.int .i64 kind,.bool r.s,.slice r.a r.l r.c,.slice r.b r.m r.d,.slice ea en ec] 50)).alloc (.cells #[.slice none 0 0,.nilIface] 140)) :=
  BS.swap2 (bs:=[]) (((BS.start w).alloc (p:=w.heap.size) rfl 50 [.int .i64 3,.string tk,.int .i64 ses,.int .i64 rig,.string ot,.int .i64 op,.int .i64 row,.int .i64 col,.int .i64 kind,.bool r.s,.slice r.a r.l r.c,.slice r.b r.m r.d,.slice ea en ec] rfl).alloc (p:=w.heap.size+1) (by simp) 140 [.slice none 0 0,.nilIface] rfl)
 obtain ⟨w1,hw1⟩:∃ w1,w1=((w.alloc (.cells #[.int .i64 3,.string tk,.int .i64 ses,.int .i64 rig,.string ot,.int .i64 op,.int .i64 row,.int .i64 col,.int .i64 kind,.bool r.s,.slice r.a r.l r.c,.slice r.b r.m r.d,.slice ea en ec] 50)).alloc (.cells #[.slice none 0 0,.nilIface] 140)):=⟨_,rfl⟩
 rw [← hw1] at hb0
 obtain ⟨pb,hpb⟩:∃ pb,w.heap.size+1=pb:=⟨_,rfl⟩
 rw [hpb] at hb0
 have HW:=Lib.hid (show WB w [⟨w.heap.size,50,[.int .i64 3,.string tk,.int .i64 ses,.int .i64 rig,.string ot,.int .i64 op,.int .i64 row,.int .i64 col,.int .i64 kind,.bool r.s,.slice r.a r.l r.c,.slice r.b r.m r.d,.slice ea en ec]⟩] [] pb (.ok []) 0 w1 from ⟨none,0,0,[],.nilIface,YB.start hb0,Nat.le_refl _,rfl,rfl⟩)
 have HWE:=Lib.hid hw1
 have HPB:=Lib.hid hpb
 have HR:=Lib.hid hr
 have HE:=Lib.hid hE
 clear hb0 hw1 hpb hr hE
 have hbl:=WB.last (bs:=[]) HW.out
 have m0:=cell_of_block (j:=0) hbl rfl
 have m1:=cell_of_block (j:=1) hbl rfl
 have m2:=cell_of_block (j:=2) hbl rfl
 have m3:=cell_of_block (j:=3) hbl rfl
 have m4:=cell_of_block (j:=4) hbl rfl
 have m5:=cell_of_block (j:=5) hbl rfl
 have m6:=cell_of_block (j:=6) hbl rfl
 have m7:=cell_of_block (j:=7) hbl rfl
 have m8:=cell_of_block (j:=8) hbl rfl
 have m9:=cell_of_block (j:=9) hbl rfl
 have m10:=cell_of_block (j:=10) hbl rfl
 have m11:=cell_of_block (j:=11) hbl rfl
 have m12:=cell_of_block (j:=12) hbl rfl
 clear hbl
 go_enter Tryz.func18,Tryz.ntmps18
 go_upto_region 2 with fail
 rw [← HWE.out]
 (try simp only [HPB.out])
 have HC:=Lib.hid (pick_any (3:Int) 1 5 w1 HW.out (by omega))
 go_wp2_with fail
 refine HC.out.mono ?_
 rintro e w2 ⟨rfl,h2⟩
 clear HC HW m0 m1 m2 m3 m4 m5 m6 m7 m8 m9 m10 m11 m12
 have HW:=Lib.hid h2
 clear h2
 have hbl:=WB.last (bs:=[]) HW.out
 have m0:=cell_of_block (j:=0) hbl rfl
 have m1:=cell_of_block (j:=1) hbl rfl
 have m2:=cell_of_block (j:=2) hbl rfl
 have m3:=cell_of_block (j:=3) hbl rfl
 have m4:=cell_of_block (j:=4) hbl rfl
 have m5:=cell_of_block (j:=5) hbl rfl
 have m6:=cell_of_block (j:=6) hbl rfl
 have m7:=cell_of_block (j:=7) hbl rfl
 have m8:=cell_of_block (j:=8) hbl rfl
 have m9:=cell_of_block (j:=9) hbl rfl
 have m10:=cell_of_block (j:=10) hbl rfl
 have m11:=cell_of_block (j:=11) hbl rfl
 have m12:=cell_of_block (j:=12) hbl rfl
 clear hbl
 have HC:=Lib.hid (wtok_any tk w2 HW.out (by omega) (by omega))
 go_wp2_with fail
 refine HC.out.mono ?_
 rintro e w3 ⟨rfl,h2⟩
 clear HC HW m0 m1 m2 m3 m4 m5 m6 m7 m8 m9 m10 m11 m12
 have HW:=Lib.hid h2
 clear h2
 have hbl:=WB.last (bs:=[]) HW.out
 have m0:=cell_of_block (j:=0) hbl rfl
 have m1:=cell_of_block (j:=1) hbl rfl
 have m2:=cell_of_block (j:=2) hbl rfl
 have m3:=cell_of_block (j:=3) hbl rfl
 have m4:=cell_of_block (j:=4) hbl rfl
 have m5:=cell_of_block (j:=5) hbl rfl
 have m6:=cell_of_block (j:=6) hbl rfl
 have m7:=cell_of_block (j:=7) hbl rfl
 have m8:=cell_of_block (j:=8) hbl rfl
 have m9:=cell_of_block (j:=9) hbl rfl
 have m10:=cell_of_block (j:=10) hbl rfl
 have m11:=cell_of_block (j:=11) hbl rfl
 have m12:=cell_of_block (j:=12) hbl rfl
 clear hbl
 have HC:=Lib.hid (wid_any ses w3 HW.out (by omega))
 go_wp2_with fail
 refine HC.out.mono ?_
 rintro e w4 ⟨rfl,h2⟩
 clear HC HW m0 m1 m2 m3 m4 m5 m6 m7 m8 m9 m10 m11 m12
 have HW:=Lib.hid h2
 clear h2
 have h9:WB w [⟨w.heap.size,50,[.int .i64 3,.string tk,.int .i64 ses,.int .i64 rig,.string ot,.int .i64 op,.int .i64 row,.int .i64 col,.int .i64 kind,.bool r.s,.slice r.a r.l r.c,.slice r.b r.m r.d,.slice ea en ec]⟩] [] pb (lays (.ok []) (.num 3 1 5::.tok (natB tk)::.idn ses::[])) _ w4:=HW.out
 rw [HSF.out] at h9
 obtain ⟨a,n,c,xs,ev,hy,hn,hs⟩:=h9
 have k0:=hy.st.cell 0 0 rfl rfl
 have k1:=hy.st.cell 0 1 rfl rfl
 have HY:=Lib.hid hy
 clear hy hn HW
 cases sF with
 | ok out =>
  obtain ⟨rfl,rfl⟩:=hs
  obtain ⟨n,rfl⟩:∃ n',n=n':=⟨_,rfl⟩
  go_wp2_with fail
  refine bodyPost_ret (v:=.tuple #[.slice a n c,.nilIface]) (by simp [results,Tryz.results18,go_sem]) rfl ?_
  have hl:=HY.out.len
  subst hl
  exact ⟨a,c,rfl,HY.out.mid,HY.out.st.bel⟩
 | error x =>
  have HS:=Lib.hid hs
  obtain ⟨eb,u,rfl,_⟩:=hs
  unfold eF at k1
  go_wp2_with fail
  go_quiet (fail)
  go_wp2_with fail
  refine bodyPost_ret (v:=.tuple #[.slice none 0 0,.iface 211 (.pointer (some ⟨eb,0,none⟩))]) (by simp [results,Tryz.results18,go_sem]) rfl ?_
  exact ⟨_,rfl,ErrB.keeps HS.out (Keeps.drewN _ _ (fun _=>False)) (fun _ _ _ h=>h) (fun _ _ _=>trivial),(HY.out.st.drewN _).bel⟩
theorem menc_4 (ses rig op row col kind:Int) (tk ot:ByteArray) (r:Rv) (ea:Option Addr) (en ec:Nat) (es:List EntV) (w:World) (sF:WS) (HSF:Hid (lays (.ok []) (.num 4 1 5::.tok (natB tk)::.num rig 0 255::[])=sF)) (ht:tk.size≤4294967296) (hot:ot.size≤4294967296) (hr:r.ok w) (hq1:lenW r.q.num.natAbs≤1099511627776) (hq2:lenW r.q.den≤1099511627776) (hE:EntsW w ea en ec es) (hen:en≤4294967296) (hec:en≤134217728) :
  Calls Tryz.prog 18 #[.agg #[.int .i64 4,.string tk,.int .i64 ses,.int .i64 rig,.string ot,.int .i64 op,.int .i64 row,.int .i64 col,.int .i64 kind,.bool r.s,.slice r.a r.l r.c,.slice r.b r.m r.d,.slice ea en ec]] w (RetM sF w):=by
 have hb0:BS w [⟨w.heap.size+1,140,[.slice none 0 0,.nilIface]⟩,⟨w.heap.size,50,[.int .i64 4,.string tk,.int .i64 ses,.int .i64 rig,.string ot,.int .i64 op,.int .i64 row,.int .i64 col,.int .i64 kind,.bool r.s,.slice r.a r.l r.c,.slice r.b r.m r.d,.slice ea en ec]⟩] [] ((w.alloc (.cells #[.int .i64 4,.string tk,.int .i64 ses,.int .i64 rig,.string ot,.int .i64 op,.int .i64 row,.int .i64 col,.int .i64 kind,.bool r.s,.slice r.a r.l r.c,.slice r.b r.m r.d,.slice ea en ec] 50)).alloc (.cells #[.slice none 0 0,.nilIface] 140)) :=
  BS.swap2 (bs:=[]) (((BS.start w).alloc (p:=w.heap.size) rfl 50 [.int .i64 4,.string tk,.int .i64 ses,.int .i64 rig,.string ot,.int .i64 op,.int .i64 row,.int .i64 col,.int .i64 kind,.bool r.s,.slice r.a r.l r.c,.slice r.b r.m r.d,.slice ea en ec] rfl).alloc (p:=w.heap.size+1) (by simp) 140 [.slice none 0 0,.nilIface] rfl)
 obtain ⟨w1,hw1⟩:∃ w1,w1=((w.alloc (.cells #[.int .i64 4,.string tk,.int .i64 ses,.int .i64 rig,.string ot,.int .i64 op,.int .i64 row,.int .i64 col,.int .i64 kind,.bool r.s,.slice r.a r.l r.c,.slice r.b r.m r.d,.slice ea en ec] 50)).alloc (.cells #[.slice none 0 0,.nilIface] 140)):=⟨_,rfl⟩
 rw [← hw1] at hb0
 obtain ⟨pb,hpb⟩:∃ pb,w.heap.size+1=pb:=⟨_,rfl⟩
 rw [hpb] at hb0
 have HW:=Lib.hid (show WB w [⟨w.heap.size,50,[.int .i64 4,.string tk,.int .i64 ses,.int .i64 rig,.string ot,.int .i64 op,.int .i64 row,.int .i64 col,.int .i64 kind,.bool r.s,.slice r.a r.l r.c,.slice r.b r.m r.d,.slice ea en ec]⟩] [] pb (.ok []) 0 w1 from ⟨none,0,0,[],.nilIface,YB.start hb0,Nat.le_refl _,rfl,rfl⟩)
 have HWE:=Lib.hid hw1
 have HPB:=Lib.hid hpb
 have HR:=Lib.hid hr
 have HE:=Lib.hid hE
 clear hb0 hw1 hpb hr hE
 have hbl:=WB.last (bs:=[]) HW.out
 have m0:=cell_of_block (j:=0) hbl rfl
 have m1:=cell_of_block (j:=1) hbl rfl
 have m2:=cell_of_block (j:=2) hbl rfl
 have m3:=cell_of_block (j:=3) hbl rfl
 have m4:=cell_of_block (j:=4) hbl rfl
 have m5:=cell_of_block (j:=5) hbl rfl
 have m6:=cell_of_block (j:=6) hbl rfl
 have m7:=cell_of_block (j:=7) hbl rfl
 have m8:=cell_of_block (j:=8) hbl rfl
 have m9:=cell_of_block (j:=9) hbl rfl
 have m10:=cell_of_block (j:=10) hbl rfl
 have m11:=cell_of_block (j:=11) hbl rfl
 have m12:=cell_of_block (j:=12) hbl rfl
 clear hbl
 go_enter Tryz.func18,Tryz.ntmps18
 go_upto_region 2 with fail
 rw [← HWE.out]
 (try simp only [HPB.out])
 have HC:=Lib.hid (pick_any (4:Int) 1 5 w1 HW.out (by omega))
 go_wp2_with fail
 refine HC.out.mono ?_
 rintro e w2 ⟨rfl,h2⟩
 clear HC HW m0 m1 m2 m3 m4 m5 m6 m7 m8 m9 m10 m11 m12
 have HW:=Lib.hid h2
 clear h2
 have hbl:=WB.last (bs:=[]) HW.out
 have m0:=cell_of_block (j:=0) hbl rfl
 have m1:=cell_of_block (j:=1) hbl rfl
 have m2:=cell_of_block (j:=2) hbl rfl
 have m3:=cell_of_block (j:=3) hbl rfl
 have m4:=cell_of_block (j:=4) hbl rfl
 have m5:=cell_of_block (j:=5) hbl rfl
 have m6:=cell_of_block (j:=6) hbl rfl
 have m7:=cell_of_block (j:=7) hbl rfl
 have m8:=cell_of_block (j:=8) hbl rfl
 have m9:=cell_of_block (j:=9) hbl rfl
 have m10:=cell_of_block (j:=10) hbl rfl
 have m11:=cell_of_block (j:=11) hbl rfl
 have m12:=cell_of_block (j:=12) hbl rfl
 clear hbl
 have HC:=Lib.hid (wtok_any tk w2 HW.out (by omega) (by omega))
 go_wp2_with fail
 refine HC.out.mono ?_
 rintro e w3 ⟨rfl,h2⟩
 clear HC HW m0 m1 m2 m3 m4 m5 m6 m7 m8 m9 m10 m11 m12
 have HW:=Lib.hid h2
 clear h2
 have hbl:=WB.last (bs:=[]) HW.out
 have m0:=cell_of_block (j:=0) hbl rfl
 have m1:=cell_of_block (j:=1) hbl rfl
 have m2:=cell_of_block (j:=2) hbl rfl
 have m3:=cell_of_block (j:=3) hbl rfl
 have m4:=cell_of_block (j:=4) hbl rfl
 have m5:=cell_of_block (j:=5) hbl rfl
 have m6:=cell_of_block (j:=6) hbl rfl
 have m7:=cell_of_block (j:=7) hbl rfl
 have m8:=cell_of_block (j:=8) hbl rfl
 have m9:=cell_of_block (j:=9) hbl rfl
 have m10:=cell_of_block (j:=10) hbl rfl
 have m11:=cell_of_block (j:=11) hbl rfl
 have m12:=cell_of_block (j:=12) hbl rfl
 clear hbl
 have HC:=Lib.hid (pick_any (rig:Int) 0 255 w3 HW.out (by omega))
 go_wp2_with fail
 refine HC.out.mono ?_
 rintro e w4 ⟨rfl,h2⟩
 clear HC HW m0 m1 m2 m3 m4 m5 m6 m7 m8 m9 m10 m11 m12
 have HW:=Lib.hid h2
 clear h2
 have h9:WB w [⟨w.heap.size,50,[.int .i64 4,.string tk,.int .i64 ses,.int .i64 rig,.string ot,.int .i64 op,.int .i64 row,.int .i64 col,.int .i64 kind,.bool r.s,.slice r.a r.l r.c,.slice r.b r.m r.d,.slice ea en ec]⟩] [] pb (lays (.ok []) (.num 4 1 5::.tok (natB tk)::.num rig 0 255::[])) _ w4:=HW.out
 rw [HSF.out] at h9
 obtain ⟨a,n,c,xs,ev,hy,hn,hs⟩:=h9
 have k0:=hy.st.cell 0 0 rfl rfl
 have k1:=hy.st.cell 0 1 rfl rfl
 have HY:=Lib.hid hy
 clear hy hn HW
 cases sF with
 | ok out =>
  obtain ⟨rfl,rfl⟩:=hs
  obtain ⟨n,rfl⟩:∃ n',n=n':=⟨_,rfl⟩
  go_wp2_with fail
  refine bodyPost_ret (v:=.tuple #[.slice a n c,.nilIface]) (by simp [results,Tryz.results18,go_sem]) rfl ?_
  have hl:=HY.out.len
  subst hl
  exact ⟨a,c,rfl,HY.out.mid,HY.out.st.bel⟩
 | error x =>
  have HS:=Lib.hid hs
  obtain ⟨eb,u,rfl,_⟩:=hs
  unfold eF at k1
  go_wp2_with fail
  go_quiet (fail)
  go_wp2_with fail
  refine bodyPost_ret (v:=.tuple #[.slice none 0 0,.iface 211 (.pointer (some ⟨eb,0,none⟩))]) (by simp [results,Tryz.results18,go_sem]) rfl ?_
  exact ⟨_,rfl,ErrB.keeps HS.out (Keeps.drewN _ _ (fun _=>False)) (fun _ _ _ h=>h) (fun _ _ _=>trivial),(HY.out.st.drewN _).bel⟩
theorem menc_5 (ses rig op row col kind:Int) (tk ot:ByteArray) (r:Rv) (ea:Option Addr) (en ec:Nat) (es:List EntV) (w:World) (sF:WS) (HSF:Hid (lays (.ok []) (.num 5 1 5::.tok (natB tk)::.tok (natB ot)::[])=sF)) (ht:tk.size≤4294967296) (hot:ot.size≤4294967296) (hr:r.ok w) (hq1:lenW r.q.num.natAbs≤1099511627776) (hq2:lenW r.q.den≤1099511627776) (hE:EntsW w ea en ec es) (hen:en≤4294967296) (hec:en≤134217728) :
  Calls Tryz.prog 18 #[.agg #[.int .i64 5,.string tk,.int .i64 ses,.int .i64 rig,.string ot,.int .i64 op,.int .i64 row,.int .i64 col,.int .i64 kind,.bool r.s,.slice r.a r.l r.c,.slice r.b r.m r.d,.slice ea en ec]] w (RetM sF w):=by
 have hb0:BS w [⟨w.heap.size+1,140,[.slice none 0 0,.nilIface]⟩,⟨w.heap.size,50,[.int .i64 5,.string tk,.int .i64 ses,.int .i64 rig,.string ot,.int .i64 op,.int .i64 row,.int .i64 col,.int .i64 kind,.bool r.s,.slice r.a r.l r.c,.slice r.b r.m r.d,.slice ea en ec]⟩] [] ((w.alloc (.cells #[.int .i64 5,.string tk,.int .i64 ses,.int .i64 rig,.string ot,.int .i64 op,.int .i64 row,.int .i64 col,.int .i64 kind,.bool r.s,.slice r.a r.l r.c,.slice r.b r.m r.d,.slice ea en ec] 50)).alloc (.cells #[.slice none 0 0,.nilIface] 140)) :=
  BS.swap2 (bs:=[]) (((BS.start w).alloc (p:=w.heap.size) rfl 50 [.int .i64 5,.string tk,.int .i64 ses,.int .i64 rig,.string ot,.int .i64 op,.int .i64 row,.int .i64 col,.int .i64 kind,.bool r.s,.slice r.a r.l r.c,.slice r.b r.m r.d,.slice ea en ec] rfl).alloc (p:=w.heap.size+1) (by simp) 140 [.slice none 0 0,.nilIface] rfl)
 obtain ⟨w1,hw1⟩:∃ w1,w1=((w.alloc (.cells #[.int .i64 5,.string tk,.int .i64 ses,.int .i64 rig,.string ot,.int .i64 op,.int .i64 row,.int .i64 col,.int .i64 kind,.bool r.s,.slice r.a r.l r.c,.slice r.b r.m r.d,.slice ea en ec] 50)).alloc (.cells #[.slice none 0 0,.nilIface] 140)):=⟨_,rfl⟩
 rw [← hw1] at hb0
 obtain ⟨pb,hpb⟩:∃ pb,w.heap.size+1=pb:=⟨_,rfl⟩
 rw [hpb] at hb0
 have HW:=Lib.hid (show WB w [⟨w.heap.size,50,[.int .i64 5,.string tk,.int .i64 ses,.int .i64 rig,.string ot,.int .i64 op,.int .i64 row,.int .i64 col,.int .i64 kind,.bool r.s,.slice r.a r.l r.c,.slice r.b r.m r.d,.slice ea en ec]⟩] [] pb (.ok []) 0 w1 from ⟨none,0,0,[],.nilIface,YB.start hb0,Nat.le_refl _,rfl,rfl⟩)
 have HWE:=Lib.hid hw1
 have HPB:=Lib.hid hpb
 have HR:=Lib.hid hr
 have HE:=Lib.hid hE
 clear hb0 hw1 hpb hr hE
 have hbl:=WB.last (bs:=[]) HW.out
 have m0:=cell_of_block (j:=0) hbl rfl
 have m1:=cell_of_block (j:=1) hbl rfl
 have m2:=cell_of_block (j:=2) hbl rfl
 have m3:=cell_of_block (j:=3) hbl rfl
 have m4:=cell_of_block (j:=4) hbl rfl
 have m5:=cell_of_block (j:=5) hbl rfl
 have m6:=cell_of_block (j:=6) hbl rfl
 have m7:=cell_of_block (j:=7) hbl rfl
 have m8:=cell_of_block (j:=8) hbl rfl
 have m9:=cell_of_block (j:=9) hbl rfl
 have m10:=cell_of_block (j:=10) hbl rfl
 have m11:=cell_of_block (j:=11) hbl rfl
 have m12:=cell_of_block (j:=12) hbl rfl
 clear hbl
 go_enter Tryz.func18,Tryz.ntmps18
 go_upto_region 2 with fail
 rw [← HWE.out]
 (try simp only [HPB.out])
 have HC:=Lib.hid (pick_any (5:Int) 1 5 w1 HW.out (by omega))
 go_wp2_with fail
 refine HC.out.mono ?_
 rintro e w2 ⟨rfl,h2⟩
 clear HC HW m0 m1 m2 m3 m4 m5 m6 m7 m8 m9 m10 m11 m12
 have HW:=Lib.hid h2
 clear h2
 have hbl:=WB.last (bs:=[]) HW.out
 have m0:=cell_of_block (j:=0) hbl rfl
 have m1:=cell_of_block (j:=1) hbl rfl
 have m2:=cell_of_block (j:=2) hbl rfl
 have m3:=cell_of_block (j:=3) hbl rfl
 have m4:=cell_of_block (j:=4) hbl rfl
 have m5:=cell_of_block (j:=5) hbl rfl
 have m6:=cell_of_block (j:=6) hbl rfl
 have m7:=cell_of_block (j:=7) hbl rfl
 have m8:=cell_of_block (j:=8) hbl rfl
 have m9:=cell_of_block (j:=9) hbl rfl
 have m10:=cell_of_block (j:=10) hbl rfl
 have m11:=cell_of_block (j:=11) hbl rfl
 have m12:=cell_of_block (j:=12) hbl rfl
 clear hbl
 have HC:=Lib.hid (wtok_any tk w2 HW.out (by omega) (by omega))
 go_wp2_with fail
 refine HC.out.mono ?_
 rintro e w3 ⟨rfl,h2⟩
 clear HC HW m0 m1 m2 m3 m4 m5 m6 m7 m8 m9 m10 m11 m12
 have HW:=Lib.hid h2
 clear h2
 have hbl:=WB.last (bs:=[]) HW.out
 have m0:=cell_of_block (j:=0) hbl rfl
 have m1:=cell_of_block (j:=1) hbl rfl
 have m2:=cell_of_block (j:=2) hbl rfl
 have m3:=cell_of_block (j:=3) hbl rfl
 have m4:=cell_of_block (j:=4) hbl rfl
 have m5:=cell_of_block (j:=5) hbl rfl
 have m6:=cell_of_block (j:=6) hbl rfl
 have m7:=cell_of_block (j:=7) hbl rfl
 have m8:=cell_of_block (j:=8) hbl rfl
 have m9:=cell_of_block (j:=9) hbl rfl
 have m10:=cell_of_block (j:=10) hbl rfl
 have m11:=cell_of_block (j:=11) hbl rfl
 have m12:=cell_of_block (j:=12) hbl rfl
 clear hbl
 have HC:=Lib.hid (wtok_any ot w3 HW.out (by omega) (by omega))
 go_wp2_with fail
 refine HC.out.mono ?_
 rintro e w4 ⟨rfl,h2⟩
 clear HC HW m0 m1 m2 m3 m4 m5 m6 m7 m8 m9 m10 m11 m12
 have HW:=Lib.hid h2
 clear h2
 have h9:WB w [⟨w.heap.size,50,[.int .i64 5,.string tk,.int .i64 ses,.int .i64 rig,.string ot,.int .i64 op,.int .i64 row,.int .i64 col,.int .i64 kind,.bool r.s,.slice r.a r.l r.c,.slice r.b r.m r.d,.slice ea en ec]⟩] [] pb (lays (.ok []) (.num 5 1 5::.tok (natB tk)::.tok (natB ot)::[])) _ w4:=HW.out
 rw [HSF.out] at h9
 obtain ⟨a,n,c,xs,ev,hy,hn,hs⟩:=h9
 have k0:=hy.st.cell 0 0 rfl rfl
 have k1:=hy.st.cell 0 1 rfl rfl
 have HY:=Lib.hid hy
 clear hy hn HW
 cases sF with
 | ok out =>
  obtain ⟨rfl,rfl⟩:=hs
  obtain ⟨n,rfl⟩:∃ n',n=n':=⟨_,rfl⟩
  go_wp2_with fail
  refine bodyPost_ret (v:=.tuple #[.slice a n c,.nilIface]) (by simp [results,Tryz.results18,go_sem]) rfl ?_
  have hl:=HY.out.len
  subst hl
  exact ⟨a,c,rfl,HY.out.mid,HY.out.st.bel⟩
 | error x =>
  have HS:=Lib.hid hs
  obtain ⟨eb,u,rfl,_⟩:=hs
  unfold eF at k1
  go_wp2_with fail
  go_quiet (fail)
  go_wp2_with fail
  refine bodyPost_ret (v:=.tuple #[.slice none 0 0,.iface 211 (.pointer (some ⟨eb,0,none⟩))]) (by simp [results,Tryz.results18,go_sem]) rfl ?_
  exact ⟨_,rfl,ErrB.keeps HS.out (Keeps.drewN _ _ (fun _=>False)) (fun _ _ _ h=>h) (fun _ _ _=>trivial),(HY.out.st.drewN _).bel⟩
theorem menc_else (verb:Int) (n1:(verb==1)=false) (n3:(verb==3)=false) (n4:(verb==4)=false) (n5:(verb==5)=false) (ses rig op row col kind:Int) (tk ot:ByteArray) (r:Rv) (ea:Option Addr) (en ec:Nat) (es:List EntV) (w:World) (sF:WS) (HSF:Hid (lays (.ok []) (.num verb 1 5::.tok (natB tk)::[])=sF)) (ht:tk.size≤4294967296) (hot:ot.size≤4294967296) (hr:r.ok w) (hq1:lenW r.q.num.natAbs≤1099511627776) (hq2:lenW r.q.den≤1099511627776) (hE:EntsW w ea en ec es) (hen:en≤4294967296) (hec:en≤134217728) :
  Calls Tryz.prog 18 #[.agg #[.int .i64 verb,.string tk,.int .i64 ses,.int .i64 rig,.string ot,.int .i64 op,.int .i64 row,.int .i64 col,.int .i64 kind,.bool r.s,.slice r.a r.l r.c,.slice r.b r.m r.d,.slice ea en ec]] w (RetM sF w):=by
 have hb0:BS w [⟨w.heap.size+1,140,[.slice none 0 0,.nilIface]⟩,⟨w.heap.size,50,[.int .i64 verb,.string tk,.int .i64 ses,.int .i64 rig,.string ot,.int .i64 op,.int .i64 row,.int .i64 col,.int .i64 kind,.bool r.s,.slice r.a r.l r.c,.slice r.b r.m r.d,.slice ea en ec]⟩] [] ((w.alloc (.cells #[.int .i64 verb,.string tk,.int .i64 ses,.int .i64 rig,.string ot,.int .i64 op,.int .i64 row,.int .i64 col,.int .i64 kind,.bool r.s,.slice r.a r.l r.c,.slice r.b r.m r.d,.slice ea en ec] 50)).alloc (.cells #[.slice none 0 0,.nilIface] 140)) :=
  BS.swap2 (bs:=[]) (((BS.start w).alloc (p:=w.heap.size) rfl 50 [.int .i64 verb,.string tk,.int .i64 ses,.int .i64 rig,.string ot,.int .i64 op,.int .i64 row,.int .i64 col,.int .i64 kind,.bool r.s,.slice r.a r.l r.c,.slice r.b r.m r.d,.slice ea en ec] rfl).alloc (p:=w.heap.size+1) (by simp) 140 [.slice none 0 0,.nilIface] rfl)
 obtain ⟨w1,hw1⟩:∃ w1,w1=((w.alloc (.cells #[.int .i64 verb,.string tk,.int .i64 ses,.int .i64 rig,.string ot,.int .i64 op,.int .i64 row,.int .i64 col,.int .i64 kind,.bool r.s,.slice r.a r.l r.c,.slice r.b r.m r.d,.slice ea en ec] 50)).alloc (.cells #[.slice none 0 0,.nilIface] 140)):=⟨_,rfl⟩
 rw [← hw1] at hb0
 obtain ⟨pb,hpb⟩:∃ pb,w.heap.size+1=pb:=⟨_,rfl⟩
 rw [hpb] at hb0
 have HW:=Lib.hid (show WB w [⟨w.heap.size,50,[.int .i64 verb,.string tk,.int .i64 ses,.int .i64 rig,.string ot,.int .i64 op,.int .i64 row,.int .i64 col,.int .i64 kind,.bool r.s,.slice r.a r.l r.c,.slice r.b r.m r.d,.slice ea en ec]⟩] [] pb (.ok []) 0 w1 from ⟨none,0,0,[],.nilIface,YB.start hb0,Nat.le_refl _,rfl,rfl⟩)
 have HWE:=Lib.hid hw1
 have HPB:=Lib.hid hpb
 have HR:=Lib.hid hr
 have HE:=Lib.hid hE
 clear hb0 hw1 hpb hr hE
 have hbl:=WB.last (bs:=[]) HW.out
 have m0:=cell_of_block (j:=0) hbl rfl
 have m1:=cell_of_block (j:=1) hbl rfl
 have m2:=cell_of_block (j:=2) hbl rfl
 have m3:=cell_of_block (j:=3) hbl rfl
 have m4:=cell_of_block (j:=4) hbl rfl
 have m5:=cell_of_block (j:=5) hbl rfl
 have m6:=cell_of_block (j:=6) hbl rfl
 have m7:=cell_of_block (j:=7) hbl rfl
 have m8:=cell_of_block (j:=8) hbl rfl
 have m9:=cell_of_block (j:=9) hbl rfl
 have m10:=cell_of_block (j:=10) hbl rfl
 have m11:=cell_of_block (j:=11) hbl rfl
 have m12:=cell_of_block (j:=12) hbl rfl
 clear hbl
 go_enter Tryz.func18,Tryz.ntmps18
 go_upto_region 2 with fail
 rw [← HWE.out]
 (try simp only [HPB.out])
 have HC:=Lib.hid (pick_any (verb:Int) 1 5 w1 HW.out (by omega))
 go_wp2_with fail
 refine HC.out.mono ?_
 rintro e w2 ⟨rfl,h2⟩
 clear HC HW m0 m1 m2 m3 m4 m5 m6 m7 m8 m9 m10 m11 m12
 have HW:=Lib.hid h2
 clear h2
 have hbl:=WB.last (bs:=[]) HW.out
 have m0:=cell_of_block (j:=0) hbl rfl
 have m1:=cell_of_block (j:=1) hbl rfl
 have m2:=cell_of_block (j:=2) hbl rfl
 have m3:=cell_of_block (j:=3) hbl rfl
 have m4:=cell_of_block (j:=4) hbl rfl
 have m5:=cell_of_block (j:=5) hbl rfl
 have m6:=cell_of_block (j:=6) hbl rfl
 have m7:=cell_of_block (j:=7) hbl rfl
 have m8:=cell_of_block (j:=8) hbl rfl
 have m9:=cell_of_block (j:=9) hbl rfl
 have m10:=cell_of_block (j:=10) hbl rfl
 have m11:=cell_of_block (j:=11) hbl rfl
 have m12:=cell_of_block (j:=12) hbl rfl
 clear hbl
 have HC:=Lib.hid (wtok_any tk w2 HW.out (by omega) (by omega))
 go_wp2_with fail
 refine HC.out.mono ?_
 rintro e w3 ⟨rfl,h2⟩
 clear HC HW m0 m1 m2 m3 m4 m5 m6 m7 m8 m9 m10 m11 m12
 have HW:=Lib.hid h2
 clear h2
 have hbl:=WB.last (bs:=[]) HW.out
 have m0:=cell_of_block (j:=0) hbl rfl
 have m1:=cell_of_block (j:=1) hbl rfl
 have m2:=cell_of_block (j:=2) hbl rfl
 have m3:=cell_of_block (j:=3) hbl rfl
 have m4:=cell_of_block (j:=4) hbl rfl
 have m5:=cell_of_block (j:=5) hbl rfl
 have m6:=cell_of_block (j:=6) hbl rfl
 have m7:=cell_of_block (j:=7) hbl rfl
 have m8:=cell_of_block (j:=8) hbl rfl
 have m9:=cell_of_block (j:=9) hbl rfl
 have m10:=cell_of_block (j:=10) hbl rfl
 have m11:=cell_of_block (j:=11) hbl rfl
 have m12:=cell_of_block (j:=12) hbl rfl
 clear hbl
 have h9:WB w [⟨w.heap.size,50,[.int .i64 verb,.string tk,.int .i64 ses,.int .i64 rig,.string ot,.int .i64 op,.int .i64 row,.int .i64 col,.int .i64 kind,.bool r.s,.slice r.a r.l r.c,.slice r.b r.m r.d,.slice ea en ec]⟩] [] pb (lays (.ok []) (.num verb 1 5::.tok (natB tk)::[])) _ w3:=HW.out
 rw [HSF.out] at h9
 obtain ⟨a,n,c,xs,ev,hy,hn,hs⟩:=h9
 have k0:=hy.st.cell 0 0 rfl rfl
 have k1:=hy.st.cell 0 1 rfl rfl
 have HY:=Lib.hid hy
 clear hy hn HW
 cases sF with
 | ok out =>
  obtain ⟨rfl,rfl⟩:=hs
  obtain ⟨n,rfl⟩:∃ n',n=n':=⟨_,rfl⟩
  go_wp2_with fail
  refine bodyPost_ret (v:=.tuple #[.slice a n c,.nilIface]) (by simp [results,Tryz.results18,go_sem]) rfl ?_
  have hl:=HY.out.len
  subst hl
  exact ⟨a,c,rfl,HY.out.mid,HY.out.st.bel⟩
 | error x =>
  have HS:=Lib.hid hs
  obtain ⟨eb,u,rfl,_⟩:=hs
  unfold eF at k1
  go_wp2_with fail
  go_quiet (fail)
  go_wp2_with fail
  refine bodyPost_ret (v:=.tuple #[.slice none 0 0,.iface 211 (.pointer (some ⟨eb,0,none⟩))]) (by simp [results,Tryz.results18,go_sem]) rfl ?_
  exact ⟨_,rfl,ErrB.keeps HS.out (Keeps.drewN _ _ (fun _=>False)) (fun _ _ _ h=>h) (fun _ _ _=>trivial),(HY.out.st.drewN _).bel⟩
structure MsgV where
 verb:Int
 tk:ByteArray
 ses:Int
 rig:Int
 ot:ByteArray
 op:Int
 row:Int
 col:Int
 kind:Int
 r:Rv
 ea:Option Addr
 en:Nat
 ec:Nat
 es:List EntV
def MsgV.cells (x:MsgV):List Value:=[.int .i64 x.verb,.string x.tk,.int .i64 x.ses,.int .i64 x.rig,.string x.ot,.int .i64 x.op,.int .i64 x.row,.int .i64 x.col,.int .i64 x.kind,.bool x.r.s,.slice x.r.a x.r.l x.r.c,.slice x.r.b x.r.m x.r.d,.slice x.ea x.en x.ec]
def MsgV.val (x:MsgV):Value:=.agg #[.int .i64 x.verb,.string x.tk,.int .i64 x.ses,.int .i64 x.rig,.string x.ot,.int .i64 x.op,.int .i64 x.row,.int .i64 x.col,.int .i64 x.kind,.bool x.r.s,.slice x.r.a x.r.l x.r.c,.slice x.r.b x.r.m x.r.d,.slice x.ea x.en x.ec]
def MsgV.msg (x:MsgV):Msg:=⟨x.verb,natB x.tk,x.ses,x.rig,natB x.ot,⟨x.op,x.row,x.col,x.kind,x.r.q,x.es.map EntV.ent⟩⟩
structure MsgV.ok (w:World) (x:MsgV):Prop where
 tk:x.tk.size≤4294967296
 ot:x.ot.size≤4294967296
 r:x.r.ok w
 q1:lenW x.r.q.num.natAbs≤1099511627776
 q2:lenW x.r.q.den≤1099511627776
 es:EntsW w x.ea x.en x.ec x.es
 en:x.en≤134217728
theorem MsgV.ok.below {w w':World} {x:MsgV} (h:x.ok w) (hb:Below w.heap.size w w'):x.ok w':=⟨h.tk,h.ot,h.r.below hb,h.q1,h.q2,h.es.below hb,h.en⟩
theorem menc_any (x:MsgV) (w:World) (h:x.ok w):Calls Tryz.prog 18 #[x.val] w (RetM (encM x.msg) w):=by
 unfold MsgV.val
 have hE:encM x.msg=lays (.ok []) (partsM x.msg):=rfl
 rw [hE]
 by_cases h1:x.verb=1
 ·
  have HE:lays (.ok []) (.num 1 1 5::.tok (natB x.tk)::.idn x.ses::partsQ ⟨x.op,x.row,x.col,x.kind,x.r.q,x.es.map EntV.ent⟩)=lays (.ok []) (partsM x.msg):=by
   unfold partsM MsgV.msg;simp only [if_pos h1];rw [h1]
  rw [h1]
  exact menc_1 x.ses x.rig x.op x.row x.col x.kind x.tk x.ot x.r x.ea x.en x.ec x.es w _ (Lib.hid HE) h.tk h.ot h.r h.q1 h.q2 h.es (by have:=h.en;omega) h.en
 by_cases h3:x.verb=3
 ·
  have HE:lays (.ok []) (.num 3 1 5::.tok (natB x.tk)::.idn x.ses::[])=lays (.ok []) (partsM x.msg):=by
   unfold partsM MsgV.msg;simp only [if_neg h1,if_pos h3];rw [h3]
  rw [h3]
  exact menc_3 x.ses x.rig x.op x.row x.col x.kind x.tk x.ot x.r x.ea x.en x.ec x.es w _ (Lib.hid HE) h.tk h.ot h.r h.q1 h.q2 h.es (by have:=h.en;omega) h.en
 by_cases h4:x.verb=4
 ·
  have HE:lays (.ok []) (.num 4 1 5::.tok (natB x.tk)::.num x.rig 0 255::[])=lays (.ok []) (partsM x.msg):=by
   unfold partsM MsgV.msg;simp only [if_neg h1,if_neg h3,if_pos h4];rw [h4]
  rw [h4]
  exact menc_4 x.ses x.rig x.op x.row x.col x.kind x.tk x.ot x.r x.ea x.en x.ec x.es w _ (Lib.hid HE) h.tk h.ot h.r h.q1 h.q2 h.es (by have:=h.en;omega) h.en
 by_cases h5:x.verb=5
 ·
  have HE:lays (.ok []) (.num 5 1 5::.tok (natB x.tk)::.tok (natB x.ot)::[])=lays (.ok []) (partsM x.msg):=by
   unfold partsM MsgV.msg;simp only [if_neg h1,if_neg h3,if_neg h4,if_pos h5];rw [h5]
  rw [h5]
  exact menc_5 x.ses x.rig x.op x.row x.col x.kind x.tk x.ot x.r x.ea x.en x.ec x.es w _ (Lib.hid HE) h.tk h.ot h.r h.q1 h.q2 h.es (by have:=h.en;omega) h.en
 have HE:lays (.ok []) (.num x.verb 1 5::.tok (natB x.tk)::[])=lays (.ok []) (partsM x.msg):=by
  unfold partsM MsgV.msg;simp only [if_neg h1,if_neg h3,if_neg h4,if_neg h5]
 exact menc_else x.verb (beq_eq_false_iff_ne.2 h1) (beq_eq_false_iff_ne.2 h3) (beq_eq_false_iff_ne.2 h4) (beq_eq_false_iff_ne.2 h5) x.ses x.rig x.op x.row x.col x.kind x.tk x.ot x.r x.ea x.en x.ec x.es w _ (Lib.hid HE) h.tk h.ot h.r h.q1 h.q2 h.es (by have:=h.en;omega) h.en
end Go.Proofs.YtmhainidincjhaaGreatDoor
