/-
 What the laws stand on, part S: contracts and plain laws of WEnc, WEnc2; the conditions are each law's own.
-/
import Derived.Test.YtmhainidincjhaaGreatDoorBP
import Derived.Deep.QuietTactic
import Derived.BigQuiet
set_option linter.unusedVariables false
set_option linter.unusedSimpArgs false
set_option maxRecDepth 100000
set_option maxHeartbeats 16000000
namespace Go.Proofs.YtmhainidincjhaaGreatDoor
open Go.RowKit Go.Extern.Stop Go.Stop Go.Extern
def RetM (r:WS) (w:World) (e:Ending) (w':World):Prop:=match r with
 | .error x=>∃ v,e=.returned (.tuple #[.slice none 0 0,v])∧ErrB w' (fun _=>True) v x.1 x.2∧Below w.heap.size w w'
 | .ok l=>∃ a c,e=.returned (.tuple #[.slice a l.length c,.nilIface])∧Mid w' w.heap.size 5 1 (.slice a l.length c) l.length (l.map BN)∧Below w.heap.size w w'
theorem menc_else (verb:Int) (n1:(verb==1)=false) (n3:(verb==3)=false) (n4:(verb==4)=false) (n5:(verb==5)=false) (ses rig op row col kind:Int) (tk ot:ByteArray) (r:Rv) (ea:Option Addr) (en ec:Nat) (es:List EntV) (w:World) (sF:WS) (HSF:Hid (lays (.ok []) (.num verb 1 5::.tok (natB tk)::[])=sF)) (ht:tk.size≤4294967296) (hot:ot.size≤4294967296) (hr:r.ok w) (hq1:lenW r.q.num.natAbs≤1099511627776) (hq2:lenW r.q.den≤1099511627776) (hE:EntsW w ea en ec es) (hen:en≤4294967296) (hec:en≤134217728) :
  Calls Tryz.prog 18 #[.agg #[.int .i64 verb,.string tk,.int .i64 ses,.int .i64 rig,.string ot,.int .i64 op,.int .i64 row,.int .i64 col,.int .i64 kind,.bool r.s,.slice r.a r.l r.c,.slice r.b r.m r.d,.slice ea en ec]] w (RetM sF w):=by
 have hb0:BS w [⟨w.heap.size+1,140,[.slice none 0 0,.nilIface]⟩,⟨w.heap.size,50,[.int .i64 verb,.string tk,.int .i64 ses,.int .i64 rig,.string ot,.int .i64 op,.int .i64 row,.int .i64 col,.int .i64 kind,.bool r.s,.slice r.a r.l r.c,.slice r.b r.m r.d,.slice ea en ec]⟩] [] ((w.alloc (.cells #[.int .i64 verb,.string tk,.int .i64 ses,.int .i64 rig,.string ot,.int .i64 op,.int .i64 row,.int .i64 col,.int .i64 kind,.bool r.s,.slice r.a r.l r.c,.slice r.b r.m r.d,.slice ea en ec] 50)).alloc (.cells #[.slice none 0 0,.nilIface] 140)) :=
  BS.swap2 (bs:=[]) (((BS.start w).alloc (p:=w.heap.size) rfl 50 [.int .i64 verb,.string tk,.int .i64 ses,.int .i64 rig,.string ot,.int .i64 op,.int .i64 row,.int .i64 col,.int .i64 kind,.bool r.s,.slice r.a r.l r.c,.slice r.b r.m r.d,.slice ea en ec] rfl).alloc (p:=w.heap.size+1) (by simp) 140 [.slice none 0 0,.nilIface] rfl)
 obtain ⟨w1,hw1⟩:∃ w1,w1=((w.alloc (.cells #[.int .i64 verb,.string tk,.int .i64 ses,.int .i64 rig,.string ot,.int .i64 op,.int .i64 row,.int .i64 col,.int .i64 kind,.bool r.s,.slice r.a r.l r.c,.slice r.b r.m r.d,.slice ea en ec] 50)).alloc (.cells #[.slice none 0 0,.nilIface] 140)):=⟨_,rfl⟩
 rw [← hw1] at hb0
 obtain ⟨pb,hpb⟩:∃ pb,w.heap.size+1=pb:=⟨_,rfl⟩
 rw [hpb] at hb0
 have HW:=qH (show WB w [⟨w.heap.size,50,[.int .i64 verb,.string tk,.int .i64 ses,.int .i64 rig,.string ot,.int .i64 op,.int .i64 row,.int .i64 col,.int .i64 kind,.bool r.s,.slice r.a r.l r.c,.slice r.b r.m r.d,.slice ea en ec]⟩] [] pb (.ok []) 0 w1 from ⟨none,0,0,[],.nilIface,YB.start hb0,Nat.le_refl _,rfl,rfl⟩)
 have HWE:=qH hw1
 have HPB:=qH hpb
 have HR:=qH hr
 have HE:=qH hE
 clear hb0 hw1 hpb hr hE
 have ⟨m0,m1,m2,m3,m4,m5,m6,m7,m8,m9,m10,m11,m12⟩:=cz13 (WB.last (bs:=[]) HW.out)
 go_enter Tryz.func18,Tryz.ntmps18
 go_upto_region 2 with fail
 rw [← HWE.out]
 (try simp only [HPB.out])
 have HC:=qH (pick_any (verb:Int) 1 5 w1 HW.out (by omega))
 go_wp2_with fail
 refine HC.out.mono ?_
 rintro e w2 ⟨rfl,h2⟩
 clear HC HW m0 m1 m2 m3 m4 m5 m6 m7 m8 m9 m10 m11 m12
 have HW:=qH h2
 clear h2
 have ⟨m0,m1,m2,m3,m4,m5,m6,m7,m8,m9,m10,m11,m12⟩:=cz13 (WB.last (bs:=[]) HW.out)
 have HC:=qH (wtok_any tk w2 HW.out (by omega) (by omega))
 go_wp2_with fail
 refine HC.out.mono ?_
 rintro e w3 ⟨rfl,h2⟩
 clear HC HW m0 m1 m2 m3 m4 m5 m6 m7 m8 m9 m10 m11 m12
 have HW:=qH h2
 clear h2
 have ⟨m0,m1,m2,m3,m4,m5,m6,m7,m8,m9,m10,m11,m12⟩:=cz13 (WB.last (bs:=[]) HW.out)
 have h9:WB w [⟨w.heap.size,50,[.int .i64 verb,.string tk,.int .i64 ses,.int .i64 rig,.string ot,.int .i64 op,.int .i64 row,.int .i64 col,.int .i64 kind,.bool r.s,.slice r.a r.l r.c,.slice r.b r.m r.d,.slice ea en ec]⟩] [] pb (lays (.ok []) (.num verb 1 5::.tok (natB tk)::[])) _ w3:=HW.out
 rw [HSF.out] at h9
 obtain ⟨a,n,c,xs,ev,hy,hn,hs⟩:=h9
 have k0:=hy.st.cell 0 0 rfl rfl
 have k1:=hy.st.cell 0 1 rfl rfl
 have HY:=qH hy
 clear hy hn HW
 cases sF with
 | ok out =>
  obtain ⟨rfl,rfl⟩:=hs
  obtain ⟨n,rfl⟩:∃ n',n=n':=⟨_,rfl⟩
  go_wp2_with fail
  refine bodyPost_ret (v:=.tuple #[.slice a n c,.nilIface]) (by simp [results,Tryz.results18,go_sem]) rfl ?_
  have hl:=HY.out.len
  subst hl
  exact ⟨a,c,rfl,HY.out.mid,HY.out.st.bel⟩
 | error x =>
  have HS:=qH hs
  obtain ⟨eb,u,rfl,_⟩:=hs
  unfold eF at k1
  go_wp2_with fail
  go_quiet (fail)
  go_wp2_with fail
  refine bodyPost_ret (v:=.tuple #[.slice none 0 0,.iface 211 (.pointer (some ⟨eb,0,none⟩))]) (by simp [results,Tryz.results18,go_sem]) rfl ?_
  exact ⟨_,rfl,ErrB.keeps HS.out (Keeps.drewN _ _ (fun _=>False)) (fun _ _ _ h=>h) (fun _ _ _=>trivial),(HY.out.st.drewN _).bel⟩
structure MsgV where
 verb:Int
 tk:ByteArray
 ses:Int
 rig:Int
 ot:ByteArray
 op:Int
 row:Int
 col:Int
 kind:Int
 r:Rv
 ea:Option Addr
 en:Nat
 ec:Nat
 es:List EntV
def MsgV.cells (x:MsgV):List Value:=[.int .i64 x.verb,.string x.tk,.int .i64 x.ses,.int .i64 x.rig,.string x.ot,.int .i64 x.op,.int .i64 x.row,.int .i64 x.col,.int .i64 x.kind,.bool x.r.s,.slice x.r.a x.r.l x.r.c,.slice x.r.b x.r.m x.r.d,.slice x.ea x.en x.ec]
def MsgV.val (x:MsgV):Value:=.agg #[.int .i64 x.verb,.string x.tk,.int .i64 x.ses,.int .i64 x.rig,.string x.ot,.int .i64 x.op,.int .i64 x.row,.int .i64 x.col,.int .i64 x.kind,.bool x.r.s,.slice x.r.a x.r.l x.r.c,.slice x.r.b x.r.m x.r.d,.slice x.ea x.en x.ec]
def MsgV.msg (x:MsgV):Msg:=⟨x.verb,natB x.tk,x.ses,x.rig,natB x.ot,⟨x.op,x.row,x.col,x.kind,x.r.q,x.es.map EntV.ent⟩⟩
structure MsgV.ok (w:World) (x:MsgV):Prop where
 tk:x.tk.size≤4294967296
 ot:x.ot.size≤4294967296
 r:x.r.ok w
 q1:lenW x.r.q.num.natAbs≤1099511627776
 q2:lenW x.r.q.den≤1099511627776
 es:EntsW w x.ea x.en x.ec x.es
 en:x.en≤134217728
theorem MsgV.ok.below {w w':World} {x:MsgV} (h:x.ok w) (hb:Below w.heap.size w w'):x.ok w':=⟨h.tk,h.ot,h.r.below hb,h.q1,h.q2,h.es.below hb,h.en⟩
end Go.Proofs.YtmhainidincjhaaGreatDoor
