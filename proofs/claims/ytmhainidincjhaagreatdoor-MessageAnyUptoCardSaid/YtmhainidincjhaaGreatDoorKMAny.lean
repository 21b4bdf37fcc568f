/-
 The walk of the law MessageAny: what the functions answer, handed over; whether something went wrong is told by flags.
 Printed by a program of this repository (wip/mg76.py).
-/
import Derived.Test.YtmhainidincjhaaGreatDoorKC
import Derived.Test.YtmhainidincjhaaGreatDoorKXb
import Derived.Test.YtmhainidincjhaaGreatDoorKXc
import Derived.Test.YtmhainidincjhaaGreatDoorKL
set_option linter.unusedVariables false
set_option linter.unusedSimpArgs false
set_option maxRecDepth 100000
set_option maxHeartbeats 16000000
namespace Go.Proofs.YtmhainidincjhaaGreatDoor
open Go.RowKit Go.Extern.Stop Go.Stop Go.Extern
def XQ (k:Bool) (m:Res) (ce:Int) (at9:Nat) (vb op:Int) (tq:ByteArray) (x:RepV) (v:Value) (w:World):Prop :=
 (k=false→vb=0∧x.err=0∧∃ eb,v=eF eb∧EB w eb ce at9)∧(k=true→x.ok w∧tq.size≤4294967296∧(⟨vb,op,natB tq,x.rep⟩:Res)=m)
theorem XQ.below {k:Bool} {m:Res} {ce:Int} {at9:Nat} {vb op:Int} {tq:ByteArray} {x:RepV} {v:Value} {w w':World} (h:XQ k m ce at9 vb op tq x v w) (hb:Below w.heap.size w w'):XQ k m ce at9 vb op tq x v w' :=
 ⟨fun hk=>(h.1 hk).imp_right fun h2=>h2.imp_right fun ⟨eb,e,h3⟩=>⟨eb,e,h3.below hb trivial⟩,fun hk=>(h.2 hk).imp_left fun h2=>h2.below hb⟩
theorem Below.setCells {B:Nat} {a:World} {p:Nat} (hp:B≤p):∀ (r:List Value) (o:Nat) (w:World),Below B a w→Below B a (w.setCells p o r)
 | [],_,_,h=>h
 | v::r,o,w,h=>Below.setCells hp r (o+1) (w.setCell ⟨p,o,none⟩ v) (h.setCell hp v)
theorem many_walk (t:TolV) (a:Option Addr) (n c:Nat) (cut:Int) (k1 k2:Bool) (m1 m2:Res) (ce:Int) (at9 at1 z k:Nat) (l1 l2:List Nat) (u1:ByteArray) (w:World)
  (h9:k1=false→at9≤n) (hn:n≤c∧c≤9223372036854775807) (hy0:0≤cut) (hy1:cut≤65535) (hz0:k2=true→1≤z) (hzs:z≤1099511627776) (hkz:k2=true→k<z) (hk:k2=true→cut % (z:Int)=(k:Int)) (HG:Hid (Hg w))
  (HAW:Hid (∀ W,Below w.heap.size w W→Calls Tryz.prog 16 #[] W (fun e w'=>e=.returned (.bool true)∧Below W.heap.size W w')))
  (HRD:Hid (∀ W,Below w.heap.size w W→Calls Tryz.prog 50 #[.slice a n c] W fun e w'=>∃ (vb op:Int) (tq:ByteArray) (x:RepV) (v:Value),e=.returned (.tuple #[.agg #[.int .i64 vb,.int .i64 op,.string tq,.int .i64 x.err,.string x.wher,.int .i64 x.at9,.int .i64 x.id,.int .i64 x.out,.bool x.v.s,.slice x.v.a x.v.l x.v.c,.slice x.v.b x.v.m x.v.d,.slice x.pa x.pn x.pc,.bool x.lo.s,.slice x.lo.a x.lo.l x.lo.c,.slice x.lo.b x.lo.m x.lo.d,.bool x.hi.s,.slice x.hi.a x.hi.l x.hi.c,.slice x.hi.b x.hi.m x.hi.d,.bool x.hl,.bool x.hh,.int .i64 x.u0,.int .i64 x.u1,.int .i64 x.u2],v])∧OptE k1 v∧XQ k1 m1 ce at9 vb op tq x v w'∧Below W.heap.size W w'))
  (HPL:Hid (∀ eb W,Hg W→EB W eb ce at9→Calls Tryz.prog 43 #[.iface 211 (.pointer (some ⟨eb,0,none⟩))] W fun e w'=>e=.returned (.tuple #[.string ⟨#[98,121,116,101]⟩,.int .i64 at9,.bool true])∧Below W.heap.size W w'))
  (HBD:Hid (∀ eb W,EB W eb ce at9→Calls Tryz.prog 40 #[.iface 211 (.pointer (some ⟨eb,0,none⟩))] W (fun e w'=>e=.returned (.bool true)∧Below W.heap.size W w')))
  (HEN:Hid (k1=true→∀ vb op tq x v W,XQ true m1 ce at9 vb op tq x v W→Calls Tryz.prog 51 #[.agg #[.int .i64 vb,.int .i64 op,.string tq,.int .i64 x.err,.string x.wher,.int .i64 x.at9,.int .i64 x.id,.int .i64 x.out,.bool x.v.s,.slice x.v.a x.v.l x.v.c,.slice x.v.b x.v.m x.v.d,.slice x.pa x.pn x.pc,.bool x.lo.s,.slice x.lo.a x.lo.l x.lo.c,.slice x.lo.b x.lo.m x.lo.d,.bool x.hi.s,.slice x.hi.a x.hi.l x.hi.c,.slice x.hi.b x.hi.m x.hi.d,.bool x.hl,.bool x.hh,.int .i64 x.u0,.int .i64 x.u1,.int .i64 x.u2]] W fun e w'=>∃ a2 c2,e=.returned (.tuple #[.slice a2 n c2,.nilIface])∧SB w' a2 n c2 l1∧Below W.heap.size W w'))
  (HC2:Hid (∀ a c W,SB W a n c l1→(convert 32 9 (.slice a n c)).run Tryz.prog W=.ok (.string u1) W))
  (HC3:Hid (∀ W,Below w.heap.size w W→(convert 32 9 (.slice a n c)).run Tryz.prog W=.ok (.string u1) W))
  (HRS:Hid (∀ W,Below w.heap.size w W→Calls Tryz.prog 52 #[.agg #[.int .i64 t.verb,.int .i64 t.op,.int .i64 t.err,.int .i64 t.at9,.int .i64 t.id,.string t.tq,.string t.wher,.int .i64 t.u0,.int .i64 t.u1,.int .i64 t.u2,.int .u8 (t.oc:Nat),.bool t.v.sg,.slice t.v.a t.v.n t.v.c,.slice t.v.b t.v.m t.v.d,.slice t.pa t.pn t.pc,.bool t.h0,.bool t.h1]] W fun e w'=>∃ (vb op:Int) (tq:ByteArray) (x:RepV),e=.returned (.agg #[.int .i64 vb,.int .i64 op,.string tq,.int .i64 x.err,.string x.wher,.int .i64 x.at9,.int .i64 x.id,.int .i64 x.out,.bool x.v.s,.slice x.v.a x.v.l x.v.c,.slice x.v.b x.v.m x.v.d,.slice x.pa x.pn x.pc,.bool x.lo.s,.slice x.lo.a x.lo.l x.lo.c,.slice x.lo.b x.lo.m x.lo.d,.bool x.hi.s,.slice x.hi.a x.hi.l x.hi.c,.slice x.hi.b x.hi.m x.hi.d,.bool x.hl,.bool x.hh,.int .i64 x.u0,.int .i64 x.u1,.int .i64 x.u2])∧XQ true m2 0 0 vb op tq x .nilIface w'∧Below W.heap.size W w'))
  (HE2:Hid (∀ vb op tq x v W,XQ true m2 0 0 vb op tq x v W→Calls Tryz.prog 51 #[.agg #[.int .i64 vb,.int .i64 op,.string tq,.int .i64 x.err,.string x.wher,.int .i64 x.at9,.int .i64 x.id,.int .i64 x.out,.bool x.v.s,.slice x.v.a x.v.l x.v.c,.slice x.v.b x.v.m x.v.d,.slice x.pa x.pn x.pc,.bool x.lo.s,.slice x.lo.a x.lo.l x.lo.c,.slice x.lo.b x.lo.m x.lo.d,.bool x.hi.s,.slice x.hi.a x.hi.l x.hi.c,.slice x.hi.b x.hi.m x.hi.d,.bool x.hl,.bool x.hh,.int .i64 x.u0,.int .i64 x.u1,.int .i64 x.u2]] W fun e w'=>∃ a2 c2 v,e=.returned (.tuple #[.slice a2 z c2,v])∧OptE k2 v∧SB w' a2 z c2 l2∧Below W.heap.size W w'))
  (HD3:Hid (k2=true→∀ a2 c2 W,SB W a2 z c2 l2→Calls Tryz.prog 50 #[.slice a2 k c2] W fun e w'=>∃ eb,e=.returned (.tuple #[.agg #[.int .i64 0,.int .i64 0,.string ⟨#[]⟩,.int .i64 0,.string ⟨#[]⟩,.int .i64 0,.int .i64 0,.int .i64 0,.bool false,.slice none 0 0,.slice none 0 0,.slice none 0 0,.bool false,.slice none 0 0,.slice none 0 0,.bool false,.slice none 0 0,.slice none 0 0,.bool false,.bool false,.int .i64 0,.int .i64 0,.int .i64 0],.iface 211 (.pointer (some ⟨eb,0,none⟩))])∧EB w' eb 90 at1∧Below W.heap.size W w'))
  (HI1:Hid (∀ eb W,EB W eb 90 at1→Calls Tryz.prog 39 #[.iface 211 (.pointer (some ⟨eb,0,none⟩)),.iface 52 (.int .i64 90)] W (fun e w'=>e=.returned (.bool true)∧Below W.heap.size W w'))) :
  Calls Tryz.prog 14 #[.slice a n c,.agg #[.int .i64 t.verb,.int .i64 t.op,.int .i64 t.err,.int .i64 t.at9,.int .i64 t.id,.string t.tq,.string t.wher,.int .i64 t.u0,.int .i64 t.u1,.int .i64 t.u2,.int .u8 (t.oc:Nat),.bool t.v.sg,.slice t.v.a t.v.n t.v.c,.slice t.v.b t.v.m t.v.d,.slice t.pa t.pn t.pc,.bool t.h0,.bool t.h1],.int .u16 cut] w fun e w'=>e=.returned (.bool true)∧Below w.heap.size w w':=by
 have H9:=Lib.hid h9
 have HK9:=Lib.hid (And.intro hz0 (And.intro hkz hk))
 clear h9 hz0 hkz hk
 obtain ⟨W0,hW0⟩:∃ W0,W0=(w.alloc (.cells #[.int .i64 t.verb,.int .i64 t.op,.int .i64 t.err,.int .i64 t.at9,.int .i64 t.id,.string t.tq,.string t.wher,.int .i64 t.u0,.int .i64 t.u1,.int .i64 t.u2,.int .u8 (t.oc:Nat),.bool t.v.sg,.slice t.v.a t.v.n t.v.c,.slice t.v.b t.v.m t.v.d,.slice t.pa t.pn t.pc,.bool t.h0,.bool t.h1] 112)):=⟨_,rfl⟩
 have hbs:BS w [⟨w.heap.size,112,[.int .i64 t.verb,.int .i64 t.op,.int .i64 t.err,.int .i64 t.at9,.int .i64 t.id,.string t.tq,.string t.wher,.int .i64 t.u0,.int .i64 t.u1,.int .i64 t.u2,.int .u8 (t.oc:Nat),.bool t.v.sg,.slice t.v.a t.v.n t.v.c,.slice t.v.b t.v.m t.v.d,.slice t.pa t.pn t.pc,.bool t.h0,.bool t.h1]⟩] [] (w.alloc (.cells #[.int .i64 t.verb,.int .i64 t.op,.int .i64 t.err,.int .i64 t.at9,.int .i64 t.id,.string t.tq,.string t.wher,.int .i64 t.u0,.int .i64 t.u1,.int .i64 t.u2,.int .u8 (t.oc:Nat),.bool t.v.sg,.slice t.v.a t.v.n t.v.c,.slice t.v.b t.v.m t.v.d,.slice t.pa t.pn t.pc,.bool t.h0,.bool t.h1] 112)) :=
   ((BS.start w).alloc (p:=w.heap.size) rfl 112 [.int .i64 t.verb,.int .i64 t.op,.int .i64 t.err,.int .i64 t.at9,.int .i64 t.id,.string t.tq,.string t.wher,.int .i64 t.u0,.int .i64 t.u1,.int .i64 t.u2,.int .u8 (t.oc:Nat),.bool t.v.sg,.slice t.v.a t.v.n t.v.c,.slice t.v.b t.v.m t.v.d,.slice t.pa t.pn t.pc,.bool t.h0,.bool t.h1] rfl)
 rw [← hW0] at hbs
 have HW0:=Lib.hid hW0
 have HN:=Lib.hid hbs
 clear hW0 hbs
 obtain ⟨dT,htu,htd⟩:=Option.map_eq_some_iff.1 Tryz.rowT
 obtain ⟨dX,hdu,hdr⟩:=Option.map_eq_some_iff.1 Tryz.rowX
 have HTU:=Lib.hid htu
 have HTD:=Lib.hid htd
 have HDU:=Lib.hid hdu
 have HDR:=Lib.hid hdr
 clear htu htd hdu hdr
 replace HG:=Lib.hid (show Hg W0 from HG.out.below HN.out.bel HG.out.lt)
 go_enter Tryz.func14,Tryz.ntmps14
 go_wp2_with fail
 rw [← HW0.out]
 refine (HAW.out W0 HN.out.bel).mono ?_
 rintro e w1 ⟨rfl,hb⟩
 replace HN:=Lib.hid (HN.out.call hb)
 replace HG:=Lib.hid (HG.out.below hb HG.out.lt)
 clear hb
 go_wp2_with fail
 refine (HRD.out w1 HN.out.bel).mono ?_
 rintro e w2 ⟨vb,op,tq,x,v1,rfl,ho,hq,hb⟩
 replace HN:=Lib.hid (HN.out.call hb)
 replace HG:=Lib.hid (HG.out.below hb HG.out.lt)
 have HO:=Lib.hid ho
 have HQ:=Lib.hid hq
 clear ho hq
 clear hb
 have l0:=HN.out.lt 0 rfl
 have HN0:=HN
 clear HN
 have HN:=Lib.hid (HN0.out.alloc (p:=w2.heap.size) rfl 125 [.int .i64 0,.int .i64 0,.string ⟨#[]⟩,.int .i64 0,.string ⟨#[]⟩,.int .i64 0,.int .i64 0,.int .i64 0,.bool false,.slice none 0 0,.slice none 0 0,.slice none 0 0,.bool false,.slice none 0 0,.slice none 0 0,.bool false,.slice none 0 0,.slice none 0 0,.bool false,.bool false,.int .i64 0,.int .i64 0,.int .i64 0] rfl)
 go_upto_region 4 with (refine store_new rfl 125 _ _ rfl (w2.heap.size) 0 [.int .i64 vb,.int .i64 op,.string tq,.int .i64 x.err,.string x.wher,.int .i64 x.at9,.int .i64 x.id,.int .i64 x.out,.bool x.v.s,.slice x.v.a x.v.l x.v.c,.slice x.v.b x.v.m x.v.d,.slice x.pa x.pn x.pc,.bool x.lo.s,.slice x.lo.a x.lo.l x.lo.c,.slice x.lo.b x.lo.m x.lo.d,.bool x.hi.s,.slice x.hi.a x.hi.l x.hi.c,.slice x.hi.b x.hi.m x.hi.d,.bool x.hl,.bool x.hh,.int .i64 x.u0,.int .i64 x.u1,.int .i64 x.u2] rfl rfl (there_of (HN.out.at 1 rfl) 23 rfl) Tryz.sizX (by kernel_rfl) (fun wa3 HWA=>?_))
 replace HN:=Lib.hid (show BS w [⟨w.heap.size,112,[.int .i64 t.verb,.int .i64 t.op,.int .i64 t.err,.int .i64 t.at9,.int .i64 t.id,.string t.tq,.string t.wher,.int .i64 t.u0,.int .i64 t.u1,.int .i64 t.u2,.int .u8 (t.oc:Nat),.bool t.v.sg,.slice t.v.a t.v.n t.v.c,.slice t.v.b t.v.m t.v.d,.slice t.pa t.pn t.pc,.bool t.h0,.bool t.h1]⟩,⟨w2.heap.size,125,[.int .i64 vb,.int .i64 op,.string tq,.int .i64 x.err,.string x.wher,.int .i64 x.at9,.int .i64 x.id,.int .i64 x.out,.bool x.v.s,.slice x.v.a x.v.l x.v.c,.slice x.v.b x.v.m x.v.d,.slice x.pa x.pn x.pc,.bool x.lo.s,.slice x.lo.a x.lo.l x.lo.c,.slice x.lo.b x.lo.m x.lo.d,.bool x.hi.s,.slice x.hi.a x.hi.l x.hi.c,.slice x.hi.b x.hi.m x.hi.d,.bool x.hl,.bool x.hh,.int .i64 x.u0,.int .i64 x.u1,.int .i64 x.u2]⟩] _ wa3 from HWA.out▸HN.out.setAll 1 rfl (by simp) [.int .i64 vb,.int .i64 op,.string tq,.int .i64 x.err,.string x.wher,.int .i64 x.at9,.int .i64 x.id,.int .i64 x.out,.bool x.v.s,.slice x.v.a x.v.l x.v.c,.slice x.v.b x.v.m x.v.d,.slice x.pa x.pn x.pc,.bool x.lo.s,.slice x.lo.a x.lo.l x.lo.c,.slice x.lo.b x.lo.m x.lo.d,.bool x.hi.s,.slice x.hi.a x.hi.l x.hi.c,.slice x.hi.b x.hi.m x.hi.d,.bool x.hl,.bool x.hh,.int .i64 x.u0,.int .i64 x.u1,.int .i64 x.u2] rfl)
 clear HN0 l0
 replace HG:=Lib.hid (show Hg wa3 from HG.out.below (HWA.out▸Below.setCells (Nat.le_refl _) _ 0 _ (belowBox w2 (.cells #[.int .i64 0,.int .i64 0,.string ⟨#[]⟩,.int .i64 0,.string ⟨#[]⟩,.int .i64 0,.int .i64 0,.int .i64 0,.bool false,.slice none 0 0,.slice none 0 0,.slice none 0 0,.bool false,.slice none 0 0,.slice none 0 0,.bool false,.slice none 0 0,.slice none 0 0,.bool false,.bool false,.int .i64 0,.int .i64 0,.int .i64 0] 125)):Below w2.heap.size w2 wa3) HG.out.lt)
 replace HQ:=Lib.hid (show XQ k1 m1 ce at9 vb op tq x v1 wa3 from HQ.out.below (HWA.out▸Below.setCells (Nat.le_refl _) _ 0 _ (belowBox w2 (.cells #[.int .i64 0,.int .i64 0,.string ⟨#[]⟩,.int .i64 0,.string ⟨#[]⟩,.int .i64 0,.int .i64 0,.int .i64 0,.bool false,.slice none 0 0,.slice none 0 0,.slice none 0 0,.bool false,.slice none 0 0,.slice none 0 0,.bool false,.slice none 0 0,.slice none 0 0,.bool false,.bool false,.int .i64 0,.int .i64 0,.int .i64 0] 125)):Below w2.heap.size w2 wa3))
 clear HWA
 have z1:=fun w=>HO.out.neq w
 have z2:=fun w=>HO.out.guard .neq 34 25 w
 go_upto_if 26 with fail
 clear z1 z2
 go_cut [] (fun wx=>BS w [⟨w.heap.size,112,[.int .i64 t.verb,.int .i64 t.op,.int .i64 t.err,.int .i64 t.at9,.int .i64 t.id,.string t.tq,.string t.wher,.int .i64 t.u0,.int .i64 t.u1,.int .i64 t.u2,.int .u8 (t.oc:Nat),.bool t.v.sg,.slice t.v.a t.v.n t.v.c,.slice t.v.b t.v.m t.v.d,.slice t.pa t.pn t.pc,.bool t.h0,.bool t.h1]⟩] [] wx∧Hg wx)
 case first =>
  cases k1 with
  | false =>
   obtain ⟨rfl,h2,eb,rfl,heb⟩:=HQ.out.1 rfl
   rw [h2] at HN
   have HE1:=Lib.hid heb
   clear heb h2 HQ
   go_wp2_with fail
   refine (HPL.out _ _ HG.out HE1.out).mono ?_
   rintro e w4 ⟨rfl,hb⟩
   replace HN:=Lib.hid (HN.out.call hb)
   replace HG:=Lib.hid (HG.out.below hb HG.out.lt)
   replace HE1:=Lib.hid (HE1.out.below hb trivial)
   clear hb
   have h99:at9≤n:=H9.out (by simp)
   have q1:((at9:Int)<0)=False:=by simp only [eq_iff_iff,iff_false];omega
   have q2:((n:Int)<(at9:Int))=False:=by simp only [eq_iff_iff,iff_false];omega
   have ⟨k1_0,f1_0⟩:=HN.out.cf1 1 rfl
   have k1_3:=HN.out.cell 1 3 rfl rfl
   have f1_3:=HN.out.free 1 3 rfl
   go_wp2_with fail
   clear k1_0 f1_0 k1_3 f1_3
   refine (HBD.out _ _ HE1.out).mono ?_
   rintro e w5 ⟨rfl,hb⟩
   replace HN:=Lib.hid (HN.out.call hb)
   replace HG:=Lib.hid (HG.out.below hb HG.out.lt)
   clear hb
   go_wp2_with fail
   go_meet
   exact ⟨HN.out.only (List.Sublist.cons_cons _ (List.Sublist.cons _ List.Sublist.slnil)) (fun _ h=>h),HG.out⟩
  | true =>
   obtain rfl:=HO.out.ok
   go_wp2_with (refine wpList_load_mid rfl 125 _ rfl (w2.heap.size) 0 rfl [.int .i64 vb,.int .i64 op,.string tq,.int .i64 x.err,.string x.wher,.int .i64 x.at9,.int .i64 x.id,.int .i64 x.out,.bool x.v.s,.slice x.v.a x.v.l x.v.c,.slice x.v.b x.v.m x.v.d,.slice x.pa x.pn x.pc,.bool x.lo.s,.slice x.lo.a x.lo.l x.lo.c,.slice x.lo.b x.lo.m x.lo.d,.bool x.hi.s,.slice x.hi.a x.hi.l x.hi.c,.slice x.hi.b x.hi.m x.hi.d,.bool x.hl,.bool x.hh,.int .i64 x.u0,.int .i64 x.u1,.int .i64 x.u2] dX (range_all (HN.out.at 1 rfl)) HDU.out HDR.out Tryz.sizX ?_)
   refine (HEN.out (by simp) _ _ _ _ _ _ HQ.out).mono ?_
   rintro e w4 ⟨a4,c4,rfl,hsb,hb⟩
   replace HN:=Lib.hid (HN.out.call hb)
   replace HG:=Lib.hid (HG.out.below hb HG.out.lt)
   have hv1:=HC2.out a4 c4 _ hsb
   have hv2:=HC3.out _ HN.out.bel
   clear hsb hb HQ
   go_wp2_with fail
   go_meet
   exact ⟨HN.out.only (List.Sublist.cons_cons _ (List.Sublist.cons _ List.Sublist.slnil)) (fun _ h=>h),HG.out⟩
 case rest =>
  obtain ⟨w4,rfl⟩:∃ w4:World,w4=wc:=⟨_,rfl⟩
  obtain ⟨hn0,hg0⟩:=hcut
  have HN:=Lib.hid hn0
  clear hn0
  clear HG HQ HO HAW HRD HPL HBD HEN HC2 HC3
  go_wp2_with (refine wpList_load_mid rfl 112 _ rfl w.heap.size 0 rfl [.int .i64 t.verb,.int .i64 t.op,.int .i64 t.err,.int .i64 t.at9,.int .i64 t.id,.string t.tq,.string t.wher,.int .i64 t.u0,.int .i64 t.u1,.int .i64 t.u2,.int .u8 (t.oc:Nat),.bool t.v.sg,.slice t.v.a t.v.n t.v.c,.slice t.v.b t.v.m t.v.d,.slice t.pa t.pn t.pc,.bool t.h0,.bool t.h1] dT (range_all (HN.out.at 0 rfl)) HTU.out HTD.out Tryz.sizT ?_)
  refine (HRS.out _ HN.out.bel).mono ?_
  rintro e w5 ⟨vb2,op2,tq2,x2,rfl,hq,hb⟩
  replace HN:=Lib.hid (HN.out.call hb)
  have HQ:=Lib.hid hq
  clear hq hb hg0
  go_wp2_with fail
  refine (HE2.out _ _ _ _ _ _ HQ.out).mono ?_
  rintro e w6 ⟨a2,c2,v2,rfl,ho,hsb,hb⟩
  replace HN:=Lib.hid (HN.out.call hb)
  have HO:=Lib.hid ho
  have HX:=Lib.hid hsb
  clear ho hsb hb HQ
  cases k2 with
  | false =>
   obtain ⟨T1,t1,rfl⟩:=HO.out.err
   go_wp2_with fail
   refine bodyPost_ret (v:=.bool true) (by simp [results,Tryz.results14,go_sem]) rfl ?_
   exact ⟨rfl,HN.out.bel⟩
  | true =>
   obtain rfl:=HO.out.ok
   obtain ⟨hz0,hkz,hk⟩:=HK9.out
   have hz0:=hz0 (by simp)
   have hkz:=hkz (by simp)
   have hk:=hk (by simp)
   have hcz:=HX.out.len.2
   go_wp2_with fail
   refine (HD3.out (by simp) _ _ _ HX.out).mono ?_
   rintro e w7 ⟨eb,rfl,hf,hb⟩
   replace HN:=Lib.hid (HN.out.call hb)
   have HE1:=Lib.hid hf
   clear hf hb HX HO hcz
   have l0:=HN.out.lt 0 rfl
   have HN0:=HN
   clear HN
   have HN:=Lib.hid (HN0.out.alloc (p:=w7.heap.size) rfl 125 [.int .i64 0,.int .i64 0,.string ⟨#[]⟩,.int .i64 0,.string ⟨#[]⟩,.int .i64 0,.int .i64 0,.int .i64 0,.bool false,.slice none 0 0,.slice none 0 0,.slice none 0 0,.bool false,.slice none 0 0,.slice none 0 0,.bool false,.slice none 0 0,.slice none 0 0,.bool false,.bool false,.int .i64 0,.int .i64 0,.int .i64 0] rfl)
   go_upto_region 15 with (refine store_new rfl 125 _ _ rfl (w7.heap.size) 0 [.int .i64 0,.int .i64 0,.string ⟨#[]⟩,.int .i64 0,.string ⟨#[]⟩,.int .i64 0,.int .i64 0,.int .i64 0,.bool false,.slice none 0 0,.slice none 0 0,.slice none 0 0,.bool false,.slice none 0 0,.slice none 0 0,.bool false,.slice none 0 0,.slice none 0 0,.bool false,.bool false,.int .i64 0,.int .i64 0,.int .i64 0] rfl rfl (there_of (HN.out.at 1 rfl) 23 rfl) Tryz.sizX (by kernel_rfl) (fun wa8 HWA=>?_))
   replace HN:=Lib.hid (show BS w [⟨w.heap.size,112,[.int .i64 t.verb,.int .i64 t.op,.int .i64 t.err,.int .i64 t.at9,.int .i64 t.id,.string t.tq,.string t.wher,.int .i64 t.u0,.int .i64 t.u1,.int .i64 t.u2,.int .u8 (t.oc:Nat),.bool t.v.sg,.slice t.v.a t.v.n t.v.c,.slice t.v.b t.v.m t.v.d,.slice t.pa t.pn t.pc,.bool t.h0,.bool t.h1]⟩,⟨w7.heap.size,125,[.int .i64 0,.int .i64 0,.string ⟨#[]⟩,.int .i64 0,.string ⟨#[]⟩,.int .i64 0,.int .i64 0,.int .i64 0,.bool false,.slice none 0 0,.slice none 0 0,.slice none 0 0,.bool false,.slice none 0 0,.slice none 0 0,.bool false,.slice none 0 0,.slice none 0 0,.bool false,.bool false,.int .i64 0,.int .i64 0,.int .i64 0]⟩] _ wa8 from HWA.out▸HN.out.setAll 1 rfl (by simp) [.int .i64 0,.int .i64 0,.string ⟨#[]⟩,.int .i64 0,.string ⟨#[]⟩,.int .i64 0,.int .i64 0,.int .i64 0,.bool false,.slice none 0 0,.slice none 0 0,.slice none 0 0,.bool false,.slice none 0 0,.slice none 0 0,.bool false,.slice none 0 0,.slice none 0 0,.bool false,.bool false,.int .i64 0,.int .i64 0,.int .i64 0] rfl)
   clear HN0 l0
   replace HE1:=Lib.hid (show EB wa8 eb 90 at1 from HE1.out.below (HWA.out▸Below.setCells (Nat.le_refl _) _ 0 _ (belowBox w7 (.cells #[.int .i64 0,.int .i64 0,.string ⟨#[]⟩,.int .i64 0,.string ⟨#[]⟩,.int .i64 0,.int .i64 0,.int .i64 0,.bool false,.slice none 0 0,.slice none 0 0,.slice none 0 0,.bool false,.slice none 0 0,.slice none 0 0,.bool false,.slice none 0 0,.slice none 0 0,.bool false,.bool false,.int .i64 0,.int .i64 0,.int .i64 0] 125)):Below w7.heap.size w7 wa8) trivial)
   clear HWA
   go_wp2_with fail
   refine (HI1.out _ _ HE1.out).mono ?_
   rintro e w9 ⟨rfl,hb⟩
   replace HN:=Lib.hid (HN.out.call hb)
   clear hb
   go_wp2_with fail
   refine bodyPost_ret (v:=.bool true) (by simp [results,Tryz.results14,go_sem]) rfl ?_
   exact ⟨rfl,HN.out.bel⟩
end Go.Proofs.YtmhainidincjhaaGreatDoor
