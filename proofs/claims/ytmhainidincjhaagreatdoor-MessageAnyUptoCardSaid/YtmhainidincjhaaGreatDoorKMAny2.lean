/-
 The law MessageAny answers true; the conditions: the library's own global is as it began; the bytes and what is told of a result are in memory, and of bounded sizes.
 Printed by a program of this repository (wip/mg77.py).
-/
import Derived.Test.YtmhainidincjhaaGreatDoorKMAny
import Derived.Test.YtmhainidincjhaaGreatDoorKXd
import Derived.Test.YtmhainidincjhaaGreatDoorKXc
import Derived.Test.YtmhainidincjhaaGreatDoorKG
import Derived.Test.YtmhainidincjhaaGreatDoorKXa
set_option linter.unusedVariables false
set_option linter.unusedSimpArgs false
set_option maxRecDepth 100000
set_option maxHeartbeats 16000000
namespace Go.Proofs.YtmhainidincjhaaGreatDoor
open Go.RowKit Go.Extern.Stop Go.Stop Go.Extern
def okY:Except (Int × Nat) Res→Bool
 | .ok _=>true
 | .error _=>false
def resY:Except (Int × Nat) Res→Res
 | .ok m=>m
 | .error _=>Res.zero
def errY:Except (Int × Nat) Res→Int × Nat
 | .ok _=>(90,0)
 | .error y=>y
def okZ:WS→Bool
 | .ok _=>true
 | .error _=>false
def bytZ:WS→List Nat
 | .ok l=>l
 | .error _=>[]
def zeroRV:RepV:=⟨0,⟨#[]⟩,0,0,0,Rv.zero,none,0,0,[],Rv.zero,Rv.zero,false,false,0,0,0⟩
theorem eres_zm (m:Res) (vb op:Int) (tq:ByteArray) (x:RepV) (W:World) (h1:x.ok W) (h2:tq.size≤4294967296) (h3:(⟨vb,op,natB tq,x.rep⟩:Res)=m):Calls Tryz.prog 51 #[.agg #[.int .i64 vb,.int .i64 op,.string tq,.int .i64 x.err,.string x.wher,.int .i64 x.at9,.int .i64 x.id,.int .i64 x.out,.bool x.v.s,.slice x.v.a x.v.l x.v.c,.slice x.v.b x.v.m x.v.d,.slice x.pa x.pn x.pc,.bool x.lo.s,.slice x.lo.a x.lo.l x.lo.c,.slice x.lo.b x.lo.m x.lo.d,.bool x.hi.s,.slice x.hi.a x.hi.l x.hi.c,.slice x.hi.b x.hi.m x.hi.d,.bool x.hl,.bool x.hh,.int .i64 x.u0,.int .i64 x.u1,.int .i64 x.u2]] W (RetM (encX m) W) :=
 h3▸eres_any vb op tq x W h1 h2
theorem many_any (t:TolV) (a:Option Addr) (n c:Nat) (data:List Nat) (cut:Int) (w:World) (hg:Hg w) (ht:TolW w t) (hd:BytesN w (.slice a n c) data) (h8:∀ x,x∈data→x<256) (hn:n≤1099511627776) (hy0:0≤cut) (hy1:cut≤65535) :
  Calls Tryz.prog 14 #[.slice a n c,.agg #[.int .i64 t.verb,.int .i64 t.op,.int .i64 t.err,.int .i64 t.at9,.int .i64 t.id,.string t.tq,.string t.wher,.int .i64 t.u0,.int .i64 t.u1,.int .i64 t.u2,.int .u8 (t.oc:Nat),.bool t.v.sg,.slice t.v.a t.v.n t.v.c,.slice t.v.b t.v.m t.v.d,.slice t.pa t.pn t.pc,.bool t.h0,.bool t.h1],.int .u16 cut] w fun e w'=>e=.returned (.bool true)∧Below w.heap.size w w':=by
 have keep:∀ {f:Nat} {vs:Array Value} {W:World} {b b':Bool},b'=b→Calls Tryz.prog f vs W (fun e w'=>e=.returned (.bool b')∧w'=W)→Calls Tryz.prog f vs W (fun e w'=>e=.returned (.bool b)∧Below W.heap.size W w') :=
  fun hb h=>h.mono fun e w' ⟨h1,h2⟩=>by subst hb;exact ⟨h1,h2▸Below.refl _ _⟩
 have keep2:∀ {f:Nat} {vs:Array Value} {W:World} {b b':Bool},b'=b→Calls Tryz.prog f vs W (fun e w'=>e=.returned (.bool b')∧Below W.heap.size W w')→Calls Tryz.prog f vs W (fun e w'=>e=.returned (.bool b)∧Below W.heap.size W w') :=
  fun hb h=>by subst hb;exact h
 have hlen:=hd.len
 have hce:(errY (decX data)).1=90∨(errY (decX data)).1=91∨(errY (decX data)).1=270:=by
  cases hq:decX data with
  | error y=>exact (decX_err h8 hq).2
  | ok m=>exact .inl rfl
 have hat:(errY (decX data)).2≤n:=by
  cases hq:decX data with
  | error y=>have:=(decX_err h8 hq).1;show y.2≤n;omega
  | ok m=>exact Nat.zero_le _
 obtain ⟨f1,f2,f3,f4,f5⟩:=resT_fine ht
 have hz:okZ (encX (resT t))=true→(∀ y,y∈bytZ (encX (resT t))→y<256)∧1≤(bytZ (encX (resT t))).length∧decX (bytZ (encX (resT t)))=.ok (resT t).norm:=fun h=>by
  cases hr:encX (resT t) with
  | error y=>rw [hr] at h;cases h
  | ok l =>
   obtain ⟨g1,g2,_⟩:=encX_big f2 f3 f4 hr
   exact ⟨g1,by show 1≤l.length;omega,decX_enc f1 hr⟩
 have hzs:(bytZ (encX (resT t))).length≤1099511627776:=by
  cases hr:encX (resT t) with
  | error y=>exact Nat.zero_le _
  | ok l=>obtain ⟨_,_,g3⟩:=encX_big f2 f3 f4 hr;show l.length≤_;omega
 have hkz:okZ (encX (resT t))=true→(cut % ((bytZ (encX (resT t))).length:Int)).toNat<(bytZ (encX (resT t))).length∧cut % ((bytZ (encX (resT t))).length:Int)=((cut % ((bytZ (encX (resT t))).length:Int)).toNat:Int):=fun h=>by
  obtain ⟨_,h2,_⟩:=hz h
  have h3:=Int.emod_lt_of_pos cut (show (0:Int)<((bytZ (encX (resT t))).length:Int) by omega)
  have h4:=Int.emod_nonneg cut (show ((bytZ (encX (resT t))).length:Int)≠0 by omega)
  omega
 generalize (cut % ((bytZ (encX (resT t))).length:Int)).toNat=k at hkz
 obtain ⟨at1,hcut⟩:∃ at1,okZ (encX (resT t))=true→decX ((bytZ (encX (resT t))).take k)=.error (90,at1):=by
  cases hb:okZ (encX (resT t)) with
  | false=>exact ⟨0,fun h=>(by cases h)⟩
  | true =>
   obtain ⟨h1,h2,h3⟩:=hz hb
   obtain ⟨x,hx⟩:=decX_cut h1 h3 (hkz hb).1
   exact ⟨x,fun _=>hx⟩
 refine many_walk t a n c cut (okY (decX data)) (okZ (encX (resT t))) (resY (decX data)) (resT t) (errY (decX data)).1 (errY (decX data)).2 at1 (bytZ (encX (resT t))).length k data (bytZ (encX (resT t))) (strB data) w
  (fun _=>hat) ⟨by omega,by omega⟩ hy0 hy1 (fun h=>(hz h).2.1) hzs (fun h=>(hkz h).1) (fun h=>(hkz h).2) (Lib.hid hg)
  (Lib.hid fun W hbl=>mawakeS W (hg.below hbl hg.lt))
  (Lib.hid fun W hbl=>(rres_any a n c data W (hd.below hbl) h8 hn).mono fun e w' hh=>?_)
  (Lib.hid fun eb W hg h=>place_B _ _ _ _ W hg h)
  (Lib.hid fun eb W h=>keep2 (by rcases hce with h | h | h <;> rw [h] <;> rfl) (bad_B _ _ _ _ W h))
  (Lib.hid fun hk vb op tq x v W hq=>(eres_zm _ vb op tq x W (hq.2 rfl).1 (hq.2 rfl).2.1 (hq.2 rfl).2.2).mono fun e w' hh=>?_)
  (Lib.hid fun a c W h=>conv_any a n c data W h)
  (Lib.hid fun W hbl=>conv_any a n c data W (hd.below hbl))
  (Lib.hid fun W hbl=>(tres_any t W (ht.below hbl)).mono fun e w' hh=>?_)
  (Lib.hid fun vb op tq x v W hq=>(eres_zm _ vb op tq x W (hq.2 rfl).1 (hq.2 rfl).2.1 (hq.2 rfl).2.2).mono fun e w' hh=>?_)
  (Lib.hid fun hk a2 c2 W hb=>(rres_any a2 k c2 ((bytZ (encX (resT t))).take k) W (BytesN.pre hb k (Nat.le_of_lt (hkz hk).1)) (fun y hy=>(hz hk).1 y (List.mem_of_mem_take hy)) (by have:=(hkz hk).1;omega)).mono fun e w' hh=>?_)
  (Lib.hid fun eb W h=>keep rfl (is_B _ 90 at1 _ 90 W h))
 ·
  cases hq:decX data with
  | error y =>
   rw [hq] at hh
   obtain ⟨v,k1,k2,k3⟩:=hh
   have k4:=k2
   obtain ⟨eb,u,rfl,_⟩:=k2
   exact ⟨0,0,⟨#[]⟩,zeroRV,_,k1,⟨_,_,rfl⟩,⟨fun _=>⟨rfl,rfl,eb,rfl,k4⟩,fun h=>(by cases h)⟩,k3⟩
  | ok m =>
   rw [hq] at hh
   obtain ⟨vb,op,tq,x,k1,k2,k3,k4,k5⟩:=hh
   exact ⟨vb,op,tq,x,_,k1,rfl,⟨fun h=>(by cases h),fun _=>⟨k2,k3,k4⟩⟩,k5⟩
 ·
  cases hq:decX data with
  | error y=>rw [hq] at hk;cases hk
  | ok m =>
   rw [hq,show encX (resY (.ok m))=.ok data from encX_dec h8 hq] at hh
   obtain ⟨a4,c4,k1,k2,k3⟩:=hh
   rw [hlen.1]
   exact ⟨a4,c4,k1,Sl.ofMid k2,k3⟩
 ·
  obtain ⟨vb,op,tq,x,k1,k2,k3,_,k5,_,k6⟩:=hh
  exact ⟨vb,op,tq,x,k1,⟨fun h=>(by cases h),fun _=>⟨k2,by omega,k5⟩⟩,k6⟩
 ·
  cases hr:encX (resT t) with
  | error y =>
   rw [hr] at hh
   obtain ⟨v,k1,k2,k3⟩:=hh
   obtain ⟨eb,u,rfl,_⟩:=k2
   exact ⟨none,0,_,k1,⟨_,_,rfl⟩,Sl.ofMid (Mid.nil w' 0 5 1),k3⟩
  | ok l =>
   rw [hr] at hh
   obtain ⟨a4,c4,k1,k2,k3⟩:=hh
   exact ⟨a4,c4,_,k1,rfl,Sl.ofMid k2,k3⟩
 ·
  rw [hcut hk] at hh
  obtain ⟨v,k1,k2,k3⟩:=hh
  have k4:=k2
  obtain ⟨eb,u,rfl,_⟩:=k2
  exact ⟨eb,k1,k4,k3⟩
end Go.Proofs.YtmhainidincjhaaGreatDoor
