/-
 The law MessageResults answers true; the conditions: the library's own global is as it began; what is told of both results is in memory, and of bounded sizes.
 Printed by a program of this repository (wip/mg84.py).
-/
import Derived.Test.YtmhainidincjhaaGreatDoorBMRes
import Derived.Test.YtmhainidincjhaaGreatDoorBXd
set_option linter.unusedVariables false
set_option linter.unusedSimpArgs false
set_option maxRecDepth 100000
set_option maxHeartbeats 16000000
namespace Go.Proofs.YtmhainidincjhaaGreatDoor
open Go.RowKit Go.Extern.Stop Go.Stop Go.Extern
theorem ansT_norm (t:TolV):(ansT t).norm=ansT t:=by
 unfold ansT
 split
 ·
  rfl
 ·
  unfold Ans.norm
  rw [if_neg (by show ¬ ((1+t.oc % 3:Nat):Int)=1;omega)]
theorem rngT_norm (t:TolV):(rngT t).norm=rngT t:=by
 unfold rngT Rng.norm
 simp only
 congr 1 <;> split <;> rfl
theorem repT_norm (t:TolV):(repT t).err=0∧(repT t).norm t.op=repT t:=by
 unfold repT
 by_cases h1:t.op=1∨t.op=2
 ·
  rw [if_pos h1];exact ⟨rfl,by unfold Rep.norm;rw [if_pos h1]⟩
 rw [if_neg h1]
 by_cases h9:t.op=9
 ·
  rw [if_pos h9];exact ⟨rfl,by unfold Rep.norm;rw [if_neg h1,if_pos h9];simp only [ansT_norm]⟩
 rw [if_neg h9]
 by_cases h10:t.op=10∨t.op=11
 ·
  rw [if_pos h10];exact ⟨rfl,by unfold Rep.norm;rw [if_neg h1,if_neg h9,if_pos h10];simp only [rngT_norm]⟩
 rw [if_neg h10]
 by_cases h12:t.op=12
 ·
  rw [if_pos h12];exact ⟨rfl,by unfold Rep.norm;rw [if_neg h1,if_neg h9,if_neg h10,if_pos h12]⟩
 rw [if_neg h12]
 exact ⟨rfl,by unfold Rep.norm;rw [if_neg h1,if_neg h9,if_neg h10,if_neg h12]⟩
theorem resT_norm (t:TolV):(resT t).norm=resT t:=by
 unfold resT
 by_cases he:t.err≠0
 ·
  rw [if_pos he];unfold Res.norm;rw [if_neg (show ¬ t.err=0 from he)]
 rw [if_neg he]
 by_cases h2:t.verb=2
 ·
  rw [if_pos h2];rfl
 rw [if_neg h2]
 by_cases h4:t.verb=4
 ·
  rw [if_pos h4];rfl
 rw [if_neg h4]
 by_cases h1:t.verb=1
 ·
  rw [if_pos h1]
  obtain ⟨e1,e2⟩:=repT_norm t
  unfold Res.norm
  rw [if_pos (show (repT t).err=0 from e1),if_pos (show (1:Int)=1 from rfl)]
  simp only [e2]
 rw [if_neg h1]
 unfold Res.norm
 rw [if_pos (show Rep.zero.err=0 from rfl),if_neg (show ¬ t.verb=1 from h1),if_neg (show ¬ t.verb=2 from h2),if_neg (show ¬ t.verb=4 from h4)]
theorem XR.of {t:TolV} {w':World} {vb op:Int} {tq:ByteArray} {x:RepV} (k2:x.ok w') (k3:tq.size≤1048576) (k5:(⟨vb,op,natB tq,x.rep⟩:Res)=resT t) (kn:x.pa=none∨1≤x.pn):XR (resT t) vb op tq x w':=⟨k2,by omega,k5,fun k hk=>by
 rcases kn with h | h
 ·
  rw [h] at hk;cases hk
 ·
  obtain ⟨b,o,c',e,h1,h2,h3,h4⟩:=k2.ps.sl.plain h
  injection e with e1 e2 e3
  rw [e1] at hk
  have hb:b=k:=by simpa [Value.ownBlock] using hk
  omega⟩
theorem mres_any (t u:TolV) (w:World) (hg:Hg w) (ht:TolW w t) (hu:TolW w u) :
  Calls Tryz.prog 15 #[.agg #[.int .i64 t.verb,.int .i64 t.op,.int .i64 t.err,.int .i64 t.at9,.int .i64 t.id,.string t.tq,.string t.wher,.int .i64 t.u0,.int .i64 t.u1,.int .i64 t.u2,.int .u8 (t.oc:Nat),.bool t.v.sg,.slice t.v.a t.v.n t.v.c,.slice t.v.b t.v.m t.v.d,.slice t.pa t.pn t.pc,.bool t.h0,.bool t.h1],.agg #[.int .i64 u.verb,.int .i64 u.op,.int .i64 u.err,.int .i64 u.at9,.int .i64 u.id,.string u.tq,.string u.wher,.int .i64 u.u0,.int .i64 u.u1,.int .i64 u.u2,.int .u8 (u.oc:Nat),.bool u.v.sg,.slice u.v.a u.v.n u.v.c,.slice u.v.b u.v.m u.v.d,.slice u.pa u.pn u.pc,.bool u.h0,.bool u.h1]] w fun e w'=>e=.returned (.bool true)∧Below w.heap.size w w':=by
 have keep:∀ {f:Nat} {vs:Array Value} {W:World} {b b':Bool},b'=b→Calls Tryz.prog f vs W (fun e w'=>e=.returned (.bool b')∧w'=W)→Calls Tryz.prog f vs W (fun e w'=>e=.returned (.bool b)∧Below W.heap.size W w') :=
  fun hb h=>h.mono fun e w' ⟨h1,h2⟩=>by subst hb;exact ⟨h1,h2▸Below.refl _ _⟩
 have fine:∀ (v:TolV),TolW w v→(∀ y,y∈bytZ (encX (resT v))→y<256)∧(okZ (encX (resT v))=true→decX (bytZ (encX (resT v)))=.ok (resT v))∧(bytZ (encX (resT v))).length≤1099511627776:=fun v hv=>by
  obtain ⟨f1,f2,f3,f4,f5⟩:=resT_fine hv
  cases hr:encX (resT v) with
  | error y=>exact ⟨fun y hy=>(by cases hy),fun h=>(by cases h),Nat.zero_le _⟩
  | ok l =>
   obtain ⟨g1,_,g3⟩:=encX_big f2 f3 f4 hr
   exact ⟨g1,fun _=>by rw [show bytZ (.ok l)=l from rfl,decX_enc f1 hr,resT_norm],by show l.length≤_;omega⟩
 obtain ⟨t1,t2,t3⟩:=fine t ht
 obtain ⟨u1,u2,u3⟩:=fine u hu
 have same:∀ m:Res,sameX m m=okZ (encX m):=fun m=>by unfold sameX;cases okZ (encX m) <;> simp
 refine mres_walk t u (resT t) (resT u) (okZ (encX (resT t))) (okZ (encX (resT u))) (decide (bytZ (encX (resT t))=bytZ (encX (resT u)))) (bytZ (encX (resT t))).length (bytZ (encX (resT u))).length (bytZ (encX (resT t))) (bytZ (encX (resT u))) (strB (bytZ (encX (resT t)))) (strB (bytZ (encX (resT u)))) w
  (qH fun h=>?_) (qH fun h1 h2=>decide_eq_decide.2 ⟨fun e=>?_,fun e=>by rw [e]⟩)
  (qH fun W hb=>mawakeS W (hg.below hb hg.lt))
  (qH fun W hb=>(tres_any t W (ht.below hb)).mono fun e w' ⟨vb,op,tq,x,k1,k2,k3,_,k5,⟨kf,kn⟩,k6⟩=>⟨vb,op,tq,x,k1,XR.of k2 k3 k5 kn,kf,k6⟩)
  (qH fun W hb=>(tres_any u W (hu.below hb)).mono fun e w' ⟨vb,op,tq,x,k1,k2,k3,_,k5,⟨kf,kn⟩,k6⟩=>⟨vb,op,tq,x,k1,XR.of k2 k3 k5 kn,kf,k6⟩)
  (qH fun vb op tq x W h=>eresF _ vb op tq x W h)
  (qH fun vb op tq x W h=>eresF _ vb op tq x W h)
  (qH fun vb op vc oq tq tr x y W h1 h2=>msame_any _ _ vb op vc oq tq tr x y W h1 h2 t1 u1)
  (qH fun vb op vc oq tq tr x y W h1 h2=>same (resT t)▸msame_any _ _ vb op vc oq tq tr x y W h1 h2 t1 t1)
  (qH fun a c W h=>conv_any a _ c _ W h) (qH fun a c W h=>conv_any a _ c _ W h)
  (qH (strB_eq _ _ t1 u1))
  (qH fun hk a c W h=>(rres_any a _ c _ W h t1 t3).mono fun e w' hh=>?_)
  (qH fun x y W hx hy=>psame_any x y W hx hy)
  (qH fun eb n at9 k W h=>keep rfl (is_B _ n at9 _ k W h))
 ·
  cases hr:encX (resT t) with
  | error y=>rfl
  | ok l=>rw [hr] at h;cases h
 ·
  have e1:=t2 h1
  rw [e,u2 h2] at e1
  injection e1 with e1
  exact e1.symm
 ·
  rw [t2 hk] at hh
  obtain ⟨vb,op,tq,x,k1,k2,k3,k4,k5⟩:=hh
  exact ⟨vb,op,tq,x,k1,⟨k2,k3,k4⟩,k5⟩
end Go.Proofs.YtmhainidincjhaaGreatDoor
