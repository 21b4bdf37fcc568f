/-
 What the laws stand on, part Xf: contracts and plain laws of MApp, MShort, MShort2, MAny, MAny2, MSame; the conditions are each law's own.
-/
import Derived.Test.YtmhainidincjhaaGreatDoorBA
import Derived.Test.YtmhainidincjhaaGreatDoorBC
import Derived.Test.YtmhainidincjhaaGreatDoorBU
import Derived.Test.YtmhainidincjhaaGreatDoorBV
import Derived.Test.YtmhainidincjhaaGreatDoorBN
import Derived.Test.YtmhainidincjhaaGreatDoorBXb
import Derived.Test.YtmhainidincjhaaGreatDoorBXc
import Derived.Test.YtmhainidincjhaaGreatDoorBL
import Derived.Test.YtmhainidincjhaaGreatDoorBXd
import Derived.Test.YtmhainidincjhaaGreatDoorBG
import Derived.Test.YtmhainidincjhaaGreatDoorBXa
set_option linter.unusedVariables false
set_option linter.unusedSimpArgs false
set_option maxRecDepth 100000
set_option maxHeartbeats 16000000
namespace Go.Proofs.YtmhainidincjhaaGreatDoor
open Go.RowKit Go.Extern.Stop Go.Stop Go.Extern
def MO (w:World) (y:MsgV):Prop:=y.ok w
theorem MO.lt {w:World} {y:MsgV} (_:MO w y):True:=trivial
theorem MO.below {w w':World} {y:MsgV} (h:MO w y) (hb:Below w.heap.size w w') (_:True):MO w' y:=MsgV.ok.below h hb
section
variable {w W W' : World} {bs : List Bk} {ns : List Nm} {a : Option Addr} {n c : Nat} {xs : List Nat}
theorem YB.cell (h:YB w bs ns a n c xs W) (i j:Nat) {b:Bk} {v:Value} (hi:bs[i]?=some b) (hj:b.cs[j]?=some v):W.cell? ⟨b.p,j,none⟩=some v:=h.st.cell i j hi hj
theorem YB.free (h:YB w bs ns a n c xs W) (i j:Nat) {b:Bk} (hi:bs[i]?=some b):W.frozen? ⟨b.p,j,none⟩=false:=h.st.free i j hi
theorem YB.lt (h:YB w bs ns a n c xs W) (i:Nat) {b:Bk} (hi:bs[i]?=some b):b.p<W.heap.size:=h.st.lt i hi
theorem YB.bel (h:YB w bs ns a n c xs W):Below w.heap.size w W:=h.st.bel
end
theorem layP_err {p:Prt} {k:Int} (h:layP p=.error k):k=270∨k=3:=by
 cases p with
 | num n lo hi=>rw [layP_num] at h;split at h <;> cases h <;> exact .inl rfl
 | idn n=>rw [layP_idn] at h;split at h <;> cases h <;> exact .inl rfl
 | tok t=>rw [layP_tok] at h;split at h <;> cases h <;> exact .inl rfl
 | rat q =>
  rw [layP_rat] at h
  obtain ⟨e1,e2⟩:=enc_size q
  by_cases hs:255<ndig 256 q.num.natAbs∨(q.den≠1∧255<ndig 256 q.den)
  ·
   obtain ⟨f,hf,h3⟩:=e1 hs
   rw [hf] at h
   injection h with h
   exact .inr (h.symm.trans h3)
  ·
   obtain ⟨l,hl,_⟩:=e2 hs
   rw [hl] at h
   cases h
 | i64 n=>rw [layP_i64] at h;cases h
 | raw t=>rw [layP_raw] at h;cases h
 | two n=>rw [layP_two] at h;split at h <;> cases h <;> exact .inl rfl
theorem lays_err:∀ (ps:List Prt) (out:List Nat) (x:Int × Nat),lays (.ok out) ps=.error x→x.1=270∨x.1=3
 | [],out,x,h=>by rw [lays_nil] at h;cases h
 | p::ps,out,x,h=>by
  rw [lays_cons] at h
  cases hb:layP p with
  | error e =>
   rw [show lay1 (.ok out) p=.error (e,out.length) from by unfold lay1;simp only [hb],lays_error] at h
   injection h with h
   subst h
   exact layP_err hb
  | ok b =>
   rw [show lay1 (.ok out) p=.ok (out++b) from by unfold lay1;simp only [hb]] at h
   exact lays_err ps _ x h
def XQ (k:Bool) (m:Res) (ce:Int) (at9:Nat) (vb op:Int) (tq:ByteArray) (x:RepV) (v:Value) (w:World):Prop :=
 (k=false→vb=0∧x.err=0∧∃ eb,v=eF eb∧EB w eb ce at9)∧(k=true→x.ok w∧tq.size≤4294967296∧(⟨vb,op,natB tq,x.rep⟩:Res)=m)
theorem XQ.below {k:Bool} {m:Res} {ce:Int} {at9:Nat} {vb op:Int} {tq:ByteArray} {x:RepV} {v:Value} {w w':World} (h:XQ k m ce at9 vb op tq x v w) (hb:Below w.heap.size w w'):XQ k m ce at9 vb op tq x v w' :=
 ⟨fun hk=>(h.1 hk).imp_right fun h2=>h2.imp_right fun ⟨eb,e,h3⟩=>⟨eb,e,h3.below hb trivial⟩,fun hk=>(h.2 hk).imp_left fun h2=>h2.below hb⟩
theorem Below.setCells {B:Nat} {a:World} {p:Nat} (hp:B≤p):∀ (r:List Value) (o:Nat) (w:World),Below B a w→Below B a (w.setCells p o r)
 | [],_,_,h=>h
 | v::r,o,w,h=>Below.setCells hp r (o+1) (w.setCell ⟨p,o,none⟩ v) (h.setCell hp v)
def okZ:WS→Bool
 | .ok _=>true
 | .error _=>false
def bytZ:WS→List Nat
 | .ok l=>l
 | .error _=>[]
theorem eres_zm (m:Res) (vb op:Int) (tq:ByteArray) (x:RepV) (W:World) (h1:x.ok W) (h2:tq.size≤4294967296) (h3:(⟨vb,op,natB tq,x.rep⟩:Res)=m):Calls Tryz.prog 51 #[.agg #[.int .i64 vb,.int .i64 op,.string tq,.int .i64 x.err,.string x.wher,.int .i64 x.at9,.int .i64 x.id,.int .i64 x.out,.bool x.v.s,.slice x.v.a x.v.l x.v.c,.slice x.v.b x.v.m x.v.d,.slice x.pa x.pn x.pc,.bool x.lo.s,.slice x.lo.a x.lo.l x.lo.c,.slice x.lo.b x.lo.m x.lo.d,.bool x.hi.s,.slice x.hi.a x.hi.l x.hi.c,.slice x.hi.b x.hi.m x.hi.d,.bool x.hl,.bool x.hh,.int .i64 x.u0,.int .i64 x.u1,.int .i64 x.u2]] W (RetM (encX m) W) :=
 h3▸eres_any vb op tq x W h1 h2
def XR (m:Res) (vb op:Int) (tq:ByteArray) (x:RepV) (w:World):Prop:=x.ok w∧tq.size≤4294967296∧(⟨vb,op,natB tq,x.rep⟩:Res)=m∧∀ k,(Value.slice x.pa x.pn x.pc).ownBlock=some k→k<w.heap.size
theorem XR.below {m:Res} {vb op:Int} {tq:ByteArray} {x:RepV} {w w':World} (h:XR m vb op tq x w) (hb:Below w.heap.size w w'):XR m vb op tq x w':=⟨h.1.below hb,h.2.1,h.2.2.1,fun k hk=>Nat.lt_of_lt_of_le (h.2.2.2 k hk) hb.size⟩
def NB (x:RepV) (p:Nat):Prop:=∀ k,(Value.slice x.pa x.pn x.pc).ownBlock=some k→k≠p
theorem Keeps.setCells {p:Nat}:∀ (r:List Value) (o:Nat) (w:World),Keeps w (w.setCells p o r) (fun k=>k=p)
 | [],_,w=>Keeps.refl w _
 | v::r,o,w=>(Keeps.setCell w ⟨p,o,none⟩ v (S:=fun k=>k=p) rfl).trans (Keeps.setCells r (o+1) (w.setCell ⟨p,o,none⟩ v)) fun _ _ h=>h
theorem XR.store {m:Res} {vb op:Int} {tq:ByteArray} {x:RepV} {w W:World} {bs:List Bk} {ns:List Nm} (h:XR m vb op tq x W) (HB:BS w bs ns W) (i:Nat) {b:Bk} (hi:bs[i]?=some b) (hT:b.T≠164) (hn:NB x b.p) (vs:List Value):XR m vb op tq x (W.setCells b.p 0 vs):=by
 have hk:=Keeps.setCells (p:=b.p) vs 0 W
 have hw:∀ k,k=b.p→¬ WordB W k:=fun k e ⟨cs,hc⟩=>by
  subst e
  rw [HB.at i hi] at hc
  injection hc with hc
  injection hc with _ hc
  exact hT hc
 obtain ⟨q,h2,h3,h4⟩:=h
 exact ⟨⟨q.wh,q.v.keeps hk hw,q.v1,q.v2,⟨q.ps.len,q.ps.sl.keeps hk fun k _ e=>hn k e,fun v hv=>(q.ps.ok v hv).keeps hk hw⟩,q.ps1,q.pn,q.lo.keeps hk hw,q.lo1,q.lo2,q.hi.keeps hk hw,q.hi1,q.hi2⟩,h2,h3,fun k hk2=>Nat.lt_of_lt_of_le (h4 k hk2) hk.size⟩
def sameX (m1 m2:Res):Bool:=okZ (encX m1) && okZ (encX m2) && decide (bytZ (encX m1)=bytZ (encX m2))
theorem eresF (m:Res) (vb op:Int) (tq:ByteArray) (x:RepV) (W:World) (h:XR m vb op tq x W):Calls Tryz.prog 51 #[.agg #[.int .i64 vb,.int .i64 op,.string tq,.int .i64 x.err,.string x.wher,.int .i64 x.at9,.int .i64 x.id,.int .i64 x.out,.bool x.v.s,.slice x.v.a x.v.l x.v.c,.slice x.v.b x.v.m x.v.d,.slice x.pa x.pn x.pc,.bool x.lo.s,.slice x.lo.a x.lo.l x.lo.c,.slice x.lo.b x.lo.m x.lo.d,.bool x.hi.s,.slice x.hi.a x.hi.l x.hi.c,.slice x.hi.b x.hi.m x.hi.d,.bool x.hl,.bool x.hh,.int .i64 x.u0,.int .i64 x.u1,.int .i64 x.u2]] W fun e w'=>∃ a2 c2 v,e=.returned (.tuple #[.slice a2 (bytZ (encX m)).length c2,v])∧OptE (okZ (encX m)) v∧SB w' a2 (bytZ (encX m)).length c2 (bytZ (encX m))∧(okZ (encX m)=false→∃ eb k at9,v=eF eb∧EB w' eb k at9∧(k=270∨k=3))∧Below W.heap.size W w' :=
 (eres_zm m vb op tq x W h.1 h.2.1 h.2.2.1).mono fun e w' hh=>by
  cases hr:encX m with
  | error y =>
   rw [hr] at hh
   obtain ⟨v,k1,k2,k3⟩:=hh
   have k4:=k2
   obtain ⟨eb,u,rfl,_⟩:=k2
   exact ⟨none,0,_,k1,⟨_,_,rfl⟩,Sl.ofMid (Mid.nil w' 0 5 1),fun _=>⟨eb,y.1,y.2,rfl,k4,lays_err _ _ _ hr⟩,k3⟩
  | ok l =>
   rw [hr] at hh
   obtain ⟨a4,c4,k1,k2,k3⟩:=hh
   exact ⟨a4,c4,_,k1,rfl,Sl.ofMid k2,fun h=>(by cases h),k3⟩
theorem strB_eq (u v:List Nat) (hu:∀ x,x∈u→x<256) (hv:∀ x,x∈v→x<256):((strB u).toList==(strB v).toList)=decide (u=v):=by
 by_cases h:u=v
 ·
  subst h;simp
 ·
  rw [decide_eq_false h]
  exact (Lib.bytes_beq_false_iff _ _).2 fun e=>h (by rw [← natB_strB hu,e,natB_strB hv])
theorem beq_any (a b:Option Addr) (n c m d:Nat) (u v:List Nat) (hu:∀ x,x∈u→x<256) (hv:∀ x,x∈v→x<256) (w:World) (h1:SB w a n c u) (h2:SB w b m d v):Calls Tryz.prog 119 #[.slice a n c,.slice b m d] w fun e w'=>e=.returned (.bool (decide (u=v)))∧Below w.heap.size w w':=by
 have q1:=conv_any a n c u w h1
 have q2:=conv_any b m d v w h2
 have q3:=strB_eq u v hu hv
 obtain ⟨zz,hz⟩:∃ z,decide (u=v)=z:=⟨_,rfl⟩
 rw [hz] at q3 ⊢
 clear hz h1 h2
 go_enter Tryz.func119,Tryz.ntmps119
 go_wp2_with fail
 refine bodyPost_ret (v:=.bool zz) (by simp [results,Tryz.results119,go_sem]) rfl ?_
 exact ⟨rfl,Below.refl _ _⟩
theorem msame_walk (vb op vc oq:Int) (tq tr:ByteArray) (x y:RepV) (k1 k2 bq:Bool) (z1 z2:Nat) (l1 l2:List Nat) (w:World)
  (HE1:Hid (∀ W,Below w.heap.size w W→Calls Tryz.prog 51 #[.agg #[.int .i64 vb,.int .i64 op,.string tq,.int .i64 x.err,.string x.wher,.int .i64 x.at9,.int .i64 x.id,.int .i64 x.out,.bool x.v.s,.slice x.v.a x.v.l x.v.c,.slice x.v.b x.v.m x.v.d,.slice x.pa x.pn x.pc,.bool x.lo.s,.slice x.lo.a x.lo.l x.lo.c,.slice x.lo.b x.lo.m x.lo.d,.bool x.hi.s,.slice x.hi.a x.hi.l x.hi.c,.slice x.hi.b x.hi.m x.hi.d,.bool x.hl,.bool x.hh,.int .i64 x.u0,.int .i64 x.u1,.int .i64 x.u2]] W fun e w'=>∃ a2 c2 v,e=.returned (.tuple #[.slice a2 z1 c2,v])∧OptE k1 v∧SB w' a2 z1 c2 l1∧Below W.heap.size W w'))
  (HE2:Hid (∀ W,Below w.heap.size w W→Calls Tryz.prog 51 #[.agg #[.int .i64 vc,.int .i64 oq,.string tr,.int .i64 y.err,.string y.wher,.int .i64 y.at9,.int .i64 y.id,.int .i64 y.out,.bool y.v.s,.slice y.v.a y.v.l y.v.c,.slice y.v.b y.v.m y.v.d,.slice y.pa y.pn y.pc,.bool y.lo.s,.slice y.lo.a y.lo.l y.lo.c,.slice y.lo.b y.lo.m y.lo.d,.bool y.hi.s,.slice y.hi.a y.hi.l y.hi.c,.slice y.hi.b y.hi.m y.hi.d,.bool y.hl,.bool y.hh,.int .i64 y.u0,.int .i64 y.u1,.int .i64 y.u2]] W fun e w'=>∃ a2 c2 v,e=.returned (.tuple #[.slice a2 z2 c2,v])∧OptE k2 v∧SB w' a2 z2 c2 l2∧Below W.heap.size W w'))
  (HEQ:Hid (∀ a c b d W,SB W a z1 c l1→SB W b z2 d l2→Calls Tryz.prog 119 #[.slice a z1 c,.slice b z2 d] W fun e w'=>e=.returned (.bool bq)∧Below W.heap.size W w')) :
  Calls Tryz.prog 53 #[.agg #[.int .i64 vb,.int .i64 op,.string tq,.int .i64 x.err,.string x.wher,.int .i64 x.at9,.int .i64 x.id,.int .i64 x.out,.bool x.v.s,.slice x.v.a x.v.l x.v.c,.slice x.v.b x.v.m x.v.d,.slice x.pa x.pn x.pc,.bool x.lo.s,.slice x.lo.a x.lo.l x.lo.c,.slice x.lo.b x.lo.m x.lo.d,.bool x.hi.s,.slice x.hi.a x.hi.l x.hi.c,.slice x.hi.b x.hi.m x.hi.d,.bool x.hl,.bool x.hh,.int .i64 x.u0,.int .i64 x.u1,.int .i64 x.u2],.agg #[.int .i64 vc,.int .i64 oq,.string tr,.int .i64 y.err,.string y.wher,.int .i64 y.at9,.int .i64 y.id,.int .i64 y.out,.bool y.v.s,.slice y.v.a y.v.l y.v.c,.slice y.v.b y.v.m y.v.d,.slice y.pa y.pn y.pc,.bool y.lo.s,.slice y.lo.a y.lo.l y.lo.c,.slice y.lo.b y.lo.m y.lo.d,.bool y.hi.s,.slice y.hi.a y.hi.l y.hi.c,.slice y.hi.b y.hi.m y.hi.d,.bool y.hl,.bool y.hh,.int .i64 y.u0,.int .i64 y.u1,.int .i64 y.u2]] w fun e w'=>e=.returned (.bool (k1 && k2 && bq))∧Below w.heap.size w w':=by
 obtain ⟨W0,hW0⟩:∃ W0,W0=((w.alloc (.cells #[.int .i64 vb,.int .i64 op,.string tq,.int .i64 x.err,.string x.wher,.int .i64 x.at9,.int .i64 x.id,.int .i64 x.out,.bool x.v.s,.slice x.v.a x.v.l x.v.c,.slice x.v.b x.v.m x.v.d,.slice x.pa x.pn x.pc,.bool x.lo.s,.slice x.lo.a x.lo.l x.lo.c,.slice x.lo.b x.lo.m x.lo.d,.bool x.hi.s,.slice x.hi.a x.hi.l x.hi.c,.slice x.hi.b x.hi.m x.hi.d,.bool x.hl,.bool x.hh,.int .i64 x.u0,.int .i64 x.u1,.int .i64 x.u2] 125)).alloc (.cells #[.int .i64 vc,.int .i64 oq,.string tr,.int .i64 y.err,.string y.wher,.int .i64 y.at9,.int .i64 y.id,.int .i64 y.out,.bool y.v.s,.slice y.v.a y.v.l y.v.c,.slice y.v.b y.v.m y.v.d,.slice y.pa y.pn y.pc,.bool y.lo.s,.slice y.lo.a y.lo.l y.lo.c,.slice y.lo.b y.lo.m y.lo.d,.bool y.hi.s,.slice y.hi.a y.hi.l y.hi.c,.slice y.hi.b y.hi.m y.hi.d,.bool y.hl,.bool y.hh,.int .i64 y.u0,.int .i64 y.u1,.int .i64 y.u2] 125)):=⟨_,rfl⟩
 have hbs:BS w [⟨w.heap.size,125,[.int .i64 vb,.int .i64 op,.string tq,.int .i64 x.err,.string x.wher,.int .i64 x.at9,.int .i64 x.id,.int .i64 x.out,.bool x.v.s,.slice x.v.a x.v.l x.v.c,.slice x.v.b x.v.m x.v.d,.slice x.pa x.pn x.pc,.bool x.lo.s,.slice x.lo.a x.lo.l x.lo.c,.slice x.lo.b x.lo.m x.lo.d,.bool x.hi.s,.slice x.hi.a x.hi.l x.hi.c,.slice x.hi.b x.hi.m x.hi.d,.bool x.hl,.bool x.hh,.int .i64 x.u0,.int .i64 x.u1,.int .i64 x.u2]⟩,⟨w.heap.size+1,125,[.int .i64 vc,.int .i64 oq,.string tr,.int .i64 y.err,.string y.wher,.int .i64 y.at9,.int .i64 y.id,.int .i64 y.out,.bool y.v.s,.slice y.v.a y.v.l y.v.c,.slice y.v.b y.v.m y.v.d,.slice y.pa y.pn y.pc,.bool y.lo.s,.slice y.lo.a y.lo.l y.lo.c,.slice y.lo.b y.lo.m y.lo.d,.bool y.hi.s,.slice y.hi.a y.hi.l y.hi.c,.slice y.hi.b y.hi.m y.hi.d,.bool y.hl,.bool y.hh,.int .i64 y.u0,.int .i64 y.u1,.int .i64 y.u2]⟩] [] ((w.alloc (.cells #[.int .i64 vb,.int .i64 op,.string tq,.int .i64 x.err,.string x.wher,.int .i64 x.at9,.int .i64 x.id,.int .i64 x.out,.bool x.v.s,.slice x.v.a x.v.l x.v.c,.slice x.v.b x.v.m x.v.d,.slice x.pa x.pn x.pc,.bool x.lo.s,.slice x.lo.a x.lo.l x.lo.c,.slice x.lo.b x.lo.m x.lo.d,.bool x.hi.s,.slice x.hi.a x.hi.l x.hi.c,.slice x.hi.b x.hi.m x.hi.d,.bool x.hl,.bool x.hh,.int .i64 x.u0,.int .i64 x.u1,.int .i64 x.u2] 125)).alloc (.cells #[.int .i64 vc,.int .i64 oq,.string tr,.int .i64 y.err,.string y.wher,.int .i64 y.at9,.int .i64 y.id,.int .i64 y.out,.bool y.v.s,.slice y.v.a y.v.l y.v.c,.slice y.v.b y.v.m y.v.d,.slice y.pa y.pn y.pc,.bool y.lo.s,.slice y.lo.a y.lo.l y.lo.c,.slice y.lo.b y.lo.m y.lo.d,.bool y.hi.s,.slice y.hi.a y.hi.l y.hi.c,.slice y.hi.b y.hi.m y.hi.d,.bool y.hl,.bool y.hh,.int .i64 y.u0,.int .i64 y.u1,.int .i64 y.u2] 125)) :=
   (((BS.start w).alloc (p:=w.heap.size) rfl 125 [.int .i64 vb,.int .i64 op,.string tq,.int .i64 x.err,.string x.wher,.int .i64 x.at9,.int .i64 x.id,.int .i64 x.out,.bool x.v.s,.slice x.v.a x.v.l x.v.c,.slice x.v.b x.v.m x.v.d,.slice x.pa x.pn x.pc,.bool x.lo.s,.slice x.lo.a x.lo.l x.lo.c,.slice x.lo.b x.lo.m x.lo.d,.bool x.hi.s,.slice x.hi.a x.hi.l x.hi.c,.slice x.hi.b x.hi.m x.hi.d,.bool x.hl,.bool x.hh,.int .i64 x.u0,.int .i64 x.u1,.int .i64 x.u2] rfl).alloc (p:=w.heap.size+1) (by simp) 125 [.int .i64 vc,.int .i64 oq,.string tr,.int .i64 y.err,.string y.wher,.int .i64 y.at9,.int .i64 y.id,.int .i64 y.out,.bool y.v.s,.slice y.v.a y.v.l y.v.c,.slice y.v.b y.v.m y.v.d,.slice y.pa y.pn y.pc,.bool y.lo.s,.slice y.lo.a y.lo.l y.lo.c,.slice y.lo.b y.lo.m y.lo.d,.bool y.hi.s,.slice y.hi.a y.hi.l y.hi.c,.slice y.hi.b y.hi.m y.hi.d,.bool y.hl,.bool y.hh,.int .i64 y.u0,.int .i64 y.u1,.int .i64 y.u2] rfl)
 rw [← hW0] at hbs
 have HW0:=qH hW0
 have HN:=qH hbs
 clear hW0 hbs
 go_enter Tryz.func53,Tryz.ntmps53
 go_upto_region 1 with fail
 rw [← HW0.out]
 obtain ⟨dX,hdu,hdr⟩:=Option.map_eq_some_iff.1 Tryz.rowX
 have HDU:=qH hdu
 have HDR:=qH hdr
 clear hdu hdr
 go_wp2_with (refine wpList_load_mid rfl 125 _ rfl (w.heap.size) 0 rfl [.int .i64 vb,.int .i64 op,.string tq,.int .i64 x.err,.string x.wher,.int .i64 x.at9,.int .i64 x.id,.int .i64 x.out,.bool x.v.s,.slice x.v.a x.v.l x.v.c,.slice x.v.b x.v.m x.v.d,.slice x.pa x.pn x.pc,.bool x.lo.s,.slice x.lo.a x.lo.l x.lo.c,.slice x.lo.b x.lo.m x.lo.d,.bool x.hi.s,.slice x.hi.a x.hi.l x.hi.c,.slice x.hi.b x.hi.m x.hi.d,.bool x.hl,.bool x.hh,.int .i64 x.u0,.int .i64 x.u1,.int .i64 x.u2] dX (range_all (HN.out.at 0 rfl)) HDU.out HDR.out Tryz.sizX ?_)
 refine (HE1.out _ HN.out.bel).mono ?_
 rintro e w1 ⟨a1,c1,v1,rfl,ho,hs,hb⟩
 replace HN:=qH (HN.out.call hb)
 have HO1:=qH ho
 have HS1:=qH hs
 clear ho hs hb
 go_wp2_with (refine wpList_load_mid rfl 125 _ rfl (w.heap.size+1) 0 rfl [.int .i64 vc,.int .i64 oq,.string tr,.int .i64 y.err,.string y.wher,.int .i64 y.at9,.int .i64 y.id,.int .i64 y.out,.bool y.v.s,.slice y.v.a y.v.l y.v.c,.slice y.v.b y.v.m y.v.d,.slice y.pa y.pn y.pc,.bool y.lo.s,.slice y.lo.a y.lo.l y.lo.c,.slice y.lo.b y.lo.m y.lo.d,.bool y.hi.s,.slice y.hi.a y.hi.l y.hi.c,.slice y.hi.b y.hi.m y.hi.d,.bool y.hl,.bool y.hh,.int .i64 y.u0,.int .i64 y.u1,.int .i64 y.u2] dX (range_all (HN.out.at 1 rfl)) HDU.out HDR.out Tryz.sizX ?_)
 refine (HE2.out _ HN.out.bel).mono ?_
 rintro e w2 ⟨a2,c2,v2,rfl,ho,hs,hb⟩
 replace HN:=qH (HN.out.call hb)
 replace HS1:=qH (HS1.out.below hb trivial)
 have HO2:=qH ho
 have HS2:=qH hs
 clear ho hs hb
 cases k1 with
 | false =>
  obtain ⟨T1,t1,rfl⟩:=HO1.out.err
  go_wp2_with fail
  refine bodyPost_ret (v:=.bool false) (by simp [results,Tryz.results53,go_sem]) rfl ?_
  exact ⟨rfl,HN.out.bel⟩
 | true =>
 obtain rfl:=HO1.out.ok
 cases k2 with
 | false =>
  obtain ⟨T1,t1,rfl⟩:=HO2.out.err
  go_wp2_with fail
  refine bodyPost_ret (v:=.bool false) (by simp [results,Tryz.results53,go_sem]) rfl ?_
  exact ⟨rfl,HN.out.bel⟩
 | true =>
 obtain rfl:=HO2.out.ok
 go_wp2_with fail
 refine (HEQ.out _ _ _ _ _ HS1.out HS2.out).mono ?_
 rintro e w3 ⟨rfl,hb⟩
 replace HN:=qH (HN.out.call hb)
 clear hb
 go_wp2_with fail
 refine bodyPost_ret (v:=.bool bq) (by simp [results,Tryz.results53,go_sem]) rfl ?_
 exact ⟨rfl,HN.out.bel⟩
theorem msame_any (m1 m2:Res) (vb op vc oq:Int) (tq tr:ByteArray) (x y:RepV) (w:World) (hx:XR m1 vb op tq x w) (hy:XR m2 vc oq tr y w) (b1:∀ x,x∈bytZ (encX m1)→x<256) (b2:∀ x,x∈bytZ (encX m2)→x<256) :
  Calls Tryz.prog 53 #[.agg #[.int .i64 vb,.int .i64 op,.string tq,.int .i64 x.err,.string x.wher,.int .i64 x.at9,.int .i64 x.id,.int .i64 x.out,.bool x.v.s,.slice x.v.a x.v.l x.v.c,.slice x.v.b x.v.m x.v.d,.slice x.pa x.pn x.pc,.bool x.lo.s,.slice x.lo.a x.lo.l x.lo.c,.slice x.lo.b x.lo.m x.lo.d,.bool x.hi.s,.slice x.hi.a x.hi.l x.hi.c,.slice x.hi.b x.hi.m x.hi.d,.bool x.hl,.bool x.hh,.int .i64 x.u0,.int .i64 x.u1,.int .i64 x.u2],.agg #[.int .i64 vc,.int .i64 oq,.string tr,.int .i64 y.err,.string y.wher,.int .i64 y.at9,.int .i64 y.id,.int .i64 y.out,.bool y.v.s,.slice y.v.a y.v.l y.v.c,.slice y.v.b y.v.m y.v.d,.slice y.pa y.pn y.pc,.bool y.lo.s,.slice y.lo.a y.lo.l y.lo.c,.slice y.lo.b y.lo.m y.lo.d,.bool y.hi.s,.slice y.hi.a y.hi.l y.hi.c,.slice y.hi.b y.hi.m y.hi.d,.bool y.hl,.bool y.hh,.int .i64 y.u0,.int .i64 y.u1,.int .i64 y.u2]] w fun e w'=>e=.returned (.bool (sameX m1 m2))∧Below w.heap.size w w' :=
 msame_walk vb op vc oq tq tr x y (okZ (encX m1)) (okZ (encX m2)) (decide (bytZ (encX m1)=bytZ (encX m2))) _ _ (bytZ (encX m1)) (bytZ (encX m2)) w
  (qH fun W hb=>(eresF m1 vb op tq x W (hx.below hb)).mono fun e w' ⟨a,c,v,h1,h2,h3,_,h5⟩=>⟨a,c,v,h1,h2,h3,h5⟩)
  (qH fun W hb=>(eresF m2 vc oq tr y W (hy.below hb)).mono fun e w' ⟨a,c,v,h1,h2,h3,_,h5⟩=>⟨a,c,v,h1,h2,h3,h5⟩)
  (qH fun a c b d W h1 h2=>beq_any a b _ c _ d _ _ b1 b2 W h1 h2)
end Go.Proofs.YtmhainidincjhaaGreatDoor
