/-
 The walk of the law MessageResults: what the functions answer, handed over; whether something went wrong is told by flags.
 Printed by a program of this repository (wip/mg85.py).
-/
import Derived.Test.YtmhainidincjhaaGreatDoorBXf
import Derived.Test.YtmhainidincjhaaGreatDoorBXe
import Derived.Test.YtmhainidincjhaaGreatDoorBA
set_option linter.unusedVariables false
set_option linter.unusedSimpArgs false
set_option maxRecDepth 100000
set_option maxHeartbeats 16000000
namespace Go.Proofs.YtmhainidincjhaaGreatDoor
open Go.RowKit Go.Extern.Stop Go.Stop Go.Extern
def XS (m:Res) (vb op:Int) (tq:ByteArray) (x:RepV) (w:World):Prop:=x.ok w∧tq.size≤4294967296∧(⟨vb,op,natB tq,x.rep⟩:Res)=m
theorem XS.below {m:Res} {vb op:Int} {tq:ByteArray} {x:RepV} {w w':World} (h:XS m vb op tq x w) (hb:Below w.heap.size w w'):XS m vb op tq x w':=⟨h.1.below hb,h.2⟩
def RetXR (m:Res) (W:World) (e:Ending) (w':World):Prop:=∃ (vb op:Int) (tq:ByteArray) (x:RepV),e=.returned (.agg #[.int .i64 vb,.int .i64 op,.string tq,.int .i64 x.err,.string x.wher,.int .i64 x.at9,.int .i64 x.id,.int .i64 x.out,.bool x.v.s,.slice x.v.a x.v.l x.v.c,.slice x.v.b x.v.m x.v.d,.slice x.pa x.pn x.pc,.bool x.lo.s,.slice x.lo.a x.lo.l x.lo.c,.slice x.lo.b x.lo.m x.lo.d,.bool x.hi.s,.slice x.hi.a x.hi.l x.hi.c,.slice x.hi.b x.hi.m x.hi.d,.bool x.hl,.bool x.hh,.int .i64 x.u0,.int .i64 x.u1,.int .i64 x.u2])∧XR m vb op tq x w'∧(∀ k,(Value.slice x.pa x.pn x.pc).ownBlock=some k→W.heap.size≤k)∧Below W.heap.size W w'
theorem range_from {w:World} {T:TypeId} {b:Nat} {vs cs:List Value} (hb:w.heap[b]?=some (.cells vs.toArray T (0,0))) (o:Nat) (hd:vs.drop o=cs):w.rangeAt b o cs:=fun j v hj=>by
 subst hd
 rw [List.getElem?_drop] at hj
 exact cell_of_block hb (by simpa using hj)
theorem XR.stored {m:Res} {vb op:Int} {tq:ByteArray} {x:RepV} {w W W':World} {bs:List Bk} {ns:List Nm} (h:XR m vb op tq x W) (HB:BS w bs ns W) (i:Nat) {b:Bk} (hi:bs[i]?=some b) (hT:b.T≠164) (hn:NB x b.p) {vs:List Value} (e:Hid (W'=W.setCells b.p 0 vs)):XR m vb op tq x W':=by
 rw [e.out]
 exact h.store HB i hi hT hn vs
theorem Below.stored {w W:World} {o:Obj} {l:List Value} (e:Hid (W=(w.alloc o).setCells w.heap.size 0 l)):Below w.heap.size w W:=by
 rw [e.out]
 exact Below.setCells (Nat.le_refl _) l 0 _ (belowBox w o)
theorem Below.alloced {w W:World} {o:Obj} (e:Hid (W=w.alloc o)):Below w.heap.size w W:=by
 rw [e.out]
 exact belowBox w o
theorem BS.alloced {w0 w W:World} {bs:List Bk} {ns:List Nm} (h:BS w0 bs ns w) {p:Nat} (hp:w.heap.size=p) {T:TypeId} {l:List Value} (e:Hid (W=w.alloc (.cells l.toArray T))):BS w0 (bs++[⟨p,T,l⟩]) ns W:=by
 subst hp
 rw [e.out]
 exact h.alloc rfl T l rfl
theorem al {K:Act→World→Prop} {a:Act} {w:World} {o:Obj} (h:∀ W,Hid (W=w.alloc o)→K a W):K a (w.alloc o):=h _ (qH rfl)
theorem wp_store_new {P:Program} {op:Oper} {a:Act} {w:World} {K:Act→World→Prop} {Q:Exit→Act→World→Prop} (ty:TypeId) (x y:Operand) (ho:op.op=.store ty x y)
  (b o:Nat) (l:List Value) (hx:a.eval x=.pointer (some ⟨b,o,none⟩)) (hy:a.eval y=.agg l.toArray)
  (ht:w.there b o l.length) (hi:(P.info? ty).map (·.size)=some l.length) (h1:l.toArray.all (·.oneCell')=true)
  (h:∀ W,Hid (W=w.setCells b o l)→K (a.put op.dst undef) W):op.wp P a w K Q :=
 wp_store_mid ty x y ho b o l.toArray hx hy ht hi h1 (h _ (qH rfl))
theorem gload {P:Program} {ops:Array Oper} {rest:List Oper} {op:Oper} {a:Act} {w:World} {Q:Exit→Act→World→Prop} (hw:Region.wanted op (yielded ops a.tmps)=true) (ty:TypeId) (x:Operand) (ho:op.op=.load ty x)
  (b o:Nat) (hx:a.eval x=.pointer (some ⟨b,o,none⟩)) (cs:List Value) (d:TypeDesc) (hc:w.rangeAt b o cs)
  (hu:P.underlying ty=some d) (hd:d.isRow=true) (hi:(P.info? ty).map (·.size)=some cs.length)
  (h:wpList P ops Q rest (a.put op.dst (.agg cs.toArray)) w):wpList P ops Q (op::rest) a w :=
 BigFrame.wpList_want hw fun _ hK=>wp_load_mid ty x ho b o hx cs d hc hu hd hi (hK _ _ h)
theorem tb {P:Program} {md:Region.Mode} {ops:Array Oper} {Q:Exit→Act→World→Prop} {S:World→Prop} (i:Nat) (dst:Option Tmp) {oi:Oper} {x:Operand} {fuel:Nat} {listed:Array Bool} {a a2:Act} {w:World} (ty:TypeId) (b o:Nat) {cs:List Value} (d:TypeDesc) (hS:∀ w,S w→w.rangeAt b o cs)
  (hu:P.underlying ty=some d) (hd:d.isRow=true) (hz:(P.info? ty).map (·.size)=some cs.length) (h:wpAnyH P md ops Q S fuel (listed.setIfInBounds i true) a2 w) (hi:ops[i]?=some oi:=by rfl) (he:oi.dst=dst:=by rfl) (ho:oi.op=.load ty x:=by rfl) (hx:a.eval x=.pointer (some ⟨b,o,none⟩):=by rfl) (ha:a.put dst (.agg cs.toArray)=a2:=by (try simp only [Act.put,stB,stZ,stS]);exact rfl)
  (hs:Region.noSelect ops=true:=by kernel_rfl) (hf:Region.free md ops listed i=true:=by kernel_rfl) (hr:(Region.ready md ops listed).contains i=true:=by kernel_rfl)
  (hQ:∀ c a w,Q (.panic c) (a.put dst (.agg cs.toArray)) w→Q (.panic c) a w:=by exact fun _ _ _ h=>h) (hw:Region.wanted oi (yielded ops a.tmps)=true:=by rfl) (hS1:S w:=by assumption):wpAnyH P md ops Q S (fuel+1) listed a w:=by
 subst ha
 exact takeH hi he hs hf hr hQ (yieldsIf_load_mid hw ty x ho b o hx cs d hS hu hd hz) hS1 h
theorem ts {P:Program} {md:Region.Mode} {ops:Array Oper} {Q:Exit→Act→World→Prop} {S:World→Prop} (i:Nat) (d:Option Tmp) {oi:Oper} {fuel:Nat} {listed:Array Bool} {a a2:Act} {w:World} (h:wpAnyH P md ops Q S fuel (listed.setIfInBounds i true) a2 w) (hi:ops[i]?=some oi:=by rfl) (hd:oi.dst=d:=by rfl) (ha:a.put d undef=a2:=by (try simp only [Act.put,stB,stZ,stS]);exact rfl)
  (hs:Region.noSelect ops=true:=by kernel_rfl) (hf:Region.free md ops listed i=true:=by kernel_rfl) (hr:(Region.ready md ops listed).contains i=true:=by kernel_rfl)
  (hQ:∀ c a w,Q (.panic c) (a.put d undef) w→Q (.panic c) a w:=by exact fun _ _ _ h=>h) (hw:Region.wanted oi (yielded ops a.tmps)=false:=by rfl) (hS:S w:=by assumption):wpAnyH P md ops Q S (fuel+1) listed a w:=by
 subst ha
 exact takeH hi hd hs hf hr hQ (.inr ⟨hw,rfl⟩) hS h
instance (a b:Res):Decidable (a=b):=decidable_of_iff (a.verb=b.verb∧a.op=b.op∧a.token=b.token∧a.rep=b.rep) (by
 constructor
 ·
  rintro ⟨h0,h1,h2,h3⟩
  cases a;cases b
  simp only at h0 h1 h2 h3
  simp only [h0,h1,h2,h3]
 ·
  rintro rfl;exact ⟨rfl,rfl,rfl,rfl⟩)
theorem mres_walk (t u:TolV) (m1 m2:Res) (k1 k2 bq:Bool) (z1 z2:Nat) (l1 l2:List Nat) (s1 s2:ByteArray) (w:World)
  (HZ1:Hid (k1=false→z1=0)) (HBQ:Hid (k1=true→k2=true→bq=decide (m1=m2)))
  (HAW:Hid (∀ W,Below w.heap.size w W→Calls Tryz.prog 16 #[] W (fun e w'=>e=.returned (.bool true)∧Below W.heap.size W w')))
  (HR1:Hid (∀ W,Below w.heap.size w W→Calls Tryz.prog 52 #[.agg #[.int .i64 t.verb,.int .i64 t.op,.int .i64 t.err,.int .i64 t.at9,.int .i64 t.id,.string t.tq,.string t.wher,.int .i64 t.u0,.int .i64 t.u1,.int .i64 t.u2,.int .u8 (t.oc:Nat),.bool t.v.sg,.slice t.v.a t.v.n t.v.c,.slice t.v.b t.v.m t.v.d,.slice t.pa t.pn t.pc,.bool t.h0,.bool t.h1]] W (RetXR m1 W)))
  (HR2:Hid (∀ W,Below w.heap.size w W→Calls Tryz.prog 52 #[.agg #[.int .i64 u.verb,.int .i64 u.op,.int .i64 u.err,.int .i64 u.at9,.int .i64 u.id,.string u.tq,.string u.wher,.int .i64 u.u0,.int .i64 u.u1,.int .i64 u.u2,.int .u8 (u.oc:Nat),.bool u.v.sg,.slice u.v.a u.v.n u.v.c,.slice u.v.b u.v.m u.v.d,.slice u.pa u.pn u.pc,.bool u.h0,.bool u.h1]] W (RetXR m2 W)))
  (HE1:Hid (∀ vb op tq x W,XR m1 vb op tq x W→Calls Tryz.prog 51 #[.agg #[.int .i64 vb,.int .i64 op,.string tq,.int .i64 x.err,.string x.wher,.int .i64 x.at9,.int .i64 x.id,.int .i64 x.out,.bool x.v.s,.slice x.v.a x.v.l x.v.c,.slice x.v.b x.v.m x.v.d,.slice x.pa x.pn x.pc,.bool x.lo.s,.slice x.lo.a x.lo.l x.lo.c,.slice x.lo.b x.lo.m x.lo.d,.bool x.hi.s,.slice x.hi.a x.hi.l x.hi.c,.slice x.hi.b x.hi.m x.hi.d,.bool x.hl,.bool x.hh,.int .i64 x.u0,.int .i64 x.u1,.int .i64 x.u2]] W fun e w'=>∃ a2 c2 v,e=.returned (.tuple #[.slice a2 z1 c2,v])∧OptE k1 v∧SB w' a2 z1 c2 l1∧(k1=false→∃ eb n at9,v=eF eb∧EB w' eb n at9∧(n=270∨n=3))∧Below W.heap.size W w'))
  (HE2:Hid (∀ vb op tq x W,XR m2 vb op tq x W→Calls Tryz.prog 51 #[.agg #[.int .i64 vb,.int .i64 op,.string tq,.int .i64 x.err,.string x.wher,.int .i64 x.at9,.int .i64 x.id,.int .i64 x.out,.bool x.v.s,.slice x.v.a x.v.l x.v.c,.slice x.v.b x.v.m x.v.d,.slice x.pa x.pn x.pc,.bool x.lo.s,.slice x.lo.a x.lo.l x.lo.c,.slice x.lo.b x.lo.m x.lo.d,.bool x.hi.s,.slice x.hi.a x.hi.l x.hi.c,.slice x.hi.b x.hi.m x.hi.d,.bool x.hl,.bool x.hh,.int .i64 x.u0,.int .i64 x.u1,.int .i64 x.u2]] W fun e w'=>∃ a2 c2 v,e=.returned (.tuple #[.slice a2 z2 c2,v])∧OptE k2 v∧SB w' a2 z2 c2 l2∧(k2=false→∃ eb n at9,v=eF eb∧EB w' eb n at9∧(n=270∨n=3))∧Below W.heap.size W w'))
  (HS12:Hid (∀ vb op vc oq tq tr x y W,XR m1 vb op tq x W→XR m2 vc oq tr y W→Calls Tryz.prog 53 #[.agg #[.int .i64 vb,.int .i64 op,.string tq,.int .i64 x.err,.string x.wher,.int .i64 x.at9,.int .i64 x.id,.int .i64 x.out,.bool x.v.s,.slice x.v.a x.v.l x.v.c,.slice x.v.b x.v.m x.v.d,.slice x.pa x.pn x.pc,.bool x.lo.s,.slice x.lo.a x.lo.l x.lo.c,.slice x.lo.b x.lo.m x.lo.d,.bool x.hi.s,.slice x.hi.a x.hi.l x.hi.c,.slice x.hi.b x.hi.m x.hi.d,.bool x.hl,.bool x.hh,.int .i64 x.u0,.int .i64 x.u1,.int .i64 x.u2],.agg #[.int .i64 vc,.int .i64 oq,.string tr,.int .i64 y.err,.string y.wher,.int .i64 y.at9,.int .i64 y.id,.int .i64 y.out,.bool y.v.s,.slice y.v.a y.v.l y.v.c,.slice y.v.b y.v.m y.v.d,.slice y.pa y.pn y.pc,.bool y.lo.s,.slice y.lo.a y.lo.l y.lo.c,.slice y.lo.b y.lo.m y.lo.d,.bool y.hi.s,.slice y.hi.a y.hi.l y.hi.c,.slice y.hi.b y.hi.m y.hi.d,.bool y.hl,.bool y.hh,.int .i64 y.u0,.int .i64 y.u1,.int .i64 y.u2]] W (fun e w'=>e=.returned (.bool (k1 && k2 && bq))∧Below W.heap.size W w')))
  (HS11:Hid (∀ vb op vc oq tq tr x y W,XR m1 vb op tq x W→XR m1 vc oq tr y W→Calls Tryz.prog 53 #[.agg #[.int .i64 vb,.int .i64 op,.string tq,.int .i64 x.err,.string x.wher,.int .i64 x.at9,.int .i64 x.id,.int .i64 x.out,.bool x.v.s,.slice x.v.a x.v.l x.v.c,.slice x.v.b x.v.m x.v.d,.slice x.pa x.pn x.pc,.bool x.lo.s,.slice x.lo.a x.lo.l x.lo.c,.slice x.lo.b x.lo.m x.lo.d,.bool x.hi.s,.slice x.hi.a x.hi.l x.hi.c,.slice x.hi.b x.hi.m x.hi.d,.bool x.hl,.bool x.hh,.int .i64 x.u0,.int .i64 x.u1,.int .i64 x.u2],.agg #[.int .i64 vc,.int .i64 oq,.string tr,.int .i64 y.err,.string y.wher,.int .i64 y.at9,.int .i64 y.id,.int .i64 y.out,.bool y.v.s,.slice y.v.a y.v.l y.v.c,.slice y.v.b y.v.m y.v.d,.slice y.pa y.pn y.pc,.bool y.lo.s,.slice y.lo.a y.lo.l y.lo.c,.slice y.lo.b y.lo.m y.lo.d,.bool y.hi.s,.slice y.hi.a y.hi.l y.hi.c,.slice y.hi.b y.hi.m y.hi.d,.bool y.hl,.bool y.hh,.int .i64 y.u0,.int .i64 y.u1,.int .i64 y.u2]] W (fun e w'=>e=.returned (.bool k1)∧Below W.heap.size W w')))
  (HC1:Hid (∀ a c W,SB W a z1 c l1→(convert 32 9 (.slice a z1 c)).run Tryz.prog W=.ok (.string s1) W))
  (HC2:Hid (∀ a c W,SB W a z2 c l2→(convert 32 9 (.slice a z2 c)).run Tryz.prog W=.ok (.string s2) W))
  (HQ:Hid ((s1.toList==s2.toList)=bq))
  (HD:Hid (k1=true→∀ a c W,SB W a z1 c l1→Calls Tryz.prog 50 #[.slice a z1 c] W fun e w'=>∃ (vb op:Int) (tq:ByteArray) (x:RepV),e=.returned (.tuple #[.agg #[.int .i64 vb,.int .i64 op,.string tq,.int .i64 x.err,.string x.wher,.int .i64 x.at9,.int .i64 x.id,.int .i64 x.out,.bool x.v.s,.slice x.v.a x.v.l x.v.c,.slice x.v.b x.v.m x.v.d,.slice x.pa x.pn x.pc,.bool x.lo.s,.slice x.lo.a x.lo.l x.lo.c,.slice x.lo.b x.lo.m x.lo.d,.bool x.hi.s,.slice x.hi.a x.hi.l x.hi.c,.slice x.hi.b x.hi.m x.hi.d,.bool x.hl,.bool x.hh,.int .i64 x.u0,.int .i64 x.u1,.int .i64 x.u2],.nilIface])∧XS m1 vb op tq x w'∧Below W.heap.size W w'))
  (HP:Hid (∀ (x y:RepV) (W:World),x.ok W→y.ok W→Calls Tryz.prog 54 #[.agg #[.int .i64 x.err,.string x.wher,.int .i64 x.at9,.int .i64 x.id,.int .i64 x.out,.bool x.v.s,.slice x.v.a x.v.l x.v.c,.slice x.v.b x.v.m x.v.d,.slice x.pa x.pn x.pc,.bool x.lo.s,.slice x.lo.a x.lo.l x.lo.c,.slice x.lo.b x.lo.m x.lo.d,.bool x.hi.s,.slice x.hi.a x.hi.l x.hi.c,.slice x.hi.b x.hi.m x.hi.d,.bool x.hl,.bool x.hh,.int .i64 x.u0,.int .i64 x.u1,.int .i64 x.u2],.agg #[.int .i64 y.err,.string y.wher,.int .i64 y.at9,.int .i64 y.id,.int .i64 y.out,.bool y.v.s,.slice y.v.a y.v.l y.v.c,.slice y.v.b y.v.m y.v.d,.slice y.pa y.pn y.pc,.bool y.lo.s,.slice y.lo.a y.lo.l y.lo.c,.slice y.lo.b y.lo.m y.lo.d,.bool y.hi.s,.slice y.hi.a y.hi.l y.hi.c,.slice y.hi.b y.hi.m y.hi.d,.bool y.hl,.bool y.hh,.int .i64 y.u0,.int .i64 y.u1,.int .i64 y.u2]] W (fun e w'=>e=.returned (.bool (decide (x.rep=y.rep)))∧Below W.heap.size W w')))
  (HI:Hid (∀ eb n at9 k W,EB W eb n at9→Calls Tryz.prog 39 #[.iface 211 (.pointer (some ⟨eb,0,none⟩)),.iface 52 (.int .i64 k)] W (fun e w'=>e=.returned (.bool (n==k))∧Below W.heap.size W w'))) :
  Calls Tryz.prog 15 #[.agg #[.int .i64 t.verb,.int .i64 t.op,.int .i64 t.err,.int .i64 t.at9,.int .i64 t.id,.string t.tq,.string t.wher,.int .i64 t.u0,.int .i64 t.u1,.int .i64 t.u2,.int .u8 (t.oc:Nat),.bool t.v.sg,.slice t.v.a t.v.n t.v.c,.slice t.v.b t.v.m t.v.d,.slice t.pa t.pn t.pc,.bool t.h0,.bool t.h1],.agg #[.int .i64 u.verb,.int .i64 u.op,.int .i64 u.err,.int .i64 u.at9,.int .i64 u.id,.string u.tq,.string u.wher,.int .i64 u.u0,.int .i64 u.u1,.int .i64 u.u2,.int .u8 (u.oc:Nat),.bool u.v.sg,.slice u.v.a u.v.n u.v.c,.slice u.v.b u.v.m u.v.d,.slice u.pa u.pn u.pc,.bool u.h0,.bool u.h1]] w fun e w'=>e=.returned (.bool true)∧Below w.heap.size w w':=by
 obtain ⟨dR,hru,hrr⟩:=Option.map_eq_some_iff.1 Tryz.rowRp
 have HRU:=qH hru
 have HRR:=qH hrr
 clear hru hrr
 obtain ⟨W0,hW0⟩:∃ W0,W0=((w.alloc (.cells #[.int .i64 t.verb,.int .i64 t.op,.int .i64 t.err,.int .i64 t.at9,.int .i64 t.id,.string t.tq,.string t.wher,.int .i64 t.u0,.int .i64 t.u1,.int .i64 t.u2,.int .u8 (t.oc:Nat),.bool t.v.sg,.slice t.v.a t.v.n t.v.c,.slice t.v.b t.v.m t.v.d,.slice t.pa t.pn t.pc,.bool t.h0,.bool t.h1] 112)).alloc (.cells #[.int .i64 u.verb,.int .i64 u.op,.int .i64 u.err,.int .i64 u.at9,.int .i64 u.id,.string u.tq,.string u.wher,.int .i64 u.u0,.int .i64 u.u1,.int .i64 u.u2,.int .u8 (u.oc:Nat),.bool u.v.sg,.slice u.v.a u.v.n u.v.c,.slice u.v.b u.v.m u.v.d,.slice u.pa u.pn u.pc,.bool u.h0,.bool u.h1] 112)):=⟨_,rfl⟩
 have hbs:BS w [⟨w.heap.size,112,[.int .i64 t.verb,.int .i64 t.op,.int .i64 t.err,.int .i64 t.at9,.int .i64 t.id,.string t.tq,.string t.wher,.int .i64 t.u0,.int .i64 t.u1,.int .i64 t.u2,.int .u8 (t.oc:Nat),.bool t.v.sg,.slice t.v.a t.v.n t.v.c,.slice t.v.b t.v.m t.v.d,.slice t.pa t.pn t.pc,.bool t.h0,.bool t.h1]⟩,⟨w.heap.size+1,112,[.int .i64 u.verb,.int .i64 u.op,.int .i64 u.err,.int .i64 u.at9,.int .i64 u.id,.string u.tq,.string u.wher,.int .i64 u.u0,.int .i64 u.u1,.int .i64 u.u2,.int .u8 (u.oc:Nat),.bool u.v.sg,.slice u.v.a u.v.n u.v.c,.slice u.v.b u.v.m u.v.d,.slice u.pa u.pn u.pc,.bool u.h0,.bool u.h1]⟩] [] ((w.alloc (.cells #[.int .i64 t.verb,.int .i64 t.op,.int .i64 t.err,.int .i64 t.at9,.int .i64 t.id,.string t.tq,.string t.wher,.int .i64 t.u0,.int .i64 t.u1,.int .i64 t.u2,.int .u8 (t.oc:Nat),.bool t.v.sg,.slice t.v.a t.v.n t.v.c,.slice t.v.b t.v.m t.v.d,.slice t.pa t.pn t.pc,.bool t.h0,.bool t.h1] 112)).alloc (.cells #[.int .i64 u.verb,.int .i64 u.op,.int .i64 u.err,.int .i64 u.at9,.int .i64 u.id,.string u.tq,.string u.wher,.int .i64 u.u0,.int .i64 u.u1,.int .i64 u.u2,.int .u8 (u.oc:Nat),.bool u.v.sg,.slice u.v.a u.v.n u.v.c,.slice u.v.b u.v.m u.v.d,.slice u.pa u.pn u.pc,.bool u.h0,.bool u.h1] 112)) :=
   (((BS.start w).alloc (p:=w.heap.size) rfl 112 [.int .i64 t.verb,.int .i64 t.op,.int .i64 t.err,.int .i64 t.at9,.int .i64 t.id,.string t.tq,.string t.wher,.int .i64 t.u0,.int .i64 t.u1,.int .i64 t.u2,.int .u8 (t.oc:Nat),.bool t.v.sg,.slice t.v.a t.v.n t.v.c,.slice t.v.b t.v.m t.v.d,.slice t.pa t.pn t.pc,.bool t.h0,.bool t.h1] rfl).alloc (p:=w.heap.size+1) (by simp) 112 [.int .i64 u.verb,.int .i64 u.op,.int .i64 u.err,.int .i64 u.at9,.int .i64 u.id,.string u.tq,.string u.wher,.int .i64 u.u0,.int .i64 u.u1,.int .i64 u.u2,.int .u8 (u.oc:Nat),.bool u.v.sg,.slice u.v.a u.v.n u.v.c,.slice u.v.b u.v.m u.v.d,.slice u.pa u.pn u.pc,.bool u.h0,.bool u.h1] rfl)
 rw [← hW0] at hbs
 have HW0:=qH hW0
 have HN:=qH hbs
 clear hW0 hbs
 obtain ⟨dT,htu,htd⟩:=Option.map_eq_some_iff.1 Tryz.rowT
 obtain ⟨dX,hdu,hdr⟩:=Option.map_eq_some_iff.1 Tryz.rowX
 have HTU:=qH htu
 have HTD:=qH htd
 have HDU:=qH hdu
 have HDR:=qH hdr
 clear htu htd hdu hdr
 go_enter Tryz.func15,Tryz.ntmps15
 go_wp2_with fail
 rw [← HW0.out]
 refine (HAW.out W0 HN.out.bel).mono ?_
 rintro e w1 ⟨rfl,hb⟩
 replace HN:=qH (HN.out.call hb)
 clear hb
 go_upto_region 3 with fail
 go_cut [5,6] (fun v5 v6 wx=>∃ (px py:Nat) (vb op vc oq:Int) (tq tr:ByteArray) (x y:RepV),v5=.pointer (some ⟨px,0,none⟩)∧v6=.pointer (some ⟨py,0,none⟩)∧BS w [⟨w.heap.size,112,[.int .i64 t.verb,.int .i64 t.op,.int .i64 t.err,.int .i64 t.at9,.int .i64 t.id,.string t.tq,.string t.wher,.int .i64 t.u0,.int .i64 t.u1,.int .i64 t.u2,.int .u8 (t.oc:Nat),.bool t.v.sg,.slice t.v.a t.v.n t.v.c,.slice t.v.b t.v.m t.v.d,.slice t.pa t.pn t.pc,.bool t.h0,.bool t.h1]⟩,⟨w.heap.size+1,112,[.int .i64 u.verb,.int .i64 u.op,.int .i64 u.err,.int .i64 u.at9,.int .i64 u.id,.string u.tq,.string u.wher,.int .i64 u.u0,.int .i64 u.u1,.int .i64 u.u2,.int .u8 (u.oc:Nat),.bool u.v.sg,.slice u.v.a u.v.n u.v.c,.slice u.v.b u.v.m u.v.d,.slice u.pa u.pn u.pc,.bool u.h0,.bool u.h1]⟩,⟨px,125,[.int .i64 vb,.int .i64 op,.string tq,.int .i64 x.err,.string x.wher,.int .i64 x.at9,.int .i64 x.id,.int .i64 x.out,.bool x.v.s,.slice x.v.a x.v.l x.v.c,.slice x.v.b x.v.m x.v.d,.slice x.pa x.pn x.pc,.bool x.lo.s,.slice x.lo.a x.lo.l x.lo.c,.slice x.lo.b x.lo.m x.lo.d,.bool x.hi.s,.slice x.hi.a x.hi.l x.hi.c,.slice x.hi.b x.hi.m x.hi.d,.bool x.hl,.bool x.hh,.int .i64 x.u0,.int .i64 x.u1,.int .i64 x.u2]⟩,⟨py,125,[.int .i64 vc,.int .i64 oq,.string tr,.int .i64 y.err,.string y.wher,.int .i64 y.at9,.int .i64 y.id,.int .i64 y.out,.bool y.v.s,.slice y.v.a y.v.l y.v.c,.slice y.v.b y.v.m y.v.d,.slice y.pa y.pn y.pc,.bool y.lo.s,.slice y.lo.a y.lo.l y.lo.c,.slice y.lo.b y.lo.m y.lo.d,.bool y.hi.s,.slice y.hi.a y.hi.l y.hi.c,.slice y.hi.b y.hi.m y.hi.d,.bool y.hl,.bool y.hh,.int .i64 y.u0,.int .i64 y.u1,.int .i64 y.u2]⟩] [] wx∧XR m1 vb op tq x wx∧XR m2 vc oq tr y wx)
 case first =>
  replace HN:=qH HN.out.drew
  refine wp_region_held_drew (S:=fun W=>W.rangeAt w.heap.size 0 [.int .i64 t.verb,.int .i64 t.op,.int .i64 t.err,.int .i64 t.at9,.int .i64 t.id,.string t.tq,.string t.wher,.int .i64 t.u0,.int .i64 t.u1,.int .i64 t.u2,.int .u8 (t.oc:Nat),.bool t.v.sg,.slice t.v.a t.v.n t.v.c,.slice t.v.b t.v.m t.v.d,.slice t.pa t.pn t.pc,.bool t.h0,.bool t.h1]∧W.rangeAt (w.heap.size+1) 0 [.int .i64 u.verb,.int .i64 u.op,.int .i64 u.err,.int .i64 u.at9,.int .i64 u.id,.string u.tq,.string u.wher,.int .i64 u.u0,.int .i64 u.u1,.int .i64 u.u2,.int .u8 (u.oc:Nat),.bool u.v.sg,.slice u.v.a u.v.n u.v.c,.slice u.v.b u.v.m u.v.d,.slice u.pa u.pn u.pc,.bool u.h0,.bool u.h1]) (by kernel_rfl) (⟨range_all (HN.out.at 0 rfl),range_all (HN.out.at 1 rfl)⟩) (fun hHeld=>?_)
  generalize w1.drew=wd at HN hHeld ⊢
  refine tb 0 (some 15) 112 w.heap.size 0 dT (fun _ h=>h.1) HTU.out HTD.out Tryz.sizT ?_
  refine tb 2 (some 17) 112 (w.heap.size+1) 0 dT (fun _ h=>h.2) HTU.out HTD.out Tryz.sizT ?_
  have tg:=Mk.mk (v:=0) (d:=0)
  iterate 6
   all_goals first
   | refine qz3 0 tg 1 0 1 4 1 2 5 2 3 ?_ ?_ ?_
   | refine qz3 1 tg 3 3 4 4 4 5 5 5 6 ?_ ?_ ?_
   | refine qz2 2 tg 1 6 5 5 2 7 ?_ ?_
   | refine qz2 3 tg 1 7 6 4 8 7 ?_ ?_
   | refine qz2 4 tg 4 9 8 5 10 9 ?_ ?_
   | refine qz2 5 tg 3 11 8 5 5 10 ?_ ?_
   | refine qz2 6 tg 3 12 9 4 13 10 ?_ ?_
   | refine qz1 7 tg 1 14 10 ?_
   | refine qz1 8 tg 5 10 11 ?_
   | refine qz1 9 tg 4 15 11 ?_
   | refine qz1 10 tg 3 16 11 ?_
   | refine qz1 11 tg 6 17 12 ?_
   | refine qz1 12 tg 7 18 13 ?_
   all_goals intro K hK tg
   all_goals first
   |
    have _:Mk 0 _:=tg
    go_simp
    refine (HR1.out _ HN.out.bel).mono ?_
    rintro e wd ⟨vb,op,tq,x,rfl,hq,hnb,hb⟩
    replace HN:=qH (HN.out.call hb)
    have HX:=qH hq
    clear hb hq hnb
    go_wp2_with fail
   |
    have _:Mk 1 _:=tg
    go_simp
    refine al (fun W9 HWA=>?_)
    generalize hpp:wd.heap.size=p4_
    replace HN:=qH ((HN.out.alloced hpp HWA))
    clear hpp HWA
    obtain ⟨wd,rfl⟩:∃ w:World,w=W9:=⟨_,rfl⟩
   |
    have _:Mk 2 _:=tg
    go_simp
    refine al (fun W9 HWA=>?_)
    generalize hpp:wd.heap.size=p5_
    replace HN:=qH ((HN.out.alloced hpp HWA))
    clear hpp HWA
    obtain ⟨wd,rfl⟩:∃ w:World,w=W9:=⟨_,rfl⟩
   |
    have _:Mk 3 _:=tg
    go_simp
    refine (HR2.out _ HN.out.bel).mono ?_
    rintro e wd ⟨vc,oq,tr,y,rfl,hq,hnb,hb⟩
    replace HX:=qH (HX.out.below hb)
    replace HN:=qH (HN.out.call hb)
    have HY:=qH hq
    clear hb hq hnb
    go_wp2_with fail
   |
    have _:Mk 4 _:=tg
    go_simp
    refine al (fun W9 HWA=>?_)
    generalize hpp:wd.heap.size=p4_
    have HX4:=qH (show NB x p4_ from fun k hk he=>by have h1:=HX.out.2.2.2 k hk;omega)
    replace HX:=qH (HX.out.below (Below.alloced HWA))
    replace HN:=qH ((HN.out.alloced hpp HWA))
    clear hpp HWA
    obtain ⟨wd,rfl⟩:∃ w:World,w=W9:=⟨_,rfl⟩
   |
    have _:Mk 5 _:=tg
    go_simp
    refine al (fun W9 HWA=>?_)
    generalize hpp:wd.heap.size=p5_
    have HX5:=qH (show NB x p5_ from fun k hk he=>by have h1:=HX.out.2.2.2 k hk;omega)
    replace HX:=qH (HX.out.below (Below.alloced HWA))
    replace HN:=qH ((HN.out.alloced hpp HWA))
    clear hpp HWA
    obtain ⟨wd,rfl⟩:∃ w:World,w=W9:=⟨_,rfl⟩
   |
    have _:Mk 6 _:=tg
    go_simp
    refine (HR1.out _ HN.out.bel).mono ?_
    rintro e wd ⟨vb,op,tq,x,rfl,hq,hnb,hb⟩
    have HX4:=qH (show NB x p4_ from fun k hk he=>by have h1:=hnb k hk;have h2:=HN.out.lt 2 rfl;simp only at h2;omega)
    replace HN:=qH (HN.out.call hb)
    have HX:=qH hq
    clear hb hq hnb
    go_wp2_with fail
   |
    have _:Mk 7 _:=tg
    go_simp
    refine (HR1.out _ HN.out.bel).mono ?_
    rintro e wd ⟨vb,op,tq,x,rfl,hq,hnb,hb⟩
    have HX5:=qH (show NB x p5_ from fun k hk he=>by have h1:=hnb k hk;have h2:=HN.out.lt 2 rfl;simp only at h2;omega)
    replace HN:=qH (HN.out.call hb)
    have HX:=qH hq
    clear hb hq hnb
    go_wp2_with fail
   |
    have _:Mk 8 _:=tg
    go_simp
    refine al (fun W9 HWA=>?_)
    generalize hpp:wd.heap.size=p4_
    replace HN:=qH ((HN.out.alloced hpp HWA).ins 2)
    clear hpp HWA
    obtain ⟨wd,rfl⟩:∃ w:World,w=W9:=⟨_,rfl⟩
   |
    have _:Mk 9 _:=tg
    go_simp
    refine al (fun W9 HWA=>?_)
    generalize hpp:wd.heap.size=p4_
    have HX4:=qH (show NB x p4_ from fun k hk he=>by have h1:=HX.out.2.2.2 k hk;omega)
    replace HX:=qH (HX.out.below (Below.alloced HWA))
    have HY4:=qH (show NB y p4_ from fun k hk he=>by have h1:=HY.out.2.2.2 k hk;omega)
    replace HY:=qH (HY.out.below (Below.alloced HWA))
    replace HN:=qH ((HN.out.alloced hpp HWA))
    clear hpp HWA
    obtain ⟨wd,rfl⟩:∃ w:World,w=W9:=⟨_,rfl⟩
   |
    have _:Mk 10 _:=tg
    go_simp
    refine al (fun W9 HWA=>?_)
    generalize hpp:wd.heap.size=p5_
    have HX5:=qH (show NB x p5_ from fun k hk he=>by have h1:=HX.out.2.2.2 k hk;omega)
    replace HX:=qH (HX.out.below (Below.alloced HWA))
    have HY5:=qH (show NB y p5_ from fun k hk he=>by have h1:=HY.out.2.2.2 k hk;omega)
    replace HY:=qH (HY.out.below (Below.alloced HWA))
    replace HN:=qH ((HN.out.alloced hpp HWA))
    clear hpp HWA
    obtain ⟨wd,rfl⟩:∃ w:World,w=W9:=⟨_,rfl⟩
   |
    have _:Mk 11 _:=tg
    go_simp
    refine (HR2.out _ HN.out.bel).mono ?_
    rintro e wd ⟨vc,oq,tr,y,rfl,hq,hnb,hb⟩
    have HY4:=qH (show NB y p4_ from fun k hk he=>by have h1:=hnb k hk;have h2:=HN.out.lt 2 rfl;simp only at h2;omega)
    replace HX:=qH (HX.out.below hb)
    replace HN:=qH (HN.out.call hb)
    have HY:=qH hq
    clear hb hq hnb
    go_wp2_with fail
   |
    have _:Mk 12 _:=tg
    go_simp
    refine (HR2.out _ HN.out.bel).mono ?_
    rintro e wd ⟨vc,oq,tr,y,rfl,hq,hnb,hb⟩
    have HY5:=qH (show NB y p5_ from fun k hk he=>by have h1:=hnb k hk;have h2:=HN.out.lt 2 rfl;simp only at h2;omega)
    replace HX:=qH (HX.out.below hb)
    replace HN:=qH (HN.out.call hb)
    have HY:=qH hq
    clear hb hq hnb
    go_wp2_with fail
   |
    have _:Mk 13 _:=tg
    go_simp
    refine al (fun W9 HWA=>?_)
    generalize hpp:wd.heap.size=p4_
    have HX4:=qH (show NB x p4_ from fun k hk he=>by have h1:=HX.out.2.2.2 k hk;omega)
    replace HX:=qH (HX.out.below (Below.alloced HWA))
    replace HN:=qH ((HN.out.alloced hpp HWA).ins 2)
    clear hpp HWA
    obtain ⟨wd,rfl⟩:∃ w:World,w=W9:=⟨_,rfl⟩
   |
    have _:Mk 14 _:=tg
    go_simp
    refine (HR1.out _ HN.out.bel).mono ?_
    rintro e wd ⟨vb,op,tq,x,rfl,hq,hnb,hb⟩
    have HX4:=qH (show NB x p4_ from fun k hk he=>by have h1:=hnb k hk;have h2:=HN.out.lt 2 rfl;simp only at h2;omega)
    have HX5:=qH (show NB x p5_ from fun k hk he=>by have h1:=hnb k hk;have h2:=HN.out.lt 3 rfl;simp only at h2;omega)
    replace HN:=qH (HN.out.call hb)
    have HX:=qH hq
    clear hb hq hnb
    go_wp2_with fail
   |
    have _:Mk 15 _:=tg
    go_simp
    refine al (fun W9 HWA=>?_)
    generalize hpp:wd.heap.size=p4_
    have HX4:=qH (show NB x p4_ from fun k hk he=>by have h1:=HX.out.2.2.2 k hk;omega)
    replace HX:=qH (HX.out.below (Below.alloced HWA))
    have HY4:=qH (show NB y p4_ from fun k hk he=>by have h1:=HY.out.2.2.2 k hk;omega)
    replace HY:=qH (HY.out.below (Below.alloced HWA))
    replace HN:=qH ((HN.out.alloced hpp HWA).ins 2)
    clear hpp HWA
    obtain ⟨wd,rfl⟩:∃ w:World,w=W9:=⟨_,rfl⟩
   |
    have _:Mk 16 _:=tg
    go_simp
    refine (HR2.out _ HN.out.bel).mono ?_
    rintro e wd ⟨vc,oq,tr,y,rfl,hq,hnb,hb⟩
    have HY4:=qH (show NB y p4_ from fun k hk he=>by have h1:=hnb k hk;have h2:=HN.out.lt 2 rfl;simp only at h2;omega)
    have HY5:=qH (show NB y p5_ from fun k hk he=>by have h1:=hnb k hk;have h2:=HN.out.lt 3 rfl;simp only at h2;omega)
    replace HX:=qH (HX.out.below hb)
    replace HN:=qH (HN.out.call hb)
    have HY:=qH hq
    clear hb hq hnb
    go_wp2_with fail
   |
    have _:Mk 17 _:=tg
    rw [if_pos (by rfl)]
    refine wp_store_new 125 _ _ rfl p4_ 0 _ rfl rfl (there_of (HN.out.at 2 rfl) 23 rfl) Tryz.sizX (by kernel_rfl) (fun W9 HWA=>?_)
    replace HX:=qH (HX.out.stored HN.out 2 rfl (by show (125:Nat)≠164;decide) HX4.out HWA)
    replace HY:=qH (HY.out.stored HN.out 2 rfl (by show (125:Nat)≠164;decide) HY4.out HWA)
    replace HN:=qH (HN.out.stored 2 rfl HWA (by simp [z20,RepV.cells]) rfl)
    clear HWA
    obtain ⟨wd,rfl⟩:∃ w:World,w=W9:=⟨_,rfl⟩
   |
    have _:Mk 18 _:=tg
    rw [if_pos (by rfl)]
    refine wp_store_new 125 _ _ rfl p5_ 0 _ rfl rfl (there_of (HN.out.at 3 rfl) 23 rfl) Tryz.sizX (by kernel_rfl) (fun W9 HWA=>?_)
    replace HX:=qH (HX.out.stored HN.out 3 rfl (by show (125:Nat)≠164;decide) HX5.out HWA)
    replace HY:=qH (HY.out.stored HN.out 3 rfl (by show (125:Nat)≠164;decide) HY5.out HWA)
    replace HN:=qH (HN.out.stored 3 rfl HWA (by simp [z20,RepV.cells]) rfl)
    clear HWA
    obtain ⟨wd,rfl⟩:∃ w:World,w=W9:=⟨_,rfl⟩
   all_goals
    refine hK.out _ _ (⟨range_all (HN.out.at 0 rfl),range_all (HN.out.at 1 rfl)⟩) (fun hHeld2=>?_)
    clear hK K hHeld
    rename _=>hHeld
    try simp only [Act.put,stB,stZ,stS]
  all_goals (refine wpAnyH_done (by kernel_rfl) ?_ _)
  all_goals
   clear hHeld tg
   go_wp2_with fail
   go_meet
   exact ⟨p4_,p5_,_,_,_,_,_,_,_,_,rfl,rfl,HN.out,HX.out,HY.out⟩
 case rest =>
  obtain ⟨w3,rfl⟩:∃ w3:World,w3=wc:=⟨_,rfl⟩
  obtain ⟨px,py,vb,op,vc,oq,tq,tr,x,y,rfl,rfl,hn0,hx0,hy0⟩:=hcut
  have HN:=qH hn0
  have HX:=qH hx0
  have HY:=qH hy0
  clear hn0 hx0 hy0 HAW HR1 HR2
  go_wp2_with (refine wpList_load_mid rfl 125 _ rfl px 0 rfl _ dX (range_all (HN.out.at 2 rfl)) HDU.out HDR.out Tryz.sizX ?_)
  refine (HE1.out vb op tq x _ HX.out).mono ?_
  rintro e w4 ⟨a1,c1,v1,rfl,ho,hs,he,hb⟩
  replace HN:=qH (HN.out.call hb)
  replace HX:=qH (HX.out.below hb)
  replace HY:=qH (HY.out.below hb)
  have HO1:=qH ho
  have HSB1:=qH hs
  have HER1:=qH he
  clear ho hs he hb
  go_wp2_with (refine wpList_load_mid rfl 125 _ rfl py 0 rfl _ dX (range_all (HN.out.at 3 rfl)) HDU.out HDR.out Tryz.sizX ?_)
  refine (HE2.out vc oq tr y _ HY.out).mono ?_
  rintro e w5 ⟨a2,c2,v2,rfl,ho,hs,he,hb⟩
  replace HN:=qH (HN.out.call hb)
  replace HX:=qH (HX.out.below hb)
  replace HY:=qH (HY.out.below hb)
  replace HSB1:=qH (HSB1.out.below hb trivial)
  have HB45:=qH hb
  have HO2:=qH ho
  have HSB2:=qH hs
  have HER2:=qH he
  clear ho hs he hb
  have hqq:=HQ.out
  cases k1
  case' false =>
   obtain ⟨eb,n9,at9,rfl,hE9,hn9⟩:=HER1.out (by simp)
   have HEB:=qH (hE9.below HB45.out trivial)
   obtain rfl:z1=0:=HZ1.out (by simp)
   have HN9:=qH hn9
   clear HER1 HER2 hE9 hn9
   unfold eF
  case' true =>
   have HEB:=qH trivial
   obtain rfl:=HO1.out.ok
   clear HER1 HER2
   cases k2
   case' false=>obtain ⟨T2,t2,rfl⟩:=HO2.out.err
   case' true=>obtain rfl:=HO2.out.ok
  all_goals
   try replace HEB:=qH (HEB.out.below (Below.refl _ _).drew trivial)
   go_upto_region 6 with fail
   replace HN:=qH HN.out.drew
   replace HX:=qH (HX.out.below (Below.refl _ _).drew)
   replace HY:=qH (HY.out.below (Below.refl _ _).drew)
   replace HSB1:=qH (HSB1.out.below (Below.refl _ _).drew trivial)
   replace HSB2:=qH (HSB2.out.below (Below.refl _ _).drew trivial)
   refine wp_region_held_drew (S:=fun W=>W.rangeAt px 0 [.int .i64 vb,.int .i64 op,.string tq,.int .i64 x.err,.string x.wher,.int .i64 x.at9,.int .i64 x.id,.int .i64 x.out,.bool x.v.s,.slice x.v.a x.v.l x.v.c,.slice x.v.b x.v.m x.v.d,.slice x.pa x.pn x.pc,.bool x.lo.s,.slice x.lo.a x.lo.l x.lo.c,.slice x.lo.b x.lo.m x.lo.d,.bool x.hi.s,.slice x.hi.a x.hi.l x.hi.c,.slice x.hi.b x.hi.m x.hi.d,.bool x.hl,.bool x.hh,.int .i64 x.u0,.int .i64 x.u1,.int .i64 x.u2]∧W.rangeAt py 0 [.int .i64 vc,.int .i64 oq,.string tr,.int .i64 y.err,.string y.wher,.int .i64 y.at9,.int .i64 y.id,.int .i64 y.out,.bool y.v.s,.slice y.v.a y.v.l y.v.c,.slice y.v.b y.v.m y.v.d,.slice y.pa y.pn y.pc,.bool y.lo.s,.slice y.lo.a y.lo.l y.lo.c,.slice y.lo.b y.lo.m y.lo.d,.bool y.hi.s,.slice y.hi.a y.hi.l y.hi.c,.slice y.hi.b y.hi.m y.hi.d,.bool y.hl,.bool y.hh,.int .i64 y.u0,.int .i64 y.u1,.int .i64 y.u2]∧SB W a1 _ c1 l1∧SB W a2 z2 c2 l2) (by kernel_rfl) (⟨range_all (HN.out.at 2 rfl),range_all (HN.out.at 3 rfl),HSB1.out,HSB2.out⟩) (fun hHeld=>?_)
   generalize w5.drew=wd at HN HX HY HSB1 HSB2 HEB hHeld ⊢
   refine tb 0 (some 29) 125 px 0 dX (fun _ h=>h.1) HDU.out HDR.out Tryz.sizX ?_
   refine tb 1 (some 30) 125 py 0 dX (fun _ h=>h.2.1) HDU.out HDR.out Tryz.sizX ?_
   refine tm 3 (some 32) ?_
   refine tm 4 (some 33) ?_
   refine wpAnyH_ready (rs:=[2]) (by kernel_rfl) (by simp) (AllReadyH.cons rfl (fun K hK=>?_) AllReadyH.nil)
   go_simp
   refine (HS12.out _ _ _ _ _ _ _ _ _ HX.out HY.out).mono ?_
   rintro e w6 ⟨rfl,hb⟩
   replace HN:=qH (HN.out.call hb)
   replace HX:=qH (HX.out.below hb)
   replace HY:=qH (HY.out.below hb)
   replace HSB1:=qH (HSB1.out.below hb trivial)
   replace HSB2:=qH (HSB2.out.below hb trivial)
   try replace HEB:=qH (HEB.out.below hb trivial)
   clear hb
   go_wp2_with fail
   refine hK.out _ _ (⟨range_all (HN.out.at 2 rfl),range_all (HN.out.at 3 rfl),HSB1.out,HSB2.out⟩) (fun hHeld2=>?_)
   clear hK K hHeld
   rename _=>hHeld
   try simp only [Act.put,stB,stZ,stS]
   refine tm 5 (some 34) ?_
   first | refine tm 6 (some 35) ?_ | refine ts 6 (some 35) ?_
   first | refine tm 7 (some 36) ?_ | refine ts 7 (some 36) ?_
   refine tm 8 (some 37) ?_
   refine tm 9 (some 38) ?_
   first | refine tm 10 (some 39) ?_ | refine ts 10 (some 39) ?_
   first
   |
    refine tk 11 (some 40) (v:=?_) rfl rfl ?_ ?_
    rotate_left
    ·
     intro w hSw;have hv:=HC1.out _ _ _ hSw.2.2.1;clear hSw;go_simp;(try with_reducible rfl)
    simp only [Act.put,stB,stZ,stS]
   | refine ts 11 (some 40) ?_
   first | refine tm 12 (some 41) ?_ | refine ts 12 (some 41) ?_
   first
   |
    refine tk 13 (some 42) (v:=?_) rfl rfl ?_ ?_
    rotate_left
    ·
     intro w hSw;have hv:=HC2.out _ _ _ hSw.2.2.2;clear hSw;go_simp;(try with_reducible rfl)
    simp only [Act.put,stB,stZ,stS]
   | refine ts 13 (some 42) ?_
   first | refine tm 14 (some 43) ?_ | refine ts 14 (some 43) ?_
   refine tm 15 (some 44) ?_
   refine tm 16 (some 45) ?_
   refine wpAnyH_done (by kernel_rfl) ?_ _
   clear hHeld
  all_goals try
   have hn9:=HN9.out
   go_wp2_with (refine gload (by rfl) 125 _ rfl px 0 rfl _ dX (range_all (HN.out.at 2 rfl)) HDU.out HDR.out Tryz.sizX ?_)
   refine (HS11.out _ _ _ _ _ _ _ _ _ HX.out HX.out).mono ?_
   rintro e w7 ⟨rfl,hb⟩
   replace HN:=qH (HN.out.call hb)
   replace HX:=qH (HX.out.below hb)
   replace HY:=qH (HY.out.below hb)
   replace HSB1:=qH (HSB1.out.below hb trivial)
   replace HSB2:=qH (HSB2.out.below hb trivial)
   replace HEB:=qH (HEB.out.below hb trivial)
   clear hb
   go_wp2_with fail
   refine (HI.out _ _ _ 270 _ HEB.out).mono ?_
   rintro e w8 ⟨rfl,hb⟩
   replace HN:=qH (HN.out.call hb)
   replace HX:=qH (HX.out.below hb)
   replace HY:=qH (HY.out.below hb)
   replace HSB1:=qH (HSB1.out.below hb trivial)
   replace HSB2:=qH (HSB2.out.below hb trivial)
   replace HEB:=qH (HEB.out.below hb trivial)
   clear hb
   rcases hn9 with rfl | rfl
   ·
    go_wp2_with fail
    refine bodyPost_ret (v:=.bool true) (by simp [results,Tryz.results15,go_sem]) rfl ?_
    exact ⟨rfl,HN.out.bel⟩
   ·
    go_wp2_with fail
    refine (HI.out _ _ _ 3 _ HEB.out).mono ?_
    rintro e w9 ⟨rfl,hb⟩
    replace HN:=qH (HN.out.call hb)
    replace HX:=qH (HX.out.below hb)
    replace HY:=qH (HY.out.below hb)
    replace HSB1:=qH (HSB1.out.below hb trivial)
    replace HSB2:=qH (HSB2.out.below hb trivial)
    replace HEB:=qH (HEB.out.below hb trivial)
    clear hb
    go_wp2_with fail
    refine bodyPost_ret (v:=.bool true) (by simp [results,Tryz.results15,go_sem]) rfl ?_
    exact ⟨rfl,HN.out.bel⟩
  all_goals
   clear HEB
   go_wp2_with fail
   refine (HD.out (by simp) _ _ _ HSB1.out).mono ?_
   rintro e w7 ⟨vb9,op9,tq9,z,rfl,hz,hb⟩
   replace HN:=qH (HN.out.call hb)
   replace HX:=qH (HX.out.below hb)
   replace HY:=qH (HY.out.below hb)
   replace HSB1:=qH (HSB1.out.below hb trivial)
   replace HSB2:=qH (HSB2.out.below hb trivial)
   have hzx:=hz.2.2.trans HX.out.2.2.1.symm
   injection hzx with e1 e2 e3 e4
   obtain rfl:tq=tq9:=by rw [← strB_natB tq9,e3,strB_natB]
   obtain rfl:=e1.symm
   obtain rfl:=e2.symm
   have HZ:=qH hz
   have HZD:=qH (decide_eq_true e4)
   clear hb hz e3 e4
   have l0:=HN.out.lt 0 rfl
   have HN0:=qH (HN.out.alloc (p:=w7.heap.size) rfl 125 (.int .i64 0::.int .i64 0::.string ⟨#[]⟩::z20) rfl)
   go_upto_region 11 with (refine store_new rfl 125 _ _ rfl (w7.heap.size) 0 _ rfl rfl (there_of (HN0.out.at 4 rfl) 23 rfl) Tryz.sizX (by kernel_rfl) (fun wz HWA=>?_))
   replace HN:=qH (HN0.out.stored 4 rfl HWA (by simp [z20,RepV.cells]) rfl)
   clear HN0 l0
   replace HX:=qH (HX.out.below (Below.stored HWA))
   replace HY:=qH (HY.out.below (Below.stored HWA))
   replace HSB1:=qH (HSB1.out.below (Below.stored HWA) trivial)
   replace HSB2:=qH (HSB2.out.below (Below.stored HWA) trivial)
   replace HZ:=qH (HZ.out.below (Below.stored HWA))
   clear HWA
   obtain ⟨pz,hpz⟩:∃ pz,w7.heap.size=pz:=⟨_,rfl⟩
   rw [hpz] at HN ⊢
   clear hpz
   have HN9:=qH (show BS w [⟨w.heap.size,112,(.int .i64 t.verb::.int .i64 t.op::.int .i64 t.err::t.tl)⟩,⟨w.heap.size+1,112,(.int .i64 u.verb::.int .i64 u.op::.int .i64 u.err::u.tl)⟩,⟨px,125,(.int .i64 vb::.int .i64 op::.string tq::x.cells)⟩,⟨py,125,(.int .i64 vc::.int .i64 oq::.string tr::y.cells)⟩,⟨pz,125,(.int .i64 vb::.int .i64 op::.string tq::z.cells)⟩] _ _ from HN.out)
   replace HN:=HN9
   clear HN9
   have ⟨k2_0,f2_0,k2_1,f2_1,k2_2,f2_2⟩:=HN.out.cf3 2 rfl
   have ⟨k4_0,f4_0,k4_1,f4_1,k4_2,f4_2⟩:=HN.out.cf3 4 rfl
   go_wp2_with (first | refine gload (by rfl) 123 _ rfl pz 3 rfl _ dR (range_from (HN.out.at 4 rfl) 3 rfl) HRU.out HRR.out Tryz.sizRp ?_ | refine gload (by rfl) 123 _ rfl px 3 rfl _ dR (range_from (HN.out.at 2 rfl) 3 rfl) HRU.out HRR.out Tryz.sizRp ?_)
   refine (HP.out _ _ _ HZ.out.1 HX.out.1).mono ?_
   rintro e w8 ⟨rfl,hb⟩
   replace HN:=qH (HN.out.call hb)
   replace HX:=qH (HX.out.below hb)
   replace HY:=qH (HY.out.below hb)
   replace HSB1:=qH (HSB1.out.below hb trivial)
   replace HSB2:=qH (HSB2.out.below hb trivial)
   replace HZ:=qH (HZ.out.below hb)
   clear hb k2_0 f2_0 k2_1 f2_1 k2_2 f2_2 k4_0 f4_0 k4_1 f4_1 k4_2 f4_2
   rw [HZD.out]
   clear HZ HZD
   go_upto_region 13 with fail
  all_goals try
   have hbq:=HBQ.out (by trivial) (by trivial)
   have hxy:(⟨vb,op,natB tq,x.rep⟩:Res)=⟨vc,oq,natB tr,y.rep⟩↔m1=m2:=by rw [HX.out.2.2.1,HY.out.2.2.1]
   have HXY:=qH hxy
   clear hxy hqq
   by_cases h0:vb=vc
   case' neg =>
    have g0:(vb==vc)=false:=beq_eq_false_iff_ne.2 h0
    obtain rfl:bq=false:=hbq.trans (decide_eq_false fun h=>h0 (congrArg Res.verb (HXY.out.2 h)))
    clear hbq h0
   case' pos =>
    have g0:(vb==vc)=true:=beq_iff_eq.2 h0
    have H0:=qH h0
    clear h0
    by_cases h1:op=oq
    case' neg =>
     have g1:(op==oq)=false:=beq_eq_false_iff_ne.2 h1
     obtain rfl:bq=false:=hbq.trans (decide_eq_false fun h=>h1 (congrArg Res.op (HXY.out.2 h)))
     clear hbq h1
    case' pos =>
     have g1:(op==oq)=true:=beq_iff_eq.2 h1
     have H1:=qH h1
     clear h1
     by_cases h2:tq=tr
     case' neg =>
      have g2:(tq.toList==tr.toList)=false:=(Lib.bytes_beq_false_iff _ _).2 h2
      obtain rfl:bq=false:=hbq.trans (decide_eq_false fun h=>h2 (by have:=congrArg Res.token (HXY.out.2 h);rw [← strB_natB tq,← strB_natB tr];exact congrArg strB this))
      clear hbq h2
     case' pos =>
      have g2:(tq.toList==tr.toList)=true:=beq_iff_eq.2 (congrArg ByteArray.toList h2)
      have hdd:decide (x.rep=y.rep)=bq:=by
       rw [hbq]
       exact decide_eq_decide.2 ⟨fun h=>HXY.out.1 (by rw [h,H0.out,H1.out,h2]),fun h=>congrArg Res.rep (HXY.out.2 h)⟩
      have HDD:=qH hdd
      clear hdd hbq h2
  all_goals
   replace HN:=qH HN.out.drew
   replace HX:=qH (HX.out.below (Below.refl _ _).drew)
   replace HY:=qH (HY.out.below (Below.refl _ _).drew)
   replace HSB1:=qH (HSB1.out.below (Below.refl _ _).drew trivial)
   replace HSB2:=qH (HSB2.out.below (Below.refl _ _).drew trivial)
   refine wp_region_held_drew (S:=fun W=>W.rangeAt px 0 [.int .i64 vb,.int .i64 op,.string tq,.int .i64 x.err,.string x.wher,.int .i64 x.at9,.int .i64 x.id,.int .i64 x.out,.bool x.v.s,.slice x.v.a x.v.l x.v.c,.slice x.v.b x.v.m x.v.d,.slice x.pa x.pn x.pc,.bool x.lo.s,.slice x.lo.a x.lo.l x.lo.c,.slice x.lo.b x.lo.m x.lo.d,.bool x.hi.s,.slice x.hi.a x.hi.l x.hi.c,.slice x.hi.b x.hi.m x.hi.d,.bool x.hl,.bool x.hh,.int .i64 x.u0,.int .i64 x.u1,.int .i64 x.u2]∧W.rangeAt py 0 [.int .i64 vc,.int .i64 oq,.string tr,.int .i64 y.err,.string y.wher,.int .i64 y.at9,.int .i64 y.id,.int .i64 y.out,.bool y.v.s,.slice y.v.a y.v.l y.v.c,.slice y.v.b y.v.m y.v.d,.slice y.pa y.pn y.pc,.bool y.lo.s,.slice y.lo.a y.lo.l y.lo.c,.slice y.lo.b y.lo.m y.lo.d,.bool y.hi.s,.slice y.hi.a y.hi.l y.hi.c,.slice y.hi.b y.hi.m y.hi.d,.bool y.hl,.bool y.hh,.int .i64 y.u0,.int .i64 y.u1,.int .i64 y.u2]∧W.rangeAt px 3 [.int .i64 x.err,.string x.wher,.int .i64 x.at9,.int .i64 x.id,.int .i64 x.out,.bool x.v.s,.slice x.v.a x.v.l x.v.c,.slice x.v.b x.v.m x.v.d,.slice x.pa x.pn x.pc,.bool x.lo.s,.slice x.lo.a x.lo.l x.lo.c,.slice x.lo.b x.lo.m x.lo.d,.bool x.hi.s,.slice x.hi.a x.hi.l x.hi.c,.slice x.hi.b x.hi.m x.hi.d,.bool x.hl,.bool x.hh,.int .i64 x.u0,.int .i64 x.u1,.int .i64 x.u2]∧W.rangeAt py 3 [.int .i64 y.err,.string y.wher,.int .i64 y.at9,.int .i64 y.id,.int .i64 y.out,.bool y.v.s,.slice y.v.a y.v.l y.v.c,.slice y.v.b y.v.m y.v.d,.slice y.pa y.pn y.pc,.bool y.lo.s,.slice y.lo.a y.lo.l y.lo.c,.slice y.lo.b y.lo.m y.lo.d,.bool y.hi.s,.slice y.hi.a y.hi.l y.hi.c,.slice y.hi.b y.hi.m y.hi.d,.bool y.hl,.bool y.hh,.int .i64 y.u0,.int .i64 y.u1,.int .i64 y.u2]∧W.cell? ⟨px,0,none⟩=some (.int .i64 vb)∧W.cell? ⟨px,1,none⟩=some (.int .i64 op)∧W.cell? ⟨px,2,none⟩=some (.string tq)∧W.cell? ⟨py,0,none⟩=some (.int .i64 vc)∧W.cell? ⟨py,1,none⟩=some (.int .i64 oq)∧W.cell? ⟨py,2,none⟩=some (.string tr)) (by kernel_rfl) (⟨range_all (HN.out.at 2 rfl),range_all (HN.out.at 3 rfl),range_from (HN.out.at 2 rfl) 3 rfl,range_from (HN.out.at 3 rfl) 3 rfl,HN.out.cell 2 0 rfl rfl,HN.out.cell 2 1 rfl rfl,HN.out.cell 2 2 rfl rfl,HN.out.cell 3 0 rfl rfl,HN.out.cell 3 1 rfl rfl,HN.out.cell 3 2 rfl rfl⟩) (fun hHeld=>?_)
   generalize w8.drew=wd at HN HX HY HSB1 HSB2 hHeld ⊢
   refine tm 0 (some 103) ?_
   refine tm 1 (some 104) ?_
   refine tm 2 (some 105) ?_
   first
   | refine tb 3 (some 106) 125 px 0 dX (fun _ h=>h.1) HDU.out HDR.out Tryz.sizX ?_
   | refine ts 3 (some 106) ?_
   first
   | refine tb 4 (some 107) 125 py 0 dX (fun _ h=>h.2.1) HDU.out HDR.out Tryz.sizX ?_
   | refine ts 4 (some 107) ?_
   first | refine tm 6 (some 109) ?_ | refine ts 6 (some 109) ?_
   first | refine tl 7 (some 110) ?_ | refine ts 7 (some 110) ?_
   first | refine tm 8 (some 111) ?_ | refine ts 8 (some 111) ?_
   first | refine tl 9 (some 112) ?_ | refine ts 9 (some 112) ?_
   first | refine tm 10 (some 113) ?_ | refine ts 10 (some 113) ?_
   first
   |
    refine wpAnyH_ready (rs:=[5]) (by kernel_rfl) (by simp) (AllReadyH.cons rfl (fun K hK=>?_) AllReadyH.nil)
    go_simp
    refine (HS12.out _ _ _ _ _ _ _ _ _ HX.out HY.out).mono ?_
    rintro e w9 ⟨rfl,hb⟩
    replace HN:=qH (HN.out.call hb)
    replace HX:=qH (HX.out.below hb)
    replace HY:=qH (HY.out.below hb)
    replace HSB1:=qH (HSB1.out.below hb trivial)
    replace HSB2:=qH (HSB2.out.below hb trivial)
    clear hb
    go_wp2_with fail
    refine hK.out _ _ (⟨range_all (HN.out.at 2 rfl),range_all (HN.out.at 3 rfl),range_from (HN.out.at 2 rfl) 3 rfl,range_from (HN.out.at 3 rfl) 3 rfl,HN.out.cell 2 0 rfl rfl,HN.out.cell 2 1 rfl rfl,HN.out.cell 2 2 rfl rfl,HN.out.cell 3 0 rfl rfl,HN.out.cell 3 1 rfl rfl,HN.out.cell 3 2 rfl rfl⟩) (fun hHeld2=>?_)
    clear hK K hHeld
    rename _=>hHeld
    try simp only [Act.put,stB,stZ,stS]
   | refine ts 5 (some 108) ?_
   first | refine tm 11 (some 114) ?_ | refine ts 11 (some 114) ?_
   first | refine tm 12 (some 115) ?_ | refine ts 12 (some 115) ?_
   first | refine tl 13 (some 116) ?_ | refine ts 13 (some 116) ?_
   first | refine tm 14 (some 117) ?_ | refine ts 14 (some 117) ?_
   first | refine tl 15 (some 118) ?_ | refine ts 15 (some 118) ?_
   first | refine tm 16 (some 119) ?_ | refine ts 16 (some 119) ?_
   first | refine tm 17 (some 120) ?_ | refine ts 17 (some 120) ?_
   first | refine tm 18 (some 121) ?_ | refine ts 18 (some 121) ?_
   first | refine tm 19 (some 122) ?_ | refine ts 19 (some 122) ?_
   first | refine tl 20 (some 123) ?_ | refine ts 20 (some 123) ?_
   first | refine tm 21 (some 124) ?_ | refine ts 21 (some 124) ?_
   first | refine tl 22 (some 125) ?_ | refine ts 22 (some 125) ?_
   first | refine tm 23 (some 126) ?_ | refine ts 23 (some 126) ?_
   first | refine tm 24 (some 127) ?_ | refine ts 24 (some 127) ?_
   first | refine tm 25 (some 128) ?_ | refine ts 25 (some 128) ?_
   first | refine tm 26 (some 129) ?_ | refine ts 26 (some 129) ?_
   first
   | refine tb 27 (some 130) 123 px 3 dR (fun _ h=>h.2.2.1) HRU.out HRR.out Tryz.sizRp ?_
   | refine ts 27 (some 130) ?_
   first | refine tm 28 (some 131) ?_ | refine ts 28 (some 131) ?_
   first
   | refine tb 29 (some 132) 123 py 3 dR (fun _ h=>h.2.2.2.1) HRU.out HRR.out Tryz.sizRp ?_
   | refine ts 29 (some 132) ?_
   first
   |
    refine wpAnyH_ready (rs:=[30]) (by kernel_rfl) (by simp) (AllReadyH.cons rfl (fun K hK=>?_) AllReadyH.nil)
    go_simp
    refine (HP.out _ _ _ HX.out.1 HY.out.1).mono ?_
    rintro e w10 ⟨rfl,hb⟩
    replace HN:=qH (HN.out.call hb)
    replace HX:=qH (HX.out.below hb)
    replace HY:=qH (HY.out.below hb)
    replace HSB1:=qH (HSB1.out.below hb trivial)
    replace HSB2:=qH (HSB2.out.below hb trivial)
    clear hb
    rw [HDD.out]
    go_wp2_with fail
    refine hK.out _ _ (⟨range_all (HN.out.at 2 rfl),range_all (HN.out.at 3 rfl),range_from (HN.out.at 2 rfl) 3 rfl,range_from (HN.out.at 3 rfl) 3 rfl,HN.out.cell 2 0 rfl rfl,HN.out.cell 2 1 rfl rfl,HN.out.cell 2 2 rfl rfl,HN.out.cell 3 0 rfl rfl,HN.out.cell 3 1 rfl rfl,HN.out.cell 3 2 rfl rfl⟩) (fun hHeld2=>?_)
    clear hK K hHeld
    rename _=>hHeld
    try simp only [Act.put,stB,stZ,stS]
   | refine ts 30 (some 133) ?_
   first | refine tm 31 (some 134) ?_ | refine ts 31 (some 134) ?_
   first | refine tm 32 (some 135) ?_ | refine ts 32 (some 135) ?_
   refine tm 33 (some 136) ?_
   refine tm 34 (some 4) ?_
   refine wpAnyH_done (by kernel_rfl) ?_ _
   clear hHeld
   go_wp2_with fail
   refine bodyPost_ret (v:=.bool true) (by simp [results,Tryz.results15,go_sem]) rfl ?_
   exact ⟨rfl,HN.out.bel⟩
end Go.Proofs.YtmhainidincjhaaGreatDoor
