/-
 What the laws stand on, part U: contracts and plain laws of MMake; the conditions are each law's own.
-/
import Derived.Test.YtmhainidincjhaaGreatDoorBQ
import Derived.Test.YtmhainidincjhaaGreatDoorBL
set_option linter.unusedVariables false
set_option linter.unusedSimpArgs false
set_option maxRecDepth 100000
set_option maxHeartbeats 16000000
namespace Go.Proofs.YtmhainidincjhaaGreatDoor
open Go.RowKit Go.Extern.Stop Go.Stop Go.Extern
theorem step_append_at {P:Program} {w:World} {base:Nat} {e:TypeId} {size n:Nat} {xs:List Value} {ops:Array Oper} {o:Oper} {a:Act} {K:Act→World→Prop} {Q:Exit→Act→World→Prop} {E:Prop} (hgd:o.guard=none) (s x:Operand) (t tx:TypeId)
  (ho:o.op=.call { callee:=.builtin .append,args:=#[s,x],argTypes:=#[t,tx] })
  (i:TypeInfo) (z:Value) (bytes:Nat) (ht:P.underlying t=some (.slice e)) (hi:P.info? e=some i) (hz:i.zero=some z)
  (hsize:i.size=size) (hby:i.bytes=bytes) (hzs:z.cells.size=size)
  {a0:Option Addr} {c0:Nat} (hv:a.eval s=.slice a0 n c0) (h:Mid w base e size (.slice a0 n c0) n xs) (xv:Value) (hx:a.eval x=xv) (m:Nat) (news:List Value) (hs:Src P size tx xv m news w)
  (h63:n+m≤maxLen) (hbytes:((n+m)+(n+m) / 4+192)*bytes≤281474976710656) (hbase:base≤w.heap.size)
  (H:∀ a' c' w',Mid w' base e size (.slice a' (n+m) c') (n+m) (xs++news)→w.grownBy w' (Value.slice a0 n c0).ownBlock→((Value.slice a' (n+m) c').ownBlock=(Value.slice a0 n c0).ownBlock∨(Value.slice a' (n+m) c').ownBlock=some w.heap.size)→(a'=a0∨a'=some ⟨w.heap.size,0,none⟩)→K (a.put o.dst (.slice a' (n+m) c')) w') :
  if Region.wanted o (yielded ops a.tmps)=true then Oper.wp P o a w K Q else E:=by
 have hw:Region.wanted o (yielded ops a.tmps)=true:=by simp [Region.wanted,hgd]
 rw [if_pos hw]
 obtain ⟨v',w',hr,h2,h3,h4,_⟩:=run_append_mid (P:=P) t tx o.type i z bytes ht hi hz hsize hby hzs h xv m news hs h63 hbytes hbase
 obtain ⟨a',c',rfl⟩:=h2.slice
 have h5:=run_append_at (P:=P) t tx o.type i z bytes ht hi hz hsize hby hzs h xv m news hs h63 hbytes hr rfl rfl
 have h6:=H a' c' w' h2 h3 h4 h5
 unfold Oper.wp execOp
 simp only [ho,resolve,invoke,builtin,Sem.run_bind,Sem.run_pure,Result.andThen_ok,List.map_toArray,List.map_cons,List.map_nil,hv,hx,hr]
 exact h6
section
variable {w W W' : World} {bs : List Bk} {ns : List Nm} {T : TypeId} {sz : Nat} {a : Option Addr} {n c : Nat} {cs : List Value}
theorem OB.call (h:OB w bs ns T sz a n c cs W) (hb:Below W.heap.size W W'):OB w bs ns T sz a n c cs W':=⟨h.st.call hb,mid_under h.mid hb,h.nod,h.hd⟩
theorem OB.got (h:OB w bs ns T sz a n c cs W) {a2:Option Addr} {c2 m:Nat} (hn:NatW W a2 c2 m):OB w bs (⟨a2,c2,m⟩::ns) T sz a n c cs W:=⟨h.st.gotk 0 hn,h.mid,h.nod,h.hd⟩
theorem OB.set (h:OB w bs ns T sz a n c cs W) (i j:Nat) {b:Bk} {u0:Value} (hi:bs[i]?=some b) (hj:b.cs[j]?=some u0) (h0:∀ x,u0≠.int .u64 x) (v:Value):OB w (bs.set i ⟨b.p,b.T,b.cs.set j v⟩) ns T sz a n c cs (W.setCell ⟨b.p,j,none⟩ v) :=
 ⟨h.st.set i j hi hj h0 v,h.mid.setCell v fun e=>h.nod b.p e b (List.mem_of_getElem? hi) rfl,fun k hk b2 hb2=>by
  rcases List.mem_or_eq_of_mem_set hb2 with hb2 | rfl
  ·
   exact h.nod k hk b2 hb2
  ·
   exact h.nod k hk b (List.mem_of_getElem? hi),h.hd⟩
end
structure RawE where
 id:Int
 sg:Bool
 a:Option Addr
 n:Nat
 c:Nat
 b:Option Addr
 m:Nat
 d:Nat
 xs:List Nat
 ys:List Nat
def RawE.cells (e:RawE):List Value:=[.int .i64 e.id,.bool e.sg,.slice e.a e.n e.c,.slice e.b e.m e.d]
theorem rawCells_len (e:RawE):e.cells.length=4:=rfl
def RawE.ent (e:RawE):Ent:=⟨e.id,ratG e.sg e.xs e.ys⟩
structure RawV where
 verb:Int
 ses:Int
 rig:Int
 tk:ByteArray
 ot:ByteArray
 op:Int
 row:Int
 col:Int
 kind:Int
 sg:Bool
 a:Option Addr
 n:Nat
 c:Nat
 b:Option Addr
 m:Nat
 d:Nat
 xs:List Nat
 ys:List Nat
 ea:Option Addr
 en:Nat
 ec:Nat
 es:List RawE
def RawV.cells (x:RawV):List Value:=[.int .i64 x.verb,.int .i64 x.ses,.int .i64 x.rig,.string x.tk,.string x.ot,.int .i64 x.op,.int .i64 x.row,.int .i64 x.col,.int .i64 x.kind,.bool x.sg,.slice x.a x.n x.c,.slice x.b x.m x.d,.slice x.ea x.en x.ec]
def RawV.msg (x:RawV):Msg:=⟨x.verb,natB x.tk,x.ses,x.rig,natB x.ot,⟨x.op,x.row,x.col,x.kind,ratG x.sg x.xs x.ys,x.es.map RawE.ent⟩⟩
structure RawW (w:World) (x:RawV):Prop where
 tk:x.tk.size≤1048576
 ot:x.ot.size≤1048576
 p:PartW w x.a x.n x.c x.b x.m x.d x.xs x.ys
 sl:Sl w 4 (.slice x.ea x.en x.ec) x.en (x.es.flatMap RawE.cells)
 len:x.es.length=x.en
 en:x.en≤1048576
 ok:∀ e,e∈x.es→PartW w e.a e.n e.c e.b e.m e.d e.xs e.ys
theorem RawW.below {w w':World} {x:RawV} (h:RawW w x) (hb:Below w.heap.size w w'):RawW w' x:=⟨h.tk,h.ot,h.p.below hb,Sl.below h.sl hb,h.len,h.en,fun e he=>(h.ok e he).below hb⟩
theorem RawW.get {w:World} {x:RawV} (h:RawW w x) (k:Nat) (hk:k<x.en):∃ e b o,x.es[k]?=some e∧x.ea=some ⟨b,o,none⟩∧b<w.heap.size∧x.en≤x.ec∧w.cell? ⟨b,o+k*4,none⟩=some (.int .i64 e.id)∧w.cell? ⟨b,o+k*4+1,none⟩=some (.bool e.sg)∧w.cell? ⟨b,o+k*4+2,none⟩=some (.slice e.a e.n e.c)∧w.cell? ⟨b,o+k*4+3,none⟩=some (.slice e.b e.m e.d)∧PartW w e.a e.n e.c e.b e.m e.d e.xs e.ys:=by
 have hkl:k<x.es.length:=by rw [h.len];exact hk
 have hlen:=h.len
 obtain ⟨b,o,c',e,h1,h2,h3,h4⟩:=h.sl.plain (by omega)
 injection e with e1 e2 e3
 have hc:=fun j u hj=>h4 _ u (flat_at RawE.cells 4 rawCells_len x.es k hkl j u hj)
 have c0:=hc 0 _ rfl
 have c1:=hc 1 _ rfl
 have c2:=hc 2 _ rfl
 have c3:=hc 3 _ rfl
 simp only [← Nat.add_assoc,Nat.add_zero] at c0 c1 c2 c3
 exact ⟨x.es[k],b,o,List.getElem?_eq_getElem hkl,e1,h3,by rw [e3];exact h1,c0,c1,c2,c3,h.ok _ (List.getElem_mem hkl)⟩
end Go.Proofs.YtmhainidincjhaaGreatDoor
