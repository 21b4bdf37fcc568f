/-
 What the laws stand on, part Rd: contracts and plain laws of FPart, FLay, FEnc27, FPrt, FQst; the conditions are each law's own.
-/
import Derived.Test.YtmhainidincjhaaGreatDoorARc
import Derived.Test.YtmhainidincjhaaGreatDoorAN
import Derived.Lib.ConvBytes
set_option linter.unusedVariables false
set_option linter.unusedSimpArgs false
set_option maxRecDepth 100000
set_option maxHeartbeats 16000000
namespace Go.Proofs.YtmhainidincjhaaGreatDoor
open Go.RowKit Go.Extern.Stop Go.Stop Go.Extern
inductive VP where
 | num (n lo hi:Int)
 | idn (n:Int)
 | tok (t:ByteArray)
 | rat (q:Rat) (s:Bool) (a:Option Addr) (n c:Nat) (b:Option Addr) (m d:Nat)
def VP.cells:VP→List Value
 | .num n lo hi=>[.int .i64 1,.int .i64 lo,.int .i64 hi,.int .i64 n,.string ⟨#[]⟩,.bool false,.slice none 0 0,.slice none 0 0]
 | .idn n=>[.int .i64 2,.int .i64 0,.int .i64 0,.int .i64 n,.string ⟨#[]⟩,.bool false,.slice none 0 0,.slice none 0 0]
 | .tok t=>[.int .i64 3,.int .i64 0,.int .i64 0,.int .i64 0,.string t,.bool false,.slice none 0 0,.slice none 0 0]
 | .rat _ s a n c b m d=>[.int .i64 4,.int .i64 0,.int .i64 0,.int .i64 0,.string ⟨#[]⟩,.bool s,.slice a n c,.slice b m d]
def VP.ok (W:World):VP→Prop
 | .rat q s a n c b m d=>s=decide (q.num<0)∧QW W a n c b m d q.num.natAbs q.den∧n≤4294967296∧m≤4294967296
 | _=>True
theorem VP.len (p:VP):p.cells.length=8:=by cases p <;> rfl
theorem VP.ok.below {W W':World} {p:VP} (h:p.ok W) (hb:Below W.heap.size W W'):p.ok W':=by
 cases p with
 | rat q s a n c b m d=>exact ⟨h.1,h.2.1.below hb,h.2.2⟩
 | _=>trivial
structure PSW (w:World) (a:Option Addr) (n c:Nat) (l:List VP):Prop where
 len:l.length=n
 sl:Sl w 8 (.slice a n c) n (l.flatMap VP.cells)
 ok:∀ p,p∈l→p.ok w
theorem PSW.below {w w':World} {a:Option Addr} {n c:Nat} {l:List VP} (h:PSW w a n c l) (hb:Below w.heap.size w w'):PSW w' a n c l :=
 ⟨h.len,Sl.below h.sl hb,fun p hp=>(h.ok p hp).below hb⟩
theorem PSW.cap {w:World} {a:Option Addr} {n c:Nat} {l:List VP} (h:PSW w a n c l):n≤c∧c≤9223372036854775807:=by
 obtain ⟨a',c',e,h1,h2,h3⟩:=Sl.len h.sl
 cases e
 exact ⟨h1,by unfold maxLen at h2;omega⟩
theorem PSW.get {w:World} {a:Option Addr} {n c:Nat} {l:List VP} (h:PSW w a n c l) (k:Nat) (hk:k<n):∃ p b o,l[k]?=some p∧p∈l∧a=some ⟨b,o,none⟩∧b<w.heap.size ∧
  ∀ j u,p.cells[j]?=some u→w.cell? ⟨b,o+k*8+j,none⟩=some u:=by
 have hkl:k<l.length:=by rw [h.len];exact hk
 obtain ⟨b,o,c',e,h1,h2,h3,h4⟩:=h.sl.plain (by omega)
 cases e
 refine ⟨l[k],b,o,List.getElem?_eq_getElem hkl,List.getElem_mem hkl,rfl,h3,fun j u hj=>?_⟩
 have:=h4 _ u (flat_at VP.cells 8 VP.len l k hkl j u hj)
 rw [Nat.add_assoc];exact this
structure PL (w:World) (a:Option Addr) (n c:Nat) (l:List VP) (W:World):Prop where
 mid:Mid W w.heap.size 152 8 (.slice a n c) n (l.flatMap VP.cells)
 bel:Below w.heap.size w W
theorem PL.nil (w:World):PL w none 0 0 [] w:=⟨Mid.nil w w.heap.size 152 8,Below.refl _ _⟩
theorem PL.call {w W W':World} {a:Option Addr} {n c:Nat} {l:List VP} (h:PL w a n c l W) (hb:Below W.heap.size W W'):PL w a n c l W':=⟨h.mid.below hb fun k hk=>(h.mid.lt k hk).2,bthen h.bel hb⟩
theorem PL.len {w W:World} {a:Option Addr} {n c:Nat} {l:List VP} (h:PL w a n c l W):n≤c∧c≤9223372036854775807:=by
 obtain ⟨a',c',e,h1,h2,h3⟩:=Sl.len (Sl.ofMid h.mid)
 cases e
 exact ⟨h1,by unfold maxLen at h2;omega⟩
theorem vp_len (l:List VP):(l.flatMap VP.cells).length=l.length*8:=by
 induction l with
 | nil=>rfl
 | cons p l ih=>rw [List.flatMap_cons,List.length_append,VP.len,ih,List.length_cons];omega
theorem PL.lit {w W:World} (h:PL w none 0 0 [] W) (l:List VP) (n:Nat) (hn:l.length=n) {ob:Obj} (ho:ob=.cells (l.flatMap VP.cells).toArray 152 (0,0)) (hm:n≤maxLen:=by unfold maxLen;omega):PL w (some ⟨W.heap.size,0,none⟩) n n l (W.alloc ob):=by
 subst ho hn
 refine ⟨⟨vp_len l,.inr ⟨W.heap.size,0,l.length,_,rfl,h.bel.size,heap_alloc_new _ _,Nat.le_refl _,hm,by rw [Nat.zero_add,List.size_toArray,vp_len];exact Nat.le_refl _,?_⟩⟩,bthen h.bel (belowBox _ _)⟩
 rw [List.drop_zero]
 exact List.take_of_length_le (by rw [vp_len];exact Nat.le_refl _)
theorem PL.push {w W W5:World} {a a5:Option Addr} {n c c5 m:Nat} {l ys:List VP} {ob:Obj} (h:PL w a n c l W)
  (hm:Mid W5 w.heap.size 152 8 (.slice a5 (n+m) c5) (n+m) (l.flatMap VP.cells++ys.flatMap VP.cells)) (hg:(W.alloc ob).grownBy W5 (Value.slice a n c).ownBlock):PL w a5 (n+m) c5 (l++ys) W5:=by
 refine ⟨by rw [List.flatMap_append];exact hm,Below.trans h.bel ?_⟩
 have h1:Below w.heap.size (W.alloc ob) W5:=(Keeps.of_grown hg (S:=fun b=>w.heap.size≤b) fun b hb=>(h.mid.lt b hb).1).below (Nat.le_trans h.bel.size (by simp)) fun b hb=>hb
 exact Below.trans ((belowBox W ob).mono h.bel.size) h1
theorem PL.push0 {w W W5:World} {a a5:Option Addr} {n c c5 m:Nat} {l ys:List VP} (h:PL w a n c l W)
  (hm:Mid W5 w.heap.size 152 8 (.slice a5 (n+m) c5) (n+m) (l.flatMap VP.cells++ys.flatMap VP.cells)) (hg:W.grownBy W5 (Value.slice a n c).ownBlock):PL w a5 (n+m) c5 (l++ys) W5:=by
 refine ⟨by rw [List.flatMap_append];exact hm,Below.trans h.bel ?_⟩
 exact (Keeps.of_grown hg (S:=fun b=>w.heap.size≤b) fun b hb=>(h.mid.lt b hb).1).below h.bel.size fun b hb=>hb
structure VE where
 id:Int
 q:Rat
 s:Bool
 a:Option Addr
 n:Nat
 c:Nat
 b:Option Addr
 m:Nat
 d:Nat
def VE.cells (e:VE):List Value:=[.int .i64 e.id,.bool e.s,.slice e.a e.n e.c,.slice e.b e.m e.d]
def VE.two (e:VE):List VP:=[VP.idn e.id,VP.rat e.q e.s e.a e.n e.c e.b e.m e.d]
def VE.ent (e:VE):Ent:=⟨e.id,e.q⟩
theorem VE.len (e:VE):e.cells.length=4:=rfl
structure EsR (w:World) (a:Option Addr) (n c:Nat) (l:List VE):Prop where
 len:l.length=n
 sl:Sl w 4 (.slice a n c) n (l.flatMap VE.cells)
theorem EsR.below {w w':World} {a:Option Addr} {n c:Nat} {l:List VE} (h:EsR w a n c l) (hb:Below w.heap.size w w'):EsR w' a n c l:=⟨h.len,Sl.below h.sl hb⟩
theorem EsR.cap {w:World} {a:Option Addr} {n c:Nat} {l:List VE} (h:EsR w a n c l):n≤c∧c≤9223372036854775807:=by
 obtain ⟨a',c',e,h1,h2,h3⟩:=Sl.len h.sl
 cases e
 exact ⟨h1,by unfold maxLen at h2;omega⟩
theorem EsR.get {w:World} {a:Option Addr} {n c:Nat} {l:List VE} (h:EsR w a n c l) (k:Nat) (hk:k<n):∃ x b o,l[k]?=some x∧a=some ⟨b,o,none⟩∧b<w.heap.size ∧
  w.cell? ⟨b,o+k*4,none⟩=some (.int .i64 x.id)∧w.cell? ⟨b,o+k*4+1,none⟩=some (.bool x.s)∧w.cell? ⟨b,o+k*4+2,none⟩=some (.slice x.a x.n x.c)∧w.cell? ⟨b,o+k*4+3,none⟩=some (.slice x.b x.m x.d):=by
 have hkl:k<l.length:=by rw [h.len];exact hk
 obtain ⟨b,o,c',e,h1,h2,h3,h4⟩:=h.sl.plain (by omega)
 cases e
 have hc:=fun j u hj=>h4 _ u (flat_at VE.cells 4 VE.len l k hkl j u hj)
 have c0:=hc 0 _ rfl
 have c1:=hc 1 _ rfl
 have c2:=hc 2 _ rfl
 have c3:=hc 3 _ rfl
 simp only [← Nat.add_assoc,Nat.add_zero] at c0 c1 c2 c3
 exact ⟨l[k],b,o,List.getElem?_eq_getElem hkl,rfl,h3,c0,c1,c2,c3⟩
end Go.Proofs.YtmhainidincjhaaGreatDoor
