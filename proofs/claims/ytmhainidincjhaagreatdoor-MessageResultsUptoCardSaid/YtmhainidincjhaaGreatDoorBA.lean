/-
 What the laws stand on, part A: contracts and plain laws of Mem, Mem2, Mem3, Own, Box, NWord, NNat, NDiv, NProd, NLong, NBits, Word1, NLen, Word2, NSize, Nat1, NRat, Nat2, Nat3, Nat4, Bs, BsF, Rnd, TkC, NSchool, Word3, NDiv2, Word4, Quot1, Prod1, TkF, Quot2, Int1, Prod2; the conditions are each law's own.
-/
import Derived.WalkKit
import Derived.Deep.AppendSrc
import Derived.Deep.DeepAppendWide
import Derived.OpenShut
import Derived.Deep.QuietTactic
import Derived.Laws.Rows
import Derived.RowKit
import Derived.Laws.BitsAllLaws
import Derived.Laws.Bits64
import Derived.Test.YtmhainidincjhaaGreatDoorChecked
import Derived.LoopTactic
import Derived.Lib.Hide
import Derived.BigQuiet
import Derived.OwnWalk
import Derived.WalkSpells
import Derived.Deep.RegionHeld3
import Derived.Deep.DeepCutAuto
import Derived.Laws.MakeOwn
import Derived.Deep.RegionWith
import Derived.Deep.RegionHeld
set_option linter.unusedVariables false
set_option linter.unusedSimpArgs false
set_option maxRecDepth 100000
set_option maxHeartbeats 16000000
namespace Go.Proofs.YtmhainidincjhaaGreatDoor
open Go.RowKit
def Mid (w:World) (base:Nat) (e:TypeId) (size:Nat) (v:Value) (n:Nat) (xs:List Value):Prop :=
 xs.length=n*size∧((v=.slice none 0 0∧n=0) ∨
  ∃ (g o cap:Nat) (cur:Array Value),v=.slice (some ⟨g,o,none⟩) n cap∧base≤g∧w.heap[g]?=some (.cells cur e (0,0))∧n≤cap∧cap≤maxLen∧o+cap*size≤cur.size∧(cur.toList.drop o).take (n*size)=xs)
section
variable {w w' : World} {base : Nat} {e : TypeId} {size : Nat} {v : Value} {n : Nat} {xs : List Value}
theorem Mid.nil (w:World) (base:Nat) (e:TypeId) (size:Nat):Mid w base e size (.slice none 0 0) 0 []:=⟨by simp,.inl ⟨rfl,rfl⟩⟩
theorem Mid.lt (h:Mid w base e size v n xs):∀ k,v.ownBlock=some k→base≤k∧k<w.heap.size:=by
 intro k hk
 rcases h.2 with ⟨rfl,_⟩ | ⟨g,o,cap,cur,rfl,hb,hg,_⟩
 ·
  cases hk
 ·
  simp only [Value.ownBlock,Option.some.injEq] at hk
  subst hk
  exact ⟨hb,(Array.getElem?_eq_some_iff.1 hg).1⟩
theorem Mid.same (h:Mid w base e size v n xs) (hs:∀ k,v.ownBlock=some k→w'.heap[k]?=w.heap[k]?):Mid w' base e size v n xs:=by
 refine ⟨h.1,?_⟩
 rcases h.2 with h0 | ⟨g,o,cap,cur,rfl,hb,hg,r⟩
 ·
  exact .inl h0
 ·
  exact .inr ⟨g,o,cap,cur,rfl,hb,(hs g rfl).trans hg,r⟩
theorem Mid.grown {row:Option Nat} (h:Mid w base e size v n xs) (hg:w.grownBy w' row) (hne:∀ k,v.ownBlock=some k→some k≠row):Mid w' base e size v n xs :=
 h.same fun k hk=>hg.block k (h.lt k hk).2 (hne k hk)
theorem Mid.alloc (h:Mid w base e size v n xs) (ob:Obj):Mid (w.alloc ob) base e size v n xs :=
 h.same fun k hk=>Below.heap_alloc _ _ _ (h.lt k hk).2
theorem Mid.drew (h:Mid w base e size v n xs):Mid w.drew base e size v n xs:=h
theorem Mid.setCell {a:Addr} (h:Mid w base e size v n xs) (u:Value) (hne:v.ownBlock≠some a.block):Mid (w.setCell a u) base e size v n xs :=
 h.same fun k hk=>Below.heap_setCell _ _ _ _ (fun ee=>hne (by rw [hk,ee]))
theorem Mid.below {B:Nat} (h:Mid w base e size v n xs) (hb:Below B w w') (hB:∀ k,v.ownBlock=some k→k<B):Mid w' base e size v n xs :=
 h.same fun k hk=>hb.block k (hB k hk)
theorem Mid.mono {b2:Nat} (h:Mid w base e size v n xs) (hb:b2≤base):Mid w b2 e size v n xs:=by
 refine ⟨h.1,?_⟩
 rcases h.2 with h0 | ⟨g,o,cap,cur,hv,hg,r⟩
 ·
  exact .inl h0
 ·
  exact .inr ⟨g,o,cap,cur,hv,Nat.le_trans hb hg,r⟩
theorem Mid.form (h:Mid w base e size v n xs):(v=.slice none 0 0∧n=0∧xs=[])∨∃ g o cap,v=.slice (some ⟨g,o,none⟩) n cap∧base≤g∧g<w.heap.size∧n≤cap∧cap≤maxLen:=by
 rcases h.2 with ⟨hv,h0⟩ | ⟨g,o,cap,cur,hv,hb,hg,hn,hm,_⟩
 ·
  subst h0
  exact .inl ⟨hv,rfl,List.eq_nil_of_length_eq_zero (by simpa using h.1)⟩
 ·
  exact .inr ⟨g,o,cap,hv,hb,(Array.getElem?_eq_some_iff.1 hg).1,hn,hm⟩
theorem Mid.cell {g o cap:Nat} (h:Mid w base e size (.slice (some ⟨g,o,none⟩) n cap) n xs):∀ j u,xs[j]?=some u→w.cell? ⟨g,o+j,none⟩=some u:=by
 intro j u hj
 rcases h.2 with ⟨hv,_⟩ | ⟨g',o',cap',cur,hv,hb,hg,hn,hm,hc,ht⟩
 ·
  cases hv
 ·
  cases hv
  rw [← ht,List.getElem?_take] at hj
  split at hj
  ·
   rw [List.getElem?_drop] at hj
   simp only [World.cell?,hg,Option.isSome_none,Bool.false_eq_true,if_false]
   simpa using hj
  ·
   cases hj
theorem Mid.frozen {g o cap:Nat} (h:Mid w base e size (.slice (some ⟨g,o,none⟩) n cap) n xs) (j:Nat):w.frozen? ⟨g,j,none⟩=false:=by
 rcases h.2 with ⟨hv,_⟩ | ⟨g',o',cap',cur,hv,hb,hg,_⟩
 ·
  cases hv
 ·
  cases hv
  simp [World.frozen?,hg]
theorem Mid.drop {g o cap:Nat} (h:Mid w base e size (.slice (some ⟨g,o,none⟩) n cap) n xs) (k:Nat) (hk:k≤n):Mid w base e size (.slice (some ⟨g,o+k*size,none⟩) (n - k) (cap - k)) (n - k) (xs.drop (k*size)):=by
 rcases h.2 with ⟨hv,_⟩ | ⟨g',o',cap',cur,hv,hb,hg,hn,hm,hc,ht⟩
 ·
  cases hv
 ·
  cases hv
  refine ⟨by rw [List.length_drop,h.1,Nat.sub_mul],.inr ⟨g,o+k*size,cap - k,cur,rfl,hb,hg,by omega,by omega,?_,?_⟩⟩
  ·
   have:(cap - k)*size+k*size≤cap*size:=by rw [← Nat.add_mul];exact Nat.mul_le_mul_right _ (by omega)
   omega
  ·
   rw [← ht,List.drop_take,List.drop_drop,Nat.sub_mul]
theorem Mid.empty {g o cap:Nat} (h:Mid w base e size (.slice (some ⟨g,o,none⟩) n cap) n xs):Mid w base e size (.slice (some ⟨g,o,none⟩) 0 0) 0 []:=by
 rcases h.2 with ⟨hv,_⟩ | ⟨g',o',cap',cur,hv,hb,hg,hn,hm,hc,ht⟩
 ·
  cases hv
 ·
  cases hv
  exact ⟨by simp,.inr ⟨g,o,0,cur,rfl,hb,hg,Nat.le_refl _,Nat.zero_le _,by simp;omega,by simp⟩⟩
theorem Mid.new (w:World) (e:TypeId) (size n cap:Nat) (cur:Array Value) (hb:base≤w.heap.size) (hn:n≤cap) (hm:cap≤maxLen) (hs:cap*size≤cur.size) :
  Mid (w.alloc (.cells cur e)) base e size (.slice (some ⟨w.heap.size,0,none⟩) n cap) n (cur.toList.take (n*size)):=by
 refine ⟨?_,.inr ⟨w.heap.size,0,cap,cur,rfl,hb,heap_alloc_new w _,hn,hm,by simpa using hs,by simp⟩⟩
 have:=Nat.mul_le_mul_right size hn
 rw [List.length_take,Array.length_toList];omega
theorem run_append_mid {P:Program} (t tx ty:TypeId) (i:TypeInfo) (z:Value) (bytes:Nat) (ht:P.underlying t=some (.slice e)) (hi:P.info? e=some i) (hz:i.zero=some z)
  (hsize:i.size=size) (hby:i.bytes=bytes) (hzs:z.cells.size=size)
  (h:Mid w base e size v n xs) (x:Value) (m:Nat) (news:List Value) (hs:Src P size tx x m news w)
  (h63:n+m≤maxLen) (hbytes:((n+m)+(n+m) / 4+192)*bytes≤281474976710656) (hbase:base≤w.heap.size) :
  ∃ v' w',(Builtin.append_ #[t,tx] ty #[v,x]).run P w=.ok v' w'∧Mid w' base e size v' (n+m) (xs++news)∧w.grownBy w' v.ownBlock ∧
   (v'.ownBlock=v.ownBlock∨v'.ownBlock=some w.heap.size)∧(v'.ownBlock=none→v=.slice none 0 0∧m=0):=by
 subst hsize
 subst hby
 have hsmall:n+m≤9223372036854775807:=by simp only [maxLen] at h63;omega
 have hlen:(xs++news).length=(n+m)*i.size:=by rw [List.length_append,h.1,hs.newsLen,Nat.add_mul]
 have grown:∀ (old:Nat),old<n+m→∀ (row:Option Nat),
   Mid (w.drew.alloc (.cells ((xs++news).toArray++Builtin.zeroCells z.cells (grownCap w (n+m) old e - (n+m))) e)) base e i.size (.slice (some ⟨w.heap.size,0,none⟩) (n+m) (grownCap w (n+m) old e)) (n+m) (xs++news) ∧
   w.grownBy (w.drew.alloc (.cells ((xs++news).toArray++Builtin.zeroCells z.cells (grownCap w (n+m) old e - (n+m))) e)) row:=by
  intro old ho row
  have hge:=grownCap_ge w (n+m) old e
  have hcm:grownCap w (n+m) old e≤maxLen:=grownCap_le_maxLen w (n+m) old e h63
  refine ⟨⟨hlen,.inr ⟨w.heap.size,0,_,_,rfl,hbase,heap_alloc_new w.drew _,hge,hcm,?_,?_⟩⟩,⟨rfl,rfl,rfl,by simp,fun k hk _=>heap_alloc_old w.drew _ hk⟩⟩
  ·
   have e1:(xs++news).toArray.size=(n+m)*i.size:=by simpa using hlen
   rw [Array.size_append,size_zeroCells,hzs,e1,← Nat.add_mul,Nat.zero_add]
   exact Nat.mul_le_mul_right _ (by omega)
  ·
   simp only [Array.toList_append,List.drop_zero]
   rw [← hlen]
   exact List.take_left
 rcases h.2 with ⟨rfl,rfl⟩ | ⟨g,o,cap,cur,rfl,hbg,hg,hnc,hcm,hcs,htake⟩
 ·
  have hx:xs=[]:=List.eq_nil_of_length_eq_zero (by simpa using h.1)
  subst hx
  by_cases hm:m=0
  ·
   subst hm
   have hn:news=[]:=List.eq_nil_of_length_eq_zero (by simpa using hs.newsLen)
   subst hn
   refine ⟨.slice none 0 0,w,?_,by simpa using Mid.nil w base e i.size,⟨rfl,rfl,rfl,Nat.le_refl _,fun _ _ _=>rfl⟩,.inl rfl,fun _=>⟨rfl,rfl⟩⟩
   rcases hs.kind with ⟨e',hk⟩ | hk <;> simp [Builtin.append_,run_underlying ht,run_underlying hk,sizeOf,typeInfo,hi,hs.len,hs.cells]
  ·
   have hfit:Builtin.nextslicecap (0+m) 0*i.bytes≤281474976710656:=growslice_fits_wide (by omega) hbytes
   have hr:=run_append_grow_src (P:=P) w t tx ty e i z ht hi hz none 0 0 [] (by simp [Builtin.firstCells]) x m news hs (by omega) (by omega) hfit
   have hgr:=grown 0 (by omega) (Value.ownBlock (.slice none 0 0))
   exact ⟨_,_,hr,hgr.1,hgr.2,.inr rfl,fun h=>by cases h⟩
 ·
  by_cases hroom:n+m≤cap
  ·
   have hfit:o+n*i.size+news.length≤cur.size:=by
    have:n*i.size+m*i.size≤cap*i.size:=by rw [← Nat.add_mul];exact Nat.mul_le_mul_right _ hroom
    rw [hs.newsLen];omega
   have hst:=run_storeCells_at P g (o+n*i.size) e news 0 cur w hg (by simpa using hfit) hs.one
   simp only [Nat.add_zero] at hst
   have hr:(Builtin.append_ #[t,tx] ty #[.slice (some ⟨g,o,none⟩) n cap,x]).run P w=.ok (.slice (some ⟨g,o,none⟩) (n+m) cap) (w.setRow g (cur.toList.take (o+n*i.size)++news++cur.toList.drop (o+n*i.size+news.length)).toArray):=by
    rcases hs.kind with ⟨e',hk⟩ | hk <;> simp [Builtin.append_,run_underlying ht,run_underlying hk,sizeOf,typeInfo,hi,hs.len,hroom,hs.cells,Addr.add_lit,hst]
   refine ⟨_,_,hr,⟨hlen,.inr ⟨g,o,cap,_,rfl,hbg,setRow_heap w g cur _ e _ hg,hroom,hcm,?_,?_⟩⟩,⟨rfl,rfl,rfl,by simp,fun k _ hk=>setRow_other w g k _ (fun ee=>hk (by simp [Value.ownBlock,ee]))⟩,.inl rfl,fun h=>by cases h⟩
   ·
    simp only [List.size_toArray,List.length_append,List.length_take,List.length_drop,Array.length_toList]
    omega
   ·
    have h1:(cur.toList.take (o+n*i.size)).drop o=xs:=by rw [List.drop_take,Nat.add_sub_cancel_left];exact htake
    have hol:o≤(cur.toList.take (o+n*i.size)).length:=by rw [List.length_take,Array.length_toList];omega
    show (List.drop o (cur.toList.take (o+n*i.size)++news++cur.toList.drop (o+n*i.size+news.length))).take ((n+m)*i.size)=xs++news
    rw [List.append_assoc,List.drop_append_of_le_length hol,h1,← List.append_assoc,← hlen]
    exact List.take_left
  ·
   have holds:(Builtin.firstCells i.size n (.slice (some ⟨g,o,none⟩) n cap)).run P w.drew=.ok xs.toArray w.drew:=by
    have hc:∀ j u,xs[j]?=some u→w.drew.cell? ((⟨g,o,none⟩:Addr).add j)=some u:=fun j u hj=>by
     rw [World.cell?_drew,Addr.add_lit];exact h.cell j u hj
    exact run_firstCells_some (P:=P) w.drew i.size n ⟨g,o,none⟩ n cap xs h.1 hc
   have hr:=run_append_grow_src (P:=P) w t tx ty e i z ht hi hz (some ⟨g,o,none⟩) n cap xs holds x m news hs (by omega) (by omega) (growslice_fits_wide (by omega) hbytes)
   have hgr:=grown cap (by omega) (Value.ownBlock (.slice (some ⟨g,o,none⟩) n cap))
   exact ⟨_,_,hr,hgr.1,hgr.2,.inr rfl,fun h=>by cases h⟩
theorem Mid.slice (h:Mid w base e size v n xs):∃ a c,v=.slice a n c:=by
 rcases h.form with ⟨hv,hn,_⟩ | ⟨g,o,cap,hv,_⟩
 ·
  subst hn;exact ⟨_,_,hv⟩
 ·
  exact ⟨_,_,hv⟩
theorem wp_append_mid {P:Program} {o:Oper} {a:Act} {K:Act→World→Prop} {Q:Exit→Act→World→Prop} (s x:Operand) (t tx:TypeId)
  (ho:o.op=.call { callee:=.builtin .append,args:=#[s,x],argTypes:=#[t,tx] })
  (i:TypeInfo) (z:Value) (bytes:Nat) (ht:P.underlying t=some (.slice e)) (hi:P.info? e=some i) (hz:i.zero=some z)
  (hsize:i.size=size) (hby:i.bytes=bytes) (hzs:z.cells.size=size)
  (hv:a.eval s=v) (h:Mid w base e size v n xs) (xv:Value) (hx:a.eval x=xv) (m:Nat) (news:List Value) (hs:Src P size tx xv m news w)
  (h63:n+m≤maxLen) (hbytes:((n+m)+(n+m) / 4+192)*bytes≤281474976710656) (hbase:base≤w.heap.size)
  (H:∀ a' c' w',Mid w' base e size (.slice a' (n+m) c') (n+m) (xs++news)→w.grownBy w' v.ownBlock→((Value.slice a' (n+m) c').ownBlock=v.ownBlock∨(Value.slice a' (n+m) c').ownBlock=some w.heap.size)→K (a.put o.dst (.slice a' (n+m) c')) w'):o.wp P a w K Q:=by
 obtain ⟨v',w',hr,h2,h3,h4,_⟩:=run_append_mid (P:=P) t tx o.type i z bytes ht hi hz hsize hby hzs h xv m news hs h63 hbytes hbase
 obtain ⟨a',c',rfl⟩:=h2.slice
 unfold Oper.wp execOp
 simp only [ho,resolve,invoke,builtin,Sem.run_bind,Sem.run_pure,Result.andThen_ok,List.map_toArray,List.map_cons,List.map_nil,hv,hx,hr]
 exact H a' c' w' h2 h3 h4
theorem wpList_append_mid {P:Program} {ops:Array Oper} {rest:List Oper} {o:Oper} {a:Act} {Q:Exit→Act→World→Prop} (hgd:o.guard=none) (s x:Operand) (t tx:TypeId)
  (ho:o.op=.call { callee:=.builtin .append,args:=#[s,x],argTypes:=#[t,tx] })
  (i:TypeInfo) (z:Value) (bytes:Nat) (ht:P.underlying t=some (.slice e)) (hi:P.info? e=some i) (hz:i.zero=some z)
  (hsize:i.size=size) (hby:i.bytes=bytes) (hzs:z.cells.size=size)
  (hv:a.eval s=v) (h:Mid w base e size v n xs) (xv:Value) (hx:a.eval x=xv) (m:Nat) (news:List Value) (hs:Src P size tx xv m news w)
  (h63:n+m≤maxLen) (hbytes:((n+m)+(n+m) / 4+192)*bytes≤281474976710656) (hbase:base≤w.heap.size)
  (H:∀ a' c' w',Mid w' base e size (.slice a' (n+m) c') (n+m) (xs++news)→w.grownBy w' v.ownBlock→((Value.slice a' (n+m) c').ownBlock=v.ownBlock∨(Value.slice a' (n+m) c').ownBlock=some w.heap.size)→wpList P ops Q rest (a.put o.dst (.slice a' (n+m) c')) w'):wpList P ops Q (o::rest) a w :=
 wpList_plain hgd fun _ hK=>wp_append_mid s x t tx ho i z bytes ht hi hz hsize hby hzs hv h xv hx m news hs h63 hbytes hbase fun a' c' w' h2 h3 h4=>hK _ _ (H a' c' w' h2 h3 h4)
end
structure Keeps (w w':World) (S:Nat→Prop):Prop where
 os:w'.os=w.os
 tape:w'.tape=w.tape
 output:w'.output=w.output
 size:w.heap.size≤w'.heap.size
 block:∀ k,k<w.heap.size→¬ S k→w'.heap[k]?=w.heap[k]?
section
variable {w w1 w2 w' : World} {S S1 S2 : Nat → Prop}
theorem Keeps.refl (w:World) (S:Nat→Prop):Keeps w w S:=⟨rfl,rfl,rfl,Nat.le_refl _,fun _ _ _=>rfl⟩
theorem Keeps.trans (h:Keeps w w1 S) (k:Keeps w1 w2 S2) (hs:∀ b,b<w.heap.size→S2 b→S b):Keeps w w2 S :=
 ⟨k.os.trans h.os,k.tape.trans h.tape,k.output.trans h.output,Nat.le_trans h.size k.size,fun i hi hn=>(k.block i (Nat.lt_of_lt_of_le hi h.size) (fun h2=>hn (hs i hi h2))).trans (h.block i hi hn)⟩
theorem Keeps.mono (h:Keeps w w1 S) (hs:∀ b,b<w.heap.size→S b→S2 b):Keeps w w1 S2:=⟨h.os,h.tape,h.output,h.size,fun i hi hn=>h.block i hi fun h1=>hn (hs i hi h1)⟩
theorem Keeps.of_below {B:Nat} (h:Below B w w1) (hs:∀ b,B≤b→b<w.heap.size→S b):Keeps w w1 S :=
 ⟨h.os,h.tape,h.output,h.size,fun i hi hn=>h.block i (Nat.lt_of_not_le fun hB=>hn (hs i hB hi))⟩
theorem Keeps.of_grown {row:Option Nat} (h:w.grownBy w1 row) (hs:∀ b,row=some b→S b):Keeps w w1 S :=
 ⟨h.os,h.tape,h.output,h.size,fun i hi hn=>h.block i hi fun e=>hn (hs i e.symm)⟩
theorem Keeps.drewN (w:World) (n:Nat) (S:Nat→Prop):Keeps w (w.drewN n) S:=⟨rfl,rfl,rfl,Nat.le_refl _,fun _ _ _=>rfl⟩
theorem Keeps.drew (w:World) (S:Nat→Prop):Keeps w w.drew S:=⟨rfl,rfl,rfl,Nat.le_refl _,fun _ _ _=>rfl⟩
theorem Keeps.alloc (w:World) (o:Obj) (S:Nat→Prop):Keeps w (w.alloc o) S:=⟨rfl,rfl,rfl,by simp,fun i hi _=>Below.heap_alloc _ _ _ hi⟩
theorem Keeps.setCell (w:World) (a:Addr) (u:Value) (hs:S a.block):Keeps w (w.setCell a u) S :=
 ⟨rfl,rfl,rfl,by simp,fun i _ hn=>Below.heap_setCell _ _ _ _ (fun e=>hn (e▸hs))⟩
theorem Keeps.below {B:Nat} (h:Keeps w w1 S) (hB:B≤w.heap.size) (hs:∀ b,S b→B≤b):Below B w w1 :=
 ⟨h.os,h.tape,h.output,h.size,fun k hk=>h.block k (by omega) fun h1=>by have:=hs k h1;omega⟩
theorem Keeps.cell (h:Keeps w w1 S) {a:Addr} (hlt:a.block<w.heap.size) (hn:¬ S a.block):w1.cell? a=w.cell? a:=World.cell?_of_block (h.block _ hlt hn)
theorem Keeps.frozen (h:Keeps w w1 S) {a:Addr} (hlt:a.block<w.heap.size) (hn:¬ S a.block):w1.frozen? a=w.frozen? a:=World.frozen?_of_block (h.block _ hlt hn)
end
def Sl (w:World) (size:Nat) (v:Value) (n:Nat) (cs:List Value):Prop :=
 cs.length=n*size∧((∃ a c,v=.slice a n c∧n=0∧c≤maxLen∧(a=none→c=0))∨∃ (b o c:Nat),v=.slice (some ⟨b,o,none⟩) n c∧n≤c∧c≤maxLen∧b<w.heap.size∧∀ j u,cs[j]?=some u→w.cell? ⟨b,o+j,none⟩=some u)
section
variable {w w' : World} {size n : Nat} {v : Value} {cs : List Value}
theorem Sl.same (h:Sl w size v n cs) (hz:w.heap.size≤w'.heap.size) (hs:∀ k,k<w.heap.size→v.ownBlock=some k→w'.heap[k]?=w.heap[k]?):Sl w' size v n cs:=by
 refine ⟨h.1,?_⟩
 rcases h.2 with h0 | ⟨b,o,c,rfl,h1,h2,h3,h4⟩
 ·
  exact .inl h0
 ·
  exact .inr ⟨b,o,c,rfl,h1,h2,by omega,fun j u hj=>(World.cell?_of_block (hs b h3 rfl)).trans (h4 j u hj)⟩
theorem Sl.keeps {S:Nat→Prop} (h:Sl w size v n cs) (hk:Keeps w w' S) (hs:∀ k,k<w.heap.size→v.ownBlock=some k→¬ S k):Sl w' size v n cs :=
 h.same hk.size fun k hlt hv=>hk.block k hlt (hs k hlt hv)
theorem Sl.alloc (h:Sl w size v n cs) (ob:Obj):Sl (w.alloc ob) size v n cs:=h.same (by simp) fun _ hlt _=>Below.heap_alloc _ _ _ hlt
theorem Sl.below (h:Sl w size v n cs) (hb:Below w.heap.size w w'):Sl w' size v n cs:=h.same hb.size fun k hlt _=>hb.block k hlt
theorem Sl.ofMid {base:Nat} {e:TypeId} {xs:List Value} (h:Mid w base e size v n xs):Sl w size v n xs:=by
 refine ⟨h.1,?_⟩
 rcases h.form with ⟨rfl,rfl,_⟩ | ⟨g,o,cap,rfl,hb,hlt,hn,hm⟩
 ·
  exact .inl ⟨none,0,rfl,rfl,Nat.zero_le _,fun _=>rfl⟩
 ·
  exact .inr ⟨g,o,cap,rfl,hn,hm,hlt,h.cell⟩
theorem Sl.src {P:Program} {tx e':TypeId} (hk:P.underlying tx=some (.slice e')) (h:Sl w size v n cs) (h1:∀ u∈cs,u.oneCell'=true):Src P size tx v n cs w:=by
 rcases h.2 with ⟨a,c,rfl,rfl,_,h0⟩ | ⟨b,o,c,rfl,_,_,_,h4⟩
 ·
  have:cs=[]:=List.eq_nil_of_length_eq_zero (by simpa using h.1)
  subst this
  cases a with
  | none=>rw [h0 rfl];exact Src.ofNil w hk 0
  | some a=>exact Src.ofSlice w hk a 0 c [] (by simp) (fun j u hj=>by simp at hj) (fun u hu=>by cases hu)
 ·
  exact Src.ofSlice w hk ⟨b,o,none⟩ n c cs h.1 (fun j u hj=>by rw [Addr.add_lit];exact h4 j u hj) h1
theorem Sl.len (h:Sl w size v n cs):∃ a c,v=.slice a n c∧n≤c∧c≤maxLen∧(a=none→c=0):=by
 rcases h.2 with ⟨a,c,rfl,rfl,h1,h0⟩ | ⟨b,o,c,rfl,h1,h2,_⟩
 ·
  exact ⟨a,c,rfl,Nat.zero_le _,h1,h0⟩
 ·
  exact ⟨_,c,rfl,h1,h2,fun h=>by cases h⟩
theorem Sl.plain (h:Sl w size v n cs) (hn:0<n):∃ (b o c:Nat),v=.slice (some ⟨b,o,none⟩) n c∧n≤c∧c≤maxLen∧b<w.heap.size∧∀ j u,cs[j]?=some u→w.cell? ⟨b,o+j,none⟩=some u:=by
 rcases h.2 with ⟨a,c,rfl,h0,_⟩ | h1
 ·
  omega
 ·
  exact h1
end
abbrev B8 (x:Int):Value:=.int .u8 x
def Bytes (w:World) (v:Value) (xs:List Int):Prop:=Sl w 1 v xs.length (xs.map B8)
theorem Bytes.plain {w:World} {v:Value} {xs:List Int} (h:Bytes w v xs) (hn:0<xs.length) :
  ∃ b o c,v=.slice (some ⟨b,o,none⟩) xs.length c∧xs.length≤c∧c≤maxLen∧b<w.heap.size∧∀ j x,xs[j]?=some x→w.cell? ⟨b,o+j,none⟩=some (.int .u8 x):=by
 obtain ⟨b,o,c,h0,h1,h2,h3,h4⟩:=Sl.plain h hn
 exact ⟨b,o,c,h0,h1,h2,h3,fun j x hj=>h4 j _ (by rw [List.getElem?_map,hj];rfl)⟩
theorem i64_or_nat (a b:Nat) (ha:a<9223372036854775808) (hb:b<9223372036854775808):bits .or .i64 (a:Int) (b:Int)=((a ||| b:Nat):Int):=by
 have hx:a ||| b<2^63:=Nat.or_lt_two_pow (by omega) (by omega)
 show IntKind.i64.wrap ((BitVec.ofInt 64 (a:Int) ||| BitVec.ofInt 64 (b:Int)).toNat:Int)=_
 rw [BitVec.toNat_or,ofInt_u64 a (by omega),ofInt_u64 b (by omega),IntKind.wrap_i64]
 omega
theorem i64_or_low (k A B:Nat) (hA:A*2^k<9223372036854775808) (hB:B<2^k) (h63:B<9223372036854775808):bits .or .i64 ((A*2^k:Nat):Int) (B:Int)=((A*2^k+B:Nat):Int):=by
 rw [i64_or_nat _ _ hA h63]
 have h:=Nat.two_pow_add_eq_or_of_lt hB A
 rw [Nat.mul_comm] at h
 rw [h]
theorem be32_bits (b0 b1 b2 b3:Int) (l0:0≤b0) (u0:b0≤255) (l1:0≤b1) (u1:b1≤255) (l2:0≤b2) (u2:b2≤255) (l3:0≤b3) (u3:b3≤255) :
  bits .or .i64 (bits .or .i64 (bits .or .i64 (b0*16777216) (b1*65536)) (b2*256)) b3=b0*16777216+b1*65536+b2*256+b3:=by
 obtain ⟨n0,rfl⟩:=Int.eq_ofNat_of_zero_le l0
 obtain ⟨n1,rfl⟩:=Int.eq_ofNat_of_zero_le l1
 obtain ⟨n2,rfl⟩:=Int.eq_ofNat_of_zero_le l2
 obtain ⟨n3,rfl⟩:=Int.eq_ofNat_of_zero_le l3
 have h1:=i64_or_low 24 n0 (n1*65536) (by omega) (by omega) (by omega)
 have h2:=i64_or_low 16 (n0*256+n1) (n2*256) (by omega) (by omega) (by omega)
 have h3:=i64_or_low 8 (n0*65536+n1*256+n2) n3 (by omega) (by omega) (by omega)
 simp only [show (2:Nat)^24=16777216 from by decide,show (2:Nat)^16=65536 from by decide,show (2:Nat)^8=256 from by decide] at h1 h2 h3
 have e0:(n0:Int)*16777216=((n0*16777216:Nat):Int):=by omega
 have e1:(n1:Int)*65536=((n1*65536:Nat):Int):=by omega
 have e2:(n2:Int)*256=((n2*256:Nat):Int):=by omega
 rw [e0,e1,e2,h1,show n0*16777216+n1*65536=(n0*256+n1)*65536 from by omega,h2,show (n0*256+n1)*65536+n2*256=(n0*65536+n1*256+n2)*256 from by omega,h3]
 omega
section
variable {w w' : World} {base : Nat} {e : TypeId} {size : Nat} {v : Value} {n : Nat} {xs : List Value}
theorem Mid.stored {g o cap:Nat} (h:Mid w base e size (.slice (some ⟨g,o,none⟩) n cap) n xs) (j:Nat) (u:Value) :
  Mid (w.setCell ⟨g,o+j,none⟩ u) base e size (.slice (some ⟨g,o,none⟩) n cap) n (xs.set j u):=by
 refine ⟨by rw [List.length_set];exact h.1,?_⟩
 rcases h.2 with ⟨hv,_⟩ | ⟨g',o',cap',cur,hv,hb,hg,hn,hm,hc,ht⟩
 ·
  cases hv
 ·
  cases hv
  refine .inr ⟨g,o,cap,_,rfl,hb,heap_setCell_same w g (o+j) cur e u hg,hn,hm,by simpa using hc,?_⟩
  rw [Array.toList_setIfInBounds,List.drop_set,if_neg (by omega),Nat.add_sub_cancel_left,List.take_set,ht]
theorem step_append_mid {P:Program} {ops:Array Oper} {o:Oper} {a:Act} {K:Act→World→Prop} {Q:Exit→Act→World→Prop} {E:Prop} (hgd:o.guard=none) (s x:Operand) (t tx:TypeId)
  (ho:o.op=.call { callee:=.builtin .append,args:=#[s,x],argTypes:=#[t,tx] })
  (i:TypeInfo) (z:Value) (bytes:Nat) (ht:P.underlying t=some (.slice e)) (hi:P.info? e=some i) (hz:i.zero=some z)
  (hsize:i.size=size) (hby:i.bytes=bytes) (hzs:z.cells.size=size)
  (hv:a.eval s=v) (h:Mid w base e size v n xs) (xv:Value) (hx:a.eval x=xv) (m:Nat) (news:List Value) (hs:Src P size tx xv m news w)
  (h63:n+m≤maxLen) (hbytes:((n+m)+(n+m) / 4+192)*bytes≤281474976710656) (hbase:base≤w.heap.size)
  (H:∀ a' c' w',Mid w' base e size (.slice a' (n+m) c') (n+m) (xs++news)→w.grownBy w' v.ownBlock→((Value.slice a' (n+m) c').ownBlock=v.ownBlock∨(Value.slice a' (n+m) c').ownBlock=some w.heap.size)→K (a.put o.dst (.slice a' (n+m) c')) w') :
  if Region.wanted o (yielded ops a.tmps)=true then Oper.wp P o a w K Q else E:=by
 have hw:Region.wanted o (yielded ops a.tmps)=true:=by simp [Region.wanted,hgd]
 rw [if_pos hw]
 exact wp_append_mid s x t tx ho i z bytes ht hi hz hsize hby hzs hv h xv hx m news hs h63 hbytes hbase H
theorem Sl.lit (W:World) (T:TypeId) (size n:Nat) (cs:List Value) (hm:n≤maxLen) (hl:cs.length=n*size):Sl (W.alloc (.cells cs.toArray T)) size (.slice (some ⟨W.heap.size,0,none⟩) n n) n cs :=
 ⟨hl,.inr ⟨W.heap.size,0,n,rfl,Nat.le_refl _,hm,by simp,fun j u hj=>by simpa using hj⟩⟩
def OwnR (w:World) (T:TypeId) (size n:Nat) (cs:List Value) (e:Ending) (w':World):Prop :=
 ∃ a c,e=.returned (.slice a n c)∧Mid w' w.heap.size T size (.slice a n c) n cs∧Below w.heap.size w w'
theorem cell_of_block {w:World} {b j:Nat} {cs:Array Value} {t:TypeId} {u:Value} (h:w.heap[b]?=some (.cells cs t (0,0))) (hj:cs[j]?=some u):w.cell? ⟨b,j,none⟩=some u:=by
 simp [World.cell?,h,hj]
theorem free_of_block {w:World} {b j:Nat} {cs:Array Value} {t:TypeId} (h:w.heap[b]?=some (.cells cs t (0,0))):w.frozen? ⟨b,j,none⟩=false:=by
 simp [World.frozen?,h]
theorem lt_of_block {w:World} {b:Nat} {o:Obj} (h:w.heap[b]?=some o):b<w.heap.size:=(Array.getElem?_eq_some_iff.1 h).1
theorem Below.drawn (w:World) (m:Nat):Below w.heap.size w (w.drewN m):=⟨rfl,rfl,rfl,Nat.le_refl _,fun _ _=>rfl⟩
theorem Mid.drewN (h:Mid w base e size v n xs) (m:Nat):Mid (w.drewN m) base e size v n xs:=h.same fun _ _=>rfl
theorem Mid.keeps {S:Nat→Prop} (h:Mid w base e size v n xs) (hk:Keeps w w' S) (hn:∀ k,v.ownBlock=some k→¬ S k):Mid w' base e size v n xs :=
 h.same fun k hv=>hk.block k (h.lt k hv).2 (hn k hv)
end
structure Pc where
 v:Value
 e:TypeId
 size:Nat
 n:Nat
 xs:List Value
def Pc.mid (p:Pc) (w:World):Prop:=Mid w 0 p.e p.size p.v p.n p.xs
def Apart (p q:Pc):Prop:=∀ k,p.v.ownBlock=some k→q.v.ownBlock≠some k
theorem Apart.symm {p q:Pc} (h:Apart p q):Apart q p:=fun k hq hp=>h k hp hq
def Own (w:World) (ps:List Pc):Prop:=(∀ p,p∈ps→p.mid w)∧ps.Pairwise Apart
def Foot (ps:List Pc) (k:Nat):Prop:=∃ p,p∈ps∧p.v.ownBlock=some k
section
variable {w w' : World} {ps : List Pc}
theorem Own.nil (w:World):Own w []:=⟨fun p h=>(by cases h),List.Pairwise.nil⟩
theorem Own.get (h:Own w ps) (i:Nat) (hi:i<ps.length):ps[i].mid w:=h.1 _ (List.getElem_mem hi)
theorem Own.apart (h:Own w ps) (i j:Nat) (hi:i<ps.length) (hj:j<ps.length) (hne:i≠j):Apart ps[i] ps[j]:=by
 have hp:=List.pairwise_iff_getElem.1 h.2
 rcases Nat.lt_or_gt_of_ne hne with hlt | hgt
 ·
  exact hp i j hi hj hlt
 ·
  exact (hp j i hj hi hgt).symm
theorem Own.lt (h:Own w ps):∀ k,Foot ps k→k<w.heap.size:=fun k ⟨p,hp,hk⟩=>(Mid.lt (h.1 p hp) k hk).2
theorem Own.keeps {S:Nat→Prop} (h:Own w ps) (hk:Keeps w w' S) (hs:∀ k,Foot ps k→¬ S k):Own w' ps :=
 ⟨fun p hp=>Mid.keeps (h.1 p hp) hk fun k hv=>hs k ⟨p,hp,hv⟩,h.2⟩
theorem Own.below (h:Own w ps) (hb:Below w.heap.size w w'):Own w' ps :=
 h.keeps (Keeps.of_below hb (S:=fun k=>w.heap.size≤k) fun b h _=>h) fun k hf hn=>by have:=h.lt k hf;omega
theorem Own.set (h:Own w ps) (i:Nat) (hi:i<ps.length) (p':Pc) (hk:Keeps w w' (fun k=>ps[i].v.ownBlock=some k)) (hm:p'.mid w') (hb:∀ k,p'.v.ownBlock=some k→ps[i].v.ownBlock=some k∨w.heap.size≤k):Own w' (ps.set i p'):=by
 have hz:=hk.size
 have hap:∀ (j:Nat) (hj:j<ps.length),j≠i→ps[j].mid w'∧Apart p' ps[j]:=fun j hj hne=>by
  have hij:=h.apart i j hi hj fun e=>hne e.symm
  refine ⟨Mid.keeps (h.get j hj) hk fun k hv hi'=>hij k hi' hv,fun k h1 h2=>?_⟩
  rcases hb k h1 with h3 | h3
  ·
   exact hij k h3 h2
  ·
   have:=(Mid.lt (h.get j hj) k h2).2;omega
 refine ⟨fun p hp=>?_,List.pairwise_iff_getElem.2 fun a b ha hb' hab=>?_⟩
 ·
  obtain ⟨j,hj,rfl⟩:=List.mem_iff_getElem.1 hp
  rw [List.length_set] at hj
  rw [List.getElem_set]
  split
  ·
   exact hm
  ·
   rename_i hne;exact (hap j hj fun e=>hne e.symm).1
 ·
  rw [List.length_set] at ha hb'
  rw [List.getElem_set,List.getElem_set]
  split
  ·
   rename_i ea
   split
   ·
    omega
   ·
    rename_i eb;exact (hap b hb' fun e=>eb e.symm).2
  ·
   rename_i ea
   split
   ·
    rename_i eb;exact (hap a ha fun e=>ea e.symm).2.symm
   ·
    exact h.apart a b ha hb' (by omega)
theorem Own.push (h:Own w ps) (hb:Below w.heap.size w w') (p':Pc) (hm:p'.mid w') (hn:∀ k,p'.v.ownBlock=some k→w.heap.size≤k):Own w' (ps++[p']):=by
 have h':=h.below hb
 refine ⟨fun p hp=>?_,List.pairwise_append.2 ⟨h'.2,List.pairwise_singleton _ _,fun x hx y hy=>?_⟩⟩
 ·
  rcases List.mem_append.1 hp with hp | hp
  ·
   exact h'.1 p hp
  ·
   rw [List.mem_singleton.1 hp];exact hm
 ·
  rw [List.mem_singleton.1 hy]
  exact fun k h1 h2=>by have:=(Mid.lt (h.1 x hx) k h1).2;have:=hn k h2;omega
theorem foot_push {k:Nat} {p':Pc} (h:Foot (ps++[p']) k):Foot ps k∨p'.v.ownBlock=some k:=by
 obtain ⟨p,hp,hk⟩:=h
 rcases List.mem_append.1 hp with h | h
 ·
  exact .inl ⟨p,h,hk⟩
 ·
  exact .inr (List.mem_singleton.1 h▸hk)
end
theorem flat_at {α:Type} (f:α→List Value) (k:Nat) (hk:∀ x,(f x).length=k) (l:List α) (i:Nat) (h:i<l.length) (j:Nat) (u:Value) (hj:(f l[i])[j]?=some u):(l.flatMap f)[i*k+j]?=some u:=by
 induction l generalizing i with
 | nil=>simp at h
 | cons g r ih =>
  rw [List.flatMap_cons]
  have hjk:j<k:=by have:=(List.getElem?_eq_some_iff.1 hj).1;rw [hk] at this;exact this
  cases i with
  | zero=>rw [Nat.zero_mul,Nat.zero_add,List.getElem?_append_left (by rw [hk];exact hjk)];exact hj
  | succ i =>
   rw [List.getElem?_append_right (by rw [hk,Nat.succ_mul];omega),hk,show (i+1)*k+j - k=i*k+j by rw [Nat.succ_mul];omega]
   exact ih i (by simpa using h) (by simpa using hj)
theorem flat_inv {α:Type} (f:α→List Value) (k:Nat) (hk:∀ x,(f x).length=k) (l:List α) (m:Nat) (u:Value) (h:(l.flatMap f)[m]?=some u):∃ (i:Nat) (hi:i<l.length) (j:Nat),m=i*k+j∧j<k∧(f l[i])[j]?=some u:=by
 induction l generalizing m with
 | nil=>simp at h
 | cons g r ih =>
  rw [List.flatMap_cons] at h
  rcases Nat.lt_or_ge m (f g).length with hlt | hge
  ·
   rw [List.getElem?_append_left hlt] at h
   exact ⟨0,by simp,m,by simp,by rw [← hk g];exact hlt,h⟩
  ·
   rw [List.getElem?_append_right hge] at h
   obtain ⟨i,hi,j,e,hj,hu⟩:=ih _ h
   rw [hk] at e hge
   exact ⟨i+1,by simpa using hi,j,by rw [Nat.succ_mul];omega,hj,hu⟩
theorem flat_len {α:Type} (f:α→List Value) (k:Nat) (hk:∀ x,(f x).length=k) (l:List α):(l.flatMap f).length=l.length*k:=by
 induction l with
 | nil=>simp
 | cons g r ih=>rw [List.flatMap_cons,List.length_append,ih,hk,List.length_cons,Nat.succ_mul];omega
def Box (w:World) (mb:Nat) (T:TypeId) (G:Nat→Prop) (hs:List Value) (ps:List Pc):Prop :=
 w.heap[mb]?=some (.cells hs.toArray T (0,0))∧Own w ps∧G mb∧(∀ k,Foot ps k→G k∧k≠mb)∧∀ k,G k→k<w.heap.size
section
variable {w w' : World} {mb : Nat} {T : TypeId} {G S : Nat → Prop} {hs : List Value} {ps : List Pc}
theorem Box.keeps (h:Box w mb T G hs ps) (hk:Keeps w w' S) (hd:∀ k,G k→¬ S k):Box w' mb T G hs ps:=by
 obtain ⟨h1,h2,h3,h4,h5⟩:=h
 exact ⟨(hk.block mb (lt_of_block h1) (hd mb h3)).trans h1,h2.keeps hk fun k hf=>hd k (h4 k hf).1,h3,h4,fun k h=>Nat.lt_of_lt_of_le (h5 k h) hk.size⟩
theorem Box.below (h:Box w mb T G hs ps) (hb:Below w.heap.size w w'):Box w' mb T G hs ps :=
 h.keeps (Keeps.of_below hb (S:=fun k=>w.heap.size≤k) fun b h _=>h) fun k hG hn=>by have:=h.2.2.2.2 k hG;omega
theorem Box.lt (h:Box w mb T G hs ps):∀ k,G k→k<w.heap.size:=h.2.2.2.2
theorem Box.cell (h:Box w mb T G hs ps) (j:Nat) {u:Value} (hj:hs[j]?=some u):w.cell? ⟨mb,j,none⟩=some u:=cell_of_block h.1 (by simpa using hj)
theorem Box.free (h:Box w mb T G hs ps) (j:Nat):w.frozen? ⟨mb,j,none⟩=false:=free_of_block h.1
theorem Box.mid (h:Box w mb T G hs ps) (i:Nat) {p:Pc} (hp:ps[i]?=some p):p.mid w:=h.2.1.1 p (List.mem_of_getElem? hp)
theorem Box.apart (h:Box w mb T G hs ps) (i j:Nat) {p q:Pc} (hp:ps[i]?=some p) (hq:ps[j]?=some q) (hne:i≠j):Apart p q:=by
 obtain ⟨hi,rfl⟩:=List.getElem?_eq_some_iff.1 hp
 obtain ⟨hj,rfl⟩:=List.getElem?_eq_some_iff.1 hq
 exact h.2.1.apart i j hi hj hne
def BoxA (w:World) (mb:Nat) (T:TypeId) (G:Nat→Prop) (hs:List Value) (ps:List Pc) (w':World):Prop :=
 ∃ G',Box w' mb T G' hs ps∧(∀ k,G' k→G k∨w.heap.size≤k)∧Keeps w w' G
theorem BoxA.of_below (h:Box w mb T G hs ps) (hb:Below w.heap.size w w'):BoxA w mb T G hs ps w' :=
 ⟨G,h.below hb,fun _ h=>.inl h,Keeps.of_below hb fun b h1 h2=>by omega⟩
theorem BoxA.trans {w1 w2:World} {hs1 hs2:List Value} {ps1 ps2:List Pc} (h:BoxA w mb T G hs1 ps1 w1) (k:∀ G1,Box w1 mb T G1 hs1 ps1→BoxA w1 mb T G1 hs2 ps2 w2):BoxA w mb T G hs2 ps2 w2:=by
 obtain ⟨F1,h1,h2,h3⟩:=h
 obtain ⟨F2,k1,k2,k3⟩:=k F1 h1
 refine ⟨F2,k1,fun x hx=>?_,h3.trans k3 fun b hb hF=>?_⟩
 ·
  rcases k2 x hx with h | h
  ·
   exact h2 x h
  ·
   right;have:=h3.size;omega
 ·
  rcases h2 b hF with h | h
  ·
   exact h
  ·
   omega
theorem BoxA.below {w1 w2:World} (h:BoxA w mb T G hs ps w1) (hb:Below w1.heap.size w1 w2):BoxA w mb T G hs ps w2:=h.trans fun _ hq=>BoxA.of_below hq hb
theorem Box.push (h:Box w mb T G hs ps) (hb:Below w.heap.size w w') (p':Pc) (hm:p'.mid w') (hn:∀ k,p'.v.ownBlock=some k→w.heap.size≤k):BoxA w mb T G hs (ps++[p']) w':=by
 have hz:=hb.size
 obtain ⟨h1,h2,h3,h4,h5⟩:=h
 have ho:=h2.push hb p' hm hn
 refine ⟨fun k=>k<w'.heap.size∧(G k∨w.heap.size≤k),⟨(hb.block mb (lt_of_block h1)).trans h1,ho,⟨by have:=lt_of_block h1;omega,.inl h3⟩,fun k hfk=>?_,fun k h=>h.1⟩,fun k h=>h.2,Keeps.of_below hb fun b h1 h2=>by omega⟩
 have hlt:=ho.lt k hfk
 rcases foot_push hfk with h | h
 ·
  exact ⟨⟨hlt,.inl (h4 k h).1⟩,(h4 k h).2⟩
 ·
  exact ⟨⟨hlt,.inr (hn k h)⟩,by have:=hn k h;have:=lt_of_block h1;omega⟩
theorem Box.sub (h:Box w mb T G hs ps) {ps':List Pc} (hm:∀ p,p∈ps'→p∈ps) (hp:ps'.Pairwise Apart):Box w mb T G hs ps':=by
 obtain ⟨h1,h2,h3,h4,h5⟩:=h
 exact ⟨h1,⟨fun p h=>h2.1 p (hm p h),hp⟩,h3,fun k ⟨p,h,hk⟩=>h4 k ⟨p,hm p h,hk⟩,h5⟩
theorem BoxA.map {w1:World} {ps':List Pc} (h:BoxA w mb T G hs ps w1) (k:∀ G1,Box w1 mb T G1 hs ps→Box w1 mb T G1 hs ps'):BoxA w mb T G hs ps' w1:=by
 obtain ⟨G1,h1,h2,h3⟩:=h;exact ⟨G1,k G1 h1,h2,h3⟩
end
end Go.Proofs.YtmhainidincjhaaGreatDoor
namespace Go.Proofs.YtmhainidincjhaaGreatDoor
abbrev W64:Nat:=18446744073709551616
theorem shr63_bit (x:Nat) (h:x<W64):x >>> 63=if x.testBit 63 then 1 else 0:=by
 rw [Nat.shiftRight_eq_div_pow,Nat.testBit_eq_decide_div_mod_eq]
 unfold W64 at h
 have:x / 2^63<2:=by omega
 by_cases hx:x / 2^63 % 2=1
 ·
  rw [if_pos (by simpa using hx)];omega
 ·
  rw [if_neg (by simpa using hx)];omega
theorem bit63 (x:Nat) (h:x<W64):x.testBit 63=decide (9223372036854775808≤x):=by
 rw [Nat.testBit_eq_decide_div_mod_eq]
 unfold W64 at h
 by_cases hx:9223372036854775808≤x
 ·
  rw [decide_eq_true hx]
  have:x / 2^63=1:=by omega
  rw [this];rfl
 ·
  rw [decide_eq_false hx]
  have:x / 2^63=0:=by omega
  rw [this];rfl
theorem compl_bit (s:Nat) (h:s<W64) (i:Nat) (hi:i<64):(W64 - 1 - s).testBit i=!s.testBit i:=by
 have:=Nat.testBit_two_pow_sub_succ (x:=s) (n:=64) (by unfold W64 at h;omega) i
 have e:(2:Nat)^64 - (s+1)=W64 - 1 - s:=by unfold W64;omega
 rw [e] at this
 rw [this,decide_eq_true hi,Bool.true_and]
theorem add_carry (x y c:Nat) (hx:x<W64) (hy:y<W64) (hc:c≤1):((x &&& y) ||| ((x ||| y) &&& (W64 - 1 - (x+y+c) % W64))) >>> 63=(x+y+c) / W64:=by
 have hs:(x+y+c) % W64<W64:=Nat.mod_lt _ (by unfold W64;omega)
 have hlt:((x &&& y) ||| ((x ||| y) &&& (W64 - 1 - (x+y+c) % W64)))<W64:=by
  have h1:x &&& y<2^64:=Nat.lt_of_le_of_lt Nat.and_le_left (by unfold W64 at hx;omega)
  have h2:(x ||| y) &&& (W64 - 1 - (x+y+c) % W64)<2^64:=Nat.lt_of_le_of_lt Nat.and_le_right (by unfold W64;omega)
  have:=Nat.or_lt_two_pow h1 h2
  unfold W64;omega
 rw [shr63_bit _ hlt,Nat.testBit_or,Nat.testBit_and,Nat.testBit_and,Nat.testBit_or,compl_bit _ hs 63 (by omega),bit63 x hx,bit63 y hy,bit63 _ hs]
 unfold W64 at *
 by_cases h1:9223372036854775808≤x <;> by_cases h2:9223372036854775808≤y <;> by_cases h3:9223372036854775808≤(x+y+c) % 18446744073709551616 <;>
  simp only [h1,h2,h3,decide_true,decide_false,Bool.and_true,Bool.and_false,Bool.or_true,Bool.or_false,Bool.not_true,Bool.not_false,Bool.and_self,Bool.or_self,if_true,if_false,Bool.true_and,Bool.false_and,Bool.true_or,Bool.false_or,Bool.false_eq_true] <;> omega
theorem sub_borrow (x y b:Nat) (hx:x<W64) (hy:y<W64) (hb:b≤1):(((W64 - 1 - x) &&& y) ||| ((W64 - 1 - (x ^^^ y)) &&& ((x+(W64 - y)+(W64 - b)) % W64))) >>> 63=if x<y+b then 1 else 0:=by
 have hs:(x+(W64 - y)+(W64 - b)) % W64<W64:=Nat.mod_lt _ (by unfold W64;omega)
 have hxy:x ^^^ y<W64:=by
  have:=Nat.xor_lt_two_pow (n:=64) (x:=x) (y:=y) (by unfold W64 at hx;omega) (by unfold W64 at hy;omega)
  unfold W64;omega
 have hlt:(((W64 - 1 - x) &&& y) ||| ((W64 - 1 - (x ^^^ y)) &&& ((x+(W64 - y)+(W64 - b)) % W64)))<W64:=by
  have h1:(W64 - 1 - x) &&& y<2^64:=Nat.lt_of_le_of_lt Nat.and_le_right (by unfold W64 at hy;omega)
  have h2:(W64 - 1 - (x ^^^ y)) &&& ((x+(W64 - y)+(W64 - b)) % W64)<2^64:=Nat.lt_of_le_of_lt Nat.and_le_right (by unfold W64 at hs ⊢;omega)
  have:=Nat.or_lt_two_pow h1 h2
  unfold W64;omega
 rw [shr63_bit _ hlt,Nat.testBit_or,Nat.testBit_and,Nat.testBit_and,compl_bit x hx 63 (by omega),compl_bit _ hxy 63 (by omega),Nat.testBit_xor,bit63 x hx,bit63 y hy,bit63 _ hs]
 unfold W64 at *
 by_cases h1:9223372036854775808≤x <;> by_cases h2:9223372036854775808≤y <;> by_cases h3:9223372036854775808≤(x+(18446744073709551616 - y)+(18446744073709551616 - b)) % 18446744073709551616 <;> by_cases h4:x<y+b <;>
  simp only [h1,h2,h3,h4,decide_true,decide_false,Bool.and_true,Bool.and_false,Bool.or_true,Bool.or_false,Bool.not_true,Bool.not_false,Bool.and_self,Bool.or_self,if_true,if_false,Bool.true_and,Bool.false_and,Bool.true_or,Bool.false_or,Bool.xor_true,Bool.xor_false,Bool.true_xor,Bool.false_xor,Bool.false_eq_true,Bool.xor_self] <;> omega
theorem mul_hi (x y:Nat) (hx:x<W64) (hy:y<W64) :
  (x / 4294967296)*(y / 4294967296)+((x / 4294967296)*(y % 4294967296)+(x % 4294967296)*(y % 4294967296) / 4294967296) / 4294967296 +
   (((x / 4294967296)*(y % 4294967296)+(x % 4294967296)*(y % 4294967296) / 4294967296) % 4294967296+(x % 4294967296)*(y / 4294967296)) / 4294967296=x*y / W64:=by
 have ex:x=x / 4294967296*4294967296+x % 4294967296:=by omega
 have ey:y=y / 4294967296*4294967296+y % 4294967296:=by omega
 generalize x / 4294967296=x1 at *
 generalize x % 4294967296=x0 at *
 generalize y / 4294967296=y1 at *
 generalize y % 4294967296=y0 at *
 have e:x*y=x1*y1*18446744073709551616+(x1*y0+x0*y1)*4294967296+x0*y0:=by
  rw [ex,ey]
  simp only [Nat.add_mul,Nat.mul_add]
  have h1:x1*4294967296*(y1*4294967296)=x1*y1*18446744073709551616:=by
   rw [Nat.mul_mul_mul_comm]
  have h2:x1*4294967296*y0=x1*y0*4294967296:=by rw [Nat.mul_right_comm]
  have h3:x0*(y1*4294967296)=x0*y1*4294967296:=by rw [Nat.mul_assoc]
  omega
 rw [e]
 generalize x1*y1=a
 generalize x1*y0=b
 generalize x0*y1=c
 generalize x0*y0=d
 unfold W64
 omega
def wordOf (n k:Nat):Nat:=n / W64^k % W64
theorem wordOf_lt (n k:Nat):wordOf n k<W64:=Nat.mod_lt _ (by unfold W64;omega)
theorem W64_pos (k:Nat):0<W64^k:=Nat.pow_pos (by unfold W64;omega)
theorem mod_succ (n k:Nat):n % W64^(k+1)=n % W64^k+W64^k*wordOf n k:=by
 rw [Nat.pow_succ,Nat.mod_mul];rfl
theorem wordOf_big {n k:Nat} (h:n<W64^k):wordOf n k=0:=by unfold wordOf;rw [Nat.div_eq_of_lt h];rfl
theorem wordOf_zero (k:Nat):wordOf 0 k=0:=by unfold wordOf;simp
def val:List Nat→Nat
 | []=>0
 | x::r=>x+W64*val r
theorem val_append (xs ys:List Nat):val (xs++ys)=val xs+W64^xs.length*val ys:=by
 induction xs with
 | nil=>simp [val]
 | cons x r ih =>
  simp only [List.cons_append,val,ih,List.length_cons,Nat.pow_succ,Nat.mul_add]
  rw [← Nat.mul_assoc,Nat.mul_comm W64 (W64^r.length)];omega
theorem val_lt (xs:List Nat) (h:∀ x∈xs,x<W64):val xs<W64^xs.length:=by
 induction xs with
 | nil=>simp [val]
 | cons x r ih =>
  have h1:=h x (by simp)
  have h2:=ih fun y hy=>h y (by simp [hy])
  simp only [val,List.length_cons,Nat.pow_succ]
  have:W64*(val r+1)≤W64*W64^r.length:=Nat.mul_le_mul_left _ h2
  rw [Nat.mul_comm (W64^r.length)]
  rw [Nat.mul_add] at this
  omega
theorem word_val (xs:List Nat) (h:∀ x∈xs,x<W64) (k:Nat):wordOf (val xs) k=xs.getD k 0:=by
 induction xs generalizing k with
 | nil=>simp [val,wordOf_zero]
 | cons x r ih =>
  have h1:=h x (by simp)
  have h2:=ih fun y hy=>h y (by simp [hy])
  cases k with
  | zero =>
   simp only [wordOf,val,Nat.pow_zero,Nat.div_one,List.getD_cons_zero]
   rw [Nat.add_mul_mod_self_left,Nat.mod_eq_of_lt h1]
  | succ k =>
   rw [List.getD_cons_succ,← h2 k]
   unfold wordOf
   rw [Nat.pow_succ,Nat.mul_comm,← Nat.div_div_eq_div_mul]
   congr 2
   simp only [val]
   rw [Nat.add_mul_div_left _ _ (by unfold W64;omega),Nat.div_eq_of_lt h1,Nat.zero_add]
def toWords (n:Nat):List Nat:=if h:n=0 then [] else (n % W64)::toWords (n / W64)
termination_by n
decreasing_by exact Nat.div_lt_self (by omega) (by unfold W64;omega)
theorem toWords_zero:toWords 0=[]:=by rw [toWords];simp
theorem toWords_pos {n:Nat} (h:n≠0):toWords n=(n % W64)::toWords (n / W64):=by rw [toWords];simp [h]
theorem val_toWords (n:Nat):val (toWords n)=n:=by
 induction n using Nat.strongRecOn with
 | ind n ih =>
  by_cases h:n=0
  ·
   subst h;rw [toWords_zero];rfl
  ·
   rw [toWords_pos h]
   simp only [val]
   rw [ih (n / W64) (Nat.div_lt_self (by omega) (by unfold W64;omega))]
   exact Nat.mod_add_div n W64
theorem toWords_lt (n:Nat):∀ x∈toWords n,x<W64:=by
 induction n using Nat.strongRecOn with
 | ind n ih =>
  by_cases h:n=0
  ·
   subst h;rw [toWords_zero];simp
  ·
   rw [toWords_pos h]
   intro x hx
   rcases List.mem_cons.1 hx with rfl | hx
   ·
    exact Nat.mod_lt _ (by unfold W64;omega)
   ·
    exact ih (n / W64) (Nat.div_lt_self (by omega) (by unfold W64;omega)) x hx
theorem toWords_val (xs:List Nat) (h:∀ x∈xs,x<W64) (hl:∀ x,xs.getLast?=some x→x≠0):toWords (val xs)=xs:=by
 induction xs with
 | nil=>exact toWords_zero
 | cons x r ih =>
  have h1:=h x (by simp)
  have hne:val (x::r)≠0:=by
   simp only [val]
   cases r with
   | nil=>have:=hl x (by simp);simp [val];omega
   | cons y t =>
    have hr:=ih (fun z hz=>h z (by simp [hz])) (fun z hz=>hl z (by rw [List.getLast?_cons_cons];exact hz))
    intro e
    have:val (y::t)=0:=by unfold W64 at e;omega
    rw [this,toWords_zero] at hr
    cases hr
  rw [toWords_pos hne]
  have e1:val (x::r) % W64=x:=by simp only [val];rw [Nat.add_mul_mod_self_left,Nat.mod_eq_of_lt h1]
  have e2:val (x::r) / W64=val r:=by
   simp only [val];rw [Nat.add_mul_div_left _ _ (by unfold W64;omega),Nat.div_eq_of_lt h1,Nat.zero_add]
  rw [e1,e2]
  congr 1
  refine ih (fun z hz=>h z (by simp [hz])) fun z hz=>?_
  cases r with
  | nil=>simp at hz
  | cons y t=>exact hl z (by rw [List.getLast?_cons_cons];exact hz)
theorem word_toWords (n k:Nat):(toWords n).getD k 0=wordOf n k:=by
 rw [← word_val _ (toWords_lt n),val_toWords]
theorem len_toWords_le {n m : Nat} (h : n < W64 ^ m) : (toWords n).length ≤ m := by
  induction m generalizing n with
  | zero => have : n = 0 := by simpa using h
            subst this; rw [toWords_zero]; simp
  | succ m ih =>
    by_cases h0 : n = 0
    · subst h0; rw [toWords_zero]; simp
    · rw [toWords_pos h0, List.length_cons]
      have : n / W64 < W64 ^ m := Nat.div_lt_of_lt_mul (by rw [Nat.pow_succ, Nat.mul_comm] at h; exact h)
      have := ih this
      omega
theorem lt_pow_len (n:Nat):n<W64^(toWords n).length:=by
 have:=val_lt _ (toWords_lt n)
 rwa [val_toWords] at this
theorem pow_len_le {n:Nat} (h:n≠0):W64^((toWords n).length - 1)≤n:=by
 induction n using Nat.strongRecOn with
 | ind n ih =>
  rw [toWords_pos h,List.length_cons,Nat.add_sub_cancel]
  by_cases h2:n / W64=0
  ·
   rw [h2,toWords_zero];simp;omega
  ·
   have h3:=ih (n / W64) (Nat.div_lt_self (by omega) (by unfold W64;omega)) h2
   have h4:(toWords (n / W64)).length=((toWords (n / W64)).length - 1)+1:=by rw [toWords_pos h2];simp
   rw [h4,Nat.pow_succ]
   exact Nat.le_trans (Nat.mul_le_mul_right _ h3) (Nat.div_mul_le_self _ _)
def wordsN (n m:Nat):List Nat:=(List.range m).map (wordOf n)
theorem wordsN_len (n m:Nat):(wordsN n m).length=m:=by simp [wordsN]
theorem wordsN_succ (n m:Nat):wordsN n (m+1)=wordsN n m++[wordOf n m]:=by simp [wordsN,List.range_succ]
theorem val_wordsN (n m:Nat):val (wordsN n m)=n % W64^m:=by
 induction m with
 | zero=>simp [wordsN,val,Nat.mod_one]
 | succ m ih=>rw [wordsN_succ,val_append,ih,wordsN_len,mod_succ];simp [val]
def carryA (a b k:Nat):Nat:=(a % W64^k+b % W64^k) / W64^k
theorem carryA_zero (a b:Nat):carryA a b 0=0:=by simp [carryA,Nat.mod_one]
theorem carryA_le (a b k:Nat):carryA a b k≤1:=by
 unfold carryA
 have h1:=Nat.mod_lt a (W64_pos k)
 have h2:=Nat.mod_lt b (W64_pos k)
 have:(a % W64^k+b % W64^k) / W64^k<2:=Nat.div_lt_of_lt_mul (by omega)
 omega
theorem add_word (a b k:Nat):(wordOf a k+wordOf b k+carryA a b k) % W64=wordOf (a+b) k∧(wordOf a k+wordOf b k+carryA a b k) / W64=carryA a b (k+1):=by
 have hp:=W64_pos k
 constructor
 ·
  have e:(a+b) / W64^k=a / W64^k+b / W64^k+carryA a b k:=by
   unfold carryA
   conv=>lhs;rw [← Nat.mod_add_div a (W64^k),← Nat.mod_add_div b (W64^k)]
   rw [show a % W64^k+W64^k*(a / W64^k)+(b % W64^k+W64^k*(b / W64^k))=(a % W64^k+b % W64^k)+W64^k*(a / W64^k+b / W64^k) by rw [Nat.mul_add];omega]
   rw [Nat.add_mul_div_left _ _ hp];omega
  unfold wordOf
  rw [e]
  generalize a / W64^k=p
  generalize b / W64^k=q
  generalize carryA a b k=c
  unfold W64
  omega
 ·
  have e:a % W64^(k+1)+b % W64^(k+1)=(a % W64^k+b % W64^k)+W64^k*(wordOf a k+wordOf b k):=by
   rw [mod_succ,mod_succ,Nat.mul_add];omega
  show _=(a % W64^(k+1)+b % W64^(k+1)) / W64^(k+1)
  rw [e,Nat.pow_succ,← Nat.div_div_eq_div_mul,Nat.add_mul_div_left _ _ hp,Nat.add_comm];rfl
def borrowS (a b k:Nat):Nat:=if a % W64^k<b % W64^k then 1 else 0
theorem borrowS_zero (a b:Nat):borrowS a b 0=0:=by simp [borrowS,Nat.mod_one]
theorem borrowS_le (a b k:Nat):borrowS a b k≤1:=by unfold borrowS;split <;> omega
theorem sub_word (a b k:Nat) (h:b≤a):(wordOf a k+(W64 - wordOf b k)+(W64 - borrowS a b k)) % W64=wordOf (a - b) k∧(if wordOf a k<wordOf b k+borrowS a b k then 1 else 0)=borrowS a b (k+1):=by
 have hp:=W64_pos k
 have ha:=Nat.mod_add_div a (W64^k)
 have hb:=Nat.mod_add_div b (W64^k)
 have hA:=Nat.mod_lt a hp
 have hB:=Nat.mod_lt b hp
 constructor
 ·
  have e:(a - b) / W64^k+borrowS a b k+b / W64^k=a / W64^k:=by
   unfold borrowS
   generalize a / W64^k=p at *
   generalize b / W64^k=q at *
   generalize a % W64^k=A at *
   generalize b % W64^k=B at *
   generalize W64^k=P at *
   have hpq:q≤p:=by
    rcases Nat.lt_or_ge p q with hlt | hge
    ·
     have:P*(p+1)≤P*q:=Nat.mul_le_mul_left _ hlt
     rw [Nat.mul_add] at this;omega
    ·
     exact hge
   split
   ·
    rename_i hlt
    have hne:q+1≤p:=by
     rcases Nat.lt_or_ge q p with h1 | h1
     ·
      exact h1
     ·
      have:p=q:=by omega
      subst this;omega
    obtain ⟨r,rfl⟩:∃ r,p=q+1+r:=⟨p - (q+1),by omega⟩
    have e1:a - b=(A+P - B)+P*r:=by
     have:P*(q+1+r)=P*q+P+P*r:=by rw [Nat.mul_add,Nat.mul_add,Nat.mul_one]
     omega
    rw [e1,Nat.add_mul_div_left _ _ hp,Nat.div_eq_of_lt (by omega)];omega
   ·
    rename_i hge
    obtain ⟨r,rfl⟩:∃ r,p=q+r:=⟨p - q,by omega⟩
    have e1:a - b=(A - B)+P*r:=by
     have:P*(q+r)=P*q+P*r:=by rw [Nat.mul_add]
     omega
    rw [e1,Nat.add_mul_div_left _ _ hp,Nat.div_eq_of_lt (by omega)];omega
  have hc:=borrowS_le a b k
  unfold wordOf
  generalize a / W64^k=p at *
  generalize b / W64^k=q at *
  generalize (a - b) / W64^k=r at *
  generalize borrowS a b k=c at *
  unfold W64
  omega
 ·
  have h1:=mod_succ a k
  have h2:=mod_succ b k
  have h3:=wordOf_lt a k
  have h4:=wordOf_lt b k
  show _=if a % W64^(k+1)<b % W64^(k+1) then 1 else 0
  rw [h1,h2]
  unfold borrowS
  generalize wordOf a k=x at *
  generalize wordOf b k=y at *
  generalize a % W64^k=A at *
  generalize b % W64^k=B at *
  generalize W64^k=P at *
  rcases Nat.lt_trichotomy x y with hlt | rfl | hgt
  ·
   have:P*(x+1)≤P*y:=Nat.mul_le_mul_left _ hlt
   rw [Nat.mul_add] at this
   rw [if_pos (show A+P*x<B+P*y by omega)]
   split <;> simp_all <;> omega
  ·
   by_cases hAB:A<B
   ·
    simp [hAB]
   ·
    simp [hAB]
  ·
   have:P*(y+1)≤P*x:=Nat.mul_le_mul_left _ hgt
   rw [Nat.mul_add] at this
   rw [if_neg (show ¬ A+P*x<B+P*y by omega)]
   split <;> simp_all <;> omega
def carryM (n x add k:Nat):Nat:=(n % W64^k*x+add) / W64^k
theorem carryM_zero (n x add:Nat):carryM n x add 0=add:=by simp [carryM,Nat.mod_one]
theorem mul_word (n x add k:Nat):(wordOf n k*x+carryM n x add k) % W64=wordOf (n*x+add) k∧(wordOf n k*x+carryM n x add k) / W64=carryM n x add (k+1):=by
 have hp:=W64_pos k
 constructor
 ·
  have e:(n*x+add) / W64^k=carryM n x add k+n / W64^k*x:=by
   unfold carryM
   conv=>lhs;rw [← Nat.mod_add_div n (W64^k)]
   rw [Nat.add_mul,Nat.mul_assoc,Nat.add_right_comm,Nat.add_mul_div_left _ _ hp]
  unfold wordOf
  rw [e]
  generalize n / W64^k=p
  generalize carryM n x add k=c
  rw [Nat.add_mod (p % W64*x) c,Nat.mod_mul_mod,← Nat.add_mod,Nat.add_comm]
 ·
  show _=(n % W64^(k+1)*x+add) / W64^(k+1)
  rw [mod_succ,Nat.add_mul,Nat.mul_assoc,Nat.add_right_comm,Nat.pow_succ,← Nat.div_div_eq_div_mul,Nat.add_mul_div_left _ _ hp,Nat.add_comm];rfl
theorem carryM_lt (n x add k:Nat) (hx:x<W64) (ha:add<W64):carryM n x add k<W64:=by
 unfold carryM
 refine Nat.div_lt_of_lt_mul ?_
 have h1:=Nat.mod_lt n (W64_pos k)
 have h2:n % W64^k*x≤(W64^k - 1)*(W64 - 1):=Nat.mul_le_mul (by omega) (by omega)
 have h3:(W64^k - 1)*(W64 - 1)+(W64 - 1)=W64^k*(W64 - 1):=by
  have:=W64_pos k
  rw [← Nat.succ_mul]
  congr 1;omega
 have h4:W64^k*(W64 - 1)<W64^k*W64:=Nat.mul_lt_mul_of_pos_left (by unfold W64;omega) (W64_pos k)
 omega
structure Trial (H y1 y0 u next q r:Nat):Prop where
 sum:u=q*y1+r
 ge:(u*H+next) / (y1*H+y0)≤q
section
variable {H y1 y0 u next q r : Nat}
theorem quot_small (hu:u<y1*H+y0) (hn:next<H):(u*H+next) / (y1*H+y0)<H:=by
 refine Nat.div_lt_of_lt_mul ?_
 have:(u+1)*H≤(y1*H+y0)*H:=Nat.mul_le_mul_right _ hu
 rw [Nat.add_mul,Nat.one_mul] at this
 omega
theorem Trial.start (h1:0<y1) (hH:0<H) (hn:next<H):Trial H y1 y0 u next (u / y1) (u % y1):=by
 refine ⟨by rw [Nat.mul_comm];exact (Nat.div_add_mod u y1).symm,?_⟩
 refine Nat.le_trans (Nat.div_le_div_left (Nat.le_add_right (y1*H) y0) (Nat.mul_pos h1 hH)) ?_
 rw [Nat.mul_comm y1 H,← Nat.div_div_eq_div_mul,Nat.mul_comm u H,Nat.mul_add_div hH,Nat.div_eq_of_lt hn,Nat.add_zero]
 exact Nat.le_refl _
theorem expand (y1 y0 H q r next:Nat):q*(y1*H+y0)=q*y1*H+q*y0∧(q*y1+r)*H+next=q*y1*H+(r*H+next):=by
 constructor
 ·
  rw [Nat.mul_add,← Nat.mul_assoc]
 ·
  rw [Nat.add_mul];omega
theorem Trial.less (h:Trial H y1 y0 u next q r) (h1:0<y1) (hu:u<y1*H+y0) (hn:next<H) (ht:H≤q∨r*H+next<q*y0):0<q∧Trial H y1 y0 u next (q - 1) (r+y1):=by
 have hs:=quot_small hu hn
 obtain ⟨e1,e2⟩:=expand y1 y0 H q r next
 have hne:(u*H+next) / (y1*H+y0)≠q:=fun e=>by
  have hle:q*(y1*H+y0)≤u*H+next:=by rw [← e];exact Nat.div_mul_le_self _ _
  rcases ht with h2 | h2
  ·
   rw [e] at hs;omega
  ·
   rw [h.sum] at hle
   omega
 have hlt:=Nat.lt_of_le_of_ne h.ge hne
 have hq:0<q:=Nat.lt_of_le_of_lt (Nat.zero_le _) hlt
 refine ⟨hq,?_,Nat.le_sub_one_of_lt hlt⟩
 have:q*y1=(q - 1)*y1+y1:=by
  obtain ⟨q',rfl⟩:∃ q',q=q'+1:=⟨q - 1,by omega⟩
  rw [Nat.add_mul,Nat.one_mul,Nat.add_sub_cancel]
 have:=h.sum
 omega
theorem Trial.done (h:Trial H y1 y0 u next q r) (h1:0<y1*H+y0) (ht:q*y0≤r*H+next):(u*H+next) / (y1*H+y0)=q:=by
 refine Nat.le_antisymm h.ge ?_
 rw [Nat.le_div_iff_mul_le h1]
 obtain ⟨e1,e2⟩:=expand y1 y0 H q r next
 rw [h.sum]
 omega
theorem Trial.over (h:Trial H y1 y0 u next q r) (h1:0<y1) (hu:u<y1*H+y0) (hy:y0<H) (hr:H≤r):(u*H+next) / (y1*H+y0)=q:=by
 have hH:0<H:=by omega
 have hq:q<H:=by
  rcases Nat.lt_or_ge q H with hlt | hge
  ·
   exact hlt
  ·
   have:H*y1≤q*y1:=Nat.mul_le_mul_right _ hge
   have:=h.sum
   rw [Nat.mul_comm y1 H] at hu
   omega
 refine h.done (by have:=Nat.mul_pos h1 hH;omega) ?_
 have h2:q*y0≤H*H:=Nat.mul_le_mul (by omega) (by omega)
 have h3:H*H≤r*H:=Nat.mul_le_mul_right _ hr
 omega
end
theorem two_digits (H u a b y:Nat) (hy:0<y) :
  ((u*H+a)*H+b) / y=(u*H+a) / y*H+((u*H+a) % y*H+b) / y∧((u*H+a)*H+b) % y=((u*H+a) % y*H+b) % y:=by
 have e:(u*H+a)*H+b=((u*H+a) % y*H+b)+y*((u*H+a) / y*H):=by
  conv=>lhs;rw [← Nat.mod_add_div (u*H+a) y]
  rw [Nat.add_mul,Nat.mul_assoc];omega
 rw [e]
 exact ⟨by rw [Nat.add_mul_div_left _ _ hy];omega,by rw [Nat.add_mul_mod_self_left]⟩
theorem shifted (n y p:Nat) (hp:0<p):n*p / (y*p)=n / y∧n*p % (y*p)=n % y*p :=
 ⟨Nat.mul_div_mul_right _ _ hp,Nat.mul_mod_mul_right _ _ _⟩
theorem far_mod (a M k m:Nat) (h:k≤m):(a+M*W64^m) % W64^k=a % W64^k:=by
 obtain ⟨d,rfl⟩:=Nat.exists_eq_add_of_le h
 rw [Nat.pow_add,Nat.mul_comm (W64^k),← Nat.mul_assoc,Nat.add_mul_mod_self_right]
theorem far_word (a M k m:Nat) (h:k<m):wordOf (a+M*W64^m) k=wordOf a k:=by
 have h1:=mod_succ (a+M*W64^m) k
 have h2:=mod_succ a k
 rw [far_mod a M (k+1) m h,far_mod a M k m (by omega)] at h1
 have hp:=W64_pos k
 have:W64^k*wordOf (a+M*W64^m) k=W64^k*wordOf a k:=by omega
 exact Nat.eq_of_mul_eq_mul_left hp this
def carryP (Q x b k:Nat):Nat:=(Q % W64^k+x*(b % W64^k)) / W64^k
theorem carryP_zero (Q x b:Nat):carryP Q x b 0=0:=by simp [carryP,Nat.mod_one]
theorem row_word (Q x b k:Nat):(x*wordOf b k+wordOf Q k+carryP Q x b k) % W64=wordOf (Q+x*(b % W64^(k+1))) k∧(x*wordOf b k+wordOf Q k+carryP Q x b k) / W64=carryP Q x b (k+1):=by
 have hp:=W64_pos k
 have hb:=mod_succ b k
 have hx:x*(b % W64^(k+1))=x*(b % W64^k)+W64^k*(x*wordOf b k):=by
  rw [hb,Nat.mul_add,Nat.mul_left_comm]
 constructor
 ·
  have e:(Q+x*(b % W64^(k+1))) / W64^k=carryP Q x b k+(Q / W64^k+x*wordOf b k):=by
   have e1:Q+x*(b % W64^(k+1))=(Q % W64^k+x*(b % W64^k))+W64^k*(Q / W64^k+x*wordOf b k):=by
    rw [hx,Nat.mul_add]
    have:=Nat.mod_add_div Q (W64^k)
    omega
   rw [e1,Nat.add_mul_div_left _ _ hp];rfl
  unfold wordOf at e ⊢
  rw [e]
  generalize x*(b / W64^k % W64)=p
  generalize Q / W64^k=q
  generalize carryP Q x b k=c
  unfold W64
  omega
 ·
  have e1:Q % W64^(k+1)+x*(b % W64^(k+1))=(Q % W64^k+x*(b % W64^k))+W64^k*(wordOf Q k+x*wordOf b k):=by
   rw [hx,mod_succ Q k,Nat.mul_add];omega
  show _=(Q % W64^(k+1)+x*(b % W64^(k+1))) / W64^(k+1)
  rw [e1,Nat.pow_succ,← Nat.div_div_eq_div_mul,Nat.add_mul_div_left _ _ hp]
  show _=(carryP Q x b k+(wordOf Q k+x*wordOf b k)) / W64
  congr 1
  omega
theorem carryP_lt (Q x b k:Nat) (hx:x<W64):carryP Q x b k<W64:=by
 unfold carryP
 refine Nat.div_lt_of_lt_mul ?_
 have hp:=W64_pos k
 have h1:=Nat.mod_lt Q hp
 have h2:=Nat.mod_lt b hp
 have h3:x*(b % W64^k)≤(W64 - 1)*(W64^k - 1):=Nat.mul_le_mul (by omega) (by omega)
 have h4:(W64 - 1)*(W64^k - 1)+(W64^k - 1)=W64*(W64^k - 1):=by
  rw [← Nat.succ_mul];congr 1
 have h5:W64*(W64^k - 1)+W64=W64*W64^k:=by
  rw [← Nat.mul_succ];congr 1;omega
 rw [Nat.mul_comm (W64^k)]
 unfold W64 at *
 omega
theorem row_below (Q x b k j:Nat) (h:j<k):wordOf (Q+x*(b % W64^(k+1))) j=wordOf (Q+x*(b % W64^k)) j:=by
 have e:Q+x*(b % W64^(k+1))=(Q+x*(b % W64^k))+(x*wordOf b k)*W64^k:=by
  rw [mod_succ b k,Nat.mul_add,Nat.mul_left_comm,Nat.mul_comm (W64^k)];omega
 rw [e,far_word _ _ _ _ h]
theorem word_down (n i k:Nat):wordOf (n / W64^i) k=wordOf n (i+k):=by
 unfold wordOf
 rw [Nat.div_div_eq_div_mul,← Nat.pow_add]
theorem cmp_step (a b k:Nat) (h:a / W64^(k+1)=b / W64^(k+1)):(wordOf a k<wordOf b k→a<b)∧(wordOf b k<wordOf a k→b<a)∧(wordOf a k=wordOf b k→a / W64^k=b / W64^k):=by
 have hp:=W64_pos k
 have ea:a / W64^k=wordOf a k+W64*(a / W64^(k+1)):=by
  rw [Nat.pow_succ,← Nat.div_div_eq_div_mul];exact (Nat.mod_add_div _ _).symm
 have eb:b / W64^k=wordOf b k+W64*(b / W64^(k+1)):=by
  rw [Nat.pow_succ,← Nat.div_div_eq_div_mul];exact (Nat.mod_add_div _ _).symm
 rw [h] at ea
 have key:∀ x y:Nat,x / W64^k<y / W64^k→x<y:=fun x y hxy=>Nat.lt_of_not_le fun hle=>by
  have:=Nat.div_le_div_right (c:=W64^k) hle
  omega
 exact ⟨fun h1=>key a b (by omega),fun h1=>key b a (by omega),fun h1=>by omega⟩
theorem cmp_end (a b:Nat) (h:a / W64^0=b / W64^0):a=b:=by simpa using h
theorem cmp_start (a b:Nat) (h:(toWords a).length=(toWords b).length):a / W64^(toWords a).length=b / W64^(toWords a).length:=by
 rw [Nat.div_eq_of_lt (lt_pow_len a),Nat.div_eq_of_lt (by rw [h];exact lt_pow_len b)]
theorem cmp_len (a b:Nat) (h:(toWords a).length<(toWords b).length):a<b:=by
 have h1:=lt_pow_len a
 have hb:b≠0:=fun e=>by rw [e,toWords_zero] at h;simp at h
 have h2:=pow_len_le hb
 have h3:W64^(toWords a).length≤W64^((toWords b).length - 1):=Nat.pow_le_pow_right (by unfold W64;omega) (by omega)
 omega
theorem shr_word (n i s:Nat) (hs:s<64):wordOf (n / 2^s) i=wordOf n i / 2^s+wordOf n (i+1)*2^(64 - s) % W64:=by
 have hp:=W64_pos i
 have e64:W64=2^(64 - s)*2^s:=by rw [← Nat.pow_add,show 64 - s+s=64 by omega]
 have hq:0<2^s:=Nat.pow_pos (by omega)
 have ht:0<2^(64 - s):=Nat.pow_pos (by omega)
 unfold wordOf
 rw [Nat.div_div_eq_div_mul,Nat.mul_comm (2^s),← Nat.div_div_eq_div_mul,Nat.pow_succ,← Nat.div_div_eq_div_mul]
 generalize n / W64^i=m
 have e1:m / 2^s=m % W64 / 2^s+(m / W64)*2^(64 - s):=by
  conv=>lhs;rw [← Nat.mod_add_div m W64]
  have:W64*(m / W64)=2^s*((m / W64)*2^(64 - s)):=by
   conv=>lhs;arg 1;rw [e64]
   rw [Nat.mul_comm (2^(64 - s)),Nat.mul_assoc,Nat.mul_comm (2^(64 - s))]
  rw [this,Nat.add_mul_div_left _ _ hq]
 rw [e1]
 have h3:m % W64 / 2^s<2^(64 - s):=Nat.div_lt_of_lt_mul (by rw [Nat.mul_comm,← e64];exact Nat.mod_lt _ (by unfold W64;omega))
 generalize m % W64 / 2^s=c at *
 generalize m / W64=p
 have e4:p % W64*2^(64 - s) % W64=p*2^(64 - s) % W64:=by rw [Nat.mod_mul_mod]
 rw [e4]
 have e5:p*2^(64 - s) % W64=(p % 2^s)*2^(64 - s):=by
  conv=>lhs;arg 2;rw [e64,Nat.mul_comm]
  rw [Nat.mul_mod_mul_right]
 have h6:p % 2^s+1≤2^s:=Nat.mod_lt _ hq
 have h7:(p % 2^s+1)*2^(64 - s)≤W64:=by
  conv=>rhs;rw [e64,Nat.mul_comm]
  exact Nat.mul_le_mul_right _ h6
 rw [Nat.add_mul,Nat.one_mul] at h7
 rw [Nat.add_mod,e5,Nat.mod_eq_of_lt (a:=c) (by omega),Nat.mod_eq_of_lt (by omega)]
theorem rest_word (r R k j:Nat):wordOf (r*W64^k+R % W64^k) j=if j<k then wordOf R j else wordOf r (j - k):=by
 have hp:=W64_pos k
 by_cases h:j<k
 ·
  rw [if_pos h,Nat.add_comm,far_word _ _ _ _ h]
  have:=far_word (R % W64^k) (R / W64^k) j k h
  rw [Nat.mul_comm,Nat.mod_add_div] at this
  exact this.symm
 ·
  rw [if_neg h]
  obtain ⟨d,rfl⟩:=Nat.exists_eq_add_of_le (Nat.le_of_not_lt h)
  rw [Nat.add_sub_cancel_left,← word_down]
  congr 1
  rw [Nat.mul_comm,Nat.mul_add_div hp,Nat.div_eq_of_lt (Nat.mod_lt _ hp),Nat.add_zero]
theorem three_products (a0 a1 b0 b1 p:Nat):(a0+a1*p)*(b0+b1*p)=a0*b0+(((a0+a1)*(b0+b1) - (a0*b0+a1*b1))*p+a1*b1*(p*p))∧a0*b0+a1*b1≤(a0+a1)*(b0+b1):=by
 have e:(a0+a1)*(b0+b1)=a0*b0+a1*b1+(a0*b1+a1*b0):=by
  simp only [Nat.add_mul,Nat.mul_add];omega
 constructor
 ·
  rw [e,Nat.add_sub_cancel_left]
  simp only [Nat.add_mul,Nat.mul_add]
  have h1:a0*(b1*p)=a0*b1*p:=(Nat.mul_assoc _ _ _).symm
  have h2:a1*p*b0=a1*b0*p:=Nat.mul_right_comm _ _ _
  have h3:a1*p*(b1*p)=a1*b1*(p*p):=Nat.mul_mul_mul_comm _ _ _ _
  omega
 ·
  rw [e];omega
theorem gcd_step (a b:Nat):Nat.gcd a b=Nat.gcd b (a % b):=by
 rw [Nat.gcd_comm a b,Nat.gcd_rec b a,Nat.gcd_comm]
theorem u64_and (a b:Nat) (ha:a<W64) (hb:b<W64):bits .and .u64 (a:Int) (b:Int)=((a &&& b:Nat):Int):=by
 unfold W64 at *
 show IntKind.u64.wrap ((BitVec.ofInt 64 (a:Int) &&& BitVec.ofInt 64 (b:Int)).toNat:Int)=_
 have hx:a &&& b<18446744073709551616:=Nat.lt_of_le_of_lt Nat.and_le_left ha
 rw [BitVec.toNat_and,ofInt_u64 a ha,ofInt_u64 b hb,IntKind.wrap_u64]
 omega
theorem u64_or (a b:Nat) (ha:a<W64) (hb:b<W64):bits .or .u64 (a:Int) (b:Int)=((a ||| b:Nat):Int):=by
 unfold W64 at *
 show IntKind.u64.wrap ((BitVec.ofInt 64 (a:Int) ||| BitVec.ofInt 64 (b:Int)).toNat:Int)=_
 have hx:a ||| b<2^64:=Nat.or_lt_two_pow (by omega) (by omega)
 rw [BitVec.toNat_or,ofInt_u64 a ha,ofInt_u64 b hb,IntKind.wrap_u64]
 omega
theorem u64_xor (a b:Nat) (ha:a<W64) (hb:b<W64):bits .xor .u64 (a:Int) (b:Int)=((a ^^^ b:Nat):Int):=bits_xor_u64_nat a b ha hb
theorem u64_andNot (a b:Nat) (ha:a<W64) (hb:b<W64):bits .andNot .u64 (a:Int) (b:Int)=((a &&& (W64 - 1 - b):Nat):Int):=by
 unfold W64 at *
 show IntKind.u64.wrap ((BitVec.ofInt 64 (a:Int) &&& ~~~ BitVec.ofInt 64 (b:Int)).toNat:Int)=_
 have hx:a &&& (18446744073709551616 - 1 - b)<18446744073709551616:=Nat.lt_of_le_of_lt Nat.and_le_left ha
 rw [BitVec.toNat_and,BitVec.toNat_not,ofInt_u64 a ha,ofInt_u64 b hb,IntKind.wrap_u64,show 2^64 - 1 - b=18446744073709551616 - 1 - b by omega]
 omega
theorem u64_add (a b:Nat):IntKind.u64.wrap ((a:Int)+(b:Int))=((((a+b) % W64:Nat)):Int):=by
 unfold W64
 rw [IntKind.wrap_u64];omega
theorem u64_sub (a b:Nat) (hb:b<W64):IntKind.u64.wrap ((a:Int) - (b:Int))=(((a+(W64 - b)) % W64:Nat):Int):=by
 unfold W64 at *
 rw [IntKind.wrap_u64];omega
theorem u64_mul (a b:Nat):IntKind.u64.wrap ((a:Int)*(b:Int))=(((a*b) % W64:Nat):Int):=by
 rw [IntKind.wrap_u64,Int.natCast_emod,Int.natCast_mul];rfl
theorem u64_shl (a s:Nat):IntKind.u64.wrap ((a:Int)*2^s)=(((a*2^s) % W64:Nat):Int):=by
 rw [IntKind.wrap_u64,Int.natCast_emod,Int.natCast_mul,Int.natCast_pow];rfl
theorem u64_shr (a s:Nat):((a:Int) / 2^s)=((a / 2^s:Nat):Int):=by
 rw [Int.natCast_ediv,Int.natCast_pow];rfl
theorem u64_low (a:Nat) (ha:a<W64):bits .and .u64 (a:Int) 4294967295=((a % 4294967296:Nat):Int):=by
 have h:=u64_and a 4294967295 ha (by unfold W64;omega)
 have e:a &&& 4294967295=a % 4294967296:=by
  have:=Nat.and_two_pow_sub_one_eq_mod a 32
  simpa using this
 rw [e] at h
 exact h
theorem u64_one (a:Nat) (ha:a<W64):bits .and .u64 (a:Int) 1=((a % 2:Nat):Int):=by
 have h:=u64_and a 1 ha (by unfold W64;omega)
 rw [Nat.and_one_is_mod] at h
 exact h
abbrev UV (n:Nat):Value:=.int .u64 n
end Go.Proofs.YtmhainidincjhaaGreatDoor
namespace Go.Proofs.YtmhainidincjhaaGreatDoor
open Go.RowKit
theorem ret_u64 {a b a' b':Int} (h:a=a') (k:b=b'):Ending.returned (.tuple #[.int .u64 a,.int .u64 b])=.returned (.tuple #[.int .u64 a',.int .u64 b']):=by rw [h,k]
theorem u64_max_xor (a:Nat) (ha:a<W64):bits .xor .u64 IntKind.u64.max (a:Int)=((W64 - 1 - a:Nat):Int):=by
 have h1:IntKind.u64.max=((W64 - 1:Nat):Int):=by decide
 have hw:W64 - 1<W64:=by unfold W64;omega
 rw [h1,u64_xor _ _ hw ha]
 refine congrArg _ (Nat.eq_of_testBit_eq fun i=>?_)
 by_cases hi:i<64
 ·
  rw [compl_bit a ha i hi,Nat.testBit_xor,show W64 - 1=2^64 - 1 from rfl,Nat.testBit_two_pow_sub_one,decide_eq_true hi,Bool.true_xor]
 ·
  have e1:(W64 - 1).testBit i=false:=Nat.testBit_lt_two_pow (Nat.lt_of_lt_of_le (show W64 - 1<2^64 by decide) (Nat.pow_le_pow_right (by omega) (by omega)))
  have e2:a.testBit i=false:=Nat.testBit_lt_two_pow (Nat.lt_of_lt_of_le (show a<2^64 from ha) (Nat.pow_le_pow_right (by omega) (by omega)))
  have e3:(W64 - 1 - a).testBit i=false:=Nat.testBit_lt_two_pow (Nat.lt_of_lt_of_le (show W64 - 1 - a<2^64 by unfold W64;omega) (Nat.pow_le_pow_right (by omega) (by omega)))
  rw [Nat.testBit_xor,e1,e2,e3];rfl
def lackW (x y b:Nat):Nat:=if x<y+b then 1 else 0
theorem add_raw (x y c:Nat) (hx:x<W64) (hy:y<W64) (hc:c≤1) :
  IntKind.u64.wrap (IntKind.u64.wrap ((x:Int)+(y:Int))+bits .and .u64 (c:Int) 1)=(((x+y+c) % W64:Nat):Int):=by
 rw [u64_add,u64_one c (by unfold W64;omega),u64_add]
 unfold W64 at *
 omega
theorem add_raw2 (x y c:Nat) (hx:x<W64) (hy:y<W64) (hc:c≤1) :
  bits .or .u64 (bits .and .u64 (x:Int) (y:Int)) (bits .andNot .u64 (bits .or .u64 (x:Int) (y:Int)) (((x+y+c) % W64:Nat):Int)) / 9223372036854775808=(((x+y+c) / W64:Nat):Int):=by
 have hs:(x+y+c) % W64<W64:=Nat.mod_lt _ (by unfold W64;omega)
 have ho:x ||| y<W64:=Nat.or_lt_two_pow (n:=64) hx hy
 have ha:x &&& y<W64:=Nat.lt_of_le_of_lt Nat.and_le_left hx
 have hn:(x ||| y) &&& (W64 - 1 - (x+y+c) % W64)<W64:=Nat.lt_of_le_of_lt Nat.and_le_left ho
 rw [u64_and x y hx hy,u64_or x y hx hy,u64_andNot _ _ ho hs,u64_or _ _ ha hn,← add_carry x y c hx hy hc,Nat.shiftRight_eq_div_pow]
 rfl
theorem sub_raw (x y b:Nat) (hy:y<W64) (hb:b≤1) :
  IntKind.u64.wrap (IntKind.u64.wrap ((x:Int) - (y:Int)) - bits .and .u64 (b:Int) 1)=(((x+(W64 - y)+(W64 - b)) % W64:Nat):Int):=by
 rw [u64_sub x y hy,u64_one b (by unfold W64;omega),u64_sub _ _ (by unfold W64;omega)]
 unfold W64 at *
 omega
theorem add_any (x y c:Nat) (hx:x<W64) (hy:y<W64) (hc:c≤1) (w:World) :
  Calls Tryz.prog 214 #[UV x,UV y,UV c] w fun e w'=>e=.returned (.tuple #[UV ((x+y+c) % W64),UV ((x+y+c) / W64)])∧w=w':=by
 go_enter Tryz.func214,Tryz.ntmps214
 go_wp2
 go_ret2
 refine ⟨?_,rfl⟩
 have h1:=add_raw x y c hx hy hc
 have h2:=add_raw2 x y c hx hy hc
 rw [← h1] at h2
 exact ret_u64 h1 h2
theorem sub_raw2 (x y b:Nat) (hx:x<W64) (hy:y<W64) (hb:b≤1) :
  bits .or .u64 (bits .and .u64 (bits .xor .u64 IntKind.u64.max (x:Int)) (y:Int)) (bits .and .u64 (bits .xor .u64 IntKind.u64.max (bits .xor .u64 (x:Int) (y:Int))) (((x+(W64 - y)+(W64 - b)) % W64:Nat):Int)) / 9223372036854775808=((lackW x y b:Nat):Int):=by
 have hs:(x+(W64 - y)+(W64 - b)) % W64<W64:=Nat.mod_lt _ (by unfold W64;omega)
 have ho:x ^^^ y<W64:=Nat.xor_lt_two_pow (n:=64) hx hy
 have h1:W64 - 1 - x<W64:=by unfold W64;omega
 have h2:W64 - 1 - (x ^^^ y)<W64:=by unfold W64;omega
 have ha:(W64 - 1 - x) &&& y<W64:=Nat.lt_of_le_of_lt Nat.and_le_left h1
 have hn:(W64 - 1 - (x ^^^ y)) &&& ((x+(W64 - y)+(W64 - b)) % W64)<W64:=Nat.lt_of_le_of_lt Nat.and_le_left h2
 rw [u64_max_xor x hx,u64_xor x y hx hy,u64_max_xor _ ho,u64_and _ y h1 hy,u64_and _ _ h2 hs,u64_or _ _ ha hn,lackW,← sub_borrow x y b hx hy hb,Nat.shiftRight_eq_div_pow]
 rfl
theorem sub_any (x y b:Nat) (hx:x<W64) (hy:y<W64) (hb:b≤1) (w:World) :
  Calls Tryz.prog 220 #[UV x,UV y,UV b] w fun e w'=>e=.returned (.tuple #[UV ((x+(W64 - y)+(W64 - b)) % W64),UV (lackW x y b)])∧w=w':=by
 have h1:=Lib.hid (sub_raw x y b hy hb)
 have h2:=sub_raw2 x y b hx hy hb
 rw [← h1.out] at h2
 have H2:=Lib.hid h2
 clear h2
 go_enter Tryz.func220,Tryz.ntmps220
 go_wp2
 go_ret2
 exact ⟨ret_u64 h1.out H2.out,rfl⟩
theorem mul_raw (x y:Nat) (hx:x<W64) (hy:y<W64) :
  IntKind.u64.wrap (IntKind.u64.wrap (IntKind.u64.wrap ((x:Int) / 4294967296*((y:Int) / 4294967296)) +
   IntKind.u64.wrap (IntKind.u64.wrap ((x:Int) / 4294967296*bits .and .u64 (y:Int) 4294967295) +
    IntKind.u64.wrap (bits .and .u64 (x:Int) 4294967295*bits .and .u64 (y:Int) 4294967295) / 4294967296) / 4294967296) +
   IntKind.u64.wrap (bits .and .u64 (IntKind.u64.wrap (IntKind.u64.wrap ((x:Int) / 4294967296*bits .and .u64 (y:Int) 4294967295) +
    IntKind.u64.wrap (bits .and .u64 (x:Int) 4294967295*bits .and .u64 (y:Int) 4294967295) / 4294967296)) 4294967295 +
     IntKind.u64.wrap (bits .and .u64 (x:Int) 4294967295*((y:Int) / 4294967296))) / 4294967296)=((x*y / W64:Nat):Int):=by
 rw [u64_low x hx,u64_low y hy,show (x:Int) / 4294967296=((x / 4294967296:Nat):Int) by omega,show (y:Int) / 4294967296=((y / 4294967296:Nat):Int) by omega]
 have hm:=mul_hi x y hx hy
 have hlt:x*y / W64<W64:=Nat.div_lt_of_lt_mul (Nat.mul_lt_mul'' hx hy)
 have hx1:x / 4294967296≤4294967295:=by unfold W64 at hx;omega
 have hx0:x % 4294967296≤4294967295:=by omega
 have hy1:y / 4294967296≤4294967295:=by unfold W64 at hy;omega
 have hy0:y % 4294967296≤4294967295:=by omega
 generalize x*y / W64=R at *
 generalize x / 4294967296=x1 at *
 generalize x % 4294967296=x0 at *
 generalize y / 4294967296=y1 at *
 generalize y % 4294967296=y0 at *
 have b11:x1*y1≤18446744065119617025:=Nat.mul_le_mul hx1 hy1
 have b10:x1*y0≤18446744065119617025:=Nat.mul_le_mul hx1 hy0
 have b00:x0*y0≤18446744065119617025:=Nat.mul_le_mul hx0 hy0
 have b01:x0*y1≤18446744065119617025:=Nat.mul_le_mul hx0 hy1
 rw [u64_mul,u64_mul,u64_mul,u64_mul]
 clear hx1 hx0 hy1 hy0 hx hy
 generalize x1*y1=p11 at *
 generalize x1*y0=p10 at *
 generalize x0*y0=p00 at *
 generalize x0*y1=p01 at *
 have eb:IntKind.u64.wrap (((p10 % W64:Nat):Int)+((p00 % W64:Nat):Int) / 4294967296)=((p10+p00 / 4294967296:Nat):Int):=by
  rw [IntKind.wrap_u64];unfold W64;omega
 have hb:p10+p00 / 4294967296<W64:=by unfold W64;omega
 rw [eb,u64_low _ hb]
 simp only [IntKind.wrap_u64]
 unfold W64 at *
 omega
theorem mul_any (x y:Nat) (hx:x<W64) (hy:y<W64) (w:World) :
  Calls Tryz.prog 213 #[UV x,UV y] w fun e w'=>e=.returned (.tuple #[UV (x*y / W64),UV (x*y % W64)])∧w=w':=by
 have h1:=Lib.hid (mul_raw x y hx hy)
 have h2:=Lib.hid (u64_mul x y)
 go_enter Tryz.func213,Tryz.ntmps213
 go_wp2
 go_ret2
 exact ⟨ret_u64 h1.out h2.out,rfl⟩
theorem mul_at {x y H L:Nat} (hx:x<W64) (hy:y<W64) (hH:x*y / W64=H) (hL:x*y % W64=L) (w:World) :
  Calls Tryz.prog 213 #[UV x,UV y] w fun e w'=>e=.returned (.tuple #[UV H,UV L])∧w=w':=by
 subst hH hL;exact mul_any x y hx hy w
theorem add_at {x y c S C:Nat} (hx:x<W64) (hy:y<W64) (hc:c≤1) (hS:(x+y+c) % W64=S) (hC:(x+y+c) / W64=C) (w:World) :
  Calls Tryz.prog 214 #[UV x,UV y,UV c] w fun e w'=>e=.returned (.tuple #[UV S,UV C])∧w=w':=by
 subst hS hC;exact add_any x y c hx hy hc w
theorem add_at0 {x y S C:Nat} (hx:x<W64) (hy:y<W64) (hS:(x+y) % W64=S) (hC:(x+y) / W64=C) (w:World) :
  Calls Tryz.prog 214 #[UV x,UV y,.int .u64 0] w fun e w'=>e=.returned (.tuple #[UV S,UV C])∧w=w' :=
 add_at (c:=0) hx hy (by omega) (by rw [Nat.add_zero];exact hS) (by rw [Nat.add_zero];exact hC) w
theorem sub_at {x y b D C:Nat} (hx:x<W64) (hy:y<W64) (hb:b≤1) (hD:(x+(W64 - y)+(W64 - b)) % W64=D) (hC:lackW x y b=C) (w:World) :
  Calls Tryz.prog 220 #[UV x,UV y,UV b] w fun e w'=>e=.returned (.tuple #[UV D,UV C])∧w=w':=by
 subst hD hC;exact sub_any x y b hx hy hb w
theorem madd_raw {p a b H L S1 C1 S2 C2:Nat} (hp:p+a+b<W64*W64) (hH:p / W64=H) (hL:p % W64=L) (hS1:(L+a) % W64=S1) (hC1:(L+a) / W64=C1) (hS2:(S1+b) % W64=S2) (hC2:(S1+b) / W64=C2) :
  IntKind.u64.wrap (IntKind.u64.wrap ((H:Int)+(C1:Int))+(C2:Int))=(((p+a+b) / W64:Nat):Int)∧((S2:Nat):Int)=(((p+a+b) % W64:Nat):Int):=by
 simp only [IntKind.wrap_u64]
 unfold W64 at *
 omega
theorem muladd_any (x y a b:Nat) (hx:x<W64) (hy:y<W64) (ha:a<W64) (hb:b<W64) (w:World) :
  Calls Tryz.prog 191 #[UV x,UV y,UV a,UV b] w fun e w'=>e=.returned (.tuple #[UV ((x*y+a+b) / W64),UV ((x*y+a+b) % W64)])∧w=w':=by
 have hp:x*y+a+b<W64*W64:=by
  have h1:x*y≤(W64 - 1)*(W64 - 1):=Nat.mul_le_mul (by omega) (by omega)
  have h2:(W64 - 1)*(W64 - 1)=340282366920938463426481119284349108225:=by decide
  have h3:W64*W64=340282366920938463463374607431768211456:=by decide
  unfold W64 at ha hb
  omega
 obtain ⟨p,hpe⟩:∃ p,x*y=p:=⟨_,rfl⟩
 rw [hpe] at hp ⊢
 obtain ⟨H,hH⟩:∃ H,p / W64=H:=⟨_,rfl⟩
 obtain ⟨L,hL⟩:∃ L,p % W64=L:=⟨_,rfl⟩
 obtain ⟨S1,hS1⟩:∃ S,(L+a) % W64=S:=⟨_,rfl⟩
 obtain ⟨C1,hC1⟩:∃ C,(L+a) / W64=C:=⟨_,rfl⟩
 obtain ⟨S2,hS2⟩:∃ S,(S1+b) % W64=S:=⟨_,rfl⟩
 obtain ⟨C2,hC2⟩:∃ C,(S1+b) / W64=C:=⟨_,rfl⟩
 have hW:0<W64:=by unfold W64;omega
 have hl:L<W64:=hL▸Nat.mod_lt _ hW
 have hl2:S1<W64:=hS1▸Nat.mod_lt _ hW
 have hr:=Lib.hid (madd_raw hp hH hL hS1 hC1 hS2 hC2)
 have k1:=Lib.hid (mul_at hx hy (hpe.symm▸hH) (hpe.symm▸hL) w)
 have k2:=Lib.hid (add_at0 hl ha hS1 hC1 w)
 have k3:=Lib.hid (add_at0 hl2 hb hS2 hC2 w)
 clear hpe hH hL hS1 hC1 hS2 hC2 hp
 go_enter Tryz.func191,Tryz.ntmps191
 go_wp2_with fail
 refine k1.out.mono ?_
 rintro e w1 ⟨rfl,rfl⟩
 go_wp2_with fail
 refine k2.out.mono ?_
 rintro e w1 ⟨rfl,rfl⟩
 go_wp2_with fail
 refine k3.out.mono ?_
 rintro e w1 ⟨rfl,rfl⟩
 go_wp2_with fail
 go_ret2
 exact ⟨ret_u64 hr.out.1 hr.out.2,rfl⟩
end Go.Proofs.YtmhainidincjhaaGreatDoor
namespace Go.Proofs.YtmhainidincjhaaGreatDoor
def bitLen (x:Nat):Nat:=if x=0 then 0 else x.log2+1
theorem bitLen_zero:bitLen 0=0:=rfl
theorem bitLen_lt (x:Nat):x<2^bitLen x:=by
 unfold bitLen;split
 ·
  rename_i h;subst h;decide
 ·
  exact Nat.lt_log2_self
theorem bitLen_ge {x:Nat} (h:x≠0):2^(bitLen x - 1)≤x:=by
 unfold bitLen;rw [if_neg h];exact Nat.log2_self_le h
theorem bitLen_le {x k:Nat} (h:x<2^k):bitLen x≤k:=by
 unfold bitLen;split
 ·
  omega
 ·
  rename_i hx;exact (Nat.log2_lt hx).2 h
theorem bitLen_eq {x k:Nat} (h1:2^k≤x) (h2:x<2^(k+1)):bitLen x=k+1:=by
 have hx:x≠0:=by have:=Nat.two_pow_pos k;omega
 have a:=bitLen_le h2
 have b:k<bitLen x:=by
  by_cases h:k<bitLen x
  ·
   exact h
  ·
   have:=bitLen_lt x
   have:=Nat.pow_le_pow_right (n:=2) (by omega) (show bitLen x≤k by omega)
   omega
 omega
theorem bitLen_small {x:Nat} (h:x<2):bitLen x=x:=by
 have:x=0∨x=1:=by omega
 rcases this with rfl | rfl <;> decide
theorem bitLen_step {x k:Nat} (h:x / 2^k≠0):bitLen x=k+bitLen (x / 2^k):=by
 have h1:=bitLen_ge h
 have h2:=bitLen_lt (x / 2^k)
 have h0:0<bitLen (x / 2^k):=by
  by_cases h0:bitLen (x / 2^k)=0
  ·
   rw [h0,Nat.pow_zero] at h2
   exact absurd (Nat.lt_one_iff.1 h2) h
  ·
   omega
 obtain ⟨b,hb⟩:∃ b,bitLen (x / 2^k)=b+1:=⟨bitLen (x / 2^k) - 1,by omega⟩
 rw [hb] at h1 h2 ⊢
 rw [← Nat.add_assoc]
 refine bitLen_eq ?_ ?_
 ·
  have:=(Nat.le_div_iff_mul_le (Nat.two_pow_pos k)).1 h1
  rw [Nat.add_sub_cancel,← Nat.pow_add,Nat.add_comm] at this
  exact this
 ·
  have:=(Nat.div_lt_iff_lt_mul (Nat.two_pow_pos k)).1 h2
  rw [← Nat.pow_add] at this
  rwa [show k+b+1=b+1+k by omega]
theorem lead_top {y:Nat} (h0:y≠0) (h:y<W64):9223372036854775808≤y*2^(64 - bitLen y)∧y*2^(64 - bitLen y)<W64:=by
 have hl:bitLen y≤64:=bitLen_le (by unfold W64 at h;exact h)
 have h1:=bitLen_ge h0
 have h2:=bitLen_lt y
 have h3:0<bitLen y:=by
  by_cases h3:bitLen y=0
  ·
   rw [h3] at h2;omega
  ·
   omega
 have e1:(9223372036854775808:Nat)=2^(bitLen y - 1)*2^(64 - bitLen y):=by
  rw [← Nat.pow_add,show bitLen y - 1+(64 - bitLen y)=63 by omega]
 have e2:W64=2^bitLen y*2^(64 - bitLen y):=by
  rw [← Nat.pow_add,show bitLen y+(64 - bitLen y)=64 by omega]
 rw [e1,e2]
 exact ⟨Nat.mul_le_mul_right _ h1,Nat.mul_lt_mul_of_pos_right h2 (Nat.two_pow_pos _)⟩
end Go.Proofs.YtmhainidincjhaaGreatDoor
namespace Go.Proofs.YtmhainidincjhaaGreatDoor
open Go.RowKit
theorem belowDrawn {B:Nat} {w w1:World} (h:Below B w w1) (m:Nat):Below B w (w1.drewN m):=⟨h.os,h.tape,h.output,h.size,h.block⟩
theorem len_round {y m K X:Nat} (p:Nat) (hp:p=2^K) (h:((y:Int) / (p:Int) != 0)=true) (hm:m+bitLen y=X):m+K+bitLen (y / p)=X:=by
 have h0:y / 2^K≠0:=by
  intro h0
  rw [← hp] at h0
  rw [show (y:Int) / (p:Int)=((y / p:Nat):Int) from rfl,h0] at h
  exact absurd h (by decide)
 rw [hp,Nat.add_assoc,← bitLen_step h0];exact hm
theorem len_keep {y p:Nat} (hp:0<p) (h:((y:Int) / (p:Int) != 0)=false):y<p:=by
 have h0:(y:Int) / (p:Int)=0:=by simpa using h
 rw [show (y:Int) / (p:Int)=((y / p:Nat):Int) from rfl] at h0
 exact (Nat.div_eq_zero_iff_lt hp).1 (by omega)
theorem len_any (x:Nat) (hx:x<W64) (w:World) :
  Calls Tryz.prog 110 #[UV x] w fun e w'=>e=.returned (.int .i64 (bitLen x))∧Below w.heap.size w w':=by
 have hx':=hx
 unfold W64 at hx'
 have hX:bitLen x≤64:=bitLen_le hx'
 obtain ⟨X,hXe⟩:∃ X,bitLen x=X:=⟨_,rfl⟩
 rw [hXe] at hX ⊢
 have HX:=Lib.hid hXe
 clear hXe hx
 go_enter Tryz.func110,Tryz.ntmps110
 go_wp2
 go_loopw [0,3,4] (fun v n i wr=>∃ y m k:Nat,v=UV y∧n=.int .i64 m∧i=.int .i64 k∧m+bitLen y=X∧(k=32∧y<18446744073709551616∨k=16∧y<4294967296∨k=8∧y<65536∨k=4∧y<256∨k=2∧y<16∨k=1∧y<4∨k=0∧y<2)∧Below w.heap.size w wr) (fun _ _ i _=>(intOf i).toNat)
 case atStart=>exact ⟨x,0,32,rfl,rfl,rfl,by rw [HX.out];omega,.inl ⟨rfl,hx'⟩,Below.refl _ _⟩
 case round =>
  obtain ⟨y,m,k,rfl,rfl,rfl,hm,hk,hb⟩:=hrel
  have HB:=Lib.hid hb
  clear hb
  have hm64:m≤X:=by omega
  have HM:=Lib.hid hm
  clear hm
  rcases hk with ⟨rfl,hy⟩ | ⟨rfl,hy⟩ | ⟨rfl,hy⟩ | ⟨rfl,hy⟩ | ⟨rfl,hy⟩ | ⟨rfl,hy⟩ | ⟨rfl,hy⟩
  ·
   go_wp2
   ·
    have h:((y:Int) / 4294967296 != 0)=true:=by assumption
    have hn:=Lib.hid (len_round (K:=32) 4294967296 (by decide) h HM.out)
    have hl:m+32≤X:=by have:=hn.out;omega
    go_quiet (fail)
    go_wp2
    go_roundw
    case rel=>exact ⟨y / 4294967296,m+32,16,congrArg (Value.int .u64) (by omega),by go_num,by go_num,hn.out,.inr (.inl ⟨rfl,by omega⟩),belowDrawn HB.out _⟩
    case measure=>simp [intOf]
   ·
    have h:((y:Int) / 4294967296 != 0)=false:=by assumption
    have hlt:=len_keep (p:=4294967296) (by omega) h
    go_roundw
    case rel=>exact ⟨y,m,16,rfl,rfl,rfl,HM.out,.inr (.inl ⟨rfl,by omega⟩),HB.out⟩
    case measure=>simp [intOf]
  ·
   go_wp2
   ·
    have h:((y:Int) / 65536 != 0)=true:=by assumption
    have hn:=Lib.hid (len_round (K:=16) 65536 (by decide) h HM.out)
    have hl:m+16≤X:=by have:=hn.out;omega
    go_quiet (fail)
    go_wp2
    go_roundw
    case rel=>exact ⟨y / 65536,m+16,8,congrArg (Value.int .u64) (by omega),by go_num,by go_num,hn.out,.inr (.inr (.inl ⟨rfl,by omega⟩)),belowDrawn HB.out _⟩
    case measure=>simp [intOf]
   ·
    have h:((y:Int) / 65536 != 0)=false:=by assumption
    have hlt:=len_keep (p:=65536) (by omega) h
    go_roundw
    case rel=>exact ⟨y,m,8,rfl,rfl,rfl,HM.out,.inr (.inr (.inl ⟨rfl,by omega⟩)),HB.out⟩
    case measure=>simp [intOf]
  ·
   go_wp2
   ·
    have h:((y:Int) / 256 != 0)=true:=by assumption
    have hn:=Lib.hid (len_round (K:=8) 256 (by decide) h HM.out)
    have hl:m+8≤X:=by have:=hn.out;omega
    go_quiet (fail)
    go_wp2
    go_roundw
    case rel=>exact ⟨y / 256,m+8,4,congrArg (Value.int .u64) (by omega),by go_num,by go_num,hn.out,.inr (.inr (.inr (.inl ⟨rfl,by omega⟩))),belowDrawn HB.out _⟩
    case measure=>simp [intOf]
   ·
    have h:((y:Int) / 256 != 0)=false:=by assumption
    have hlt:=len_keep (p:=256) (by omega) h
    go_roundw
    case rel=>exact ⟨y,m,4,rfl,rfl,rfl,HM.out,.inr (.inr (.inr (.inl ⟨rfl,by omega⟩))),HB.out⟩
    case measure=>simp [intOf]
  ·
   go_wp2
   ·
    have h:((y:Int) / 16 != 0)=true:=by assumption
    have hn:=Lib.hid (len_round (K:=4) 16 (by decide) h HM.out)
    have hl:m+4≤X:=by have:=hn.out;omega
    go_quiet (fail)
    go_wp2
    go_roundw
    case rel=>exact ⟨y / 16,m+4,2,congrArg (Value.int .u64) (by omega),by go_num,by go_num,hn.out,.inr (.inr (.inr (.inr (.inl ⟨rfl,by omega⟩)))),belowDrawn HB.out _⟩
    case measure=>simp [intOf]
   ·
    have h:((y:Int) / 16 != 0)=false:=by assumption
    have hlt:=len_keep (p:=16) (by omega) h
    go_roundw
    case rel=>exact ⟨y,m,2,rfl,rfl,rfl,HM.out,.inr (.inr (.inr (.inr (.inl ⟨rfl,by omega⟩)))),HB.out⟩
    case measure=>simp [intOf]
  ·
   go_wp2
   ·
    have h:((y:Int) / 4 != 0)=true:=by assumption
    have hn:=Lib.hid (len_round (K:=2) 4 (by decide) h HM.out)
    have hl:m+2≤X:=by have:=hn.out;omega
    go_quiet (fail)
    go_wp2
    go_roundw
    case rel=>exact ⟨y / 4,m+2,1,congrArg (Value.int .u64) (by omega),by go_num,by go_num,hn.out,.inr (.inr (.inr (.inr (.inr (.inl ⟨rfl,by omega⟩))))),belowDrawn HB.out _⟩
    case measure=>simp [intOf]
   ·
    have h:((y:Int) / 4 != 0)=false:=by assumption
    have hlt:=len_keep (p:=4) (by omega) h
    go_roundw
    case rel=>exact ⟨y,m,1,rfl,rfl,rfl,HM.out,.inr (.inr (.inr (.inr (.inr (.inl ⟨rfl,by omega⟩))))),HB.out⟩
    case measure=>simp [intOf]
  ·
   go_wp2
   ·
    have h:((y:Int) / 2 != 0)=true:=by assumption
    have hn:=Lib.hid (len_round (K:=1) 2 (by decide) h HM.out)
    have hl:m+1≤X:=by have:=hn.out;omega
    go_quiet (fail)
    go_wp2
    go_roundw
    case rel=>exact ⟨y / 2,m+1,0,congrArg (Value.int .u64) (by omega),by go_num,by go_num,hn.out,.inr (.inr (.inr (.inr (.inr (.inr (⟨rfl,by omega⟩)))))),belowDrawn HB.out _⟩
    case measure=>simp [intOf]
   ·
    have h:((y:Int) / 2 != 0)=false:=by assumption
    have hlt:=len_keep (p:=2) (by omega) h
    go_roundw
    case rel=>exact ⟨y,m,0,rfl,rfl,rfl,HM.out,.inr (.inr (.inr (.inr (.inr (.inr (⟨rfl,by omega⟩)))))),HB.out⟩
    case measure=>simp [intOf]
  ·
   have e1:=bitLen_small hy
   have hm:=HM.out
   rw [e1] at hm
   go_wp2
   go_ret
   exact ⟨by go_num,HB.out⟩
theorem lead_any (x:Nat) (hx:x<W64) (w:World) :
  Calls Tryz.prog 201 #[UV x] w fun e w'=>e=.returned (.int .i64 ((64 - bitLen x:Nat):Int))∧Below w.heap.size w w':=by
 have hX:bitLen x≤64:=bitLen_le (by unfold W64 at hx;exact hx)
 have k:=Lib.hid (len_any x hx w)
 obtain ⟨X,hXe⟩:∃ X,bitLen x=X:=⟨_,rfl⟩
 rw [hXe] at hX ⊢ k
 clear hXe
 go_enter Tryz.func201,Tryz.ntmps201
 go_wp2_with fail
 refine k.out.mono ?_
 rintro e w1 ⟨rfl,hb⟩
 go_wp2_with fail
 go_ret
 exact ⟨by go_num,hb⟩
end Go.Proofs.YtmhainidincjhaaGreatDoor
namespace Go.Proofs.YtmhainidincjhaaGreatDoor
def lenW (n:Nat):Nat:=(toWords n).length
theorem lenW_zero:lenW 0=0:=by unfold lenW;rw [toWords_zero];rfl
theorem lt_lenW (n:Nat):n<W64^lenW n:=lt_pow_len n
theorem lenW_le {n m:Nat} (h:n<W64^m):lenW n≤m:=len_toWords_le h
theorem pow_mono {a b:Nat} (h:a≤b):W64^a≤W64^b:=Nat.pow_le_pow_right (by unfold W64;omega) h
theorem lt_pow_of {n m:Nat} (h:lenW n≤m):n<W64^m:=Nat.lt_of_lt_of_le (lt_lenW n) (pow_mono h)
theorem lenW_mono {a b:Nat} (h:a≤b):lenW a≤lenW b:=lenW_le (Nat.lt_of_le_of_lt h (lt_lenW b))
theorem lenW_ge {n:Nat} (h:n≠0):W64^(lenW n - 1)≤n:=pow_len_le h
theorem lenW_eq_zero {n:Nat}:lenW n=0↔n=0:=by
 constructor
 ·
  intro h
  have:=lt_lenW n
  rw [h,Nat.pow_zero] at this
  omega
 ·
  rintro rfl;exact lenW_zero
theorem lenW_pos {n:Nat} (h:n≠0):0<lenW n:=Nat.pos_of_ne_zero fun e=>h (lenW_eq_zero.1 e)
theorem lenW_word {n:Nat}:lenW n≤1↔n<W64:=by
 constructor
 ·
  intro h;have:=lt_pow_of h;rwa [Nat.pow_one] at this
 ·
  intro h;exact lenW_le (by rwa [Nat.pow_one])
theorem lenW_add {a b k:Nat} (ha:lenW a≤k) (hb:lenW b≤k):lenW (a+b)≤k+1:=by
 refine lenW_le ?_
 have h1:=lt_pow_of ha
 have h2:=lt_pow_of hb
 rw [Nat.pow_succ]
 have:W64^k*2≤W64^k*W64:=Nat.mul_le_mul_left _ (by unfold W64;omega)
 omega
theorem lenW_mul (a b:Nat):lenW (a*b)≤lenW a+lenW b:=by
 refine lenW_le ?_
 rw [Nat.pow_add]
 exact Nat.mul_lt_mul'' (lt_lenW a) (lt_lenW b)
theorem word_top {n:Nat} (h:n≠0):wordOf n (lenW n - 1)=n / W64^(lenW n - 1):=by
 unfold wordOf
 refine Nat.mod_eq_of_lt (Nat.div_lt_of_lt_mul ?_)
 have:=lt_lenW n
 have hp:=lenW_pos h
 rwa [show lenW n=lenW n - 1+1 by omega,Nat.pow_succ] at this
theorem top_ne {n:Nat} (h:n≠0):wordOf n (lenW n - 1)≠0:=by
 rw [word_top h]
 have:=lenW_ge h
 exact Nat.pos_iff_ne_zero.1 (Nat.div_pos this (W64_pos _))
theorem word_past {n k:Nat} (h:lenW n≤k):wordOf n k=0:=wordOf_big (lt_pow_of h)
theorem words_at {n j:Nat} (h:j<lenW n):((toWords n).map UV)[j]?=some (UV (wordOf n j)):=by
 rw [List.getElem?_map,List.getElem?_eq_getElem h,← word_toWords n j,List.getD_eq_getElem?_getD,List.getElem?_eq_getElem h]
 rfl
theorem W64_pow (k:Nat):W64^k=2^(64*k):=by
 rw [Nat.pow_mul]
theorem bits_words {n:Nat} (h:n≠0):bitLen n=64*(lenW n - 1)+bitLen (wordOf n (lenW n - 1)):=by
 rw [word_top h,W64_pow]
 refine bitLen_step ?_
 rw [← W64_pow]
 exact Nat.pos_iff_ne_zero.1 (Nat.div_pos (lenW_ge h) (W64_pos _))
theorem bits_le (n:Nat):bitLen n≤64*lenW n:=bitLen_le (by rw [← W64_pow];exact lt_lenW n)
theorem val_take_zero {xs:List Nat} (k:Nat) (hz:∀ j,k≤j→xs.getD j 0=0):val (xs.take k)=val xs:=by
 conv=>rhs;rw [← List.take_append_drop k xs]
 rw [val_append]
 have:val (xs.drop k)=0:=by
  have hz':∀ x∈xs.drop k,x=0:=fun x hx=>by
   obtain ⟨j,hj,rfl⟩:=List.mem_iff_getElem.1 hx
   have hl:k+j<xs.length:=by rw [List.length_drop] at hj;omega
   have:=hz (k+j) (by omega)
   rw [List.getD_eq_getElem?_getD,List.getElem?_eq_getElem hl,Option.getD_some] at this
   rw [List.getElem_drop];exact this
  generalize xs.drop k=ys at *
  induction ys with
  | nil=>rfl
  | cons y r ih=>rw [val,hz' y (by simp),ih (fun x hx=>hz' x (by simp [hx]))];rfl
 rw [this];omega
theorem trim_end {xs:List Nat} (h:∀ x∈xs,x<W64) (k:Nat) (hk:k≤xs.length) (hz:∀ j,k≤j→xs.getD j 0=0) (hn:k=0∨xs.getD (k - 1) 0≠0):toWords (val xs)=xs.take k∧lenW (val xs)=k:=by
 have e:toWords (val xs)=xs.take k:=by
  rw [← val_take_zero k hz]
  refine toWords_val _ (fun x hx=>h x (List.mem_of_mem_take hx)) fun x hx=>?_
  rcases Nat.eq_zero_or_pos k with h0 | h0
  ·
   subst h0;simp at hx
  ·
   have hn':=hn.resolve_left (by omega)
   rw [List.getLast?_eq_getElem?,List.length_take,Nat.min_eq_left hk,List.getElem?_take,if_pos (by omega)] at hx
   rw [List.getD_eq_getElem?_getD,hx] at hn'
   simpa using hn'
 exact ⟨e,by unfold lenW;rw [e,List.length_take,Nat.min_eq_left hk]⟩
end Go.Proofs.YtmhainidincjhaaGreatDoor
namespace Go.Proofs.YtmhainidincjhaaGreatDoor
open Go.RowKit
def WordB (w:World) (k:Nat):Prop:=∃ cs,w.heap[k]?=some (.cells cs 164 (0,0))
theorem WordB.lt {w:World} {k:Nat} (h:WordB w k):k<w.heap.size:=by
 obtain ⟨cs,h⟩:=h;exact lt_of_block h
theorem WordB.same {w w':World} {k:Nat} (h:WordB w k) (hs:w'.heap[k]?=w.heap[k]?):WordB w' k:=by
 obtain ⟨cs,h⟩:=h;exact ⟨cs,hs.trans h⟩
theorem WordB.set {w:World} {k:Nat} (h:WordB w k) (p:Addr) (u:Value):WordB (w.setCell p u) k:=by
 obtain ⟨cs,h⟩:=h
 by_cases e:k=p.block
 ·
  subst e
  by_cases hs:p.spot.isSome=true
  ·
   refine ⟨cs,?_⟩
   simp only [World.setCell,Array.getElem?_modify,h]
   simp [hs]
  ·
   refine ⟨cs.setIfInBounds p.off u,?_⟩
   simp only [World.setCell,Array.getElem?_modify,h]
   simp [hs]
 ·
  exact ⟨cs,(Below.heap_setCell _ _ _ _ e).trans h⟩
theorem Mid.words {w:World} {base n:Nat} {v:Value} {xs:List Value} (h:Mid w base 164 1 v n xs):∀ k,v.ownBlock=some k→WordB w k:=fun k hk=>by
 rcases h.2 with ⟨rfl,_⟩ | ⟨g,o,cap,cur,rfl,_,hg,_⟩
 ·
  cases hk
 ·
  simp only [Value.ownBlock,Option.some.injEq] at hk
  subst hk;exact ⟨cur,hg⟩
structure NatW (w:World) (a:Option Addr) (c n:Nat):Prop where
 sl:Sl w 1 (.slice a (lenW n) c) (lenW n) ((toWords n).map UV)
 ty:0<lenW n→∀ k,(Value.slice a (lenW n) c).ownBlock=some k→WordB w k
def RetN (n:Nat) (w:World) (e:Ending) (w':World):Prop:=∃ a c,e=.returned (.agg #[.slice a (lenW n) c])∧NatW w' a c n∧Below w.heap.size w w'
section
variable {w w' : World} {a : Option Addr} {c n : Nat}
theorem NatW.below (h:NatW w a c n) (hb:Below w.heap.size w w'):NatW w' a c n:=⟨Sl.below h.sl hb,fun h0 k hk=>(h.ty h0 k hk).same (hb.block k (h.ty h0 k hk).lt)⟩
theorem NatW.alloc (h:NatW w a c n) (o:Obj):NatW (w.alloc o) a c n:=⟨Sl.alloc h.sl o,fun h0 k hk=>(h.ty h0 k hk).same (Below.heap_alloc _ _ _ (h.ty h0 k hk).lt)⟩
theorem NatW.drewN (h:NatW w a c n) (k:Nat):NatW (w.drewN k) a c n:=⟨Sl.same h.sl (Nat.le_refl _) fun _ _ _=>rfl,fun h0 j hk=>(h.ty h0 j hk).same rfl⟩
theorem NatW.nil (h0:lenW n=0) (h:NatW w a c n):NatW w' a c n:=by
 refine ⟨⟨h.sl.1,?_⟩,fun h1=>by omega⟩
 obtain ⟨a',c',e,h1,h2,h3⟩:=Sl.len h.sl
 cases e
 exact .inl ⟨a,c,rfl,h0,h2,h3⟩
theorem NatW.keeps {S:Nat→Prop} (h:NatW w a c n) (hk:Keeps w w' S) (hs:∀ k,S k→¬ WordB w k):NatW w' a c n:=by
 rcases Nat.eq_zero_or_pos (lenW n) with h0 | h0
 ·
  exact h.nil h0
 ·
  exact ⟨Sl.keeps h.sl hk fun k _ hv hS=>hs k hS (h.ty h0 k hv),fun _ k hv=>(h.ty h0 k hv).same (hk.block k (h.ty h0 k hv).lt fun hS=>hs k hS (h.ty h0 k hv))⟩
theorem NatW.len (h:NatW w a c n):lenW n≤9223372036854775807:=by
 obtain ⟨a',c',e,h1,h2,_⟩:=Sl.len h.sl
 cases e
 unfold maxLen at h2;omega
theorem NatW.word (h:NatW w a c n) {k:Nat} (hk:k<lenW n):∃ b o,a=some ⟨b,o,none⟩∧b<w.heap.size∧w.cell? ⟨b,o+k,none⟩=some (UV (wordOf n k)):=by
 obtain ⟨b,o,c',e,_,_,hb,hc⟩:=Sl.plain h.sl (by omega)
 cases e
 exact ⟨b,o,rfl,hb,hc k _ (words_at hk)⟩
theorem NatW.zero (w:World):NatW w none 0 0:=by
 refine ⟨?_,fun h=>by rw [lenW_zero] at h;omega⟩
 rw [lenW_zero,toWords_zero]
 exact ⟨rfl,.inl ⟨none,0,rfl,rfl,Nat.zero_le _,fun _=>rfl⟩⟩
end
theorem RetN.mono {n:Nat} {w0 w:World} {e:Ending} {w':World} (h:RetN n w e w') (hb:Below w0.heap.size w0 w):RetN n w0 e w':=by
 obtain ⟨a,c,he,h1,h2⟩:=h
 exact ⟨a,c,he,h1,hb.trans (h2.mono hb.size)⟩
theorem one_UV (l:List Nat):∀ u∈l.map UV,u.oneCell'=true:=fun u hu=>by
 obtain ⟨_,_,rfl⟩:=List.mem_map.1 hu;rfl
theorem bcell {W w1:World} (hb:Below W.heap.size W w1):(∀ b o,b<W.heap.size→w1.cell? ⟨b,o,none⟩=W.cell? ⟨b,o,none⟩)∧(∀ b o,b<W.heap.size→w1.frozen? ⟨b,o,none⟩=W.frozen? ⟨b,o,none⟩) :=
 ⟨fun b o h=>hb.cell (p:=⟨b,o,none⟩) h,fun b o h=>hb.frozen (p:=⟨b,o,none⟩) h⟩
theorem NatW.set {w:World} {a:Option Addr} {c n:Nat} (h:NatW w a c n) {p:Addr} {u0:Value} (hp:w.cell? p=some u0) (h0:∀ x,u0≠.int .u64 x) (u:Value):NatW (w.setCell p u) a c n:=by
 refine ⟨⟨h.sl.1,?_⟩,fun h0 k hk=>(h.ty h0 k hk).set p u⟩
 rcases h.sl.2 with h1 | ⟨b,o,c',e,h1,h2,h3,h4⟩
 ·
  exact .inl h1
 ·
  refine .inr ⟨b,o,c',e,h1,h2,by simpa using h3,fun j v hj=>?_⟩
  have hc:=h4 j v hj
  rw [World.cell?_setCell_other]
  ·
   exact hc
  ·
   intro e2
   rw [← e2,hp] at hc
   cases hc
   rw [List.getElem?_map] at hj
   obtain ⟨x,_,hx⟩:=Option.map_eq_some_iff.1 hj
   exact h0 _ hx.symm
theorem belowBox (w:World) (o:Obj):Below w.heap.size w (w.alloc o):=(Below.refl _ _).alloc (Nat.le_refl _) _
theorem nlen_any (a:Option Addr) (c n:Nat) (w:World):Calls Tryz.prog 162 #[.agg #[.slice a (lenW n) c]] w fun e w'=>e=.returned (.int .i64 (lenW n))∧Below w.heap.size w w':=by
 go_enter Tryz.func162,Tryz.ntmps162
 go_wp2
 go_ret
 exact ⟨rfl,belowBox _ _⟩
theorem nzero_is (a:Option Addr) (c n:Nat) (w:World) (h:n=0):Calls Tryz.prog 69 #[.agg #[.slice a (lenW n) c]] w fun e w'=>e=.returned (.bool true)∧Below w.heap.size w w':=by
 subst h
 rw [lenW_zero]
 go_enter Tryz.func69,Tryz.ntmps69
 go_wp2
 go_ret
 exact ⟨rfl,belowBox _ _⟩
theorem nzero_no (a:Option Addr) (c n:Nat) (w:World) (h:n≠0):Calls Tryz.prog 69 #[.agg #[.slice a (lenW n) c]] w fun e w'=>e=.returned (.bool false)∧Below w.heap.size w w':=by
 have hp:=lenW_pos h
 have hb:((lenW n:Int)==0)=false:=beq_eq_false_iff_ne.2 (by omega)
 clear h hp
 go_enter Tryz.func69,Tryz.ntmps69
 go_wp2
 go_ret
 exact ⟨by first | rfl | simp [hb],belowBox _ _⟩
theorem nzero_any (a:Option Addr) (c n:Nat) (w:World):Calls Tryz.prog 69 #[.agg #[.slice a (lenW n) c]] w fun e w'=>e=.returned (.bool (decide (n=0)))∧Below w.heap.size w w':=by
 by_cases h:n=0
 ·
  rw [decide_eq_true h];exact nzero_is a c n w h
 ·
  rw [decide_eq_false h];exact nzero_no a c n w h
theorem word_in (a:Option Addr) (c n k:Nat) (w:World) (h:NatW w a c n) (hk:k<lenW n):Calls Tryz.prog 182 #[.agg #[.slice a (lenW n) c],.int .i64 k] w fun e w'=>e=.returned (UV (wordOf n k))∧Below w.heap.size w w':=by
 have hl:=h.len
 obtain ⟨b,o,rfl,hb,hc⟩:=(h.alloc (.cells #[.slice a (lenW n) c] 41)).word hk
 clear h
 go_enter Tryz.func182,Tryz.ntmps182
 go_wp2
 go_ret
 exact ⟨rfl,belowBox _ _⟩
theorem word_out (a:Option Addr) (c n k:Nat) (w:World) (hk:lenW n≤k) (hs:k≤9223372036854775807):Calls Tryz.prog 182 #[.agg #[.slice a (lenW n) c],.int .i64 k] w fun e w'=>e=.returned (UV (wordOf n k))∧Below w.heap.size w w':=by
 have hw:=Lib.hid (word_past hk)
 have hk':((lenW n:Nat):Int)≤(k:Int):=by omega
 go_enter Tryz.func182,Tryz.ntmps182
 go_wp2
 go_ret
 exact ⟨by rw [hw.out];rfl,belowBox _ _⟩
theorem word_any (a:Option Addr) (c n k:Nat) (w:World) (h:NatW w a c n) (hs:k≤9223372036854775807):Calls Tryz.prog 182 #[.agg #[.slice a (lenW n) c],.int .i64 k] w fun e w'=>e=.returned (UV (wordOf n k))∧Below w.heap.size w w':=by
 by_cases hk:k<lenW n
 ·
  exact word_in a c n k w h hk
 ·
  exact word_out a c n k w (by omega) hs
theorem word_any0 (a:Option Addr) (c n:Nat) (w:World) (h:NatW w a c n):Calls Tryz.prog 182 #[.agg #[.slice a (lenW n) c],.int .i64 0] w fun e w'=>e=.returned (UV (wordOf n 0))∧Below w.heap.size w w':=word_any a c n 0 w h (by omega)
theorem uint_one (a:Option Addr) (c n:Nat) (w:World) (h:NatW w a c n) (h1:lenW n≤1):Calls Tryz.prog 179 #[.agg #[.slice a (lenW n) c]] w fun e w'=>e=.returned (.tuple #[UV n,.bool true])∧Below w.heap.size w w':=by
 have hk:=Lib.hid (word_any0 a c n _ (h.alloc (.cells #[.slice a (lenW n) c] 41)))
 have hw:=Lib.hid (show wordOf n 0=n by unfold wordOf;rw [Nat.pow_zero,Nat.div_one];exact Nat.mod_eq_of_lt (lenW_word.1 h1))
 clear h
 go_enter Tryz.func179,Tryz.ntmps179
 go_wp2_with fail
 refine hk.out.mono ?_
 rintro e w1 ⟨rfl,hb⟩
 go_wp2_with fail
 go_ret2
 exact ⟨by rw [hw.out];rfl,(belowBox _ _).trans (hb.mono (belowBox _ _).size)⟩
theorem uint_no (a:Option Addr) (c n:Nat) (w:World) (h1:1<lenW n):Calls Tryz.prog 179 #[.agg #[.slice a (lenW n) c]] w fun e w'=>e=.returned (.tuple #[UV 0,.bool false])∧Below w.heap.size w w':=by
 go_enter Tryz.func179,Tryz.ntmps179
 go_wp2_with fail
 go_ret2
 exact ⟨rfl,belowBox _ _⟩
theorem nbits_zero (a:Option Addr) (c:Nat) (w:World):Calls Tryz.prog 47 #[.agg #[.slice a 0 c]] w fun e w'=>e=.returned (.int .i64 0)∧Below w.heap.size w w':=by
 go_enter Tryz.func47,Tryz.ntmps47
 go_wp2_with fail
 go_ret
 exact ⟨rfl,belowBox _ _⟩
theorem nbits_pos (a:Option Addr) (c n:Nat) (w:World) (h:NatW w a c n) (hn:n≠0) (hs:lenW n≤70368744177664):Calls Tryz.prog 47 #[.agg #[.slice a (lenW n) c]] w fun e w'=>e=.returned (.int .i64 (bitLen n))∧Below w.heap.size w w':=by
 have hp:=lenW_pos hn
 obtain ⟨k,hk⟩:∃ k,lenW n=k+1:=⟨lenW n - 1,by omega⟩
 obtain ⟨b,o,rfl,hb,hc⟩:=(h.alloc (.cells #[.slice a (lenW n) c] 41)).word (show k<lenW n by omega)
 have hbits:=bits_words hn
 have hble:=bits_le n
 have hz:((lenW n:Int)==0)=false:=beq_eq_false_iff_ne.2 (by omega)
 rw [hk] at hbits hc hs hz hble ⊢
 rw [show k+1 - 1=k from rfl] at hbits
 have hL:=Lib.hid (len_any (wordOf n k) (wordOf_lt n k) (w.alloc (.cells #[.slice (some ⟨b,o,none⟩) (k+1) c] 41)))
 have hl2:bitLen (wordOf n k)≤64:=bitLen_le (wordOf_lt n k)
 obtain ⟨L,hLe⟩:∃ L,bitLen (wordOf n k)=L:=⟨_,rfl⟩
 obtain ⟨x,hx⟩:∃ x,wordOf n k=x:=⟨_,rfl⟩
 rw [hLe] at hbits hl2 hL
 rw [hx] at hL hc
 have HB:=Lib.hid hbits
 clear h hn hp hk hbits hLe hx
 go_enter Tryz.func47,Tryz.ntmps47
 go_wp2_with fail
 refine hL.out.mono ?_
 rintro e w1 ⟨rfl,hb1⟩
 go_wp2_with fail
 go_ret
 exact ⟨by rw [HB.out];go_num,(belowBox _ _).trans (hb1.mono (belowBox _ _).size)⟩
theorem nbits_any (a:Option Addr) (c n:Nat) (w:World) (h:NatW w a c n) (hs:lenW n≤70368744177664):Calls Tryz.prog 47 #[.agg #[.slice a (lenW n) c]] w fun e w'=>e=.returned (.int .i64 (bitLen n))∧Below w.heap.size w w':=by
 by_cases hn:n=0
 ·
  subst hn;rw [lenW_zero,bitLen_zero];exact nbits_zero a c w
 ·
  exact nbits_pos a c n w h hn hs
theorem Tryz.info_cloneW:(Tryz.prog.info? 164).map (fun i=>(i.zero,i.size,i.bytes))=some (some (.int .u64 0),1,8):=by kernel_rfl
theorem cloneW_nil (w:World):Calls Tryz.prog 133 #[.slice none 0 0] w (OwnR w 164 1 0 []):=by
 have he:=fun W=>Lib.run_eql_slice_nil (P:=Tryz.prog) W 22 164 none 0 0 0 0 Tryz.underlying22
 go_enter Tryz.func133,Tryz.ntmps133
 go_wp2
 go_ret
 exact ⟨none,0,rfl,Mid.nil _ _ _ _,Below.refl _ _⟩
theorem cloneW_some (b:Addr) (c n:Nat) (cs:List Value) (w:World) (h:Sl w 1 (.slice (some b) n c) n cs) (h1:∀ u∈cs,u.oneCell'=true) (hn:n*8≤140737488355328):Calls Tryz.prog 133 #[.slice (some b) n c] w (OwnR w 164 1 n cs):=by
 have he:=fun W=>Lib.run_eql_slice_nil (P:=Tryz.prog) W 22 164 (some b) n c 0 0 Tryz.underlying22
 obtain ⟨i0,hi,hz0,hz1,hz2⟩:=info_parts Tryz.info_cloneW
 have hM:Mid (w.alloc (.cells #[] 164)) w.heap.size 164 1 (.slice (some ⟨w.heap.size,0,none⟩) 0 0) 0 []:=by
  have:=Mid.new (base:=w.heap.size) w 164 1 0 0 #[] (Nat.le_refl _) (Nat.le_refl _) (Nat.zero_le _) (by simp)
  simpa using this
 have hS:=(Sl.alloc h (.cells #[] 164)).src (P:=Tryz.prog) Tryz.underlying22 h1
 have HM:=Lib.hid hM
 have HS:=Lib.hid hS
 clear hM hS h h1
 go_enter Tryz.func133,Tryz.ntmps133
 go_wp2_with (at_builtin;refine wpList_append_mid (v:=.slice (some ⟨w.heap.size,0,none⟩) 0 0) rfl _ _ 22 22 rfl i0 (.int .u64 0) 8 Tryz.underlying22 hi hz0 hz1 hz2 rfl rfl HM.out _ rfl n _ HS.out (by unfold maxLen;omega) (by omega) (by simp) ?_;intro a1 c1 w1 hmid hgrow hblk)
 go_ret
 rw [Nat.zero_add] at hmid
 refine ⟨a1,c1,rfl,by simpa using hmid,?_⟩
 exact ((Below.refl w.heap.size w).alloc (Nat.le_refl _) _).grown hgrow (by simp) (fun k hk=>by cases hk;simp)
theorem cloneW (v:Value) (n:Nat) (cs:List Value) (w:World) (h:Sl w 1 v n cs) (h1:∀ u∈cs,u.oneCell'=true) (hn:n*8≤140737488355328):Calls Tryz.prog 133 #[v] w (OwnR w 164 1 n cs):=by
 obtain ⟨a,c,rfl,_,_,h0⟩:=Sl.len h
 cases a with
 | none =>
  have hx:n=0:=by
   rcases h.2 with ⟨_,_,_,e,_⟩ | ⟨_,_,_,e,_⟩
   ·
    exact e
   ·
    cases e
  subst hx
  have hc:cs=[]:=List.eq_nil_of_length_eq_zero (by simpa using h.1)
  subst hc
  rw [h0 rfl]
  exact cloneW_nil w
 | some b=>exact cloneW_some b c n cs w h h1 hn
theorem nat_trim {w:World} {a:Option Addr} {c m:Nat} {xs:List Nat} (h:Sl w 1 (.slice a m c) m (xs.map UV)) (hx:∀ x∈xs,x<W64) (k:Nat) (hk:k≤m) (hz:∀ j,k≤j→xs.getD j 0=0) (hn:k=0∨xs.getD (k - 1) 0≠0) (hT:0<m→∀ j,(Value.slice a m c).ownBlock=some j→WordB w j) :
  lenW (val xs)=k∧NatW w a c (val xs):=by
 have hl:xs.length=m:=by have:=h.1;simpa using this
 obtain ⟨e1,e2⟩:=trim_end hx k (by omega) hz hn
 refine ⟨e2,?_,fun h0 j hj=>hT (by omega) j (by cases a <;> exact hj)⟩
 rw [e1,e2]
 refine ⟨by simp;omega,?_⟩
 rcases h.2 with ⟨a',c',e,h0,h1,h2⟩ | ⟨b,o,c',e,h0,h1,h2,h3⟩
 ·
  cases e
  exact .inl ⟨a,c,rfl,by omega,h1,h2⟩
 ·
  cases e
  refine .inr ⟨b,o,c,rfl,by omega,h1,h2,fun j u hj=>h3 j u ?_⟩
  rw [List.map_take,List.getElem?_take] at hj
  split at hj
  ·
   exact hj
  ·
   cases hj
theorem sl_cell {w:World} {a:Option Addr} {c m:Nat} {xs:List Nat} (h:Sl w 1 (.slice a m c) m (xs.map UV)) {k:Nat} (hk:k<m):∃ b o,a=some ⟨b,o,none⟩∧b<w.heap.size∧w.cell? ⟨b,o+k,none⟩=some (UV (xs.getD k 0)):=by
 obtain ⟨b,o,c',e,_,_,hb,hc⟩:=Sl.plain h (by omega)
 cases e
 have hl:k<xs.length:=by have:=h.1;simp at this;omega
 exact ⟨b,o,rfl,hb,hc k _ (by rw [List.getElem?_map,List.getElem?_eq_getElem hl,List.getD_eq_getElem?_getD,List.getElem?_eq_getElem hl];rfl)⟩
theorem trim_any (a:Option Addr) (c m:Nat) (xs:List Nat) (w:World) (h:Sl w 1 (.slice a m c) m (xs.map UV)) (hx:∀ x∈xs,x<W64) (hT:0<m→∀ j,(Value.slice a m c).ownBlock=some j→WordB w j):Calls Tryz.prog 132 #[.slice a m c] w (RetN (val xs) w):=by
 obtain ⟨a',c',e,hmc,hc,h0⟩:=Sl.len h
 cases e
 have hl:xs.length=m:=by have:=h.1;simpa using this
 have hz:∀ j,m≤j→xs.getD j 0=0:=fun j hj=>by rw [List.getD_eq_getElem?_getD,List.getElem?_eq_none (by omega)];rfl
 have HZ:=Lib.hid hz
 have H:=Lib.hid (h.alloc (.cells #[.slice none 0 0] 41))
 have HW:=Lib.hid h
 have HX:=Lib.hid hx
 have HTY:=Lib.hid hT
 unfold maxLen at hc
 clear h hx hl hz h0 hT
 go_enter Tryz.func132,Tryz.ntmps132
 go_wp2
 go_loop [0] (fun v=>∃ k:Nat,k≤m∧v=.slice a k c∧(∀ j,k≤j→xs.getD j 0=0)) (fun v=>match v with | .slice _ n _=>n | _=>0)
 case atStart=>exact ⟨m,Nat.le_refl _,rfl,HZ.out⟩
 case round =>
  obtain ⟨k,hk,rfl,hz⟩:=hrel
  have HZk:=Lib.hid hz
  clear hz
  by_cases hk0:k=0
  ·
   subst hk0
   obtain ⟨e2,hn⟩:=nat_trim HW.out HX.out 0 hk HZk.out (.inl rfl) HTY.out
   have HE:=Lib.hid e2
   have HN:=Lib.hid hn
   clear e2 hn
   go_wp2
   refine bodyPost_ret (v:=.agg #[.slice a 0 c]) (by simp [results,Tryz.results132,go_sem]) rfl ?_
   unfold RetN
   rw [HE.out]
   exact ⟨a,c,rfl,HN.out.alloc _,belowBox _ _⟩
  ·
   obtain ⟨i,rfl⟩:∃ i,k=i+1:=⟨k - 1,by omega⟩
   obtain ⟨b,o,rfl,hb,hcell⟩:=sl_cell H.out (show i<m by omega)
   by_cases hw:xs.getD i 0=0
   ·
    have HZ2:=Lib.hid (show ∀ j,i≤j→xs.getD j 0=0 from fun j hj=>by
     rcases Nat.eq_or_lt_of_le hj with e | e
     ·
      rw [← e];exact hw
     ·
      exact HZk.out j e)
    rw [hw] at hcell
    clear hw
    go_wp2
    go_round
    case rel=>exact ⟨i,by omega,rfl,HZ2.out⟩
    case measure=>simp
   ·
    obtain ⟨e2,hn⟩:=nat_trim HW.out HX.out (i+1) hk HZk.out (.inr hw) HTY.out
    have HE:=Lib.hid e2
    have HN:=Lib.hid hn
    have hne:(((xs.getD i 0:Nat):Int)==0)=false:=beq_eq_false_iff_ne.2 (by omega)
    generalize xs.getD i 0=y at *
    clear e2 hn hw
    go_wp2
    refine bodyPost_ret (v:=.agg #[.slice (some ⟨b,o,none⟩) (i+1) c]) (by simp [results,Tryz.results132,go_sem]) rfl ?_
    unfold RetN
    rw [HE.out]
    exact ⟨_,c,rfl,HN.out.alloc _,belowBox _ _⟩
theorem of_any (a:Option Addr) (c m:Nat) (xs:List Nat) (w:World) (h:Sl w 1 (.slice a m c) m (xs.map UV)) (hx:∀ x∈xs,x<W64) (hs:m≤17592186044416):Calls Tryz.prog 68 #[.slice a m c] w (RetN (val xs) w):=by
 have HC:=Lib.hid (cloneW _ _ _ _ (h.alloc (.cells #[.slice none 0 0] 41)) (one_UV xs) (by omega))
 have HX:=Lib.hid hx
 clear h hx
 go_enter Tryz.func68,Tryz.ntmps68
 go_wp2_with fail
 refine HC.out.mono ?_
 rintro e w1 ⟨a1,c1,rfl,hm,hb⟩
 have HB:=Lib.hid hb
 have HT:=Lib.hid (trim_any a1 c1 m xs w1 (Sl.ofMid hm) HX.out (fun _=>hm.words))
 have k0:w1.cell? ⟨w.heap.size,0,none⟩=some (.slice none 0 0):=((bcell hb).1 _ _ (by simp)).trans (by simp)
 have hlt:=World.block_lt_of_cell? _ _ k0
 clear hm hb HC
 go_wp2_with fail
 refine HT.out.mono ?_
 rintro e w2 ⟨a2,c2,rfl,hn,hb2⟩
 have k2:w2.cell? ⟨w.heap.size,0,none⟩=some (.slice none 0 0):=((bcell hb2).1 _ _ hlt).trans k0
 have f2:w2.frozen? ⟨w.heap.size,0,none⟩=false:=((bcell hb2).2 _ _ hlt).trans (((bcell HB.out).2 _ _ (by simp)).trans (by simp))
 have HN:=Lib.hid hn
 have HB2:=Lib.hid hb2
 clear hn hb2 HT
 go_wp2_with fail
 refine bodyPost_ret (v:=.agg #[.slice a2 (lenW (val xs)) c2]) (by simp [results,Tryz.results68,go_sem,k2]) rfl ?_
 exact ⟨a2,c2,rfl,HN.out.set k2 (fun _=>by simp) _,(((belowBox w _).trans (HB.out.mono (belowBox w _).size)).trans (HB2.out.mono (((belowBox w _).trans (HB.out.mono (belowBox w _).size))).size)).setCell (Nat.le_refl _) _⟩
end Go.Proofs.YtmhainidincjhaaGreatDoor
namespace Go.Proofs.YtmhainidincjhaaGreatDoor
def newI (b:Bool) (n:Nat):Int:=if b && n != 0 then -(n:Int) else (n:Int)
theorem newI_abs (b:Bool) (n:Nat):(newI b n).natAbs=n:=by
 unfold newI;split <;> omega
theorem newI_neg (b:Bool) (n:Nat):decide (newI b n<0)=(b && n != 0):=by
 unfold newI
 by_cases hn:n=0
 ·
  subst hn;cases b <;> simp
 ·
  cases b
  ·
   simp
  ·
   have:(n != 0)=true:=by simpa using hn
   simp [this];omega
theorem newI_true (n:Nat):newI true n=-(n:Int):=by unfold newI;by_cases h:n=0 <;> simp [h]
theorem newI_false (n:Nat):newI false n=(n:Int):=by simp [newI]
theorem newI_add (a b:Int) (h:decide (a<0)=decide (b<0)):newI (decide (a<0)) (a.natAbs+b.natAbs)=a+b:=by
 by_cases h1:a<0
 ·
  have h2:b<0:=by simpa [h1] using h
  simp only [h1,decide_true,newI_true];omega
 ·
  have h2:¬ b<0:=by simpa [h1] using h
  simp only [h1,decide_false,newI_false];omega
theorem newI_sub (a b:Int) (h:decide (a<0)≠decide (b<0)) (hb:b.natAbs≤a.natAbs):newI (decide (a<0)) (a.natAbs - b.natAbs)=a+b:=by
 by_cases h1:a<0
 ·
  have h2:¬ b<0:=by intro h2;exact h (by simp [h1,h2])
  simp only [h1,decide_true,newI_true];omega
 ·
  have h2:b<0:=by
   by_cases h2:b<0
   ·
    exact h2
   ·
    exact absurd (by simp [h1,h2]) h
  simp only [h1,decide_false,newI_false];omega
theorem newI_bus (a b:Int) (h:decide (a<0)≠decide (b<0)) (hb:a.natAbs≤b.natAbs):newI (decide (b<0)) (b.natAbs - a.natAbs)=a+b:=by
 rw [newI_sub b a (fun e=>h e.symm) hb,Int.add_comm]
theorem newI_mul (a b:Int):newI (decide (a<0) != decide (b<0)) (a.natAbs*b.natAbs)=a*b:=by
 have hm:(a*b).natAbs=a.natAbs*b.natAbs:=Int.natAbs_mul a b
 by_cases h1:a<0 <;> by_cases h2:b<0
 ·
  have:=Int.mul_pos_of_neg_of_neg h1 h2
  simp only [h1,h2,decide_true,bne_self_eq_false,newI_false];omega
 ·
  have:a*b≤0:=Int.mul_nonpos_of_nonpos_of_nonneg (by omega) (by omega)
  simp only [h1,h2,decide_true,decide_false,Bool.bne_false,newI_true];omega
 ·
  have:a*b≤0:=Int.mul_nonpos_of_nonneg_of_nonpos (by omega) (by omega)
  simp only [h1,h2,decide_true,decide_false,Bool.bne_true,Bool.not_false,newI_true];omega
 ·
  have:0≤a*b:=Int.mul_nonneg (by omega) (by omega)
  simp only [h1,h2,decide_false,bne_self_eq_false,newI_false];omega
def cmpI (a b:Int):Int:=if a<b then -1 else if b<a then 1 else 0
def cmpN (a b:Nat):Int:=cmpI (a:Int) (b:Int)
theorem cmpI_below (a b:Int) (h1:a<0) (h2:b<0):cmpN b.natAbs a.natAbs=cmpI a b:=by
 unfold cmpN cmpI
 repeat' split
 all_goals omega
theorem cmpI_above (a b:Int) (h1:¬ a<0) (h2:¬ b<0):cmpN a.natAbs b.natAbs=cmpI a b:=by
 unfold cmpN cmpI
 repeat' split
 all_goals omega
theorem rat_den (n d:Int) (hd:d≠0):(Rat.divInt n d).den=d.natAbs / Nat.gcd n.natAbs d.natAbs:=by
 rw [Rat.den_divInt,if_neg hd,Int.gcd,Nat.gcd_comm]
theorem rat_num (n d:Int) (hd:d≠0):(Rat.divInt n d).num=newI (decide (n<0) != decide (d<0)) (n.natAbs / Nat.gcd n.natAbs d.natAbs):=by
 rw [Rat.num_divInt,Int.gcd,Nat.gcd_comm]
 obtain ⟨g,hg⟩:∃ g,g=Nat.gcd n.natAbs d.natAbs:=⟨_,rfl⟩
 have hdv:g∣n.natAbs:=hg▸Nat.gcd_dvd_left _ _
 have hg0:0<g:=by
  rw [hg];exact Nat.gcd_pos_of_pos_right _ (by omega)
 rw [← hg]
 obtain ⟨k,hk⟩:=hdv
 have e1:n.natAbs / g=k:=by rw [hk,Nat.mul_div_cancel_left _ hg0]
 rw [e1]
 have hgi:(g:Int)≠0:=by omega
 by_cases h1:n<0
 ·
  have hn:n=(g:Int)*-(k:Int):=by
   have:(n.natAbs:Int)=(g:Int)*(k:Int):=by rw [hk,Int.natCast_mul]
   rw [Int.mul_neg,← this];omega
  by_cases h2:d<0
  ·
   rw [Int.sign_eq_neg_one_of_neg h2]
   have:-1*n=(g:Int)*(k:Int):=by rw [hn,Int.mul_neg];omega
   rw [this,Int.mul_ediv_cancel_left _ hgi]
   simp only [h1,h2,decide_true,bne_self_eq_false,newI_false]
  ·
   rw [Int.sign_eq_one_of_pos (by omega),Int.one_mul,hn,Int.mul_ediv_cancel_left _ hgi,← hn]
   simp only [h1,h2,decide_true,decide_false,Bool.bne_false,newI_true]
 ·
  have hn:n=(g:Int)*(k:Int):=by
   have:(n.natAbs:Int)=(g:Int)*(k:Int):=by rw [hk,Int.natCast_mul]
   rw [← this];omega
  by_cases h2:d<0
  ·
   rw [Int.sign_eq_neg_one_of_neg h2]
   have:-1*n=(g:Int)*-(k:Int):=by rw [hn,Int.mul_neg];omega
   rw [this,Int.mul_ediv_cancel_left _ hgi]
   simp only [h1,h2,decide_true,decide_false,Bool.bne_true,Bool.not_false,newI_true]
  ·
   rw [Int.sign_eq_one_of_pos (by omega),Int.one_mul]
   rw [show n / (g:Int)=k by rw [hn,Int.mul_ediv_cancel_left _ hgi]]
   simp only [h1,h2,decide_false,bne_self_eq_false,newI_false]
theorem rat_add (a b:Rat):Rat.divInt (a.num*(b.den:Int)+b.num*(a.den:Int)) ((a.den*b.den:Nat):Int)=a+b:=by
 rw [Rat.add_def'];rfl
def cmpR (a b:Rat):Int:=if a<b then -1 else if b<a then 1 else 0
theorem rat_cmp (a b:Rat):cmpI (a.num*(b.den:Int)) (b.num*(a.den:Int))=cmpR a b:=by
 unfold cmpI cmpR
 simp only [Rat.lt_iff]
theorem rat_zero (a:Rat):(a.num=0)↔a=0:=Rat.num_eq_zero
theorem cmpR_same (a b:Rat):cmpR a b=0↔a=b:=by
 unfold cmpR
 constructor
 ·
  intro h
  by_cases h1:a<b
  ·
   rw [if_pos h1] at h;omega
  ·
   rw [if_neg h1] at h
   by_cases h2:b<a
   ·
    rw [if_pos h2] at h;omega
   ·
    exact Rat.le_antisymm (Rat.not_lt.mp h2) (Rat.not_lt.mp h1)
 ·
  intro h
  subst h
  rw [if_neg (Rat.lt_irrefl),if_neg (Rat.lt_irrefl)]
def denN (d:Nat):Nat:=if d=1 then 0 else d
theorem denN_zero (a:Rat):denN a.den=0↔a.den=1:=by
 have:=a.den_nz
 unfold denN;split <;> omega
end Go.Proofs.YtmhainidincjhaaGreatDoor
namespace Go.Proofs.YtmhainidincjhaaGreatDoor
open Go.RowKit
theorem bthen {w w1 w2:World} (h:Below w.heap.size w w1) (k:Below w1.heap.size w1 w2):Below w.heap.size w w2:=h.trans (k.mono h.size)
theorem cmpI_lt {a b:Int} (h:a<b):cmpI a b=-1:=by unfold cmpI;rw [if_pos h]
theorem cmpI_gt {a b:Int} (h:b<a):cmpI a b=1:=by unfold cmpI;rw [if_neg (by omega),if_pos h]
theorem cmpI_eq {a b:Int} (h:a=b):cmpI a b=0:=by unfold cmpI;rw [if_neg (by omega),if_neg (by omega)]
theorem nanI (a:Int) (w:World):Calls Tryz.prog 187 #[.int .i64 a] w fun e w'=>e=.returned (.bool false)∧w=w':=by
 go_enter Tryz.func187,Tryz.ntmps187
 go_wp2
 go_ret
 exact ⟨by first | rfl | simp,rfl⟩
theorem cmpI_any (a b:Int) (w:World):Calls Tryz.prog 147 #[.int .i64 a,.int .i64 b] w fun e w'=>e=.returned (.int .i64 (cmpI a b))∧w=w':=by
 rcases Int.lt_trichotomy a b with h | h | h
 ·
  rw [cmpI_lt h]
  go_enter Tryz.func147,Tryz.ntmps147
  go_wp2_with (go_at_call 187;refine (nanI _ _).mono ?_;rintro e w' ⟨rfl,rfl⟩)
  go_ret
  exact ⟨rfl,rfl⟩
 ·
  subst h
  rw [cmpI_eq rfl]
  go_enter Tryz.func147,Tryz.ntmps147
  go_wp2_with (go_at_call 187;refine (nanI _ _).mono ?_;rintro e w' ⟨rfl,rfl⟩)
  go_ret
  exact ⟨rfl,rfl⟩
 ·
  rw [cmpI_gt h]
  have h2:¬ a<b:=by omega
  go_enter Tryz.func147,Tryz.ntmps147
  go_wp2_with (go_at_call 187;refine (nanI _ _).mono ?_;rintro e w' ⟨rfl,rfl⟩)
  go_ret
  exact ⟨rfl,rfl⟩
theorem nanU (a:Int) (w:World):Calls Tryz.prog 188 #[.int .u64 a] w fun e w'=>e=.returned (.bool false)∧w=w':=by
 go_enter Tryz.func188,Tryz.ntmps188
 go_wp2
 go_ret
 exact ⟨by first | rfl | simp,rfl⟩
theorem cmpU_any (a b:Int) (w:World):Calls Tryz.prog 148 #[.int .u64 a,.int .u64 b] w fun e w'=>e=.returned (.int .i64 (cmpI a b))∧w=w':=by
 rcases Int.lt_trichotomy a b with h | h | h
 ·
  rw [cmpI_lt h]
  go_enter Tryz.func148,Tryz.ntmps148
  go_wp2_with (go_at_call 188;refine (nanU _ _).mono ?_;rintro e w' ⟨rfl,rfl⟩)
  go_ret
  exact ⟨rfl,rfl⟩
 ·
  subst h
  rw [cmpI_eq rfl]
  go_enter Tryz.func148,Tryz.ntmps148
  go_wp2_with (go_at_call 188;refine (nanU _ _).mono ?_;rintro e w' ⟨rfl,rfl⟩)
  go_ret
  exact ⟨rfl,rfl⟩
 ·
  rw [cmpI_gt h]
  have h2:¬ a<b:=by omega
  go_enter Tryz.func148,Tryz.ntmps148
  go_wp2_with (go_at_call 188;refine (nanU _ _).mono ?_;rintro e w' ⟨rfl,rfl⟩)
  go_ret
  exact ⟨rfl,rfl⟩
theorem belowBox2 (w:World) (o1 o2:Obj):Below w.heap.size w ((w.alloc o1).alloc o2):=((Below.refl _ _).alloc (Nat.le_refl _) _).alloc (by simp) _
theorem ncmp_len (a b:Option Addr) (c d m n:Nat) (w:World) (h:lenW m≠lenW n):Calls Tryz.prog 87 #[.agg #[.slice a (lenW m) c],.agg #[.slice b (lenW n) d]] w fun e w'=>e=.returned (.int .i64 (cmpN m n))∧Below w.heap.size w w':=by
 obtain ⟨r,hr⟩:∃ r,cmpI (lenW m:Int) (lenW n:Int)=r:=⟨_,rfl⟩
 have hv:cmpN m n=r∧(r != 0)=true:=by
  unfold cmpN
  rcases Nat.lt_or_gt_of_ne h with hl | hl
  ·
   rw [cmpI_lt (by omega)] at hr
   subst hr
   exact ⟨cmpI_lt (by have:=cmp_len m n hl;omega),rfl⟩
  ·
   rw [cmpI_gt (by omega)] at hr
   subst hr
   exact ⟨cmpI_gt (by have:=cmp_len n m hl;omega),rfl⟩
 rw [hv.1]
 have hv2:=hv.2
 have HC:=Lib.hid (hr▸cmpI_any (lenW m:Int) (lenW n:Int) ((w.alloc (.cells #[.slice a (lenW m) c] 41)).alloc (.cells #[.slice b (lenW n) d] 41)))
 clear hv h hr
 go_enter Tryz.func87,Tryz.ntmps87
 go_wp2_with fail
 refine HC.out.mono ?_
 rintro e w1 ⟨rfl,rfl⟩
 go_wp2_with fail
 go_ret
 exact ⟨rfl,belowBox2 _ _ _⟩
structure CmpAt (m n k:Nat):Prop where
 same:m / W64^k=n / W64^k
theorem ncmp_eq (a b:Option Addr) (c d m n:Nat) (w:World) (ha:NatW w a c m) (hb:NatW w b d n) (h:lenW m=lenW n):Calls Tryz.prog 87 #[.agg #[.slice a (lenW m) c],.agg #[.slice b (lenW n) d]] w fun e w'=>e=.returned (.int .i64 (cmpN m n))∧Below w.heap.size w w':=by
 have hst:CmpAt m n (lenW m):=⟨cmp_start m n h⟩
 have hl:=ha.len
 have hl2:=hb.len
 have HA:=Lib.hid (ha.below (belowBox2 w (.cells #[.slice a (lenW m) c] 41) (.cells #[.slice b (lenW n) d] 41)))
 have HB:=Lib.hid (hb.below (belowBox2 w (.cells #[.slice a (lenW m) c] 41) (.cells #[.slice b (lenW n) d] 41)))
 have HC:=Lib.hid (cmpI_any (lenW m:Int) (lenW n:Int) ((w.alloc (.cells #[.slice a (lenW m) c] 41)).alloc (.cells #[.slice b (lenW n) d] 41)))
 obtain ⟨L,hL⟩:∃ L,lenW m=L:=⟨_,rfl⟩
 have hL2:lenW n=L:=by omega
 have HLm:=Lib.hid hL
 have HLn:=Lib.hid hL2
 rw [hL,hL2] at HC HA HB
 rw [hL] at hst hl
 rw [hL,hL2]
 rw [cmpI_eq rfl] at HC
 clear ha hb h hL hL2 hl2
 go_enter Tryz.func87,Tryz.ntmps87
 go_wp2_with fail
 refine HC.out.mono ?_
 rintro e w1 ⟨rfl,rfl⟩
 go_wp2_with fail
 go_loopw [6] (fun v wr=>(∃ k:Nat,(k=0∧v=.int .i64 (-1)∨∃ i:Nat,k=i+1∧v=.int .i64 i)∧k≤L∧CmpAt m n k)∧Below ((w.alloc (.cells #[.slice a L c] 41)).alloc (.cells #[.slice b L d] 41)).heap.size ((w.alloc (.cells #[.slice a L c] 41)).alloc (.cells #[.slice b L d] 41)) wr) (fun v _=>(intOf v+1).toNat)
 case atStart =>
  refine ⟨⟨L,?_,Nat.le_refl _,hst⟩,Below.refl _ _⟩
  rcases Nat.eq_zero_or_pos L with h0 | h0
  ·
   exact .inl ⟨h0,by rw [h0];rfl⟩
  ·
   exact .inr ⟨L - 1,by omega,congrArg (Value.int .i64) (by omega)⟩
 case round =>
  obtain ⟨⟨k,hk,hkL,hs⟩,hbw⟩:=hrel
  have HBW:=Lib.hid hbw
  have HS:=Lib.hid hs
  rcases hk with ⟨rfl,rfl⟩ | ⟨i,rfl,rfl⟩
  ·
   have hv:m=n:=cmp_end m n hs.same
   have HV:=Lib.hid (show cmpN m n=0 from cmpI_eq (by rw [hv]))
   clear hbw hs hv
   go_wp2
   go_ret
   exact ⟨by rw [HV.out];rfl,(belowBox2 w _ _).trans (HBW.out.mono (belowBox2 w _ _).size)⟩
  ·
   have hst3:=cmp_step m n i hs.same
   have HST:=Lib.hid hst3
   obtain ⟨b1,o1,e1,hb1,hc1⟩:=(HA.out.below hbw).word (show i<lenW m by rw [HLm.out];omega)
   obtain ⟨b2,o2,e2,hb2,hc2⟩:=(HB.out.below hbw).word (show i<lenW n by rw [HLn.out];omega)
   have k0:wr.cell? ⟨w.heap.size,0,none⟩=some (.slice a L c):=((bcell hbw).1 _ _ (by simp;omega)).trans (by simp)
   have k1:wr.cell? ⟨w.heap.size+1,0,none⟩=some (.slice b L d):=((bcell hbw).1 _ _ (by simp)).trans (by simp)
   have i0:(0:Int)≤(i:Int):=by omega
   have i1:(i:Int)<(L:Int):=by omega
   subst e1 e2
   obtain ⟨x,hx⟩:∃ x,wordOf m i=x:=⟨_,rfl⟩
   obtain ⟨y,hy⟩:∃ y,wordOf n i=y:=⟨_,rfl⟩
   rw [hx] at hc1
   rw [hy] at hc2
   rw [hx,hy] at HST
   clear hbw hs hst3 hx hy HC hst
   obtain ⟨r,hr⟩:∃ r,cmpI (x:Int) (y:Int)=r:=⟨_,rfl⟩
   have HQ:=Lib.hid (fun W:World=>(cmpU_any (x:Int) (y:Int) W).mono fun e w' (h:_∧_)=>(⟨by rw [h.1,hr],h.2.symm⟩:e=.returned (.int .i64 r)∧w'=W))
   have HR:=Lib.hid hr
   clear hr
   by_cases hxy:x=y
   ·
    have hr0:r=0:=by rw [← HR.out];exact cmpI_eq (by omega)
    subst hr0
    have hnext:CmpAt m n i:=⟨HST.out.2.2 hxy⟩
    have HN:=Lib.hid hnext
    clear hnext hxy
    go_wp2
    go_quiet ((go_at_call 148;exact Calls.quiet_of_same (HQ.out _)))
    go_wp2
    go_roundw
    case rel =>
     refine ⟨⟨i,?_,by omega,HN.out⟩,?_⟩
     ·
      rcases Nat.eq_zero_or_pos i with h0 | h0
      ·
       exact .inl ⟨h0,by rw [h0];rfl⟩
      ·
       exact .inr ⟨i - 1,by omega,congrArg (Value.int .i64) (by omega)⟩
     ·
      exact belowDrawn HBW.out _
    case measure=>simp [intOf]
   ·
    have hv:cmpN m n=r∧(r != 0)=true:=by
     unfold cmpN
     rcases Nat.lt_or_gt_of_ne hxy with hl | hl
     ·
      have e:r=-1:=by rw [← HR.out];exact cmpI_lt (by omega)
      rw [e]
      exact ⟨cmpI_lt (by have:=HST.out.1 hl;omega),rfl⟩
     ·
      have e:r=1:=by rw [← HR.out];exact cmpI_gt (by omega)
      rw [e]
      exact ⟨cmpI_gt (by have:=HST.out.2.1 hl;omega),rfl⟩
    have hv2:=hv.2
    have HV:=Lib.hid hv.1
    clear hv hxy
    go_wp2
    go_quiet ((go_at_call 148;exact Calls.quiet_of_same (HQ.out _)))
    go_wp2
    go_ret
    exact ⟨by rw [HV.out];rfl,(belowBox2 w _ _).trans (belowDrawn (HBW.out.mono (belowBox2 w _ _).size) _)⟩
theorem ncmp_any (a b:Option Addr) (c d m n:Nat) (w:World) (ha:NatW w a c m) (hb:NatW w b d n):Calls Tryz.prog 87 #[.agg #[.slice a (lenW m) c],.agg #[.slice b (lenW n) d]] w fun e w'=>e=.returned (.int .i64 (cmpN m n))∧Below w.heap.size w w':=by
 by_cases h:lenW m=lenW n
 ·
  exact ncmp_eq a b c d m n w ha hb h
 ·
  exact ncmp_len a b c d m n w h
def fillN (n M k:Nat):List Nat:=(List.range M).map fun j=>if j<k then wordOf n j else 0
theorem fillN_len (n M k:Nat):(fillN n M k).length=M:=by simp [fillN]
theorem fillN_at (n M k j:Nat) (h:j<M):(fillN n M k)[j]?=some (if j<k then wordOf n j else 0):=by
 unfold fillN
 rw [List.getElem?_map,List.getElem?_range h];rfl
theorem fillN_set (n M k:Nat):(fillN n M k).set k (wordOf n k)=fillN n M (k+1):=by
 apply List.ext_getElem?
 intro i
 rcases Nat.lt_or_ge i M with hi | hi
 ·
  rw [fillN_at _ _ _ _ hi]
  by_cases hk:k=i
  ·
   subst hk
   rw [List.getElem?_set_self (by rw [fillN_len];exact hi),if_pos (by omega)]
  ·
   rw [List.getElem?_set_ne hk,fillN_at _ _ _ _ hi]
   congr 1
   by_cases h:i<k
   ·
    rw [if_pos h,if_pos (by omega)]
   ·
    rw [if_neg h,if_neg (by omega)]
 ·
  rw [List.getElem?_eq_none (by rw [List.length_set,fillN_len];exact hi),List.getElem?_eq_none (by rw [fillN_len];exact hi)]
theorem fillN_zero (n M:Nat):fillN n M 0=List.replicate M 0:=by
 apply List.ext_getElem?
 intro i
 rcases Nat.lt_or_ge i M with hi | hi
 ·
  rw [fillN_at _ _ _ _ hi,if_neg (by omega),List.getElem?_replicate,if_pos hi]
 ·
  rw [List.getElem?_eq_none (by rw [fillN_len];exact hi),List.getElem?_eq_none (by simpa using hi)]
theorem fillN_all (n M:Nat):fillN n M M=wordsN n M:=by
 apply List.ext_getElem?
 intro i
 rcases Nat.lt_or_ge i M with hi | hi
 ·
  rw [fillN_at _ _ _ _ hi,if_pos hi]
  unfold wordsN
  rw [List.getElem?_map,List.getElem?_range hi];rfl
 ·
  rw [List.getElem?_eq_none (by rw [fillN_len];exact hi),List.getElem?_eq_none (by rw [wordsN_len];exact hi)]
theorem fillN_val {n M:Nat} (h:n<W64^M):val (fillN n M M)=n:=by rw [fillN_all,val_wordsN,Nat.mod_eq_of_lt h]
theorem fillN_lt (n M k:Nat):∀ x∈fillN n M k,x<W64:=fun x hx=>by
 obtain ⟨j,_,rfl⟩:=List.mem_map.1 hx
 split
 ·
  exact wordOf_lt _ _
 ·
  unfold W64;omega
structure NS (W0:World) (g:Nat) (xs:List Nat) (W:World):Prop where
 blk:W.heap[g]?=some (.cells (xs.map UV).toArray 164 (0,0))
 bel:Below W0.heap.size W0 W
 new:W0.heap.size≤g
section
variable {W0 W W' : World} {g : Nat} {xs : List Nat}
theorem NS.made (W0:World) (xs:List Nat):NS W0 W0.heap.size xs (W0.alloc (.cells (xs.map UV).toArray 164)):=⟨heap_alloc_new _ _,belowBox _ _,Nat.le_refl _⟩
theorem NS.lt (h:NS W0 g xs W):g<W.heap.size:=(Array.getElem?_eq_some_iff.1 h.blk).1
theorem NS.below (h:NS W0 g xs W) (hb:Below W.heap.size W W'):NS W0 g xs W':=⟨(hb.block g h.lt).trans h.blk,bthen h.bel hb,h.new⟩
theorem NS.drewN (h:NS W0 g xs W) (k:Nat):NS W0 g xs (W.drewN k):=⟨h.blk,belowDrawn h.bel _,h.new⟩
theorem NS.cell (h:NS W0 g xs W) {j:Nat} (hj:j<xs.length):W.cell? ⟨g,j,none⟩=some (UV xs[j]):=by
 simp only [World.cell?,h.blk,Option.isSome_none,Bool.false_eq_true,if_false]
 simp [List.getElem?_eq_getElem hj]
theorem NS.free (h:NS W0 g xs W) (j:Nat):W.frozen? ⟨g,j,none⟩=false:=by simp [World.frozen?,h.blk]
theorem NS.set (h:NS W0 g xs W) (j x:Nat):NS W0 g (xs.set j x) (W.setCell ⟨g,j,none⟩ (UV x)) :=
 ⟨by rw [heap_setCell_same W g j _ _ _ h.blk];simp [List.map_set],h.bel.setCell h.new _,h.new⟩
theorem NS.sl (h:NS W0 g xs W) (hm:xs.length≤maxLen):Sl W 1 (.slice (some ⟨g,0,none⟩) xs.length xs.length) xs.length (xs.map UV):=by
 refine ⟨by simp,.inr ⟨g,0,xs.length,rfl,Nat.le_refl _,hm,h.lt,fun j u hj=>?_⟩⟩
 rw [List.getElem?_map] at hj
 obtain ⟨x,hx,rfl⟩:=Option.map_eq_some_iff.1 hj
 obtain ⟨hl,rfl⟩:=List.getElem?_eq_some_iff.1 hx
 rw [Nat.zero_add]
 exact h.cell hl
theorem NS.words (h:NS W0 g xs W) {n c:Nat}:∀ k,(Value.slice (some ⟨g,0,none⟩) n c).ownBlock=some k→WordB W k:=fun k hk=>by
 simp only [Value.ownBlock,Option.some.injEq] at hk
 subst hk;exact ⟨_,h.blk⟩
theorem NS.old (h:NS W0 g xs W) {b o:Nat} {v:Value} (hc:W0.cell? ⟨b,o,none⟩=some v):W.cell? ⟨b,o,none⟩=some v :=
 (h.bel.cell (p:=⟨b,o,none⟩) (World.block_lt_of_cell? _ _ hc)).trans hc
theorem NS.oldFree (h:NS W0 g xs W) {b o:Nat} (hb:b<W0.heap.size) (hc:W0.frozen? ⟨b,o,none⟩=false):W.frozen? ⟨b,o,none⟩=false :=
 (h.bel.frozen (p:=⟨b,o,none⟩) hb).trans hc
theorem NS.nat (h:NS W0 g xs W) {a:Option Addr} {c n:Nat} (hn:NatW W0 a c n):NatW W a c n:=hn.below h.bel
end
def cellAt (W:World) (g k:Nat):Value:=(W.cell? ⟨g,k,none⟩).getD undef
def SSt (W0:World) (g:Nat) (xs:List Nat) (k x:Nat) (W:World):Prop:=NS W0 g xs W∨NS W0 g (xs.set k x) W
section
variable {W0 W W' : World} {g : Nat} {xs : List Nat} {k x : Nat}
theorem SSt.ex (h:SSt W0 g xs k x W):∃ ys,ys.length=xs.length∧ys.set k x=xs.set k x∧NS W0 g ys W:=by
 rcases h with h | h
 ·
  exact ⟨xs,rfl,rfl,h⟩
 ·
  exact ⟨_,List.length_set,by simp,h⟩
theorem SSt.below (h:SSt W0 g xs k x W) (hb:Below W.heap.size W W'):SSt W0 g xs k x W':=h.imp (·.below hb) (·.below hb)
theorem SSt.drew (h:SSt W0 g xs k x W):SSt W0 g xs k x W.drew:=h.imp (·.drewN 1) (·.drewN 1)
theorem SSt.bel (h:SSt W0 g xs k x W):Below W0.heap.size W0 W:=h.elim (·.bel) (·.bel)
theorem SSt.cell (h:SSt W0 g xs k x W) (hk:k<xs.length):W.cell? ⟨g,k,none⟩=some (cellAt W g k):=by
 obtain ⟨ys,hl,_,h⟩:=h.ex
 unfold cellAt
 rw [h.cell (by omega)];rfl
theorem SSt.free (h:SSt W0 g xs k x W) (j:Nat):W.frozen? ⟨g,j,none⟩=false:=h.elim (·.free j) (·.free j)
theorem SSt.set (h:SSt W0 g xs k x W):NS W0 g (xs.set k x) (W.setCell ⟨g,k,none⟩ (UV x)):=by
 obtain ⟨ys,_,e,h⟩:=h.ex
 rw [← e];exact h.set k x
theorem SSt.nat (h:SSt W0 g xs k x W) {a:Option Addr} {c n:Nat} (hn:NatW W0 a c n):NatW W a c n:=hn.below h.bel
theorem SSt.old (h:SSt W0 g xs k x W) {b o:Nat} {v:Value} (hc:W0.cell? ⟨b,o,none⟩=some v):W.cell? ⟨b,o,none⟩=some v :=
 (h.bel.cell (p:=⟨b,o,none⟩) (World.block_lt_of_cell? _ _ hc)).trans hc
end
theorem heap3 (w:World) (o1 o2 o3:Obj):(((w.alloc o1).alloc o2).alloc o3).heap[w.heap.size]?=some o1∧(((w.alloc o1).alloc o2).alloc o3).heap[w.heap.size+1]?=some o2∧(((w.alloc o1).alloc o2).alloc o3).heap[w.heap.size+1+1]?=some o3:=by
 have h1:=heap_alloc_new w o1
 have h2:=heap_alloc_new (w.alloc o1) o2
 have h3:=heap_alloc_new ((w.alloc o1).alloc o2) o3
 rw [World.size_alloc] at h2
 rw [World.size_alloc,World.size_alloc] at h3
 exact ⟨((Below.heap_alloc _ _ _ (by simp;omega)).trans (Below.heap_alloc _ _ _ (by simp))).trans h1,(Below.heap_alloc _ _ _ (by simp)).trans h2,h3⟩
theorem madeW (m:Nat):madeCells (Value.cells (.int .u64 0)) m=((List.replicate m 0).map UV).toArray:=by
 apply Array.ext'
 apply List.ext_getElem
 ·
  simp [size_madeCells]
 ·
  intro i h1 h2
  simp [madeCells,Value.cells,Nat.mod_one]
def zeroC (n:Nat):Array Value:=((List.replicate n 0).map UV).toArray
theorem Tryz.info_words:(Tryz.prog.info? 164).map (fun i=>(i.zero,i.size,i.bytes))=some (some (.int .u64 0),1,8):=by kernel_rfl
theorem make_words (k:Int) (K:Nat) (hk:k=K) (hb:K≤35184372088832) (W:World):(Instr.makeSlice 22 (.int .i64 k) (.int .i64 k)).run Tryz.prog W=.ok (.slice (some ⟨W.heap.size,0,none⟩) K K) (W.alloc (.cells (zeroC K) 164)):=by
 subst hk
 obtain ⟨ti,hi,hz0,hz1,hz2⟩:=info_parts Tryz.info_words
 have:=run_make (P:=Tryz.prog) W 22 164 ti _ Tryz.underlying22 hi hz0 .i64 .i64 (K:Int) (K:Int) (by omega) (by omega) (by rw [hz2];omega) (by omega)
 rw [Int.toNat_natCast,hz1,Nat.mul_one,madeW] at this
 exact this
theorem nadd_lt (a b:Option Addr) (c d m n:Nat) (w:World) (ha:NatW w a c m) (hb:NatW w b d n) (hs:lenW n≤17592186044416) (hlt:lenW m<lenW n):Calls Tryz.prog 206 #[.agg #[.slice a (lenW m) c],.agg #[.slice b (lenW n) d]] w (RetN (m+n) w):=by
 have hle:lenW m≤lenW n:=by omega
 obtain ⟨M,hM⟩:∃ M,lenW n+1=M:=⟨_,rfl⟩
 have hfit:m+n<W64^M:=lt_pow_of (by rw [← hM];exact lenW_add (by omega) (by omega))
 have hMk:M≤17592186044417:=by omega
 have hMI:((lenW n:Nat):Int)+1=(M:Int):=by omega
 have hmk:=make_words ((lenW n:Nat)+1:Int) M hMI (by omega)
 obtain ⟨W0,hW0⟩:∃ W0,W0=((w.alloc (.cells #[.slice a (lenW m) c] 41)).alloc (.cells #[.slice b (lenW n) d] 41)).alloc (.cells #[.slice none 0 0] 41):=⟨_,rfl⟩
 have hb0:Below w.heap.size w W0:=by rw [hW0];exact (belowBox2 _ _ _).alloc (by simp;omega) _
 obtain ⟨e0,e1,e2⟩:=heap3 w (.cells #[.slice a (lenW m) c] 41) (.cells #[.slice b (lenW n) d] 41) (.cells #[.slice none 0 0] 41)
 rw [← hW0] at e0 e1 e2
 have x0:W0.cell? ⟨w.heap.size,0,none⟩=some (.slice a (lenW m) c):=cell_of_block e0 rfl
 have x1:W0.cell? ⟨w.heap.size+1,0,none⟩=some (.slice b (lenW n) d):=cell_of_block e1 rfl
 have x2:W0.cell? ⟨w.heap.size+1+1,0,none⟩=some (.slice none 0 0):=cell_of_block e2 rfl
 have y2:W0.frozen? ⟨w.heap.size+1+1,0,none⟩=false:=free_of_block e2
 have z0:W0.heap.size=w.heap.size+1+1+1:=by rw [hW0];simp
 have HWA:=Lib.hid (fun (xs:List Nat) (i x:Nat) (W:World) (k:Nat) (hN:SSt W0 (w.heap.size+1+1+1) xs i x W) (hk:k≤9223372036854775807)=>(word_any a c m k W (hN.nat (ha.below hb0)) hk).mono fun e w' (h:_∧_)=>(⟨h.1,hN.below h.2⟩:e=.returned (UV (wordOf m k))∧SSt W0 (w.heap.size+1+1+1) xs i x w'))
 have HWB:=Lib.hid (fun (xs:List Nat) (i x:Nat) (W:World) (k:Nat) (hN:SSt W0 (w.heap.size+1+1+1) xs i x W) (hk:k≤9223372036854775807)=>(word_any b d n k W (hN.nat (hb.below hb0)) hk).mono fun e w' (h:_∧_)=>(⟨h.1,hN.below h.2⟩:e=.returned (UV (wordOf n k))∧SSt W0 (w.heap.size+1+1+1) xs i x w'))
 have HKS:=Lib.hid (fun (xs:List Nat) (i x:Nat) (W:World) (hi:i<xs.length) (hN:SSt W0 (w.heap.size+1+1+1) xs i x W)=>(⟨hN.old x0,hN.old x1,hN.cell hi,hN.free i,hN⟩:W.cell? ⟨w.heap.size,0,none⟩=some (.slice a (lenW m) c)∧W.cell? ⟨w.heap.size+1,0,none⟩=some (.slice b (lenW n) d)∧W.cell? ⟨(w.heap.size+1+1+1),i,none⟩=some (cellAt W (w.heap.size+1+1+1) i)∧W.frozen? ⟨(w.heap.size+1+1+1),i,none⟩=false∧SSt W0 (w.heap.size+1+1+1) xs i x W))
 have HR:=Lib.hid (fun (xs:List Nat) (W:World) (hN:NS W0 (w.heap.size+1+1+1) xs W)=>(⟨hN.old x2,hN.oldFree (by rw [z0];omega) y2⟩:W.cell? ⟨w.heap.size+1+1,0,none⟩=some (.slice none 0 0)∧W.frozen? ⟨w.heap.size+1+1,0,none⟩=false))
 have HMADE:=Lib.hid (show NS W0 (w.heap.size+1+1+1) (List.replicate M 0) ((((w.alloc (.cells #[.slice a (lenW m) c] 41)).alloc (.cells #[.slice b (lenW n) d] 41)).alloc (.cells #[.slice none 0 0] 41)).alloc (.cells (zeroC M) 164)) by rw [← hW0,← z0];exact NS.made _ _)
 have HFIT:=Lib.hid hfit
 have HB0:=Lib.hid hb0
 have HMI:=Lib.hid hMI
 clear hW0 e0 e1 e2 hb0 x0 x1 x2 y2 z0 ha hb hM hfit hMI hle
 go_enter Tryz.func206,Tryz.ntmps206
 go_wp2_with fail
 go_loopw [6,19] (fun v6 v19 wr=>∃ k:Nat,k≤M∧v6=UV (carryA m n k)∧v19=.int .i64 k∧NS W0 (w.heap.size+1+1+1) (fillN (m+n) M k) wr) (fun _ v19 _=>M - (intOf v19).toNat)
 case atStart=>exact ⟨0,Nat.zero_le _,by rw [carryA_zero];rfl,rfl,by rw [fillN_zero];exact HMADE.out⟩
 case round =>
  obtain ⟨k,hk,rfl,rfl,hns⟩:=hrel
  by_cases hlt:k<M
  ·
   obtain ⟨x,hx⟩:∃ x,wordOf (m+n) k=x:=⟨_,rfl⟩
   have haw:=add_word m n k
   rw [hx] at haw
   have HADD:=Lib.hid (fun (W:World) (hN:SSt W0 (w.heap.size+1+1+1) (fillN (m+n) M k) k x W)=>(add_at (wordOf_lt m k) (wordOf_lt n k) (carryA_le m n k) haw.1 haw.2 W).mono fun e w' (h:_∧_)=>(⟨h.1,h.2▸hN⟩:e=.returned (.tuple #[UV x,UV (carryA m n (k+1))])∧SSt W0 (w.heap.size+1+1+1) (fillN (m+n) M k) k x w'))
   have hst:SSt W0 (w.heap.size+1+1+1) (fillN (m+n) M k) k x wr.drew:=SSt.drew (.inl hns)
   have HFL:=Lib.hid (show k<(fillN (m+n) M k).length by rw [fillN_len];exact hlt)
   have HFS:=Lib.hid (show (fillN (m+n) M k).set k x=fillN (m+n) M (k+1) by rw [← hx];exact fillN_set _ _ _)
   have i0:(0:Int)≤(k:Int):=by omega
   have i1:(k:Int)<(M:Int):=by omega
   have i2:k≤9223372036854775807:=by omega
   clear haw hx hns hmk
   go_upto_region 6 with fail
   go_region_held3 (fun W=>W.cell? ⟨w.heap.size,0,none⟩=some (.slice a (lenW m) c)∧W.cell? ⟨w.heap.size+1,0,none⟩=some (.slice b (lenW n) d)∧W.cell? ⟨w.heap.size+1+1+1,k,none⟩=some (cellAt W (w.heap.size+1+1+1) k)∧W.frozen? ⟨w.heap.size+1+1+1,k,none⟩=false∧SSt W0 (w.heap.size+1+1+1) (fillN (m+n) M k) k x W) (first | exact HKS.out _ _ _ _ HFL.out (by assumption) | exact HKS.out _ _ _ _ HFL.out (.inr (SSt.set (by go_split_ands;assumption)))) (first
    | (go_at_call_of 182 (Value.agg #[Value.slice a (lenW m) c]);refine (HWA.out _ _ _ _ _ (by go_split_ands;assumption) i2).mono ?_;rintro e w1 ⟨rfl,hs1⟩)
    | (go_at_call_of 182 (Value.agg #[Value.slice b (lenW n) d]);refine (HWB.out _ _ _ _ _ (by go_split_ands;assumption) i2).mono ?_;rintro e w2 ⟨rfl,hs2⟩)
    | (go_at_call 214;refine (HADD.out _ (by go_split_ands;assumption)).mono ?_;rintro e w3 ⟨rfl,hs3⟩))
   all_goals
    have hfin:=SSt.set hs3
    rw [HFS.out] at hfin
    have HFIN:=Lib.hid hfin
    clear hfin
    go_wp2
    go_roundw
    case rel=>exact ⟨k+1,by omega,rfl,by go_num,HFIN.out⟩
    case measure=>simp [intOf];omega
  ·
   obtain rfl:k=M:=by omega
   have hlen:=fillN_len (m+n) k k
   have hsl:=hns.sl (by rw [hlen];unfold maxLen;omega)
   rw [hlen] at hsl
   have HT:=Lib.hid (trim_any _ _ _ _ wr hsl (fillN_lt (m+n) k k) (fun _=>hns.words))
   rw [fillN_val HFIT.out] at HT
   obtain ⟨k0,f0⟩:=HR.out _ _ hns
   have HNS:=Lib.hid hns
   clear hsl hlen hns
   go_wp2_with fail
   refine HT.out.mono ?_
   rintro e w2 ⟨a2,c2,rfl,hn2,hb2⟩
   have k2:=((bcell hb2).1 _ _ (World.block_lt_of_cell? _ _ k0)).trans k0
   have f2:=((bcell hb2).2 _ _ (World.block_lt_of_cell? _ _ k0)).trans f0
   have HN:=Lib.hid hn2
   have HB2:=Lib.hid hb2
   clear hn2 hb2 HT k0 f0
   go_wp2_with fail
   refine bodyPost_ret (v:=.agg #[.slice a2 (lenW (m+n)) c2]) (by simp [results,Tryz.results206,go_sem,k2]) rfl ?_
   exact ⟨a2,c2,rfl,HN.out.set k2 (fun _=>by simp) _,((HB0.out.trans (HNS.out.bel.mono HB0.out.size)).trans (HB2.out.mono (HB0.out.trans (HNS.out.bel.mono HB0.out.size)).size)).setCell (by simp;omega) _⟩
theorem nadd_ge (a b:Option Addr) (c d m n:Nat) (w:World) (ha:NatW w a c m) (hb:NatW w b d n) (hs:lenW m≤17592186044416) (hlt:lenW n≤lenW m):Calls Tryz.prog 206 #[.agg #[.slice a (lenW m) c],.agg #[.slice b (lenW n) d]] w (RetN (m+n) w):=by
 have hle:lenW n≤lenW m:=by omega
 obtain ⟨M,hM⟩:∃ M,lenW m+1=M:=⟨_,rfl⟩
 have hfit:m+n<W64^M:=lt_pow_of (by rw [← hM];exact lenW_add (by omega) (by omega))
 have hMk:M≤17592186044417:=by omega
 have hMI:((lenW m:Nat):Int)+1=(M:Int):=by omega
 have hmk:=make_words ((lenW m:Nat)+1:Int) M hMI (by omega)
 obtain ⟨W0,hW0⟩:∃ W0,W0=((w.alloc (.cells #[.slice a (lenW m) c] 41)).alloc (.cells #[.slice b (lenW n) d] 41)).alloc (.cells #[.slice none 0 0] 41):=⟨_,rfl⟩
 have hb0:Below w.heap.size w W0:=by rw [hW0];exact (belowBox2 _ _ _).alloc (by simp;omega) _
 obtain ⟨e0,e1,e2⟩:=heap3 w (.cells #[.slice a (lenW m) c] 41) (.cells #[.slice b (lenW n) d] 41) (.cells #[.slice none 0 0] 41)
 rw [← hW0] at e0 e1 e2
 have x0:W0.cell? ⟨w.heap.size,0,none⟩=some (.slice a (lenW m) c):=cell_of_block e0 rfl
 have x1:W0.cell? ⟨w.heap.size+1,0,none⟩=some (.slice b (lenW n) d):=cell_of_block e1 rfl
 have x2:W0.cell? ⟨w.heap.size+1+1,0,none⟩=some (.slice none 0 0):=cell_of_block e2 rfl
 have y2:W0.frozen? ⟨w.heap.size+1+1,0,none⟩=false:=free_of_block e2
 have z0:W0.heap.size=w.heap.size+1+1+1:=by rw [hW0];simp
 have HWA:=Lib.hid (fun (xs:List Nat) (i x:Nat) (W:World) (k:Nat) (hN:SSt W0 (w.heap.size+1+1+1) xs i x W) (hk:k≤9223372036854775807)=>(word_any a c m k W (hN.nat (ha.below hb0)) hk).mono fun e w' (h:_∧_)=>(⟨h.1,hN.below h.2⟩:e=.returned (UV (wordOf m k))∧SSt W0 (w.heap.size+1+1+1) xs i x w'))
 have HWB:=Lib.hid (fun (xs:List Nat) (i x:Nat) (W:World) (k:Nat) (hN:SSt W0 (w.heap.size+1+1+1) xs i x W) (hk:k≤9223372036854775807)=>(word_any b d n k W (hN.nat (hb.below hb0)) hk).mono fun e w' (h:_∧_)=>(⟨h.1,hN.below h.2⟩:e=.returned (UV (wordOf n k))∧SSt W0 (w.heap.size+1+1+1) xs i x w'))
 have HKS:=Lib.hid (fun (xs:List Nat) (i x:Nat) (W:World) (hi:i<xs.length) (hN:SSt W0 (w.heap.size+1+1+1) xs i x W)=>(⟨hN.old x0,hN.old x1,hN.cell hi,hN.free i,hN⟩:W.cell? ⟨w.heap.size,0,none⟩=some (.slice a (lenW m) c)∧W.cell? ⟨w.heap.size+1,0,none⟩=some (.slice b (lenW n) d)∧W.cell? ⟨(w.heap.size+1+1+1),i,none⟩=some (cellAt W (w.heap.size+1+1+1) i)∧W.frozen? ⟨(w.heap.size+1+1+1),i,none⟩=false∧SSt W0 (w.heap.size+1+1+1) xs i x W))
 have HR:=Lib.hid (fun (xs:List Nat) (W:World) (hN:NS W0 (w.heap.size+1+1+1) xs W)=>(⟨hN.old x2,hN.oldFree (by rw [z0];omega) y2⟩:W.cell? ⟨w.heap.size+1+1,0,none⟩=some (.slice none 0 0)∧W.frozen? ⟨w.heap.size+1+1,0,none⟩=false))
 have HMADE:=Lib.hid (show NS W0 (w.heap.size+1+1+1) (List.replicate M 0) ((((w.alloc (.cells #[.slice a (lenW m) c] 41)).alloc (.cells #[.slice b (lenW n) d] 41)).alloc (.cells #[.slice none 0 0] 41)).alloc (.cells (zeroC M) 164)) by rw [← hW0,← z0];exact NS.made _ _)
 have HFIT:=Lib.hid hfit
 have HB0:=Lib.hid hb0
 have HMI:=Lib.hid hMI
 clear hW0 e0 e1 e2 hb0 x0 x1 x2 y2 z0 ha hb hM hfit hMI hle
 go_enter Tryz.func206,Tryz.ntmps206
 go_wp2_with fail
 go_loopw [6,19] (fun v6 v19 wr=>∃ k:Nat,k≤M∧v6=UV (carryA m n k)∧v19=.int .i64 k∧NS W0 (w.heap.size+1+1+1) (fillN (m+n) M k) wr) (fun _ v19 _=>M - (intOf v19).toNat)
 case atStart=>exact ⟨0,Nat.zero_le _,by rw [carryA_zero];rfl,rfl,by rw [fillN_zero];exact HMADE.out⟩
 case round =>
  obtain ⟨k,hk,rfl,rfl,hns⟩:=hrel
  by_cases hlt:k<M
  ·
   obtain ⟨x,hx⟩:∃ x,wordOf (m+n) k=x:=⟨_,rfl⟩
   have haw:=add_word m n k
   rw [hx] at haw
   have HADD:=Lib.hid (fun (W:World) (hN:SSt W0 (w.heap.size+1+1+1) (fillN (m+n) M k) k x W)=>(add_at (wordOf_lt m k) (wordOf_lt n k) (carryA_le m n k) haw.1 haw.2 W).mono fun e w' (h:_∧_)=>(⟨h.1,h.2▸hN⟩:e=.returned (.tuple #[UV x,UV (carryA m n (k+1))])∧SSt W0 (w.heap.size+1+1+1) (fillN (m+n) M k) k x w'))
   have hst:SSt W0 (w.heap.size+1+1+1) (fillN (m+n) M k) k x wr.drew:=SSt.drew (.inl hns)
   have HFL:=Lib.hid (show k<(fillN (m+n) M k).length by rw [fillN_len];exact hlt)
   have HFS:=Lib.hid (show (fillN (m+n) M k).set k x=fillN (m+n) M (k+1) by rw [← hx];exact fillN_set _ _ _)
   have i0:(0:Int)≤(k:Int):=by omega
   have i1:(k:Int)<(M:Int):=by omega
   have i2:k≤9223372036854775807:=by omega
   clear haw hx hns hmk
   go_upto_region 6 with fail
   go_region_held3 (fun W=>W.cell? ⟨w.heap.size,0,none⟩=some (.slice a (lenW m) c)∧W.cell? ⟨w.heap.size+1,0,none⟩=some (.slice b (lenW n) d)∧W.cell? ⟨w.heap.size+1+1+1,k,none⟩=some (cellAt W (w.heap.size+1+1+1) k)∧W.frozen? ⟨w.heap.size+1+1+1,k,none⟩=false∧SSt W0 (w.heap.size+1+1+1) (fillN (m+n) M k) k x W) (first | exact HKS.out _ _ _ _ HFL.out (by assumption) | exact HKS.out _ _ _ _ HFL.out (.inr (SSt.set (by go_split_ands;assumption)))) (first
    | (go_at_call_of 182 (Value.agg #[Value.slice a (lenW m) c]);refine (HWA.out _ _ _ _ _ (by go_split_ands;assumption) i2).mono ?_;rintro e w1 ⟨rfl,hs1⟩)
    | (go_at_call_of 182 (Value.agg #[Value.slice b (lenW n) d]);refine (HWB.out _ _ _ _ _ (by go_split_ands;assumption) i2).mono ?_;rintro e w2 ⟨rfl,hs2⟩)
    | (go_at_call 214;refine (HADD.out _ (by go_split_ands;assumption)).mono ?_;rintro e w3 ⟨rfl,hs3⟩))
   all_goals
    have hfin:=SSt.set hs3
    rw [HFS.out] at hfin
    have HFIN:=Lib.hid hfin
    clear hfin
    go_wp2
    go_roundw
    case rel=>exact ⟨k+1,by omega,rfl,by go_num,HFIN.out⟩
    case measure=>simp [intOf];omega
  ·
   obtain rfl:k=M:=by omega
   have hlen:=fillN_len (m+n) k k
   have hsl:=hns.sl (by rw [hlen];unfold maxLen;omega)
   rw [hlen] at hsl
   have HT:=Lib.hid (trim_any _ _ _ _ wr hsl (fillN_lt (m+n) k k) (fun _=>hns.words))
   rw [fillN_val HFIT.out] at HT
   obtain ⟨k0,f0⟩:=HR.out _ _ hns
   have HNS:=Lib.hid hns
   clear hsl hlen hns
   go_wp2_with fail
   refine HT.out.mono ?_
   rintro e w2 ⟨a2,c2,rfl,hn2,hb2⟩
   have k2:=((bcell hb2).1 _ _ (World.block_lt_of_cell? _ _ k0)).trans k0
   have f2:=((bcell hb2).2 _ _ (World.block_lt_of_cell? _ _ k0)).trans f0
   have HN:=Lib.hid hn2
   have HB2:=Lib.hid hb2
   clear hn2 hb2 HT k0 f0
   go_wp2_with fail
   refine bodyPost_ret (v:=.agg #[.slice a2 (lenW (m+n)) c2]) (by simp [results,Tryz.results206,go_sem,k2]) rfl ?_
   exact ⟨a2,c2,rfl,HN.out.set k2 (fun _=>by simp) _,((HB0.out.trans (HNS.out.bel.mono HB0.out.size)).trans (HB2.out.mono (HB0.out.trans (HNS.out.bel.mono HB0.out.size)).size)).setCell (by simp;omega) _⟩
theorem nadd_any (a b:Option Addr) (c d m n:Nat) (w:World) (ha:NatW w a c m) (hb:NatW w b d n) (h1:lenW m≤17592186044416) (h2:lenW n≤17592186044416):Calls Tryz.prog 206 #[.agg #[.slice a (lenW m) c],.agg #[.slice b (lenW n) d]] w (RetN (m+n) w):=by
 by_cases h:lenW m<lenW n
 ·
  exact nadd_lt a b c d m n w ha hb h2 h
 ·
  exact nadd_ge a b c d m n w ha hb h1 (by omega)
def RetNB (n:Nat) (ok:Bool) (w:World) (e:Ending) (w':World):Prop:=∃ a c,e=.returned (.tuple #[.agg #[.slice a (lenW n) c],.bool ok])∧NatW w' a c n∧Below w.heap.size w w'
theorem below3 (w:World) (o1 o2 o3:Obj):Below w.heap.size w (((w.alloc o1).alloc o2).alloc o3):=(((Below.refl w.heap.size w).alloc (Nat.le_refl _) _).alloc (by simp) _).alloc (by simp;omega) _
theorem cmpN_lt {m n:Nat} (h:m<n):cmpN m n=-1:=cmpI_lt (by omega)
theorem cmpN_ge {m n:Nat} (h:n≤m):0≤cmpN m n:=by
 unfold cmpN cmpI
 rw [if_neg (by omega)]
 split <;> omega
theorem sub_words (m n k:Nat) (h:n≤m):(wordOf m k+(W64 - wordOf n k)+(W64 - borrowS m n k)) % W64=wordOf (m - n) k∧lackW (wordOf m k) (wordOf n k) (borrowS m n k)=borrowS m n (k+1):=sub_word m n k h
theorem nsub_no (a b:Option Addr) (c d m n:Nat) (w:World) (ha:NatW w a c m) (hb:NatW w b d n) (h:m<n):Calls Tryz.prog 207 #[.agg #[.slice a (lenW m) c],.agg #[.slice b (lenW n) d]] w (RetNB 0 false w):=by
 have hb0:=below3 w (.cells #[.slice a (lenW m) c] 41) (.cells #[.slice b (lenW n) d] 41) (.cells #[.slice none 0 0] 41)
 have HC:=Lib.hid (cmpN_lt h▸ncmp_any a b c d m n _ (ha.below hb0) (hb.below hb0))
 have HB0:=Lib.hid hb0
 obtain ⟨e0,e1,e2⟩:=heap3 w (.cells #[.slice a (lenW m) c] 41) (.cells #[.slice b (lenW n) d] 41) (.cells #[.slice none 0 0] 41)
 have E2:=Lib.hid e2
 clear ha hb hb0 e0 e1 e2
 go_enter Tryz.func207,Tryz.ntmps207
 go_wp2_with fail
 refine HC.out.mono ?_
 rintro e w1 ⟨rfl,hb1⟩
 have k2:w1.cell? ⟨w.heap.size+1+1,0,none⟩=some (.slice none 0 0):=((bcell hb1).1 _ _ (lt_of_block E2.out)).trans (cell_of_block E2.out rfl)
 have f2:w1.frozen? ⟨w.heap.size+1+1,0,none⟩=false:=((bcell hb1).2 _ _ (lt_of_block E2.out)).trans (free_of_block E2.out)
 have HB1:=Lib.hid hb1
 clear hb1 HC
 go_wp2_with fail
 refine bodyPost_ret (v:=.tuple #[.agg #[.slice none 0 0],.bool false]) (by simp [results,Tryz.results207,go_sem,k2]) rfl ?_
 refine ⟨none,0,by rw [lenW_zero],NatW.zero _,(bthen HB0.out HB1.out).setCell (by simp;omega) _⟩
theorem nsub_any (a b:Option Addr) (c d m n:Nat) (w:World) (ha:NatW w a c m) (hb:NatW w b d n) (h:n≤m) (hs:lenW m≤17592186044416):Calls Tryz.prog 207 #[.agg #[.slice a (lenW m) c],.agg #[.slice b (lenW n) d]] w (RetNB (m - n) true w):=by
 have hb0:=below3 w (.cells #[.slice a (lenW m) c] 41) (.cells #[.slice b (lenW n) d] 41) (.cells #[.slice none 0 0] 41)
 obtain ⟨r,hr⟩:∃ r,cmpN m n=r:=⟨_,rfl⟩
 have hr0:¬ r<0:=by have:=cmpN_ge h;omega
 have HC:=Lib.hid (hr▸ncmp_any a b c d m n _ (ha.below hb0) (hb.below hb0))
 have hfit:m - n<W64^lenW m:=Nat.lt_of_le_of_lt (Nat.sub_le _ _) (lt_lenW m)
 have HFIT:=Lib.hid hfit
 have HLE:=Lib.hid h
 have HB0:=Lib.hid hb0
 have HA:=Lib.hid ha
 have HB:=Lib.hid hb
 obtain ⟨e0,e1,e2⟩:=heap3 w (.cells #[.slice a (lenW m) c] 41) (.cells #[.slice b (lenW n) d] 41) (.cells #[.slice none 0 0] 41)
 have E0:=Lib.hid e0
 have E1:=Lib.hid e1
 have E2:=Lib.hid e2
 obtain ⟨L,hL⟩:∃ L,L=lenW m:=⟨_,rfl⟩
 have hLs:L≤17592186044416:=by omega
 have hLn:lenW m≤L:=by omega
 have HL:=Lib.hid hL
 rw [← hL] at HC HFIT E0 E1 E2 HB0
 have hmk:=make_words (L:Int) L rfl (by omega)
 clear ha hb hb0 e0 e1 e2 hr hfit h
 rw [← hL]
 clear hL
 go_enter Tryz.func207,Tryz.ntmps207
 go_wp2_with fail
 refine HC.out.mono ?_
 rintro e w1 ⟨rfl,hb1⟩
 have x0:w1.cell? ⟨w.heap.size,0,none⟩=some (.slice a L c):=((bcell hb1).1 _ _ (lt_of_block E0.out)).trans (cell_of_block E0.out rfl)
 have x1:w1.cell? ⟨w.heap.size+1,0,none⟩=some (.slice b (lenW n) d):=((bcell hb1).1 _ _ (lt_of_block E1.out)).trans (cell_of_block E1.out rfl)
 have x2:w1.cell? ⟨w.heap.size+1+1,0,none⟩=some (.slice none 0 0):=((bcell hb1).1 _ _ (lt_of_block E2.out)).trans (cell_of_block E2.out rfl)
 have y2:w1.frozen? ⟨w.heap.size+1+1,0,none⟩=false:=((bcell hb1).2 _ _ (lt_of_block E2.out)).trans (free_of_block E2.out)
 have hbw:=bthen HB0.out hb1
 have z2:=World.block_lt_of_cell? _ _ x2
 have HWB:=Lib.hid (fun (xs:List Nat) (i x:Nat) (W:World) (k:Nat) (hN:SSt w1 w1.heap.size xs i x W) (hk:k≤9223372036854775807)=>(word_any b d n k W (hN.nat (HB.out.below hbw)) hk).mono fun e w' (h:_∧_)=>(⟨h.1,hN.below h.2⟩:e=.returned (UV (wordOf n k))∧SSt w1 w1.heap.size xs i x w'))
 have HKS:=Lib.hid (fun (xs:List Nat) (i x ba oa y:Nat) (W:World) (hy:w1.cell? ⟨ba,oa,none⟩=some (UV y)) (hi:i<xs.length) (hN:SSt w1 w1.heap.size xs i x W)=>(⟨hN.old x0,hN.old x1,hN.old hy,hN.cell hi,hN.free i,hN⟩:W.cell? ⟨w.heap.size,0,none⟩=some (.slice a L c)∧W.cell? ⟨w.heap.size+1,0,none⟩=some (.slice b (lenW n) d)∧W.cell? ⟨ba,oa,none⟩=some (UV y)∧W.cell? ⟨w1.heap.size,i,none⟩=some (cellAt W w1.heap.size i)∧W.frozen? ⟨w1.heap.size,i,none⟩=false∧SSt w1 w1.heap.size xs i x W))
 have HR:=Lib.hid (fun (xs:List Nat) (W:World) (hN:NS w1 w1.heap.size xs W)=>(⟨hN.old x2,hN.oldFree z2 y2⟩:W.cell? ⟨w.heap.size+1+1,0,none⟩=some (.slice none 0 0)∧W.frozen? ⟨w.heap.size+1+1,0,none⟩=false))
 have HMADE:=Lib.hid (show NS w1 w1.heap.size (List.replicate L 0) (w1.alloc (.cells (zeroC L) 164)) from NS.made _ _)
 have HX:=Lib.hid (HA.out.below hbw)
 have HBW:=Lib.hid hbw
 have HZ2:=Lib.hid z2
 clear y2 z2 hbw hb1 HC E0 E1 E2
 go_wp2_with fail
 go_loopw [7,20] (fun v7 v20 wr=>∃ k:Nat,k≤L∧v7=UV (borrowS m n k)∧v20=.int .i64 k∧NS w1 w1.heap.size (fillN (m - n) L k) wr) (fun _ v20 _=>L - (intOf v20).toNat)
 case atStart=>exact ⟨0,Nat.zero_le _,by rw [borrowS_zero];rfl,rfl,by rw [fillN_zero];exact HMADE.out⟩
 case round =>
  obtain ⟨k,hk,rfl,rfl,hns⟩:=hrel
  by_cases hlt:k<L
  ·
   obtain ⟨x,hx⟩:∃ x,wordOf (m - n) k=x:=⟨_,rfl⟩
   have haw:=sub_words m n k HLE.out
   rw [hx] at haw
   have HSUB:=Lib.hid (fun (W:World) (hN:SSt w1 w1.heap.size (fillN (m - n) L k) k x W)=>(sub_at (wordOf_lt m k) (wordOf_lt n k) (borrowS_le m n k) haw.1 haw.2 W).mono fun e w' (h:_∧_)=>(⟨h.1,h.2▸hN⟩:e=.returned (.tuple #[UV x,UV (borrowS m n (k+1))])∧SSt w1 w1.heap.size (fillN (m - n) L k) k x w'))
   obtain ⟨ba,oa,rfl,hba,hy⟩:=HX.out.word (show k<lenW m by rw [← HL.out];exact hlt)
   have hst:SSt w1 w1.heap.size (fillN (m - n) L k) k x wr.drew:=SSt.drew (.inl hns)
   have HFL:=Lib.hid (show k<(fillN (m - n) L k).length by rw [fillN_len];exact hlt)
   have HFS:=Lib.hid (show (fillN (m - n) L k).set k x=fillN (m - n) L (k+1) by rw [← hx];exact fillN_set _ _ _)
   have i0:(0:Int)≤(k:Int):=by omega
   have i1:(k:Int)<(L:Int):=by omega
   have i2:k≤9223372036854775807:=by omega
   have HY:=Lib.hid hy
   clear haw hx hns hmk hy x0 x1 x2
   go_upto_region 8 with fail
   go_region_held3 (fun W=>W.cell? ⟨w.heap.size,0,none⟩=some (.slice (some ⟨ba,oa,none⟩) L c)∧W.cell? ⟨w.heap.size+1,0,none⟩=some (.slice b (lenW n) d)∧W.cell? ⟨ba,oa+k,none⟩=some (UV (wordOf m k))∧W.cell? ⟨w1.heap.size,k,none⟩=some (cellAt W w1.heap.size k)∧W.frozen? ⟨w1.heap.size,k,none⟩=false∧SSt w1 w1.heap.size (fillN (m - n) L k) k x W) (first | exact HKS.out _ _ _ _ _ _ _ HY.out HFL.out (by assumption) | exact HKS.out _ _ _ _ _ _ _ HY.out HFL.out (.inr (SSt.set (by go_split_ands;assumption)))) (first
    | (go_at_call 182;refine (HWB.out _ _ _ _ _ (by go_split_ands;assumption) i2).mono ?_;rintro e w2 ⟨rfl,hs2⟩)
    | (go_at_call 220;refine (HSUB.out _ (by go_split_ands;assumption)).mono ?_;rintro e w3 ⟨rfl,hs3⟩))
   all_goals
    have hfin:=SSt.set hs3
    rw [HFS.out] at hfin
    have HFIN:=Lib.hid hfin
    clear hfin
    go_wp2
    go_roundw
    case rel=>exact ⟨k+1,by omega,rfl,by go_num,HFIN.out⟩
    case measure=>simp [intOf];omega
  ·
   obtain rfl:k=L:=by omega
   have hlen:=fillN_len (m - n) k k
   have hsl:=hns.sl (by rw [hlen];unfold maxLen;omega)
   rw [hlen] at hsl
   have HT:=Lib.hid (trim_any _ _ _ _ wr hsl (fillN_lt (m - n) k k) (fun _=>hns.words))
   rw [fillN_val HFIT.out] at HT
   obtain ⟨k0,f0⟩:=HR.out _ _ hns
   have HNS:=Lib.hid hns
   clear hsl hlen hns x0 x1 x2
   go_wp2_with fail
   refine HT.out.mono ?_
   rintro e w2 ⟨a2,c2,rfl,hn2,hb2⟩
   have k2:=((bcell hb2).1 _ _ (World.block_lt_of_cell? _ _ k0)).trans k0
   have f2:=((bcell hb2).2 _ _ (World.block_lt_of_cell? _ _ k0)).trans f0
   have HN:=Lib.hid hn2
   have HB2:=Lib.hid hb2
   clear hn2 hb2 HT k0 f0
   go_wp2_with fail
   refine bodyPost_ret (v:=.tuple #[.agg #[.slice a2 (lenW (m - n)) c2],.bool true]) (by simp [results,Tryz.results207,go_sem,k2]) rfl ?_
   exact ⟨a2,c2,rfl,HN.out.set k2 (fun _=>by simp) _,((HBW.out.trans (HNS.out.bel.mono HBW.out.size)).trans (HB2.out.mono (HBW.out.trans (HNS.out.bel.mono HBW.out.size)).size)).setCell (by simp;omega) _⟩
structure Bk where
 p:Nat
 T:TypeId
 cs:List Value
structure Nm where
 a:Option Addr
 c:Nat
 n:Nat
structure BS (w:World) (bs:List Bk) (ns:List Nm) (W:World):Prop where
 bel:Below w.heap.size w W
 box:∀ b,b∈bs→W.heap[b.p]?=some (.cells b.cs.toArray b.T (0,0))∧w.heap.size≤b.p
 nod:bs.Pairwise fun x y=>x.p≠y.p
 num:∀ x,x∈ns→NatW W x.a x.c x.n
section
variable {w W W' : World} {bs : List Bk} {ns : List Nm}
theorem BS.start (w:World):BS w [] [] w:=⟨Below.refl _ _,fun _ h=>(by cases h),List.Pairwise.nil,fun _ h=>(by cases h)⟩
theorem BS.begin (ns:List Nm) (h:∀ x,x∈ns→NatW w x.a x.c x.n):BS w [] ns w:=⟨Below.refl _ _,fun _ h=>(by cases h),List.Pairwise.nil,h⟩
theorem BS.call (h:BS w bs ns W) (hb:Below W.heap.size W W'):BS w bs ns W' :=
 ⟨bthen h.bel hb,fun b hx=>⟨(hb.block _ (lt_of_block (h.box b hx).1)).trans (h.box b hx).1,(h.box b hx).2⟩,h.nod,fun x hx=>(h.num x hx).below hb⟩
theorem BS.drewN (h:BS w bs ns W) (k:Nat):BS w bs ns (W.drewN k):=⟨belowDrawn h.bel _,h.box,h.nod,fun x hx=>(h.num x hx).drewN k⟩
theorem BS.drew (h:BS w bs ns W):BS w bs ns W.drew:=h.drewN 1
theorem BS.alloc (h:BS w bs ns W) {p:Nat} (hp:W.heap.size=p) (T:TypeId) (cs:List Value) {o:Obj} (ho:o=.cells cs.toArray T (0,0)):BS w (bs++[⟨p,T,cs⟩]) ns (W.alloc o):=by
 subst hp ho
 have h':=h.call (belowBox W (.cells cs.toArray T (0,0)))
 refine ⟨h'.bel,fun b hx=>?_,?_,h'.num⟩
 ·
  rcases List.mem_append.1 hx with hx | hx
  ·
   exact h'.box b hx
  ·
   rw [List.mem_singleton.1 hx]
   exact ⟨heap_alloc_new _ _,h.bel.size⟩
 ·
  refine List.pairwise_append.2 ⟨h.nod,List.pairwise_singleton _ _,fun x hx y hy=>?_⟩
  rw [List.mem_singleton.1 hy]
  have:=lt_of_block (h.box x hx).1
  show x.p≠W.heap.size
  omega
theorem BS.got (h:BS w bs ns W) {a:Option Addr} {c n:Nat} (hn:NatW W a c n):BS w bs (ns++[⟨a,c,n⟩]) W :=
 ⟨h.bel,h.box,h.nod,fun x hx=>by
  rcases List.mem_append.1 hx with hx | hx
  ·
   exact h.num x hx
  ·
   rw [List.mem_singleton.1 hx];exact hn⟩
theorem BS.at (h:BS w bs ns W) (i:Nat) {b:Bk} (hi:bs[i]?=some b):W.heap[b.p]?=some (.cells b.cs.toArray b.T (0,0)):=(h.box b (List.mem_of_getElem? hi)).1
theorem BS.cell (h:BS w bs ns W) (i j:Nat) {b:Bk} {v:Value} (hi:bs[i]?=some b) (hj:b.cs[j]?=some v):W.cell? ⟨b.p,j,none⟩=some v:=cell_of_block (h.at i hi) (by simpa using hj)
theorem BS.free (h:BS w bs ns W) (i j:Nat) {b:Bk} (hi:bs[i]?=some b):W.frozen? ⟨b.p,j,none⟩=false:=free_of_block (h.at i hi)
theorem BS.lt (h:BS w bs ns W) (i:Nat) {b:Bk} (hi:bs[i]?=some b):b.p<W.heap.size:=lt_of_block (h.at i hi)
theorem BS.ge (h:BS w bs ns W) (i:Nat) {b:Bk} (hi:bs[i]?=some b):w.heap.size≤b.p:=(h.box b (List.mem_of_getElem? hi)).2
theorem BS.nat (h:BS w bs ns W) (i:Nat) {x:Nm} (hi:ns[i]?=some x):NatW W x.a x.c x.n:=h.num x (List.mem_of_getElem? hi)
theorem BS.set (h:BS w bs ns W) (i j:Nat) {b:Bk} {u0:Value} (hi:bs[i]?=some b) (hj:b.cs[j]?=some u0) (h0:∀ x,u0≠.int .u64 x) (v:Value):BS w (bs.set i ⟨b.p,b.T,b.cs.set j v⟩) ns (W.setCell ⟨b.p,j,none⟩ v):=by
 have hil:i<bs.length:=(List.getElem?_eq_some_iff.1 hi).1
 have hbe:bs[i]=b:=(List.getElem?_eq_some_iff.1 hi).2
 have hat:=h.at i hi
 have hp:=List.pairwise_iff_getElem.1 h.nod
 have hne:∀ (k:Nat) (hk:k<bs.length),k≠i→bs[k].p≠b.p:=fun k hk hki=>by
  rcases Nat.lt_or_gt_of_ne hki with h1 | h1
  ·
   have:=hp k i hk hil h1;rwa [hbe] at this
  ·
   have:=hp i k hil hk h1;rw [hbe] at this;exact fun e=>this e.symm
 refine ⟨h.bel.setCell (h.ge i hi) _,fun x hx=>?_,?_,fun x hx=>(h.num x hx).set (h.cell i j hi hj) h0 v⟩
 ·
  obtain ⟨k,hk,rfl⟩:=List.mem_iff_getElem.1 hx
  rw [List.length_set] at hk
  rw [List.getElem_set]
  split
  ·
   refine ⟨?_,show w.heap.size≤b.p from h.ge i hi⟩
   rw [heap_setCell_same W b.p j _ _ _ hat]
   simp
  ·
   rename_i hki
   have hb:=h.box _ (List.getElem_mem hk)
   exact ⟨(Below.heap_setCell _ _ _ _ (hne k hk fun e=>hki e.symm)).trans hb.1,hb.2⟩
 ·
  refine List.pairwise_iff_getElem.2 fun x y hx hy hxy=>?_
  rw [List.length_set] at hx hy
  rw [List.getElem_set,List.getElem_set]
  split
  ·
   rename_i e;split
   ·
    omega
   ·
    rename_i e2;exact fun e3=>hne y hy (fun e4=>e2 e4.symm) e3.symm
  ·
   rename_i e;split
   ·
    exact hne x hx fun e4=>e e4.symm
   ·
    exact hp x y hx hy hxy
theorem BS.only (h:BS w bs ns W) {bs':List Bk} {ns':List Nm} (hb:bs'.Sublist bs) (hn:∀ x,x∈ns'→x∈ns):BS w bs' ns' W :=
 ⟨h.bel,fun b hx=>h.box b (hb.subset hx),h.nod.sublist hb,fun x hx=>h.num x (hn x hx)⟩
theorem BS.swap2 {x y:Bk} (h:BS w (bs++[x,y]) ns W):BS w (bs++[y,x]) ns W :=
 ⟨h.bel,fun b hb=>h.box b (by simp at hb ⊢;rcases hb with hb | hb | hb <;> simp [hb]),by
  have:=List.pairwise_append.1 h.nod
  refine List.pairwise_append.2 ⟨this.1,?_,fun p hp q hq=>this.2.2 p hp q (by simp at hq ⊢;rcases hq with hq | hq <;> simp [hq])⟩
  have h2:=(List.pairwise_cons.1 this.2.1).1 y (by simp)
  refine List.pairwise_cons.2 ⟨fun z hz=>?_,List.pairwise_singleton _ _⟩
  rw [List.mem_singleton.1 hz];exact fun e=>h2 e.symm,h.num⟩
theorem BS.ret {n:Nat} (h:BS w bs ns W) (i:Nat) {x:Nm} (hi:ns[i]?=some x) (hx:x.n=n) {e:Ending} (he:e=.returned (.agg #[.slice x.a (lenW n) x.c])):RetN n w e W:=by
 subst hx;exact ⟨x.a,x.c,he,h.nat i hi,h.bel⟩
end
theorem BS.cf1 {w W:World} {bs:List Bk} {ns:List Nm} (h:BS w bs ns W) (i:Nat) {p:Nat} {T:TypeId} {v0:Value} {l:List Value} (hi:bs[i]?=some ⟨p,T,v0::l⟩):W.cell? ⟨p,0,none⟩=some v0∧W.frozen? ⟨p,0,none⟩=false :=
 ⟨h.cell i 0 hi rfl,h.free i 0 hi⟩
theorem BS.cf2 {w W:World} {bs:List Bk} {ns:List Nm} (h:BS w bs ns W) (i:Nat) {p:Nat} {T:TypeId} {v0 v1:Value} {l:List Value} (hi:bs[i]?=some ⟨p,T,v0::v1::l⟩):W.cell? ⟨p,0,none⟩=some v0∧W.frozen? ⟨p,0,none⟩=false∧W.cell? ⟨p,1,none⟩=some v1∧W.frozen? ⟨p,1,none⟩=false :=
 ⟨h.cell i 0 hi rfl,h.free i 0 hi,h.cell i 1 hi rfl,h.free i 1 hi⟩
theorem BS.cf3 {w W:World} {bs:List Bk} {ns:List Nm} (h:BS w bs ns W) (i:Nat) {p:Nat} {T:TypeId} {v0 v1 v2:Value} {l:List Value} (hi:bs[i]?=some ⟨p,T,v0::v1::v2::l⟩):W.cell? ⟨p,0,none⟩=some v0∧W.frozen? ⟨p,0,none⟩=false∧W.cell? ⟨p,1,none⟩=some v1∧W.frozen? ⟨p,1,none⟩=false∧W.cell? ⟨p,2,none⟩=some v2∧W.frozen? ⟨p,2,none⟩=false :=
 ⟨h.cell i 0 hi rfl,h.free i 0 hi,h.cell i 1 hi rfl,h.free i 1 hi,h.cell i 2 hi rfl,h.free i 2 hi⟩
theorem BS.cf4 {w W:World} {bs:List Bk} {ns:List Nm} (h:BS w bs ns W) (i:Nat) {p:Nat} {T:TypeId} {v0 v1 v2 v3:Value} {l:List Value} (hi:bs[i]?=some ⟨p,T,v0::v1::v2::v3::l⟩):W.cell? ⟨p,0,none⟩=some v0∧W.frozen? ⟨p,0,none⟩=false∧W.cell? ⟨p,1,none⟩=some v1∧W.frozen? ⟨p,1,none⟩=false∧W.cell? ⟨p,2,none⟩=some v2∧W.frozen? ⟨p,2,none⟩=false∧W.cell? ⟨p,3,none⟩=some v3∧W.frozen? ⟨p,3,none⟩=false :=
 ⟨h.cell i 0 hi rfl,h.free i 0 hi,h.cell i 1 hi rfl,h.free i 1 hi,h.cell i 2 hi rfl,h.free i 2 hi,h.cell i 3 hi rfl,h.free i 3 hi⟩
theorem BS.cf5 {w W:World} {bs:List Bk} {ns:List Nm} (h:BS w bs ns W) (i:Nat) {p:Nat} {T:TypeId} {v0 v1 v2 v3 v4:Value} {l:List Value} (hi:bs[i]?=some ⟨p,T,v0::v1::v2::v3::v4::l⟩):W.cell? ⟨p,0,none⟩=some v0∧W.frozen? ⟨p,0,none⟩=false∧W.cell? ⟨p,1,none⟩=some v1∧W.frozen? ⟨p,1,none⟩=false∧W.cell? ⟨p,2,none⟩=some v2∧W.frozen? ⟨p,2,none⟩=false∧W.cell? ⟨p,3,none⟩=some v3∧W.frozen? ⟨p,3,none⟩=false∧W.cell? ⟨p,4,none⟩=some v4∧W.frozen? ⟨p,4,none⟩=false :=
 ⟨h.cell i 0 hi rfl,h.free i 0 hi,h.cell i 1 hi rfl,h.free i 1 hi,h.cell i 2 hi rfl,h.free i 2 hi,h.cell i 3 hi rfl,h.free i 3 hi,h.cell i 4 hi rfl,h.free i 4 hi⟩
theorem BS.cf8 {w W:World} {bs:List Bk} {ns:List Nm} (h:BS w bs ns W) (i:Nat) {p:Nat} {T:TypeId} {v0 v1 v2 v3 v4 v5 v6 v7:Value} {l:List Value} (hi:bs[i]?=some ⟨p,T,v0::v1::v2::v3::v4::v5::v6::v7::l⟩):W.cell? ⟨p,0,none⟩=some v0∧W.frozen? ⟨p,0,none⟩=false∧W.cell? ⟨p,1,none⟩=some v1∧W.frozen? ⟨p,1,none⟩=false∧W.cell? ⟨p,2,none⟩=some v2∧W.frozen? ⟨p,2,none⟩=false∧W.cell? ⟨p,3,none⟩=some v3∧W.frozen? ⟨p,3,none⟩=false∧W.cell? ⟨p,4,none⟩=some v4∧W.frozen? ⟨p,4,none⟩=false∧W.cell? ⟨p,5,none⟩=some v5∧W.frozen? ⟨p,5,none⟩=false∧W.cell? ⟨p,6,none⟩=some v6∧W.frozen? ⟨p,6,none⟩=false∧W.cell? ⟨p,7,none⟩=some v7∧W.frozen? ⟨p,7,none⟩=false :=
 ⟨h.cell i 0 hi rfl,h.free i 0 hi,h.cell i 1 hi rfl,h.free i 1 hi,h.cell i 2 hi rfl,h.free i 2 hi,h.cell i 3 hi rfl,h.free i 3 hi,h.cell i 4 hi rfl,h.free i 4 hi,h.cell i 5 hi rfl,h.free i 5 hi,h.cell i 6 hi rfl,h.free i 6 hi,h.cell i 7 hi rfl,h.free i 7 hi⟩
theorem BS.cf9 {w W:World} {bs:List Bk} {ns:List Nm} (h:BS w bs ns W) (i:Nat) {p:Nat} {T:TypeId} {v0 v1 v2 v3 v4 v5 v6 v7 v8:Value} {l:List Value} (hi:bs[i]?=some ⟨p,T,v0::v1::v2::v3::v4::v5::v6::v7::v8::l⟩):W.cell? ⟨p,0,none⟩=some v0∧W.frozen? ⟨p,0,none⟩=false∧W.cell? ⟨p,1,none⟩=some v1∧W.frozen? ⟨p,1,none⟩=false∧W.cell? ⟨p,2,none⟩=some v2∧W.frozen? ⟨p,2,none⟩=false∧W.cell? ⟨p,3,none⟩=some v3∧W.frozen? ⟨p,3,none⟩=false∧W.cell? ⟨p,4,none⟩=some v4∧W.frozen? ⟨p,4,none⟩=false∧W.cell? ⟨p,5,none⟩=some v5∧W.frozen? ⟨p,5,none⟩=false∧W.cell? ⟨p,6,none⟩=some v6∧W.frozen? ⟨p,6,none⟩=false∧W.cell? ⟨p,7,none⟩=some v7∧W.frozen? ⟨p,7,none⟩=false∧W.cell? ⟨p,8,none⟩=some v8∧W.frozen? ⟨p,8,none⟩=false :=
 ⟨h.cell i 0 hi rfl,h.free i 0 hi,h.cell i 1 hi rfl,h.free i 1 hi,h.cell i 2 hi rfl,h.free i 2 hi,h.cell i 3 hi rfl,h.free i 3 hi,h.cell i 4 hi rfl,h.free i 4 hi,h.cell i 5 hi rfl,h.free i 5 hi,h.cell i 6 hi rfl,h.free i 6 hi,h.cell i 7 hi rfl,h.free i 7 hi,h.cell i 8 hi rfl,h.free i 8 hi⟩
theorem BS.cf13 {w W:World} {bs:List Bk} {ns:List Nm} (h:BS w bs ns W) (i:Nat) {p:Nat} {T:TypeId} {v0 v1 v2 v3 v4 v5 v6 v7 v8 v9 v10 v11 v12:Value} {l:List Value} (hi:bs[i]?=some ⟨p,T,v0::v1::v2::v3::v4::v5::v6::v7::v8::v9::v10::v11::v12::l⟩):W.cell? ⟨p,0,none⟩=some v0∧W.frozen? ⟨p,0,none⟩=false∧W.cell? ⟨p,1,none⟩=some v1∧W.frozen? ⟨p,1,none⟩=false∧W.cell? ⟨p,2,none⟩=some v2∧W.frozen? ⟨p,2,none⟩=false∧W.cell? ⟨p,3,none⟩=some v3∧W.frozen? ⟨p,3,none⟩=false∧W.cell? ⟨p,4,none⟩=some v4∧W.frozen? ⟨p,4,none⟩=false∧W.cell? ⟨p,5,none⟩=some v5∧W.frozen? ⟨p,5,none⟩=false∧W.cell? ⟨p,6,none⟩=some v6∧W.frozen? ⟨p,6,none⟩=false∧W.cell? ⟨p,7,none⟩=some v7∧W.frozen? ⟨p,7,none⟩=false∧W.cell? ⟨p,8,none⟩=some v8∧W.frozen? ⟨p,8,none⟩=false∧W.cell? ⟨p,9,none⟩=some v9∧W.frozen? ⟨p,9,none⟩=false∧W.cell? ⟨p,10,none⟩=some v10∧W.frozen? ⟨p,10,none⟩=false∧W.cell? ⟨p,11,none⟩=some v11∧W.frozen? ⟨p,11,none⟩=false∧W.cell? ⟨p,12,none⟩=some v12∧W.frozen? ⟨p,12,none⟩=false :=
 ⟨h.cell i 0 hi rfl,h.free i 0 hi,h.cell i 1 hi rfl,h.free i 1 hi,h.cell i 2 hi rfl,h.free i 2 hi,h.cell i 3 hi rfl,h.free i 3 hi,h.cell i 4 hi rfl,h.free i 4 hi,h.cell i 5 hi rfl,h.free i 5 hi,h.cell i 6 hi rfl,h.free i 6 hi,h.cell i 7 hi rfl,h.free i 7 hi,h.cell i 8 hi rfl,h.free i 8 hi,h.cell i 9 hi rfl,h.free i 9 hi,h.cell i 10 hi rfl,h.free i 10 hi,h.cell i 11 hi rfl,h.free i 11 hi,h.cell i 12 hi rfl,h.free i 12 hi⟩
theorem BS.cg2 {w W:World} {bs:List Bk} {ns:List Nm} (h:BS w bs ns W) (i:Nat) {p:Nat} {T:TypeId} {v0 v1:Value} {l:List Value} (hi:bs[i]?=some ⟨p,T,v0::v1::l⟩):W.cell? ⟨p,0,none⟩=some v0∧W.cell? ⟨p,1,none⟩=some v1 :=
 ⟨h.cell i 0 hi rfl,h.cell i 1 hi rfl⟩
theorem BS.cg3 {w W:World} {bs:List Bk} {ns:List Nm} (h:BS w bs ns W) (i:Nat) {p:Nat} {T:TypeId} {v0 v1 v2:Value} {l:List Value} (hi:bs[i]?=some ⟨p,T,v0::v1::v2::l⟩):W.cell? ⟨p,0,none⟩=some v0∧W.cell? ⟨p,1,none⟩=some v1∧W.cell? ⟨p,2,none⟩=some v2 :=
 ⟨h.cell i 0 hi rfl,h.cell i 1 hi rfl,h.cell i 2 hi rfl⟩
structure Mk (v d:Nat):Prop
theorem cT (v d:Nat) {p:Prop} (h:Mk v d→p):p:=h ⟨⟩
theorem BS.ins {w W:World} {bs:List Bk} {ns:List Nm} {x:Bk} (k:Nat) (h:BS w (bs++[x]) ns W):BS w (bs.take k++x::bs.drop k) ns W:=by
 have hp:(bs.take k++x::bs.drop k).Perm (bs++[x]):=by
  have h1:(bs.take k++x::bs.drop k).Perm (x::(bs.take k++bs.drop k)):=List.perm_middle
  rw [List.take_append_drop] at h1
  exact h1.trans (List.perm_append_singleton x bs).symm
 exact ⟨h.bel,fun b hb=>h.box b (hp.mem_iff.1 hb),(hp.pairwise_iff (fun {a b} e=>fun e2=>e e2.symm)).2 h.nod,h.num⟩
end Go.Proofs.YtmhainidincjhaaGreatDoor
namespace Go.Proofs.YtmhainidincjhaaGreatDoor
open Go.RowKit Go.Extern.Stop Go.Stop Go.Extern
theorem qH {p:Prop} (h:p):Hid p:=Lib.hid h
theorem qz1 {P:Program} {md:Region.Mode} {ops:Array Oper} {Q:Exit→Act→World→Prop} {S:World→Prop} {fuel:Nat} {listed:Array Bool} {a:Act} {w:World} {o0:Oper} (d:Nat) {v:Nat} (_:Mk v d) (i0 v0 d0:Nat) (h0:∀ K:Act→World→Prop,Shut (∀ a w,S w→(S w→wpAnyH P md ops Q S fuel (listed.setIfInBounds i0 true) a w)→K a w)→Mk v0 d0→if Region.wanted o0 (yielded ops a.tmps)=true then Oper.wp P o0 a w K Q else K (a.put o0.dst undef) w) (hr:Region.ready md ops listed=[i0]:=by kernel_rfl) (e0:ops[i0]?=some o0:=by rfl):wpAnyH P md ops Q S (fuel+1) listed a w :=
 wpAnyH_ready hr (by simp) (AllReadyH.cons e0 (fun K hK=>h0 K hK ⟨⟩) AllReadyH.nil)
theorem qz2 {P:Program} {md:Region.Mode} {ops:Array Oper} {Q:Exit→Act→World→Prop} {S:World→Prop} {fuel:Nat} {listed:Array Bool} {a:Act} {w:World} {o0 o1:Oper} (d:Nat) {v:Nat} (_:Mk v d) (i0 v0 d0:Nat) (i1 v1 d1:Nat) (h0:∀ K:Act→World→Prop,Shut (∀ a w,S w→(S w→wpAnyH P md ops Q S fuel (listed.setIfInBounds i0 true) a w)→K a w)→Mk v0 d0→if Region.wanted o0 (yielded ops a.tmps)=true then Oper.wp P o0 a w K Q else K (a.put o0.dst undef) w) (h1:∀ K:Act→World→Prop,Shut (∀ a w,S w→(S w→wpAnyH P md ops Q S fuel (listed.setIfInBounds i1 true) a w)→K a w)→Mk v1 d1→if Region.wanted o1 (yielded ops a.tmps)=true then Oper.wp P o1 a w K Q else K (a.put o1.dst undef) w) (hr:Region.ready md ops listed=[i0,i1]:=by kernel_rfl) (e0:ops[i0]?=some o0:=by rfl) (e1:ops[i1]?=some o1:=by rfl):wpAnyH P md ops Q S (fuel+1) listed a w :=
 wpAnyH_ready hr (by simp) (AllReadyH.cons e0 (fun K hK=>h0 K hK ⟨⟩) (AllReadyH.cons e1 (fun K hK=>h1 K hK ⟨⟩) AllReadyH.nil))
theorem qz3 {P:Program} {md:Region.Mode} {ops:Array Oper} {Q:Exit→Act→World→Prop} {S:World→Prop} {fuel:Nat} {listed:Array Bool} {a:Act} {w:World} {o0 o1 o2:Oper} (d:Nat) {v:Nat} (_:Mk v d) (i0 v0 d0:Nat) (i1 v1 d1:Nat) (i2 v2 d2:Nat) (h0:∀ K:Act→World→Prop,Shut (∀ a w,S w→(S w→wpAnyH P md ops Q S fuel (listed.setIfInBounds i0 true) a w)→K a w)→Mk v0 d0→if Region.wanted o0 (yielded ops a.tmps)=true then Oper.wp P o0 a w K Q else K (a.put o0.dst undef) w) (h1:∀ K:Act→World→Prop,Shut (∀ a w,S w→(S w→wpAnyH P md ops Q S fuel (listed.setIfInBounds i1 true) a w)→K a w)→Mk v1 d1→if Region.wanted o1 (yielded ops a.tmps)=true then Oper.wp P o1 a w K Q else K (a.put o1.dst undef) w) (h2:∀ K:Act→World→Prop,Shut (∀ a w,S w→(S w→wpAnyH P md ops Q S fuel (listed.setIfInBounds i2 true) a w)→K a w)→Mk v2 d2→if Region.wanted o2 (yielded ops a.tmps)=true then Oper.wp P o2 a w K Q else K (a.put o2.dst undef) w) (hr:Region.ready md ops listed=[i0,i1,i2]:=by kernel_rfl) (e0:ops[i0]?=some o0:=by rfl) (e1:ops[i1]?=some o1:=by rfl) (e2:ops[i2]?=some o2:=by rfl):wpAnyH P md ops Q S (fuel+1) listed a w :=
 wpAnyH_ready hr (by simp) (AllReadyH.cons e0 (fun K hK=>h0 K hK ⟨⟩) (AllReadyH.cons e1 (fun K hK=>h1 K hK ⟨⟩) (AllReadyH.cons e2 (fun K hK=>h2 K hK ⟨⟩) AllReadyH.nil)))
theorem cz3 {w:World} {b:Nat} {T:TypeId} {v0 v1 v2:Value} {l:List Value} (h:w.heap[b]?=some (.cells (v0::v1::v2::l).toArray T (0,0))):w.cell? ⟨b,0,none⟩=some v0∧w.cell? ⟨b,1,none⟩=some v1∧w.cell? ⟨b,2,none⟩=some v2:=by
 refine ⟨cell_of_block (j:=0) h ?_,cell_of_block (j:=1) h ?_,cell_of_block (j:=2) h ?_⟩ <;> simp
theorem cz8 {w:World} {b:Nat} {T:TypeId} {v0 v1 v2 v3 v4 v5 v6 v7:Value} {l:List Value} (h:w.heap[b]?=some (.cells (v0::v1::v2::v3::v4::v5::v6::v7::l).toArray T (0,0))):w.cell? ⟨b,0,none⟩=some v0∧w.cell? ⟨b,1,none⟩=some v1∧w.cell? ⟨b,2,none⟩=some v2∧w.cell? ⟨b,3,none⟩=some v3∧w.cell? ⟨b,4,none⟩=some v4∧w.cell? ⟨b,5,none⟩=some v5∧w.cell? ⟨b,6,none⟩=some v6∧w.cell? ⟨b,7,none⟩=some v7:=by
 refine ⟨cell_of_block (j:=0) h ?_,cell_of_block (j:=1) h ?_,cell_of_block (j:=2) h ?_,cell_of_block (j:=3) h ?_,cell_of_block (j:=4) h ?_,cell_of_block (j:=5) h ?_,cell_of_block (j:=6) h ?_,cell_of_block (j:=7) h ?_⟩ <;> simp
theorem cz13 {w:World} {b:Nat} {T:TypeId} {v0 v1 v2 v3 v4 v5 v6 v7 v8 v9 v10 v11 v12:Value} {l:List Value} (h:w.heap[b]?=some (.cells (v0::v1::v2::v3::v4::v5::v6::v7::v8::v9::v10::v11::v12::l).toArray T (0,0))):w.cell? ⟨b,0,none⟩=some v0∧w.cell? ⟨b,1,none⟩=some v1∧w.cell? ⟨b,2,none⟩=some v2∧w.cell? ⟨b,3,none⟩=some v3∧w.cell? ⟨b,4,none⟩=some v4∧w.cell? ⟨b,5,none⟩=some v5∧w.cell? ⟨b,6,none⟩=some v6∧w.cell? ⟨b,7,none⟩=some v7∧w.cell? ⟨b,8,none⟩=some v8∧w.cell? ⟨b,9,none⟩=some v9∧w.cell? ⟨b,10,none⟩=some v10∧w.cell? ⟨b,11,none⟩=some v11∧w.cell? ⟨b,12,none⟩=some v12:=by
 refine ⟨cell_of_block (j:=0) h ?_,cell_of_block (j:=1) h ?_,cell_of_block (j:=2) h ?_,cell_of_block (j:=3) h ?_,cell_of_block (j:=4) h ?_,cell_of_block (j:=5) h ?_,cell_of_block (j:=6) h ?_,cell_of_block (j:=7) h ?_,cell_of_block (j:=8) h ?_,cell_of_block (j:=9) h ?_,cell_of_block (j:=10) h ?_,cell_of_block (j:=11) h ?_,cell_of_block (j:=12) h ?_⟩ <;> simp
def z20:List Value:=[.int .i64 0,.string ⟨#[]⟩,.int .i64 0,.int .i64 0,.int .i64 0,.bool false,.slice none 0 0,.slice none 0 0,.slice none 0 0,.bool false,.slice none 0 0,.slice none 0 0,.bool false,.slice none 0 0,.slice none 0 0,.bool false,.bool false,.int .i64 0,.int .i64 0,.int .i64 0]
end Go.Proofs.YtmhainidincjhaaGreatDoor
namespace Go.Proofs.YtmhainidincjhaaGreatDoor
def fnL (M:Nat) (f:Nat→Nat):List Nat:=(List.range M).map f
theorem fnL_len (M:Nat) (f:Nat→Nat):(fnL M f).length=M:=by simp [fnL]
theorem fnL_at {M j:Nat} (f:Nat→Nat) (h:j<M):(fnL M f)[j]?=some (f j):=by
 unfold fnL;rw [List.getElem?_map,List.getElem?_range h];rfl
theorem fnL_get {M j:Nat} (f:Nat→Nat) (h:j<(fnL M f).length):(fnL M f)[j]=f j:=by
 have:=fnL_at f (show j<M by rw [fnL_len] at h;exact h)
 rw [List.getElem?_eq_getElem h] at this
 exact Option.some.inj this
theorem fnL_congr {M:Nat} {f g:Nat→Nat} (h:∀ j,j<M→f j=g j):fnL M f=fnL M g:=by
 unfold fnL
 exact List.map_congr_left fun j hj=>h j (List.mem_range.1 hj)
theorem fnL_set {M t v:Nat} {f g:Nat→Nat} (ht:t<M) (hv:g t=v) (hg:∀ j,j<M→j≠t→f j=g j):(fnL M f).set t v=fnL M g:=by
 apply List.ext_getElem?
 intro j
 rcases Nat.lt_or_ge j M with hj | hj
 ·
  rw [fnL_at g hj]
  by_cases e:t=j
  ·
   subst e;rw [List.getElem?_set_self (by rw [fnL_len];exact ht),hv]
  ·
   rw [List.getElem?_set_ne e,fnL_at f hj,hg j hj (fun h=>e h.symm)]
 ·
  rw [List.getElem?_eq_none (by rw [List.length_set,fnL_len];exact hj),List.getElem?_eq_none (by rw [fnL_len];exact hj)]
theorem fnL_lt {M:Nat} {f:Nat→Nat} (h:∀ j,f j<W64):∀ x∈fnL M f,x<W64:=fun x hx=>by
 obtain ⟨j,_,rfl⟩:=List.mem_map.1 hx;exact h j
theorem fnL_val {M n:Nat} (h:n<W64^M):val (fnL M (wordOf n))=n:=by
 show val (wordsN n M)=n
 rw [val_wordsN,Nat.mod_eq_of_lt h]
theorem fnL_zero (M:Nat):fnL M (wordOf 0)=List.replicate M 0:=by
 apply List.ext_getElem?
 intro j
 rcases Nat.lt_or_ge j M with hj | hj
 ·
  rw [fnL_at _ hj,wordOf_zero,List.getElem?_replicate,if_pos hj]
 ·
  rw [List.getElem?_eq_none (by rw [fnL_len];exact hj),List.getElem?_eq_none (by simpa using hj)]
def mixF (R Q t j:Nat):Nat:=if j<t then wordOf R j else wordOf Q j
theorem mixF_at (R Q t:Nat):mixF R Q t t=wordOf Q t:=by unfold mixF;rw [if_neg (by omega)]
theorem mixF_next {R R' Q t:Nat} (h:∀ j,j<t→wordOf R' j=wordOf R j):∀ j,j≠t→mixF R Q t j=mixF R' Q (t+1) j:=fun j hj=>by
 unfold mixF
 by_cases h1:j<t
 ·
  rw [if_pos h1,if_pos (by omega),h j h1]
 ·
  rw [if_neg h1,if_neg (by omega)]
theorem mixF_here (R Q t:Nat):mixF R Q (t+1) t=wordOf R t:=by unfold mixF;rw [if_pos (by omega)]
def rowQ (a b i:Nat):Nat:=a % W64^i*b
def rowR (a b i k:Nat):Nat:=rowQ a b i+wordOf a i*(b % W64^k)*W64^i
def rowC (a b i k:Nat):Nat:=carryP (rowQ a b i / W64^i) (wordOf a i) b k
theorem rowQ_zero (a b:Nat):rowQ a b 0=0:=by unfold rowQ;rw [Nat.pow_zero,Nat.mod_one,Nat.zero_mul]
theorem rowR_zero (a b i:Nat):rowR a b i 0=rowQ a b i:=by unfold rowR;rw [Nat.pow_zero,Nat.mod_one,Nat.mul_zero,Nat.zero_mul,Nat.add_zero]
theorem rowC_zero (a b i:Nat):rowC a b i 0=0:=carryP_zero _ _ _
theorem rowC_lt (a b i k:Nat):rowC a b i k<W64:=carryP_lt _ _ _ _ (wordOf_lt _ _)
theorem rowR_div (a b i k:Nat):rowR a b i k / W64^i=rowQ a b i / W64^i+wordOf a i*(b % W64^k):=by
 unfold rowR
 rw [Nat.add_mul_div_right _ _ (W64_pos i)]
theorem row_step (a b i k:Nat):(wordOf a i*wordOf b k+wordOf (rowQ a b i) (i+k)+rowC a b i k) % W64=wordOf (rowR a b i (k+1)) (i+k)∧(wordOf a i*wordOf b k+wordOf (rowQ a b i) (i+k)+rowC a b i k) / W64=rowC a b i (k+1):=by
 have h:=row_word (rowQ a b i / W64^i) (wordOf a i) b k
 rw [word_down] at h
 refine ⟨?_,h.2⟩
 rw [← word_down (rowR a b i (k+1)),rowR_div]
 exact h.1
theorem row_keep (a b i k j:Nat) (h:j<i+k):wordOf (rowR a b i (k+1)) j=wordOf (rowR a b i k) j:=by
 rcases Nat.lt_or_ge j i with hj | hj
 ·
  unfold rowR
  rw [far_word _ _ _ _ hj,far_word _ _ _ _ hj]
 ·
  obtain ⟨d,rfl⟩:∃ d,j=i+d:=⟨j - i,by omega⟩
  rw [← word_down,← word_down,rowR_div,rowR_div]
  exact row_below _ _ _ _ _ (by omega)
theorem rowQ_next {a b i lb:Nat} (hb:b<W64^lb):rowR a b i lb=rowQ a b (i+1):=by
 unfold rowR rowQ
 rw [Nat.mod_eq_of_lt hb,mod_succ,Nat.add_mul]
 congr 1
 rw [Nat.mul_comm (W64^i),Nat.mul_right_comm]
theorem rowQ_lt {a b i lb:Nat} (hb:b<W64^lb):rowQ a b i<W64^(i+lb):=by
 unfold rowQ
 rw [Nat.pow_add]
 exact Nat.mul_lt_mul'' (Nat.mod_lt _ (W64_pos i)) hb
theorem row_over {a b i lb:Nat} (hb:b<W64^lb):rowC a b i lb=wordOf (rowR a b i lb) (i+lb):=by
 rw [← word_down,rowR_div,Nat.mod_eq_of_lt hb]
 have hq:rowQ a b i / W64^i<W64^lb:=by
  refine Nat.div_lt_of_lt_mul ?_
  rw [← Nat.pow_add];exact rowQ_lt hb
 have hc:=rowC_lt a b i lb
 unfold rowC carryP at hc ⊢
 rw [Nat.mod_eq_of_lt hq,Nat.mod_eq_of_lt hb] at hc ⊢
 unfold wordOf
 unfold wordOf at hc
 exact (Nat.mod_eq_of_lt hc).symm
theorem row_done {a b i lb M:Nat} (hb:b<W64^lb):∀ j,j<M→mixF (rowR a b i lb) (rowQ a b i) (i+lb+1) j=wordOf (rowQ a b (i+1)) j:=fun j _=>by
 unfold mixF
 rw [rowQ_next hb]
 split
 ·
  rfl
 ·
  rw [wordOf_big (Nat.lt_of_lt_of_le (rowQ_lt hb) (pow_mono (by omega))),wordOf_big (Nat.lt_of_lt_of_le (rowQ_lt hb) (pow_mono (by omega)))]
theorem rowQ_all {a b la:Nat} (ha:a<W64^la):rowQ a b la=a*b:=by unfold rowQ;rw [Nat.mod_eq_of_lt ha]
end Go.Proofs.YtmhainidincjhaaGreatDoor
namespace Go.Proofs.YtmhainidincjhaaGreatDoor
open Go.RowKit
theorem left_ret {u next y q:Nat} {qi:Int} (y1 y0:Nat) (hY:y=y1*4294967296+y0) (hq:(u*4294967296+next) / (y1*4294967296+y0)=q) (hi:qi=(q:Int)) (h0:0<y) (hw:y≤W64) :
  Ending.returned (.tuple #[.int .u64 qi,.int .u64 (IntKind.u64.wrap (IntKind.u64.wrap (IntKind.u64.wrap ((u:Int)*4294967296)+(next:Int)) - IntKind.u64.wrap (qi*(y:Int))))])=.returned (.tuple #[UV ((u*4294967296+next) / y),UV ((u*4294967296+next) % y)]):=by
 rw [← hY] at hq
 refine ret_u64 (by rw [hq];exact hi) ?_
 have h1:q*y+(u*4294967296+next) % y=u*4294967296+next:=by
  rw [← hq,Nat.mul_comm];exact Nat.div_add_mod _ _
 have h2:(u*4294967296+next) % y<y:=Nat.mod_lt _ h0
 rw [hi,u64_mul]
 generalize (u*4294967296+next) % y=R at *
 generalize q*y=p at *
 clear hq hi
 simp only [IntKind.wrap_u64]
 unfold W64 at *
 omega
theorem digit_any (u next y:Nat) (hy:y<W64) (htop:9223372036854775808≤y) (hu:u<y) (hn:next<4294967296) (w:World) :
  Calls Tryz.prog 202 #[UV u,UV next,UV y] w fun e w'=>e=.returned (.tuple #[UV ((u*4294967296+next) / y),UV ((u*4294967296+next) % y)])∧Below w.heap.size w w':=by
 obtain ⟨y1,e1⟩:∃ y1,y / 4294967296=y1:=⟨_,rfl⟩
 obtain ⟨y0,e0⟩:∃ y0,y % 4294967296=y0:=⟨_,rfl⟩
 have E1:(y:Int) / 4294967296=(y1:Int):=by omega
 have E0:bits .and .u64 (y:Int) 4294967295=(y0:Int):=by rw [u64_low y hy,e0]
 have b1:y1<4294967296:=by unfold W64 at hy;omega
 have b0:y0<4294967296:=by omega
 have t1:2147483648≤y1:=by omega
 have hY:y=y1*4294967296+y0:=by omega
 have HY:=qH hY
 have hu1:u<y1*4294967296+y0:=by omega
 have n1:¬ (y1:Int)=0:=by omega
 obtain ⟨q0,hq0⟩:∃ q,u / y1=q:=⟨_,rfl⟩
 obtain ⟨r0,hr0⟩:∃ r,u % y1=r:=⟨_,rfl⟩
 have T0:=qH (hq0▸hr0▸Trial.start (y0:=y0) (u:=u) (by omega) (by omega) hn:Trial 4294967296 y1 y0 u next q0 r0)
 have hr1:r0<y1:=hr0▸Nat.mod_lt _ (by omega)
 have Q0:(u:Int) / (y1:Int)=(q0:Int):=by rw [← hq0];rfl
 have R0:(u:Int) % (y1:Int)=(r0:Int):=by rw [← hr0];rfl
 have hq64:q0<W64:=by
  have:=Nat.div_le_self u y1
  omega
 clear e1 e0 hY hq0 hr0
 go_enter Tryz.func202,Tryz.ntmps202
 go_wp2
 go_quiet (fail)
 go_wp2
 go_loopw [10,11] (fun v z wr=>∃ q r:Nat,v=UV q∧z=UV r∧Trial 4294967296 y1 y0 u next q r∧r<4294967296∧q<W64∧Below w.heap.size w wr) (fun v _ _=>(intOf v).toNat)
 case atStart=>exact ⟨q0,r0,congrArg (Value.int .u64) (by rw [IntKind.wrap_u64];unfold W64 at hq64;omega),congrArg (Value.int .u64) R0,T0.out,by omega,hq64,belowDrawn (Below.refl _ _) _⟩
 case round =>
  obtain ⟨q,r,rfl,rfl,hT,hr,hq,hb⟩:=hrel
  unfold W64 at hq
  have HB:=qH hb
  have HT:=qH hT
  clear hb hT E1 E0 Q0 R0
  by_cases h1:4294967296≤q
  ·
   obtain ⟨hq1,hT2⟩:=HT.out.less (by omega) hu1 hn (.inl h1)
   have HT2:=qH hT2
   clear hT2
   by_cases h3:4294967296≤r+y1
   ·
    have hqe:=qH (HT2.out.over (by omega) hu1 b0 h3)
    go_wp2
    go_ret2
    exact ⟨left_ret y1 y0 HY.out hqe.out (by omega) (by omega) (by unfold W64 at hy ⊢;omega),HB.out⟩
   ·
    go_wp2
    go_roundw
    case rel=>exact ⟨q - 1,r+y1,congrArg (Value.int .u64) (by omega),congrArg (Value.int .u64) (by omega),HT2.out,by omega,by unfold W64;omega,HB.out⟩
    case measure=>simp [intOf];omega
  ·
   have hP:q*y0≤18446744065119617025:=Nat.mul_le_mul (show q≤4294967295 by omega) (show y0≤4294967295 by omega)
   have EP:IntKind.u64.wrap ((q:Int)*(y0:Int))=((q*y0:Nat):Int):=by
    rw [u64_mul,Nat.mod_eq_of_lt (by unfold W64;omega)]
   obtain ⟨Pv,hPe⟩:∃ Pv,q*y0=Pv:=⟨_,rfl⟩
   rw [hPe] at EP hP
   have HPe:=qH hPe
   clear hPe
   by_cases h2:r*4294967296+next<Pv
   ·
    obtain ⟨hq1,hT2⟩:=HT.out.less (by omega) hu1 hn (.inr (by rw [HPe.out];exact h2))
    have HT2:=qH hT2
    clear hT2
    by_cases h3:4294967296≤r+y1
    ·
     have hqe:=qH (HT2.out.over (by omega) hu1 b0 h3)
     go_wp2
     go_ret2
     exact ⟨left_ret y1 y0 HY.out hqe.out (by omega) (by omega) (by unfold W64 at hy ⊢;omega),HB.out⟩
    ·
     go_wp2
     go_roundw
     case rel=>exact ⟨q - 1,r+y1,congrArg (Value.int .u64) (by omega),congrArg (Value.int .u64) (by omega),HT2.out,by omega,by unfold W64;omega,HB.out⟩
     case measure=>simp [intOf];omega
   ·
    have hqe:=qH (HT.out.done (by omega) (by rw [HPe.out];omega))
    go_wp2
    go_ret2
    exact ⟨left_ret y1 y0 HY.out hqe.out rfl (by omega) (by unfold W64 at hy ⊢;omega),HB.out⟩
end Go.Proofs.YtmhainidincjhaaGreatDoor
namespace Go.Proofs.YtmhainidincjhaaGreatDoor
theorem W64_split {s:Nat} (hs:s≤64):W64=2^(64 - s)*2^s:=by
 rw [← Nat.pow_add,show 64 - s+s=64 by omega]
theorem up_over {lo s:Nat} (hs:s≤64):lo*2^s / W64=lo / 2^(64 - s):=by
 rw [W64_split hs,Nat.mul_div_mul_right _ _ (Nat.two_pow_pos s)]
theorem up_both {hi lo s:Nat} (hs:s≤64):(hi*W64+lo)*2^s=(hi*2^s+lo / 2^(64 - s))*W64+lo*2^s % W64:=by
 have h:=Nat.div_add_mod (lo*2^s) W64
 rw [up_over hs] at h
 rw [Nat.add_mul,Nat.add_mul,Nat.mul_right_comm,Nat.mul_comm (lo / 2^(64 - s)) W64,Nat.add_assoc,h]
theorem up_or {hi lo s:Nat} (hs:s≤64) (hl:lo<W64) (hh:hi*2^s<W64) :
  bits .or .u64 (IntKind.u64.wrap ((hi:Int)*2^s)) ((lo:Int) / 2^(64 - s))=((hi*2^s+lo / 2^(64 - s):Nat):Int):=by
 have hb:lo / 2^(64 - s)<2^s:=Nat.div_lt_of_lt_mul (by rw [← W64_split hs];exact hl)
 have hb2:lo / 2^(64 - s)<W64:=Nat.lt_of_le_of_lt (Nat.div_le_self _ _) hl
 rw [u64_shl,Nat.mod_eq_of_lt hh,u64_shr,u64_or _ _ hh hb2,Nat.mul_comm hi,Nat.two_pow_add_eq_or_of_lt hb]
end Go.Proofs.YtmhainidincjhaaGreatDoor
namespace Go.Proofs.YtmhainidincjhaaGreatDoor
open Go.RowKit
theorem div_no (hi lo y:Nat) (h:y≤hi) (w:World) :
  Calls Tryz.prog 183 #[UV hi,UV lo,UV y] w fun e w'=>e=.returned (.tuple #[UV 0,UV 0,.bool false])∧w=w':=by
 go_enter Tryz.func183,Tryz.ntmps183
 go_wp2
 go_ret3
 exact ⟨rfl,rfl⟩
theorem ret_div {a b a' b':Int} {o:Value} (h:a=a') (k:b=b'):Ending.returned (.tuple #[.int .u64 a,.int .u64 b,o])=.returned (.tuple #[.int .u64 a',.int .u64 b',o]):=by rw [h,k]
theorem digit_at {u next y q r:Nat} (hy:y<W64) (htop:9223372036854775808≤y) (hu:u<y) (hn:next<4294967296) (hq:(u*4294967296+next) / y=q) (hr:(u*4294967296+next) % y=r) (w:World) :
  Calls Tryz.prog 202 #[UV u,UV next,UV y] w fun e w'=>e=.returned (.tuple #[UV q,UV r])∧Below w.heap.size w w':=by
 subst hq hr;exact digit_any u next y hy htop hu hn w
theorem div_any (hi lo y:Nat) (hl:lo<W64) (hy:y<W64) (hh:hi<y) (w:World) :
  Calls Tryz.prog 183 #[UV hi,UV lo,UV y] w fun e w'=>e=.returned (.tuple #[UV ((hi*W64+lo) / y),UV ((hi*W64+lo) % y),.bool true])∧Below w.heap.size w w':=by
 have k:=qH (lead_any y hy w)
 have hX:bitLen y≤64:=bitLen_le (by unfold W64 at hy;exact hy)
 have htop:=lead_top (show y≠0 by omega) hy
 obtain ⟨s,hs⟩:∃ s,64 - bitLen y=s:=⟨_,rfl⟩
 rw [hs] at k htop
 have hs64:s≤64:=by omega
 clear hs hX
 have hhi:hi*2^s<W64:=Nat.lt_of_le_of_lt (Nat.mul_le_mul_right _ (by omega:hi≤y)) htop.2
 have EY:IntKind.u64.wrap ((y:Int)*2^s)=((y*2^s:Nat):Int):=by rw [u64_shl,Nat.mod_eq_of_lt htop.2]
 have EH:=up_or hs64 hl hhi
 have EL:=u64_shl lo s
 have hB:=up_both (hi:=hi) (lo:=lo) hs64
 have hlo2:lo*2^s % W64<W64:=Nat.mod_lt _ (by unfold W64;omega)
 have hlt:(hi*W64+lo)*2^s<y*2^s*W64:=by
  rw [Nat.mul_right_comm]
  refine Nat.mul_lt_mul_of_pos_right ?_ (Nat.two_pow_pos s)
  have:(hi+1)*W64≤y*W64:=Nat.mul_le_mul_right _ hh
  rw [Nat.add_mul,Nat.one_mul] at this
  omega
 obtain ⟨hD,hM⟩:=shifted (hi*W64+lo) y (2^s) (Nat.two_pow_pos s)
 have hpos:0<y*2^s:=by omega
 generalize hy2:y*2^s=y2 at *
 generalize hh2:hi*2^s+lo / 2^(64 - s)=h2 at *
 generalize hl2:lo*2^s % W64=l2 at *
 obtain ⟨n1,hn1⟩:∃ n,l2 / 4294967296=n:=⟨_,rfl⟩
 obtain ⟨n0,hn0⟩:∃ n,l2 % 4294967296=n:=⟨_,rfl⟩
 have E1:(l2:Int) / 4294967296=(n1:Int):=by omega
 have E0:bits .and .u64 (l2:Int) 4294967295=(n0:Int):=by rw [u64_low l2 hlo2,hn0]
 have hu2:h2<y2:=by
  rw [hB] at hlt
  rcases Nat.lt_or_ge h2 y2 with h | h
  ·
   exact h
  ·
   have h':y2*W64≤h2*W64:=Nat.mul_le_mul_right _ h
   omega
 obtain ⟨q1,hq1⟩:∃ q,(h2*4294967296+n1) / y2=q:=⟨_,rfl⟩
 obtain ⟨r1,hr1⟩:∃ r,(h2*4294967296+n1) % y2=r:=⟨_,rfl⟩
 obtain ⟨q0,hq0⟩:∃ q,(r1*4294967296+n0) / y2=q:=⟨_,rfl⟩
 obtain ⟨r0,hr0⟩:∃ r,(r1*4294967296+n0) % y2=r:=⟨_,rfl⟩
 have hT:=two_digits 4294967296 h2 n1 n0 y2 hpos
 rw [hr1,hq1,hq0,hr0] at hT
 have hN:(h2*4294967296+n1)*4294967296+n0=(hi*W64+lo)*2^s:=by
  rw [hB];unfold W64;omega
 rw [hN,hD,hM] at hT
 have b1:n1<4294967296:=by unfold W64 at hlo2;omega
 have b0:n0<4294967296:=by omega
 have hr1l:r1<y2:=hr1▸Nat.mod_lt _ hpos
 have k1:=qH (fun w=>digit_at htop.2 htop.1 hu2 b1 hq1 hr1 w)
 have k2:=qH (fun w=>digit_at htop.2 htop.1 hr1l b0 hq0 hr0 w)
 have hQl:(hi*W64+lo) / y<W64:=Nat.div_lt_of_lt_mul (by
  have:(hi+1)*W64≤y*W64:=Nat.mul_le_mul_right _ hh
  rw [Nat.add_mul,Nat.one_mul] at this
  omega)
 have HT:=qH hT
 clear hT hN hB hD hM hq1 hr1 hq0 hr0 hn1 hn0 hy2 hh2 hl2 hlt
 go_enter Tryz.func183,Tryz.ntmps183
 go_wp2_with fail
 refine k.out.mono ?_
 rintro e w1 ⟨rfl,hb⟩
 go_wp2_with fail
 go_quiet (fail)
 go_wp2_with fail
 refine (k1.out _).mono ?_
 rintro e w2 ⟨rfl,hb2⟩
 go_wp2_with fail
 refine (k2.out _).mono ?_
 rintro e w3 ⟨rfl,hb3⟩
 go_wp2_with fail
 go_quiet (fail)
 go_wp2_with fail
 go_ret3
 have hQ:=HT.out.1
 have hR:=HT.out.2
 have v1:IntKind.u64.wrap (IntKind.u64.wrap ((q1:Int)*4294967296)+(q0:Int))=(((hi*W64+lo) / y:Nat):Int):=by
  rw [hQ] at hQl ⊢
  simp only [IntKind.wrap_u64]
  unfold W64 at hQl
  omega
 have v2:(r0:Int) / 2^s=(((hi*W64+lo) % y:Nat):Int):=by
  rw [u64_shr,← hR,Nat.mul_div_cancel _ (Nat.two_pow_pos s)]
 have B1:=fun m=>belowDrawn hb m
 have B2:=(B1 _).trans (hb2.mono (B1 _).size)
 have B3:=B2.trans (hb3.mono B2.size)
 refine ⟨?_,belowDrawn B3 _⟩
 exact ret_div v1 v2
def RetQW (q r:Nat) (ok:Bool) (w:World) (e:Ending) (w':World):Prop:=∃ a c,e=.returned (.tuple #[.agg #[.slice a (lenW q) c],UV r,.bool ok])∧NatW w' a c q∧Below w.heap.size w w'
theorem word_shift (n k:Nat):n / W64^k=n / W64^(k+1)*W64+wordOf n k:=by
 unfold wordOf
 rw [Nat.pow_succ,← Nat.div_div_eq_div_mul]
 have:=Nat.mod_add_div (n / W64^k) W64
 rw [Nat.mul_comm] at this
 omega
theorem div_step (n k x:Nat) (hx:0<x):(n / W64^(k+1) % x*W64+wordOf n k) / x=wordOf (n / x) k∧(n / W64^(k+1) % x*W64+wordOf n k) % x=n / W64^k % x:=by
 have e:=word_shift n k
 have e2:n / W64^k=n / W64^(k+1) / x*W64*x+(n / W64^(k+1) % x*W64+wordOf n k):=by
  rw [e]
  conv=>lhs;rw [← Nat.mod_add_div (n / W64^(k+1)) x]
  rw [Nat.add_mul,Nat.mul_comm x,Nat.mul_right_comm]
  omega
 constructor
 ·
  have h1:n / x / W64^k=n / W64^(k+1) / x*W64+(n / W64^(k+1) % x*W64+wordOf n k) / x:=by
   rw [Nat.div_div_eq_div_mul,Nat.mul_comm x,← Nat.div_div_eq_div_mul]
   conv=>lhs;rw [e2]
   rw [Nat.mul_comm _ x,Nat.mul_add_div hx]
  have hlt:(n / W64^(k+1) % x*W64+wordOf n k) / x<W64:=by
   refine Nat.div_lt_of_lt_mul ?_
   have a1:=Nat.mod_lt (n / W64^(k+1)) hx
   have a2:=wordOf_lt n k
   have a3:(n / W64^(k+1) % x+1)*W64≤x*W64:=Nat.mul_le_mul_right _ a1
   rw [Nat.add_mul,Nat.one_mul] at a3
   omega
  unfold wordOf at h1 hlt ⊢
  rw [h1]
  rw [Nat.mul_add_mod_self_right]
  exact (Nat.mod_eq_of_lt hlt).symm
 ·
  conv=>rhs;rw [e2]
  rw [Nat.mul_comm _ x,Nat.mul_add_mod]
theorem fnL_cell0 {W0 W:World} {g M:Nat} {f:Nat→Nat} (h:NS W0 g (fnL M f) W) {t:Nat} (ht:t<M):W.cell? ⟨g,t,none⟩=some (UV (f t)):=by
 rw [h.cell (show t<(fnL M f).length by rw [fnL_len];exact ht),fnL_get]
def qF (q k j:Nat):Nat:=if k≤j then wordOf q j else 0
theorem qF_lt (q k j:Nat):qF q k j<W64:=by unfold qF;split;exact wordOf_lt _ _;unfold W64;omega
theorem byWord_any (a:Option Addr) (c n x:Nat) (w:World) (ha:NatW w a c n) (hx:0<x) (hw:x<W64) (hs:lenW n≤17592186044416):Calls Tryz.prog 142 #[.agg #[.slice a (lenW n) c],UV x] w (RetQW (n / x) (n % x) true w):=by
 have hL:=fun W=>nlen_any a c n W
 have hWd:=fun W k (h:NatW W a c n) hk=>word_any a c n k W h hk
 have hmn:=lt_lenW n
 obtain ⟨M,hM⟩:∃ M,lenW n=M:=⟨_,rfl⟩
 rw [hM] at hL hWd hmn hs ⊢
 have hbs:=((BS.begin [⟨a,c,n⟩] (fun y hy=>by rw [List.mem_singleton.1 hy];exact ha)).alloc (p:=w.heap.size) rfl 41 [.slice a M c] rfl).alloc (p:=w.heap.size+1) (by simp) 41 [.slice none 0 0] rfl
 have hfit:n / x<W64^M:=Nat.lt_of_le_of_lt (Nat.div_le_self _ _) hmn
 have hx0:((x:Int)==0)=false:=beq_eq_false_iff_ne.2 (by omega)
 have HL:=qH hL
 have HWd:=qH hWd
 have HBS:=qH hbs
 have HF:=qH hfit
 have HX:=qH hw
 have HMN:=qH hmn
 have hmk:=make_words (M:Int) M rfl (by omega)
 clear ha hL hWd hM hbs hfit hw hmn
 go_enter Tryz.func142,Tryz.ntmps142
 go_wp2_with fail
 refine (HL.out _).mono ?_
 rintro e w1 ⟨rfl,hb1⟩
 have hn1:=HBS.out.call hb1
 have k0:=hn1.cell 0 0 rfl rfl
 have hlt0:=hn1.lt 0 rfl
 have HN1:=qH hn1
 clear hb1 hn1
 go_wp2_with fail
 refine (HL.out _).mono ?_
 rintro e w2 ⟨rfl,hb2⟩
 have HMADE:=qH ((NS.made w1 (List.replicate M 0)).below hb2)
 clear hb2 k0 hmk
 have HKS:=qH (fun (xs:List Nat) (W:World) (h:NS w1 w1.heap.size xs W)=>(⟨h.old (HN1.out.cell 0 0 rfl rfl),h.old (HN1.out.cell 1 0 rfl rfl),h.oldFree (HN1.out.lt 1 rfl) (HN1.out.free 1 0 rfl)⟩:W.cell? ⟨w.heap.size,0,none⟩=some (.slice a M c)∧W.cell? ⟨w.heap.size+1,0,none⟩=some (.slice none 0 0)∧W.frozen? ⟨w.heap.size+1,0,none⟩=false))
 have HA:=qH (HN1.out.nat 0 rfl)
 go_wp2_with fail
 go_loopw [8,9] (fun v8 v9 wr=>∃ k:Nat,k≤M∧v8=UV (n / W64^k % x)∧(k=0∧v9=.int .i64 (-1)∨∃ i:Nat,k=i+1∧v9=.int .i64 i)∧NS w1 w1.heap.size (fnL M (qF (n / x) k)) wr) (fun _ v9 _=>(intOf v9+1).toNat)
 case atStart =>
  refine ⟨M,Nat.le_refl _,by rw [Nat.div_eq_of_lt HMN.out];simp,?_,?_⟩
  ·
   rcases Nat.eq_zero_or_pos M with h0 | h0
   ·
    exact .inl ⟨h0,by rw [h0];rfl⟩
   ·
    exact .inr ⟨M - 1,by omega,congrArg (Value.int .i64) (by omega)⟩
  ·
   have e:fnL M (qF (n / x) M)=List.replicate M 0:=by
    rw [← fnL_zero]
    exact fnL_congr fun j hj=>by unfold qF;rw [if_neg (by omega),wordOf_zero]
   rw [e];exact HMADE.out
 case round =>
  obtain ⟨k,hkM,rfl,hk,hns⟩:=hrel
  rcases hk with ⟨rfl,rfl⟩ | ⟨i,rfl,rfl⟩
  ·
   have hlen:=fnL_len M (qF (n / x) 0)
   have hsl:=hns.sl (by rw [hlen];unfold maxLen;omega)
   rw [hlen] at hsl
   have HT:=qH (of_any _ _ _ _ wr hsl (fnL_lt (qF_lt _ _)) hs)
   have e0:fnL M (qF (n / x) 0)=fnL M (wordOf (n / x)):=fnL_congr fun j _=>by unfold qF;rw [if_pos (Nat.zero_le _)]
   rw [e0,fnL_val HF.out] at HT
   obtain ⟨k0,k2,f2⟩:=HKS.out _ _ hns
   have HNS:=qH hns
   have HR:=qH (show n / W64^0 % x=n % x by rw [Nat.pow_zero,Nat.div_one])
   clear hlen hsl e0 hns k0
   go_wp2_with fail
   refine HT.out.mono ?_
   rintro e w4 ⟨a2,c2,rfl,hn2,hb2⟩
   have k3:=((bcell hb2).1 _ _ (World.block_lt_of_cell? _ _ k2)).trans k2
   have f3:=((bcell hb2).2 _ _ (World.block_lt_of_cell? _ _ k2)).trans f2
   have HNN:=qH hn2
   have HB2:=qH hb2
   clear hn2 hb2 HT k2 f2
   go_wp2_with fail
   refine bodyPost_ret (v:=.tuple #[.agg #[.slice a2 (lenW (n / x)) c2],UV (n / W64^0 % x),.bool true]) (by simp [results,Tryz.results142,go_sem,k3]) rfl ?_
   exact ⟨a2,c2,by rw [HR.out],HNN.out.set k3 (fun _=>by simp) _,((HN1.out.bel.trans (HNS.out.bel.mono HN1.out.bel.size)).trans (HB2.out.mono (HN1.out.bel.trans (HNS.out.bel.mono HN1.out.bel.size)).size)).setCell (by simp) _⟩
  ·
   have hst:=div_step n i x hx
   have hrx:n / W64^(i+1) % x<x:=Nat.mod_lt _ hx
   have HWi:=qH (fun (W:World) (h:NS w1 w1.heap.size (fnL M (qF (n / x) (i+1))) W)=>(HWd.out W i (h.nat HA.out) (by omega)).mono fun e w' (h1:_∧_)=>(⟨h1.1,h.below h1.2⟩:e=.returned (UV (wordOf n i))∧NS w1 w1.heap.size (fnL M (qF (n / x) (i+1))) w'))
   have HD:=qH (fun (W:World) (h:NS w1 w1.heap.size (fnL M (qF (n / x) (i+1))) W)=>(div_any (n / W64^(i+1) % x) (wordOf n i) x (wordOf_lt n i) HX.out hrx W).mono fun e w' (h1:_∧_)=>(⟨by rw [h1.1,hst.1,hst.2],h.below h1.2⟩:e=.returned (.tuple #[UV (wordOf (n / x) i),UV (n / W64^i % x),.bool true])∧NS w1 w1.heap.size (fnL M (qF (n / x) (i+1))) w'))
   have HSET:=qH (fun (W:World) (h:NS w1 w1.heap.size (fnL M (qF (n / x) (i+1))) W)=>show NS w1 w1.heap.size (fnL M (qF (n / x) i)) (W.setCell ⟨w1.heap.size,i,none⟩ (UV (wordOf (n / x) i))) by
    have e:=fnL_set (v:=wordOf (n / x) i) (f:=qF (n / x) (i+1)) (g:=qF (n / x) i) (show i<M by omega) (by unfold qF;rw [if_pos (Nat.le_refl _)]) (fun j _ hj=>by
     unfold qF
     by_cases h1:i≤j
     ·
      rw [if_pos h1,if_pos (by omega)]
     ·
      rw [if_neg h1,if_neg (by omega)])
    rw [← e];exact h.set i _)
   have HCL:=qH (fun (W:World) (h:NS w1 w1.heap.size (fnL M (qF (n / x) (i+1))) W)=>fnL_cell0 h (show i<M by omega))
   obtain ⟨k0,_,_⟩:=HKS.out _ _ hns
   have i0:(0:Int)≤(i:Int):=by omega
   have i1:(i:Int)<(M:Int):=by omega
   have HNS:=qH hns
   clear hst hns hrx
   go_wp2_with fail
   refine (HWi.out _ HNS.out).mono ?_
   rintro e w3 ⟨rfl,hn3⟩
   have HN3:=qH hn3
   clear hn3 k0
   go_wp2_with fail
   refine (HD.out _ HN3.out).mono ?_
   rintro e w4 ⟨rfl,hn4⟩
   have hc:=HCL.out _ hn4
   have hf:=hn4.free i
   have HN4:=qH hn4
   clear hn4
   go_wp2_with fail
   go_roundw
   case rel =>
    refine ⟨i,by omega,rfl,?_,HSET.out _ HN4.out⟩
    rcases Nat.eq_zero_or_pos i with h0 | h0
    ·
     exact .inl ⟨h0,by rw [h0];rfl⟩
    ·
     exact .inr ⟨i - 1,by omega,congrArg (Value.int .i64) (by omega)⟩
   case measure=>simp [intOf];try omega
theorem takeH {P:Program} {md:Region.Mode} {ops:Array Oper} {Q:Exit→Act→World→Prop} {S:World→Prop} {i:Nat} {oi:Oper} {d:Option Tmp} {v:Value} {fuel:Nat} {listed:Array Bool} {a:Act} {w:World} (hi:ops[i]?=some oi) (hd:oi.dst=d)
  (hs:Region.noSelect ops=true) (hf:Region.free md ops listed i=true) (hr:(Region.ready md ops listed).contains i=true)
  (hQ:∀ c a w,Q (.panic c) (a.put d v) w→Q (.panic c) a w) (hy:YieldsIf P ops S oi v a) (hS:S w)
  (h:wpAnyH P md ops Q S fuel (listed.setIfInBounds i true) (a.put d v) w):wpAnyH P md ops Q S (fuel+1) listed a w:=by
 subst hd
 exact wpAnyH_take hi hs hf hr hQ hy hS h
theorem stB {α:Type} {l:List α} {i:Nat} {x:α}:l.toArray.setIfInBounds i x=(l.set i x).toArray:=List.setIfInBounds_toArray ..
theorem stZ {α:Type} {l:List α} {x y:α}:(x::l).set 0 y=y::l:=rfl
theorem stS {α:Type} {l:List α} {n:Nat} {x y:α}:(x::l).set (n+1) y=x::l.set n y:=rfl
theorem tk {P:Program} {md:Region.Mode} {ops:Array Oper} {Q:Exit→Act→World→Prop} {S:World→Prop} (i:Nat) (d:Option Tmp) {oi:Oper} {v:Value} {fuel:Nat} {listed:Array Bool} {a:Act} {w:World} (hi:ops[i]?=some oi) (hd:oi.dst=d)
  (hy:∀ w,S w→(execOp a.eval oi).run P w=.ok (.value v) w) (h:wpAnyH P md ops Q S fuel (listed.setIfInBounds i true) (a.put d v) w) (hs:Region.noSelect ops=true:=by kernel_rfl) (hf:Region.free md ops listed i=true:=by kernel_rfl) (hr:(Region.ready md ops listed).contains i=true:=by kernel_rfl)
  (hQ:∀ c a w,Q (.panic c) (a.put d v) w→Q (.panic c) a w:=by exact fun _ _ _ h=>h) (hw:Region.wanted oi (yielded ops a.tmps)=true:=by rfl) (hS:S w:=by assumption):wpAnyH P md ops Q S (fuel+1) listed a w :=
 takeH hi hd hs hf hr hQ (.inl ⟨hw,hy⟩) hS h
theorem madd_at {x y p q H L:Nat} (hx:x<W64) (hy:y<W64) (hp:p<W64) (hq:q<W64) (hH:(x*y+p+q) / W64=H) (hL:(x*y+p+q) % W64=L) (w:World) :
  Calls Tryz.prog 191 #[UV x,UV y,UV p,UV q] w fun e w'=>e=.returned (.tuple #[UV H,UV L])∧Below w.heap.size w w':=by
 subst hH hL;exact (muladd_any x y p q hx hy hp hq w).mono fun e w' h=>⟨h.1,h.2▸Below.refl _ _⟩
theorem fnL_cell {W0 W:World} {g M:Nat} {f:Nat→Nat} (h:NS W0 g (fnL M f) W) {t:Nat} (ht:t<M):W.cell? ⟨g,t,none⟩=some (UV (f t)):=by
 rw [h.cell (show t<(fnL M f).length by rw [fnL_len];exact ht),fnL_get]
theorem school_any (a b:Option Addr) (c d m n:Nat) (w:World) (ha:NatW w a c m) (hb:NatW w b d n) (hs:lenW m+lenW n≤17592186044416):Calls Tryz.prog 204 #[.agg #[.slice a (lenW m) c],.agg #[.slice b (lenW n) d]] w (RetN (m*n) w):=by
 have hb0:=below3 w (.cells #[.slice a (lenW m) c] 41) (.cells #[.slice b (lenW n) d] 41) (.cells #[.slice none 0 0] 41)
 obtain ⟨e0,e1,e2⟩:=heap3 w (.cells #[.slice a (lenW m) c] 41) (.cells #[.slice b (lenW n) d] 41) (.cells #[.slice none 0 0] 41)
 have hLA:=fun W=>nlen_any a c m W
 have hLB:=fun W=>nlen_any b d n W
 have hWA:=fun W k (h:NatW W a c m) hk=>word_any a c m k W h hk
 have hWB:=fun W k (h:NatW W b d n) hk=>word_any b d n k W h hk
 have hx:=ha.below hb0
 have hy:=hb.below hb0
 have hma:=lt_lenW m
 have hmb:=lt_lenW n
 obtain ⟨la,hla⟩:∃ la,lenW m=la:=⟨_,rfl⟩
 obtain ⟨lb,hlb⟩:∃ lb,lenW n=lb:=⟨_,rfl⟩
 obtain ⟨M,hM⟩:∃ M,la+lb=M:=⟨_,rfl⟩
 rw [hla] at hs e0 e1 e2 hLA hWA hma
 rw [hlb] at hs e0 e1 e2 hLB hWB hmb
 rw [hla,hlb] at hb0 hx hy ⊢
 rw [hM] at hs
 obtain ⟨W0,hW0⟩:∃ W0,W0=((w.alloc (.cells #[.slice a la c] 41)).alloc (.cells #[.slice b lb d] 41)).alloc (.cells #[.slice none 0 0] 41):=⟨_,rfl⟩
 rw [← hW0] at e0 e1 e2 hx hy hb0
 have hbd:Below W0.heap.size W0 W0.drew:=(Below.refl _ _).drew
 have HKS:=qH (fun (W:World) (h:Below W0.heap.size W0 W)=>(⟨(h.cell (p:=⟨_,0,none⟩) (lt_of_block e0)).trans (cell_of_block e0 rfl),(h.cell (p:=⟨_,0,none⟩) (lt_of_block e1)).trans (cell_of_block e1 rfl)⟩:W.cell? ⟨w.heap.size,0,none⟩=some (.slice a la c)∧W.cell? ⟨w.heap.size+1,0,none⟩=some (.slice b lb d)))
 have HR:=qH (fun (W:World) (h:Below W0.heap.size W0 W)=>(⟨(h.cell (p:=⟨_,0,none⟩) (lt_of_block e2)).trans (cell_of_block e2 rfl),(h.frozen (p:=⟨_,0,none⟩) (lt_of_block e2)).trans (free_of_block e2)⟩:W.cell? ⟨w.heap.size+1+1,0,none⟩=some (.slice none 0 0)∧W.frozen? ⟨w.heap.size+1+1,0,none⟩=false))
 have HZ2:=qH (lt_of_block e2)
 have HLA:=qH (fun (W:World) (h:Below W0.heap.size W0 W)=>(hLA W).mono fun e w' (k:_∧_)=>(⟨k.1,bthen h k.2⟩:e=.returned (.int .i64 la)∧Below W0.heap.size W0 w'))
 have HLB:=qH (fun (W:World) (h:Below W0.heap.size W0 W)=>(hLB W).mono fun e w' (k:_∧_)=>(⟨k.1,bthen h k.2⟩:e=.returned (.int .i64 lb)∧Below W0.heap.size W0 w'))
 have HWA0:=qH (fun (W:World) (k:Nat) (h:Below W0.heap.size W0 W) hk=>hWA W k (hx.below h) hk)
 have HWB0:=qH (fun (W:World) (k:Nat) (h:Below W0.heap.size W0 W) hk=>hWB W k (hy.below h) hk)
 have HB0:=qH hb0
 have HBD:=qH hbd
 have hwr:IntKind.i64.wrap ((la:Int)+(lb:Int))=(M:Int):=by rw [IntKind.wrap_i64];omega
 have hmk:=make_words (M:Int) M rfl (by omega)
 have HMA:=qH hma
 have HMB:=qH hmb
 have hM1:la≤M:=by omega
 have hM2:lb≤M:=by omega
 have HM0:=qH hM
 have HW0:=qH hW0
 have HLA2:=qH hLA
 have HLB2:=qH hLB
 clear hla hlb hM hW0 e0 e1 e2 hLA hLB hWA hWB hx hy hb0 hbd ha hb hma hmb
 go_enter Tryz.func204,Tryz.ntmps204
 go_upto_region 1 with fail
 rw [← HW0.out]
 go_cut [5] (fun v5 wx=>∃ g:Nat,v5=.slice (some ⟨g,0,none⟩) M M∧NS W0 g (List.replicate M 0) wx)
 case first =>
  go_region_held3 (fun W=>W.cell? ⟨w.heap.size,0,none⟩=some (.slice a la c)∧W.cell? ⟨w.heap.size+1,0,none⟩=some (.slice b lb d)) (first | exact HKS.out _ HBD.out | exact HKS.out _ (by assumption) | exact HKS.out _ (Below.alloc (by assumption) (Below.size (by assumption)) _)) (first
   | (go_at_call_of 162 (Value.agg #[Value.slice a la c]);refine (HLA.out _ (by first | exact HBD.out | assumption)).mono ?_;rintro e w1 ⟨rfl,hb1⟩)
   | (go_at_call_of 162 (Value.agg #[Value.slice b lb d]);refine (HLB.out _ (by first | assumption | exact HBD.out)).mono ?_;rintro e w2 ⟨rfl,hb2⟩))
  all_goals
   go_wp2_with fail
   go_meet
   exact ⟨_,rfl,heap_alloc_new _ _,Below.alloc (by assumption) (Below.size (by assumption)) _,Below.size (by assumption)⟩
 case rest =>
  obtain ⟨w1,rfl⟩:∃ w1:World,w1=wc:=⟨_,rfl⟩
  obtain ⟨g,rfl,hns⟩:=hcut
  obtain ⟨k0,k1⟩:=HKS.out _ hns.bel
  have HN1:=qH hns
  clear hns hmk
  go_wp2_with fail
  refine (HLA2.out _).mono ?_
  rintro e w2 ⟨rfl,hb2⟩
  have HN2:=qH (HN1.out.below hb2)
  clear hb2 k0 k1 HN1
  go_wp2_with fail
  go_loopw [17] (fun v17 wr=>∃ i:Nat,i≤la∧v17=.int .i64 i∧NS W0 g (fnL M (wordOf (rowQ m n i))) wr) (fun v17 _=>la - (intOf v17).toNat)
  case atStart=>exact ⟨0,Nat.zero_le _,rfl,by rw [rowQ_zero,fnL_zero];exact HN2.out⟩
  case round =>
   obtain ⟨wo,rfl⟩:∃ wo:World,wo=wr:=⟨_,rfl⟩
   obtain ⟨i,hi,rfl,hns⟩:=hrel
   obtain ⟨k0,k1⟩:=HKS.out _ hns.bel
   have HNO:=qH hns
   clear hns HN2
   by_cases hlt:i<la
   ·
    skip
    go_wp2_with fail
    refine (HLB2.out _).mono ?_
    rintro e w3 ⟨rfl,hb3⟩
    have HN3:=qH (HNO.out.below hb3)
    clear hb3 k0 k1
    go_wp2_with fail
    go_loopw [7,22] (fun v7 v22 wr=>∃ k:Nat,k≤lb∧v7=UV (rowC m n i k)∧v22=.int .i64 k∧NS W0 g (fnL M (mixF (rowR m n i k) (rowQ m n i) (i+k))) wr) (fun _ v22 _=>lb - (intOf v22).toNat)
    case atStart=>exact ⟨0,Nat.zero_le _,by rw [rowC_zero];rfl,rfl,by rw [rowR_zero,fnL_congr (g:=wordOf (rowQ m n i)) (fun j _=>by unfold mixF;split <;> rfl)];exact HN3.out⟩
    case round =>
     obtain ⟨k,hk,rfl,rfl,hns⟩:=hrel
     by_cases hlt2:k<lb
     ·
      obtain ⟨t,ht⟩:∃ t,i+k=t:=⟨_,rfl⟩
      rw [ht] at hns
      have htM:t<M:=by have:=HM0.out;omega
      obtain ⟨y,hy⟩:∃ y,wordOf (rowR m n i (k+1)) t=y:=⟨_,rfl⟩
      have hst:=row_step m n i k
      rw [ht,hy] at hst
      have HCL:=qH (fun (W:World) (h:NS W0 g (fnL M (mixF (rowR m n i k) (rowQ m n i) t)) W)=>(mixF_at (rowR m n i k) (rowQ m n i) t▸fnL_cell h htM:W.cell? ⟨g,t,none⟩=some (UV (wordOf (rowQ m n i) t))))
      have HSET:=qH (fun (W:World) (h:NS W0 g (fnL M (mixF (rowR m n i k) (rowQ m n i) t)) W)=>show NS W0 g (fnL M (mixF (rowR m n i (k+1)) (rowQ m n i) (t+1))) (W.setCell ⟨g,t,none⟩ (UV y)) by
       have e:=fnL_set (v:=y) (f:=mixF (rowR m n i k) (rowQ m n i) t) (g:=mixF (rowR m n i (k+1)) (rowQ m n i) (t+1)) htM (by rw [mixF_here];exact hy) (fun j _ hj=>mixF_next (fun j hj=>row_keep m n i k j (by omega)) j hj)
       rw [← e];exact h.set t y)
      obtain ⟨f,hf⟩:∃ f,f=mixF (rowR m n i k) (rowQ m n i) t:=⟨_,rfl⟩
      rw [← hf] at hns HCL HSET
      have HWA:=qH (fun (W:World) (h:NS W0 g (fnL M f) W)=>(HWA0.out W i h.bel (by omega)).mono fun e w' (h1:_∧_)=>(⟨h1.1,h.below h1.2⟩:e=.returned (UV (wordOf m i))∧NS W0 g (fnL M f) w'))
      have HWB:=qH (fun (W:World) (h:NS W0 g (fnL M f) W)=>(HWB0.out W k h.bel (by omega)).mono fun e w' (h1:_∧_)=>(⟨h1.1,h.below h1.2⟩:e=.returned (UV (wordOf n k))∧NS W0 g (fnL M f) w'))
      have HM:=qH (fun (W:World) (h:NS W0 g (fnL M f) W)=>(madd_at (wordOf_lt m i) (wordOf_lt n k) (wordOf_lt _ _) (rowC_lt m n i k) hst.2 hst.1 W).mono fun e w' (h1:_∧_)=>(⟨h1.1,h.below h1.2⟩:e=.returned (.tuple #[UV (rowC m n i (k+1)),UV y])∧NS W0 g (fnL M f) w'))
      have HKN:=qH (fun (xs:List Nat) (W:World) (h:NS W0 g xs W)=>HKS.out W h.bel)
      have hwr2:IntKind.i64.wrap ((i:Int)+(k:Int))=(t:Int):=by rw [IntKind.wrap_i64];omega
      have t0:(0:Int)≤(t:Int):=by omega
      have t1:(t:Int)<(M:Int):=by omega
      have hn:NS W0 g (fnL M f) wr.drew:=hns.drewN 1
      have HT:=qH ht
      clear hst hf hns hy ht HNO HN3 hwr
      go_upto_region 9 with fail
      refine wp_region_held_drew (S:=fun W=>W.cell? ⟨w.heap.size,0,none⟩=some (.slice a la c)∧W.cell? ⟨w.heap.size+1,0,none⟩=some (.slice b lb d)) (by kernel_rfl) (HKN.out _ _ hn) (fun hHeld=>?_)
      refine tk 0 (some 26) (v:=?_) rfl rfl ?_ ?_
      rotate_left
      ·
       (intro w _;go_simp;(try with_reducible rfl))
      simp only [Act.put,stB,stZ,stS]
      refine tk 1 (some 27) (v:=?_) rfl rfl ?_ ?_
      rotate_left
      ·
       (intro w _;go_simp;(try with_reducible rfl))
      simp only [Act.put,stB,stZ,stS]
      refine tk 2 (some 28) (v:=?_) rfl rfl ?_ ?_
      rotate_left
      ·
       (intro w _;go_simp;(try with_reducible rfl))
      simp only [Act.put,stB,stZ,stS]
      refine tk 3 (some 29) (v:=?_) rfl rfl ?_ ?_
      rotate_left
      ·
       (intro w _;go_simp;(try with_reducible rfl))
      simp only [Act.put,stB,stZ,stS]
      refine tk 4 (some 30) (v:=?_) rfl rfl ?_ ?_
      rotate_left
      ·
       (intro w hSw;(try dsimp only at hSw);go_simp;(try with_reducible rfl))
      simp only [Act.put,stB,stZ,stS]
      refine tk 5 (some 31) (v:=?_) rfl rfl ?_ ?_
      rotate_left
      ·
       (intro w _;go_simp;(try with_reducible rfl))
      simp only [Act.put,stB,stZ,stS]
      refine tk 7 (some 33) (v:=?_) rfl rfl ?_ ?_
      rotate_left
      ·
       (intro w hSw;(try dsimp only at hSw);go_simp;(try with_reducible rfl))
      simp only [Act.put,stB,stZ,stS]
      refine tk 8 (some 34) (v:=?_) rfl rfl ?_ ?_
      rotate_left
      ·
       (intro w _;go_simp;(try with_reducible rfl))
      simp only [Act.put,stB,stZ,stS]
      refine tk 10 (some 36) (v:=?_) rfl rfl ?_ ?_
      rotate_left
      ·
       (intro w _;go_simp;(try with_reducible rfl))
      simp only [Act.put,stB,stZ,stS]
      refine tk 11 (some 37) (v:=?_) rfl rfl ?_ ?_
      rotate_left
      ·
       (intro w _;go_simp;(try with_reducible rfl))
      simp only [Act.put,stB,stZ,stS]
      refine tk 12 (some 38) (v:=?_) rfl rfl ?_ ?_
      rotate_left
      ·
       (intro w _;go_simp;(try with_reducible rfl))
      simp only [Act.put,stB,stZ,stS]
      refine tk 13 (some 39) (v:=?_) rfl rfl ?_ ?_
      rotate_left
      ·
       (intro w _;go_simp;(try with_reducible rfl))
      simp only [Act.put,stB,stZ,stS]
      refine tk 14 (some 40) (v:=?_) rfl rfl ?_ ?_
      rotate_left
      ·
       (intro w hSw;(try dsimp only at hSw);go_simp;(try with_reducible rfl))
      simp only [Act.put,stB,stZ,stS]
      refine tk 16 (some 42) (v:=?_) rfl rfl ?_ ?_
      rotate_left
      ·
       (intro w _;go_simp;(try with_reducible rfl))
      simp only [Act.put,stB,stZ,stS]
      refine wpAnyH_ready (rs:=[6,15]) (by kernel_rfl) (by simp) ?_
      refine (AllReadyH.cons rfl (fun K hK=>?_) (AllReadyH.cons rfl (fun K hK=>?_) AllReadyH.nil))
      ·
       skip
       go_simp
       refine (HWA.out _ hn).mono ?_
       rintro e w1 ⟨rfl,hn1⟩
       clear hn
       have hn:=hn1
       clear hn1
       go_wp2_with fail
       refine hK.out _ _ (HKN.out _ _ hn) (fun hHeld2=>?_)
       clear hK K hHeld
       rename _=>hHeld
       try simp only [Act.put,stB,stZ,stS]
       refine wpAnyH_ready (rs:=[9,15]) (by kernel_rfl) (by simp) ?_
       refine (AllReadyH.cons rfl (fun K hK=>?_) (AllReadyH.cons rfl (fun K hK=>?_) AllReadyH.nil))
       ·
        skip
        go_simp
        refine (HWB.out _ hn).mono ?_
        rintro e w1 ⟨rfl,hn1⟩
        clear hn
        have hn:=hn1
        clear hn1
        go_wp2_with fail
        refine hK.out _ _ (HKN.out _ _ hn) (fun hHeld2=>?_)
        clear hK K hHeld
        rename _=>hHeld
        try simp only [Act.put,stB,stZ,stS]
        refine wpAnyH_ready (rs:=[15]) (by kernel_rfl) (by simp) ?_
        refine (AllReadyH.cons rfl (fun K hK=>?_) AllReadyH.nil)
        have hc:=HCL.out _ hn
        go_simp
        clear hc
        refine hK.out _ _ (HKN.out _ _ hn) (fun hHeld2=>?_)
        clear hK K hHeld
        rename _=>hHeld
        try simp only [Act.put,stB,stZ,stS]
        refine wpAnyH_ready (rs:=[17]) (by kernel_rfl) (by simp) ?_
        refine (AllReadyH.cons rfl (fun K hK=>?_) AllReadyH.nil)
        go_simp
        refine (HM.out _ hn).mono ?_
        rintro e w1 ⟨rfl,hn1⟩
        clear hn
        have hn:=hn1
        clear hn1
        go_wp2_with fail
        refine hK.out _ _ (HKN.out _ _ hn) (fun hHeld2=>?_)
        clear hK K hHeld
        rename _=>hHeld
        try simp only [Act.put,stB,stZ,stS]
        refine tk 18 (some 25) (v:=?_) rfl rfl ?_ ?_
        rotate_left
        ·
         (intro w _;go_simp;(try with_reducible rfl))
        simp only [Act.put,stB,stZ,stS]
        refine tk 19 (some 44) (v:=?_) rfl rfl ?_ ?_
        rotate_left
        ·
         (intro w _;go_simp;(try with_reducible rfl))
        simp only [Act.put,stB,stZ,stS]
        refine tk 20 (some 45) (v:=?_) rfl rfl ?_ ?_
        rotate_left
        ·
         (intro w _;go_simp;(try with_reducible rfl))
        simp only [Act.put,stB,stZ,stS]
        refine tk 21 (some 7) (v:=?_) rfl rfl ?_ ?_
        rotate_left
        ·
         (intro w _;go_simp;(try with_reducible rfl))
        simp only [Act.put,stB,stZ,stS]
        refine tk 22 (some 46) (v:=?_) rfl rfl ?_ ?_
        rotate_left
        ·
         (intro w hSw;(try dsimp only at hSw);go_simp;(try with_reducible rfl))
        simp only [Act.put,stB,stZ,stS]
        refine wpAnyH_ready (rs:=[23]) (by kernel_rfl) (by simp) ?_
        refine (AllReadyH.cons rfl (fun K hK=>?_) AllReadyH.nil)
        have hc:=HCL.out _ hn
        have hf:=hn.free t
        go_simp
        clear hc hf
        have hn1:=HSET.out _ hn
        clear hn
        have hn:=hn1
        clear hn1
        refine hK.out _ _ (HKN.out _ _ hn) (fun hHeld2=>?_)
        clear hK K hHeld
        rename _=>hHeld
        try simp only [Act.put,stB,stZ,stS]
        refine wpAnyH_done (by kernel_rfl) ?_ _
        have HN:=qH hn
        clear hn
        go_wp2
        go_roundw
        case rel=>exact ⟨k+1,by omega,rfl,by go_num,by rw [show i+(k+1)=t+1 by have:=HT.out;omega];exact HN.out⟩
        case measure=>simp [intOf];omega
       ·
        skip
        have hc:=HCL.out _ hn
        go_simp
        clear hc
        refine hK.out _ _ (HKN.out _ _ hn) (fun hHeld2=>?_)
        clear hK K hHeld
        rename _=>hHeld
        try simp only [Act.put,stB,stZ,stS]
        refine wpAnyH_ready (rs:=[9]) (by kernel_rfl) (by simp) ?_
        refine (AllReadyH.cons rfl (fun K hK=>?_) AllReadyH.nil)
        go_simp
        refine (HWB.out _ hn).mono ?_
        rintro e w1 ⟨rfl,hn1⟩
        clear hn
        have hn:=hn1
        clear hn1
        go_wp2_with fail
        refine hK.out _ _ (HKN.out _ _ hn) (fun hHeld2=>?_)
        clear hK K hHeld
        rename _=>hHeld
        try simp only [Act.put,stB,stZ,stS]
        refine wpAnyH_ready (rs:=[17]) (by kernel_rfl) (by simp) ?_
        refine (AllReadyH.cons rfl (fun K hK=>?_) AllReadyH.nil)
        go_simp
        refine (HM.out _ hn).mono ?_
        rintro e w1 ⟨rfl,hn1⟩
        clear hn
        have hn:=hn1
        clear hn1
        go_wp2_with fail
        refine hK.out _ _ (HKN.out _ _ hn) (fun hHeld2=>?_)
        clear hK K hHeld
        rename _=>hHeld
        try simp only [Act.put,stB,stZ,stS]
        refine tk 18 (some 25) (v:=?_) rfl rfl ?_ ?_
        rotate_left
        ·
         (intro w _;go_simp;(try with_reducible rfl))
        simp only [Act.put,stB,stZ,stS]
        refine tk 19 (some 44) (v:=?_) rfl rfl ?_ ?_
        rotate_left
        ·
         (intro w _;go_simp;(try with_reducible rfl))
        simp only [Act.put,stB,stZ,stS]
        refine tk 20 (some 45) (v:=?_) rfl rfl ?_ ?_
        rotate_left
        ·
         (intro w _;go_simp;(try with_reducible rfl))
        simp only [Act.put,stB,stZ,stS]
        refine tk 21 (some 7) (v:=?_) rfl rfl ?_ ?_
        rotate_left
        ·
         (intro w _;go_simp;(try with_reducible rfl))
        simp only [Act.put,stB,stZ,stS]
        refine tk 22 (some 46) (v:=?_) rfl rfl ?_ ?_
        rotate_left
        ·
         (intro w hSw;(try dsimp only at hSw);go_simp;(try with_reducible rfl))
        simp only [Act.put,stB,stZ,stS]
        refine wpAnyH_ready (rs:=[23]) (by kernel_rfl) (by simp) ?_
        refine (AllReadyH.cons rfl (fun K hK=>?_) AllReadyH.nil)
        have hc:=HCL.out _ hn
        have hf:=hn.free t
        go_simp
        clear hc hf
        have hn1:=HSET.out _ hn
        clear hn
        have hn:=hn1
        clear hn1
        refine hK.out _ _ (HKN.out _ _ hn) (fun hHeld2=>?_)
        clear hK K hHeld
        rename _=>hHeld
        try simp only [Act.put,stB,stZ,stS]
        refine wpAnyH_done (by kernel_rfl) ?_ _
        have HN:=qH hn
        clear hn
        go_wp2
        go_roundw
        case rel=>exact ⟨k+1,by omega,rfl,by go_num,by rw [show i+(k+1)=t+1 by have:=HT.out;omega];exact HN.out⟩
        case measure=>simp [intOf];omega
      ·
       skip
       have hc:=HCL.out _ hn
       go_simp
       clear hc
       refine hK.out _ _ (HKN.out _ _ hn) (fun hHeld2=>?_)
       clear hK K hHeld
       rename _=>hHeld
       try simp only [Act.put,stB,stZ,stS]
       refine wpAnyH_ready (rs:=[6]) (by kernel_rfl) (by simp) ?_
       refine (AllReadyH.cons rfl (fun K hK=>?_) AllReadyH.nil)
       go_simp
       refine (HWA.out _ hn).mono ?_
       rintro e w1 ⟨rfl,hn1⟩
       clear hn
       have hn:=hn1
       clear hn1
       go_wp2_with fail
       refine hK.out _ _ (HKN.out _ _ hn) (fun hHeld2=>?_)
       clear hK K hHeld
       rename _=>hHeld
       try simp only [Act.put,stB,stZ,stS]
       refine wpAnyH_ready (rs:=[9]) (by kernel_rfl) (by simp) ?_
       refine (AllReadyH.cons rfl (fun K hK=>?_) AllReadyH.nil)
       go_simp
       refine (HWB.out _ hn).mono ?_
       rintro e w1 ⟨rfl,hn1⟩
       clear hn
       have hn:=hn1
       clear hn1
       go_wp2_with fail
       refine hK.out _ _ (HKN.out _ _ hn) (fun hHeld2=>?_)
       clear hK K hHeld
       rename _=>hHeld
       try simp only [Act.put,stB,stZ,stS]
       refine wpAnyH_ready (rs:=[17]) (by kernel_rfl) (by simp) ?_
       refine (AllReadyH.cons rfl (fun K hK=>?_) AllReadyH.nil)
       go_simp
       refine (HM.out _ hn).mono ?_
       rintro e w1 ⟨rfl,hn1⟩
       clear hn
       have hn:=hn1
       clear hn1
       go_wp2_with fail
       refine hK.out _ _ (HKN.out _ _ hn) (fun hHeld2=>?_)
       clear hK K hHeld
       rename _=>hHeld
       try simp only [Act.put,stB,stZ,stS]
       refine tk 18 (some 25) (v:=?_) rfl rfl ?_ ?_
       rotate_left
       ·
        (intro w _;go_simp;(try with_reducible rfl))
       simp only [Act.put,stB,stZ,stS]
       refine tk 19 (some 44) (v:=?_) rfl rfl ?_ ?_
       rotate_left
       ·
        (intro w _;go_simp;(try with_reducible rfl))
       simp only [Act.put,stB,stZ,stS]
       refine tk 20 (some 45) (v:=?_) rfl rfl ?_ ?_
       rotate_left
       ·
        (intro w _;go_simp;(try with_reducible rfl))
       simp only [Act.put,stB,stZ,stS]
       refine tk 21 (some 7) (v:=?_) rfl rfl ?_ ?_
       rotate_left
       ·
        (intro w _;go_simp;(try with_reducible rfl))
       simp only [Act.put,stB,stZ,stS]
       refine tk 22 (some 46) (v:=?_) rfl rfl ?_ ?_
       rotate_left
       ·
        (intro w hSw;(try dsimp only at hSw);go_simp;(try with_reducible rfl))
       simp only [Act.put,stB,stZ,stS]
       refine wpAnyH_ready (rs:=[23]) (by kernel_rfl) (by simp) ?_
       refine (AllReadyH.cons rfl (fun K hK=>?_) AllReadyH.nil)
       have hc:=HCL.out _ hn
       have hf:=hn.free t
       go_simp
       clear hc hf
       have hn1:=HSET.out _ hn
       clear hn
       have hn:=hn1
       clear hn1
       refine hK.out _ _ (HKN.out _ _ hn) (fun hHeld2=>?_)
       clear hK K hHeld
       rename _=>hHeld
       try simp only [Act.put,stB,stZ,stS]
       refine wpAnyH_done (by kernel_rfl) ?_ _
       have HN:=qH hn
       clear hn
       go_wp2
       go_roundw
       case rel=>exact ⟨k+1,by omega,rfl,by go_num,by rw [show i+(k+1)=t+1 by have:=HT.out;omega];exact HN.out⟩
       case measure=>simp [intOf];omega
     ·
      obtain rfl:k=lb:=by omega
      obtain ⟨t,ht⟩:∃ t,i+k=t:=⟨_,rfl⟩
      rw [ht] at hns
      have htM:t<M:=by have:=HM0.out;omega
      have hov:=row_over (a:=m) (i:=i) HMB.out
      rw [ht] at hov
      have HSET:=qH (fun (W:World) (h:NS W0 g (fnL M (mixF (rowR m n i k) (rowQ m n i) t)) W)=>show NS W0 g (fnL M (wordOf (rowQ m n (i+1)))) (W.setCell ⟨g,t,none⟩ (UV (rowC m n i k))) by
       have e:=fnL_set (v:=rowC m n i k) (f:=mixF (rowR m n i k) (rowQ m n i) t) (g:=mixF (rowR m n i k) (rowQ m n i) (t+1)) htM (by rw [mixF_here];exact hov.symm) (fun j _ hj=>mixF_next (fun j _=>rfl) j hj)
       rw [← fnL_congr (M:=M) (row_done (a:=m) (b:=n) (i:=i) (M:=M) HMB.out),ht,← e];exact h.set t _)
      have HCL:=qH (fun (W:World) (h:NS W0 g (fnL M (mixF (rowR m n i k) (rowQ m n i) t)) W)=>(fnL_cell h htM))
      obtain ⟨f,hf⟩:∃ f,f=mixF (rowR m n i k) (rowQ m n i) t:=⟨_,rfl⟩
      rw [← hf] at hns HCL HSET
      obtain ⟨z,hz⟩:∃ z,f t=z:=⟨_,rfl⟩
      rw [hz] at HCL
      obtain ⟨k0,k1⟩:=HKS.out _ hns.bel
      have hit:i+k<M:=by omega
      have HT:=qH ht
      clear hf hz hov HN3 HNO
      go_wp2_with fail
      refine (HLB2.out _).mono ?_
      rintro e w4 ⟨rfl,hb4⟩
      have hn:=hns.below hb4
      have hc:=HCL.out _ hn
      have hf:=hn.free t
      rw [← HT.out] at hc hf
      have HN4:=qH hn
      clear hn hns hb4 k0 k1 ht
      go_wp2_with fail
      go_roundw
      case rel=>exact ⟨i+1,by omega,by go_num,by have:=HSET.out _ HN4.out;rw [← HT.out] at this;exact this⟩
      case measure=>simp [intOf];omega
   ·
    obtain rfl:i=la:=by omega
    have hlen:=fnL_len M (wordOf (rowQ m n i))
    have hsl:=HNO.out.sl (by rw [hlen];unfold maxLen;omega)
    rw [hlen] at hsl
    have HT:=qH (of_any _ _ _ _ wo hsl (fnL_lt (wordOf_lt _)) hs)
    rw [rowQ_all HMA.out,fnL_val (by rw [← HM0.out,Nat.pow_add];exact Nat.mul_lt_mul'' HMA.out HMB.out)] at HT
    obtain ⟨k2,f2⟩:=HR.out _ HNO.out.bel
    clear hlen hsl k0 k1
    go_wp2_with fail
    refine HT.out.mono ?_
    rintro e w4 ⟨a2,c2,rfl,hn2,hb2⟩
    have k3:=((bcell hb2).1 _ _ (World.block_lt_of_cell? _ _ k2)).trans k2
    have f3:=((bcell hb2).2 _ _ (World.block_lt_of_cell? _ _ k2)).trans f2
    have HNN:=qH hn2
    have HB2:=qH hb2
    clear hn2 hb2 HT k2 f2
    go_wp2_with fail
    refine bodyPost_ret (v:=.agg #[.slice a2 (lenW (m*n)) c2]) (by simp [results,Tryz.results204,go_sem,k3]) rfl ?_
    exact ⟨a2,c2,rfl,HNN.out.set k3 (fun _=>by simp) _,((HB0.out.trans (HNO.out.bel.mono HB0.out.size)).trans (HB2.out.mono (HB0.out.trans (HNO.out.bel.mono HB0.out.size)).size)).setCell (by simp;omega) _⟩
end Go.Proofs.YtmhainidincjhaaGreatDoor
namespace Go.Proofs.YtmhainidincjhaaGreatDoor
open Go.RowKit Go.Extern.Stop Go.Stop Go.Extern
theorem tl {P:Program} {md:Region.Mode} {ops:Array Oper} {Q:Exit→Act→World→Prop} {S:World→Prop} (i:Nat) (d:Option Tmp) {oi:Oper} {v:Value} {fuel:Nat} {listed:Array Bool} {a a2:Act} {w:World} (h:wpAnyH P md ops Q S fuel (listed.setIfInBounds i true) a2 w) (hi:ops[i]?=some oi:=by rfl) (hd:oi.dst=d:=by rfl)
  (hy:∀ w,S w→(execOp a.eval oi).run P w=.ok (.value v) w:=by intro w hSw;(try dsimp only at hSw);go_simp;(try with_reducible rfl)) (ha:a.put d v=a2:=by (try simp only [Act.put,stB,stZ,stS]);exact rfl) (hs:Region.noSelect ops=true:=by kernel_rfl) (hf:Region.free md ops listed i=true:=by kernel_rfl) (hr:(Region.ready md ops listed).contains i=true:=by kernel_rfl)
  (hQ:∀ c a w,Q (.panic c) (a.put d v) w→Q (.panic c) a w:=by exact fun _ _ _ h=>h) (hw:Region.wanted oi (yielded ops a.tmps)=true:=by rfl) (hS:S w:=by assumption):wpAnyH P md ops Q S (fuel+1) listed a w:=by
 subst ha
 exact takeH hi hd hs hf hr hQ (.inl ⟨hw,hy⟩) hS h
theorem tm {P:Program} {md:Region.Mode} {ops:Array Oper} {Q:Exit→Act→World→Prop} {S:World→Prop} (i:Nat) (d:Option Tmp) {oi:Oper} {v:Value} {fuel:Nat} {listed:Array Bool} {a a2:Act} {w:World} (h:wpAnyH P md ops Q S fuel (listed.setIfInBounds i true) a2 w) (hi:ops[i]?=some oi:=by rfl) (hd:oi.dst=d:=by rfl)
  (hy:∀ w,S w→(execOp a.eval oi).run P w=.ok (.value v) w:=by intro w _;go_simp;(try with_reducible rfl)) (ha:a.put d v=a2:=by (try simp only [Act.put,stB,stZ,stS]);exact rfl) (hs:Region.noSelect ops=true:=by kernel_rfl) (hf:Region.free md ops listed i=true:=by kernel_rfl) (hr:(Region.ready md ops listed).contains i=true:=by kernel_rfl)
  (hQ:∀ c a w,Q (.panic c) (a.put d v) w→Q (.panic c) a w:=by exact fun _ _ _ h=>h) (hw:Region.wanted oi (yielded ops a.tmps)=true:=by rfl) (hS:S w:=by assumption):wpAnyH P md ops Q S (fuel+1) listed a w:=by
 subst ha
 exact takeH hi hd hs hf hr hQ (.inl ⟨hw,hy⟩) hS h
end Go.Proofs.YtmhainidincjhaaGreatDoor
namespace Go.Proofs.YtmhainidincjhaaGreatDoor
open Go.RowKit
def RetDM (q r:Nat) (ok:Bool) (w:World) (e:Ending) (w':World):Prop:=∃ a c b d,e=.returned (.tuple #[.agg #[.slice a (lenW q) c],.agg #[.slice b (lenW r) d],.bool ok])∧NatW w' a c q∧NatW w' b d r∧Below w.heap.size w w'
def DivUpto (K L:Nat):Prop:=∀ (a b:Option Addr) (c d m n:Nat) (w:World),NatW w a c m→NatW w b d n→lenW m≤K→lenW n≤L→n≠0→Calls Tryz.prog 200 #[.agg #[.slice a (lenW m) c],.agg #[.slice b (lenW n) d]] w (RetDM (m / n) (m % n) true w)
theorem word0_small {n:Nat} (h:lenW n≤1):wordOf n 0=n:=by
 unfold wordOf;rw [Nat.pow_zero,Nat.div_one];exact Nat.mod_eq_of_lt (lenW_word.1 h)
theorem sl_one (w:World) (x:Nat):Sl (w.alloc (.cells #[UV x] 164)) 1 (.slice (some ⟨w.heap.size,0,none⟩) 1 1) 1 ([x].map UV):=Sl.lit w 164 1 1 [UV x] (by unfold maxLen;omega) rfl
theorem divMod_word (a b:Option Addr) (c d m n:Nat) (w:World) (ha:NatW w a c m) (hb:NatW w b d n) (hs:lenW m≤17592186044416) (h1:lenW n≤1) (h0:n≠0):Calls Tryz.prog 200 #[.agg #[.slice a (lenW m) c],.agg #[.slice b (lenW n) d]] w (RetDM (m / n) (m % n) true w):=by
 have hn64:n<W64:=lenW_word.1 h1
 have hr64:m % n<W64:=Nat.lt_trans (Nat.mod_lt _ (Nat.pos_of_ne_zero h0)) hn64
 have hL:=fun W=>nlen_any b d n W
 have hWd:=fun W (h:NatW W b d n)=>word0_small h1▸word_any0 b d n W h
 have hBy:=fun W (h:NatW W a c m)=>byWord_any a c m n W h (Nat.pos_of_ne_zero h0) hn64 hs
 obtain ⟨la,hla⟩:∃ la,lenW m=la:=⟨_,rfl⟩
 obtain ⟨lb,hlb⟩:∃ lb,lenW n=lb:=⟨_,rfl⟩
 rw [hlb] at hL hWd h1
 rw [hla] at hBy
 rw [hla,hlb]
 have hbs:BS w [⟨w.heap.size,41,[.slice a la c]⟩,⟨w.heap.size+1,41,[.slice b lb d]⟩,⟨w.heap.size+1+1,41,[.slice none 0 0]⟩,⟨w.heap.size+1+1+1,41,[.slice none 0 0]⟩] [⟨a,c,m⟩,⟨b,d,n⟩] ((((w.alloc (.cells #[.slice a la c] 41)).alloc (.cells #[.slice b lb d] 41)).alloc (.cells #[.slice none 0 0] 41)).alloc (.cells #[.slice none 0 0] 41)) :=
  (((((BS.begin [⟨a,c,m⟩,⟨b,d,n⟩] (fun y hy=>by
   rcases List.mem_cons.1 hy with rfl | hy
   ·
    exact ha
   ·
    rw [List.mem_singleton.1 hy];exact hb)).alloc (p:=w.heap.size) rfl 41 [.slice a la c] rfl).alloc (p:=w.heap.size+1) (by simp) 41 [.slice b lb d] rfl).alloc (p:=w.heap.size+1+1) (by simp) 41 [.slice none 0 0] rfl).alloc (p:=w.heap.size+1+1+1) (by simp) 41 [.slice none 0 0] rfl)
 have HL:=qH hL
 have HWd:=qH hWd
 have HBy:=qH hBy
 have HBS:=qH hbs
 have HR64:=qH hr64
 clear ha hb hla hlb hbs hL hWd hBy hs hn64 hr64 h0
 go_enter Tryz.func200,Tryz.ntmps200
 go_wp2_with fail
 refine (HL.out _).mono ?_
 rintro e w1 ⟨rfl,hb1⟩
 have HN1:=qH (HBS.out.call hb1)
 have c0:=HN1.out.cell 0 0 rfl rfl
 have c1:=HN1.out.cell 1 0 rfl rfl
 clear hb1
 go_upto_region 2 with fail
 clear c0 c1
 go_cut [7,8,9] (fun v7 v8 v9 wx=>∃ p a7 c7,v7=.pointer (some ⟨p,0,none⟩)∧v8=UV (m % n)∧v9=.bool true∧BS w [⟨w.heap.size,41,[.slice a la c]⟩,⟨w.heap.size+1,41,[.slice b lb d]⟩,⟨w.heap.size+1+1,41,[.slice none 0 0]⟩,⟨w.heap.size+1+1+1,41,[.slice none 0 0]⟩,⟨p,41,[.slice a7 (lenW (m / n)) c7]⟩] ([⟨a,c,m⟩,⟨b,d,n⟩]++[⟨a7,c7,m / n⟩]) wx)
 case first =>
  have hn:=HN1.out.drew
  refine wp_region_held_drew (S:=fun W=>W.cell? ⟨w.heap.size,0,none⟩=some (.slice a la c)∧W.cell? ⟨w.heap.size+1,0,none⟩=some (.slice b lb d)) (by kernel_rfl) (⟨hn.cell 0 0 rfl rfl,hn.cell 1 0 rfl rfl⟩) (fun hHeld=>?_)
  refine tl 0 (some 23) ?_
  refine tl 1 (some 24) ?_
  refine wpAnyH_ready (rs:=[2,8]) (by kernel_rfl) (by simp) ?_
  refine (AllReadyH.cons rfl (fun K hK=>?_) (AllReadyH.cons rfl (fun K hK=>?_) AllReadyH.nil))
  ·
   skip
   go_simp
   refine (HWd.out _ (hn.nat 1 rfl)).mono ?_
   rintro e w2 ⟨rfl,hb2⟩
   have hn1:=hn.call hb2
   clear hn hb2
   have hn:=hn1
   clear hn1
   go_wp2_with fail
   refine hK.out _ _ (⟨hn.cell 0 0 rfl rfl,hn.cell 1 0 rfl rfl⟩) (fun hHeld2=>?_)
   clear hK K hHeld
   rename _=>hHeld
   try simp only [Act.put,stB,stZ,stS]
   refine wpAnyH_ready (rs:=[3,8]) (by kernel_rfl) (by simp) ?_
   refine (AllReadyH.cons rfl (fun K hK=>?_) (AllReadyH.cons rfl (fun K hK=>?_) AllReadyH.nil))
   ·
    skip
    go_simp
    refine (HBy.out _ (hn.nat 0 rfl)).mono ?_
    rintro e w3 ⟨a7,c7,rfl,hq,hb3⟩
    have hn1:=(hn.call hb3).got hq
    clear hn hb3 hq
    have hn:=hn1
    clear hn1
    go_wp2_with fail
    refine hK.out _ _ (⟨hn.cell 0 0 rfl rfl,hn.cell 1 0 rfl rfl⟩) (fun hHeld2=>?_)
    clear hK K hHeld
    rename _=>hHeld
    try simp only [Act.put,stB,stZ,stS]
    refine tm 4 (some 22) ?_
    refine tm 5 (some 27) ?_
    refine tm 6 (some 28) ?_
    refine tm 7 (some 29) ?_
    refine wpAnyH_ready (rs:=[8]) (by kernel_rfl) (by simp) ?_
    refine (AllReadyH.cons rfl (fun K hK=>?_) AllReadyH.nil)
    go_simp
    have hn1:=hn.alloc (p:=w3.heap.size) rfl 41 [.slice none 0 0] rfl
    have hp:=hn
    clear hn
    have hn:=hn1
    clear hn1
    refine hK.out _ _ (⟨hn.cell 0 0 rfl rfl,hn.cell 1 0 rfl rfl⟩) (fun hHeld2=>?_)
    clear hK K hHeld
    rename _=>hHeld
    try simp only [Act.put,stB,stZ,stS]
    refine wpAnyH_ready (rs:=[9]) (by kernel_rfl) (by simp) ?_
    refine (AllReadyH.cons rfl (fun K hK=>?_) AllReadyH.nil)
    have hc:=hn.cell 4 0 rfl rfl
    have hf:=hn.free 4 0 rfl
    go_simp
    clear hc hf
    have hn1:=hp.alloc (p:=w3.heap.size) rfl 41 [.slice a7 (lenW (m / n)) c7] rfl
    clear hn hp
    have hn:=hn1
    clear hn1
    refine hK.out _ _ (⟨hn.cell 0 0 rfl rfl,hn.cell 1 0 rfl rfl⟩) (fun hHeld2=>?_)
    clear hK K hHeld
    rename _=>hHeld
    try simp only [Act.put,stB,stZ,stS]
    refine tm 10 (some 8) ?_
    refine tm 11 (some 9) ?_
    refine wpAnyH_done (by kernel_rfl) ?_ _
    go_wp2_with fail
    go_meet
    exact ⟨_,_,_,rfl,rfl,rfl,hn⟩
   ·
    skip
    go_simp
    have hn1:=hn.alloc (p:=w2.heap.size) rfl 41 [.slice none 0 0] rfl
    have hp:=hn
    clear hn
    have hn:=hn1
    clear hn1
    refine hK.out _ _ (⟨hn.cell 0 0 rfl rfl,hn.cell 1 0 rfl rfl⟩) (fun hHeld2=>?_)
    clear hK K hHeld
    rename _=>hHeld
    try simp only [Act.put,stB,stZ,stS]
    refine wpAnyH_ready (rs:=[3]) (by kernel_rfl) (by simp) ?_
    refine (AllReadyH.cons rfl (fun K hK=>?_) AllReadyH.nil)
    go_simp
    refine (HBy.out _ (hn.nat 0 rfl)).mono ?_
    rintro e w3 ⟨a7,c7,rfl,hq,hb3⟩
    have hn1:=(hn.call hb3).got hq
    clear hn hb3 hq
    have hn:=hn1
    clear hn1
    go_wp2_with fail
    refine hK.out _ _ (⟨hn.cell 0 0 rfl rfl,hn.cell 1 0 rfl rfl⟩) (fun hHeld2=>?_)
    clear hK K hHeld
    rename _=>hHeld
    try simp only [Act.put,stB,stZ,stS]
    refine tm 4 (some 22) ?_
    refine tm 5 (some 27) ?_
    refine tm 6 (some 28) ?_
    refine tm 7 (some 29) ?_
    refine wpAnyH_ready (rs:=[9]) (by kernel_rfl) (by simp) ?_
    refine (AllReadyH.cons rfl (fun K hK=>?_) AllReadyH.nil)
    have hc:=hn.cell 4 0 rfl rfl
    have hf:=hn.free 4 0 rfl
    go_simp
    clear hc hf
    have hn1:=hn.set 4 0 rfl rfl (fun _=>by simp) (.slice a7 (lenW (m / n)) c7)
    clear hn
    have hn:=hn1
    clear hn1
    refine hK.out _ _ (⟨hn.cell 0 0 rfl rfl,hn.cell 1 0 rfl rfl⟩) (fun hHeld2=>?_)
    clear hK K hHeld
    rename _=>hHeld
    try simp only [Act.put,stB,stZ,stS]
    refine tm 10 (some 8) ?_
    refine tm 11 (some 9) ?_
    refine wpAnyH_done (by kernel_rfl) ?_ _
    go_wp2_with fail
    go_meet
    exact ⟨_,_,_,rfl,rfl,rfl,hn⟩
  ·
   skip
   go_simp
   have hn1:=hn.alloc (p:=w1.heap.size) rfl 41 [.slice none 0 0] rfl
   have hp:=hn
   clear hn
   have hn:=hn1
   clear hn1
   refine hK.out _ _ (⟨hn.cell 0 0 rfl rfl,hn.cell 1 0 rfl rfl⟩) (fun hHeld2=>?_)
   clear hK K hHeld
   rename _=>hHeld
   try simp only [Act.put,stB,stZ,stS]
   refine wpAnyH_ready (rs:=[2]) (by kernel_rfl) (by simp) ?_
   refine (AllReadyH.cons rfl (fun K hK=>?_) AllReadyH.nil)
   go_simp
   refine (HWd.out _ (hn.nat 1 rfl)).mono ?_
   rintro e w2 ⟨rfl,hb2⟩
   have hn1:=hn.call hb2
   clear hn hb2
   have hn:=hn1
   clear hn1
   go_wp2_with fail
   refine hK.out _ _ (⟨hn.cell 0 0 rfl rfl,hn.cell 1 0 rfl rfl⟩) (fun hHeld2=>?_)
   clear hK K hHeld
   rename _=>hHeld
   try simp only [Act.put,stB,stZ,stS]
   refine wpAnyH_ready (rs:=[3]) (by kernel_rfl) (by simp) ?_
   refine (AllReadyH.cons rfl (fun K hK=>?_) AllReadyH.nil)
   go_simp
   refine (HBy.out _ (hn.nat 0 rfl)).mono ?_
   rintro e w3 ⟨a7,c7,rfl,hq,hb3⟩
   have hn1:=(hn.call hb3).got hq
   clear hn hb3 hq
   have hn:=hn1
   clear hn1
   go_wp2_with fail
   refine hK.out _ _ (⟨hn.cell 0 0 rfl rfl,hn.cell 1 0 rfl rfl⟩) (fun hHeld2=>?_)
   clear hK K hHeld
   rename _=>hHeld
   try simp only [Act.put,stB,stZ,stS]
   refine tm 4 (some 22) ?_
   refine tm 5 (some 27) ?_
   refine tm 6 (some 28) ?_
   refine tm 7 (some 29) ?_
   refine wpAnyH_ready (rs:=[9]) (by kernel_rfl) (by simp) ?_
   refine (AllReadyH.cons rfl (fun K hK=>?_) AllReadyH.nil)
   have hc:=hn.cell 4 0 rfl rfl
   have hf:=hn.free 4 0 rfl
   go_simp
   clear hc hf
   have hn1:=hn.set 4 0 rfl rfl (fun _=>by simp) (.slice a7 (lenW (m / n)) c7)
   clear hn
   have hn:=hn1
   clear hn1
   refine hK.out _ _ (⟨hn.cell 0 0 rfl rfl,hn.cell 1 0 rfl rfl⟩) (fun hHeld2=>?_)
   clear hK K hHeld
   rename _=>hHeld
   try simp only [Act.put,stB,stZ,stS]
   refine tm 10 (some 8) ?_
   refine tm 11 (some 9) ?_
   refine wpAnyH_done (by kernel_rfl) ?_ _
   go_wp2_with fail
   go_meet
   exact ⟨_,_,_,rfl,rfl,rfl,hn⟩
 case rest =>
  obtain ⟨w4,rfl⟩:∃ w4:World,w4=wc:=⟨_,rfl⟩
  obtain ⟨p,a7,c7,rfl,rfl,rfl,hn⟩:=hcut
  have HN4:=qH hn
  have HOf:=qH (fun (W:World)=>show Calls Tryz.prog 68 #[.slice (some ⟨W.heap.size,0,none⟩) 1 1] (W.alloc (.cells #[UV (m % n)] 164)) (RetN (m % n) (W.alloc (.cells #[UV (m % n)] 164))) by
   have h:=of_any _ _ _ [m % n] _ (sl_one W (m % n)) (fun x hx=>by rw [List.mem_singleton.1 hx];exact HR64.out) (by omega)
   have e:val [m % n]=m % n:=by simp [val]
   rwa [e] at h)
  clear hn
  go_upto_region 3 with fail
  have hn:=HN4.out.drew
  refine wp_region_held_drew (S:=fun W=>W.cell? ⟨p,0,none⟩=some (.slice a7 (lenW (m / n)) c7)) (by kernel_rfl) (hn.cell 4 0 rfl rfl) (fun hHeld=>?_)
  refine tl 0 (some 30) ?_
  refine tm 1 (some 31) ?_
  refine tm 4 (some 34) ?_
  refine wpAnyH_ready (rs:=[2]) (by kernel_rfl) (by simp) ?_
  refine (AllReadyH.cons rfl (fun K hK=>?_) AllReadyH.nil)
  go_simp
  have hn1:=hn.call (belowBox _ (.cells #[UV (m % n)] 164))
  clear hn
  have hn:=hn1
  clear hn1
  refine hK.out _ _ (hn.cell 4 0 rfl rfl) (fun hHeld2=>?_)
  clear hK K hHeld
  rename _=>hHeld
  try simp only [Act.put,stB,stZ,stS]
  refine wpAnyH_ready (rs:=[3]) (by kernel_rfl) (by simp) ?_
  refine (AllReadyH.cons rfl (fun K hK=>?_) AllReadyH.nil)
  go_simp
  refine (HOf.out w4.drew).mono ?_
  rintro e w5 ⟨a8,c8,rfl,hq,hb5⟩
  have hn1:=(hn.call hb5).got hq
  clear hn hb5 hq
  have hn:=hn1
  clear hn1
  go_wp2_with fail
  refine hK.out _ _ (hn.cell 4 0 rfl rfl) (fun hHeld2=>?_)
  clear hK K hHeld
  rename _=>hHeld
  try simp only [Act.put,stB,stZ,stS]
  refine wpAnyH_ready (rs:=[5]) (by kernel_rfl) (by simp) ?_
  refine (AllReadyH.cons rfl (fun K hK=>?_) AllReadyH.nil)
  have hc:=hn.cell 2 0 rfl rfl
  have hf:=hn.free 2 0 rfl
  go_simp
  clear hc hf
  have hn1:=hn.set 2 0 rfl rfl (fun _=>by simp) (.slice a7 (lenW (m / n)) c7)
  clear hn
  have hn:=hn1
  clear hn1
  refine hK.out _ _ (hn.cell 4 0 rfl rfl) (fun hHeld2=>?_)
  clear hK K hHeld
  rename _=>hHeld
  try simp only [Act.put,stB,stZ,stS]
  refine wpAnyH_ready (rs:=[6]) (by kernel_rfl) (by simp) ?_
  refine (AllReadyH.cons rfl (fun K hK=>?_) AllReadyH.nil)
  have hc:=hn.cell 3 0 rfl rfl
  have hf:=hn.free 3 0 rfl
  go_simp
  clear hc hf
  have hn1:=hn.set 3 0 rfl rfl (fun _=>by simp) (.slice a8 (lenW (m % n)) c8)
  clear hn
  have hn:=hn1
  clear hn1
  refine hK.out _ _ (hn.cell 4 0 rfl rfl) (fun hHeld2=>?_)
  clear hK K hHeld
  rename _=>hHeld
  try simp only [Act.put,stB,stZ,stS]
  refine tm 7 (some 6) ?_
  refine wpAnyH_done (by kernel_rfl) ?_ _
  have h4:=hn.cell 2 0 rfl rfl
  have h5:=hn.cell 3 0 rfl rfl
  have HN:=qH hn
  clear hn
  go_wp2_with fail
  refine bodyPost_ret (v:=.tuple #[.agg #[.slice a7 (lenW (m / n)) c7],.agg #[.slice a8 (lenW (m % n)) c8],.bool true]) (by simp [results,Tryz.results200,go_sem,h4,h5]) rfl ?_
  exact ⟨a7,c7,a8,c8,rfl,HN.out.nat 2 rfl,HN.out.nat 3 rfl,HN.out.bel⟩
def RetI (z:Int) (w:World) (e:Ending) (w':World):Prop:=∃ a c,e=.returned (.agg #[.bool (decide (z<0)),.slice a (lenW z.natAbs) c])∧NatW w' a c z.natAbs∧Below w.heap.size w w'
theorem RetI.of {z:Int} {b:Bool} {n:Nat} {w w':World} {e:Ending} {a:Option Addr} {c:Nat} (h1:decide (z<0)=b) (h2:z.natAbs=n) (he:e=.returned (.agg #[.bool b,.slice a (lenW n) c])) (hn:NatW w' a c n) (hb:Below w.heap.size w w'):RetI z w e w':=by
 subst h1 h2;exact ⟨a,c,he,hn,hb⟩
theorem inew_pos (a:Option Addr) (c n:Nat) (w:World) (ha:NatW w a c n)  : Calls Tryz.prog 72 #[.bool false,.agg #[.slice a (lenW n) c]] w (RetI (newI false n) w):=by
 have hbs:BS w [⟨w.heap.size,41,[.slice a (lenW n) c]⟩,⟨w.heap.size+1,43,[.bool false,.slice none 0 0]⟩] [⟨a,c,n⟩] ((w.alloc (.cells #[.slice a (lenW n) c] 41)).alloc (.cells #[.bool false,.slice none 0 0] 43)) :=
  ((BS.begin [⟨a,c,n⟩] (fun y hy=>by rw [List.mem_singleton.1 hy];exact ha)).alloc (p:=w.heap.size) rfl 41 [.slice a (lenW n) c] rfl).alloc (p:=w.heap.size+1) (by simp) 43 [.bool false,.slice none 0 0] rfl
 obtain ⟨W0,hW0⟩:∃ W0,W0=((w.alloc (.cells #[.slice a (lenW n) c] 41)).alloc (.cells #[.bool false,.slice none 0 0] 43)):=⟨_,rfl⟩
 rw [← hW0] at hbs
 have HBS:=qH hbs
 have HW0:=qH hW0
 have HD:=qH (show decide (newI false n<0)=false by rw [newI_neg];rfl)
 skip
 clear ha hbs hW0 
 go_enter Tryz.func72,Tryz.ntmps72
 go_upto_region 1 with fail
 rw [← HW0.out]
 have hn:=HBS.out.drew
 refine wp_region_held_drew (S:=fun W=>W.cell? ⟨w.heap.size,0,none⟩=some (.slice a (lenW n) c)) (by kernel_rfl) (hn.cell 0 0 rfl rfl) (fun hHeld=>?_)
 refine tm 0 (some 5) ?_
 refine tm 1 (some 6) ?_
 refine takeH (i:=2) (d:=(some 7)) (v:=undef) rfl rfl (by kernel_rfl) (by kernel_rfl) (by kernel_rfl) (fun _ _ _ h=>h) (Or.inr ⟨by rfl,rfl⟩) (by assumption) ?_
 simp only [Act.put,stB,stZ,stS]
 refine takeH (i:=3) (d:=(some 8)) (v:=undef) rfl rfl (by kernel_rfl) (by kernel_rfl) (by kernel_rfl) (fun _ _ _ h=>h) (Or.inr ⟨by rfl,rfl⟩) (by assumption) ?_
 simp only [Act.put,stB,stZ,stS]
 refine takeH (i:=4) (d:=(some 9)) (v:=undef) rfl rfl (by kernel_rfl) (by kernel_rfl) (by kernel_rfl) (fun _ _ _ h=>h) (Or.inr ⟨by rfl,rfl⟩) (by assumption) ?_
 simp only [Act.put,stB,stZ,stS]
 refine tm 5 (some 10) ?_
 refine tl 6 (some 11) ?_
 refine tm 7 (some 12) ?_
 refine wpAnyH_ready (rs:=[8]) (by kernel_rfl) (by simp) ?_
 refine (AllReadyH.cons rfl (fun K hK=>?_) AllReadyH.nil)
 have gc:=HBS.out.cell 1 0 rfl rfl
 have gf:=HBS.out.free 1 0 rfl
 have gc1:=HBS.out.cell 1 1 rfl rfl
 have gf1:=HBS.out.free 1 1 rfl
 have hc:=hn.cell 1 0 rfl rfl
 have hf:=hn.free 1 0 rfl
 have hc1:=hn.cell 1 1 rfl rfl
 have hf1:=hn.free 1 1 rfl
 go_simp
 clear hc hf hc1 hf1 gc gf gc1 gf1
 have hn1:=(hn.set 1 0 rfl rfl (fun _=>by simp) (.bool false)).set 1 1 rfl rfl (fun _=>by simp) (.slice a (lenW n) c)
 clear hn
 have hn:=hn1
 clear hn1
 refine hK.out _ _ (hn.cell 0 0 rfl rfl) (fun hHeld2=>?_)
 clear hK K hHeld
 rename _=>hHeld
 try simp only [Act.put,stB,stZ,stS]
 refine wpAnyH_done (by kernel_rfl) ?_ _
 have h0:=hn.cell 1 0 rfl rfl
 have h1:=hn.cell 1 1 rfl rfl
 have g0:=HBS.out.cell 1 0 rfl rfl
 have g1:=HBS.out.cell 1 1 rfl rfl
 have HN:=qH hn
 clear hn
 go_wp2
 refine bodyPost_ret (v:=.agg #[.bool false,.slice a (lenW n) c]) (by simp [results,Tryz.results72,go_sem,h0,h1,g0,g1]) rfl ?_
 exact RetI.of HD.out (newI_abs _ _) rfl (HN.out.nat 0 rfl) HN.out.bel
theorem inew_neg (a:Option Addr) (c n:Nat) (w:World) (ha:NatW w a c n) (h0:n≠0):Calls Tryz.prog 72 #[.bool true,.agg #[.slice a (lenW n) c]] w (RetI (newI true n) w):=by
 have hbs:BS w [⟨w.heap.size,41,[.slice a (lenW n) c]⟩,⟨w.heap.size+1,43,[.bool false,.slice none 0 0]⟩] [⟨a,c,n⟩] ((w.alloc (.cells #[.slice a (lenW n) c] 41)).alloc (.cells #[.bool false,.slice none 0 0] 43)) :=
  ((BS.begin [⟨a,c,n⟩] (fun y hy=>by rw [List.mem_singleton.1 hy];exact ha)).alloc (p:=w.heap.size) rfl 41 [.slice a (lenW n) c] rfl).alloc (p:=w.heap.size+1) (by simp) 43 [.bool false,.slice none 0 0] rfl
 obtain ⟨W0,hW0⟩:∃ W0,W0=((w.alloc (.cells #[.slice a (lenW n) c] 41)).alloc (.cells #[.bool false,.slice none 0 0] 43)):=⟨_,rfl⟩
 rw [← hW0] at hbs
 have HBS:=qH hbs
 have HW0:=qH hW0
 have HD:=qH (show decide (newI true n<0)=true by rw [newI_neg];simp [h0])
 have HZ:=qH (fun W=>nzero_no a c n W h0)
 clear ha hbs hW0 h0
 go_enter Tryz.func72,Tryz.ntmps72
 go_upto_region 1 with fail
 rw [← HW0.out]
 have hn:=HBS.out.drew
 refine wp_region_held_drew (S:=fun W=>W.cell? ⟨w.heap.size,0,none⟩=some (.slice a (lenW n) c)) (by kernel_rfl) (hn.cell 0 0 rfl rfl) (fun hHeld=>?_)
 refine tm 0 (some 5) ?_
 refine tm 1 (some 6) ?_
 refine tl 2 (some 7) ?_
 refine tl 6 (some 11) ?_
 refine wpAnyH_ready (rs:=[3]) (by kernel_rfl) (by simp) ?_
 refine (AllReadyH.cons rfl (fun K hK=>?_) AllReadyH.nil)
 go_simp
 refine (HZ.out _).mono ?_
 rintro e w2 ⟨rfl,hb2⟩
 have hn1:=hn.call hb2
 clear hn hb2
 have hn:=hn1
 clear hn1
 go_wp2_with fail
 refine hK.out _ _ (hn.cell 0 0 rfl rfl) (fun hHeld2=>?_)
 clear hK K hHeld
 rename _=>hHeld
 try simp only [Act.put,stB,stZ,stS]
 refine tm 4 (some 9) ?_
 refine tm 5 (some 10) ?_
 refine tm 7 (some 12) ?_
 refine wpAnyH_ready (rs:=[8]) (by kernel_rfl) (by simp) ?_
 refine (AllReadyH.cons rfl (fun K hK=>?_) AllReadyH.nil)
 have gc:=HBS.out.cell 1 0 rfl rfl
 have gf:=HBS.out.free 1 0 rfl
 have gc1:=HBS.out.cell 1 1 rfl rfl
 have gf1:=HBS.out.free 1 1 rfl
 have hc:=hn.cell 1 0 rfl rfl
 have hf:=hn.free 1 0 rfl
 have hc1:=hn.cell 1 1 rfl rfl
 have hf1:=hn.free 1 1 rfl
 go_simp
 clear hc hf hc1 hf1 gc gf gc1 gf1
 have hn1:=(hn.set 1 0 rfl rfl (fun _=>by simp) (.bool true)).set 1 1 rfl rfl (fun _=>by simp) (.slice a (lenW n) c)
 clear hn
 have hn:=hn1
 clear hn1
 refine hK.out _ _ (hn.cell 0 0 rfl rfl) (fun hHeld2=>?_)
 clear hK K hHeld
 rename _=>hHeld
 try simp only [Act.put,stB,stZ,stS]
 refine wpAnyH_done (by kernel_rfl) ?_ _
 have h0:=hn.cell 1 0 rfl rfl
 have h1:=hn.cell 1 1 rfl rfl
 have g0:=HBS.out.cell 1 0 rfl rfl
 have g1:=HBS.out.cell 1 1 rfl rfl
 have HN:=qH hn
 clear hn
 go_wp2
 refine bodyPost_ret (v:=.agg #[.bool true,.slice a (lenW n) c]) (by simp [results,Tryz.results72,go_sem,h0,h1,g0,g1]) rfl ?_
 exact RetI.of HD.out (newI_abs _ _) rfl (HN.out.nat 0 rfl) HN.out.bel
theorem inew_nil (a:Option Addr) (c n:Nat) (w:World) (ha:NatW w a c n) (h0:n=0):Calls Tryz.prog 72 #[.bool true,.agg #[.slice a (lenW n) c]] w (RetI (newI true n) w):=by
 have hbs:BS w [⟨w.heap.size,41,[.slice a (lenW n) c]⟩,⟨w.heap.size+1,43,[.bool false,.slice none 0 0]⟩] [⟨a,c,n⟩] ((w.alloc (.cells #[.slice a (lenW n) c] 41)).alloc (.cells #[.bool false,.slice none 0 0] 43)) :=
  ((BS.begin [⟨a,c,n⟩] (fun y hy=>by rw [List.mem_singleton.1 hy];exact ha)).alloc (p:=w.heap.size) rfl 41 [.slice a (lenW n) c] rfl).alloc (p:=w.heap.size+1) (by simp) 43 [.bool false,.slice none 0 0] rfl
 obtain ⟨W0,hW0⟩:∃ W0,W0=((w.alloc (.cells #[.slice a (lenW n) c] 41)).alloc (.cells #[.bool false,.slice none 0 0] 43)):=⟨_,rfl⟩
 rw [← hW0] at hbs
 have HBS:=qH hbs
 have HW0:=qH hW0
 have HD:=qH (show decide (newI true n<0)=false by rw [newI_neg];simp [h0])
 have HZ:=qH (fun W=>nzero_is a c n W h0)
 clear ha hbs hW0 h0
 go_enter Tryz.func72,Tryz.ntmps72
 go_upto_region 1 with fail
 rw [← HW0.out]
 have hn:=HBS.out.drew
 refine wp_region_held_drew (S:=fun W=>W.cell? ⟨w.heap.size,0,none⟩=some (.slice a (lenW n) c)) (by kernel_rfl) (hn.cell 0 0 rfl rfl) (fun hHeld=>?_)
 refine tm 0 (some 5) ?_
 refine tm 1 (some 6) ?_
 refine tl 2 (some 7) ?_
 refine tl 6 (some 11) ?_
 refine wpAnyH_ready (rs:=[3]) (by kernel_rfl) (by simp) ?_
 refine (AllReadyH.cons rfl (fun K hK=>?_) AllReadyH.nil)
 go_simp
 refine (HZ.out _).mono ?_
 rintro e w2 ⟨rfl,hb2⟩
 have hn1:=hn.call hb2
 clear hn hb2
 have hn:=hn1
 clear hn1
 go_wp2_with fail
 refine hK.out _ _ (hn.cell 0 0 rfl rfl) (fun hHeld2=>?_)
 clear hK K hHeld
 rename _=>hHeld
 try simp only [Act.put,stB,stZ,stS]
 refine tm 4 (some 9) ?_
 refine tm 5 (some 10) ?_
 refine tm 7 (some 12) ?_
 refine wpAnyH_ready (rs:=[8]) (by kernel_rfl) (by simp) ?_
 refine (AllReadyH.cons rfl (fun K hK=>?_) AllReadyH.nil)
 have gc:=HBS.out.cell 1 0 rfl rfl
 have gf:=HBS.out.free 1 0 rfl
 have gc1:=HBS.out.cell 1 1 rfl rfl
 have gf1:=HBS.out.free 1 1 rfl
 have hc:=hn.cell 1 0 rfl rfl
 have hf:=hn.free 1 0 rfl
 have hc1:=hn.cell 1 1 rfl rfl
 have hf1:=hn.free 1 1 rfl
 go_simp
 clear hc hf hc1 hf1 gc gf gc1 gf1
 have hn1:=(hn.set 1 0 rfl rfl (fun _=>by simp) (.bool false)).set 1 1 rfl rfl (fun _=>by simp) (.slice a (lenW n) c)
 clear hn
 have hn:=hn1
 clear hn1
 refine hK.out _ _ (hn.cell 0 0 rfl rfl) (fun hHeld2=>?_)
 clear hK K hHeld
 rename _=>hHeld
 try simp only [Act.put,stB,stZ,stS]
 refine wpAnyH_done (by kernel_rfl) ?_ _
 have h0:=hn.cell 1 0 rfl rfl
 have h1:=hn.cell 1 1 rfl rfl
 have g0:=HBS.out.cell 1 0 rfl rfl
 have g1:=HBS.out.cell 1 1 rfl rfl
 have HN:=qH hn
 clear hn
 go_wp2
 refine bodyPost_ret (v:=.agg #[.bool false,.slice a (lenW n) c]) (by simp [results,Tryz.results72,go_sem,h0,h1,g0,g1]) rfl ?_
 exact RetI.of HD.out (newI_abs _ _) rfl (HN.out.nat 0 rfl) HN.out.bel
theorem inew_any (sg:Bool) (a:Option Addr) (c n:Nat) (w:World) (ha:NatW w a c n):Calls Tryz.prog 72 #[.bool sg,.agg #[.slice a (lenW n) c]] w (RetI (newI sg n) w):=by
 cases sg with
 | false=>exact inew_pos a c n w ha
 | true =>
  by_cases h:n=0
  ·
   exact inew_nil a c n w ha h
  ·
   exact inew_neg a c n w ha h
theorem one_words (x:Nat) (w:World) (hx:x<W64) {g:Nat} (hg:w.heap.size=g):Calls Tryz.prog 68 #[.slice (some ⟨g,0,none⟩) 1 1] (w.alloc (.cells #[UV x] 164)) (RetN x (w.alloc (.cells #[UV x] 164))):=by
 subst hg
 have h:=of_any _ _ _ [x] _ (sl_one w x) (fun y hy=>by rw [List.mem_singleton.1 hy];exact hx) (by omega)
 have e:val [x]=x:=by simp [val]
 rwa [e] at h
theorem iof_pos (x:Nat) (w:World) (hx:x<W64) (h:(x:Int)≤9223372036854775807):Calls Tryz.prog 122 #[.int .i64 (x:Int)] w (RetI ((x:Int)) w):=by
 have HO:=qH (one_words x (w.alloc (.cells #[.bool false,.slice none 0 0] 43)) hx (g:=w.heap.size+1) (by simp))
 have HNW:=qH (fun a c (W:World) (h:NatW W a c x)=>inew_any false a c x W h)
 have HZ:=qH (show newI false x=(x:Int) by exact newI_false x)
 have hcv:IntKind.u64.wrap ((x:Nat):Int)=(x:Int):=by rw [IntKind.wrap_u64];unfold W64 at hx;omega
 have h0:(0:Int)≤(x:Int):=by omega
 have hx':=hx
 unfold W64 at hx'
 clear hx
 have hbs:BS w [⟨w.heap.size,43,[.bool false,.slice none 0 0]⟩] [] ((w.alloc (.cells #[.bool false,.slice none 0 0] 43)).alloc (.cells #[UV x] 164)) :=
  ((BS.start w).alloc (p:=w.heap.size) rfl 43 [.bool false,.slice none 0 0] rfl).call (belowBox _ _)
 have HBS:=qH hbs
 clear hbs
 go_enter Tryz.func122,Tryz.ntmps122
 go_wp2_with fail
 refine HO.out.mono ?_
 rintro e w1 ⟨a1,c1,rfl,hq,hb1⟩
 have HN1:=qH ((HBS.out.call hb1).got hq)
 clear hb1 hq HBS
 go_wp2_with fail
 refine (HNW.out _ _ _ (HN1.out.nat 0 rfl)).mono ?_
 rintro e w2 ⟨a2,c2,rfl,hq,hb2⟩
 rw [HZ.out] at hq ⊢
 have hn:=((HN1.out.call hb2).got hq)
 have k0:=hn.cell 0 0 rfl rfl
 have k1:=hn.cell 0 1 rfl rfl
 have f0:=hn.free 0 0 rfl
 have f1:=hn.free 0 1 rfl
 obtain ⟨bz,hbz⟩:∃ b,decide (((x:Int):Int)<0)=b:=⟨_,rfl⟩
 obtain ⟨nz,hnz⟩:∃ b,((x:Int):Int).natAbs=b:=⟨_,rfl⟩
 have HB:=qH hbz
 have HNz:=qH hnz
 rw [hbz,hnz]
 rw [hnz] at hn
 have hn2:=(hn.set 0 0 rfl rfl (fun _=>by simp) (.bool bz)).set 0 1 rfl rfl (fun _=>by simp) (.slice a2 (lenW nz) c2)
 have HN2:=qH hn2
 have j0:=hn2.cell 0 0 rfl rfl
 have j1:=hn2.cell 0 1 rfl rfl
 clear hn hn2 hb2 hq hbz hnz
 go_wp2_with fail
 refine bodyPost_ret (v:=.agg #[.bool bz,.slice a2 (lenW nz) c2]) (by simp [results,Tryz.results122,go_sem,k0,k1,j0,j1]) rfl ?_
 exact RetI.of HB.out HNz.out rfl (HN2.out.nat 1 rfl) HN2.out.bel
theorem iof_neg (x:Nat) (w:World) (hx:x<W64) (h:(x:Int)≤9223372036854775808) (hp:0<(x:Int)):Calls Tryz.prog 122 #[.int .i64 (-(x:Int))] w (RetI ((-(x:Int))) w):=by
 have HO:=qH (one_words x (w.alloc (.cells #[.bool false,.slice none 0 0] 43)) hx (g:=w.heap.size+1) (by simp))
 have HNW:=qH (fun a c (W:World) (h:NatW W a c x)=>inew_any true a c x W h)
 have HZ:=qH (show newI true x=(-(x:Int)) by exact newI_true x)
 have hng:-(x:Int)<0:=by omega
 have hcv:IntKind.u64.wrap (-(x:Int))=((W64 - x:Nat):Int):=by rw [IntKind.wrap_u64];unfold W64 at *;omega
 have hcn:IntKind.u64.wrap (-((W64 - x:Nat):Int))=(x:Int):=by rw [IntKind.wrap_u64];unfold W64 at *;omega
 have hx':=hx
 unfold W64 at hx'
 clear hx
 have hbs:BS w [⟨w.heap.size,43,[.bool false,.slice none 0 0]⟩] [] ((w.alloc (.cells #[.bool false,.slice none 0 0] 43)).alloc (.cells #[UV x] 164)) :=
  ((BS.start w).alloc (p:=w.heap.size) rfl 43 [.bool false,.slice none 0 0] rfl).call (belowBox _ _)
 have HBS:=qH hbs
 clear hbs
 go_enter Tryz.func122,Tryz.ntmps122
 go_wp2_with fail
 refine HO.out.mono ?_
 rintro e w1 ⟨a1,c1,rfl,hq,hb1⟩
 have HN1:=qH ((HBS.out.call hb1).got hq)
 clear hb1 hq HBS
 go_wp2_with fail
 refine (HNW.out _ _ _ (HN1.out.nat 0 rfl)).mono ?_
 rintro e w2 ⟨a2,c2,rfl,hq,hb2⟩
 rw [HZ.out] at hq ⊢
 have hn:=((HN1.out.call hb2).got hq)
 have k0:=hn.cell 0 0 rfl rfl
 have k1:=hn.cell 0 1 rfl rfl
 have f0:=hn.free 0 0 rfl
 have f1:=hn.free 0 1 rfl
 obtain ⟨bz,hbz⟩:∃ b,decide (((-(x:Int)):Int)<0)=b:=⟨_,rfl⟩
 obtain ⟨nz,hnz⟩:∃ b,((-(x:Int)):Int).natAbs=b:=⟨_,rfl⟩
 have HB:=qH hbz
 have HNz:=qH hnz
 rw [hbz,hnz]
 rw [hnz] at hn
 have hn2:=(hn.set 0 0 rfl rfl (fun _=>by simp) (.bool bz)).set 0 1 rfl rfl (fun _=>by simp) (.slice a2 (lenW nz) c2)
 have HN2:=qH hn2
 have j0:=hn2.cell 0 0 rfl rfl
 have j1:=hn2.cell 0 1 rfl rfl
 clear hn hn2 hb2 hq hbz hnz
 go_wp2_with fail
 refine bodyPost_ret (v:=.agg #[.bool bz,.slice a2 (lenW nz) c2]) (by simp [results,Tryz.results122,go_sem,k0,k1,j0,j1]) rfl ?_
 exact RetI.of HB.out HNz.out rfl (HN2.out.nat 1 rfl) HN2.out.bel
theorem iof_any (z:Int) (w:World) (h1:-9223372036854775808≤z) (h2:z≤9223372036854775807):Calls Tryz.prog 122 #[.int .i64 z] w (RetI z w):=by
 by_cases h:z<0
 ·
  obtain ⟨x,hx⟩:∃ x:Nat,-z=x:=⟨z.natAbs,by omega⟩
  obtain rfl:z=-(x:Int):=by omega
  exact iof_neg x w (by unfold W64;omega) (by omega) (by omega)
 ·
  obtain ⟨x,rfl⟩:∃ x:Nat,z=x:=⟨z.natAbs,by omega⟩
  exact iof_pos x w (by unfold W64;omega) h2
theorem iabs_any (sg:Bool) (a:Option Addr) (c n:Nat) (w:World):Calls Tryz.prog 46 #[.agg #[.bool sg,.slice a (lenW n) c]] w fun e w'=>e=.returned (.agg #[.slice a (lenW n) c])∧Below w.heap.size w w':=by
 go_enter Tryz.func46,Tryz.ntmps46
 go_wp2
 refine bodyPost_ret (v:=.agg #[.slice a (lenW n) c]) (by simp [results,Tryz.results46,go_sem]) rfl ?_
 exact ⟨rfl,belowBox2 _ _ _⟩
theorem ibelow_any (sg:Bool) (a:Option Addr) (c n:Nat) (w:World):Calls Tryz.prog 136 #[.agg #[.bool sg,.slice a (lenW n) c]] w fun e w'=>e=.returned (.bool sg)∧Below w.heap.size w w':=by
 go_enter Tryz.func136,Tryz.ntmps136
 go_wp2
 go_ret
 exact ⟨rfl,belowBox _ _⟩
def signZ (z:Int):Int:=if z<0 then -1 else if z=0 then 0 else 1
theorem isign_neg (a:Option Addr) (c n:Nat) (w:World):Calls Tryz.prog 109 #[.agg #[.bool true,.slice a (lenW n) c]] w fun e w'=>e=.returned (.int .i64 (-1))∧Below w.heap.size w w':=by
 go_enter Tryz.func109,Tryz.ntmps109
 go_wp2
 go_ret
 exact ⟨rfl,belowBox _ _⟩
theorem isign_pos (a:Option Addr) (c n:Nat) (w:World) (h0:n≠0):Calls Tryz.prog 109 #[.agg #[.bool false,.slice a (lenW n) c]] w fun e w'=>e=.returned (.int .i64 1)∧Below w.heap.size w w':=by
 have HZ:=qH (fun W=>nzero_no a c n W h0)
 clear h0
 go_enter Tryz.func109,Tryz.ntmps109
 go_wp2_with fail
 refine (HZ.out _).mono ?_
 rintro e w1 ⟨rfl,hb1⟩
 go_wp2_with fail
 go_ret
 exact ⟨rfl,bthen (belowBox _ _) hb1⟩
theorem isign_nil (a:Option Addr) (c n:Nat) (w:World) (h0:n=0):Calls Tryz.prog 109 #[.agg #[.bool false,.slice a (lenW n) c]] w fun e w'=>e=.returned (.int .i64 0)∧Below w.heap.size w w':=by
 have HZ:=qH (fun W=>nzero_is a c n W h0)
 clear h0
 go_enter Tryz.func109,Tryz.ntmps109
 go_wp2_with fail
 refine (HZ.out _).mono ?_
 rintro e w1 ⟨rfl,hb1⟩
 go_wp2_with fail
 go_ret
 exact ⟨rfl,bthen (belowBox _ _) hb1⟩
theorem isign_any (z:Int) (a:Option Addr) (c:Nat) (w:World):Calls Tryz.prog 109 #[.agg #[.bool (decide (z<0)),.slice a (lenW z.natAbs) c]] w fun e w'=>e=.returned (.int .i64 (signZ z))∧Below w.heap.size w w':=by
 unfold signZ
 by_cases h:z<0
 ·
  rw [decide_eq_true h,if_pos h];exact isign_neg a c _ w
 ·
  rw [decide_eq_false h,if_neg h]
  by_cases h0:z=0
  ·
   rw [if_pos h0];exact isign_nil a c _ w (by omega)
  ·
   rw [if_neg h0];exact isign_pos a c _ w (by omega)
def MulUpto (K:Nat):Prop:=∀ (a b:Option Addr) (c d m n:Nat) (w:World),NatW w a c m→NatW w b d n→lenW m+lenW n≤K→Calls Tryz.prog 189 #[.agg #[.slice a (lenW m) c],.agg #[.slice b (lenW n) d]] w (RetN (m*n) w)
theorem mul_lo (a b:Option Addr) (c d m n:Nat) (w:World) (ha:NatW w a c m) (hb:NatW w b d n) (hs:lenW m+lenW n≤17592186044416) (h8:lenW m<8) (hle:lenW m≤lenW n):Calls Tryz.prog 189 #[.agg #[.slice a (lenW m) c],.agg #[.slice b (lenW n) d]] w (RetN (m*n) w):=by
 have hb0:=below3 w (.cells #[.slice a (lenW m) c] 41) (.cells #[.slice b (lenW n) d] 41) (.cells #[.slice none 0 0] 41)
 obtain ⟨e0,e1,e2⟩:=heap3 w (.cells #[.slice a (lenW m) c] 41) (.cells #[.slice b (lenW n) d] 41) (.cells #[.slice none 0 0] 41)
 have hLA:=fun W=>nlen_any a c m W
 have hLB:=fun W=>nlen_any b d n W
 have hSC:=fun W (h1:NatW W a c m) (h2:NatW W b d n)=>school_any a b c d m n W h1 h2 hs
 have hx:=ha.below hb0
 have hy:=hb.below hb0
 obtain ⟨la,hla⟩:∃ la,lenW m=la:=⟨_,rfl⟩
 obtain ⟨lb,hlb⟩:∃ lb,lenW n=lb:=⟨_,rfl⟩
 have h8b:la<8:=by omega
 have hleb:la≤lb:=by omega
 clear h8 hle
 rw [hla] at e0 e1 e2 hLA hSC
 rw [hlb] at e0 e1 e2 hLB hSC
 rw [hla,hlb] at hb0 hx hy ⊢
 obtain ⟨W0,hW0⟩:∃ W0,W0=((w.alloc (.cells #[.slice a la c] 41)).alloc (.cells #[.slice b lb d] 41)).alloc (.cells #[.slice none 0 0] 41):=⟨_,rfl⟩
 rw [← hW0] at e0 e1 e2 hx hy hb0
 have hbd:Below W0.heap.size W0 W0.drew:=(Below.refl _ _).drew
 have HKS:=qH (fun (W:World) (h:Below W0.heap.size W0 W)=>(⟨(h.cell (p:=⟨_,0,none⟩) (lt_of_block e0)).trans (cell_of_block e0 rfl),(h.cell (p:=⟨_,0,none⟩) (lt_of_block e1)).trans (cell_of_block e1 rfl)⟩:W.cell? ⟨w.heap.size,0,none⟩=some (.slice a la c)∧W.cell? ⟨w.heap.size+1,0,none⟩=some (.slice b lb d)))
 have HR:=qH (fun (W:World) (h:Below W0.heap.size W0 W)=>(⟨(h.cell (p:=⟨_,0,none⟩) (lt_of_block e2)).trans (cell_of_block e2 rfl),(h.frozen (p:=⟨_,0,none⟩) (lt_of_block e2)).trans (free_of_block e2)⟩:W.cell? ⟨w.heap.size+1+1,0,none⟩=some (.slice none 0 0)∧W.frozen? ⟨w.heap.size+1+1,0,none⟩=false))
 have HLA:=qH (fun (W:World) (h:Below W0.heap.size W0 W)=>(hLA W).mono fun e w' (k:_∧_)=>(⟨k.1,bthen h k.2⟩:e=.returned (.int .i64 la)∧Below W0.heap.size W0 w'))
 have HLB:=qH (fun (W:World) (h:Below W0.heap.size W0 W)=>(hLB W).mono fun e w' (k:_∧_)=>(⟨k.1,bthen h k.2⟩:e=.returned (.int .i64 lb)∧Below W0.heap.size W0 w'))
 have HSC:=qH (fun (W:World) (h:Below W0.heap.size W0 W)=>hSC W (hx.below h) (hy.below h))
 have HB0:=qH hb0
 have HBD:=qH hbd
 have HW0:=qH hW0
 have q1:(la:Int)≤17592186044416:=by omega
 have q2:(lb:Int)≤17592186044416:=by omega
 clear hla hlb hW0 e0 e1 e2 hLA hLB hSC hx hy hb0 hbd ha hb hs
 go_enter Tryz.func189,Tryz.ntmps189
 go_upto_region 1 with fail
 rw [← HW0.out]
 go_cut [20] (fun v20 wx=>v20=.bool true∧Below W0.heap.size W0 wx)
 case first =>
  go_region_held3 (fun W=>W.cell? ⟨w.heap.size,0,none⟩=some (.slice a la c)∧W.cell? ⟨w.heap.size+1,0,none⟩=some (.slice b lb d)) (first | exact HKS.out _ HBD.out | exact HKS.out _ (by assumption)) (first
   | (go_at_call_of 162 (Value.agg #[Value.slice a la c]);refine (HLA.out _ (by first | exact HBD.out | assumption)).mono ?_;rintro e w1 ⟨rfl,hb1⟩)
   | (go_at_call_of 162 (Value.agg #[Value.slice b lb d]);refine (HLB.out _ (by first | assumption | exact HBD.out)).mono ?_;rintro e w2 ⟨rfl,hb2⟩))
  all_goals
   go_wp2_with fail
   go_meet
   exact ⟨by first | rfl | (simp;omega),by assumption⟩
 case rest =>
  obtain ⟨w1,rfl⟩:∃ w1:World,w1=wc:=⟨_,rfl⟩
  obtain ⟨rfl,hb1⟩:=hcut
  obtain ⟨k0,k1⟩:=HKS.out _ hb1
  obtain ⟨k2,f2⟩:=HR.out _ hb1
  have HB1:=qH hb1
  clear hb1
  go_wp2_with fail
  refine (HSC.out _ HB1.out).mono ?_
  rintro e w4 ⟨a2,c2,rfl,hn2,hb2⟩
  have k3:=((bcell hb2).1 _ _ (World.block_lt_of_cell? _ _ k2)).trans k2
  have f3:=((bcell hb2).2 _ _ (World.block_lt_of_cell? _ _ k2)).trans f2
  have HNN:=qH hn2
  have HB2:=qH hb2
  clear hn2 hb2 HSC k2 f2 k0 k1
  go_wp2_with fail
  refine bodyPost_ret (v:=.agg #[.slice a2 (lenW (m*n)) c2]) (by simp [results,Tryz.results189,go_sem,k3]) rfl ?_
  exact ⟨a2,c2,rfl,HNN.out.set k3 (fun _=>by simp) _,((HB0.out.trans (HB1.out.mono HB0.out.size)).trans (HB2.out.mono (HB0.out.trans (HB1.out.mono HB0.out.size)).size)).setCell (by simp;omega) _⟩
theorem mul_hi8 (a b:Option Addr) (c d m n:Nat) (w:World) (ha:NatW w a c m) (hb:NatW w b d n) (hs:lenW m+lenW n≤17592186044416) (h8:lenW n<8) (hle:lenW n<lenW m):Calls Tryz.prog 189 #[.agg #[.slice a (lenW m) c],.agg #[.slice b (lenW n) d]] w (RetN (m*n) w):=by
 have hb0:=below3 w (.cells #[.slice a (lenW m) c] 41) (.cells #[.slice b (lenW n) d] 41) (.cells #[.slice none 0 0] 41)
 obtain ⟨e0,e1,e2⟩:=heap3 w (.cells #[.slice a (lenW m) c] 41) (.cells #[.slice b (lenW n) d] 41) (.cells #[.slice none 0 0] 41)
 have hLA:=fun W=>nlen_any a c m W
 have hLB:=fun W=>nlen_any b d n W
 have hSC:=fun W (h1:NatW W a c m) (h2:NatW W b d n)=>school_any a b c d m n W h1 h2 hs
 have hx:=ha.below hb0
 have hy:=hb.below hb0
 obtain ⟨la,hla⟩:∃ la,lenW m=la:=⟨_,rfl⟩
 obtain ⟨lb,hlb⟩:∃ lb,lenW n=lb:=⟨_,rfl⟩
 have h8b:lb<8:=by omega
 have hleb:lb<la:=by omega
 clear h8 hle
 rw [hla] at e0 e1 e2 hLA hSC
 rw [hlb] at e0 e1 e2 hLB hSC
 rw [hla,hlb] at hb0 hx hy ⊢
 obtain ⟨W0,hW0⟩:∃ W0,W0=((w.alloc (.cells #[.slice a la c] 41)).alloc (.cells #[.slice b lb d] 41)).alloc (.cells #[.slice none 0 0] 41):=⟨_,rfl⟩
 rw [← hW0] at e0 e1 e2 hx hy hb0
 have hbd:Below W0.heap.size W0 W0.drew:=(Below.refl _ _).drew
 have HKS:=qH (fun (W:World) (h:Below W0.heap.size W0 W)=>(⟨(h.cell (p:=⟨_,0,none⟩) (lt_of_block e0)).trans (cell_of_block e0 rfl),(h.cell (p:=⟨_,0,none⟩) (lt_of_block e1)).trans (cell_of_block e1 rfl)⟩:W.cell? ⟨w.heap.size,0,none⟩=some (.slice a la c)∧W.cell? ⟨w.heap.size+1,0,none⟩=some (.slice b lb d)))
 have HR:=qH (fun (W:World) (h:Below W0.heap.size W0 W)=>(⟨(h.cell (p:=⟨_,0,none⟩) (lt_of_block e2)).trans (cell_of_block e2 rfl),(h.frozen (p:=⟨_,0,none⟩) (lt_of_block e2)).trans (free_of_block e2)⟩:W.cell? ⟨w.heap.size+1+1,0,none⟩=some (.slice none 0 0)∧W.frozen? ⟨w.heap.size+1+1,0,none⟩=false))
 have HLA:=qH (fun (W:World) (h:Below W0.heap.size W0 W)=>(hLA W).mono fun e w' (k:_∧_)=>(⟨k.1,bthen h k.2⟩:e=.returned (.int .i64 la)∧Below W0.heap.size W0 w'))
 have HLB:=qH (fun (W:World) (h:Below W0.heap.size W0 W)=>(hLB W).mono fun e w' (k:_∧_)=>(⟨k.1,bthen h k.2⟩:e=.returned (.int .i64 lb)∧Below W0.heap.size W0 w'))
 have HSC:=qH (fun (W:World) (h:Below W0.heap.size W0 W)=>hSC W (hx.below h) (hy.below h))
 have HB0:=qH hb0
 have HBD:=qH hbd
 have HW0:=qH hW0
 have q1:(la:Int)≤17592186044416:=by omega
 have q2:(lb:Int)≤17592186044416:=by omega
 clear hla hlb hW0 e0 e1 e2 hLA hLB hSC hx hy hb0 hbd ha hb hs
 go_enter Tryz.func189,Tryz.ntmps189
 go_upto_region 1 with fail
 rw [← HW0.out]
 go_cut [20] (fun v20 wx=>v20=.bool true∧Below W0.heap.size W0 wx)
 case first =>
  go_region_held3 (fun W=>W.cell? ⟨w.heap.size,0,none⟩=some (.slice a la c)∧W.cell? ⟨w.heap.size+1,0,none⟩=some (.slice b lb d)) (first | exact HKS.out _ HBD.out | exact HKS.out _ (by assumption)) (first
   | (go_at_call_of 162 (Value.agg #[Value.slice a la c]);refine (HLA.out _ (by first | exact HBD.out | assumption)).mono ?_;rintro e w1 ⟨rfl,hb1⟩)
   | (go_at_call_of 162 (Value.agg #[Value.slice b lb d]);refine (HLB.out _ (by first | assumption | exact HBD.out)).mono ?_;rintro e w2 ⟨rfl,hb2⟩))
  all_goals
   go_wp2_with fail
   go_meet
   exact ⟨by first | rfl | (simp;omega),by assumption⟩
 case rest =>
  obtain ⟨w1,rfl⟩:∃ w1:World,w1=wc:=⟨_,rfl⟩
  obtain ⟨rfl,hb1⟩:=hcut
  obtain ⟨k0,k1⟩:=HKS.out _ hb1
  obtain ⟨k2,f2⟩:=HR.out _ hb1
  have HB1:=qH hb1
  clear hb1
  go_wp2_with fail
  refine (HSC.out _ HB1.out).mono ?_
  rintro e w4 ⟨a2,c2,rfl,hn2,hb2⟩
  have k3:=((bcell hb2).1 _ _ (World.block_lt_of_cell? _ _ k2)).trans k2
  have f3:=((bcell hb2).2 _ _ (World.block_lt_of_cell? _ _ k2)).trans f2
  have HNN:=qH hn2
  have HB2:=qH hb2
  clear hn2 hb2 HSC k2 f2 k0 k1
  go_wp2_with fail
  refine bodyPost_ret (v:=.agg #[.slice a2 (lenW (m*n)) c2]) (by simp [results,Tryz.results189,go_sem,k3]) rfl ?_
  exact ⟨a2,c2,rfl,HNN.out.set k3 (fun _=>by simp) _,((HB0.out.trans (HB1.out.mono HB0.out.size)).trans (HB2.out.mono (HB0.out.trans (HB1.out.mono HB0.out.size)).size)).setCell (by simp;omega) _⟩
theorem mul_small (a b:Option Addr) (c d m n:Nat) (w:World) (ha:NatW w a c m) (hb:NatW w b d n) (hs:lenW m+lenW n≤17592186044416) (h8:lenW m<8∨lenW n<8):Calls Tryz.prog 189 #[.agg #[.slice a (lenW m) c],.agg #[.slice b (lenW n) d]] w (RetN (m*n) w):=by
 by_cases h:lenW m≤lenW n
 ·
  exact mul_lo a b c d m n w ha hb hs (by omega) h
 ·
  exact mul_hi8 a b c d m n w ha hb hs (by omega) (by omega)
end Go.Proofs.YtmhainidincjhaaGreatDoor
