/-
 What the laws stand on, part L: contracts and plain laws of LAwake, LAwake2, LPart, LShort, LOne; the conditions are each law's own.
-/
import Derived.Test.YtmhainidincjhaaGreatDoorBX
import Derived.Test.YtmhainidincjhaaGreatDoorBV
import Derived.Test.YtmhainidincjhaaGreatDoorBY
import Derived.Test.YtmhainidincjhaaGreatDoorBR
import Derived.Test.YtmhainidincjhaaGreatDoorBM
import Derived.Lib.SlicesS
import Derived.IntWalk
import Derived.Test.YtmhainidincjhaaGreatDoorBA
set_option linter.unusedVariables false
set_option linter.unusedSimpArgs false
set_option maxRecDepth 100000
set_option maxHeartbeats 16000000
namespace Go.Proofs.YtmhainidincjhaaGreatDoor
open Go.RowKit Go.Extern.Stop Go.Stop Go.Extern
def SB (w:World) (a:Option Addr) (n c:Nat) (l:List Nat):Prop:=BytesN w (.slice a n c) l
theorem SB.lt {w:World} {a:Option Addr} {n c:Nat} {l:List Nat} (_:SB w a n c l):True:=trivial
theorem SB.below {w w':World} {a:Option Addr} {n c:Nat} {l:List Nat} (h:SB w a n c l) (hb:Below w.heap.size w w') (_:True):SB w' a n c l:=BytesN.below h hb
theorem wd_small {n:Nat} (h:n<W64):lenW n≤1:=lenW_le (m:=1) (by rw [Nat.pow_one];exact h)
structure PartW (w:World) (a:Option Addr) (n c:Nat) (b:Option Addr) (m d:Nat) (xs ys:List Nat):Prop where
 num:Sl w 1 (.slice a n c) n (xs.map UV)
 den:Sl w 1 (.slice b m d) m (ys.map UV)
 nw:∀ x∈xs,x<W64
 dw:∀ x∈ys,x<W64
 ns:n≤1048576
 ds:m≤1048576
theorem PartW.below {w w':World} {a b:Option Addr} {n c m d:Nat} {xs ys:List Nat} (h:PartW w a n c b m d xs ys) (hb:Below w.heap.size w w'):PartW w' a n c b m d xs ys:=⟨Sl.below h.num hb,Sl.below h.den hb,h.nw,h.dw,h.ns,h.ds⟩
theorem PartW.make {w:World} {a b:Option Addr} {n c m d:Nat} {xs ys:List Nat} (h:PartW w a n c b m d xs ys) (sg:Bool) (W:World) (hb:Below w.heap.size w W):Calls Tryz.prog 26 #[.agg #[.bool sg,.slice a n c,.slice b m d]] W (RetRV (ratG sg xs ys) W) :=
 make8_any sg a b n c m d xs ys W (Sl.below h.num hb) (Sl.below h.den hb) h.nw h.dw (by have:=h.ns;omega) (by have:=h.ds;omega)
theorem PartW.size {w:World} {a b:Option Addr} {n c m d:Nat} {xs ys:List Nat} (h:PartW w a n c b m d xs ys) (sg:Bool):lenW (ratG sg xs ys).num.natAbs≤1048576∧lenW (ratG sg xs ys).den≤1048577:=by
 have hl1:xs.length=n:=by have:=h.num.1;rw [List.length_map,Nat.mul_one] at this;exact this
 have hl2:ys.length=m:=by have:=h.den.1;rw [List.length_map,Nat.mul_one] at this;exact this
 have v1:=val_words h.nw
 have v2:=val_words h.dw
 have hd0:=denG_ne ys
 have hs1:=h.ns
 have hs2:=h.ds
 have hz:((denG ys:Nat):Int)≠0:=by omega
 have e1:=num_le (newI sg (val xs)) ((denG ys:Nat):Int) hz
 have e2:=den_le (newI sg (val xs)) ((denG ys:Nat):Int) hz
 rw [newI_abs] at e1
 rw [Int.natAbs_natCast] at e2
 have hdl:lenW (denG ys)≤1048577:=by
  unfold denG
  split
  ·
   exact Nat.le_trans (wd_small (by unfold W64;omega)) (by omega)
  ·
   omega
 unfold ratG
 exact ⟨by omega,by omega⟩
theorem BytesN.pre {w:World} {a:Option Addr} {n c:Nat} {l:List Nat} (h:BytesN w (.slice a n c) l) (k:Nat) (hk:k≤n):BytesN w (.slice a k c) (l.take k):=by
 have hn:=h.len.1
 subst hn
 unfold BytesN
 rw [List.length_take,Nat.min_eq_left hk]
 refine ⟨by rw [List.length_map,List.length_take];omega,?_⟩
 obtain ⟨a',c',e,hnc,hcm,h0⟩:=Sl.len h
 cases e
 by_cases h0k:k=0
 ·
  subst h0k
  exact .inl ⟨_,_,rfl,rfl,hcm,h0⟩
 ·
  obtain ⟨b,o,c'',e,_,_,hlt,hc⟩:=Sl.plain h (by omega)
  cases e
  refine .inr ⟨b,o,_,rfl,by omega,by omega,hlt,fun j u hj=>hc j u ?_⟩
  rw [List.map_take,List.getElem?_take] at hj
  split at hj
  ·
   exact hj
  ·
   cases hj
theorem foldl_push (l:List Nat) (r:ByteArray):(l.map Int.ofNat).foldl (fun r n=>r.push (UInt8.ofNat n.toNat)) r=⟨r.data++(l.map UInt8.ofNat).toArray⟩:=by
 induction l generalizing r with
 | nil=>simp
 | cons x l ih =>
  rw [List.map_cons,List.foldl_cons,ih]
  congr 1
  simp [ByteArray.push]
theorem conv_any (a:Option Addr) (n c:Nat) (l:List Nat) (W:World) (h:BytesN W (.slice a n c) l):(convert 32 9 (.slice a n c)).run Tryz.prog W=.ok (.string (strB l)) W:=by
 have hn:=h.len.1
 subst hn
 rw [run_convert_bytes_string W 32 9 5 a _ c Tryz.underlying32 Tryz.underlying5 Tryz.underlying9]
 have key:∀ ad,(∀ j u,(l.map BN)[j]?=some u→W.cell? (ad.add j)=some u)→(Conv.bytesToString (.slice (some ad) l.length c)).run Tryz.prog W=.ok (.string (strB l)) W:=fun ad hc=>by
  have h1:=run_loadCells_list (P:=Tryz.prog) W ad (l.map BN) hc
  rw [List.length_map] at h1
  have h2:(l.map BN)=(l.map Int.ofNat).map (Value.int .u8):=by rw [List.map_map];rfl
  rw [h2] at h1
  rw [run_bytesToString W ad l.length c (l.map Int.ofNat) h1,foldl_push]
  simp [strB,ByteArray.empty,ByteArray.emptyWithCapacity]
  rfl
 rcases h.2 with ⟨a',c',e,hn,_⟩ | ⟨b,o,c',e,_,_,_,h4⟩
 ·
  have hl:l=[]:=List.length_eq_zero_iff.1 hn
  subst hl
  cases a with
  | none=>rfl
  | some ad=>exact key ad fun j u hj=>by cases hj
 ·
  cases e
  exact key _ fun j u hj=>by rw [Addr.add_lit];exact h4 j u hj
theorem enc_err_at {q:Rat} {f:Flt} (h:encR q=.error f):∃ x,f=⟨3,some x⟩:=by
 unfold encR at h
 split at h
 ·
  cases h
 ·
  split at h
  ·
   injection h with h;exact ⟨_,h.symm⟩
  ·
   split at h
   ·
    injection h with h;exact ⟨_,h.symm⟩
   ·
    cases h
theorem enc_small {q:Rat} {l:List Nat} (h:encR q=.ok l):ndig 256 q.num.natAbs≤255∧(q.den≠1→ndig 256 q.den≤255)∧l.length≤513:=by
 by_cases h1:255<ndig 256 q.num.natAbs∨(q.den≠1∧255<ndig 256 q.den)
 ·
  obtain ⟨f,hf,_⟩:=(enc_size q).1 h1
  rw [h] at hf;cases hf
 ·
  obtain ⟨l2,hl,hlen⟩:=(enc_size q).2 h1
  rw [h] at hl
  injection hl with hl
  subst hl
  have h2:ndig 256 q.num.natAbs≤255:=by omega
  have h3:q.den≠1→ndig 256 q.den≤255:=fun hd=>by
   by_cases h4:255<ndig 256 q.den
   ·
    exact absurd (Or.inr ⟨hd,h4⟩) h1
   ·
    omega
  refine ⟨h2,h3,?_⟩
  rw [hlen]
  split
  ·
   omega
  ·
   split
   ·
    omega
   ·
    rename_i hd
    have:=h3 hd
    omega
theorem ErrW.iface {w:World} {v:Value} {f:Flt} (h:ErrW w v f):∃ T u,v=.iface T u:=by
 obtain ⟨n,x⟩:=f
 cases x with
 | none=>exact ⟨_,_,h⟩
 | some x=>obtain ⟨b,hv,_⟩:=h;exact ⟨_,_,hv⟩
def OptE (k:Bool) (v:Value):Prop:=if k then v=.nilIface else ∃ T u,v=.iface T u
theorem OptE.ok {v:Value} (h:OptE true v):v=.nilIface:=h
theorem OptE.err {v:Value} (h:OptE false v):∃ T u,v=.iface T u:=h
theorem OptE.eql {k:Bool} {v:Value} (h:OptE k v) (w:World):(binOp .eql 34 v .nilIface).run Tryz.prog w=.ok (.bool k) w:=by
 cases k with
 | true=>rw [h.ok];kernel_rfl
 | false=>obtain ⟨T,u,rfl⟩:=h.err;kernel_rfl
theorem OptE.guard {k:Bool} {v:Value} (h:OptE k v) (op:BinOp) (t:TypeId) (x:Nat) (w:World):(eqGuard op t (.tmp x) (.const .nilIface) v .nilIface).run Tryz.prog w=.ok () w:=by
 cases k with
 | true=>rw [h.ok];cases op <;> rfl
 | false=>obtain ⟨T,u,rfl⟩:=h.err;cases op <;> rfl
def OS (w:World) (k:Bool) (v:Value) (a:Option Addr) (n c:Nat) (l:List Nat):Prop:=OptE k v∧SB w a n c l
theorem OS.lt {w:World} {k:Bool} {v:Value} {a:Option Addr} {n c:Nat} {l:List Nat} (_:OS w k v a n c l):True:=trivial
theorem OS.below {w w':World} {k:Bool} {v:Value} {a:Option Addr} {n c:Nat} {l:List Nat} (h:OS w k v a n c l) (hb:Below w.heap.size w w') (_:True):OS w' k v a n c l:=⟨h.1,h.2.below hb trivial⟩
end Go.Proofs.YtmhainidincjhaaGreatDoor
