/-
 What the laws stand on, part O: contracts and plain laws of Kit, Bulk, DOpen, POpen, MOpen; the conditions are each law's own.
-/
import Derived.Test.YtmhainidincjhaaGreatDoorRows
import Derived.Test.YtmhainidincjhaaGreatDoorAF
import Derived.ProofKit
import Derived.LaidHandle
import Derived.LaidLaws
import Derived.Carry
import Derived.Deep.DeepHandedRow
import Derived.Test.YtmhainidincjhaaGreatDoorAV
import Derived.Deep.Slices
import Derived.Test.YtmhainidincjhaaGreatDoorAL
import Derived.ChangeSame
import Derived.ChangeMaps5
import Derived.Test.YtmhainidincjhaaGreatDoorAU
set_option linter.unusedVariables false
set_option linter.unusedSimpArgs false
set_option maxRecDepth 100000
set_option maxHeartbeats 16000000
namespace Go.Proofs.YtmhainidincjhaaGreatDoor
open Go.ChangeShapes Go.WideShapes Go.ChangeAt Go.RowKit
section
variable {H : Type} {enc : TypeId × Value → H} {P : Program}
theorem trodAll_below (hl:laidOutB P=true) {W W':World} (hb:Below W.heap.size W W') :
  ∀ (ts:List TypeId) (vs:List Value) (ds:List (DataW H)) (ps:List MemPlace),(∀ t,t∈ts→P.readableRec t=true∧t<P.types.size)→(∀ x,x∈ps→x.block<W.heap.size) →
   DataW.TrodAll enc P W 0 (fun _=>true) true ts vs ds ps→DataW.TrodAll enc P W' 0 (fun b=>decide (b<W.heap.size)) true ts vs ds ps
 | [],[],[],_,_,_,h=>h
 | [],[],_::_,_,_,_,h=>h.elim
 | [],_::_,_,_,_,_,h=>by cases h
 | _::_,[],_,_,_,_,h=>by cases h
 | _::_,_::_,[],_,_,_,h=>by cases h
 | t::ts,v::vs,d::ds,ps,hr,hlt,h=>by
  obtain ⟨p,q,h1,h2,rfl⟩:=h
  exact ⟨p,q,Below.trod hl (hr t (by simp)).1 (hr t (by simp)).2 h1 hb (fun x hx=>hlt x (by simp [hx])),trodAll_below hl hb ts vs ds q (fun u hu=>hr u (by simp [hu])) (fun x hx=>hlt x (by simp [hx])) h2,rfl⟩
theorem law_post {f:Func} {s:ChangeSpec} {apart fresh handsOn:Bool} {W W':World} {args:Array Value} {ds gs:List (DataW H)} {before:List MemPlace} {tb:TypeId}
  (hl:laidOutB P=true) (hr:∀ t,t∈f.params.toList→P.readableRec t=true∧t<P.types.size) (hres:f.resultTypes=#[tb]) (htb:P.underlying tb=some .bool) (hvars:s.vars=[])
  (hW:DataW.Whole enc P f.params.toList s.vars apart W args.toList ds gs before) (hfn:s.fn H (ds++gs)={ results:=[.lit (.bool true)],args:=ds }) (hb:Below W.heap.size W W') :
  s.post enc P f apart fresh handsOn false W args (.bool true) W':=by
 have hW':=hW
 obtain ⟨p,q,hA,hV,rfl,_,_⟩:=hW
 rw [hvars] at hV
 have hlt:∀ x,x∈p→x.block<W.heap.size:=fun x hx=>hW'.lt x (by simp [hx])
 refine ⟨ds,gs,_,[],p,[],hW',?_,?_,?_,hb.frame _,fun h=>by cases h⟩
 ·
  rw [hfn,hres];exact trodAll_mk1 (shut_bool htb true)
 ·
  rw [hfn];exact trodAll_below hl hb _ _ _ _ hr hlt hA
 ·
  rw [hfn,hvars];rfl
end
theorem own:ownKnob Tryz.prog.godebug=none:=by kernel_rfl
theorem laidOut:laidOutB Tryz.prog=true:=by kernel_rfl
theorem Tryz.et:Tryz.prog.globalNamed "errors.errorType" = some 0:=by kernel_rfl
theorem Tryz.rt:(Tryz.prog.cutTypes.find? (·.1 == "internal/reflectlite.rtype")).map (·.2)=some 265:=by kernel_rfl
theorem Tryz.oneRow:((List.range 358).filter fun t=>Tryz.prog.rowNamed t [101,114,114,111,114])=[34]:=by kernel_rfl
theorem Tryz.size:Tryz.prog.types.size=358:=by kernel_rfl
abbrev laidList:List (String × DataW Unit):=[("errors.errorType",Rows.laid_errors_errorType)]
theorem handle_of_laid {W:World} (h:laidMetH Tryz.prog laidList W):Hg W:=by
 have h':laidMet Tryz.prog [] W∧handlesMet Tryz.prog laidList W:=h
 obtain ⟨name,u,ty,e1,e2,e3,e4,e5⟩:=h'.2 _ (List.mem_singleton.2 rfl)
 have en:name=[101,114,114,111,114]:=(Option.some.inj e1).symm
 subst en
 obtain rfl:=Option.some.inj (Tryz.rt.symm.trans e2)
 have hm:ty∈(List.range 358).filter fun t=>Tryz.prog.rowNamed t [101,114,114,111,114]:=List.mem_filter.2 ⟨List.mem_range.2 (by rw [← Tryz.size];exact e3),e4⟩
 rw [Tryz.oneRow] at hm
 obtain rfl:=List.mem_singleton.1 hm
 have hh:typeHandle Tryz.prog 34=.pointer (some ⟨2,34,none⟩):=by kernel_rfl
 rw [hh] at e5
 have:=World.var?_cell Tryz.et e5 0
 unfold Hg
 simpa using this
noncomputable def laidWorld (os:Os):World :=
 let w0:=World.holding Tryz.prog os ⟨#[],#[],[]⟩
 { w0 with heap:=w0.heap.modify 0 fun
   | .cells _ t frozen=>.cells #[.iface 265 (.agg #[.pointer (some ⟨2,34,none⟩)])] t frozen
   | o=>o }
theorem laid_met (os:Os) (args:Array Value):laidMetH Tryz.prog laidList ((laidWorld os).forCall (fun _ _=>0) ⟨#[],args,[]⟩).memory :=
 laidMetH_of_parts (laidMet_nil _ _) (by kernel_rfl)
end Go.Proofs.YtmhainidincjhaaGreatDoor
namespace Go.Proofs.YtmhainidincjhaaGreatDoor.bulks
theorem one_le {H:Type} (d:DataW H):1≤Rows.uptoBulk d:=by
 cases d with
 | lit l=>cases l <;> simp [Rows.uptoBulk]
 | nil=>simp [Rows.uptoBulk]
 | ptr d=>simp [Rows.uptoBulk]
 | slice elems spare=>simp [Rows.uptoBulk]
 | agg parts=>simp [Rows.uptoBulk]
 | iface t d=>simp [Rows.uptoBulk]
 | map entries=>simp [Rows.uptoBulk]
 | held h=>simp [Rows.uptoBulk]
theorem append {H:Type} (l r:List (DataW H)):Rows.uptoBulkAll (l++r)=Rows.uptoBulkAll l+Rows.uptoBulkAll r:=by
 induction l with
 | nil=>simp [Rows.uptoBulkAll]
 | cons x l ih=>simp only [List.cons_append,Rows.uptoBulkAll,ih];omega
theorem length_le {H:Type} (l:List (DataW H)):l.length≤Rows.uptoBulkAll l:=by
 induction l with
 | nil=>simp [Rows.uptoBulkAll]
 | cons x r ih=>have:=one_le x;simp only [Rows.uptoBulkAll,List.length_cons];omega
theorem slice_le {H:Type} (elems spare:List (DataW H)):elems.length+spare.length+1≤Rows.uptoBulk (.slice elems spare):=by
 have h1:=length_le elems
 have h2:=length_le spare
 simp only [Rows.uptoBulk]
 omega
end Go.Proofs.YtmhainidincjhaaGreatDoor.bulks
namespace Go.Proofs.YtmhainidincjhaaGreatDoor
open Go.ChangeShapes Go.WideShapes Go.ChangeAt Go.RowKit
def Byt (xs:List Int):Prop:=∀ x,x∈xs→0≤x∧x≤255
theorem Byt.nil:Byt []:=fun _ h=>by cases h
theorem Tryz.cellsU8:Tryz.prog.cellsOf 5=1:=by kernel_rfl
section
variable {H : Type} {enc : TypeId × Value → H} {W : World} {base : Nat} {spare : Nat → Bool} {held : Bool}
theorem lit_u8 {n:Int} (h:(Lit.int .u8 n).wf=true):0≤n∧n≤255:=by
 simp only [Lit.wf,Bool.and_eq_true,decide_eq_true_eq] at h
 exact h
theorem len_lits {k:IntKind} (zs:List Int):(lits (H:=H) k zs).length=zs.length:=by unfold lits;simp
theorem cell_spot {w:World} {a:Addr} {u:Value} (h:w.cell? a=some u):a=⟨a.block,a.off,none⟩:=by
 unfold World.cell? at h
 split at h
 ·
  split at h
  ·
   cases h
  ·
   obtain ⟨x,y,z⟩:=a
   cases z with
   | none=>rfl
   | some _=>simp_all
 ·
  cases h
theorem cell_add {w:World} {a:Addr} {n:Nat} {f:Nat→Value} (h:∀ i,i<n→w.cell? (a.add i)=some (f i)) (hn:0<n):a=⟨a.block,a.off,none⟩∧a.block<w.heap.size∧∀ i,i<n→w.cell? ⟨a.block,a.off+i,none⟩=some (f i):=by
 have h0:=h 0 hn
 rw [show a.add 0=a from rfl] at h0
 have e:=cell_spot h0
 refine ⟨e,World.block_lt_of_cell? _ _ h0,fun i hi=>?_⟩
 have:=h i hi
 rw [e] at this
 rw [Addr.add_lit] at this
 exact this
theorem bytes_trod {fuel:Nat} {cs:List Value} {x:DataW H × List MemPlace} (h:DataW.trod enc Tryz.prog W base spare held fuel 32 cs=some x) :
  ∃ v xs,cs=[v]∧Bytes W v xs∧Byt xs∧xs.length+1≤Rows.uptoBulk x.1:=by
 rcases open_ints Tryz.underlying32 Tryz.underlying5 Tryz.cellsU8 h with ⟨rfl,rfl⟩ | ⟨a,len,cap,zs,rfl,_,hl,hm,hz,rfl,hc,hw⟩
 ·
  exact ⟨_,[],rfl,⟨rfl,.inl ⟨none,0,rfl,rfl,Nat.zero_le _,fun _=>rfl⟩⟩,Byt.nil,by simp [Rows.uptoBulk]⟩
 ·
  have hlz:len≤zs.length:=by rw [hz];split <;> omega
  have htl:(zs.take len).length=len:=by rw [List.length_take];omega
  refine ⟨_,zs.take len,rfl,?_,fun x hx=>?_,?_⟩
  ·
   unfold Bytes
   rw [htl]
   refine ⟨by simp;omega,?_⟩
   rcases Nat.eq_zero_or_pos len with rfl | hp
   ·
    exact .inl ⟨_,_,rfl,rfl,hm,fun h=>by cases h⟩
   ·
    obtain ⟨e,hb,hc'⟩:=cell_add hc (by omega)
    refine .inr ⟨a.block,a.off,cap,by rw [← e],hl,hm,hb,fun j u hj=>?_⟩
    rw [List.getElem?_map,List.getElem?_take] at hj
    split at hj
    ·
     rename_i hjl
     have:=hc' j (by omega)
     rw [this,← hj]
     simp [List.getD,List.getElem?_eq_getElem (show j<zs.length by omega)]
    ·
     cases hj
  ·
   have:=hw x (List.mem_of_mem_take hx)
   exact lit_u8 this
  ·
   have:=bulks.slice_le (H:=H) (lits .u8 (zs.take len)) (lits .u8 (zs.drop len))
   rw [len_lits,len_lits] at this
   show (zs.take len).length+1≤Rows.uptoBulk (DataW.slice (lits .u8 (zs.take len)) (lits .u8 (zs.drop len)))
   omega
theorem bytes_open {v:Value} {d:DataW H} {ps:List MemPlace} {r:Reach} {b0:Nat} (hv:Value.okWide Tryz.prog W r b0 32 v) (h:DataW.Trod enc Tryz.prog W base spare held 32 v d ps) :
  ∃ xs,Bytes W v xs∧Byt xs∧xs.length+1≤Rows.uptoBulk d:=by
 obtain ⟨a,len,cap,rfl⟩:=okWide_slice Tryz.underlying32 hv
 obtain ⟨fuel,hf⟩:=h
 obtain ⟨v,xs,e,hb,hx,hu⟩:=bytes_trod hf
 have e':v=.slice a len cap:=by simpa [Value.cells] using e.symm
 subst e'
 exact ⟨xs,hb,hx,hu⟩
theorem bytesN_of {v:Value} {xs:List Int} {w:World} (h:Bytes w v xs) (hx:Byt xs):BytesN w v (xs.map Int.toNat)∧∀ x,x∈xs.map Int.toNat→x<256:=by
 have e:(xs.map Int.toNat).map BN=xs.map B8:=by
  rw [List.map_map]
  apply List.map_congr_left
  intro x hm
  have:=hx x hm
  show Value.int .u8 ((x.toNat:Nat):Int)=.int .u8 x
  rw [show ((x.toNat:Nat):Int)=x by omega]
 refine ⟨?_,fun y hy=>?_⟩
 ·
  unfold BytesN
  rw [e,List.length_map]
  exact h
 ·
  obtain ⟨x,hm,rfl⟩:=List.mem_map.1 hy
  have:=hx x hm
  omega
theorem bytesN_open {v:Value} {d:DataW H} {ps:List MemPlace} {r:Reach} {b0:Nat} (hv:Value.okWide Tryz.prog W r b0 32 v) (h:DataW.Trod enc Tryz.prog W base spare held 32 v d ps) :
  ∃ (a:Option Addr) (n c:Nat) (l:List Nat),v=.slice a n c∧BytesN W (.slice a n c) l∧(∀ x,x∈l→x<256)∧n+1≤Rows.uptoBulk d:=by
 obtain ⟨xs,hb,hx,hu⟩:=bytes_open hv h
 obtain ⟨h1,h2⟩:=bytesN_of hb hx
 obtain ⟨a,len,cap,rfl⟩:=okWide_slice Tryz.underlying32 hv
 have hl:=h1.len
 rw [List.length_map] at hl
 exact ⟨a,len,cap,_,rfl,h1,h2,by omega⟩
end
theorem two {α:Type} (l:List α) (h:l.length=2):∃ a b,l=[a,b]:=by
 match l,h with
 | [a,b],_=>exact ⟨a,b,rfl⟩
section
variable {H : Type} {enc : TypeId × Value → H} {W : World} {base : Nat} {spare : Nat → Bool} {held : Bool}
end
instance:Inhabited RawE:=⟨⟨0,false,none,0,0,none,0,0,[],[]⟩⟩
section
variable {H : Type} {enc : TypeId × Value → H} {W : World} {base : Nat} {spare : Nat → Bool} {held : Bool}
end
end Go.Proofs.YtmhainidincjhaaGreatDoor
