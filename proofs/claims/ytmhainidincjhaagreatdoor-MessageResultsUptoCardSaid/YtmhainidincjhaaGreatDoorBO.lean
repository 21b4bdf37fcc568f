/-
 What the laws stand on, part O: contracts and plain laws of Kit, Bulk, DOpen, POpen, MOpen, TOpen; the conditions are each law's own.
-/
import Derived.Test.YtmhainidincjhaaGreatDoorRows
import Derived.Test.YtmhainidincjhaaGreatDoorBF
import Derived.ProofKit
import Derived.LaidHandle
import Derived.LaidLaws
import Derived.Carry
import Derived.Deep.DeepHandedRow
import Derived.Test.YtmhainidincjhaaGreatDoorBV
import Derived.Deep.Slices
import Derived.Test.YtmhainidincjhaaGreatDoorBL
import Derived.ChangeSame
import Derived.ChangeMaps5
import Derived.Test.YtmhainidincjhaaGreatDoorBU
import Derived.Test.YtmhainidincjhaaGreatDoorBXc
set_option linter.unusedVariables false
set_option linter.unusedSimpArgs false
set_option maxRecDepth 100000
set_option maxHeartbeats 16000000
namespace Go.Proofs.YtmhainidincjhaaGreatDoor
open Go.ChangeShapes Go.WideShapes Go.ChangeAt Go.RowKit
section
variable {H : Type} {enc : TypeId × Value → H} {P : Program}
theorem trodAll_below (hl:laidOutB P=true) {W W':World} (hb:Below W.heap.size W W') :
  ∀ (ts:List TypeId) (vs:List Value) (ds:List (DataW H)) (ps:List MemPlace),(∀ t,t∈ts→P.readableRec t=true∧t<P.types.size)→(∀ x,x∈ps→x.block<W.heap.size) →
   DataW.TrodAll enc P W 0 (fun _=>true) true ts vs ds ps→DataW.TrodAll enc P W' 0 (fun b=>decide (b<W.heap.size)) true ts vs ds ps
 | [],[],[],_,_,_,h=>h
 | [],[],_::_,_,_,_,h=>h.elim
 | [],_::_,_,_,_,_,h=>by cases h
 | _::_,[],_,_,_,_,h=>by cases h
 | _::_,_::_,[],_,_,_,h=>by cases h
 | t::ts,v::vs,d::ds,ps,hr,hlt,h=>by
  obtain ⟨p,q,h1,h2,rfl⟩:=h
  exact ⟨p,q,Below.trod hl (hr t (by simp)).1 (hr t (by simp)).2 h1 hb (fun x hx=>hlt x (by simp [hx])),trodAll_below hl hb ts vs ds q (fun u hu=>hr u (by simp [hu])) (fun x hx=>hlt x (by simp [hx])) h2,rfl⟩
theorem law_post {f:Func} {s:ChangeSpec} {apart fresh handsOn:Bool} {W W':World} {args:Array Value} {ds gs:List (DataW H)} {before:List MemPlace} {tb:TypeId}
  (hl:laidOutB P=true) (hr:∀ t,t∈f.params.toList→P.readableRec t=true∧t<P.types.size) (hres:f.resultTypes=#[tb]) (htb:P.underlying tb=some .bool) (hvars:s.vars=[])
  (hW:DataW.Whole enc P f.params.toList s.vars apart W args.toList ds gs before) (hfn:s.fn H (ds++gs)={ results:=[.lit (.bool true)],args:=ds }) (hb:Below W.heap.size W W') :
  s.post enc P f apart fresh handsOn false W args (.bool true) W':=by
 have hW':=hW
 obtain ⟨p,q,hA,hV,rfl,_,_⟩:=hW
 rw [hvars] at hV
 have hlt:∀ x,x∈p→x.block<W.heap.size:=fun x hx=>hW'.lt x (by simp [hx])
 refine ⟨ds,gs,_,[],p,[],hW',?_,?_,?_,hb.frame _,fun h=>by cases h⟩
 ·
  rw [hfn,hres];exact trodAll_mk1 (shut_bool htb true)
 ·
  rw [hfn];exact trodAll_below hl hb _ _ _ _ hr hlt hA
 ·
  rw [hfn,hvars];rfl
end
theorem own:ownKnob Tryz.prog.godebug=none:=by kernel_rfl
theorem laidOut:laidOutB Tryz.prog=true:=by kernel_rfl
theorem Tryz.et:Tryz.prog.globalNamed "errors.errorType" = some 0:=by kernel_rfl
theorem Tryz.rt:(Tryz.prog.cutTypes.find? (·.1 == "internal/reflectlite.rtype")).map (·.2)=some 265:=by kernel_rfl
theorem Tryz.oneRow:((List.range 358).filter fun t=>Tryz.prog.rowNamed t [101,114,114,111,114])=[34]:=by kernel_rfl
theorem Tryz.size:Tryz.prog.types.size=358:=by kernel_rfl
abbrev laidList:List (String × DataW Unit):=[("errors.errorType",Rows.laid_errors_errorType)]
theorem handle_of_laid {W:World} (h:laidMetH Tryz.prog laidList W):Hg W:=by
 have h':laidMet Tryz.prog [] W∧handlesMet Tryz.prog laidList W:=h
 obtain ⟨name,u,ty,e1,e2,e3,e4,e5⟩:=h'.2 _ (List.mem_singleton.2 rfl)
 have en:name=[101,114,114,111,114]:=(Option.some.inj e1).symm
 subst en
 obtain rfl:=Option.some.inj (Tryz.rt.symm.trans e2)
 have hm:ty∈(List.range 358).filter fun t=>Tryz.prog.rowNamed t [101,114,114,111,114]:=List.mem_filter.2 ⟨List.mem_range.2 (by rw [← Tryz.size];exact e3),e4⟩
 rw [Tryz.oneRow] at hm
 obtain rfl:=List.mem_singleton.1 hm
 have hh:typeHandle Tryz.prog 34=.pointer (some ⟨2,34,none⟩):=by kernel_rfl
 rw [hh] at e5
 have:=World.var?_cell Tryz.et e5 0
 unfold Hg
 simpa using this
noncomputable def laidWorld (os:Os):World :=
 let w0:=World.holding Tryz.prog os ⟨#[],#[],[]⟩
 { w0 with heap:=w0.heap.modify 0 fun
   | .cells _ t frozen=>.cells #[.iface 265 (.agg #[.pointer (some ⟨2,34,none⟩)])] t frozen
   | o=>o }
theorem laid_met (os:Os) (args:Array Value):laidMetH Tryz.prog laidList ((laidWorld os).forCall (fun _ _=>0) ⟨#[],args,[]⟩).memory :=
 laidMetH_of_parts (laidMet_nil _ _) (by kernel_rfl)
end Go.Proofs.YtmhainidincjhaaGreatDoor
namespace Go.Proofs.YtmhainidincjhaaGreatDoor.bulks
theorem one_le {H:Type} (d:DataW H):1≤Rows.uptoBulk d:=by
 cases d with
 | lit l=>cases l <;> simp [Rows.uptoBulk]
 | nil=>simp [Rows.uptoBulk]
 | ptr d=>simp [Rows.uptoBulk]
 | slice elems spare=>simp [Rows.uptoBulk]
 | agg parts=>simp [Rows.uptoBulk]
 | iface t d=>simp [Rows.uptoBulk]
 | map entries=>simp [Rows.uptoBulk]
 | held h=>simp [Rows.uptoBulk]
theorem part_le {H:Type} {d:DataW H} {l:List (DataW H)} (h:d∈l):Rows.uptoBulk d≤Rows.uptoBulkAll l:=by
 induction l with
 | nil=>cases h
 | cons x r ih =>
  simp only [Rows.uptoBulkAll]
  cases List.mem_cons.1 h with
  | inl e=>subst e;omega
  | inr e=>have:=ih e;omega
theorem append {H:Type} (l r:List (DataW H)):Rows.uptoBulkAll (l++r)=Rows.uptoBulkAll l+Rows.uptoBulkAll r:=by
 induction l with
 | nil=>simp [Rows.uptoBulkAll]
 | cons x l ih=>simp only [List.cons_append,Rows.uptoBulkAll,ih];omega
theorem length_le {H:Type} (l:List (DataW H)):l.length≤Rows.uptoBulkAll l:=by
 induction l with
 | nil=>simp [Rows.uptoBulkAll]
 | cons x r ih=>have:=one_le x;simp only [Rows.uptoBulkAll,List.length_cons];omega
theorem slice_le {H:Type} (elems spare:List (DataW H)):elems.length+spare.length+1≤Rows.uptoBulk (.slice elems spare):=by
 have h1:=length_le elems
 have h2:=length_le spare
 simp only [Rows.uptoBulk]
 omega
theorem slice_elems {H:Type} (elems spare:List (DataW H)):Rows.uptoBulkAll elems+1≤Rows.uptoBulk (.slice elems spare):=by
 simp only [Rows.uptoBulk]
 omega
theorem string_eq {H:Type} (bytes:List UInt8):Rows.uptoBulk (DataW.lit (H:=H) (.string bytes))=bytes.length+1:=by
 simp [Rows.uptoBulk]
theorem bound {H:Type} {l:List (DataW H)} (hk:Rows.uptoSmall H l=true):Rows.uptoBulkAll l≤1048576:=by
 simpa [Rows.uptoSmall] using hk
end Go.Proofs.YtmhainidincjhaaGreatDoor.bulks
namespace Go.Proofs.YtmhainidincjhaaGreatDoor
open Go.ChangeShapes Go.WideShapes Go.ChangeAt Go.RowKit
def Byt (xs:List Int):Prop:=∀ x,x∈xs→0≤x∧x≤255
theorem Byt.nil:Byt []:=fun _ h=>by cases h
section
variable {H : Type} {enc : TypeId × Value → H} {W : World} {base : Nat} {spare : Nat → Bool} {held : Bool}
theorem len_lits {k:IntKind} (zs:List Int):(lits (H:=H) k zs).length=zs.length:=by unfold lits;simp
theorem cell_spot {w:World} {a:Addr} {u:Value} (h:w.cell? a=some u):a=⟨a.block,a.off,none⟩:=by
 unfold World.cell? at h
 split at h
 ·
  split at h
  ·
   cases h
  ·
   obtain ⟨x,y,z⟩:=a
   cases z with
   | none=>rfl
   | some _=>simp_all
 ·
  cases h
theorem cell_add {w:World} {a:Addr} {n:Nat} {f:Nat→Value} (h:∀ i,i<n→w.cell? (a.add i)=some (f i)) (hn:0<n):a=⟨a.block,a.off,none⟩∧a.block<w.heap.size∧∀ i,i<n→w.cell? ⟨a.block,a.off+i,none⟩=some (f i):=by
 have h0:=h 0 hn
 rw [show a.add 0=a from rfl] at h0
 have e:=cell_spot h0
 refine ⟨e,World.block_lt_of_cell? _ _ h0,fun i hi=>?_⟩
 have:=h i hi
 rw [e] at this
 rw [Addr.add_lit] at this
 exact this
end
theorem Tryz.cellsTP:Tryz.prog.cellsOf 26=3:=by kernel_rfl
theorem Tryz.cellsTWH:Tryz.prog.cellsOf 24=2:=by kernel_rfl
theorem Tryz.cellsTWS:Tryz.prog.cellsOf 22=1:=by kernel_rfl
theorem Tryz.cellsTW:Tryz.prog.cellsOf 164=1:=by kernel_rfl
theorem Tryz.cellsTBO:Tryz.prog.cellsOf 4=1:=by kernel_rfl
theorem lit_u64 {n:Int} (h:(Lit.int .u64 n).wf=true):0≤n∧n≤18446744073709551615:=by
 simp only [Lit.wf,Bool.and_eq_true,decide_eq_true_eq] at h
 exact h
theorem two {α:Type} (l:List α) (h:l.length=2):∃ a b,l=[a,b]:=by
 match l,h with
 | [a,b],_=>exact ⟨a,b,rfl⟩
theorem three {α:Type} (l:List α) (h:l.length=3):∃ a b c,l=[a,b,c]:=by
 match l,h with
 | [a,b,c],_=>exact ⟨a,b,c,rfl⟩
def Words (w:World) (a:Option Addr) (n c:Nat) (xs:List Nat):Prop:=Sl w 1 (.slice a n c) n (xs.map UV)∧∀ x∈xs,x<W64
section
variable {H : Type} {enc : TypeId × Value → H} {W : World} {base : Nat} {spare : Nat → Bool} {held : Bool}
theorem words_trod {fuel:Nat} {cs:List Value} {x:DataW H × List MemPlace} (h:DataW.trod enc Tryz.prog W base spare held fuel 22 cs=some x) :
  ∃ (a:Option Addr) (n c:Nat) (xs:List Nat),cs=[.slice a n c]∧Words W a n c xs∧n+1≤Rows.uptoBulk x.1:=by
 rcases open_ints Tryz.underlying22 Tryz.underlying164 Tryz.cellsTW h with ⟨rfl,rfl⟩ | ⟨a,len,cap,zs,rfl,_,hl,hm,hz,rfl,hc,hw⟩
 ·
  exact ⟨none,0,0,[],rfl,⟨⟨rfl,.inl ⟨none,0,rfl,rfl,Nat.zero_le _,fun _=>rfl⟩⟩,fun _ h=>by cases h⟩,by simp [Rows.uptoBulk]⟩
 ·
  have hlz:len≤zs.length:=by rw [hz];split <;> omega
  have htl:(zs.take len).length=len:=by rw [List.length_take];omega
  have hwd:∀ x,x∈zs→0≤x∧x≤18446744073709551615:=fun x hx=>lit_u64 (hw x hx)
  refine ⟨some a,len,cap,(zs.take len).map Int.toNat,rfl,⟨?_,fun x hx=>?_⟩,?_⟩
  ·
   refine ⟨by rw [List.length_map,List.length_map];omega,?_⟩
   rcases Nat.eq_zero_or_pos len with rfl | hp
   ·
    exact .inl ⟨_,_,rfl,rfl,hm,fun h=>by cases h⟩
   ·
    obtain ⟨e,hb,hc'⟩:=cell_add hc (by omega)
    refine .inr ⟨a.block,a.off,cap,by rw [← e],hl,hm,hb,fun j u hj=>?_⟩
    rw [List.getElem?_map,List.getElem?_map,List.getElem?_take] at hj
    split at hj
    ·
     rename_i hjl
     have h1:=hc' j (by omega)
     have hjz:j<zs.length:=by omega
     rw [List.getElem?_eq_getElem hjz] at hj
     have h2:=hwd _ (List.getElem_mem hjz)
     rw [h1,← hj]
     simp only [Option.map_some,List.getD,List.getElem?_eq_getElem hjz,Option.getD_some]
     show some (Value.int IntKind.u64 _)=some (Value.int IntKind.u64 _)
     rw [Int.toNat_of_nonneg h2.1]
    ·
     cases hj
  ·
   obtain ⟨y,hy,rfl⟩:=List.mem_map.1 hx
   have:=hwd y (List.mem_of_mem_take hy)
   unfold W64
   omega
  ·
   have:=bulks.slice_le (H:=H) (lits .u64 (zs.take len)) (lits .u64 (zs.drop len))
   rw [len_lits,len_lits] at this
   show len+1≤Rows.uptoBulk (DataW.slice (lits .u64 (zs.take len)) (lits .u64 (zs.drop len)))
   omega
theorem part_trod {fuel:Nat} {cs:List Value} {x:DataW H × List MemPlace} (h:DataW.trod enc Tryz.prog W base spare held fuel 26 cs=some x) :
  ∃ (sg:Bool) (a:Option Addr) (n c:Nat) (b:Option Addr) (m d:Nat) (xs ys:List Nat),cs=[.bool sg,.slice a n c,.slice b m d]∧Words W a n c xs∧Words W b m d ys∧n+m+2≤Rows.uptoBulk x.1:=by
 obtain ⟨ds,k,_,rfl,hl,hxl,hf⟩:=DataW.trod_struct Tryz.underlying26 h
 rw [Tryz.cellsTP] at hl
 obtain ⟨c0,c1,c2,rfl⟩:=three cs hl
 obtain ⟨y0,y1,rfl⟩:=two ds hxl
 have h0:DataW.trod enc Tryz.prog W base spare held k 24 (([c0,c1,c2].drop 0).take (Tryz.prog.cellsOf 24))=some y0:=hf 0 _ rfl
 have h1:DataW.trod enc Tryz.prog W base spare held k 22 (([c0,c1,c2].drop 2).take (Tryz.prog.cellsOf 22))=some y1:=hf 1 _ rfl
 clear hf
 rw [Tryz.cellsTWH] at h0
 rw [Tryz.cellsTWS] at h1
 obtain ⟨es,k2,_,e9,hl2,hxl2,hf2⟩:=DataW.trod_struct Tryz.underlying24 h0
 obtain ⟨z0,z1,rfl⟩:=two es hxl2
 have g0:DataW.trod enc Tryz.prog W base spare held k2 4 ((([c0,c1,c2].drop 0).take 2 |>.drop 0).take (Tryz.prog.cellsOf 4))=some z0:=hf2 0 _ rfl
 have g1:DataW.trod enc Tryz.prog W base spare held k2 22 ((([c0,c1,c2].drop 0).take 2 |>.drop 1).take (Tryz.prog.cellsOf 22))=some z1:=hf2 1 _ rfl
 clear hf2
 rw [Tryz.cellsTBO] at g0
 rw [Tryz.cellsTWS] at g1
 obtain ⟨sg,e0,_⟩:=DataW.trod_bool Tryz.underlying4 g0
 obtain ⟨a,n,c,xs,e1,hw1,hb1⟩:=words_trod g1
 obtain ⟨b,m,d,ys,e2,hw2,hb2⟩:=words_trod h1
 simp at e0 e1 e2
 subst e0 e1 e2
 refine ⟨sg,a,n,c,b,m,d,xs,ys,rfl,hw1,hw2,?_⟩
 have hy:y0.1=.agg [z0.1,z1.1]:=congrArg Prod.fst e9
 have hz0:=bulks.one_le z0.1
 simp only [Rows.uptoBulk,List.map_cons,List.map_nil,Rows.uptoBulkAll,hy]
 omega
theorem partW_of {a b:Option Addr} {n c m e B:Nat} {xs ys:List Nat} (h1:Words W a n c xs) (h2:Words W b m e ys) (hb:n+m+2≤B) (hB:B≤1048576):PartW W a n c b m e xs ys :=
 ⟨h1.1,h2.1,h1.2,h2.2,by omega,by omega⟩
end
theorem Tryz.cellsTI:Tryz.prog.cellsOf 3=1:=by kernel_rfl
theorem Tryz.cellsTS:Tryz.prog.cellsOf 9=1:=by kernel_rfl
instance:Inhabited RawE:=⟨⟨0,false,none,0,0,none,0,0,[],[]⟩⟩
theorem sl_of {α:Type} {W:World} {a:Addr} {len cap:Nat} (g:α→List Value) (k:Nat) (hk:∀ x,(g x).length=k) (hk0:0<k) (f:Nat→α) (hl:len≤cap) (hm:cap≤maxLen) (h:∀ i,i<len→∀ j,j<k→W.cell? (a.add (i*k+j))=(g (f i))[j]?):Sl W k (.slice (some a) len cap) len (((List.range len).map f).flatMap g):=by
 refine ⟨by rw [flat_len g k hk];simp,?_⟩
 rcases Nat.eq_zero_or_pos len with rfl | hp
 ·
  exact .inl ⟨some a,cap,by simp,by simp,hm,fun h=>by cases h⟩
 ·
  have h0:=h 0 hp 0 hk0
  have hg0:(g (f 0))[0]?=some ((g (f 0))[0]'(by rw [hk];exact hk0)):=List.getElem?_eq_getElem _
  rw [hg0,show a.add (0*k+0)=a by simp [Addr.add]] at h0
  have hs:=cell_spot h0
  have hb:a.block<W.heap.size:=World.block_lt_of_cell? _ _ h0
  refine .inr ⟨a.block,a.off,cap,by rw [← hs],hl,hm,hb,fun j u hj=>?_⟩
  obtain ⟨i,hi,j',rfl,hj',hu⟩:=flat_inv g k hk _ j u hj
  simp only [List.length_map,List.length_range] at hi
  simp only [List.getElem_map,List.getElem_range] at hu
  have:=h i hi j' hj'
  rw [hu] at this
  rw [hs] at this
  rw [Addr.add_lit] at this
  exact this
section
variable {H : Type} {enc : TypeId × Value → H} {W : World} {base : Nat} {spare : Nat → Bool} {held : Bool}
end
theorem Tryz.cellsTT:Tryz.prog.cellsOf 112=17:=by kernel_rfl
theorem Tryz.cellsTPS:Tryz.prog.cellsOf 109=1:=by kernel_rfl
theorem Tryz.cellsT3I:Tryz.prog.cellsOf 108=3:=by kernel_rfl
theorem Tryz.cellsTU8:Tryz.prog.cellsOf 5=1:=by kernel_rfl
theorem Tryz.cellsTB2:Tryz.prog.cellsOf 110=2:=by kernel_rfl
theorem twelve9 {α:Type} (l:List α) (h:l.length=12):∃ a0 a1 a2 a3 a4 a5 a6 a7 a8 a9 a10 a11,l=[a0,a1,a2,a3,a4,a5,a6,a7,a8,a9,a10,a11]:=by
 match l,h with
 | [a0,a1,a2,a3,a4,a5,a6,a7,a8,a9,a10,a11],_=>exact ⟨a0,a1,a2,a3,a4,a5,a6,a7,a8,a9,a10,a11,rfl⟩
theorem seventeen9 {α:Type} (l:List α) (h:l.length=17):∃ a0 a1 a2 a3 a4 a5 a6 a7 a8 a9 a10 a11 a12 a13 a14 a15 a16,l=[a0,a1,a2,a3,a4,a5,a6,a7,a8,a9,a10,a11,a12,a13,a14,a15,a16]:=by
 match l,h with
 | [a0,a1,a2,a3,a4,a5,a6,a7,a8,a9,a10,a11,a12,a13,a14,a15,a16],_=>exact ⟨a0,a1,a2,a3,a4,a5,a6,a7,a8,a9,a10,a11,a12,a13,a14,a15,a16,rfl⟩
theorem lit_i64 {n:Int} (h:(Lit.int .i64 n).wf=true):I64s n:=by
 simp only [Lit.wf,Bool.and_eq_true,decide_eq_true_eq] at h
 exact h
theorem lit_u8' {n:Int} (h:(Lit.int .u8 n).wf=true):0≤n∧n≤255:=by
 simp only [Lit.wf,Bool.and_eq_true,decide_eq_true_eq] at h
 exact h
instance:Inhabited PrtE:=⟨⟨false,none,0,0,none,0,0,[],[]⟩⟩
section
variable {H : Type} {enc : TypeId × Value → H} {W : World} {base : Nat} {spare : Nat → Bool} {held : Bool}
def POk (W:World) (e:PrtE) (B:Nat):Prop:=Words W e.a e.n e.c e.xs∧Words W e.b e.m e.d e.ys∧e.n+e.m+2≤B
theorem parts_trod {fuel:Nat} {cs:List Value} {x:DataW H × List MemPlace} (h:DataW.trod enc Tryz.prog W base spare held fuel 109 cs=some x) :
  ∃ (ea:Option Addr) (ec:Nat) (es:List PrtE),cs=[.slice ea es.length ec]∧Sl W 3 (.slice ea es.length ec) es.length (es.flatMap PrtE.cells)∧(∀ e,e∈es→POk W e (Rows.uptoBulk x.1))∧es.length+1≤Rows.uptoBulk x.1:=by
 rcases Deep.open_slice Tryz.underlying109 h with ⟨rfl,rfl⟩ | ⟨a,len,cap,m,n,D,Pl,rfl,_,hl,hm,hmm,rfl,hx⟩
 ·
  exact ⟨none,0,[],rfl,⟨rfl,.inl ⟨none,0,rfl,rfl,Nat.zero_le _,fun _=>rfl⟩⟩,fun e h=>(by cases h),by simp [Rows.uptoBulk]⟩
 ·
  have hlm:len≤m:=by rw [hmm];split <;> omega
  rw [Tryz.cellsTP] at hx
  obtain ⟨f,hf2⟩:=Deep.choose_lt (n:=m) (p:=fun i (e:PrtE)=>POk W e (Rows.uptoBulk (D i))∧∀ j,j<3→W.cell? (a.add (i*3+j))=e.cells[j]?) (fun i hi=>by
   obtain ⟨cs',hc,ht⟩:=hx i hi
   obtain ⟨sg,pa,pn,pc,pb,pm,pd,xs,ys,rfl,hw1,hw2,hb⟩:=part_trod ht
   obtain ⟨_,_,hat⟩:=World.cells?_some hc
   exact ⟨⟨sg,pa,pn,pc,pb,pm,pd,xs,ys⟩,⟨hw1,hw2,hb⟩,fun j hj=>by rw [← Go.Deep.add_add];exact hat j hj⟩)
  have hle:((List.range len).map f).length=len:=by simp
  refine ⟨some a,cap,(List.range len).map f,by rw [hle],by rw [hle];exact sl_of PrtE.cells 3 prtCells_len (by omega) f hl hm fun i hi j hj=>(hf2 i (by omega)).2 j hj,fun e he=>?_,?_⟩
  ·
   obtain ⟨i,hi,rfl⟩:=List.mem_map.1 he
   have hi':=List.mem_range.1 hi
   obtain ⟨h1,h2,h3⟩:=(hf2 i (by omega)).1
   refine ⟨h1,h2,?_⟩
   have h4:=bulks.slice_elems (H:=H) ((List.range len).map D) ((List.range (m - len)).map fun j=>D (len+j))
   have h5:=bulks.part_le (H:=H) (l:=(List.range len).map D) (List.mem_map.2 ⟨i,hi,rfl⟩)
   show (f i).n+(f i).m+2≤Rows.uptoBulk (DataW.slice ((List.range len).map D) ((List.range (m - len)).map fun j=>D (len+j)))
   omega
  ·
   have:=bulks.slice_le (H:=H) ((List.range len).map D) ((List.range (m - len)).map fun j=>D (len+j))
   simp only [List.length_map,List.length_range] at this ⊢
   omega
theorem told_trod {fuel:Nat} {cs:List Value} {x:DataW H × List MemPlace} (h:DataW.trod enc Tryz.prog W base spare held fuel 112 cs=some x) :
  ∃ t:TolV,cs=t.cells∧(Rows.uptoBulk x.1≤1048576→TolW W t):=by
 obtain ⟨xs,n,_,rfl,hl,hxl,hf⟩:=DataW.trod_struct Tryz.underlying112 h
 rw [Tryz.cellsTT] at hl
 obtain ⟨c0,c1,c2,c3,c4,c5,c6,c7,c8,c9,c10,c11,c12,c13,c14,c15,c16,rfl⟩:=seventeen9 cs hl
 obtain ⟨y0,y1,y2,y3,y4,y5,y6,y7,y8,y9,y10,y11,rfl⟩:=twelve9 xs hxl
 have h0:DataW.trod enc Tryz.prog W base spare held n 3 (([c0,c1,c2,c3,c4,c5,c6,c7,c8,c9,c10,c11,c12,c13,c14,c15,c16].drop 0).take (Tryz.prog.cellsOf 3))=some y0:=hf 0 _ rfl
 have h1:DataW.trod enc Tryz.prog W base spare held n 3 (([c0,c1,c2,c3,c4,c5,c6,c7,c8,c9,c10,c11,c12,c13,c14,c15,c16].drop 1).take (Tryz.prog.cellsOf 3))=some y1:=hf 1 _ rfl
 have h2:DataW.trod enc Tryz.prog W base spare held n 3 (([c0,c1,c2,c3,c4,c5,c6,c7,c8,c9,c10,c11,c12,c13,c14,c15,c16].drop 2).take (Tryz.prog.cellsOf 3))=some y2:=hf 2 _ rfl
 have h3:DataW.trod enc Tryz.prog W base spare held n 3 (([c0,c1,c2,c3,c4,c5,c6,c7,c8,c9,c10,c11,c12,c13,c14,c15,c16].drop 3).take (Tryz.prog.cellsOf 3))=some y3:=hf 3 _ rfl
 have h4:DataW.trod enc Tryz.prog W base spare held n 3 (([c0,c1,c2,c3,c4,c5,c6,c7,c8,c9,c10,c11,c12,c13,c14,c15,c16].drop 4).take (Tryz.prog.cellsOf 3))=some y4:=hf 4 _ rfl
 have h5:DataW.trod enc Tryz.prog W base spare held n 9 (([c0,c1,c2,c3,c4,c5,c6,c7,c8,c9,c10,c11,c12,c13,c14,c15,c16].drop 5).take (Tryz.prog.cellsOf 9))=some y5:=hf 5 _ rfl
 have h6:DataW.trod enc Tryz.prog W base spare held n 9 (([c0,c1,c2,c3,c4,c5,c6,c7,c8,c9,c10,c11,c12,c13,c14,c15,c16].drop 6).take (Tryz.prog.cellsOf 9))=some y6:=hf 6 _ rfl
 have h7:DataW.trod enc Tryz.prog W base spare held n 108 (([c0,c1,c2,c3,c4,c5,c6,c7,c8,c9,c10,c11,c12,c13,c14,c15,c16].drop 7).take (Tryz.prog.cellsOf 108))=some y7:=hf 7 _ rfl
 have h8:DataW.trod enc Tryz.prog W base spare held n 5 (([c0,c1,c2,c3,c4,c5,c6,c7,c8,c9,c10,c11,c12,c13,c14,c15,c16].drop 10).take (Tryz.prog.cellsOf 5))=some y8:=hf 8 _ rfl
 have h9:DataW.trod enc Tryz.prog W base spare held n 26 (([c0,c1,c2,c3,c4,c5,c6,c7,c8,c9,c10,c11,c12,c13,c14,c15,c16].drop 11).take (Tryz.prog.cellsOf 26))=some y9:=hf 9 _ rfl
 have h10:DataW.trod enc Tryz.prog W base spare held n 109 (([c0,c1,c2,c3,c4,c5,c6,c7,c8,c9,c10,c11,c12,c13,c14,c15,c16].drop 14).take (Tryz.prog.cellsOf 109))=some y10:=hf 10 _ rfl
 have h11:DataW.trod enc Tryz.prog W base spare held n 110 (([c0,c1,c2,c3,c4,c5,c6,c7,c8,c9,c10,c11,c12,c13,c14,c15,c16].drop 15).take (Tryz.prog.cellsOf 110))=some y11:=hf 11 _ rfl
 clear hf
 rw [Tryz.cellsTI] at h0
 rw [Tryz.cellsTI] at h1
 rw [Tryz.cellsTI] at h2
 rw [Tryz.cellsTI] at h3
 rw [Tryz.cellsTI] at h4
 rw [Tryz.cellsTS] at h5
 rw [Tryz.cellsTS] at h6
 rw [Tryz.cellsT3I] at h7
 rw [Tryz.cellsTU8] at h8
 rw [Tryz.cellsTP] at h9
 rw [Tryz.cellsTPS] at h10
 rw [Tryz.cellsTB2] at h11
 obtain ⟨verb,e0,_,w0⟩:=DataW.trod_int Tryz.underlying3 h0
 obtain ⟨op,e1,_,w1⟩:=DataW.trod_int Tryz.underlying3 h1
 obtain ⟨er,e2,_,w2⟩:=DataW.trod_int Tryz.underlying3 h2
 obtain ⟨at9,e3,_,w3⟩:=DataW.trod_int Tryz.underlying3 h3
 obtain ⟨id,e4,_,w4⟩:=DataW.trod_int Tryz.underlying3 h4
 obtain ⟨tq,e5,d5,w5⟩:=DataW.trod_string Tryz.underlying9 h5
 obtain ⟨wh,e6,d6,w6⟩:=DataW.trod_string Tryz.underlying9 h6
 obtain ⟨us,n3,_,_,hl3,hxl3,hf3⟩:=DataW.trod_array Tryz.underlying108 h7
 obtain ⟨z0,z1,z2,rfl⟩:=three us hxl3
 rw [Tryz.cellsTI] at hf3
 have g0:DataW.trod enc Tryz.prog W base spare held n3 3 [c7]=some z0:=hf3 0 (by omega)
 have g1:DataW.trod enc Tryz.prog W base spare held n3 3 [c8]=some z1:=hf3 1 (by omega)
 have g2:DataW.trod enc Tryz.prog W base spare held n3 3 [c9]=some z2:=hf3 2 (by omega)
 obtain ⟨u0,i0,_,v0⟩:=DataW.trod_int Tryz.underlying3 g0
 obtain ⟨u1,i1,_,v1⟩:=DataW.trod_int Tryz.underlying3 g1
 obtain ⟨u2,i2,_,v2⟩:=DataW.trod_int Tryz.underlying3 g2
 obtain ⟨oc,e8,_,w8⟩:=DataW.trod_int Tryz.underlying5 h8
 obtain ⟨sg,pa,pn,pc,pb,pm,pd,xs,ys,e9,hw1,hw2,hb1⟩:=part_trod h9
 obtain ⟨qa,qc,ps,e10,hsl,hok,hb2⟩:=parts_trod h10
 obtain ⟨bs9,n4,_,_,hl4,hxl4,hf4⟩:=DataW.trod_array Tryz.underlying110 h11
 obtain ⟨z3,z4,rfl⟩:=two bs9 hxl4
 rw [Tryz.cellsTBO] at hf4
 have g3:DataW.trod enc Tryz.prog W base spare held n4 4 [c15]=some z3:=hf4 0 (by omega)
 have g4:DataW.trod enc Tryz.prog W base spare held n4 4 [c16]=some z4:=hf4 1 (by omega)
 obtain ⟨b0,i3,_⟩:=DataW.trod_bool Tryz.underlying4 g3
 obtain ⟨b1,i4,_⟩:=DataW.trod_bool Tryz.underlying4 g4
 simp at e0 e1 e2 e3 e4 e5 e6 e8 e9 e10 i0 i1 i2 i3 i4
 obtain ⟨rfl,rfl,rfl⟩:=e9
 subst e0 e1 e2 e3 e4 e5 e6 e8 e10 i0 i1 i2 i3 i4
 obtain ⟨o,rfl⟩:∃ o:Nat,oc=(o:Int):=⟨oc.toNat,by have:=(lit_u8' w8).1;omega⟩
 refine ⟨⟨verb,op,er,at9,id,tq,wh,u0,u1,u2,o,⟨sg,pa,pn,pc,pb,pm,pd,xs,ys⟩,qa,ps.length,qc,ps,b0,b1⟩,rfl,fun hB=>?_⟩
 simp only [Rows.uptoBulk,List.map_cons,List.map_nil,Rows.uptoBulkAll,d5,d6,Array.length_toList] at hB
 have hw:=fun {a b:Option Addr} {n c m d:Nat} {xs ys:List Nat} (h1:Words W a n c xs) (h2:Words W b m d ys) (hb:n+m+2≤1048576)=>partW_of h1 h2 hb (Nat.le_refl _)
 refine ⟨?_,?_,?_,hw hw1 hw2 (show pn+pm+2≤1048576 by omega),hsl,rfl,?_,fun e he=>?_,lit_i64 w3,lit_i64 v0,lit_i64 v1,lit_i64 v2⟩
 ·
  show tq.data.size≤_;omega
 ·
  show wh.data.size≤_;omega
 ·
  have:=(lit_u8' w8).2;show o<256;omega
 ·
  show ps.length≤_;omega
 ·
  obtain ⟨g1,g2,g3⟩:=hok e he
  exact hw g1 g2 (by omega)
theorem told_open {v:Value} {d:DataW H} {ps:List MemPlace} {r:Reach} {b0:Nat} (hv:Value.okWide Tryz.prog W r b0 112 v) (h:DataW.Trod enc Tryz.prog W base spare held 112 v d ps) :
  ∃ t:TolV,v=.agg #[.int .i64 t.verb,.int .i64 t.op,.int .i64 t.err,.int .i64 t.at9,.int .i64 t.id,.string t.tq,.string t.wher,.int .i64 t.u0,.int .i64 t.u1,.int .i64 t.u2,.int .u8 (t.oc:Nat),.bool t.v.sg,.slice t.v.a t.v.n t.v.c,.slice t.v.b t.v.m t.v.d,.slice t.pa t.pn t.pc,.bool t.h0,.bool t.h1]∧(Rows.uptoBulk d≤1048576→TolW W t):=by
 obtain ⟨cs,rfl,_⟩:=okWide_struct Tryz.underlying112 hv
 obtain ⟨fuel,hf⟩:=h
 obtain ⟨l⟩:=cs
 obtain ⟨x,hc,hw⟩:=told_trod hf
 have hc:l=x.cells:=by simpa [Value.cells] using hc
 subst hc
 exact ⟨x,rfl,hw⟩
end
end Go.Proofs.YtmhainidincjhaaGreatDoor
