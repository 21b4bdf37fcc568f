/-
 What the laws stand on, part G: contracts and plain laws of MErr, WInt, WShow; the conditions are each law's own.
-/
import Derived.Test.YtmhainidincjhaaGreatDoorBF
import Derived.Test.YtmhainidincjhaaGreatDoorBP
import Derived.Deep.QuietTactic
import Derived.BigQuiet
import Derived.Test.YtmhainidincjhaaGreatDoorBI
import Derived.Test.YtmhainidincjhaaGreatDoorBN
import Derived.Deep.RegionLaw
import Derived.Test.YtmhainidincjhaaGreatDoorBS
import Derived.Deep.MidRow
set_option linter.unusedVariables false
set_option linter.unusedSimpArgs false
set_option maxRecDepth 100000
set_option maxHeartbeats 16000000
namespace Go.Proofs.YtmhainidincjhaaGreatDoor
open Go.RowKit Go.Extern.Stop Go.Stop Go.Extern
theorem isFFE_same (pb fb:Nat) (n b:Int) (w:World) (hnb:(n==b)=true) (hc:w.cell? ⟨pb,2,none⟩=some (eF fb)) (hd:w.cell? ⟨fb,2,none⟩=some (eE n)) :
  Calls Tryz.prog 39 #[eF pb,eE b] w fun e w'=>e=.returned (.bool true)∧w'=w:=by
 unfold eE at *
 unfold eF at *
 have hTypeOf:=@run_callFunc_extern Tryz.prog 101 _ ReflectliteType.typeOf Tryz.func101 (by kernel_rfl) (by kernel_rfl) (by kernel_rfl) (by kernel_rfl)
 have hComp:=Tryz.callComparable
 have mR:=Tryz.isMethodComparable
 have tFault:=Tryz.typeOfFault
 have nIsFault:=Tryz.noIsFault
 have nUnwrapsFault:=Tryz.noUnwrapsFault
 have uFault:=Tryz.hasUnwrapFault
 have mFault:=Tryz.methodUnwrapFault
 have tErrno:=Tryz.typeOfErrno
 have nIsErrno:=Tryz.noIsErrno
 have nUnwrapsErrno:=Tryz.noUnwrapsErrno
 have nUnwrapErrno:=Tryz.noUnwrapErrno
 have heq:=Tryz.eqErrno
 have hty:=run_eql_iface_types (P:=Tryz.prog) 211 52 (.pointer (some ⟨pb,0,none⟩)) (.int .i64 b) Tryz.underlying34 (by decide) w
 have hty2:=run_eql_iface_types (P:=Tryz.prog) 211 52 (.pointer (some ⟨fb,0,none⟩)) (.int .i64 b) Tryz.underlying34 (by decide) w
 go_enter Tryz.func39,Tryz.ntmps39
 go_wp2
 refine wp_loop_rounds 3 ?_
 rw [rounds_succ]
 go_wp2
 rw [rounds_succ]
 go_wp2
 rw [rounds_succ]
 go_wp2
 go_ret
 exact ⟨rfl,rfl⟩
theorem isFFE_other (pb fb:Nat) (n b:Int) (w:World) (hnb:(n==b)=false) (hc:w.cell? ⟨pb,2,none⟩=some (eF fb)) (hd:w.cell? ⟨fb,2,none⟩=some (eE n)) :
  Calls Tryz.prog 39 #[eF pb,eE b] w fun e w'=>e=.returned (.bool false)∧w'=w:=by
 unfold eE at *
 unfold eF at *
 have hTypeOf:=@run_callFunc_extern Tryz.prog 101 _ ReflectliteType.typeOf Tryz.func101 (by kernel_rfl) (by kernel_rfl) (by kernel_rfl) (by kernel_rfl)
 have hComp:=Tryz.callComparable
 have mR:=Tryz.isMethodComparable
 have tFault:=Tryz.typeOfFault
 have nIsFault:=Tryz.noIsFault
 have nUnwrapsFault:=Tryz.noUnwrapsFault
 have uFault:=Tryz.hasUnwrapFault
 have mFault:=Tryz.methodUnwrapFault
 have tErrno:=Tryz.typeOfErrno
 have nIsErrno:=Tryz.noIsErrno
 have nUnwrapsErrno:=Tryz.noUnwrapsErrno
 have nUnwrapErrno:=Tryz.noUnwrapErrno
 have heq:=Tryz.eqErrno
 have hty:=run_eql_iface_types (P:=Tryz.prog) 211 52 (.pointer (some ⟨pb,0,none⟩)) (.int .i64 b) Tryz.underlying34 (by decide) w
 have hty2:=run_eql_iface_types (P:=Tryz.prog) 211 52 (.pointer (some ⟨fb,0,none⟩)) (.int .i64 b) Tryz.underlying34 (by decide) w
 go_enter Tryz.func39,Tryz.ntmps39
 go_wp2
 refine wp_loop_rounds 3 ?_
 rw [rounds_succ]
 go_wp2
 rw [rounds_succ]
 go_wp2
 rw [rounds_succ]
 go_wp2
 go_ret
 exact ⟨rfl,rfl⟩
theorem asErrno_FFE (pb fb:Nat) (n:Int) (t:Addr) (old:Value) (w:World) (hg0:Hg w) (ht0:w.cell? t=some old) (hf0:w.frozen? t=false) (hc:w.cell? ⟨pb,2,none⟩=some (eF fb)) (hd:w.cell? ⟨fb,2,none⟩=some (eE n)) :
  Calls Tryz.prog 108 #[eF pb,.iface 233 (.pointer (some t))] w fun ev w'=>ev=.returned (.bool true)∧w'=(((asWErrno t w).alloc (.cells #[.int .i64 n] 52)).setCell t (.int .i64 n)):=by
 unfold eE at *
 unfold eF at *
 have hg:=hg0;unfold Hg at hg;have hlt:=hg0.lt;clear hg0
 have h165:=@run_callFunc_extern Tryz.prog 165 _ (fun args=>ReflectliteValue.unpack (args.getD 0 (.tuple #[]))) Tryz.func165 (by kernel_rfl) (by kernel_rfl) (by kernel_rfl) (by kernel_rfl)
 have h166:=@run_callFunc_extern Tryz.prog 166 _ (ReflectliteValue.methodAny (ReflectliteValue.valueError "reflectlite.Value.Type" 0) (fun t _ _ _=>ReflectliteType.toType t)) Tryz.func166 (by kernel_rfl) (by kernel_rfl) (by kernel_rfl) (by kernel_rfl)
 have h167:=@run_callFunc_extern Tryz.prog 167 _ (ReflectliteValue.method (ReflectliteValue.valueError "reflectlite.Value.IsNil" 0) ReflectliteValue.isNil) Tryz.func167 (by kernel_rfl) (by kernel_rfl) (by kernel_rfl) (by kernel_rfl)
 have h237:=@run_callFunc_extern Tryz.prog 237 _ (ReflectliteType.abiMethod fun t=>do pure (.int .u8 (← Rtype.kind t))) Tryz.func237 (by kernel_rfl) (by kernel_rfl) (by kernel_rfl) (by kernel_rfl)
 have h249:=@run_callFunc_extern Tryz.prog 249 _ (ReflectliteType.method ReflectliteType.elem) Tryz.func249 (by kernel_rfl) (by kernel_rfl) (by kernel_rfl) (by kernel_rfl)
 have h250:=@run_callFunc_extern Tryz.prog 250 _ (ReflectliteType.relation "Implements" ReflectliteType.implements_) Tryz.func250 (by kernel_rfl) (by kernel_rfl) (by kernel_rfl) (by kernel_rfl)
 have hTypeOf:=@run_callFunc_extern Tryz.prog 101 _ ReflectliteType.typeOf Tryz.func101 (by kernel_rfl) (by kernel_rfl) (by kernel_rfl) (by kernel_rfl)
 have h247:=@run_callFunc_extern Tryz.prog 247 _ (ReflectliteType.relation "AssignableTo" ReflectliteType.assignableTo) Tryz.func247 (by kernel_rfl) (by kernel_rfl) (by kernel_rfl) (by kernel_rfl)
 have h194:=@run_callFunc_extern Tryz.prog 194 _ (ReflectliteValue.method (ReflectliteValue.valueError "reflectlite.Value.Elem" 0) ReflectliteValue.elem) Tryz.func194 (by kernel_rfl) (by kernel_rfl) (by kernel_rfl) (by kernel_rfl)
 have h195:=@run_callFunc_extern Tryz.prog 195 _ ReflectliteValue.set Tryz.func195 (by kernel_rfl) (by kernel_rfl) (by kernel_rfl) (by kernel_rfl)
 have tFault:=Tryz.typeOfFault
 have nAsFault:=Tryz.noAsFault
 have nUnwrapsFault:=Tryz.noUnwrapsFault
 have uFault:=Tryz.hasUnwrapFault
 have mFault:=Tryz.methodUnwrapFault
 have tErrno:=Tryz.typeOfErrno
 have nAsErrno:=Tryz.noAsErrno
 have nUnwrapsErrno:=Tryz.noUnwrapsErrno
 have nUnwrapErrno:=Tryz.noUnwrapErrno
 have aFault:=Tryz.assignable211to52
 have aErrno:=Tryz.assignable52to52
 have mA:=Tryz.methodAssignableTo
 have f6:=Tryz.valueOf233
 have f7:=Tryz.type233
 have mK:=Tryz.methodKind
 have mE:=Tryz.methodElem
 have mI:=Tryz.methodImplements
 have kP:=Tryz.kind233
 have kT:=Tryz.kind52
 have eP:=Tryz.elem233
 have iT:=Tryz.implements52
 have n8:=Tryz.isNil233 ⟨w.heap.size,0,none⟩ t ((w.alloc (.cells #[.pointer (some t)] 233)).alloc (.cells #[.pointer (some ⟨2,233,none⟩),.pointer (some ⟨w.heap.size,0,none⟩),.int .u64 150] 277)) (by simp)
 have hg2:((w.alloc (.cells #[.pointer (some t)] 233)).alloc (.cells #[.pointer (some ⟨2,233,none⟩),.pointer (some ⟨w.heap.size,0,none⟩),.int .u64 150] 277)).cell? ⟨0,0,none⟩=some (.iface 265 (.agg #[.pointer (some ⟨2,34,none⟩)])):=by
  rw [World.cell?_alloc_lt _ _ ⟨0,0,none⟩ (by simp <;> omega),World.cell?_alloc_lt _ _ ⟨0,0,none⟩ hlt];exact hg
 have hpl:pb<w.heap.size:=World.block_lt_of_cell? _ _ hc
 have hc3:(((w.alloc (.cells #[.pointer (some t)] 233)).alloc (.cells #[.pointer (some ⟨2,233,none⟩),.pointer (some ⟨w.heap.size,0,none⟩),.int .u64 150] 277)).alloc (.cells #[.pointer (some ⟨2,233,none⟩),.pointer (some ⟨w.heap.size,0,none⟩),.int .u64 150] 277)).cell? ⟨pb,2,none⟩=some (.iface 211 (.pointer (some ⟨fb,0,none⟩))):=by
  rw [World.cell?_alloc_lt _ _ ⟨pb,2,none⟩ (by simp <;> omega),World.cell?_alloc_lt _ _ ⟨pb,2,none⟩ (by simp <;> omega),World.cell?_alloc_lt _ _ ⟨pb,2,none⟩ hpl];exact hc
 have hpl2:fb<w.heap.size:=World.block_lt_of_cell? _ _ hd
 have hd3:(((w.alloc (.cells #[.pointer (some t)] 233)).alloc (.cells #[.pointer (some ⟨2,233,none⟩),.pointer (some ⟨w.heap.size,0,none⟩),.int .u64 150] 277)).alloc (.cells #[.pointer (some ⟨2,233,none⟩),.pointer (some ⟨w.heap.size,0,none⟩),.int .u64 150] 277)).cell? ⟨fb,2,none⟩=some (.iface 52 (.int .i64 n)):=by
  rw [World.cell?_alloc_lt _ _ ⟨fb,2,none⟩ (by simp <;> omega),World.cell?_alloc_lt _ _ ⟨fb,2,none⟩ (by simp <;> omega),World.cell?_alloc_lt _ _ ⟨fb,2,none⟩ hpl2];exact hd
 have vT:=Tryz.valueOf52
 have htl:t.block<w.heap.size:=World.block_lt_of_cell? _ _ ht0
 have el:=Tryz.elemV233 ⟨w.heap.size,0,none⟩ t (((w.alloc (.cells #[.pointer (some t)] 233)).alloc (.cells #[.pointer (some ⟨2,233,none⟩),.pointer (some ⟨w.heap.size,0,none⟩),.int .u64 150] 277)).alloc (.cells #[.pointer (some ⟨2,233,none⟩),.pointer (some ⟨w.heap.size,0,none⟩),.int .u64 150] 277)) (by rw [World.cell?_alloc_lt _ _ ⟨w.heap.size,0,none⟩ (by simp <;> omega)];simp)
 have st:=Tryz.set52 t ⟨w.heap.size+1+1+1,0,none⟩ n old ((((w.alloc (.cells #[.pointer (some t)] 233)).alloc (.cells #[.pointer (some ⟨2,233,none⟩),.pointer (some ⟨w.heap.size,0,none⟩),.int .u64 150] 277)).alloc (.cells #[.pointer (some ⟨2,233,none⟩),.pointer (some ⟨w.heap.size,0,none⟩),.int .u64 150] 277)).alloc (.cells #[.int .i64 n] 52))
  (by rw [World.cell?_alloc_at _ _ _ _ (by simp)];rfl)
  (by rw [World.cell?_alloc_lt _ _ t (by simp <;> omega),World.cell?_alloc_lt _ _ t (by simp <;> omega),World.cell?_alloc_lt _ _ t (by simp <;> omega),World.cell?_alloc_lt _ _ t htl];exact ht0)
  (by rw [World.frozen?_alloc_old _ _ t (by simp <;> omega),World.frozen?_alloc_old _ _ t (by simp <;> omega),World.frozen?_alloc_old _ _ t (by simp <;> omega),World.frozen?_alloc_old _ _ t (Nat.ne_of_lt htl)];exact hf0)
 go_enter Tryz.func108,Tryz.ntmps108
 go_wp2
 refine wp_loop_rounds 3 ?_
 rw [rounds_succ]
 go_wp2
 rw [rounds_succ]
 go_wp2
 rw [rounds_succ]
 go_wp2
 go_ret
 exact ⟨rfl,rfl⟩
theorem asErrno_FFE_b (pb fb:Nat) (n:Int) (tb:Nat) (old:Value) (w:World) (hg0:Hg w) (ht0:w.cell? ⟨tb,0,none⟩=some old) (hf0:w.frozen? ⟨tb,0,none⟩=false) (hc:w.cell? ⟨pb,2,none⟩=some (eF fb)) (hd:w.cell? ⟨fb,2,none⟩=some (eE n)) :
  Calls Tryz.prog 108 #[eF pb,.iface 233 (.pointer (some ⟨tb,0,none⟩))] w fun e w'=>e=.returned (.bool true)∧Below tb w w'∧w'.cell? ⟨tb,0,none⟩=some (.int .i64 n):=by
 have hlt:tb<w.heap.size:=World.block_lt_of_cell? _ _ ht0
 refine (asErrno_FFE pb fb n ⟨tb,0,none⟩ old w hg0 ht0 hf0 hc hd).mono fun e w' ⟨he,hw⟩=>⟨he,?_,?_⟩
 ·
  subst hw;exact (by repeat (first | exact Below.refl _ _ | (refine Below.alloc ?_ (by first | omega | (simp;done) | (simp;omega)) _) | (refine Below.setCell ?_ (by first | omega | (simp;done) | (simp;omega)) _) | (refine Below.drew ?_)))
 ·
  subst hw
  refine World.cell?_setCell_same _ _ _ (u:=old) ?_
  rw [World.cell?_alloc_lt _ _ ⟨tb,0,none⟩ (by simp <;> omega),World.cell?_alloc_lt _ _ ⟨tb,0,none⟩ (by simp <;> omega),World.cell?_alloc_lt _ _ ⟨tb,0,none⟩ (by simp <;> omega),World.cell?_alloc_lt _ _ ⟨tb,0,none⟩ hlt];exact ht0
theorem number_FF (pb fb:Nat) (n:Int) (w:World) (hg:Hg w) (hc:w.cell? ⟨pb,2,none⟩=some (eF fb)) (hd:w.cell? ⟨fb,2,none⟩=some (eE n)) :
  Calls Tryz.prog 62 #[eF pb] w fun e w'=>e=.returned (.int .i64 n)∧Below w.heap.size w w':=by
 have hg1:=hg.alloc (.cells #[.int .i64 0] 52)
 have HC1:=qH ((World.cell?_alloc_lt w (.cells #[.int .i64 0] 52) ⟨pb,2,none⟩ (World.block_lt_of_cell? _ _ hc)).trans hc)
 have HD1:=qH ((World.cell?_alloc_lt w (.cells #[.int .i64 0] 52) ⟨fb,2,none⟩ (World.block_lt_of_cell? _ _ hd)).trans hd)
 clear hc hd
 unfold eF
 go_enter Tryz.func62,Tryz.ntmps62
 go_wp2_with fail
 refine (asErrno_FFE_b pb fb n _ (.int .i64 0) _ hg1 (by simp) (by simp) HC1.out HD1.out).mono ?_
 rintro e w' ⟨rfl,hb,hc⟩
 go_wp2
 go_ret
 exact ⟨rfl,((Below.refl _ _).alloc (Nat.le_refl _) _).trans hb⟩
theorem place_At (pb k:Nat) (u:Value) (w:World) (hg:Hg w) (hx:IsAt w pb k u) :
  Calls Tryz.prog 43 #[eF pb] w fun e w'=>e=.returned (.tuple #[.string ⟨#[98,121,116,101]⟩,.int .i64 k,.bool true])∧Below w.heap.size w w':=by
 have hlt:=hx.lt
 have hg1:=hg.alloc (.cells #[.pointer none] 211)
 have HX:=qH hx;clear hx
 unfold eF
 go_enter Tryz.func43,Tryz.ntmps43
 go_wp2_with fail
 refine (asFault_FE_b pb _ (.pointer none) _ hg1 (by simp) (by simp)).mono ?_
 rintro e w1 ⟨rfl,hb,hc⟩
 have hb1:Below w.heap.size w w1:=((Below.refl _ _).alloc (Nat.le_refl _) _).trans hb
 obtain ⟨x0,x1,_⟩:=HX.out.keeps (Keeps.of_below hb1 (S:=fun z=>w.heap.size≤z) fun z h1 _=>h1) (by omega)
 have HB:=qH hb1;clear hb1 hb
 go_wp2_with fail
 go_quiet (fail)
 go_wp2
 go_ret3
 exact ⟨rfl,HB.out.trans ⟨rfl,rfl,rfl,Nat.le_refl _,fun _ _=>rfl⟩⟩
theorem ErrB.below {w w':World} {R:Nat→Prop} {ev:Value} {k:Int} {at9:Nat} (h:ErrB w R ev k at9) (hb:Below w.heap.size w w'):ErrB w' R ev k at9 :=
 h.keeps (Keeps.of_below hb (S:=fun z=>w.heap.size≤z) fun z h1 _=>h1) (fun b hl _ h2=>by have h2:w.heap.size≤b:=h2;omega) fun _ _ h=>h
theorem is_B (ev:Value) (k:Int) (at9:Nat) (R:Nat→Prop) (b:Int) (w:World) (h:ErrB w R ev k at9):Calls Tryz.prog 39 #[ev,eE b] w fun e w'=>e=.returned (.bool (k==b))∧w'=w:=by
 obtain ⟨eb,u,rfl,_,hA,hu⟩:=h
 rcases hu with rfl | ⟨fb,s,j,rfl,_,hf⟩
 ·
  cases hn:(k==b) with
  | true=>exact isFE_same eb k b w hn hA.2.2
  | false=>exact isFE_other eb k b w hn hA.2.2
 ·
  cases hn:(k==b) with
  | true=>exact isFFE_same eb fb k b w hn hA.2.2 hf.2.2
  | false=>exact isFFE_other eb fb k b w hn hA.2.2 hf.2.2
theorem number_B (ev:Value) (k:Int) (at9:Nat) (R:Nat→Prop) (w:World) (hg:Hg w) (h:ErrB w R ev k at9):Calls Tryz.prog 62 #[ev] w fun e w'=>e=.returned (.int .i64 k)∧Below w.heap.size w w':=by
 obtain ⟨eb,u,rfl,_,hA,hu⟩:=h
 rcases hu with rfl | ⟨fb,s,j,rfl,_,hf⟩
 ·
  exact number_F eb k w hg hA.2.2
 ·
  exact number_FF eb fb k w hg hA.2.2 hf.2.2
theorem place_B (ev:Value) (k:Int) (at9:Nat) (R:Nat→Prop) (w:World) (hg:Hg w) (h:ErrB w R ev k at9):Calls Tryz.prog 43 #[ev] w fun e w'=>e=.returned (.tuple #[.string ⟨#[98,121,116,101]⟩,.int .i64 at9,.bool true])∧Below w.heap.size w w':=by
 obtain ⟨eb,u,rfl,_,hA,hu⟩:=h
 exact place_At eb at9 u w hg hA
theorem told_B (ev:Value) (k:Int) (at9:Nat) (R:Nat→Prop) (w:World) (hg:Hg w) (h:ErrB w R ev k at9) :
  Calls Tryz.prog 22 #[ev,.int .i64 k,.string ⟨#[98,121,116,101]⟩,.int .i64 at9] w fun e w'=>e=.returned (.bool true)∧Below w.heap.size w w':=by
 have HX:=qH h
 obtain ⟨eb,u,rfl,_⟩:=h
 have hs1:(⟨#[98,121,116,101]⟩:ByteArray).toList.isEmpty=false:=by decide +kernel
 have hs2:(⟨#[98,121,116,101]⟩:ByteArray).toList≠[]:=by decide +kernel
 go_enter Tryz.func22,Tryz.ntmps22
 go_wp2_with fail
 refine (place_B _ k at9 R _ hg HX.out).mono ?_
 rintro e w1 ⟨rfl,hb⟩
 have hg1:=hg.below hb hg.lt
 have HX1:=qH (HX.out.below hb)
 have HB:=qH hb;clear hb
 go_wp2_with fail
 refine (number_B _ k at9 R _ hg1 HX1.out).mono ?_
 rintro e w2 ⟨rfl,hb2⟩
 have HB2:=qH hb2;clear hb2
 go_wp2
 go_ret
 exact ⟨rfl,HB.out.trans (HB2.out.mono HB.out.size)⟩
theorem wrap8 {x:Int} {y:Nat} (h:x % 256=(y:Int)):IntKind.u8.wrap x=(y:Int):=by
 rw [← h]
 rfl
theorem more_nil (st:WS):more st []=st:=by
 cases st with
 | ok out=>show Except.ok (out++[])=_;rw [List.append_nil]
 | error x=>rfl
theorem more_more (st:WS) (a b:List Nat):more (more st a) b=more st (a++b):=by
 cases st with
 | ok out=>show Except.ok (out++a++b)=Except.ok (out++(a++b));rw [List.append_assoc]
 | error x=>rfl
theorem be8_take (z:Int) (j:Nat) (hj:j<8):∃ y:Nat,z / 256^(7 - j) % 256=(y:Int)∧(be8 z).take (j+1)=(be8 z).take j++[y]:=by
 refine ⟨(z / 256^(7 - j) % 256).toNat,by rw [Int.toNat_of_nonneg (Int.emod_nonneg _ (by omega))],?_⟩
 rw [List.take_add_one]
 unfold be8
 rw [List.getElem?_map,List.getElem?_range hj]
 rfl
theorem lay1_i64 (st:WS) (z:Int):lay1 st (.i64 z)=more st (be8 z):=by
 cases st <;> rfl
theorem wint_any {w0:World} {bs:List Bk} {ns:List Nm} {pb:Nat} {st:WS} {L:Nat} (z:Int) (w:World) (h:WB w0 bs ns pb st L w) (hL:L+8≤1099511627776) :
  Calls Tryz.prog 115 #[.pointer (some ⟨pb,0,none⟩),.int .i64 z] w fun e w'=>e=.returned (.tuple #[])∧WB w0 bs ns pb (lay1 st (.i64 z)) (L+8) w':=by
 rw [lay1_i64]
 obtain ⟨i0,hi,hz0,hz1,hz2⟩:=info_parts Tryz.info_bytes
 have HH:=qH h
 have HLL:=qH hL
 have HBE:=qH (be8_take z)
 clear h
 go_enter Tryz.func115,Tryz.ntmps115
 go_wp2_with fail
 go_loopw [4] (fun v4 wr=>∃ (j:Nat) (k:Int),j≤8∧k=56 - 8*(j:Int)∧v4=.int .i64 k∧WB w0 bs ns pb (more st ((be8 z).take j)) (L+j) wr) (fun v4 _=>(intOf v4+8).toNat)
 case atStart=>exact ⟨0,56,by omega,by omega,rfl,by rw [List.take_zero,more_nil];exact HH.out⟩
 case round =>
  obtain ⟨j,k,hj,hk,rfl,hw⟩:=hrel
  by_cases h8:j=8
  ·
   subst h8
   obtain rfl:k=-8:=by omega
   have HW:=qH hw
   clear hw
   go_wp2_with fail
   go_end0
   refine ⟨rfl,?_⟩
   have h9:=HW.out
   rw [List.take_of_length_le (by rw [be8_len];omega)] at h9
   exact h9
  ·
   obtain ⟨y,hyv,hyt⟩:=HBE.out j (by omega)
   obtain ⟨a,m,c,xs,ev,hy,hm,hs⟩:=hw
   have HY:=qH hy
   have HS:=qH hs
   have HM:=qH hm
   have HYT:=qH hyt
   have hm2:m≤1099511627776:=by omega
   clear hy hs hyt hm
   rcases (show j=0∨j=1∨j=2∨j=3∨j=4∨j=5∨j=6∨j=7 by omega) with rfl | rfl | rfl | rfl | rfl | rfl | rfl | rfl
   all_goals
    simp at hk hyv
    subst hk
    have e1:=wrap8 hyv
    go_upto_region 3 with fail
    have k0:=HY.out.st.cell 0 0 rfl rfl
    have lp:=HY.out.st.lt 0 rfl
    have a0:(wr.alloc (.cells #[.int .u8 y] 5)).cell? ⟨pb,0,none⟩=some (.slice a m c):=(World.cell?_alloc_lt _ _ ⟨pb,0,none⟩ lp).trans k0
    have HMJ:=qH (show Mid (((wr.alloc (.cells #[.int .u8 y] 5)).drew)) w0.heap.size 5 1 (.slice a m c) m (xs.map BN) from (HY.out.mid.alloc _).drew)
    have HSJ:=qH (show Src Tryz.prog 1 32 (.slice (some ⟨wr.heap.size,0,none⟩) 1 1) 1 [BN y] ((wr.alloc (.cells #[.int .u8 y] 5)).drew) from (show Sl ((wr.alloc (.cells #[.int .u8 y] 5)).drew) 1 _ 1 _ from Sl.lit wr 5 1 1 [BN y] (by unfold maxLen;omega) rfl).src (P:=Tryz.prog) Tryz.underlying32 (one_BN [y]))
    have HWJ:=qH (show w0.heap.size≤((wr.alloc (.cells #[.int .u8 y] 5)).drew).heap.size from Nat.le_trans HY.out.st.bel.size (belowBox wr (.cells #[.int .u8 y] 5)).size)
    have HYD:=qH (show YB w0 (wBox pb a m c ev::bs) ns a m c xs wr.drew from HY.out.call (Below.drawn wr 1))
    go_region_law ((refine step_append_mid (v:=.slice a m c) (by rfl) _ _ 32 32 (by rfl) i0 (.int .u8 0) 1 Tryz.underlying32 hi hz0 hz1 hz2 rfl (by rfl) HMJ.out _ (by rfl) 1 _ HSJ.out (by unfold maxLen;omega) (by omega) HWJ.out ?_;intro a4 c4 w4 hmo hgo hbo;have HP:=qH (show YB w0 (wBox pb a m c ev::bs) ns a4 (m+1) c4 (xs++[y]) w4 from HYD.out.push (W':=w4) (ob:=.cells #[.int .u8 y] 5) (ys:=[y]) hmo hgo hbo);have HG:=qH (show Keeps wr.drew w4 (fun z=>(Value.slice a m c).ownBlock=some z) from grown_keeps (ob:=.cells #[.int .u8 y] 5) hgo);have HBO:=qH hbo;clear hmo hgo hbo;have q4:=HP.out.st.cell 0 0 rfl rfl;have q5:=HP.out.st.free 0 0 rfl))
    all_goals
     have HFIN:=qH (show WB w0 bs ns pb (more st ((be8 z).take _)) _ (w4.setCell ⟨pb,0,none⟩ (.slice a4 (m+1) c4)) from by
      obtain ⟨g1,g2⟩:=YB.stored HYD.out HP.out HG.out
      rw [HYT.out,← more_more]
      have hks:Keeps wr (w4.setCell ⟨pb,0,none⟩ (.slice a4 (m+1) c4)) (fun k=>k=pb∨(Value.slice a m c).ownBlock=some k):=(Keeps.drew wr _).trans g2 fun _ _ h=>h
      refine ⟨a4,m+1,c4,xs++[y],ev,g1,Nat.add_le_add_right HM.out 1,HS.out.push (v:=.slice a m c) (v':=.slice a4 (m+1) c4) hks fun q hq=>?_⟩
      rcases HBO.out with ho | ho
      ·
       exact .inl (by rw [← ho];exact hq)
      ·
       rw [hq] at ho
       injection ho with ho
       right
       rw [ho]
       simp)
     clear k0 a0 lp q4 q5 hyv e1
     go_wp2_with fail
     go_roundw
     case rel=>exact ⟨_,_,by omega,rfl,by go_num,HFIN.out⟩
     case measure=>simp [intOf]
theorem Tryz.rowP:(Tryz.prog.underlying 123).map (·.isRow)=some true:=by kernel_rfl
theorem Tryz.sizP:(Tryz.prog.info? 123).map (·.size)=some 20:=by kernel_rfl
theorem range_of {w:World} {T:TypeId} {b o:Nat} {vs:List Value} {cs:Array Value} (hb:w.heap[b]?=some (.cells cs T (0,0))) (hv:∀ j v,vs[j]?=some v→cs[o+j]?=some v):w.rangeAt b o vs:=fun j v hj=>cell_of_block hb (hv j v hj)
end Go.Proofs.YtmhainidincjhaaGreatDoor
