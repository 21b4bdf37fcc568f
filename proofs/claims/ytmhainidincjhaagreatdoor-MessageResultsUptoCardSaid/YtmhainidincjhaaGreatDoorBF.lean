/-
 What the laws stand on, part F: contracts and plain laws of Err, Err2; the conditions are each law's own.
-/
import Derived.Test.YtmhainidincjhaaGreatDoorBW
import Derived.WalkKit
import Derived.LaidEql
import Derived.Stop.Asserts
import Derived.RowKitTokens
import Derived.Lib.IfaceEq
import Derived.Lib.Hide
import Derived.Deep.QuietTactic
import Derived.BigQuiet
set_option linter.unusedVariables false
set_option linter.unusedSimpArgs false
set_option maxRecDepth 100000
set_option maxHeartbeats 16000000
namespace Go.Proofs.YtmhainidincjhaaGreatDoor
open Go.RowKit Go.Extern.Stop Go.Stop Go.Extern
def Hg (w:World):Prop:=w.cell? ⟨0,0,none⟩=some (.iface 265 (.agg #[.pointer (some ⟨2,34,none⟩)]))
theorem Hg.lt {w:World} (hg:Hg w):0<w.heap.size:=World.block_lt_of_cell? _ _ hg
theorem Hg.alloc {w:World} (hg:Hg w) (ob:Obj):Hg (w.alloc ob):=by
 unfold Hg;rw [World.cell?_alloc_lt _ _ _ hg.lt];exact hg
theorem Hg.below {w w':World} {B:Nat} (hg:Hg w) (hb:Below B w w') (h0:0<B):Hg w':=by
 unfold Hg;rw [hb.cell (p:=⟨0,0,none⟩) h0];exact hg
theorem Tryz.typeOfErrno (v:Value) (w:World):(ReflectliteType.typeOf #[.iface 52 v]).run Tryz.prog w=.ok (.iface 265 (.agg #[.pointer (some ⟨2,52,none⟩)])) w:=by kernel_rfl
theorem Tryz.noAsErrno (v:Value) (xT:TypeId) (w:World):(Instr.typeAssert (.iface 52 v) xT 311 true).run Tryz.prog w=.ok (.tuple #[.nilIface,.bool false]) w:=run_typeAssert_lacksB Tryz.underlying311 (by kernel_rfl) (by kernel_rfl) v xT w
theorem Tryz.noUnwrapsErrno (v:Value) (xT:TypeId) (w:World):(Instr.typeAssert (.iface 52 v) xT 270 true).run Tryz.prog w=.ok (.tuple #[.nilIface,.bool false]) w:=run_typeAssert_lacksB Tryz.underlying270 (by kernel_rfl) (by kernel_rfl) v xT w
theorem Tryz.noUnwrapErrno (v:Value) (xT:TypeId) (w:World):(Instr.typeAssert (.iface 52 v) xT 269 true).run Tryz.prog w=.ok (.tuple #[.nilIface,.bool false]) w:=run_typeAssert_lacksB Tryz.underlying269 (by kernel_rfl) (by kernel_rfl) v xT w
theorem Tryz.typeOfFault (v:Value) (w:World):(ReflectliteType.typeOf #[.iface 211 v]).run Tryz.prog w=.ok (.iface 265 (.agg #[.pointer (some ⟨2,211,none⟩)])) w:=by kernel_rfl
theorem Tryz.noAsFault (v:Value) (xT:TypeId) (w:World):(Instr.typeAssert (.iface 211 v) xT 311 true).run Tryz.prog w=.ok (.tuple #[.nilIface,.bool false]) w:=run_typeAssert_lacksB Tryz.underlying311 (by kernel_rfl) (by kernel_rfl) v xT w
theorem Tryz.noUnwrapsFault (v:Value) (xT:TypeId) (w:World):(Instr.typeAssert (.iface 211 v) xT 270 true).run Tryz.prog w=.ok (.tuple #[.nilIface,.bool false]) w:=run_typeAssert_lacksB Tryz.underlying270 (by kernel_rfl) (by kernel_rfl) v xT w
theorem Tryz.hasUnwrapFault (v:Value) (xT:TypeId) (w:World):(Instr.typeAssert (.iface 211 v) xT 269 true).run Tryz.prog w=.ok (.tuple #[.iface 211 v,.bool true]) w:=run_typeAssert_hasB Tryz.underlying269 (by kernel_rfl) v xT w
theorem Tryz.methodUnwrapFault (v:Value) (w:World):(Go.method 458 211 v "Unwrap").run Tryz.prog w=.ok (244,v) w:=by kernel_rfl
theorem Tryz.methodKind (h:Value) (w:World):(Go.method 458 265 (.agg #[h]) "Kind").run Tryz.prog w=.ok (237,h) w:=by kernel_rfl
theorem Tryz.methodElem (h:Value) (w:World):(Go.method 458 265 (.agg #[h]) "Elem").run Tryz.prog w=.ok (249,.agg #[h]) w:=by kernel_rfl
theorem Tryz.methodImplements (h:Value) (w:World):(Go.method 458 265 (.agg #[h]) "Implements").run Tryz.prog w=.ok (250,.agg #[h]) w:=by kernel_rfl
theorem Tryz.methodAssignableTo (h:Value) (w:World):(Go.method 458 265 (.agg #[h]) "AssignableTo").run Tryz.prog w=.ok (247,.agg #[h]) w:=by kernel_rfl
theorem rlm (z:Sem Value) (f:TypeId→Addr→Nat→Nat→Sem Value) (v:Value) :
  ReflectliteValue.method z f #[v]=(do match ← ReflectliteValue.parts v with | none=>z | some (t,a,fl)=>f t a fl (fl % 32)):=rfl
theorem rls (v x:Value):ReflectliteValue.set #[v,x]=(do
  let (some (dst,a,fl),some (src,b,_)):=(← ReflectliteValue.parts v,← ReflectliteValue.parts x)
   | unsupported (.noEntry "extern/(internal/reflectlite.Value).Set.zeroValue")
  if fl / ReflectliteValue.flagAddr % 2==0 then unsupported (.noEntry "extern/(internal/reflectlite.Value).Set.unaddressable")
  let val ← loadVar src b
  if ← Rtype.directlyAssignable dst src then storeVar dst a val
  else if ← Rtype.implements dst src then
   if (← Rtype.kind src)==20 then
    match val with
    | .nilIface=>unsupported (.noEntry "extern/reflectlite: a nil value of one interface type handed on as a value of another")
    | _=>storeVar dst a val
   else storeVar dst a (.iface src val)
  else panicString ("reflectlite.Set: value of type " ++ (← Rtype.spelt src) ++ " is not assignable to type " ++ (← Rtype.spelt dst))
  pure (.tuple #[])):=rfl
theorem Tryz.kind52 (w:World):((ReflectliteType.abiMethod fun t=>(fun a:Nat=>Value.int IntKind.u8 (a:Int)) <$> Rtype.kind t) #[.pointer (some ⟨2,52,none⟩)]).run Tryz.prog w=.ok (.int .u8 2) w:=by kernel_rfl
theorem Tryz.kind211 (w:World):((ReflectliteType.abiMethod fun t=>(fun a:Nat=>Value.int IntKind.u8 (a:Int)) <$> Rtype.kind t) #[.pointer (some ⟨2,211,none⟩)]).run Tryz.prog w=.ok (.int .u8 22) w:=by kernel_rfl
theorem Tryz.kind233 (w:World):((ReflectliteType.abiMethod fun t=>(fun a:Nat=>Value.int IntKind.u8 (a:Int)) <$> Rtype.kind t) #[.pointer (some ⟨2,233,none⟩)]).run Tryz.prog w=.ok (.int .u8 22) w:=by kernel_rfl
theorem Tryz.valueOf233 (t:Addr) (w:World):(ReflectliteValue.unpack (.iface 233 (.pointer (some t)))).run Tryz.prog w
  = .ok (.agg #[.pointer (some ⟨2,233,none⟩),.pointer (some ⟨w.heap.size,0,none⟩),.int .u64 150]) (w.alloc (.cells #[.pointer (some t)] 233)):=by kernel_rfl
theorem Tryz.type233 (a:Addr) (w:World):(ReflectliteValue.methodAny (ReflectliteValue.valueError "reflectlite.Value.Type" 0) (fun t _ _ _=>ReflectliteType.toType t) #[.agg #[.pointer (some ⟨2,233,none⟩),.pointer (some a),.int .u64 150]]).run Tryz.prog w
  = .ok (.iface 265 (.agg #[.pointer (some ⟨2,233,none⟩)])) w:=by kernel_rfl
theorem Tryz.parts233 (a:Addr) (w:World):(ReflectliteValue.parts (.agg #[.pointer (some ⟨2,233,none⟩),.pointer (some a),.int .u64 150])).run Tryz.prog w=.ok (some (233,a,150)) w:=by kernel_rfl
theorem Tryz.isNil233 (a p:Addr) (W:World) (ha:W.cell? a=some (.pointer (some p))) :
  (ReflectliteValue.method (ReflectliteValue.valueError "reflectlite.Value.IsNil" 0) ReflectliteValue.isNil #[.agg #[.pointer (some ⟨2,233,none⟩),.pointer (some a),.int .u64 150]]).run Tryz.prog W=.ok (.bool false) W:=by
 rw [rlm]
 simp only [Sem.run_bind,Tryz.parts233,Result.andThen]
 simp [ReflectliteValue.isNil,loadVar,isAgg,underlying,Tryz.underlying233,ha,Result.andThen]
theorem Tryz.elem233 (w:World):(ReflectliteType.method ReflectliteType.elem #[.agg #[.pointer (some ⟨2,233,none⟩)]]).run Tryz.prog w=.ok (.iface 265 (.agg #[.pointer (some ⟨2,52,none⟩)])) w:=by kernel_rfl
theorem Tryz.implements52 (w:World):(ReflectliteType.relation "Implements" ReflectliteType.implements_ #[.agg #[.pointer (some ⟨2,52,none⟩)],.iface 265 (.agg #[.pointer (some ⟨2,34,none⟩)])]).run Tryz.prog w=.ok (.bool true) w:=by kernel_rfl
theorem Tryz.elemOf233 (w:World):(Rtype.elem? 233).run Tryz.prog w=.ok (some 52) w:=by kernel_rfl
theorem Tryz.mk52 (p:Addr) (w:World):(ReflectliteValue.mk 52 p ReflectliteValue.flagAddr).run Tryz.prog w=.ok (.agg #[.pointer (some ⟨2,52,none⟩),.pointer (some p),.int .u64 386]) w:=by kernel_rfl
theorem Tryz.elemV233 (a p:Addr) (W:World) (ha:W.cell? a=some (.pointer (some p))) :
  (ReflectliteValue.method (ReflectliteValue.valueError "reflectlite.Value.Elem" 0) ReflectliteValue.elem #[.agg #[.pointer (some ⟨2,233,none⟩),.pointer (some a),.int .u64 150]]).run Tryz.prog W
   = .ok (.agg #[.pointer (some ⟨2,52,none⟩),.pointer (some p),.int .u64 386]) W:=by
 rw [rlm]
 simp only [Sem.run_bind,Tryz.parts233,Result.andThen]
 simp [ReflectliteValue.elem,loadVar,isAgg,underlying,Tryz.underlying233,ha,Result.andThen,Tryz.elemOf233,Tryz.mk52]
theorem Tryz.valueOf52 (n:Int) (w:World):(ReflectliteValue.unpack (.iface 52 (.int .i64 n))).run Tryz.prog w
  = .ok (.agg #[.pointer (some ⟨2,52,none⟩),.pointer (some ⟨w.heap.size,0,none⟩),.int .u64 130]) (w.alloc (.cells #[.int .i64 n] 52)):=by kernel_rfl
theorem Tryz.parts52a (a:Addr) (w:World):(ReflectliteValue.parts (.agg #[.pointer (some ⟨2,52,none⟩),.pointer (some a),.int .u64 386])).run Tryz.prog w=.ok (some (52,a,386)) w:=by kernel_rfl
theorem Tryz.parts52b (a:Addr) (w:World):(ReflectliteValue.parts (.agg #[.pointer (some ⟨2,52,none⟩),.pointer (some a),.int .u64 130])).run Tryz.prog w=.ok (some (52,a,130)) w:=by kernel_rfl
theorem Tryz.direct52 (w:World):(Rtype.directlyAssignable 52 52).run Tryz.prog w=.ok true w:=by kernel_rfl
theorem Tryz.set52 (ta b:Addr) (n:Int) (old:Value) (W:World) (hb:W.cell? b=some (.int .i64 n)) (ht:W.cell? ta=some old) (hf:W.frozen? ta=false) :
  (ReflectliteValue.set #[.agg #[.pointer (some ⟨2,52,none⟩),.pointer (some ta),.int .u64 386],.agg #[.pointer (some ⟨2,52,none⟩),.pointer (some b),.int .u64 130]]).run Tryz.prog W
   = .ok (.tuple #[]) (W.setCell ta (.int .i64 n)):=by
 rw [rls]
 simp only [Sem.run_bind,Tryz.parts52a,Tryz.parts52b,Result.andThen]
 simp [ReflectliteValue.flagAddr,loadVar,isAgg,underlying,Tryz.underlying52,hb,Result.andThen,Tryz.direct52,storeVar,Value.cells,storeCells,Addr.add]
 rw [run_store Tryz.prog W ta _ _ (by rfl)]
 simp [ht,hf]
theorem Tryz.assignable52to52 (w:World):(ReflectliteType.relation "AssignableTo" ReflectliteType.assignableTo #[.agg #[.pointer (some ⟨2,52,none⟩)],.iface 265 (.agg #[.pointer (some ⟨2,52,none⟩)])]).run Tryz.prog w=.ok (.bool true) w:=by kernel_rfl
theorem Tryz.assignable211to52 (w:World):(ReflectliteType.relation "AssignableTo" ReflectliteType.assignableTo #[.agg #[.pointer (some ⟨2,211,none⟩)],.iface 265 (.agg #[.pointer (some ⟨2,52,none⟩)])]).run Tryz.prog w=.ok (.bool false) w:=by kernel_rfl
theorem Tryz.kind213 (w:World):((ReflectliteType.abiMethod fun t=>(fun a:Nat=>Value.int IntKind.u8 (a:Int)) <$> Rtype.kind t) #[.pointer (some ⟨2,213,none⟩)]).run Tryz.prog w=.ok (.int .u8 22) w:=by kernel_rfl
theorem Tryz.valueOf213 (t:Addr) (w:World):(ReflectliteValue.unpack (.iface 213 (.pointer (some t)))).run Tryz.prog w
  = .ok (.agg #[.pointer (some ⟨2,213,none⟩),.pointer (some ⟨w.heap.size,0,none⟩),.int .u64 150]) (w.alloc (.cells #[.pointer (some t)] 213)):=by kernel_rfl
theorem Tryz.type213 (a:Addr) (w:World):(ReflectliteValue.methodAny (ReflectliteValue.valueError "reflectlite.Value.Type" 0) (fun t _ _ _=>ReflectliteType.toType t) #[.agg #[.pointer (some ⟨2,213,none⟩),.pointer (some a),.int .u64 150]]).run Tryz.prog w
  = .ok (.iface 265 (.agg #[.pointer (some ⟨2,213,none⟩)])) w:=by kernel_rfl
theorem Tryz.parts213 (a:Addr) (w:World):(ReflectliteValue.parts (.agg #[.pointer (some ⟨2,213,none⟩),.pointer (some a),.int .u64 150])).run Tryz.prog w=.ok (some (213,a,150)) w:=by kernel_rfl
theorem Tryz.isNil213 (a p:Addr) (W:World) (ha:W.cell? a=some (.pointer (some p))) :
  (ReflectliteValue.method (ReflectliteValue.valueError "reflectlite.Value.IsNil" 0) ReflectliteValue.isNil #[.agg #[.pointer (some ⟨2,213,none⟩),.pointer (some a),.int .u64 150]]).run Tryz.prog W=.ok (.bool false) W:=by
 rw [rlm]
 simp only [Sem.run_bind,Tryz.parts213,Result.andThen]
 simp [ReflectliteValue.isNil,loadVar,isAgg,underlying,Tryz.underlying213,ha,Result.andThen]
theorem Tryz.elem213 (w:World):(ReflectliteType.method ReflectliteType.elem #[.agg #[.pointer (some ⟨2,213,none⟩)]]).run Tryz.prog w=.ok (.iface 265 (.agg #[.pointer (some ⟨2,211,none⟩)])) w:=by kernel_rfl
theorem Tryz.implements211 (w:World):(ReflectliteType.relation "Implements" ReflectliteType.implements_ #[.agg #[.pointer (some ⟨2,211,none⟩)],.iface 265 (.agg #[.pointer (some ⟨2,34,none⟩)])]).run Tryz.prog w=.ok (.bool true) w:=by kernel_rfl
theorem Tryz.elemOf213 (w:World):(Rtype.elem? 213).run Tryz.prog w=.ok (some 211) w:=by kernel_rfl
theorem Tryz.mk211 (p:Addr) (w:World):(ReflectliteValue.mk 211 p ReflectliteValue.flagAddr).run Tryz.prog w=.ok (.agg #[.pointer (some ⟨2,211,none⟩),.pointer (some p),.int .u64 406]) w:=by kernel_rfl
theorem Tryz.elemV213 (a p:Addr) (W:World) (ha:W.cell? a=some (.pointer (some p))) :
  (ReflectliteValue.method (ReflectliteValue.valueError "reflectlite.Value.Elem" 0) ReflectliteValue.elem #[.agg #[.pointer (some ⟨2,213,none⟩),.pointer (some a),.int .u64 150]]).run Tryz.prog W
   = .ok (.agg #[.pointer (some ⟨2,211,none⟩),.pointer (some p),.int .u64 406]) W:=by
 rw [rlm]
 simp only [Sem.run_bind,Tryz.parts213,Result.andThen]
 simp [ReflectliteValue.elem,loadVar,isAgg,underlying,Tryz.underlying213,ha,Result.andThen,Tryz.elemOf213,Tryz.mk211]
theorem Tryz.valueOf211 (e:Addr) (w:World):(ReflectliteValue.unpack (.iface 211 (.pointer (some e)))).run Tryz.prog w
  = .ok (.agg #[.pointer (some ⟨2,211,none⟩),.pointer (some ⟨w.heap.size,0,none⟩),.int .u64 150]) (w.alloc (.cells #[.pointer (some e)] 211)):=by kernel_rfl
theorem Tryz.parts211a (a:Addr) (w:World):(ReflectliteValue.parts (.agg #[.pointer (some ⟨2,211,none⟩),.pointer (some a),.int .u64 406])).run Tryz.prog w=.ok (some (211,a,406)) w:=by kernel_rfl
theorem Tryz.parts211b (a:Addr) (w:World):(ReflectliteValue.parts (.agg #[.pointer (some ⟨2,211,none⟩),.pointer (some a),.int .u64 150])).run Tryz.prog w=.ok (some (211,a,150)) w:=by kernel_rfl
theorem Tryz.direct211 (w:World):(Rtype.directlyAssignable 211 211).run Tryz.prog w=.ok true w:=by kernel_rfl
theorem Tryz.set211 (ta b:Addr) (e:Addr) (old:Value) (W:World) (hb:W.cell? b=some (.pointer (some e))) (ht:W.cell? ta=some old) (hf:W.frozen? ta=false) :
  (ReflectliteValue.set #[.agg #[.pointer (some ⟨2,211,none⟩),.pointer (some ta),.int .u64 406],.agg #[.pointer (some ⟨2,211,none⟩),.pointer (some b),.int .u64 150]]).run Tryz.prog W
   = .ok (.tuple #[]) (W.setCell ta (.pointer (some e))):=by
 rw [rls]
 simp only [Sem.run_bind,Tryz.parts211a,Tryz.parts211b,Result.andThen]
 simp [ReflectliteValue.flagAddr,loadVar,isAgg,underlying,Tryz.underlying211,hb,Result.andThen,Tryz.direct211,storeVar,Value.cells,storeCells,Addr.add]
 rw [run_store Tryz.prog W ta _ _ (by rfl)]
 simp [ht,hf]
theorem Tryz.assignable211to211 (w:World):(ReflectliteType.relation "AssignableTo" ReflectliteType.assignableTo #[.agg #[.pointer (some ⟨2,211,none⟩)],.iface 265 (.agg #[.pointer (some ⟨2,211,none⟩)])]).run Tryz.prog w=.ok (.bool true) w:=by kernel_rfl
abbrev asWErrno (t:Addr) (w:World):World:=((w.alloc (.cells #[.pointer (some t)] 233)).alloc (.cells #[.pointer (some ⟨2,233,none⟩),.pointer (some ⟨w.heap.size,0,none⟩),.int .u64 150] 277)).alloc (.cells #[.pointer (some ⟨2,233,none⟩),.pointer (some ⟨w.heap.size,0,none⟩),.int .u64 150] 277)
theorem asErrno_FE (pb:Nat) (n:Int) (t:Addr) (old:Value) (w:World) (hg0:Hg w) (ht0:w.cell? t=some old) (hf0:w.frozen? t=false) (hc:w.cell? ⟨pb,2,none⟩=some (eE n)) :
  Calls Tryz.prog 108 #[eF pb,.iface 233 (.pointer (some t))] w fun ev w'=>ev=.returned (.bool true)∧w'=(((asWErrno t w).alloc (.cells #[.int .i64 n] 52)).setCell t (.int .i64 n)):=by
 unfold eE at *
 unfold eF
 have hg:=hg0;unfold Hg at hg;have hlt:=hg0.lt;clear hg0
 have h165:=@run_callFunc_extern Tryz.prog 165 _ (fun args=>ReflectliteValue.unpack (args.getD 0 (.tuple #[]))) Tryz.func165 (by kernel_rfl) (by kernel_rfl) (by kernel_rfl) (by kernel_rfl)
 have h166:=@run_callFunc_extern Tryz.prog 166 _ (ReflectliteValue.methodAny (ReflectliteValue.valueError "reflectlite.Value.Type" 0) (fun t _ _ _=>ReflectliteType.toType t)) Tryz.func166 (by kernel_rfl) (by kernel_rfl) (by kernel_rfl) (by kernel_rfl)
 have h167:=@run_callFunc_extern Tryz.prog 167 _ (ReflectliteValue.method (ReflectliteValue.valueError "reflectlite.Value.IsNil" 0) ReflectliteValue.isNil) Tryz.func167 (by kernel_rfl) (by kernel_rfl) (by kernel_rfl) (by kernel_rfl)
 have h237:=@run_callFunc_extern Tryz.prog 237 _ (ReflectliteType.abiMethod fun t=>do pure (.int .u8 (← Rtype.kind t))) Tryz.func237 (by kernel_rfl) (by kernel_rfl) (by kernel_rfl) (by kernel_rfl)
 have h249:=@run_callFunc_extern Tryz.prog 249 _ (ReflectliteType.method ReflectliteType.elem) Tryz.func249 (by kernel_rfl) (by kernel_rfl) (by kernel_rfl) (by kernel_rfl)
 have h250:=@run_callFunc_extern Tryz.prog 250 _ (ReflectliteType.relation "Implements" ReflectliteType.implements_) Tryz.func250 (by kernel_rfl) (by kernel_rfl) (by kernel_rfl) (by kernel_rfl)
 have hTypeOf:=@run_callFunc_extern Tryz.prog 101 _ ReflectliteType.typeOf Tryz.func101 (by kernel_rfl) (by kernel_rfl) (by kernel_rfl) (by kernel_rfl)
 have h247:=@run_callFunc_extern Tryz.prog 247 _ (ReflectliteType.relation "AssignableTo" ReflectliteType.assignableTo) Tryz.func247 (by kernel_rfl) (by kernel_rfl) (by kernel_rfl) (by kernel_rfl)
 have h194:=@run_callFunc_extern Tryz.prog 194 _ (ReflectliteValue.method (ReflectliteValue.valueError "reflectlite.Value.Elem" 0) ReflectliteValue.elem) Tryz.func194 (by kernel_rfl) (by kernel_rfl) (by kernel_rfl) (by kernel_rfl)
 have h195:=@run_callFunc_extern Tryz.prog 195 _ ReflectliteValue.set Tryz.func195 (by kernel_rfl) (by kernel_rfl) (by kernel_rfl) (by kernel_rfl)
 have tFault:=Tryz.typeOfFault
 have nAsFault:=Tryz.noAsFault
 have nUnwrapsFault:=Tryz.noUnwrapsFault
 have uFault:=Tryz.hasUnwrapFault
 have mFault:=Tryz.methodUnwrapFault
 have tErrno:=Tryz.typeOfErrno
 have nAsErrno:=Tryz.noAsErrno
 have nUnwrapsErrno:=Tryz.noUnwrapsErrno
 have nUnwrapErrno:=Tryz.noUnwrapErrno
 have aFault:=Tryz.assignable211to52
 have aErrno:=Tryz.assignable52to52
 have mA:=Tryz.methodAssignableTo
 have f6:=Tryz.valueOf233
 have f7:=Tryz.type233
 have mK:=Tryz.methodKind
 have mE:=Tryz.methodElem
 have mI:=Tryz.methodImplements
 have kP:=Tryz.kind233
 have kT:=Tryz.kind52
 have eP:=Tryz.elem233
 have iT:=Tryz.implements52
 have n8:=Tryz.isNil233 ⟨w.heap.size,0,none⟩ t ((w.alloc (.cells #[.pointer (some t)] 233)).alloc (.cells #[.pointer (some ⟨2,233,none⟩),.pointer (some ⟨w.heap.size,0,none⟩),.int .u64 150] 277)) (by simp)
 have hg2:((w.alloc (.cells #[.pointer (some t)] 233)).alloc (.cells #[.pointer (some ⟨2,233,none⟩),.pointer (some ⟨w.heap.size,0,none⟩),.int .u64 150] 277)).cell? ⟨0,0,none⟩=some (.iface 265 (.agg #[.pointer (some ⟨2,34,none⟩)])):=by
  rw [World.cell?_alloc_lt _ _ ⟨0,0,none⟩ (by simp <;> omega),World.cell?_alloc_lt _ _ ⟨0,0,none⟩ hlt];exact hg
 have hpl:pb<w.heap.size:=World.block_lt_of_cell? _ _ hc
 have hc3:(((w.alloc (.cells #[.pointer (some t)] 233)).alloc (.cells #[.pointer (some ⟨2,233,none⟩),.pointer (some ⟨w.heap.size,0,none⟩),.int .u64 150] 277)).alloc (.cells #[.pointer (some ⟨2,233,none⟩),.pointer (some ⟨w.heap.size,0,none⟩),.int .u64 150] 277)).cell? ⟨pb,2,none⟩=some (.iface 52 (.int .i64 n)):=by
  rw [World.cell?_alloc_lt _ _ ⟨pb,2,none⟩ (by simp <;> omega),World.cell?_alloc_lt _ _ ⟨pb,2,none⟩ (by simp <;> omega),World.cell?_alloc_lt _ _ ⟨pb,2,none⟩ hpl];exact hc
 have vT:=Tryz.valueOf52
 have htl:t.block<w.heap.size:=World.block_lt_of_cell? _ _ ht0
 have el:=Tryz.elemV233 ⟨w.heap.size,0,none⟩ t (((w.alloc (.cells #[.pointer (some t)] 233)).alloc (.cells #[.pointer (some ⟨2,233,none⟩),.pointer (some ⟨w.heap.size,0,none⟩),.int .u64 150] 277)).alloc (.cells #[.pointer (some ⟨2,233,none⟩),.pointer (some ⟨w.heap.size,0,none⟩),.int .u64 150] 277)) (by rw [World.cell?_alloc_lt _ _ ⟨w.heap.size,0,none⟩ (by simp <;> omega)];simp)
 have st:=Tryz.set52 t ⟨w.heap.size+1+1+1,0,none⟩ n old ((((w.alloc (.cells #[.pointer (some t)] 233)).alloc (.cells #[.pointer (some ⟨2,233,none⟩),.pointer (some ⟨w.heap.size,0,none⟩),.int .u64 150] 277)).alloc (.cells #[.pointer (some ⟨2,233,none⟩),.pointer (some ⟨w.heap.size,0,none⟩),.int .u64 150] 277)).alloc (.cells #[.int .i64 n] 52))
  (by rw [World.cell?_alloc_at _ _ _ _ (by simp)];rfl)
  (by rw [World.cell?_alloc_lt _ _ t (by simp <;> omega),World.cell?_alloc_lt _ _ t (by simp <;> omega),World.cell?_alloc_lt _ _ t (by simp <;> omega),World.cell?_alloc_lt _ _ t htl];exact ht0)
  (by rw [World.frozen?_alloc_old _ _ t (by simp <;> omega),World.frozen?_alloc_old _ _ t (by simp <;> omega),World.frozen?_alloc_old _ _ t (by simp <;> omega),World.frozen?_alloc_old _ _ t (Nat.ne_of_lt htl)];exact hf0)
 go_enter Tryz.func108,Tryz.ntmps108
 go_wp2
 refine wp_loop_rounds 2 ?_
 rw [rounds_succ]
 go_wp2
 rw [rounds_succ]
 go_wp2
 go_ret
 exact ⟨rfl,rfl⟩
abbrev asWFault (t:Addr) (w:World):World:=((w.alloc (.cells #[.pointer (some t)] 213)).alloc (.cells #[.pointer (some ⟨2,213,none⟩),.pointer (some ⟨w.heap.size,0,none⟩),.int .u64 150] 277)).alloc (.cells #[.pointer (some ⟨2,213,none⟩),.pointer (some ⟨w.heap.size,0,none⟩),.int .u64 150] 277)
theorem asFault_FE (pb:Nat) (t:Addr) (old:Value) (w:World) (hg0:Hg w) (ht0:w.cell? t=some old) (hf0:w.frozen? t=false) :
  Calls Tryz.prog 108 #[eF pb,.iface 213 (.pointer (some t))] w fun ev w'=>ev=.returned (.bool true)∧w'=(((asWFault t w).alloc (.cells #[.pointer (some ⟨pb,0,none⟩)] 211)).setCell t (.pointer (some ⟨pb,0,none⟩))):=by
 skip
 unfold eF
 have hg:=hg0;unfold Hg at hg;have hlt:=hg0.lt;clear hg0
 have h165:=@run_callFunc_extern Tryz.prog 165 _ (fun args=>ReflectliteValue.unpack (args.getD 0 (.tuple #[]))) Tryz.func165 (by kernel_rfl) (by kernel_rfl) (by kernel_rfl) (by kernel_rfl)
 have h166:=@run_callFunc_extern Tryz.prog 166 _ (ReflectliteValue.methodAny (ReflectliteValue.valueError "reflectlite.Value.Type" 0) (fun t _ _ _=>ReflectliteType.toType t)) Tryz.func166 (by kernel_rfl) (by kernel_rfl) (by kernel_rfl) (by kernel_rfl)
 have h167:=@run_callFunc_extern Tryz.prog 167 _ (ReflectliteValue.method (ReflectliteValue.valueError "reflectlite.Value.IsNil" 0) ReflectliteValue.isNil) Tryz.func167 (by kernel_rfl) (by kernel_rfl) (by kernel_rfl) (by kernel_rfl)
 have h237:=@run_callFunc_extern Tryz.prog 237 _ (ReflectliteType.abiMethod fun t=>do pure (.int .u8 (← Rtype.kind t))) Tryz.func237 (by kernel_rfl) (by kernel_rfl) (by kernel_rfl) (by kernel_rfl)
 have h249:=@run_callFunc_extern Tryz.prog 249 _ (ReflectliteType.method ReflectliteType.elem) Tryz.func249 (by kernel_rfl) (by kernel_rfl) (by kernel_rfl) (by kernel_rfl)
 have h250:=@run_callFunc_extern Tryz.prog 250 _ (ReflectliteType.relation "Implements" ReflectliteType.implements_) Tryz.func250 (by kernel_rfl) (by kernel_rfl) (by kernel_rfl) (by kernel_rfl)
 have hTypeOf:=@run_callFunc_extern Tryz.prog 101 _ ReflectliteType.typeOf Tryz.func101 (by kernel_rfl) (by kernel_rfl) (by kernel_rfl) (by kernel_rfl)
 have h247:=@run_callFunc_extern Tryz.prog 247 _ (ReflectliteType.relation "AssignableTo" ReflectliteType.assignableTo) Tryz.func247 (by kernel_rfl) (by kernel_rfl) (by kernel_rfl) (by kernel_rfl)
 have h194:=@run_callFunc_extern Tryz.prog 194 _ (ReflectliteValue.method (ReflectliteValue.valueError "reflectlite.Value.Elem" 0) ReflectliteValue.elem) Tryz.func194 (by kernel_rfl) (by kernel_rfl) (by kernel_rfl) (by kernel_rfl)
 have h195:=@run_callFunc_extern Tryz.prog 195 _ ReflectliteValue.set Tryz.func195 (by kernel_rfl) (by kernel_rfl) (by kernel_rfl) (by kernel_rfl)
 have tFault:=Tryz.typeOfFault
 have nAsFault:=Tryz.noAsFault
 have nUnwrapsFault:=Tryz.noUnwrapsFault
 have uFault:=Tryz.hasUnwrapFault
 have mFault:=Tryz.methodUnwrapFault
 have aFault:=Tryz.assignable211to211
 have mA:=Tryz.methodAssignableTo
 have f6:=Tryz.valueOf213
 have f7:=Tryz.type213
 have mK:=Tryz.methodKind
 have mE:=Tryz.methodElem
 have mI:=Tryz.methodImplements
 have kP:=Tryz.kind213
 have kT:=Tryz.kind211
 have eP:=Tryz.elem213
 have iT:=Tryz.implements211
 have n8:=Tryz.isNil213 ⟨w.heap.size,0,none⟩ t ((w.alloc (.cells #[.pointer (some t)] 213)).alloc (.cells #[.pointer (some ⟨2,213,none⟩),.pointer (some ⟨w.heap.size,0,none⟩),.int .u64 150] 277)) (by simp)
 have hg2:((w.alloc (.cells #[.pointer (some t)] 213)).alloc (.cells #[.pointer (some ⟨2,213,none⟩),.pointer (some ⟨w.heap.size,0,none⟩),.int .u64 150] 277)).cell? ⟨0,0,none⟩=some (.iface 265 (.agg #[.pointer (some ⟨2,34,none⟩)])):=by
  rw [World.cell?_alloc_lt _ _ ⟨0,0,none⟩ (by simp <;> omega),World.cell?_alloc_lt _ _ ⟨0,0,none⟩ hlt];exact hg
 have vT:=Tryz.valueOf211
 have htl:t.block<w.heap.size:=World.block_lt_of_cell? _ _ ht0
 have el:=Tryz.elemV213 ⟨w.heap.size,0,none⟩ t (((w.alloc (.cells #[.pointer (some t)] 213)).alloc (.cells #[.pointer (some ⟨2,213,none⟩),.pointer (some ⟨w.heap.size,0,none⟩),.int .u64 150] 277)).alloc (.cells #[.pointer (some ⟨2,213,none⟩),.pointer (some ⟨w.heap.size,0,none⟩),.int .u64 150] 277)) (by rw [World.cell?_alloc_lt _ _ ⟨w.heap.size,0,none⟩ (by simp <;> omega)];simp)
 have st:=Tryz.set211 t ⟨w.heap.size+1+1+1,0,none⟩ ⟨pb,0,none⟩ old ((((w.alloc (.cells #[.pointer (some t)] 213)).alloc (.cells #[.pointer (some ⟨2,213,none⟩),.pointer (some ⟨w.heap.size,0,none⟩),.int .u64 150] 277)).alloc (.cells #[.pointer (some ⟨2,213,none⟩),.pointer (some ⟨w.heap.size,0,none⟩),.int .u64 150] 277)).alloc (.cells #[.pointer (some ⟨pb,0,none⟩)] 211))
  (by rw [World.cell?_alloc_at _ _ _ _ (by simp)];rfl)
  (by rw [World.cell?_alloc_lt _ _ t (by simp <;> omega),World.cell?_alloc_lt _ _ t (by simp <;> omega),World.cell?_alloc_lt _ _ t (by simp <;> omega),World.cell?_alloc_lt _ _ t htl];exact ht0)
  (by rw [World.frozen?_alloc_old _ _ t (by simp <;> omega),World.frozen?_alloc_old _ _ t (by simp <;> omega),World.frozen?_alloc_old _ _ t (by simp <;> omega),World.frozen?_alloc_old _ _ t (Nat.ne_of_lt htl)];exact hf0)
 go_enter Tryz.func108,Tryz.ntmps108
 go_wp2
 refine wp_loop_rounds 1 ?_
 rw [rounds_succ]
 go_wp2
 go_ret
 exact ⟨rfl,rfl⟩
theorem asErrno_FE_b (pb:Nat) (n:Int) (tb:Nat) (old:Value) (w:World) (hg0:Hg w) (ht0:w.cell? ⟨tb,0,none⟩=some old) (hf0:w.frozen? ⟨tb,0,none⟩=false) (hc:w.cell? ⟨pb,2,none⟩=some (eE n)) :
  Calls Tryz.prog 108 #[eF pb,.iface 233 (.pointer (some ⟨tb,0,none⟩))] w fun e w'=>e=.returned (.bool true)∧Below tb w w'∧w'.cell? ⟨tb,0,none⟩=some (.int .i64 n):=by
 have hlt:tb<w.heap.size:=World.block_lt_of_cell? _ _ ht0
 refine (asErrno_FE pb n ⟨tb,0,none⟩ old w hg0 ht0 hf0 hc).mono fun e w' ⟨he,hw⟩=>⟨he,?_,?_⟩
 ·
  subst hw;exact (by repeat (first | exact Below.refl _ _ | (refine Below.alloc ?_ (by first | omega | (simp;done) | (simp;omega)) _) | (refine Below.setCell ?_ (by first | omega | (simp;done) | (simp;omega)) _) | (refine Below.drew ?_)))
 ·
  subst hw
  refine World.cell?_setCell_same _ _ _ (u:=old) ?_
  rw [World.cell?_alloc_lt _ _ ⟨tb,0,none⟩ (by simp <;> omega),World.cell?_alloc_lt _ _ ⟨tb,0,none⟩ (by simp <;> omega),World.cell?_alloc_lt _ _ ⟨tb,0,none⟩ (by simp <;> omega),World.cell?_alloc_lt _ _ ⟨tb,0,none⟩ hlt];exact ht0
theorem asFault_FE_b (pb:Nat) (tb:Nat) (old:Value) (w:World) (hg0:Hg w) (ht0:w.cell? ⟨tb,0,none⟩=some old) (hf0:w.frozen? ⟨tb,0,none⟩=false) :
  Calls Tryz.prog 108 #[eF pb,.iface 213 (.pointer (some ⟨tb,0,none⟩))] w fun e w'=>e=.returned (.bool true)∧Below tb w w'∧w'.cell? ⟨tb,0,none⟩=some (.pointer (some ⟨pb,0,none⟩)):=by
 have hlt:tb<w.heap.size:=World.block_lt_of_cell? _ _ ht0
 refine (asFault_FE pb ⟨tb,0,none⟩ old w hg0 ht0 hf0).mono fun e w' ⟨he,hw⟩=>⟨he,?_,?_⟩
 ·
  subst hw;exact (by repeat (first | exact Below.refl _ _ | (refine Below.alloc ?_ (by first | omega | (simp;done) | (simp;omega)) _) | (refine Below.setCell ?_ (by first | omega | (simp;done) | (simp;omega)) _) | (refine Below.drew ?_)))
 ·
  subst hw
  refine World.cell?_setCell_same _ _ _ (u:=old) ?_
  rw [World.cell?_alloc_lt _ _ ⟨tb,0,none⟩ (by simp <;> omega),World.cell?_alloc_lt _ _ ⟨tb,0,none⟩ (by simp <;> omega),World.cell?_alloc_lt _ _ ⟨tb,0,none⟩ (by simp <;> omega),World.cell?_alloc_lt _ _ ⟨tb,0,none⟩ hlt];exact ht0
theorem number_F (pb:Nat) (n:Int) (w:World) (hg:Hg w) (hc:w.cell? ⟨pb,2,none⟩=some (eE n)) :
  Calls Tryz.prog 62 #[eF pb] w fun e w'=>e=.returned (.int .i64 n)∧Below w.heap.size w w':=by
 have hg1:=hg.alloc (.cells #[.int .i64 0] 52)
 have hc1:(w.alloc (.cells #[.int .i64 0] 52)).cell? ⟨pb,2,none⟩=some (eE n):=by
  rw [World.cell?_alloc_lt _ _ ⟨pb,2,none⟩ (World.block_lt_of_cell? _ _ hc)];exact hc
 have HC1:=Lib.hid hc1;clear hc1 hc
 unfold eF
 go_enter Tryz.func62,Tryz.ntmps62
 go_wp2_with fail
 refine (asErrno_FE_b pb n _ (.int .i64 0) _ hg1 (by simp) (by simp) HC1.out).mono ?_
 rintro e w' ⟨rfl,hb,hc⟩
 go_wp2
 go_ret
 exact ⟨rfl,((Below.refl _ _).alloc (Nat.le_refl _) _).trans hb⟩
end Go.Proofs.YtmhainidincjhaaGreatDoor
