/-
  What the laws stand on, part F: contracts and plain laws of Err, Err2; the conditions are each law's own.
-/
import Derived.Test.YtndndfobkbeolaaGreatDoorQW
import Derived.WalkKit
import Derived.LaidEql
import Derived.Stop.Asserts
import Derived.RowKitTokens
import Derived.Lib.IfaceEq
import Derived.Lib.Hide
import Derived.Deep.QuietTactic
import Derived.BigQuiet
set_option linter.unusedVariables false
set_option linter.unusedSimpArgs false
namespace Go.Proofs.YtndndfobkbeolaaGreatDoor
open Go.RowKit Go.Extern.Stop Go.Stop Go.Extern
def Hg (w : World) : Prop := w.cell? ⟨0, 0, none⟩ = some (.iface 135 (.agg #[.pointer (some ⟨1, 34, none⟩)]))
theorem Hg.lt {w : World} (hg : Hg w) : 0 < w.heap.size := World.block_lt_of_cell? _ _ hg
theorem Hg.alloc {w : World} (hg : Hg w) (ob : Obj) : Hg (w.alloc ob) := by
  unfold Hg; rw [World.cell?_alloc_lt _ _ _ hg.lt]; exact hg
theorem Hg.below {w w' : World} {B : Nat} (hg : Hg w) (hb : Below B w w') (h0 : 0 < B) : Hg w' := by
  unfold Hg; rw [hb.cell (p := ⟨0, 0, none⟩) h0]; exact hg
theorem Tryz.typeOfErrno (v : Value) (w : World) : (ReflectliteType.typeOf #[.iface 44 v]).run Tryz.prog w = .ok (.iface 135 (.agg #[.pointer (some ⟨1, 44, none⟩)])) w := by kernel_rfl
theorem Tryz.noAsErrno (v : Value) (xT : TypeId) (w : World) : (Instr.typeAssert (.iface 44 v) xT 140 true).run Tryz.prog w = .ok (.tuple #[.nilIface, .bool false]) w := run_typeAssert_lacksB Tryz.underlying140 (by kernel_rfl) (by kernel_rfl) v xT w
theorem Tryz.noUnwrapsErrno (v : Value) (xT : TypeId) (w : World) : (Instr.typeAssert (.iface 44 v) xT 145 true).run Tryz.prog w = .ok (.tuple #[.nilIface, .bool false]) w := run_typeAssert_lacksB Tryz.underlying145 (by kernel_rfl) (by kernel_rfl) v xT w
theorem Tryz.noUnwrapErrno (v : Value) (xT : TypeId) (w : World) : (Instr.typeAssert (.iface 44 v) xT 143 true).run Tryz.prog w = .ok (.tuple #[.nilIface, .bool false]) w := run_typeAssert_lacksB Tryz.underlying143 (by kernel_rfl) (by kernel_rfl) v xT w
theorem Tryz.typeOfFault (v : Value) (w : World) : (ReflectliteType.typeOf #[.iface 93 v]).run Tryz.prog w = .ok (.iface 135 (.agg #[.pointer (some ⟨1, 93, none⟩)])) w := by kernel_rfl
theorem Tryz.noAsFault (v : Value) (xT : TypeId) (w : World) : (Instr.typeAssert (.iface 93 v) xT 140 true).run Tryz.prog w = .ok (.tuple #[.nilIface, .bool false]) w := run_typeAssert_lacksB Tryz.underlying140 (by kernel_rfl) (by kernel_rfl) v xT w
theorem Tryz.noUnwrapsFault (v : Value) (xT : TypeId) (w : World) : (Instr.typeAssert (.iface 93 v) xT 145 true).run Tryz.prog w = .ok (.tuple #[.nilIface, .bool false]) w := run_typeAssert_lacksB Tryz.underlying145 (by kernel_rfl) (by kernel_rfl) v xT w
theorem Tryz.hasUnwrapFault (v : Value) (xT : TypeId) (w : World) : (Instr.typeAssert (.iface 93 v) xT 143 true).run Tryz.prog w = .ok (.tuple #[.iface 93 v, .bool true]) w := run_typeAssert_hasB Tryz.underlying143 (by kernel_rfl) v xT w
theorem Tryz.methodUnwrapFault (v : Value) (w : World) : (Go.method 299 93 v "Unwrap").run Tryz.prog w = .ok (124, v) w := by kernel_rfl
theorem Tryz.methodKind (h : Value) (w : World) : (Go.method 299 135 (.agg #[h]) "Kind").run Tryz.prog w = .ok (115, h) w := by kernel_rfl
theorem Tryz.methodElem (h : Value) (w : World) : (Go.method 299 135 (.agg #[h]) "Elem").run Tryz.prog w = .ok (131, .agg #[h]) w := by kernel_rfl
theorem Tryz.methodImplements (h : Value) (w : World) : (Go.method 299 135 (.agg #[h]) "Implements").run Tryz.prog w = .ok (132, .agg #[h]) w := by kernel_rfl
theorem Tryz.methodAssignableTo (h : Value) (w : World) : (Go.method 299 135 (.agg #[h]) "AssignableTo").run Tryz.prog w = .ok (129, .agg #[h]) w := by kernel_rfl
theorem rlm (z : Sem Value) (f : TypeId → Addr → Nat → Nat → Sem Value) (v : Value) :
    ReflectliteValue.method z f #[v] = (do match ← ReflectliteValue.parts v with | none => z | some (t, a, fl) => f t a fl (fl % 32)) := rfl
theorem rls (v x : Value) : ReflectliteValue.set #[v, x] = (do
    let (some (dst, a, fl), some (src, b, _)) := (← ReflectliteValue.parts v, ← ReflectliteValue.parts x)
      | unsupported (.noEntry "extern/(internal/reflectlite.Value).Set.zeroValue")
    if fl / ReflectliteValue.flagAddr % 2 == 0 then unsupported (.noEntry "extern/(internal/reflectlite.Value).Set.unaddressable")
    let val ← loadVar src b
    if ← Rtype.directlyAssignable dst src then storeVar dst a val
    else if ← Rtype.implements dst src then
      if (← Rtype.kind src) == 20 then
        match val with
        | .nilIface => unsupported (.noEntry "extern/reflectlite: a nil value of one interface type handed on as a value of another")
        | _ => storeVar dst a val
      else storeVar dst a (.iface src val)
    else panicString ("reflectlite.Set: value of type " ++ (← Rtype.spelt src) ++ " is not assignable to type " ++ (← Rtype.spelt dst))
    pure (.tuple #[])) := rfl
theorem Tryz.kind44 (w : World) : ((ReflectliteType.abiMethod fun t => (fun a : Nat => Value.int IntKind.u8 (a : Int)) <$> Rtype.kind t) #[.pointer (some ⟨1, 44, none⟩)]).run Tryz.prog w = .ok (.int .u8 2) w := by kernel_rfl
theorem Tryz.kind93 (w : World) : ((ReflectliteType.abiMethod fun t => (fun a : Nat => Value.int IntKind.u8 (a : Int)) <$> Rtype.kind t) #[.pointer (some ⟨1, 93, none⟩)]).run Tryz.prog w = .ok (.int .u8 22) w := by kernel_rfl
theorem Tryz.kind99 (w : World) : ((ReflectliteType.abiMethod fun t => (fun a : Nat => Value.int IntKind.u8 (a : Int)) <$> Rtype.kind t) #[.pointer (some ⟨1, 99, none⟩)]).run Tryz.prog w = .ok (.int .u8 22) w := by kernel_rfl
theorem Tryz.valueOf99 (t : Addr) (w : World) : (ReflectliteValue.unpack (.iface 99 (.pointer (some t)))).run Tryz.prog w
    = .ok (.agg #[.pointer (some ⟨1, 99, none⟩), .pointer (some ⟨w.heap.size, 0, none⟩), .int .u64 150]) (w.alloc (.cells #[.pointer (some t)] 99)) := by kernel_rfl
theorem Tryz.type99 (a : Addr) (w : World) : (ReflectliteValue.methodAny (ReflectliteValue.valueError "reflectlite.Value.Type" 0) (fun t _ _ _ => ReflectliteType.toType t) #[.agg #[.pointer (some ⟨1, 99, none⟩), .pointer (some a), .int .u64 150]]).run Tryz.prog w
    = .ok (.iface 135 (.agg #[.pointer (some ⟨1, 99, none⟩)])) w := by kernel_rfl
theorem Tryz.parts99 (a : Addr) (w : World) : (ReflectliteValue.parts (.agg #[.pointer (some ⟨1, 99, none⟩), .pointer (some a), .int .u64 150])).run Tryz.prog w = .ok (some (99, a, 150)) w := by kernel_rfl
theorem Tryz.isNil99 (a p : Addr) (W : World) (ha : W.cell? a = some (.pointer (some p))) :
    (ReflectliteValue.method (ReflectliteValue.valueError "reflectlite.Value.IsNil" 0) ReflectliteValue.isNil #[.agg #[.pointer (some ⟨1, 99, none⟩), .pointer (some a), .int .u64 150]]).run Tryz.prog W = .ok (.bool false) W := by
  rw [rlm]
  simp only [Sem.run_bind, Tryz.parts99, Result.andThen]
  simp [ReflectliteValue.isNil, loadVar, isAgg, underlying, Tryz.underlying99, ha, Result.andThen]
theorem Tryz.elem99 (w : World) : (ReflectliteType.method ReflectliteType.elem #[.agg #[.pointer (some ⟨1, 99, none⟩)]]).run Tryz.prog w = .ok (.iface 135 (.agg #[.pointer (some ⟨1, 44, none⟩)])) w := by kernel_rfl
theorem Tryz.implements44 (w : World) : (ReflectliteType.relation "Implements" ReflectliteType.implements_ #[.agg #[.pointer (some ⟨1, 44, none⟩)], .iface 135 (.agg #[.pointer (some ⟨1, 34, none⟩)])]).run Tryz.prog w = .ok (.bool true) w := by kernel_rfl
theorem Tryz.elemOf99 (w : World) : (Rtype.elem? 99).run Tryz.prog w = .ok (some 44) w := by kernel_rfl
theorem Tryz.mk44 (p : Addr) (w : World) : (ReflectliteValue.mk 44 p ReflectliteValue.flagAddr).run Tryz.prog w = .ok (.agg #[.pointer (some ⟨1, 44, none⟩), .pointer (some p), .int .u64 386]) w := by kernel_rfl
theorem Tryz.elemV99 (a p : Addr) (W : World) (ha : W.cell? a = some (.pointer (some p))) :
    (ReflectliteValue.method (ReflectliteValue.valueError "reflectlite.Value.Elem" 0) ReflectliteValue.elem #[.agg #[.pointer (some ⟨1, 99, none⟩), .pointer (some a), .int .u64 150]]).run Tryz.prog W
      = .ok (.agg #[.pointer (some ⟨1, 44, none⟩), .pointer (some p), .int .u64 386]) W := by
  rw [rlm]
  simp only [Sem.run_bind, Tryz.parts99, Result.andThen]
  simp [ReflectliteValue.elem, loadVar, isAgg, underlying, Tryz.underlying99, ha, Result.andThen, Tryz.elemOf99, Tryz.mk44]
theorem Tryz.valueOf44 (n : Int) (w : World) : (ReflectliteValue.unpack (.iface 44 (.int .i64 n))).run Tryz.prog w
    = .ok (.agg #[.pointer (some ⟨1, 44, none⟩), .pointer (some ⟨w.heap.size, 0, none⟩), .int .u64 130]) (w.alloc (.cells #[.int .i64 n] 44)) := by kernel_rfl
theorem Tryz.parts44a (a : Addr) (w : World) : (ReflectliteValue.parts (.agg #[.pointer (some ⟨1, 44, none⟩), .pointer (some a), .int .u64 386])).run Tryz.prog w = .ok (some (44, a, 386)) w := by kernel_rfl
theorem Tryz.parts44b (a : Addr) (w : World) : (ReflectliteValue.parts (.agg #[.pointer (some ⟨1, 44, none⟩), .pointer (some a), .int .u64 130])).run Tryz.prog w = .ok (some (44, a, 130)) w := by kernel_rfl
theorem Tryz.direct44 (w : World) : (Rtype.directlyAssignable 44 44).run Tryz.prog w = .ok true w := by kernel_rfl
theorem Tryz.set44 (ta b : Addr) (n : Int) (old : Value) (W : World) (hb : W.cell? b = some (.int .i64 n)) (ht : W.cell? ta = some old) (hf : W.frozen? ta = false) :
    (ReflectliteValue.set #[.agg #[.pointer (some ⟨1, 44, none⟩), .pointer (some ta), .int .u64 386], .agg #[.pointer (some ⟨1, 44, none⟩), .pointer (some b), .int .u64 130]]).run Tryz.prog W
      = .ok (.tuple #[]) (W.setCell ta (.int .i64 n)) := by
  rw [rls]
  simp only [Sem.run_bind, Tryz.parts44a, Tryz.parts44b, Result.andThen]
  simp [ReflectliteValue.flagAddr, loadVar, isAgg, underlying, Tryz.underlying44, hb, Result.andThen, Tryz.direct44, storeVar, Value.cells, storeCells, Addr.add]
  rw [run_store Tryz.prog W ta _ _ (by rfl)]
  simp [ht, hf]
theorem Tryz.assignable44to44 (w : World) : (ReflectliteType.relation "AssignableTo" ReflectliteType.assignableTo #[.agg #[.pointer (some ⟨1, 44, none⟩)], .iface 135 (.agg #[.pointer (some ⟨1, 44, none⟩)])]).run Tryz.prog w = .ok (.bool true) w := by kernel_rfl
theorem Tryz.assignable93to44 (w : World) : (ReflectliteType.relation "AssignableTo" ReflectliteType.assignableTo #[.agg #[.pointer (some ⟨1, 93, none⟩)], .iface 135 (.agg #[.pointer (some ⟨1, 44, none⟩)])]).run Tryz.prog w = .ok (.bool false) w := by kernel_rfl
theorem Tryz.kind98 (w : World) : ((ReflectliteType.abiMethod fun t => (fun a : Nat => Value.int IntKind.u8 (a : Int)) <$> Rtype.kind t) #[.pointer (some ⟨1, 98, none⟩)]).run Tryz.prog w = .ok (.int .u8 22) w := by kernel_rfl
theorem Tryz.valueOf98 (t : Addr) (w : World) : (ReflectliteValue.unpack (.iface 98 (.pointer (some t)))).run Tryz.prog w
    = .ok (.agg #[.pointer (some ⟨1, 98, none⟩), .pointer (some ⟨w.heap.size, 0, none⟩), .int .u64 150]) (w.alloc (.cells #[.pointer (some t)] 98)) := by kernel_rfl
theorem Tryz.type98 (a : Addr) (w : World) : (ReflectliteValue.methodAny (ReflectliteValue.valueError "reflectlite.Value.Type" 0) (fun t _ _ _ => ReflectliteType.toType t) #[.agg #[.pointer (some ⟨1, 98, none⟩), .pointer (some a), .int .u64 150]]).run Tryz.prog w
    = .ok (.iface 135 (.agg #[.pointer (some ⟨1, 98, none⟩)])) w := by kernel_rfl
theorem Tryz.parts98 (a : Addr) (w : World) : (ReflectliteValue.parts (.agg #[.pointer (some ⟨1, 98, none⟩), .pointer (some a), .int .u64 150])).run Tryz.prog w = .ok (some (98, a, 150)) w := by kernel_rfl
theorem Tryz.isNil98 (a p : Addr) (W : World) (ha : W.cell? a = some (.pointer (some p))) :
    (ReflectliteValue.method (ReflectliteValue.valueError "reflectlite.Value.IsNil" 0) ReflectliteValue.isNil #[.agg #[.pointer (some ⟨1, 98, none⟩), .pointer (some a), .int .u64 150]]).run Tryz.prog W = .ok (.bool false) W := by
  rw [rlm]
  simp only [Sem.run_bind, Tryz.parts98, Result.andThen]
  simp [ReflectliteValue.isNil, loadVar, isAgg, underlying, Tryz.underlying98, ha, Result.andThen]
theorem Tryz.elem98 (w : World) : (ReflectliteType.method ReflectliteType.elem #[.agg #[.pointer (some ⟨1, 98, none⟩)]]).run Tryz.prog w = .ok (.iface 135 (.agg #[.pointer (some ⟨1, 93, none⟩)])) w := by kernel_rfl
theorem Tryz.implements93 (w : World) : (ReflectliteType.relation "Implements" ReflectliteType.implements_ #[.agg #[.pointer (some ⟨1, 93, none⟩)], .iface 135 (.agg #[.pointer (some ⟨1, 34, none⟩)])]).run Tryz.prog w = .ok (.bool true) w := by kernel_rfl
theorem Tryz.elemOf98 (w : World) : (Rtype.elem? 98).run Tryz.prog w = .ok (some 93) w := by kernel_rfl
theorem Tryz.mk93 (p : Addr) (w : World) : (ReflectliteValue.mk 93 p ReflectliteValue.flagAddr).run Tryz.prog w = .ok (.agg #[.pointer (some ⟨1, 93, none⟩), .pointer (some p), .int .u64 406]) w := by kernel_rfl
theorem Tryz.elemV98 (a p : Addr) (W : World) (ha : W.cell? a = some (.pointer (some p))) :
    (ReflectliteValue.method (ReflectliteValue.valueError "reflectlite.Value.Elem" 0) ReflectliteValue.elem #[.agg #[.pointer (some ⟨1, 98, none⟩), .pointer (some a), .int .u64 150]]).run Tryz.prog W
      = .ok (.agg #[.pointer (some ⟨1, 93, none⟩), .pointer (some p), .int .u64 406]) W := by
  rw [rlm]
  simp only [Sem.run_bind, Tryz.parts98, Result.andThen]
  simp [ReflectliteValue.elem, loadVar, isAgg, underlying, Tryz.underlying98, ha, Result.andThen, Tryz.elemOf98, Tryz.mk93]
theorem Tryz.valueOf93 (e : Addr) (w : World) : (ReflectliteValue.unpack (.iface 93 (.pointer (some e)))).run Tryz.prog w
    = .ok (.agg #[.pointer (some ⟨1, 93, none⟩), .pointer (some ⟨w.heap.size, 0, none⟩), .int .u64 150]) (w.alloc (.cells #[.pointer (some e)] 93)) := by kernel_rfl
theorem Tryz.parts93a (a : Addr) (w : World) : (ReflectliteValue.parts (.agg #[.pointer (some ⟨1, 93, none⟩), .pointer (some a), .int .u64 406])).run Tryz.prog w = .ok (some (93, a, 406)) w := by kernel_rfl
theorem Tryz.parts93b (a : Addr) (w : World) : (ReflectliteValue.parts (.agg #[.pointer (some ⟨1, 93, none⟩), .pointer (some a), .int .u64 150])).run Tryz.prog w = .ok (some (93, a, 150)) w := by kernel_rfl
theorem Tryz.direct93 (w : World) : (Rtype.directlyAssignable 93 93).run Tryz.prog w = .ok true w := by kernel_rfl
theorem Tryz.set93 (ta b : Addr) (e : Addr) (old : Value) (W : World) (hb : W.cell? b = some (.pointer (some e))) (ht : W.cell? ta = some old) (hf : W.frozen? ta = false) :
    (ReflectliteValue.set #[.agg #[.pointer (some ⟨1, 93, none⟩), .pointer (some ta), .int .u64 406], .agg #[.pointer (some ⟨1, 93, none⟩), .pointer (some b), .int .u64 150]]).run Tryz.prog W
      = .ok (.tuple #[]) (W.setCell ta (.pointer (some e))) := by
  rw [rls]
  simp only [Sem.run_bind, Tryz.parts93a, Tryz.parts93b, Result.andThen]
  simp [ReflectliteValue.flagAddr, loadVar, isAgg, underlying, Tryz.underlying93, hb, Result.andThen, Tryz.direct93, storeVar, Value.cells, storeCells, Addr.add]
  rw [run_store Tryz.prog W ta _ _ (by rfl)]
  simp [ht, hf]
theorem Tryz.assignable44to93 (w : World) : (ReflectliteType.relation "AssignableTo" ReflectliteType.assignableTo #[.agg #[.pointer (some ⟨1, 44, none⟩)], .iface 135 (.agg #[.pointer (some ⟨1, 93, none⟩)])]).run Tryz.prog w = .ok (.bool false) w := by kernel_rfl
theorem Tryz.assignable93to93 (w : World) : (ReflectliteType.relation "AssignableTo" ReflectliteType.assignableTo #[.agg #[.pointer (some ⟨1, 93, none⟩)], .iface 135 (.agg #[.pointer (some ⟨1, 93, none⟩)])]).run Tryz.prog w = .ok (.bool true) w := by kernel_rfl
abbrev asWErrno (t : Addr) (w : World) : World := ((w.alloc (.cells #[.pointer (some t)] 99)).alloc (.cells #[.pointer (some ⟨1, 99, none⟩), .pointer (some ⟨w.heap.size, 0, none⟩), .int .u64 150] 114)).alloc (.cells #[.pointer (some ⟨1, 99, none⟩), .pointer (some ⟨w.heap.size, 0, none⟩), .int .u64 150] 114)
set_option maxHeartbeats 4000000 in
theorem asErrno_E (n : Int) (t : Addr) (old : Value) (w : World) (hg0 : Hg w) (ht0 : w.cell? t = some old) (hf0 : w.frozen? t = false) :
    Calls Tryz.prog 41 #[eE n, .iface 99 (.pointer (some t))] w fun ev w' => ev = .returned (.bool true) ∧ w' = (((asWErrno t w).alloc (.cells #[.int .i64 n] 44)).setCell t (.int .i64 n)) := by
  unfold eE at *
  have hg := hg0; unfold Hg at hg; have hlt := hg0.lt; clear hg0
  have h55 := @run_callFunc_extern Tryz.prog 55 _ (fun args => ReflectliteValue.unpack (args.getD 0 (.tuple #[]))) Tryz.func55 (by kernel_rfl) (by kernel_rfl) (by kernel_rfl) (by kernel_rfl)
  have h56 := @run_callFunc_extern Tryz.prog 56 _ (ReflectliteValue.methodAny (ReflectliteValue.valueError "reflectlite.Value.Type" 0) (fun t _ _ _ => ReflectliteType.toType t)) Tryz.func56 (by kernel_rfl) (by kernel_rfl) (by kernel_rfl) (by kernel_rfl)
  have h57 := @run_callFunc_extern Tryz.prog 57 _ (ReflectliteValue.method (ReflectliteValue.valueError "reflectlite.Value.IsNil" 0) ReflectliteValue.isNil) Tryz.func57 (by kernel_rfl) (by kernel_rfl) (by kernel_rfl) (by kernel_rfl)
  have h115 := @run_callFunc_extern Tryz.prog 115 _ (ReflectliteType.abiMethod fun t => do pure (.int .u8 (← Rtype.kind t))) Tryz.func115 (by kernel_rfl) (by kernel_rfl) (by kernel_rfl) (by kernel_rfl)
  have h131 := @run_callFunc_extern Tryz.prog 131 _ (ReflectliteType.method ReflectliteType.elem) Tryz.func131 (by kernel_rfl) (by kernel_rfl) (by kernel_rfl) (by kernel_rfl)
  have h132 := @run_callFunc_extern Tryz.prog 132 _ (ReflectliteType.relation "Implements" ReflectliteType.implements_) Tryz.func132 (by kernel_rfl) (by kernel_rfl) (by kernel_rfl) (by kernel_rfl)
  have hTypeOf := @run_callFunc_extern Tryz.prog 77 _ ReflectliteType.typeOf Tryz.func77 (by kernel_rfl) (by kernel_rfl) (by kernel_rfl) (by kernel_rfl)
  have h129 := @run_callFunc_extern Tryz.prog 129 _ (ReflectliteType.relation "AssignableTo" ReflectliteType.assignableTo) Tryz.func129 (by kernel_rfl) (by kernel_rfl) (by kernel_rfl) (by kernel_rfl)
  have h78 := @run_callFunc_extern Tryz.prog 78 _ (ReflectliteValue.method (ReflectliteValue.valueError "reflectlite.Value.Elem" 0) ReflectliteValue.elem) Tryz.func78 (by kernel_rfl) (by kernel_rfl) (by kernel_rfl) (by kernel_rfl)
  have h79 := @run_callFunc_extern Tryz.prog 79 _ ReflectliteValue.set Tryz.func79 (by kernel_rfl) (by kernel_rfl) (by kernel_rfl) (by kernel_rfl)
  have tErrno := Tryz.typeOfErrno
  have nAsErrno := Tryz.noAsErrno
  have nUnwrapsErrno := Tryz.noUnwrapsErrno
  have nUnwrapErrno := Tryz.noUnwrapErrno
  have aErrno := Tryz.assignable44to44
  have mA := Tryz.methodAssignableTo
  have f6 := Tryz.valueOf99
  have f7 := Tryz.type99
  have mK := Tryz.methodKind
  have mE := Tryz.methodElem
  have mI := Tryz.methodImplements
  have kP := Tryz.kind99
  have kT := Tryz.kind44
  have eP := Tryz.elem99
  have iT := Tryz.implements44
  have n8 := Tryz.isNil99 ⟨w.heap.size, 0, none⟩ t ((w.alloc (.cells #[.pointer (some t)] 99)).alloc (.cells #[.pointer (some ⟨1, 99, none⟩), .pointer (some ⟨w.heap.size, 0, none⟩), .int .u64 150] 114)) (by simp)
  have hg2 : ((w.alloc (.cells #[.pointer (some t)] 99)).alloc (.cells #[.pointer (some ⟨1, 99, none⟩), .pointer (some ⟨w.heap.size, 0, none⟩), .int .u64 150] 114)).cell? ⟨0, 0, none⟩ = some (.iface 135 (.agg #[.pointer (some ⟨1, 34, none⟩)])) := by
    rw [World.cell?_alloc_lt _ _ ⟨0, 0, none⟩ (by simp <;> omega), World.cell?_alloc_lt _ _ ⟨0, 0, none⟩ hlt]; exact hg
  have vT := Tryz.valueOf44
  have htl : t.block < w.heap.size := World.block_lt_of_cell? _ _ ht0
  have el := Tryz.elemV99 ⟨w.heap.size, 0, none⟩ t (((w.alloc (.cells #[.pointer (some t)] 99)).alloc (.cells #[.pointer (some ⟨1, 99, none⟩), .pointer (some ⟨w.heap.size, 0, none⟩), .int .u64 150] 114)).alloc (.cells #[.pointer (some ⟨1, 99, none⟩), .pointer (some ⟨w.heap.size, 0, none⟩), .int .u64 150] 114)) (by rw [World.cell?_alloc_lt _ _ ⟨w.heap.size, 0, none⟩ (by simp <;> omega)]; simp)
  have st := Tryz.set44 t ⟨w.heap.size + 1 + 1 + 1, 0, none⟩ n old ((((w.alloc (.cells #[.pointer (some t)] 99)).alloc (.cells #[.pointer (some ⟨1, 99, none⟩), .pointer (some ⟨w.heap.size, 0, none⟩), .int .u64 150] 114)).alloc (.cells #[.pointer (some ⟨1, 99, none⟩), .pointer (some ⟨w.heap.size, 0, none⟩), .int .u64 150] 114)).alloc (.cells #[.int .i64 n] 44))
    (by rw [World.cell?_alloc_at _ _ _ _ (by simp)]; rfl)
    (by rw [World.cell?_alloc_lt _ _ t (by simp <;> omega), World.cell?_alloc_lt _ _ t (by simp <;> omega), World.cell?_alloc_lt _ _ t (by simp <;> omega), World.cell?_alloc_lt _ _ t htl]; exact ht0)
    (by rw [World.frozen?_alloc_old _ _ t (by simp <;> omega), World.frozen?_alloc_old _ _ t (by simp <;> omega), World.frozen?_alloc_old _ _ t (by simp <;> omega), World.frozen?_alloc_old _ _ t (Nat.ne_of_lt htl)]; exact hf0)
  go_enter Tryz.func41, Tryz.ntmps41
  go_wp2
  refine wp_loop_rounds 1 ?_
  rw [rounds_succ]
  go_wp2
  go_ret
  exact ⟨rfl, rfl⟩
set_option maxHeartbeats 4000000 in
theorem asErrno_FE (pb : Nat) (n : Int) (t : Addr) (old : Value) (w : World) (hg0 : Hg w) (ht0 : w.cell? t = some old) (hf0 : w.frozen? t = false) (hc : w.cell? ⟨pb, 2, none⟩ = some (eE n)) :
    Calls Tryz.prog 41 #[eF pb, .iface 99 (.pointer (some t))] w fun ev w' => ev = .returned (.bool true) ∧ w' = (((asWErrno t w).alloc (.cells #[.int .i64 n] 44)).setCell t (.int .i64 n)) := by
  unfold eE at *
  unfold eF
  have hg := hg0; unfold Hg at hg; have hlt := hg0.lt; clear hg0
  have h55 := @run_callFunc_extern Tryz.prog 55 _ (fun args => ReflectliteValue.unpack (args.getD 0 (.tuple #[]))) Tryz.func55 (by kernel_rfl) (by kernel_rfl) (by kernel_rfl) (by kernel_rfl)
  have h56 := @run_callFunc_extern Tryz.prog 56 _ (ReflectliteValue.methodAny (ReflectliteValue.valueError "reflectlite.Value.Type" 0) (fun t _ _ _ => ReflectliteType.toType t)) Tryz.func56 (by kernel_rfl) (by kernel_rfl) (by kernel_rfl) (by kernel_rfl)
  have h57 := @run_callFunc_extern Tryz.prog 57 _ (ReflectliteValue.method (ReflectliteValue.valueError "reflectlite.Value.IsNil" 0) ReflectliteValue.isNil) Tryz.func57 (by kernel_rfl) (by kernel_rfl) (by kernel_rfl) (by kernel_rfl)
  have h115 := @run_callFunc_extern Tryz.prog 115 _ (ReflectliteType.abiMethod fun t => do pure (.int .u8 (← Rtype.kind t))) Tryz.func115 (by kernel_rfl) (by kernel_rfl) (by kernel_rfl) (by kernel_rfl)
  have h131 := @run_callFunc_extern Tryz.prog 131 _ (ReflectliteType.method ReflectliteType.elem) Tryz.func131 (by kernel_rfl) (by kernel_rfl) (by kernel_rfl) (by kernel_rfl)
  have h132 := @run_callFunc_extern Tryz.prog 132 _ (ReflectliteType.relation "Implements" ReflectliteType.implements_) Tryz.func132 (by kernel_rfl) (by kernel_rfl) (by kernel_rfl) (by kernel_rfl)
  have hTypeOf := @run_callFunc_extern Tryz.prog 77 _ ReflectliteType.typeOf Tryz.func77 (by kernel_rfl) (by kernel_rfl) (by kernel_rfl) (by kernel_rfl)
  have h129 := @run_callFunc_extern Tryz.prog 129 _ (ReflectliteType.relation "AssignableTo" ReflectliteType.assignableTo) Tryz.func129 (by kernel_rfl) (by kernel_rfl) (by kernel_rfl) (by kernel_rfl)
  have h78 := @run_callFunc_extern Tryz.prog 78 _ (ReflectliteValue.method (ReflectliteValue.valueError "reflectlite.Value.Elem" 0) ReflectliteValue.elem) Tryz.func78 (by kernel_rfl) (by kernel_rfl) (by kernel_rfl) (by kernel_rfl)
  have h79 := @run_callFunc_extern Tryz.prog 79 _ ReflectliteValue.set Tryz.func79 (by kernel_rfl) (by kernel_rfl) (by kernel_rfl) (by kernel_rfl)
  have tFault := Tryz.typeOfFault
  have nAsFault := Tryz.noAsFault
  have nUnwrapsFault := Tryz.noUnwrapsFault
  have uFault := Tryz.hasUnwrapFault
  have mFault := Tryz.methodUnwrapFault
  have tErrno := Tryz.typeOfErrno
  have nAsErrno := Tryz.noAsErrno
  have nUnwrapsErrno := Tryz.noUnwrapsErrno
  have nUnwrapErrno := Tryz.noUnwrapErrno
  have aFault := Tryz.assignable93to44
  have aErrno := Tryz.assignable44to44
  have mA := Tryz.methodAssignableTo
  have f6 := Tryz.valueOf99
  have f7 := Tryz.type99
  have mK := Tryz.methodKind
  have mE := Tryz.methodElem
  have mI := Tryz.methodImplements
  have kP := Tryz.kind99
  have kT := Tryz.kind44
  have eP := Tryz.elem99
  have iT := Tryz.implements44
  have n8 := Tryz.isNil99 ⟨w.heap.size, 0, none⟩ t ((w.alloc (.cells #[.pointer (some t)] 99)).alloc (.cells #[.pointer (some ⟨1, 99, none⟩), .pointer (some ⟨w.heap.size, 0, none⟩), .int .u64 150] 114)) (by simp)
  have hg2 : ((w.alloc (.cells #[.pointer (some t)] 99)).alloc (.cells #[.pointer (some ⟨1, 99, none⟩), .pointer (some ⟨w.heap.size, 0, none⟩), .int .u64 150] 114)).cell? ⟨0, 0, none⟩ = some (.iface 135 (.agg #[.pointer (some ⟨1, 34, none⟩)])) := by
    rw [World.cell?_alloc_lt _ _ ⟨0, 0, none⟩ (by simp <;> omega), World.cell?_alloc_lt _ _ ⟨0, 0, none⟩ hlt]; exact hg
  have hpl : pb < w.heap.size := World.block_lt_of_cell? _ _ hc
  have hc3 : (((w.alloc (.cells #[.pointer (some t)] 99)).alloc (.cells #[.pointer (some ⟨1, 99, none⟩), .pointer (some ⟨w.heap.size, 0, none⟩), .int .u64 150] 114)).alloc (.cells #[.pointer (some ⟨1, 99, none⟩), .pointer (some ⟨w.heap.size, 0, none⟩), .int .u64 150] 114)).cell? ⟨pb, 2, none⟩ = some (.iface 44 (.int .i64 n)) := by
    rw [World.cell?_alloc_lt _ _ ⟨pb, 2, none⟩ (by simp <;> omega), World.cell?_alloc_lt _ _ ⟨pb, 2, none⟩ (by simp <;> omega), World.cell?_alloc_lt _ _ ⟨pb, 2, none⟩ hpl]; exact hc
  have vT := Tryz.valueOf44
  have htl : t.block < w.heap.size := World.block_lt_of_cell? _ _ ht0
  have el := Tryz.elemV99 ⟨w.heap.size, 0, none⟩ t (((w.alloc (.cells #[.pointer (some t)] 99)).alloc (.cells #[.pointer (some ⟨1, 99, none⟩), .pointer (some ⟨w.heap.size, 0, none⟩), .int .u64 150] 114)).alloc (.cells #[.pointer (some ⟨1, 99, none⟩), .pointer (some ⟨w.heap.size, 0, none⟩), .int .u64 150] 114)) (by rw [World.cell?_alloc_lt _ _ ⟨w.heap.size, 0, none⟩ (by simp <;> omega)]; simp)
  have st := Tryz.set44 t ⟨w.heap.size + 1 + 1 + 1, 0, none⟩ n old ((((w.alloc (.cells #[.pointer (some t)] 99)).alloc (.cells #[.pointer (some ⟨1, 99, none⟩), .pointer (some ⟨w.heap.size, 0, none⟩), .int .u64 150] 114)).alloc (.cells #[.pointer (some ⟨1, 99, none⟩), .pointer (some ⟨w.heap.size, 0, none⟩), .int .u64 150] 114)).alloc (.cells #[.int .i64 n] 44))
    (by rw [World.cell?_alloc_at _ _ _ _ (by simp)]; rfl)
    (by rw [World.cell?_alloc_lt _ _ t (by simp <;> omega), World.cell?_alloc_lt _ _ t (by simp <;> omega), World.cell?_alloc_lt _ _ t (by simp <;> omega), World.cell?_alloc_lt _ _ t htl]; exact ht0)
    (by rw [World.frozen?_alloc_old _ _ t (by simp <;> omega), World.frozen?_alloc_old _ _ t (by simp <;> omega), World.frozen?_alloc_old _ _ t (by simp <;> omega), World.frozen?_alloc_old _ _ t (Nat.ne_of_lt htl)]; exact hf0)
  go_enter Tryz.func41, Tryz.ntmps41
  go_wp2
  refine wp_loop_rounds 2 ?_
  rw [rounds_succ]
  go_wp2
  rw [rounds_succ]
  go_wp2
  go_ret
  exact ⟨rfl, rfl⟩
abbrev asWFault (t : Addr) (w : World) : World := ((w.alloc (.cells #[.pointer (some t)] 98)).alloc (.cells #[.pointer (some ⟨1, 98, none⟩), .pointer (some ⟨w.heap.size, 0, none⟩), .int .u64 150] 114)).alloc (.cells #[.pointer (some ⟨1, 98, none⟩), .pointer (some ⟨w.heap.size, 0, none⟩), .int .u64 150] 114)
set_option maxHeartbeats 4000000 in
theorem asFault_E (n : Int) (t : Addr) (w : World) (hg0 : Hg w) :
    Calls Tryz.prog 41 #[eE n, .iface 98 (.pointer (some t))] w fun ev w' => ev = .returned (.bool false) ∧ w' = asWFault t w := by
  unfold eE at *
  have hg := hg0; unfold Hg at hg; have hlt := hg0.lt; clear hg0
  have h55 := @run_callFunc_extern Tryz.prog 55 _ (fun args => ReflectliteValue.unpack (args.getD 0 (.tuple #[]))) Tryz.func55 (by kernel_rfl) (by kernel_rfl) (by kernel_rfl) (by kernel_rfl)
  have h56 := @run_callFunc_extern Tryz.prog 56 _ (ReflectliteValue.methodAny (ReflectliteValue.valueError "reflectlite.Value.Type" 0) (fun t _ _ _ => ReflectliteType.toType t)) Tryz.func56 (by kernel_rfl) (by kernel_rfl) (by kernel_rfl) (by kernel_rfl)
  have h57 := @run_callFunc_extern Tryz.prog 57 _ (ReflectliteValue.method (ReflectliteValue.valueError "reflectlite.Value.IsNil" 0) ReflectliteValue.isNil) Tryz.func57 (by kernel_rfl) (by kernel_rfl) (by kernel_rfl) (by kernel_rfl)
  have h115 := @run_callFunc_extern Tryz.prog 115 _ (ReflectliteType.abiMethod fun t => do pure (.int .u8 (← Rtype.kind t))) Tryz.func115 (by kernel_rfl) (by kernel_rfl) (by kernel_rfl) (by kernel_rfl)
  have h131 := @run_callFunc_extern Tryz.prog 131 _ (ReflectliteType.method ReflectliteType.elem) Tryz.func131 (by kernel_rfl) (by kernel_rfl) (by kernel_rfl) (by kernel_rfl)
  have h132 := @run_callFunc_extern Tryz.prog 132 _ (ReflectliteType.relation "Implements" ReflectliteType.implements_) Tryz.func132 (by kernel_rfl) (by kernel_rfl) (by kernel_rfl) (by kernel_rfl)
  have hTypeOf := @run_callFunc_extern Tryz.prog 77 _ ReflectliteType.typeOf Tryz.func77 (by kernel_rfl) (by kernel_rfl) (by kernel_rfl) (by kernel_rfl)
  have h129 := @run_callFunc_extern Tryz.prog 129 _ (ReflectliteType.relation "AssignableTo" ReflectliteType.assignableTo) Tryz.func129 (by kernel_rfl) (by kernel_rfl) (by kernel_rfl) (by kernel_rfl)
  have h78 := @run_callFunc_extern Tryz.prog 78 _ (ReflectliteValue.method (ReflectliteValue.valueError "reflectlite.Value.Elem" 0) ReflectliteValue.elem) Tryz.func78 (by kernel_rfl) (by kernel_rfl) (by kernel_rfl) (by kernel_rfl)
  have h79 := @run_callFunc_extern Tryz.prog 79 _ ReflectliteValue.set Tryz.func79 (by kernel_rfl) (by kernel_rfl) (by kernel_rfl) (by kernel_rfl)
  have tErrno := Tryz.typeOfErrno
  have nAsErrno := Tryz.noAsErrno
  have nUnwrapsErrno := Tryz.noUnwrapsErrno
  have nUnwrapErrno := Tryz.noUnwrapErrno
  have ttE := Tryz.typeOfErrno
  have aErrno := Tryz.assignable44to93
  have mA := Tryz.methodAssignableTo
  have f6 := Tryz.valueOf98
  have f7 := Tryz.type98
  have mK := Tryz.methodKind
  have mE := Tryz.methodElem
  have mI := Tryz.methodImplements
  have kP := Tryz.kind98
  have kT := Tryz.kind93
  have eP := Tryz.elem98
  have iT := Tryz.implements93
  have n8 := Tryz.isNil98 ⟨w.heap.size, 0, none⟩ t ((w.alloc (.cells #[.pointer (some t)] 98)).alloc (.cells #[.pointer (some ⟨1, 98, none⟩), .pointer (some ⟨w.heap.size, 0, none⟩), .int .u64 150] 114)) (by simp)
  have hg2 : ((w.alloc (.cells #[.pointer (some t)] 98)).alloc (.cells #[.pointer (some ⟨1, 98, none⟩), .pointer (some ⟨w.heap.size, 0, none⟩), .int .u64 150] 114)).cell? ⟨0, 0, none⟩ = some (.iface 135 (.agg #[.pointer (some ⟨1, 34, none⟩)])) := by
    rw [World.cell?_alloc_lt _ _ ⟨0, 0, none⟩ (by simp <;> omega), World.cell?_alloc_lt _ _ ⟨0, 0, none⟩ hlt]; exact hg
  go_enter Tryz.func41, Tryz.ntmps41
  go_wp2
  refine wp_loop_rounds 1 ?_
  rw [rounds_succ]
  go_wp2
  go_ret
  exact ⟨rfl, rfl⟩
set_option maxHeartbeats 4000000 in
theorem asFault_FE (pb : Nat) (t : Addr) (old : Value) (w : World) (hg0 : Hg w) (ht0 : w.cell? t = some old) (hf0 : w.frozen? t = false) :
    Calls Tryz.prog 41 #[eF pb, .iface 98 (.pointer (some t))] w fun ev w' => ev = .returned (.bool true) ∧ w' = (((asWFault t w).alloc (.cells #[.pointer (some ⟨pb, 0, none⟩)] 93)).setCell t (.pointer (some ⟨pb, 0, none⟩))) := by
  skip
  unfold eF
  have hg := hg0; unfold Hg at hg; have hlt := hg0.lt; clear hg0
  have h55 := @run_callFunc_extern Tryz.prog 55 _ (fun args => ReflectliteValue.unpack (args.getD 0 (.tuple #[]))) Tryz.func55 (by kernel_rfl) (by kernel_rfl) (by kernel_rfl) (by kernel_rfl)
  have h56 := @run_callFunc_extern Tryz.prog 56 _ (ReflectliteValue.methodAny (ReflectliteValue.valueError "reflectlite.Value.Type" 0) (fun t _ _ _ => ReflectliteType.toType t)) Tryz.func56 (by kernel_rfl) (by kernel_rfl) (by kernel_rfl) (by kernel_rfl)
  have h57 := @run_callFunc_extern Tryz.prog 57 _ (ReflectliteValue.method (ReflectliteValue.valueError "reflectlite.Value.IsNil" 0) ReflectliteValue.isNil) Tryz.func57 (by kernel_rfl) (by kernel_rfl) (by kernel_rfl) (by kernel_rfl)
  have h115 := @run_callFunc_extern Tryz.prog 115 _ (ReflectliteType.abiMethod fun t => do pure (.int .u8 (← Rtype.kind t))) Tryz.func115 (by kernel_rfl) (by kernel_rfl) (by kernel_rfl) (by kernel_rfl)
  have h131 := @run_callFunc_extern Tryz.prog 131 _ (ReflectliteType.method ReflectliteType.elem) Tryz.func131 (by kernel_rfl) (by kernel_rfl) (by kernel_rfl) (by kernel_rfl)
  have h132 := @run_callFunc_extern Tryz.prog 132 _ (ReflectliteType.relation "Implements" ReflectliteType.implements_) Tryz.func132 (by kernel_rfl) (by kernel_rfl) (by kernel_rfl) (by kernel_rfl)
  have hTypeOf := @run_callFunc_extern Tryz.prog 77 _ ReflectliteType.typeOf Tryz.func77 (by kernel_rfl) (by kernel_rfl) (by kernel_rfl) (by kernel_rfl)
  have h129 := @run_callFunc_extern Tryz.prog 129 _ (ReflectliteType.relation "AssignableTo" ReflectliteType.assignableTo) Tryz.func129 (by kernel_rfl) (by kernel_rfl) (by kernel_rfl) (by kernel_rfl)
  have h78 := @run_callFunc_extern Tryz.prog 78 _ (ReflectliteValue.method (ReflectliteValue.valueError "reflectlite.Value.Elem" 0) ReflectliteValue.elem) Tryz.func78 (by kernel_rfl) (by kernel_rfl) (by kernel_rfl) (by kernel_rfl)
  have h79 := @run_callFunc_extern Tryz.prog 79 _ ReflectliteValue.set Tryz.func79 (by kernel_rfl) (by kernel_rfl) (by kernel_rfl) (by kernel_rfl)
  have tFault := Tryz.typeOfFault
  have nAsFault := Tryz.noAsFault
  have nUnwrapsFault := Tryz.noUnwrapsFault
  have uFault := Tryz.hasUnwrapFault
  have mFault := Tryz.methodUnwrapFault
  have aFault := Tryz.assignable93to93
  have mA := Tryz.methodAssignableTo
  have f6 := Tryz.valueOf98
  have f7 := Tryz.type98
  have mK := Tryz.methodKind
  have mE := Tryz.methodElem
  have mI := Tryz.methodImplements
  have kP := Tryz.kind98
  have kT := Tryz.kind93
  have eP := Tryz.elem98
  have iT := Tryz.implements93
  have n8 := Tryz.isNil98 ⟨w.heap.size, 0, none⟩ t ((w.alloc (.cells #[.pointer (some t)] 98)).alloc (.cells #[.pointer (some ⟨1, 98, none⟩), .pointer (some ⟨w.heap.size, 0, none⟩), .int .u64 150] 114)) (by simp)
  have hg2 : ((w.alloc (.cells #[.pointer (some t)] 98)).alloc (.cells #[.pointer (some ⟨1, 98, none⟩), .pointer (some ⟨w.heap.size, 0, none⟩), .int .u64 150] 114)).cell? ⟨0, 0, none⟩ = some (.iface 135 (.agg #[.pointer (some ⟨1, 34, none⟩)])) := by
    rw [World.cell?_alloc_lt _ _ ⟨0, 0, none⟩ (by simp <;> omega), World.cell?_alloc_lt _ _ ⟨0, 0, none⟩ hlt]; exact hg
  have vT := Tryz.valueOf93
  have htl : t.block < w.heap.size := World.block_lt_of_cell? _ _ ht0
  have el := Tryz.elemV98 ⟨w.heap.size, 0, none⟩ t (((w.alloc (.cells #[.pointer (some t)] 98)).alloc (.cells #[.pointer (some ⟨1, 98, none⟩), .pointer (some ⟨w.heap.size, 0, none⟩), .int .u64 150] 114)).alloc (.cells #[.pointer (some ⟨1, 98, none⟩), .pointer (some ⟨w.heap.size, 0, none⟩), .int .u64 150] 114)) (by rw [World.cell?_alloc_lt _ _ ⟨w.heap.size, 0, none⟩ (by simp <;> omega)]; simp)
  have st := Tryz.set93 t ⟨w.heap.size + 1 + 1 + 1, 0, none⟩ ⟨pb, 0, none⟩ old ((((w.alloc (.cells #[.pointer (some t)] 98)).alloc (.cells #[.pointer (some ⟨1, 98, none⟩), .pointer (some ⟨w.heap.size, 0, none⟩), .int .u64 150] 114)).alloc (.cells #[.pointer (some ⟨1, 98, none⟩), .pointer (some ⟨w.heap.size, 0, none⟩), .int .u64 150] 114)).alloc (.cells #[.pointer (some ⟨pb, 0, none⟩)] 93))
    (by rw [World.cell?_alloc_at _ _ _ _ (by simp)]; rfl)
    (by rw [World.cell?_alloc_lt _ _ t (by simp <;> omega), World.cell?_alloc_lt _ _ t (by simp <;> omega), World.cell?_alloc_lt _ _ t (by simp <;> omega), World.cell?_alloc_lt _ _ t htl]; exact ht0)
    (by rw [World.frozen?_alloc_old _ _ t (by simp <;> omega), World.frozen?_alloc_old _ _ t (by simp <;> omega), World.frozen?_alloc_old _ _ t (by simp <;> omega), World.frozen?_alloc_old _ _ t (Nat.ne_of_lt htl)]; exact hf0)
  go_enter Tryz.func41, Tryz.ntmps41
  go_wp2
  refine wp_loop_rounds 1 ?_
  rw [rounds_succ]
  go_wp2
  go_ret
  exact ⟨rfl, rfl⟩
end Go.Proofs.YtndndfobkbeolaaGreatDoor
namespace Go.Proofs.YtndndfobkbeolaaGreatDoor
open Go.RowKit Go.Extern.Stop Go.Stop Go.Extern
theorem asErrno_E_b (n : Int) (tb : Nat) (old : Value) (w : World) (hg0 : Hg w) (ht0 : w.cell? ⟨tb, 0, none⟩ = some old) (hf0 : w.frozen? ⟨tb, 0, none⟩ = false) :
    Calls Tryz.prog 41 #[eE n, .iface 99 (.pointer (some ⟨tb, 0, none⟩))] w fun e w' => e = .returned (.bool true) ∧ Below tb w w' ∧ w'.cell? ⟨tb, 0, none⟩ = some (.int .i64 n) := by
  have hlt : tb < w.heap.size := World.block_lt_of_cell? _ _ ht0
  refine (asErrno_E n ⟨tb, 0, none⟩ old w hg0 ht0 hf0).mono fun e w' ⟨he, hw⟩ => ⟨he, ?_, ?_⟩
  · subst hw; exact (by repeat (first | exact Below.refl _ _ | (refine Below.alloc ?_ (by first | omega | (simp; done) | (simp; omega)) _) | (refine Below.setCell ?_ (by first | omega | (simp; done) | (simp; omega)) _) | (refine Below.drew ?_)))
  · subst hw
    refine World.cell?_setCell_same _ _ _ (u := old) ?_
    rw [World.cell?_alloc_lt _ _ ⟨tb, 0, none⟩ (by simp <;> omega), World.cell?_alloc_lt _ _ ⟨tb, 0, none⟩ (by simp <;> omega), World.cell?_alloc_lt _ _ ⟨tb, 0, none⟩ (by simp <;> omega), World.cell?_alloc_lt _ _ ⟨tb, 0, none⟩ hlt]; exact ht0
theorem asErrno_FE_b (pb : Nat) (n : Int) (tb : Nat) (old : Value) (w : World) (hg0 : Hg w) (ht0 : w.cell? ⟨tb, 0, none⟩ = some old) (hf0 : w.frozen? ⟨tb, 0, none⟩ = false) (hc : w.cell? ⟨pb, 2, none⟩ = some (eE n)) :
    Calls Tryz.prog 41 #[eF pb, .iface 99 (.pointer (some ⟨tb, 0, none⟩))] w fun e w' => e = .returned (.bool true) ∧ Below tb w w' ∧ w'.cell? ⟨tb, 0, none⟩ = some (.int .i64 n) := by
  have hlt : tb < w.heap.size := World.block_lt_of_cell? _ _ ht0
  refine (asErrno_FE pb n ⟨tb, 0, none⟩ old w hg0 ht0 hf0 hc).mono fun e w' ⟨he, hw⟩ => ⟨he, ?_, ?_⟩
  · subst hw; exact (by repeat (first | exact Below.refl _ _ | (refine Below.alloc ?_ (by first | omega | (simp; done) | (simp; omega)) _) | (refine Below.setCell ?_ (by first | omega | (simp; done) | (simp; omega)) _) | (refine Below.drew ?_)))
  · subst hw
    refine World.cell?_setCell_same _ _ _ (u := old) ?_
    rw [World.cell?_alloc_lt _ _ ⟨tb, 0, none⟩ (by simp <;> omega), World.cell?_alloc_lt _ _ ⟨tb, 0, none⟩ (by simp <;> omega), World.cell?_alloc_lt _ _ ⟨tb, 0, none⟩ (by simp <;> omega), World.cell?_alloc_lt _ _ ⟨tb, 0, none⟩ hlt]; exact ht0
theorem asFault_E_b (n : Int) (tb : Nat) (w : World) (hg0 : Hg w) :
    Calls Tryz.prog 41 #[eE n, .iface 98 (.pointer (some ⟨tb, 0, none⟩))] w fun e w' => e = .returned (.bool false) ∧ Below w.heap.size w w' := by
  refine (asFault_E n ⟨tb, 0, none⟩ w hg0).mono fun e w' ⟨he, hw⟩ => ⟨he, ?_⟩
  subst hw; exact (by repeat (first | exact Below.refl _ _ | (refine Below.alloc ?_ (by first | omega | (simp; done) | (simp; omega)) _) | (refine Below.setCell ?_ (by first | omega | (simp; done) | (simp; omega)) _) | (refine Below.drew ?_)))
theorem asFault_FE_b (pb : Nat) (tb : Nat) (old : Value) (w : World) (hg0 : Hg w) (ht0 : w.cell? ⟨tb, 0, none⟩ = some old) (hf0 : w.frozen? ⟨tb, 0, none⟩ = false) :
    Calls Tryz.prog 41 #[eF pb, .iface 98 (.pointer (some ⟨tb, 0, none⟩))] w fun e w' => e = .returned (.bool true) ∧ Below tb w w' ∧ w'.cell? ⟨tb, 0, none⟩ = some (.pointer (some ⟨pb, 0, none⟩)) := by
  have hlt : tb < w.heap.size := World.block_lt_of_cell? _ _ ht0
  refine (asFault_FE pb ⟨tb, 0, none⟩ old w hg0 ht0 hf0).mono fun e w' ⟨he, hw⟩ => ⟨he, ?_, ?_⟩
  · subst hw; exact (by repeat (first | exact Below.refl _ _ | (refine Below.alloc ?_ (by first | omega | (simp; done) | (simp; omega)) _) | (refine Below.setCell ?_ (by first | omega | (simp; done) | (simp; omega)) _) | (refine Below.drew ?_)))
  · subst hw
    refine World.cell?_setCell_same _ _ _ (u := old) ?_
    rw [World.cell?_alloc_lt _ _ ⟨tb, 0, none⟩ (by simp <;> omega), World.cell?_alloc_lt _ _ ⟨tb, 0, none⟩ (by simp <;> omega), World.cell?_alloc_lt _ _ ⟨tb, 0, none⟩ (by simp <;> omega), World.cell?_alloc_lt _ _ ⟨tb, 0, none⟩ hlt]; exact ht0
theorem number_nil (w : World) : Calls Tryz.prog 24 #[.nilIface] w fun e w' => e = .returned (.int .i64 0) ∧ Below w.heap.size w w' := by
  go_enter Tryz.func24, Tryz.ntmps24
  go_wp2
  go_ret
  exact ⟨rfl, (by repeat (first | exact Below.refl _ _ | (refine Below.alloc ?_ (by first | omega | (simp; done) | (simp; omega)) _) | (refine Below.setCell ?_ (by first | omega | (simp; done) | (simp; omega)) _) | (refine Below.drew ?_)))⟩
set_option maxHeartbeats 1000000 in
theorem number_E (n : Int) (w : World) (hg : Hg w) :
    Calls Tryz.prog 24 #[eE n] w fun e w' => e = .returned (.int .i64 n) ∧ Below w.heap.size w w' := by
  have hg1 := hg.alloc (.cells #[.int .i64 0] 44)
  unfold eE
  go_enter Tryz.func24, Tryz.ntmps24
  go_wp2_with fail
  refine (asErrno_E_b n _ (.int .i64 0) _ hg1 (by simp) (by simp)).mono ?_
  rintro e w' ⟨rfl, hb, hc⟩
  go_wp2
  go_ret
  exact ⟨rfl, ((Below.refl _ _).alloc (Nat.le_refl _) _).trans hb⟩
set_option maxHeartbeats 1000000 in
theorem number_F (pb : Nat) (n : Int) (w : World) (hg : Hg w) (hc : w.cell? ⟨pb, 2, none⟩ = some (eE n)) :
    Calls Tryz.prog 24 #[eF pb] w fun e w' => e = .returned (.int .i64 n) ∧ Below w.heap.size w w' := by
  have hg1 := hg.alloc (.cells #[.int .i64 0] 44)
  have hc1 : (w.alloc (.cells #[.int .i64 0] 44)).cell? ⟨pb, 2, none⟩ = some (eE n) := by
    rw [World.cell?_alloc_lt _ _ ⟨pb, 2, none⟩ (World.block_lt_of_cell? _ _ hc)]; exact hc
  have HC1 := Lib.hid hc1; clear hc1 hc
  unfold eF
  go_enter Tryz.func24, Tryz.ntmps24
  go_wp2_with fail
  refine (asErrno_FE_b pb n _ (.int .i64 0) _ hg1 (by simp) (by simp) HC1.out).mono ?_
  rintro e w' ⟨rfl, hb, hc⟩
  go_wp2
  go_ret
  exact ⟨rfl, ((Below.refl _ _).alloc (Nat.le_refl _) _).trans hb⟩
theorem place_nil (w : World) : Calls Tryz.prog 23 #[.nilIface] w fun e w' => e = .returned (.tuple #[.string ⟨#[]⟩, .int .i64 0, .bool false]) ∧ Below w.heap.size w w' := by
  go_enter Tryz.func23, Tryz.ntmps23
  go_wp2
  go_ret3
  exact ⟨rfl, (by repeat (first | exact Below.refl _ _ | (refine Below.alloc ?_ (by first | omega | (simp; done) | (simp; omega)) _) | (refine Below.setCell ?_ (by first | omega | (simp; done) | (simp; omega)) _) | (refine Below.drew ?_)))⟩
set_option maxHeartbeats 1000000 in
theorem place_E (n : Int) (w : World) (hg : Hg w) : Calls Tryz.prog 23 #[eE n] w fun e w' => e = .returned (.tuple #[.string ⟨#[]⟩, .int .i64 0, .bool false]) ∧ Below w.heap.size w w' := by
  have hg1 := hg.alloc (.cells #[.pointer none] 93)
  unfold eE
  go_enter Tryz.func23, Tryz.ntmps23
  go_wp2_with fail
  refine (asFault_E_b n _ _ hg1).mono ?_
  rintro e w' ⟨rfl, hb⟩
  go_wp2
  go_ret3
  exact ⟨rfl, ((Below.refl _ _).alloc (Nat.le_refl _) _).trans (hb.mono (by simp))⟩
set_option maxHeartbeats 1000000 in
theorem place_F (pb : Nat) (s : ByteArray) (k n : Int) (w : World) (hg : Hg w) (hx : IsF w pb s k n) :
    Calls Tryz.prog 23 #[eF pb] w fun e w' => e = .returned (.tuple #[.string s, .int .i64 k, .bool true]) ∧ Below w.heap.size w w' := by
  have hlt := hx.lt
  have hg1 := hg.alloc (.cells #[.pointer none] 93)
  have HX := Lib.hid hx; clear hx
  unfold eF
  go_enter Tryz.func23, Tryz.ntmps23
  go_wp2_with fail
  refine (asFault_FE_b pb _ (.pointer none) _ hg1 (by simp) (by simp)).mono ?_
  rintro e w1 ⟨rfl, hb, hc⟩
  have hb1 : Below w.heap.size w w1 := ((Below.refl _ _).alloc (Nat.le_refl _) _).trans hb
  obtain ⟨x0, x1, _⟩ := HX.out.below hb1 hlt
  have HB := Lib.hid hb1; clear hb1 hb
  go_wp2_with fail
  go_quiet (fail)
  go_wp2
  go_ret3
  exact ⟨rfl, HB.out.trans ⟨rfl, rfl, rfl, Nat.le_refl _, fun _ _ => rfl⟩⟩
end Go.Proofs.YtndndfobkbeolaaGreatDoor
