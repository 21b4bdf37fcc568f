/-
  Contracts of errors.Is, errors.As, api.Number (and api.Place, api.Wrap where the translation has them) at the error types of package api; their conditions: the package variable errors.errorType holds the handle of the type error, and the cells that are read.
  Turned from the guide's worked texts ToyasAs and SentryIs by a program of this repository (wip/err.py).
-/
import Derived.Test.YtgicnjpneoedoaaDoorProg
import Derived.WalkKit
import Derived.LaidEql
import Derived.Stop.Asserts
import Derived.RowKitTokens
import Derived.Lib.IfaceEq
import Derived.Lib.Hide
namespace Go.Proofs.YtgicnjpneoedoaaDoor
open Go.RowKit Go.Extern.Stop Go.Stop Go.Extern

/-- The error that is an Errno. -/
def eE (n : Int) : Value := .iface 35 (.int .i64 n)
/-- The variable errors.errorType holds the handle of the type error. -/
def Hg (w : World) : Prop := w.cell? ⟨0, 0, none⟩ = some (.iface 63 (.agg #[.pointer (some ⟨1, 28, none⟩)]))
theorem Hg.lt {w : World} (hg : Hg w) : 0 < w.heap.size := World.block_lt_of_cell? _ _ hg
theorem Hg.alloc {w : World} (hg : Hg w) (ob : Obj) : Hg (w.alloc ob) := by
  unfold Hg; rw [World.cell?_alloc_lt _ _ _ hg.lt]; exact hg
theorem Hg.below {w w' : World} {B : Nat} (hg : Hg w) (hb : Below B w w') (h0 : 0 < B) : Hg w' := by
  unfold Hg; rw [hb.cell (p := ⟨0, 0, none⟩) h0]; exact hg

def eX (p : Addr) : Value := .iface 37 (.pointer (some p))
theorem Tryd.typeOfErrno (v : Value) (w : World) : (ReflectliteType.typeOf #[.iface 35 v]).run Tryd.prog w = .ok (.iface 63 (.agg #[.pointer (some ⟨1, 35, none⟩)])) w := by kernel_rfl
theorem Tryd.noIsErrno (v : Value) (xT : TypeId) (w : World) : (Instr.typeAssert (.iface 35 v) xT 65 true).run Tryd.prog w = .ok (.tuple #[.nilIface, .bool false]) w := run_typeAssert_lacksB Tryd.underlying65 (by kernel_rfl) (by kernel_rfl) v xT w
theorem Tryd.noAsErrno (v : Value) (xT : TypeId) (w : World) : (Instr.typeAssert (.iface 35 v) xT 75 true).run Tryd.prog w = .ok (.tuple #[.nilIface, .bool false]) w := run_typeAssert_lacksB Tryd.underlying75 (by kernel_rfl) (by kernel_rfl) v xT w
theorem Tryd.noUnwrapsErrno (v : Value) (xT : TypeId) (w : World) : (Instr.typeAssert (.iface 35 v) xT 70 true).run Tryd.prog w = .ok (.tuple #[.nilIface, .bool false]) w := run_typeAssert_lacksB Tryd.underlying70 (by kernel_rfl) (by kernel_rfl) v xT w
theorem Tryd.noUnwrapErrno (v : Value) (xT : TypeId) (w : World) : (Instr.typeAssert (.iface 35 v) xT 68 true).run Tryd.prog w = .ok (.tuple #[.nilIface, .bool false]) w := run_typeAssert_lacksB Tryd.underlying68 (by kernel_rfl) (by kernel_rfl) v xT w
theorem Tryd.typeOfExcess (v : Value) (w : World) : (ReflectliteType.typeOf #[.iface 37 v]).run Tryd.prog w = .ok (.iface 63 (.agg #[.pointer (some ⟨1, 37, none⟩)])) w := by kernel_rfl
theorem Tryd.noIsExcess (v : Value) (xT : TypeId) (w : World) : (Instr.typeAssert (.iface 37 v) xT 65 true).run Tryd.prog w = .ok (.tuple #[.nilIface, .bool false]) w := run_typeAssert_lacksB Tryd.underlying65 (by kernel_rfl) (by kernel_rfl) v xT w
theorem Tryd.noAsExcess (v : Value) (xT : TypeId) (w : World) : (Instr.typeAssert (.iface 37 v) xT 75 true).run Tryd.prog w = .ok (.tuple #[.nilIface, .bool false]) w := run_typeAssert_lacksB Tryd.underlying75 (by kernel_rfl) (by kernel_rfl) v xT w
theorem Tryd.noUnwrapsExcess (v : Value) (xT : TypeId) (w : World) : (Instr.typeAssert (.iface 37 v) xT 70 true).run Tryd.prog w = .ok (.tuple #[.nilIface, .bool false]) w := run_typeAssert_lacksB Tryd.underlying70 (by kernel_rfl) (by kernel_rfl) v xT w
theorem Tryd.hasUnwrapExcess (v : Value) (xT : TypeId) (w : World) : (Instr.typeAssert (.iface 37 v) xT 68 true).run Tryd.prog w = .ok (.tuple #[.iface 37 v, .bool true]) w := run_typeAssert_hasB Tryd.underlying68 (by kernel_rfl) v xT w
theorem Tryd.methodUnwrapExcess (v : Value) (w : World) : (Go.method 208 37 v "Unwrap").run Tryd.prog w = .ok (42, v) w := by kernel_rfl

theorem Tryd.isComparable (w : World) : ((ReflectliteType.method fun t => do Rtype.noPackHeld "Comparable" t; pure (.bool (← typeInfo t).comparable)) #[.agg #[.pointer (some ⟨1, 35, none⟩)]]).run Tryd.prog w = .ok (.bool true) w := by kernel_rfl
theorem Tryd.callComparable (w : World) : (callFunc 48 #[.agg #[.pointer (some ⟨1, 35, none⟩)]]).run Tryd.prog w = .ok (.value (.bool true)) w :=
  (run_callFunc_extern (e := ReflectliteType.method fun t => do Rtype.noPackHeld "Comparable" t; pure (.bool (← typeInfo t).comparable)) Tryd.func48 (by kernel_rfl) (by kernel_rfl) (by kernel_rfl) (by kernel_rfl) _ w).trans (by rw [Tryd.isComparable]; rfl)
theorem Tryd.isMethodComparable (v : Value) (w : World) : (Go.method 208 63 v "Comparable").run Tryd.prog w = .ok (48, v) w := by kernel_rfl
theorem Tryd.isComp : (Tryd.prog.info? 35).map (·.comparable) = some true := by kernel_rfl
theorem Tryd.eqErrno (w : World) (a b : Int) : (binOp .eql 28 (.iface 35 (.int .i64 a)) (.iface 35 (.int .i64 b))).run Tryd.prog w = .ok (.bool (a == b)) w := Lib.run_eql_iface_int w a b Tryd.underlying28 Tryd.isComp Tryd.underlying35

theorem isE_same (n b : Int) (w : World) (hnb : (n == b) = true) :
    Calls Tryd.prog 11 #[eE n, eE b] w fun e w' => e = .returned (.bool true) ∧ w' = w := by
  unfold eE at *
  have hTypeOf := @run_callFunc_extern Tryd.prog 15 _ ReflectliteType.typeOf Tryd.func15 (by kernel_rfl) (by kernel_rfl) (by kernel_rfl) (by kernel_rfl)
  have hComp := Tryd.callComparable
  have mR := Tryd.isMethodComparable
  have tErrno := Tryd.typeOfErrno
  have nIsErrno := Tryd.noIsErrno
  have nUnwrapsErrno := Tryd.noUnwrapsErrno
  have nUnwrapErrno := Tryd.noUnwrapErrno
  have heq := Tryd.eqErrno
  go_enter Tryd.func11, Tryd.ntmps11
  go_wp2
  refine wp_loop_rounds 1 ?_
  rw [rounds_succ]
  go_wp2
  go_ret
  exact ⟨rfl, rfl⟩

theorem isE_other (n b : Int) (w : World) (hnb : (n == b) = false) :
    Calls Tryd.prog 11 #[eE n, eE b] w fun e w' => e = .returned (.bool false) ∧ w' = w := by
  unfold eE at *
  have hTypeOf := @run_callFunc_extern Tryd.prog 15 _ ReflectliteType.typeOf Tryd.func15 (by kernel_rfl) (by kernel_rfl) (by kernel_rfl) (by kernel_rfl)
  have hComp := Tryd.callComparable
  have mR := Tryd.isMethodComparable
  have tErrno := Tryd.typeOfErrno
  have nIsErrno := Tryd.noIsErrno
  have nUnwrapsErrno := Tryd.noUnwrapsErrno
  have nUnwrapErrno := Tryd.noUnwrapErrno
  have heq := Tryd.eqErrno
  go_enter Tryd.func11, Tryd.ntmps11
  go_wp2
  refine wp_loop_rounds 1 ?_
  rw [rounds_succ]
  go_wp2
  go_ret
  exact ⟨rfl, rfl⟩

theorem isXE_same (p : Addr) (b : Int) (w : World) (hnb : (240 == b) = true) :
    Calls Tryd.prog 11 #[eX p, eE b] w fun e w' => e = .returned (.bool true) ∧ w' = w := by
  unfold eE at *
  unfold eX
  have hTypeOf := @run_callFunc_extern Tryd.prog 15 _ ReflectliteType.typeOf Tryd.func15 (by kernel_rfl) (by kernel_rfl) (by kernel_rfl) (by kernel_rfl)
  have hComp := Tryd.callComparable
  have mR := Tryd.isMethodComparable
  have tExcess := Tryd.typeOfExcess
  have nIsExcess := Tryd.noIsExcess
  have nUnwrapsExcess := Tryd.noUnwrapsExcess
  have uExcess := Tryd.hasUnwrapExcess
  have mExcess := Tryd.methodUnwrapExcess
  have tErrno := Tryd.typeOfErrno
  have nIsErrno := Tryd.noIsErrno
  have nUnwrapsErrno := Tryd.noUnwrapsErrno
  have nUnwrapErrno := Tryd.noUnwrapErrno
  have heq := Tryd.eqErrno
  have hty := run_eql_iface_types (P := Tryd.prog) 37 35 (.pointer (some p)) (.int .i64 b) Tryd.underlying28 (by decide) w
  go_enter Tryd.func11, Tryd.ntmps11
  go_wp2
  refine wp_loop_rounds 2 ?_
  rw [rounds_succ]
  go_wp2
  rw [rounds_succ]
  go_wp2
  go_ret
  exact ⟨rfl, rfl⟩

theorem isXE_other (p : Addr) (b : Int) (w : World) (hnb : (240 == b) = false) :
    Calls Tryd.prog 11 #[eX p, eE b] w fun e w' => e = .returned (.bool false) ∧ w' = w := by
  unfold eE at *
  unfold eX
  have hTypeOf := @run_callFunc_extern Tryd.prog 15 _ ReflectliteType.typeOf Tryd.func15 (by kernel_rfl) (by kernel_rfl) (by kernel_rfl) (by kernel_rfl)
  have hComp := Tryd.callComparable
  have mR := Tryd.isMethodComparable
  have tExcess := Tryd.typeOfExcess
  have nIsExcess := Tryd.noIsExcess
  have nUnwrapsExcess := Tryd.noUnwrapsExcess
  have uExcess := Tryd.hasUnwrapExcess
  have mExcess := Tryd.methodUnwrapExcess
  have tErrno := Tryd.typeOfErrno
  have nIsErrno := Tryd.noIsErrno
  have nUnwrapsErrno := Tryd.noUnwrapsErrno
  have nUnwrapErrno := Tryd.noUnwrapErrno
  have heq := Tryd.eqErrno
  have hty := run_eql_iface_types (P := Tryd.prog) 37 35 (.pointer (some p)) (.int .i64 b) Tryd.underlying28 (by decide) w
  go_enter Tryd.func11, Tryd.ntmps11
  go_wp2
  refine wp_loop_rounds 2 ?_
  rw [rounds_succ]
  go_wp2
  rw [rounds_succ]
  go_wp2
  go_ret
  exact ⟨rfl, rfl⟩

theorem is_nil (b : Int) (w : World) :
    Calls Tryd.prog 11 #[.nilIface, eE b] w fun e w' => e = .returned (.bool false) ∧ w' = w := by
  unfold eE
  have hn := run_eql_iface_nil_left (P := Tryd.prog) w 35 (.int .i64 b) Tryd.underlying28
  go_enter Tryd.func11, Tryd.ntmps11
  go_wp2
  go_ret
  exact ⟨rfl, rfl⟩

theorem Tryd.methodKind (h : Value) (w : World) : (Go.method 208 63 (.agg #[h]) "Kind").run Tryd.prog w = .ok (37, h) w := by kernel_rfl
theorem Tryd.methodElem (h : Value) (w : World) : (Go.method 208 63 (.agg #[h]) "Elem").run Tryd.prog w = .ok (49, .agg #[h]) w := by kernel_rfl
theorem Tryd.methodImplements (h : Value) (w : World) : (Go.method 208 63 (.agg #[h]) "Implements").run Tryd.prog w = .ok (50, .agg #[h]) w := by kernel_rfl
theorem Tryd.methodAssignableTo (h : Value) (w : World) : (Go.method 208 63 (.agg #[h]) "AssignableTo").run Tryd.prog w = .ok (47, .agg #[h]) w := by kernel_rfl
theorem rlm (z : Sem Value) (f : TypeId → Addr → Nat → Nat → Sem Value) (v : Value) :
    ReflectliteValue.method z f #[v] = (do match ← ReflectliteValue.parts v with | none => z | some (t, a, fl) => f t a fl (fl % 32)) := rfl
theorem rls (v x : Value) : ReflectliteValue.set #[v, x] = (do
    let (some (dst, a, fl), some (src, b, _)) := (← ReflectliteValue.parts v, ← ReflectliteValue.parts x)
      | unsupported (.noEntry "extern/(internal/reflectlite.Value).Set.zeroValue")
    if fl / ReflectliteValue.flagAddr % 2 == 0 then unsupported (.noEntry "extern/(internal/reflectlite.Value).Set.unaddressable")
    let val ← loadVar src b
    if ← Rtype.directlyAssignable dst src then storeVar dst a val
    else if ← Rtype.implements dst src then
      if (← Rtype.kind src) == 20 then
        match val with
        | .nilIface => unsupported (.noEntry "extern/reflectlite: a nil value of one interface type handed on as a value of another")
        | _ => storeVar dst a val
      else storeVar dst a (.iface src val)
    else panicString ("reflectlite.Set: value of type " ++ (← Rtype.spelt src) ++ " is not assignable to type " ++ (← Rtype.spelt dst))
    pure (.tuple #[])) := rfl
theorem Tryd.kind35 (w : World) : ((ReflectliteType.abiMethod fun t => (fun a : Nat => Value.int IntKind.u8 (a : Int)) <$> Rtype.kind t) #[.pointer (some ⟨1, 35, none⟩)]).run Tryd.prog w = .ok (.int .u8 2) w := by kernel_rfl
theorem Tryd.kind37 (w : World) : ((ReflectliteType.abiMethod fun t => (fun a : Nat => Value.int IntKind.u8 (a : Int)) <$> Rtype.kind t) #[.pointer (some ⟨1, 37, none⟩)]).run Tryd.prog w = .ok (.int .u8 22) w := by kernel_rfl
theorem Tryd.kind61 (w : World) : ((ReflectliteType.abiMethod fun t => (fun a : Nat => Value.int IntKind.u8 (a : Int)) <$> Rtype.kind t) #[.pointer (some ⟨1, 61, none⟩)]).run Tryd.prog w = .ok (.int .u8 22) w := by kernel_rfl
theorem Tryd.valueOf61 (t : Addr) (w : World) : (ReflectliteValue.unpack (.iface 61 (.pointer (some t)))).run Tryd.prog w
    = .ok (.agg #[.pointer (some ⟨1, 61, none⟩), .pointer (some ⟨w.heap.size, 0, none⟩), .int .u64 150]) (w.alloc (.cells #[.pointer (some t)] 61)) := by kernel_rfl
theorem Tryd.type61 (a : Addr) (w : World) : (ReflectliteValue.methodAny (ReflectliteValue.valueError "reflectlite.Value.Type" 0) (fun t _ _ _ => ReflectliteType.toType t) #[.agg #[.pointer (some ⟨1, 61, none⟩), .pointer (some a), .int .u64 150]]).run Tryd.prog w
    = .ok (.iface 63 (.agg #[.pointer (some ⟨1, 61, none⟩)])) w := by kernel_rfl
theorem Tryd.parts61 (a : Addr) (w : World) : (ReflectliteValue.parts (.agg #[.pointer (some ⟨1, 61, none⟩), .pointer (some a), .int .u64 150])).run Tryd.prog w = .ok (some (61, a, 150)) w := by kernel_rfl
theorem Tryd.isNil61 (a p : Addr) (W : World) (ha : W.cell? a = some (.pointer (some p))) :
    (ReflectliteValue.method (ReflectliteValue.valueError "reflectlite.Value.IsNil" 0) ReflectliteValue.isNil #[.agg #[.pointer (some ⟨1, 61, none⟩), .pointer (some a), .int .u64 150]]).run Tryd.prog W = .ok (.bool false) W := by
  rw [rlm]
  simp only [Sem.run_bind, Tryd.parts61, Result.andThen]
  simp [ReflectliteValue.isNil, loadVar, isAgg, underlying, Tryd.underlying61, ha, Result.andThen]
theorem Tryd.elem61 (w : World) : (ReflectliteType.method ReflectliteType.elem #[.agg #[.pointer (some ⟨1, 61, none⟩)]]).run Tryd.prog w = .ok (.iface 63 (.agg #[.pointer (some ⟨1, 35, none⟩)])) w := by kernel_rfl
theorem Tryd.implements35 (w : World) : (ReflectliteType.relation "Implements" ReflectliteType.implements_ #[.agg #[.pointer (some ⟨1, 35, none⟩)], .iface 63 (.agg #[.pointer (some ⟨1, 28, none⟩)])]).run Tryd.prog w = .ok (.bool true) w := by kernel_rfl
theorem Tryd.elemOf61 (w : World) : (Rtype.elem? 61).run Tryd.prog w = .ok (some 35) w := by kernel_rfl
theorem Tryd.mk35 (p : Addr) (w : World) : (ReflectliteValue.mk 35 p ReflectliteValue.flagAddr).run Tryd.prog w = .ok (.agg #[.pointer (some ⟨1, 35, none⟩), .pointer (some p), .int .u64 386]) w := by kernel_rfl
theorem Tryd.elemV61 (a p : Addr) (W : World) (ha : W.cell? a = some (.pointer (some p))) :
    (ReflectliteValue.method (ReflectliteValue.valueError "reflectlite.Value.Elem" 0) ReflectliteValue.elem #[.agg #[.pointer (some ⟨1, 61, none⟩), .pointer (some a), .int .u64 150]]).run Tryd.prog W
      = .ok (.agg #[.pointer (some ⟨1, 35, none⟩), .pointer (some p), .int .u64 386]) W := by
  rw [rlm]
  simp only [Sem.run_bind, Tryd.parts61, Result.andThen]
  simp [ReflectliteValue.elem, loadVar, isAgg, underlying, Tryd.underlying61, ha, Result.andThen, Tryd.elemOf61, Tryd.mk35]
theorem Tryd.valueOf35 (n : Int) (w : World) : (ReflectliteValue.unpack (.iface 35 (.int .i64 n))).run Tryd.prog w
    = .ok (.agg #[.pointer (some ⟨1, 35, none⟩), .pointer (some ⟨w.heap.size, 0, none⟩), .int .u64 130]) (w.alloc (.cells #[.int .i64 n] 35)) := by kernel_rfl
theorem Tryd.parts35a (a : Addr) (w : World) : (ReflectliteValue.parts (.agg #[.pointer (some ⟨1, 35, none⟩), .pointer (some a), .int .u64 386])).run Tryd.prog w = .ok (some (35, a, 386)) w := by kernel_rfl
theorem Tryd.parts35b (a : Addr) (w : World) : (ReflectliteValue.parts (.agg #[.pointer (some ⟨1, 35, none⟩), .pointer (some a), .int .u64 130])).run Tryd.prog w = .ok (some (35, a, 130)) w := by kernel_rfl
theorem Tryd.direct35 (w : World) : (Rtype.directlyAssignable 35 35).run Tryd.prog w = .ok true w := by kernel_rfl
theorem Tryd.set35 (ta b : Addr) (n : Int) (old : Value) (W : World) (hb : W.cell? b = some (.int .i64 n)) (ht : W.cell? ta = some old) (hf : W.frozen? ta = false) :
    (ReflectliteValue.set #[.agg #[.pointer (some ⟨1, 35, none⟩), .pointer (some ta), .int .u64 386], .agg #[.pointer (some ⟨1, 35, none⟩), .pointer (some b), .int .u64 130]]).run Tryd.prog W
      = .ok (.tuple #[]) (W.setCell ta (.int .i64 n)) := by
  rw [rls]
  simp only [Sem.run_bind, Tryd.parts35a, Tryd.parts35b, Result.andThen]
  simp [ReflectliteValue.flagAddr, loadVar, isAgg, underlying, Tryd.underlying35, hb, Result.andThen, Tryd.direct35, storeVar, Value.cells, storeCells, Addr.add]
  rw [run_store Tryd.prog W ta _ _ (by rfl)]
  simp [ht, hf]
theorem Tryd.assignable35to35 (w : World) : (ReflectliteType.relation "AssignableTo" ReflectliteType.assignableTo #[.agg #[.pointer (some ⟨1, 35, none⟩)], .iface 63 (.agg #[.pointer (some ⟨1, 35, none⟩)])]).run Tryd.prog w = .ok (.bool true) w := by kernel_rfl
theorem Tryd.assignable37to35 (w : World) : (ReflectliteType.relation "AssignableTo" ReflectliteType.assignableTo #[.agg #[.pointer (some ⟨1, 37, none⟩)], .iface 63 (.agg #[.pointer (some ⟨1, 35, none⟩)])]).run Tryd.prog w = .ok (.bool false) w := by kernel_rfl
theorem Tryd.kind39 (w : World) : ((ReflectliteType.abiMethod fun t => (fun a : Nat => Value.int IntKind.u8 (a : Int)) <$> Rtype.kind t) #[.pointer (some ⟨1, 39, none⟩)]).run Tryd.prog w = .ok (.int .u8 22) w := by kernel_rfl
theorem Tryd.valueOf39 (t : Addr) (w : World) : (ReflectliteValue.unpack (.iface 39 (.pointer (some t)))).run Tryd.prog w
    = .ok (.agg #[.pointer (some ⟨1, 39, none⟩), .pointer (some ⟨w.heap.size, 0, none⟩), .int .u64 150]) (w.alloc (.cells #[.pointer (some t)] 39)) := by kernel_rfl
theorem Tryd.type39 (a : Addr) (w : World) : (ReflectliteValue.methodAny (ReflectliteValue.valueError "reflectlite.Value.Type" 0) (fun t _ _ _ => ReflectliteType.toType t) #[.agg #[.pointer (some ⟨1, 39, none⟩), .pointer (some a), .int .u64 150]]).run Tryd.prog w
    = .ok (.iface 63 (.agg #[.pointer (some ⟨1, 39, none⟩)])) w := by kernel_rfl
theorem Tryd.parts39 (a : Addr) (w : World) : (ReflectliteValue.parts (.agg #[.pointer (some ⟨1, 39, none⟩), .pointer (some a), .int .u64 150])).run Tryd.prog w = .ok (some (39, a, 150)) w := by kernel_rfl
theorem Tryd.isNil39 (a p : Addr) (W : World) (ha : W.cell? a = some (.pointer (some p))) :
    (ReflectliteValue.method (ReflectliteValue.valueError "reflectlite.Value.IsNil" 0) ReflectliteValue.isNil #[.agg #[.pointer (some ⟨1, 39, none⟩), .pointer (some a), .int .u64 150]]).run Tryd.prog W = .ok (.bool false) W := by
  rw [rlm]
  simp only [Sem.run_bind, Tryd.parts39, Result.andThen]
  simp [ReflectliteValue.isNil, loadVar, isAgg, underlying, Tryd.underlying39, ha, Result.andThen]
theorem Tryd.elem39 (w : World) : (ReflectliteType.method ReflectliteType.elem #[.agg #[.pointer (some ⟨1, 39, none⟩)]]).run Tryd.prog w = .ok (.iface 63 (.agg #[.pointer (some ⟨1, 37, none⟩)])) w := by kernel_rfl
theorem Tryd.implements37 (w : World) : (ReflectliteType.relation "Implements" ReflectliteType.implements_ #[.agg #[.pointer (some ⟨1, 37, none⟩)], .iface 63 (.agg #[.pointer (some ⟨1, 28, none⟩)])]).run Tryd.prog w = .ok (.bool true) w := by kernel_rfl
theorem Tryd.elemOf39 (w : World) : (Rtype.elem? 39).run Tryd.prog w = .ok (some 37) w := by kernel_rfl
theorem Tryd.mk37 (p : Addr) (w : World) : (ReflectliteValue.mk 37 p ReflectliteValue.flagAddr).run Tryd.prog w = .ok (.agg #[.pointer (some ⟨1, 37, none⟩), .pointer (some p), .int .u64 406]) w := by kernel_rfl
theorem Tryd.elemV39 (a p : Addr) (W : World) (ha : W.cell? a = some (.pointer (some p))) :
    (ReflectliteValue.method (ReflectliteValue.valueError "reflectlite.Value.Elem" 0) ReflectliteValue.elem #[.agg #[.pointer (some ⟨1, 39, none⟩), .pointer (some a), .int .u64 150]]).run Tryd.prog W
      = .ok (.agg #[.pointer (some ⟨1, 37, none⟩), .pointer (some p), .int .u64 406]) W := by
  rw [rlm]
  simp only [Sem.run_bind, Tryd.parts39, Result.andThen]
  simp [ReflectliteValue.elem, loadVar, isAgg, underlying, Tryd.underlying39, ha, Result.andThen, Tryd.elemOf39, Tryd.mk37]
theorem Tryd.valueOf37 (e : Addr) (w : World) : (ReflectliteValue.unpack (.iface 37 (.pointer (some e)))).run Tryd.prog w
    = .ok (.agg #[.pointer (some ⟨1, 37, none⟩), .pointer (some ⟨w.heap.size, 0, none⟩), .int .u64 150]) (w.alloc (.cells #[.pointer (some e)] 37)) := by kernel_rfl
theorem Tryd.parts37a (a : Addr) (w : World) : (ReflectliteValue.parts (.agg #[.pointer (some ⟨1, 37, none⟩), .pointer (some a), .int .u64 406])).run Tryd.prog w = .ok (some (37, a, 406)) w := by kernel_rfl
theorem Tryd.parts37b (a : Addr) (w : World) : (ReflectliteValue.parts (.agg #[.pointer (some ⟨1, 37, none⟩), .pointer (some a), .int .u64 150])).run Tryd.prog w = .ok (some (37, a, 150)) w := by kernel_rfl
theorem Tryd.direct37 (w : World) : (Rtype.directlyAssignable 37 37).run Tryd.prog w = .ok true w := by kernel_rfl
theorem Tryd.set37 (ta b : Addr) (e : Addr) (old : Value) (W : World) (hb : W.cell? b = some (.pointer (some e))) (ht : W.cell? ta = some old) (hf : W.frozen? ta = false) :
    (ReflectliteValue.set #[.agg #[.pointer (some ⟨1, 37, none⟩), .pointer (some ta), .int .u64 406], .agg #[.pointer (some ⟨1, 37, none⟩), .pointer (some b), .int .u64 150]]).run Tryd.prog W
      = .ok (.tuple #[]) (W.setCell ta (.pointer (some e))) := by
  rw [rls]
  simp only [Sem.run_bind, Tryd.parts37a, Tryd.parts37b, Result.andThen]
  simp [ReflectliteValue.flagAddr, loadVar, isAgg, underlying, Tryd.underlying37, hb, Result.andThen, Tryd.direct37, storeVar, Value.cells, storeCells, Addr.add]
  rw [run_store Tryd.prog W ta _ _ (by rfl)]
  simp [ht, hf]
theorem Tryd.assignable35to37 (w : World) : (ReflectliteType.relation "AssignableTo" ReflectliteType.assignableTo #[.agg #[.pointer (some ⟨1, 35, none⟩)], .iface 63 (.agg #[.pointer (some ⟨1, 37, none⟩)])]).run Tryd.prog w = .ok (.bool false) w := by kernel_rfl
theorem Tryd.assignable37to37 (w : World) : (ReflectliteType.relation "AssignableTo" ReflectliteType.assignableTo #[.agg #[.pointer (some ⟨1, 37, none⟩)], .iface 63 (.agg #[.pointer (some ⟨1, 37, none⟩)])]).run Tryd.prog w = .ok (.bool true) w := by kernel_rfl

theorem as_nil (t : Value) (w : World) :
    Calls Tryd.prog 12 #[.nilIface, t] w fun e w' => e = .returned (.bool false) ∧ w' = w := by
  go_enter Tryd.func12, Tryd.ntmps12
  go_wp2
  go_ret
  exact ⟨rfl, rfl⟩

/-- The world behind errors.As's own boxes, at a target of this type. -/
abbrev asWErrno (t : Addr) (w : World) : World := ((w.alloc (.cells #[.pointer (some t)] 61)).alloc (.cells #[.pointer (some ⟨1, 61, none⟩), .pointer (some ⟨w.heap.size, 0, none⟩), .int .u64 150] 54)).alloc (.cells #[.pointer (some ⟨1, 61, none⟩), .pointer (some ⟨w.heap.size, 0, none⟩), .int .u64 150] 54)

set_option maxHeartbeats 4000000 in
theorem asErrno_E (n : Int) (t : Addr) (old : Value) (w : World) (hg0 : Hg w) (ht0 : w.cell? t = some old) (hf0 : w.frozen? t = false) :
    Calls Tryd.prog 12 #[eE n, .iface 61 (.pointer (some t))] w fun ev w' => ev = .returned (.bool true) ∧ w' = (((asWErrno t w).alloc (.cells #[.int .i64 n] 35)).setCell t (.int .i64 n)) := by
  unfold eE at *
  have hg := hg0; unfold Hg at hg; have hlt := hg0.lt; clear hg0
  have h17 := @run_callFunc_extern Tryd.prog 17 _ (fun args => ReflectliteValue.unpack (args.getD 0 (.tuple #[]))) Tryd.func17 (by kernel_rfl) (by kernel_rfl) (by kernel_rfl) (by kernel_rfl)
  have h18 := @run_callFunc_extern Tryd.prog 18 _ (ReflectliteValue.methodAny (ReflectliteValue.valueError "reflectlite.Value.Type" 0) (fun t _ _ _ => ReflectliteType.toType t)) Tryd.func18 (by kernel_rfl) (by kernel_rfl) (by kernel_rfl) (by kernel_rfl)
  have h19 := @run_callFunc_extern Tryd.prog 19 _ (ReflectliteValue.method (ReflectliteValue.valueError "reflectlite.Value.IsNil" 0) ReflectliteValue.isNil) Tryd.func19 (by kernel_rfl) (by kernel_rfl) (by kernel_rfl) (by kernel_rfl)
  have h37 := @run_callFunc_extern Tryd.prog 37 _ (ReflectliteType.abiMethod fun t => do pure (.int .u8 (← Rtype.kind t))) Tryd.func37 (by kernel_rfl) (by kernel_rfl) (by kernel_rfl) (by kernel_rfl)
  have h49 := @run_callFunc_extern Tryd.prog 49 _ (ReflectliteType.method ReflectliteType.elem) Tryd.func49 (by kernel_rfl) (by kernel_rfl) (by kernel_rfl) (by kernel_rfl)
  have h50 := @run_callFunc_extern Tryd.prog 50 _ (ReflectliteType.relation "Implements" ReflectliteType.implements_) Tryd.func50 (by kernel_rfl) (by kernel_rfl) (by kernel_rfl) (by kernel_rfl)
  have hTypeOf := @run_callFunc_extern Tryd.prog 15 _ ReflectliteType.typeOf Tryd.func15 (by kernel_rfl) (by kernel_rfl) (by kernel_rfl) (by kernel_rfl)
  have h47 := @run_callFunc_extern Tryd.prog 47 _ (ReflectliteType.relation "AssignableTo" ReflectliteType.assignableTo) Tryd.func47 (by kernel_rfl) (by kernel_rfl) (by kernel_rfl) (by kernel_rfl)
  have h21 := @run_callFunc_extern Tryd.prog 21 _ (ReflectliteValue.method (ReflectliteValue.valueError "reflectlite.Value.Elem" 0) ReflectliteValue.elem) Tryd.func21 (by kernel_rfl) (by kernel_rfl) (by kernel_rfl) (by kernel_rfl)
  have h22 := @run_callFunc_extern Tryd.prog 22 _ ReflectliteValue.set Tryd.func22 (by kernel_rfl) (by kernel_rfl) (by kernel_rfl) (by kernel_rfl)
  have tErrno := Tryd.typeOfErrno
  have nAsErrno := Tryd.noAsErrno
  have nUnwrapsErrno := Tryd.noUnwrapsErrno
  have nUnwrapErrno := Tryd.noUnwrapErrno
  have aErrno := Tryd.assignable35to35
  have mA := Tryd.methodAssignableTo
  have f6 := Tryd.valueOf61
  have f7 := Tryd.type61
  have mK := Tryd.methodKind
  have mE := Tryd.methodElem
  have mI := Tryd.methodImplements
  have kP := Tryd.kind61
  have kT := Tryd.kind35
  have eP := Tryd.elem61
  have iT := Tryd.implements35
  have n8 := Tryd.isNil61 ⟨w.heap.size, 0, none⟩ t ((w.alloc (.cells #[.pointer (some t)] 61)).alloc (.cells #[.pointer (some ⟨1, 61, none⟩), .pointer (some ⟨w.heap.size, 0, none⟩), .int .u64 150] 54)) (by simp)
  have hg2 : ((w.alloc (.cells #[.pointer (some t)] 61)).alloc (.cells #[.pointer (some ⟨1, 61, none⟩), .pointer (some ⟨w.heap.size, 0, none⟩), .int .u64 150] 54)).cell? ⟨0, 0, none⟩ = some (.iface 63 (.agg #[.pointer (some ⟨1, 28, none⟩)])) := by
    rw [World.cell?_alloc_lt _ _ ⟨0, 0, none⟩ (by simp <;> omega), World.cell?_alloc_lt _ _ ⟨0, 0, none⟩ hlt]; exact hg
  have vT := Tryd.valueOf35
  have htl : t.block < w.heap.size := World.block_lt_of_cell? _ _ ht0
  have el := Tryd.elemV61 ⟨w.heap.size, 0, none⟩ t (((w.alloc (.cells #[.pointer (some t)] 61)).alloc (.cells #[.pointer (some ⟨1, 61, none⟩), .pointer (some ⟨w.heap.size, 0, none⟩), .int .u64 150] 54)).alloc (.cells #[.pointer (some ⟨1, 61, none⟩), .pointer (some ⟨w.heap.size, 0, none⟩), .int .u64 150] 54)) (by rw [World.cell?_alloc_lt _ _ ⟨w.heap.size, 0, none⟩ (by simp <;> omega)]; simp)
  have st := Tryd.set35 t ⟨w.heap.size + 1 + 1 + 1, 0, none⟩ n old ((((w.alloc (.cells #[.pointer (some t)] 61)).alloc (.cells #[.pointer (some ⟨1, 61, none⟩), .pointer (some ⟨w.heap.size, 0, none⟩), .int .u64 150] 54)).alloc (.cells #[.pointer (some ⟨1, 61, none⟩), .pointer (some ⟨w.heap.size, 0, none⟩), .int .u64 150] 54)).alloc (.cells #[.int .i64 n] 35))
    (by rw [World.cell?_alloc_at _ _ _ _ (by simp)]; rfl)
    (by rw [World.cell?_alloc_lt _ _ t (by simp <;> omega), World.cell?_alloc_lt _ _ t (by simp <;> omega), World.cell?_alloc_lt _ _ t (by simp <;> omega), World.cell?_alloc_lt _ _ t htl]; exact ht0)
    (by rw [World.frozen?_alloc_old _ _ t (by simp <;> omega), World.frozen?_alloc_old _ _ t (by simp <;> omega), World.frozen?_alloc_old _ _ t (by simp <;> omega), World.frozen?_alloc_old _ _ t (Nat.ne_of_lt htl)]; exact hf0)
  go_enter Tryd.func12, Tryd.ntmps12
  go_wp2
  refine wp_loop_rounds 1 ?_
  rw [rounds_succ]
  go_wp2
  go_ret
  exact ⟨rfl, rfl⟩

set_option maxHeartbeats 4000000 in
theorem asErrno_XE (p : Addr) (t : Addr) (old : Value) (w : World) (hg0 : Hg w) (ht0 : w.cell? t = some old) (hf0 : w.frozen? t = false) :
    Calls Tryd.prog 12 #[eX p, .iface 61 (.pointer (some t))] w fun ev w' => ev = .returned (.bool true) ∧ w' = (((asWErrno t w).alloc (.cells #[.int .i64 240] 35)).setCell t (.int .i64 240)) := by
  skip
  unfold eX
  have hg := hg0; unfold Hg at hg; have hlt := hg0.lt; clear hg0
  have h17 := @run_callFunc_extern Tryd.prog 17 _ (fun args => ReflectliteValue.unpack (args.getD 0 (.tuple #[]))) Tryd.func17 (by kernel_rfl) (by kernel_rfl) (by kernel_rfl) (by kernel_rfl)
  have h18 := @run_callFunc_extern Tryd.prog 18 _ (ReflectliteValue.methodAny (ReflectliteValue.valueError "reflectlite.Value.Type" 0) (fun t _ _ _ => ReflectliteType.toType t)) Tryd.func18 (by kernel_rfl) (by kernel_rfl) (by kernel_rfl) (by kernel_rfl)
  have h19 := @run_callFunc_extern Tryd.prog 19 _ (ReflectliteValue.method (ReflectliteValue.valueError "reflectlite.Value.IsNil" 0) ReflectliteValue.isNil) Tryd.func19 (by kernel_rfl) (by kernel_rfl) (by kernel_rfl) (by kernel_rfl)
  have h37 := @run_callFunc_extern Tryd.prog 37 _ (ReflectliteType.abiMethod fun t => do pure (.int .u8 (← Rtype.kind t))) Tryd.func37 (by kernel_rfl) (by kernel_rfl) (by kernel_rfl) (by kernel_rfl)
  have h49 := @run_callFunc_extern Tryd.prog 49 _ (ReflectliteType.method ReflectliteType.elem) Tryd.func49 (by kernel_rfl) (by kernel_rfl) (by kernel_rfl) (by kernel_rfl)
  have h50 := @run_callFunc_extern Tryd.prog 50 _ (ReflectliteType.relation "Implements" ReflectliteType.implements_) Tryd.func50 (by kernel_rfl) (by kernel_rfl) (by kernel_rfl) (by kernel_rfl)
  have hTypeOf := @run_callFunc_extern Tryd.prog 15 _ ReflectliteType.typeOf Tryd.func15 (by kernel_rfl) (by kernel_rfl) (by kernel_rfl) (by kernel_rfl)
  have h47 := @run_callFunc_extern Tryd.prog 47 _ (ReflectliteType.relation "AssignableTo" ReflectliteType.assignableTo) Tryd.func47 (by kernel_rfl) (by kernel_rfl) (by kernel_rfl) (by kernel_rfl)
  have h21 := @run_callFunc_extern Tryd.prog 21 _ (ReflectliteValue.method (ReflectliteValue.valueError "reflectlite.Value.Elem" 0) ReflectliteValue.elem) Tryd.func21 (by kernel_rfl) (by kernel_rfl) (by kernel_rfl) (by kernel_rfl)
  have h22 := @run_callFunc_extern Tryd.prog 22 _ ReflectliteValue.set Tryd.func22 (by kernel_rfl) (by kernel_rfl) (by kernel_rfl) (by kernel_rfl)
  have tExcess := Tryd.typeOfExcess
  have nAsExcess := Tryd.noAsExcess
  have nUnwrapsExcess := Tryd.noUnwrapsExcess
  have uExcess := Tryd.hasUnwrapExcess
  have mExcess := Tryd.methodUnwrapExcess
  have tErrno := Tryd.typeOfErrno
  have nAsErrno := Tryd.noAsErrno
  have nUnwrapsErrno := Tryd.noUnwrapsErrno
  have nUnwrapErrno := Tryd.noUnwrapErrno
  have aExcess := Tryd.assignable37to35
  have aErrno := Tryd.assignable35to35
  have mA := Tryd.methodAssignableTo
  have f6 := Tryd.valueOf61
  have f7 := Tryd.type61
  have mK := Tryd.methodKind
  have mE := Tryd.methodElem
  have mI := Tryd.methodImplements
  have kP := Tryd.kind61
  have kT := Tryd.kind35
  have eP := Tryd.elem61
  have iT := Tryd.implements35
  have n8 := Tryd.isNil61 ⟨w.heap.size, 0, none⟩ t ((w.alloc (.cells #[.pointer (some t)] 61)).alloc (.cells #[.pointer (some ⟨1, 61, none⟩), .pointer (some ⟨w.heap.size, 0, none⟩), .int .u64 150] 54)) (by simp)
  have hg2 : ((w.alloc (.cells #[.pointer (some t)] 61)).alloc (.cells #[.pointer (some ⟨1, 61, none⟩), .pointer (some ⟨w.heap.size, 0, none⟩), .int .u64 150] 54)).cell? ⟨0, 0, none⟩ = some (.iface 63 (.agg #[.pointer (some ⟨1, 28, none⟩)])) := by
    rw [World.cell?_alloc_lt _ _ ⟨0, 0, none⟩ (by simp <;> omega), World.cell?_alloc_lt _ _ ⟨0, 0, none⟩ hlt]; exact hg
  have vT := Tryd.valueOf35
  have htl : t.block < w.heap.size := World.block_lt_of_cell? _ _ ht0
  have el := Tryd.elemV61 ⟨w.heap.size, 0, none⟩ t (((w.alloc (.cells #[.pointer (some t)] 61)).alloc (.cells #[.pointer (some ⟨1, 61, none⟩), .pointer (some ⟨w.heap.size, 0, none⟩), .int .u64 150] 54)).alloc (.cells #[.pointer (some ⟨1, 61, none⟩), .pointer (some ⟨w.heap.size, 0, none⟩), .int .u64 150] 54)) (by rw [World.cell?_alloc_lt _ _ ⟨w.heap.size, 0, none⟩ (by simp <;> omega)]; simp)
  have st := Tryd.set35 t ⟨w.heap.size + 1 + 1 + 1, 0, none⟩ 240 old ((((w.alloc (.cells #[.pointer (some t)] 61)).alloc (.cells #[.pointer (some ⟨1, 61, none⟩), .pointer (some ⟨w.heap.size, 0, none⟩), .int .u64 150] 54)).alloc (.cells #[.pointer (some ⟨1, 61, none⟩), .pointer (some ⟨w.heap.size, 0, none⟩), .int .u64 150] 54)).alloc (.cells #[.int .i64 240] 35))
    (by rw [World.cell?_alloc_at _ _ _ _ (by simp)]; rfl)
    (by rw [World.cell?_alloc_lt _ _ t (by simp <;> omega), World.cell?_alloc_lt _ _ t (by simp <;> omega), World.cell?_alloc_lt _ _ t (by simp <;> omega), World.cell?_alloc_lt _ _ t htl]; exact ht0)
    (by rw [World.frozen?_alloc_old _ _ t (by simp <;> omega), World.frozen?_alloc_old _ _ t (by simp <;> omega), World.frozen?_alloc_old _ _ t (by simp <;> omega), World.frozen?_alloc_old _ _ t (Nat.ne_of_lt htl)]; exact hf0)
  go_enter Tryd.func12, Tryd.ntmps12
  go_wp2
  refine wp_loop_rounds 2 ?_
  rw [rounds_succ]
  go_wp2
  rw [rounds_succ]
  go_wp2
  go_ret
  exact ⟨rfl, rfl⟩

/-- The world behind errors.As's own boxes, at a target of this type. -/
abbrev asWExcess (t : Addr) (w : World) : World := ((w.alloc (.cells #[.pointer (some t)] 39)).alloc (.cells #[.pointer (some ⟨1, 39, none⟩), .pointer (some ⟨w.heap.size, 0, none⟩), .int .u64 150] 54)).alloc (.cells #[.pointer (some ⟨1, 39, none⟩), .pointer (some ⟨w.heap.size, 0, none⟩), .int .u64 150] 54)

set_option maxHeartbeats 4000000 in
theorem asExcess_E (n : Int) (t : Addr) (w : World) (hg0 : Hg w) :
    Calls Tryd.prog 12 #[eE n, .iface 39 (.pointer (some t))] w fun ev w' => ev = .returned (.bool false) ∧ w' = asWExcess t w := by
  unfold eE at *
  have hg := hg0; unfold Hg at hg; have hlt := hg0.lt; clear hg0
  have h17 := @run_callFunc_extern Tryd.prog 17 _ (fun args => ReflectliteValue.unpack (args.getD 0 (.tuple #[]))) Tryd.func17 (by kernel_rfl) (by kernel_rfl) (by kernel_rfl) (by kernel_rfl)
  have h18 := @run_callFunc_extern Tryd.prog 18 _ (ReflectliteValue.methodAny (ReflectliteValue.valueError "reflectlite.Value.Type" 0) (fun t _ _ _ => ReflectliteType.toType t)) Tryd.func18 (by kernel_rfl) (by kernel_rfl) (by kernel_rfl) (by kernel_rfl)
  have h19 := @run_callFunc_extern Tryd.prog 19 _ (ReflectliteValue.method (ReflectliteValue.valueError "reflectlite.Value.IsNil" 0) ReflectliteValue.isNil) Tryd.func19 (by kernel_rfl) (by kernel_rfl) (by kernel_rfl) (by kernel_rfl)
  have h37 := @run_callFunc_extern Tryd.prog 37 _ (ReflectliteType.abiMethod fun t => do pure (.int .u8 (← Rtype.kind t))) Tryd.func37 (by kernel_rfl) (by kernel_rfl) (by kernel_rfl) (by kernel_rfl)
  have h49 := @run_callFunc_extern Tryd.prog 49 _ (ReflectliteType.method ReflectliteType.elem) Tryd.func49 (by kernel_rfl) (by kernel_rfl) (by kernel_rfl) (by kernel_rfl)
  have h50 := @run_callFunc_extern Tryd.prog 50 _ (ReflectliteType.relation "Implements" ReflectliteType.implements_) Tryd.func50 (by kernel_rfl) (by kernel_rfl) (by kernel_rfl) (by kernel_rfl)
  have hTypeOf := @run_callFunc_extern Tryd.prog 15 _ ReflectliteType.typeOf Tryd.func15 (by kernel_rfl) (by kernel_rfl) (by kernel_rfl) (by kernel_rfl)
  have h47 := @run_callFunc_extern Tryd.prog 47 _ (ReflectliteType.relation "AssignableTo" ReflectliteType.assignableTo) Tryd.func47 (by kernel_rfl) (by kernel_rfl) (by kernel_rfl) (by kernel_rfl)
  have h21 := @run_callFunc_extern Tryd.prog 21 _ (ReflectliteValue.method (ReflectliteValue.valueError "reflectlite.Value.Elem" 0) ReflectliteValue.elem) Tryd.func21 (by kernel_rfl) (by kernel_rfl) (by kernel_rfl) (by kernel_rfl)
  have h22 := @run_callFunc_extern Tryd.prog 22 _ ReflectliteValue.set Tryd.func22 (by kernel_rfl) (by kernel_rfl) (by kernel_rfl) (by kernel_rfl)
  have tErrno := Tryd.typeOfErrno
  have nAsErrno := Tryd.noAsErrno
  have nUnwrapsErrno := Tryd.noUnwrapsErrno
  have nUnwrapErrno := Tryd.noUnwrapErrno
  have ttE := Tryd.typeOfErrno
  have aErrno := Tryd.assignable35to37
  have mA := Tryd.methodAssignableTo
  have f6 := Tryd.valueOf39
  have f7 := Tryd.type39
  have mK := Tryd.methodKind
  have mE := Tryd.methodElem
  have mI := Tryd.methodImplements
  have kP := Tryd.kind39
  have kT := Tryd.kind37
  have eP := Tryd.elem39
  have iT := Tryd.implements37
  have n8 := Tryd.isNil39 ⟨w.heap.size, 0, none⟩ t ((w.alloc (.cells #[.pointer (some t)] 39)).alloc (.cells #[.pointer (some ⟨1, 39, none⟩), .pointer (some ⟨w.heap.size, 0, none⟩), .int .u64 150] 54)) (by simp)
  have hg2 : ((w.alloc (.cells #[.pointer (some t)] 39)).alloc (.cells #[.pointer (some ⟨1, 39, none⟩), .pointer (some ⟨w.heap.size, 0, none⟩), .int .u64 150] 54)).cell? ⟨0, 0, none⟩ = some (.iface 63 (.agg #[.pointer (some ⟨1, 28, none⟩)])) := by
    rw [World.cell?_alloc_lt _ _ ⟨0, 0, none⟩ (by simp <;> omega), World.cell?_alloc_lt _ _ ⟨0, 0, none⟩ hlt]; exact hg
  go_enter Tryd.func12, Tryd.ntmps12
  go_wp2
  refine wp_loop_rounds 1 ?_
  rw [rounds_succ]
  go_wp2
  go_ret
  exact ⟨rfl, rfl⟩

set_option maxHeartbeats 4000000 in
theorem asExcess_XE (p : Addr) (t : Addr) (old : Value) (w : World) (hg0 : Hg w) (ht0 : w.cell? t = some old) (hf0 : w.frozen? t = false) :
    Calls Tryd.prog 12 #[eX p, .iface 39 (.pointer (some t))] w fun ev w' => ev = .returned (.bool true) ∧ w' = (((asWExcess t w).alloc (.cells #[.pointer (some p)] 37)).setCell t (.pointer (some p))) := by
  skip
  unfold eX
  have hg := hg0; unfold Hg at hg; have hlt := hg0.lt; clear hg0
  have h17 := @run_callFunc_extern Tryd.prog 17 _ (fun args => ReflectliteValue.unpack (args.getD 0 (.tuple #[]))) Tryd.func17 (by kernel_rfl) (by kernel_rfl) (by kernel_rfl) (by kernel_rfl)
  have h18 := @run_callFunc_extern Tryd.prog 18 _ (ReflectliteValue.methodAny (ReflectliteValue.valueError "reflectlite.Value.Type" 0) (fun t _ _ _ => ReflectliteType.toType t)) Tryd.func18 (by kernel_rfl) (by kernel_rfl) (by kernel_rfl) (by kernel_rfl)
  have h19 := @run_callFunc_extern Tryd.prog 19 _ (ReflectliteValue.method (ReflectliteValue.valueError "reflectlite.Value.IsNil" 0) ReflectliteValue.isNil) Tryd.func19 (by kernel_rfl) (by kernel_rfl) (by kernel_rfl) (by kernel_rfl)
  have h37 := @run_callFunc_extern Tryd.prog 37 _ (ReflectliteType.abiMethod fun t => do pure (.int .u8 (← Rtype.kind t))) Tryd.func37 (by kernel_rfl) (by kernel_rfl) (by kernel_rfl) (by kernel_rfl)
  have h49 := @run_callFunc_extern Tryd.prog 49 _ (ReflectliteType.method ReflectliteType.elem) Tryd.func49 (by kernel_rfl) (by kernel_rfl) (by kernel_rfl) (by kernel_rfl)
  have h50 := @run_callFunc_extern Tryd.prog 50 _ (ReflectliteType.relation "Implements" ReflectliteType.implements_) Tryd.func50 (by kernel_rfl) (by kernel_rfl) (by kernel_rfl) (by kernel_rfl)
  have hTypeOf := @run_callFunc_extern Tryd.prog 15 _ ReflectliteType.typeOf Tryd.func15 (by kernel_rfl) (by kernel_rfl) (by kernel_rfl) (by kernel_rfl)
  have h47 := @run_callFunc_extern Tryd.prog 47 _ (ReflectliteType.relation "AssignableTo" ReflectliteType.assignableTo) Tryd.func47 (by kernel_rfl) (by kernel_rfl) (by kernel_rfl) (by kernel_rfl)
  have h21 := @run_callFunc_extern Tryd.prog 21 _ (ReflectliteValue.method (ReflectliteValue.valueError "reflectlite.Value.Elem" 0) ReflectliteValue.elem) Tryd.func21 (by kernel_rfl) (by kernel_rfl) (by kernel_rfl) (by kernel_rfl)
  have h22 := @run_callFunc_extern Tryd.prog 22 _ ReflectliteValue.set Tryd.func22 (by kernel_rfl) (by kernel_rfl) (by kernel_rfl) (by kernel_rfl)
  have tExcess := Tryd.typeOfExcess
  have nAsExcess := Tryd.noAsExcess
  have nUnwrapsExcess := Tryd.noUnwrapsExcess
  have uExcess := Tryd.hasUnwrapExcess
  have mExcess := Tryd.methodUnwrapExcess
  have aExcess := Tryd.assignable37to37
  have mA := Tryd.methodAssignableTo
  have f6 := Tryd.valueOf39
  have f7 := Tryd.type39
  have mK := Tryd.methodKind
  have mE := Tryd.methodElem
  have mI := Tryd.methodImplements
  have kP := Tryd.kind39
  have kT := Tryd.kind37
  have eP := Tryd.elem39
  have iT := Tryd.implements37
  have n8 := Tryd.isNil39 ⟨w.heap.size, 0, none⟩ t ((w.alloc (.cells #[.pointer (some t)] 39)).alloc (.cells #[.pointer (some ⟨1, 39, none⟩), .pointer (some ⟨w.heap.size, 0, none⟩), .int .u64 150] 54)) (by simp)
  have hg2 : ((w.alloc (.cells #[.pointer (some t)] 39)).alloc (.cells #[.pointer (some ⟨1, 39, none⟩), .pointer (some ⟨w.heap.size, 0, none⟩), .int .u64 150] 54)).cell? ⟨0, 0, none⟩ = some (.iface 63 (.agg #[.pointer (some ⟨1, 28, none⟩)])) := by
    rw [World.cell?_alloc_lt _ _ ⟨0, 0, none⟩ (by simp <;> omega), World.cell?_alloc_lt _ _ ⟨0, 0, none⟩ hlt]; exact hg
  have vT := Tryd.valueOf37
  have htl : t.block < w.heap.size := World.block_lt_of_cell? _ _ ht0
  have el := Tryd.elemV39 ⟨w.heap.size, 0, none⟩ t (((w.alloc (.cells #[.pointer (some t)] 39)).alloc (.cells #[.pointer (some ⟨1, 39, none⟩), .pointer (some ⟨w.heap.size, 0, none⟩), .int .u64 150] 54)).alloc (.cells #[.pointer (some ⟨1, 39, none⟩), .pointer (some ⟨w.heap.size, 0, none⟩), .int .u64 150] 54)) (by rw [World.cell?_alloc_lt _ _ ⟨w.heap.size, 0, none⟩ (by simp <;> omega)]; simp)
  have st := Tryd.set37 t ⟨w.heap.size + 1 + 1 + 1, 0, none⟩ p old ((((w.alloc (.cells #[.pointer (some t)] 39)).alloc (.cells #[.pointer (some ⟨1, 39, none⟩), .pointer (some ⟨w.heap.size, 0, none⟩), .int .u64 150] 54)).alloc (.cells #[.pointer (some ⟨1, 39, none⟩), .pointer (some ⟨w.heap.size, 0, none⟩), .int .u64 150] 54)).alloc (.cells #[.pointer (some p)] 37))
    (by rw [World.cell?_alloc_at _ _ _ _ (by simp)]; rfl)
    (by rw [World.cell?_alloc_lt _ _ t (by simp <;> omega), World.cell?_alloc_lt _ _ t (by simp <;> omega), World.cell?_alloc_lt _ _ t (by simp <;> omega), World.cell?_alloc_lt _ _ t htl]; exact ht0)
    (by rw [World.frozen?_alloc_old _ _ t (by simp <;> omega), World.frozen?_alloc_old _ _ t (by simp <;> omega), World.frozen?_alloc_old _ _ t (by simp <;> omega), World.frozen?_alloc_old _ _ t (Nat.ne_of_lt htl)]; exact hf0)
  go_enter Tryd.func12, Tryd.ntmps12
  go_wp2
  refine wp_loop_rounds 1 ?_
  rw [rounds_succ]
  go_wp2
  go_ret
  exact ⟨rfl, rfl⟩
end Go.Proofs.YtgicnjpneoedoaaDoor
