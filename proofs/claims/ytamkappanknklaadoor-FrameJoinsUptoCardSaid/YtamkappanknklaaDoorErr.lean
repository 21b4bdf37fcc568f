/-
  Contracts of errors.Is, errors.As, api.Number (and api.Place, api.Wrap where the translation has them) at the error types of package api; their conditions: the package variable errors.errorType holds the handle of the type error, and the cells that are read.
  Turned from the guide's worked texts ToyasAs and SentryIs by a program of this repository (wip/err.py).
-/
import Derived.Test.YtamkappanknklaaDoorProg
import Derived.WalkKit
import Derived.LaidEql
import Derived.Stop.Asserts
import Derived.RowKitTokens
import Derived.Lib.IfaceEq
import Derived.Lib.Hide
namespace Go.Proofs.YtamkappanknklaaDoor
open Go.RowKit Go.Extern.Stop Go.Stop Go.Extern

/-- The error that is an Errno. -/
def eE (n : Int) : Value := .iface 30 (.int .i64 n)
/-- The variable errors.errorType holds the handle of the type error. -/
def Hg (w : World) : Prop := w.cell? ⟨0, 0, none⟩ = some (.iface 64 (.agg #[.pointer (some ⟨1, 26, none⟩)]))
theorem Hg.lt {w : World} (hg : Hg w) : 0 < w.heap.size := World.block_lt_of_cell? _ _ hg
theorem Hg.alloc {w : World} (hg : Hg w) (ob : Obj) : Hg (w.alloc ob) := by
  unfold Hg; rw [World.cell?_alloc_lt _ _ _ hg.lt]; exact hg
theorem Hg.below {w w' : World} {B : Nat} (hg : Hg w) (hb : Below B w w') (h0 : 0 < B) : Hg w' := by
  unfold Hg; rw [hb.cell (p := ⟨0, 0, none⟩) h0]; exact hg

def eF (b : Nat) : Value := .iface 57 (.pointer (some ⟨b, 0, none⟩))
theorem Tryd.typeOfErrno (v : Value) (w : World) : (ReflectliteType.typeOf #[.iface 30 v]).run Tryd.prog w = .ok (.iface 64 (.agg #[.pointer (some ⟨1, 30, none⟩)])) w := by kernel_rfl
theorem Tryd.noIsErrno (v : Value) (xT : TypeId) (w : World) : (Instr.typeAssert (.iface 30 v) xT 66 true).run Tryd.prog w = .ok (.tuple #[.nilIface, .bool false]) w := run_typeAssert_lacksB Tryd.underlying66 (by kernel_rfl) (by kernel_rfl) v xT w
theorem Tryd.noAsErrno (v : Value) (xT : TypeId) (w : World) : (Instr.typeAssert (.iface 30 v) xT 86 true).run Tryd.prog w = .ok (.tuple #[.nilIface, .bool false]) w := run_typeAssert_lacksB Tryd.underlying86 (by kernel_rfl) (by kernel_rfl) v xT w
theorem Tryd.noUnwrapsErrno (v : Value) (xT : TypeId) (w : World) : (Instr.typeAssert (.iface 30 v) xT 71 true).run Tryd.prog w = .ok (.tuple #[.nilIface, .bool false]) w := run_typeAssert_lacksB Tryd.underlying71 (by kernel_rfl) (by kernel_rfl) v xT w
theorem Tryd.noUnwrapErrno (v : Value) (xT : TypeId) (w : World) : (Instr.typeAssert (.iface 30 v) xT 69 true).run Tryd.prog w = .ok (.tuple #[.nilIface, .bool false]) w := run_typeAssert_lacksB Tryd.underlying69 (by kernel_rfl) (by kernel_rfl) v xT w
theorem Tryd.typeOfFault (v : Value) (w : World) : (ReflectliteType.typeOf #[.iface 57 v]).run Tryd.prog w = .ok (.iface 64 (.agg #[.pointer (some ⟨1, 57, none⟩)])) w := by kernel_rfl
theorem Tryd.noIsFault (v : Value) (xT : TypeId) (w : World) : (Instr.typeAssert (.iface 57 v) xT 66 true).run Tryd.prog w = .ok (.tuple #[.nilIface, .bool false]) w := run_typeAssert_lacksB Tryd.underlying66 (by kernel_rfl) (by kernel_rfl) v xT w
theorem Tryd.noAsFault (v : Value) (xT : TypeId) (w : World) : (Instr.typeAssert (.iface 57 v) xT 86 true).run Tryd.prog w = .ok (.tuple #[.nilIface, .bool false]) w := run_typeAssert_lacksB Tryd.underlying86 (by kernel_rfl) (by kernel_rfl) v xT w
theorem Tryd.noUnwrapsFault (v : Value) (xT : TypeId) (w : World) : (Instr.typeAssert (.iface 57 v) xT 71 true).run Tryd.prog w = .ok (.tuple #[.nilIface, .bool false]) w := run_typeAssert_lacksB Tryd.underlying71 (by kernel_rfl) (by kernel_rfl) v xT w
theorem Tryd.hasUnwrapFault (v : Value) (xT : TypeId) (w : World) : (Instr.typeAssert (.iface 57 v) xT 69 true).run Tryd.prog w = .ok (.tuple #[.iface 57 v, .bool true]) w := run_typeAssert_hasB Tryd.underlying69 (by kernel_rfl) v xT w
theorem Tryd.methodUnwrapFault (v : Value) (w : World) : (Go.method 217 57 v "Unwrap").run Tryd.prog w = .ok (51, v) w := by kernel_rfl

theorem Tryd.isComparable (w : World) : ((ReflectliteType.method fun t => do Rtype.noPackHeld "Comparable" t; pure (.bool (← typeInfo t).comparable)) #[.agg #[.pointer (some ⟨1, 30, none⟩)]]).run Tryd.prog w = .ok (.bool true) w := by kernel_rfl
theorem Tryd.callComparable (w : World) : (callFunc 54 #[.agg #[.pointer (some ⟨1, 30, none⟩)]]).run Tryd.prog w = .ok (.value (.bool true)) w :=
  (run_callFunc_extern (e := ReflectliteType.method fun t => do Rtype.noPackHeld "Comparable" t; pure (.bool (← typeInfo t).comparable)) Tryd.func54 (by kernel_rfl) (by kernel_rfl) (by kernel_rfl) (by kernel_rfl) _ w).trans (by rw [Tryd.isComparable]; rfl)
theorem Tryd.isMethodComparable (v : Value) (w : World) : (Go.method 217 64 v "Comparable").run Tryd.prog w = .ok (54, v) w := by kernel_rfl
theorem Tryd.isComp : (Tryd.prog.info? 30).map (·.comparable) = some true := by kernel_rfl
theorem Tryd.eqErrno (w : World) (a b : Int) : (binOp .eql 26 (.iface 30 (.int .i64 a)) (.iface 30 (.int .i64 b))).run Tryd.prog w = .ok (.bool (a == b)) w := Lib.run_eql_iface_int w a b Tryd.underlying26 Tryd.isComp Tryd.underlying30

theorem isE_same (n b : Int) (w : World) (hnb : (n == b) = true) :
    Calls Tryd.prog 17 #[eE n, eE b] w fun e w' => e = .returned (.bool true) ∧ w' = w := by
  unfold eE at *
  have hTypeOf := @run_callFunc_extern Tryd.prog 23 _ ReflectliteType.typeOf Tryd.func23 (by kernel_rfl) (by kernel_rfl) (by kernel_rfl) (by kernel_rfl)
  have hComp := Tryd.callComparable
  have mR := Tryd.isMethodComparable
  have tErrno := Tryd.typeOfErrno
  have nIsErrno := Tryd.noIsErrno
  have nUnwrapsErrno := Tryd.noUnwrapsErrno
  have nUnwrapErrno := Tryd.noUnwrapErrno
  have heq := Tryd.eqErrno
  go_enter Tryd.func17, Tryd.ntmps17
  go_wp2
  refine wp_loop_rounds 1 ?_
  rw [rounds_succ]
  go_wp2
  go_ret
  exact ⟨rfl, rfl⟩

theorem isE_other (n b : Int) (w : World) (hnb : (n == b) = false) :
    Calls Tryd.prog 17 #[eE n, eE b] w fun e w' => e = .returned (.bool false) ∧ w' = w := by
  unfold eE at *
  have hTypeOf := @run_callFunc_extern Tryd.prog 23 _ ReflectliteType.typeOf Tryd.func23 (by kernel_rfl) (by kernel_rfl) (by kernel_rfl) (by kernel_rfl)
  have hComp := Tryd.callComparable
  have mR := Tryd.isMethodComparable
  have tErrno := Tryd.typeOfErrno
  have nIsErrno := Tryd.noIsErrno
  have nUnwrapsErrno := Tryd.noUnwrapsErrno
  have nUnwrapErrno := Tryd.noUnwrapErrno
  have heq := Tryd.eqErrno
  go_enter Tryd.func17, Tryd.ntmps17
  go_wp2
  refine wp_loop_rounds 1 ?_
  rw [rounds_succ]
  go_wp2
  go_ret
  exact ⟨rfl, rfl⟩

theorem isFE_same (pb : Nat) (n b : Int) (w : World) (hnb : (n == b) = true) (hc : w.cell? ⟨pb, 2, none⟩ = some (eE n)) :
    Calls Tryd.prog 17 #[eF pb, eE b] w fun e w' => e = .returned (.bool true) ∧ w' = w := by
  unfold eE at *
  unfold eF
  have hTypeOf := @run_callFunc_extern Tryd.prog 23 _ ReflectliteType.typeOf Tryd.func23 (by kernel_rfl) (by kernel_rfl) (by kernel_rfl) (by kernel_rfl)
  have hComp := Tryd.callComparable
  have mR := Tryd.isMethodComparable
  have tFault := Tryd.typeOfFault
  have nIsFault := Tryd.noIsFault
  have nUnwrapsFault := Tryd.noUnwrapsFault
  have uFault := Tryd.hasUnwrapFault
  have mFault := Tryd.methodUnwrapFault
  have tErrno := Tryd.typeOfErrno
  have nIsErrno := Tryd.noIsErrno
  have nUnwrapsErrno := Tryd.noUnwrapsErrno
  have nUnwrapErrno := Tryd.noUnwrapErrno
  have heq := Tryd.eqErrno
  have hty := run_eql_iface_types (P := Tryd.prog) 57 30 (.pointer (some ⟨pb, 0, none⟩)) (.int .i64 b) Tryd.underlying26 (by decide) w
  go_enter Tryd.func17, Tryd.ntmps17
  go_wp2
  refine wp_loop_rounds 2 ?_
  rw [rounds_succ]
  go_wp2
  rw [rounds_succ]
  go_wp2
  go_ret
  exact ⟨rfl, rfl⟩

theorem isFE_other (pb : Nat) (n b : Int) (w : World) (hnb : (n == b) = false) (hc : w.cell? ⟨pb, 2, none⟩ = some (eE n)) :
    Calls Tryd.prog 17 #[eF pb, eE b] w fun e w' => e = .returned (.bool false) ∧ w' = w := by
  unfold eE at *
  unfold eF
  have hTypeOf := @run_callFunc_extern Tryd.prog 23 _ ReflectliteType.typeOf Tryd.func23 (by kernel_rfl) (by kernel_rfl) (by kernel_rfl) (by kernel_rfl)
  have hComp := Tryd.callComparable
  have mR := Tryd.isMethodComparable
  have tFault := Tryd.typeOfFault
  have nIsFault := Tryd.noIsFault
  have nUnwrapsFault := Tryd.noUnwrapsFault
  have uFault := Tryd.hasUnwrapFault
  have mFault := Tryd.methodUnwrapFault
  have tErrno := Tryd.typeOfErrno
  have nIsErrno := Tryd.noIsErrno
  have nUnwrapsErrno := Tryd.noUnwrapsErrno
  have nUnwrapErrno := Tryd.noUnwrapErrno
  have heq := Tryd.eqErrno
  have hty := run_eql_iface_types (P := Tryd.prog) 57 30 (.pointer (some ⟨pb, 0, none⟩)) (.int .i64 b) Tryd.underlying26 (by decide) w
  go_enter Tryd.func17, Tryd.ntmps17
  go_wp2
  refine wp_loop_rounds 2 ?_
  rw [rounds_succ]
  go_wp2
  rw [rounds_succ]
  go_wp2
  go_ret
  exact ⟨rfl, rfl⟩

theorem is_nil (b : Int) (w : World) :
    Calls Tryd.prog 17 #[.nilIface, eE b] w fun e w' => e = .returned (.bool false) ∧ w' = w := by
  unfold eE
  have hn := run_eql_iface_nil_left (P := Tryd.prog) w 30 (.int .i64 b) Tryd.underlying26
  go_enter Tryd.func17, Tryd.ntmps17
  go_wp2
  go_ret
  exact ⟨rfl, rfl⟩

theorem Tryd.methodKind (h : Value) (w : World) : (Go.method 217 64 (.agg #[h]) "Kind").run Tryd.prog w = .ok (46, h) w := by kernel_rfl
theorem Tryd.methodElem (h : Value) (w : World) : (Go.method 217 64 (.agg #[h]) "Elem").run Tryd.prog w = .ok (55, .agg #[h]) w := by kernel_rfl
theorem Tryd.methodImplements (h : Value) (w : World) : (Go.method 217 64 (.agg #[h]) "Implements").run Tryd.prog w = .ok (56, .agg #[h]) w := by kernel_rfl
theorem Tryd.methodAssignableTo (h : Value) (w : World) : (Go.method 217 64 (.agg #[h]) "AssignableTo").run Tryd.prog w = .ok (53, .agg #[h]) w := by kernel_rfl
theorem rlm (z : Sem Value) (f : TypeId → Addr → Nat → Nat → Sem Value) (v : Value) :
    ReflectliteValue.method z f #[v] = (do match ← ReflectliteValue.parts v with | none => z | some (t, a, fl) => f t a fl (fl % 32)) := rfl
theorem rls (v x : Value) : ReflectliteValue.set #[v, x] = (do
    let (some (dst, a, fl), some (src, b, _)) := (← ReflectliteValue.parts v, ← ReflectliteValue.parts x)
      | unsupported (.noEntry "extern/(internal/reflectlite.Value).Set.zeroValue")
    if fl / ReflectliteValue.flagAddr % 2 == 0 then unsupported (.noEntry "extern/(internal/reflectlite.Value).Set.unaddressable")
    let val ← loadVar src b
    if ← Rtype.directlyAssignable dst src then storeVar dst a val
    else if ← Rtype.implements dst src then
      if (← Rtype.kind src) == 20 then
        match val with
        | .nilIface => unsupported (.noEntry "extern/reflectlite: a nil value of one interface type handed on as a value of another")
        | _ => storeVar dst a val
      else storeVar dst a (.iface src val)
    else panicString ("reflectlite.Set: value of type " ++ (← Rtype.spelt src) ++ " is not assignable to type " ++ (← Rtype.spelt dst))
    pure (.tuple #[])) := rfl
theorem Tryd.kind30 (w : World) : ((ReflectliteType.abiMethod fun t => (fun a : Nat => Value.int IntKind.u8 (a : Int)) <$> Rtype.kind t) #[.pointer (some ⟨1, 30, none⟩)]).run Tryd.prog w = .ok (.int .u8 2) w := by kernel_rfl
theorem Tryd.kind57 (w : World) : ((ReflectliteType.abiMethod fun t => (fun a : Nat => Value.int IntKind.u8 (a : Int)) <$> Rtype.kind t) #[.pointer (some ⟨1, 57, none⟩)]).run Tryd.prog w = .ok (.int .u8 22) w := by kernel_rfl
theorem Tryd.kind62 (w : World) : ((ReflectliteType.abiMethod fun t => (fun a : Nat => Value.int IntKind.u8 (a : Int)) <$> Rtype.kind t) #[.pointer (some ⟨1, 62, none⟩)]).run Tryd.prog w = .ok (.int .u8 22) w := by kernel_rfl
theorem Tryd.valueOf62 (t : Addr) (w : World) : (ReflectliteValue.unpack (.iface 62 (.pointer (some t)))).run Tryd.prog w
    = .ok (.agg #[.pointer (some ⟨1, 62, none⟩), .pointer (some ⟨w.heap.size, 0, none⟩), .int .u64 150]) (w.alloc (.cells #[.pointer (some t)] 62)) := by kernel_rfl
theorem Tryd.type62 (a : Addr) (w : World) : (ReflectliteValue.methodAny (ReflectliteValue.valueError "reflectlite.Value.Type" 0) (fun t _ _ _ => ReflectliteType.toType t) #[.agg #[.pointer (some ⟨1, 62, none⟩), .pointer (some a), .int .u64 150]]).run Tryd.prog w
    = .ok (.iface 64 (.agg #[.pointer (some ⟨1, 62, none⟩)])) w := by kernel_rfl
theorem Tryd.parts62 (a : Addr) (w : World) : (ReflectliteValue.parts (.agg #[.pointer (some ⟨1, 62, none⟩), .pointer (some a), .int .u64 150])).run Tryd.prog w = .ok (some (62, a, 150)) w := by kernel_rfl
theorem Tryd.isNil62 (a p : Addr) (W : World) (ha : W.cell? a = some (.pointer (some p))) :
    (ReflectliteValue.method (ReflectliteValue.valueError "reflectlite.Value.IsNil" 0) ReflectliteValue.isNil #[.agg #[.pointer (some ⟨1, 62, none⟩), .pointer (some a), .int .u64 150]]).run Tryd.prog W = .ok (.bool false) W := by
  rw [rlm]
  simp only [Sem.run_bind, Tryd.parts62, Result.andThen]
  simp [ReflectliteValue.isNil, loadVar, isAgg, underlying, Tryd.underlying62, ha, Result.andThen]
theorem Tryd.elem62 (w : World) : (ReflectliteType.method ReflectliteType.elem #[.agg #[.pointer (some ⟨1, 62, none⟩)]]).run Tryd.prog w = .ok (.iface 64 (.agg #[.pointer (some ⟨1, 30, none⟩)])) w := by kernel_rfl
theorem Tryd.implements30 (w : World) : (ReflectliteType.relation "Implements" ReflectliteType.implements_ #[.agg #[.pointer (some ⟨1, 30, none⟩)], .iface 64 (.agg #[.pointer (some ⟨1, 26, none⟩)])]).run Tryd.prog w = .ok (.bool true) w := by kernel_rfl
theorem Tryd.elemOf62 (w : World) : (Rtype.elem? 62).run Tryd.prog w = .ok (some 30) w := by kernel_rfl
theorem Tryd.mk30 (p : Addr) (w : World) : (ReflectliteValue.mk 30 p ReflectliteValue.flagAddr).run Tryd.prog w = .ok (.agg #[.pointer (some ⟨1, 30, none⟩), .pointer (some p), .int .u64 386]) w := by kernel_rfl
theorem Tryd.elemV62 (a p : Addr) (W : World) (ha : W.cell? a = some (.pointer (some p))) :
    (ReflectliteValue.method (ReflectliteValue.valueError "reflectlite.Value.Elem" 0) ReflectliteValue.elem #[.agg #[.pointer (some ⟨1, 62, none⟩), .pointer (some a), .int .u64 150]]).run Tryd.prog W
      = .ok (.agg #[.pointer (some ⟨1, 30, none⟩), .pointer (some p), .int .u64 386]) W := by
  rw [rlm]
  simp only [Sem.run_bind, Tryd.parts62, Result.andThen]
  simp [ReflectliteValue.elem, loadVar, isAgg, underlying, Tryd.underlying62, ha, Result.andThen, Tryd.elemOf62, Tryd.mk30]
theorem Tryd.valueOf30 (n : Int) (w : World) : (ReflectliteValue.unpack (.iface 30 (.int .i64 n))).run Tryd.prog w
    = .ok (.agg #[.pointer (some ⟨1, 30, none⟩), .pointer (some ⟨w.heap.size, 0, none⟩), .int .u64 130]) (w.alloc (.cells #[.int .i64 n] 30)) := by kernel_rfl
theorem Tryd.parts30a (a : Addr) (w : World) : (ReflectliteValue.parts (.agg #[.pointer (some ⟨1, 30, none⟩), .pointer (some a), .int .u64 386])).run Tryd.prog w = .ok (some (30, a, 386)) w := by kernel_rfl
theorem Tryd.parts30b (a : Addr) (w : World) : (ReflectliteValue.parts (.agg #[.pointer (some ⟨1, 30, none⟩), .pointer (some a), .int .u64 130])).run Tryd.prog w = .ok (some (30, a, 130)) w := by kernel_rfl
theorem Tryd.direct30 (w : World) : (Rtype.directlyAssignable 30 30).run Tryd.prog w = .ok true w := by kernel_rfl
theorem Tryd.set30 (ta b : Addr) (n : Int) (old : Value) (W : World) (hb : W.cell? b = some (.int .i64 n)) (ht : W.cell? ta = some old) (hf : W.frozen? ta = false) :
    (ReflectliteValue.set #[.agg #[.pointer (some ⟨1, 30, none⟩), .pointer (some ta), .int .u64 386], .agg #[.pointer (some ⟨1, 30, none⟩), .pointer (some b), .int .u64 130]]).run Tryd.prog W
      = .ok (.tuple #[]) (W.setCell ta (.int .i64 n)) := by
  rw [rls]
  simp only [Sem.run_bind, Tryd.parts30a, Tryd.parts30b, Result.andThen]
  simp [ReflectliteValue.flagAddr, loadVar, isAgg, underlying, Tryd.underlying30, hb, Result.andThen, Tryd.direct30, storeVar, Value.cells, storeCells, Addr.add]
  rw [run_store Tryd.prog W ta _ _ (by rfl)]
  simp [ht, hf]
theorem Tryd.assignable30to30 (w : World) : (ReflectliteType.relation "AssignableTo" ReflectliteType.assignableTo #[.agg #[.pointer (some ⟨1, 30, none⟩)], .iface 64 (.agg #[.pointer (some ⟨1, 30, none⟩)])]).run Tryd.prog w = .ok (.bool true) w := by kernel_rfl
theorem Tryd.assignable57to30 (w : World) : (ReflectliteType.relation "AssignableTo" ReflectliteType.assignableTo #[.agg #[.pointer (some ⟨1, 57, none⟩)], .iface 64 (.agg #[.pointer (some ⟨1, 30, none⟩)])]).run Tryd.prog w = .ok (.bool false) w := by kernel_rfl
theorem Tryd.kind59 (w : World) : ((ReflectliteType.abiMethod fun t => (fun a : Nat => Value.int IntKind.u8 (a : Int)) <$> Rtype.kind t) #[.pointer (some ⟨1, 59, none⟩)]).run Tryd.prog w = .ok (.int .u8 22) w := by kernel_rfl
theorem Tryd.valueOf59 (t : Addr) (w : World) : (ReflectliteValue.unpack (.iface 59 (.pointer (some t)))).run Tryd.prog w
    = .ok (.agg #[.pointer (some ⟨1, 59, none⟩), .pointer (some ⟨w.heap.size, 0, none⟩), .int .u64 150]) (w.alloc (.cells #[.pointer (some t)] 59)) := by kernel_rfl
theorem Tryd.type59 (a : Addr) (w : World) : (ReflectliteValue.methodAny (ReflectliteValue.valueError "reflectlite.Value.Type" 0) (fun t _ _ _ => ReflectliteType.toType t) #[.agg #[.pointer (some ⟨1, 59, none⟩), .pointer (some a), .int .u64 150]]).run Tryd.prog w
    = .ok (.iface 64 (.agg #[.pointer (some ⟨1, 59, none⟩)])) w := by kernel_rfl
theorem Tryd.parts59 (a : Addr) (w : World) : (ReflectliteValue.parts (.agg #[.pointer (some ⟨1, 59, none⟩), .pointer (some a), .int .u64 150])).run Tryd.prog w = .ok (some (59, a, 150)) w := by kernel_rfl
theorem Tryd.isNil59 (a p : Addr) (W : World) (ha : W.cell? a = some (.pointer (some p))) :
    (ReflectliteValue.method (ReflectliteValue.valueError "reflectlite.Value.IsNil" 0) ReflectliteValue.isNil #[.agg #[.pointer (some ⟨1, 59, none⟩), .pointer (some a), .int .u64 150]]).run Tryd.prog W = .ok (.bool false) W := by
  rw [rlm]
  simp only [Sem.run_bind, Tryd.parts59, Result.andThen]
  simp [ReflectliteValue.isNil, loadVar, isAgg, underlying, Tryd.underlying59, ha, Result.andThen]
theorem Tryd.elem59 (w : World) : (ReflectliteType.method ReflectliteType.elem #[.agg #[.pointer (some ⟨1, 59, none⟩)]]).run Tryd.prog w = .ok (.iface 64 (.agg #[.pointer (some ⟨1, 57, none⟩)])) w := by kernel_rfl
theorem Tryd.implements57 (w : World) : (ReflectliteType.relation "Implements" ReflectliteType.implements_ #[.agg #[.pointer (some ⟨1, 57, none⟩)], .iface 64 (.agg #[.pointer (some ⟨1, 26, none⟩)])]).run Tryd.prog w = .ok (.bool true) w := by kernel_rfl
theorem Tryd.elemOf59 (w : World) : (Rtype.elem? 59).run Tryd.prog w = .ok (some 57) w := by kernel_rfl
theorem Tryd.mk57 (p : Addr) (w : World) : (ReflectliteValue.mk 57 p ReflectliteValue.flagAddr).run Tryd.prog w = .ok (.agg #[.pointer (some ⟨1, 57, none⟩), .pointer (some p), .int .u64 406]) w := by kernel_rfl
theorem Tryd.elemV59 (a p : Addr) (W : World) (ha : W.cell? a = some (.pointer (some p))) :
    (ReflectliteValue.method (ReflectliteValue.valueError "reflectlite.Value.Elem" 0) ReflectliteValue.elem #[.agg #[.pointer (some ⟨1, 59, none⟩), .pointer (some a), .int .u64 150]]).run Tryd.prog W
      = .ok (.agg #[.pointer (some ⟨1, 57, none⟩), .pointer (some p), .int .u64 406]) W := by
  rw [rlm]
  simp only [Sem.run_bind, Tryd.parts59, Result.andThen]
  simp [ReflectliteValue.elem, loadVar, isAgg, underlying, Tryd.underlying59, ha, Result.andThen, Tryd.elemOf59, Tryd.mk57]
theorem Tryd.valueOf57 (e : Addr) (w : World) : (ReflectliteValue.unpack (.iface 57 (.pointer (some e)))).run Tryd.prog w
    = .ok (.agg #[.pointer (some ⟨1, 57, none⟩), .pointer (some ⟨w.heap.size, 0, none⟩), .int .u64 150]) (w.alloc (.cells #[.pointer (some e)] 57)) := by kernel_rfl
theorem Tryd.parts57a (a : Addr) (w : World) : (ReflectliteValue.parts (.agg #[.pointer (some ⟨1, 57, none⟩), .pointer (some a), .int .u64 406])).run Tryd.prog w = .ok (some (57, a, 406)) w := by kernel_rfl
theorem Tryd.parts57b (a : Addr) (w : World) : (ReflectliteValue.parts (.agg #[.pointer (some ⟨1, 57, none⟩), .pointer (some a), .int .u64 150])).run Tryd.prog w = .ok (some (57, a, 150)) w := by kernel_rfl
theorem Tryd.direct57 (w : World) : (Rtype.directlyAssignable 57 57).run Tryd.prog w = .ok true w := by kernel_rfl
theorem Tryd.set57 (ta b : Addr) (e : Addr) (old : Value) (W : World) (hb : W.cell? b = some (.pointer (some e))) (ht : W.cell? ta = some old) (hf : W.frozen? ta = false) :
    (ReflectliteValue.set #[.agg #[.pointer (some ⟨1, 57, none⟩), .pointer (some ta), .int .u64 406], .agg #[.pointer (some ⟨1, 57, none⟩), .pointer (some b), .int .u64 150]]).run Tryd.prog W
      = .ok (.tuple #[]) (W.setCell ta (.pointer (some e))) := by
  rw [rls]
  simp only [Sem.run_bind, Tryd.parts57a, Tryd.parts57b, Result.andThen]
  simp [ReflectliteValue.flagAddr, loadVar, isAgg, underlying, Tryd.underlying57, hb, Result.andThen, Tryd.direct57, storeVar, Value.cells, storeCells, Addr.add]
  rw [run_store Tryd.prog W ta _ _ (by rfl)]
  simp [ht, hf]
theorem Tryd.assignable30to57 (w : World) : (ReflectliteType.relation "AssignableTo" ReflectliteType.assignableTo #[.agg #[.pointer (some ⟨1, 30, none⟩)], .iface 64 (.agg #[.pointer (some ⟨1, 57, none⟩)])]).run Tryd.prog w = .ok (.bool false) w := by kernel_rfl
theorem Tryd.assignable57to57 (w : World) : (ReflectliteType.relation "AssignableTo" ReflectliteType.assignableTo #[.agg #[.pointer (some ⟨1, 57, none⟩)], .iface 64 (.agg #[.pointer (some ⟨1, 57, none⟩)])]).run Tryd.prog w = .ok (.bool true) w := by kernel_rfl

theorem as_nil (t : Value) (w : World) :
    Calls Tryd.prog 25 #[.nilIface, t] w fun e w' => e = .returned (.bool false) ∧ w' = w := by
  go_enter Tryd.func25, Tryd.ntmps25
  go_wp2
  go_ret
  exact ⟨rfl, rfl⟩

/-- The world behind errors.As's own boxes, at a target of this type. -/
abbrev asWErrno (t : Addr) (w : World) : World := ((w.alloc (.cells #[.pointer (some t)] 62)).alloc (.cells #[.pointer (some ⟨1, 62, none⟩), .pointer (some ⟨w.heap.size, 0, none⟩), .int .u64 150] 77)).alloc (.cells #[.pointer (some ⟨1, 62, none⟩), .pointer (some ⟨w.heap.size, 0, none⟩), .int .u64 150] 77)

set_option maxHeartbeats 4000000 in
theorem asErrno_E (n : Int) (t : Addr) (old : Value) (w : World) (hg0 : Hg w) (ht0 : w.cell? t = some old) (hf0 : w.frozen? t = false) :
    Calls Tryd.prog 25 #[eE n, .iface 62 (.pointer (some t))] w fun ev w' => ev = .returned (.bool true) ∧ w' = (((asWErrno t w).alloc (.cells #[.int .i64 n] 30)).setCell t (.int .i64 n)) := by
  unfold eE at *
  have hg := hg0; unfold Hg at hg; have hlt := hg0.lt; clear hg0
  have h26 := @run_callFunc_extern Tryd.prog 26 _ (fun args => ReflectliteValue.unpack (args.getD 0 (.tuple #[]))) Tryd.func26 (by kernel_rfl) (by kernel_rfl) (by kernel_rfl) (by kernel_rfl)
  have h27 := @run_callFunc_extern Tryd.prog 27 _ (ReflectliteValue.methodAny (ReflectliteValue.valueError "reflectlite.Value.Type" 0) (fun t _ _ _ => ReflectliteType.toType t)) Tryd.func27 (by kernel_rfl) (by kernel_rfl) (by kernel_rfl) (by kernel_rfl)
  have h28 := @run_callFunc_extern Tryd.prog 28 _ (ReflectliteValue.method (ReflectliteValue.valueError "reflectlite.Value.IsNil" 0) ReflectliteValue.isNil) Tryd.func28 (by kernel_rfl) (by kernel_rfl) (by kernel_rfl) (by kernel_rfl)
  have h46 := @run_callFunc_extern Tryd.prog 46 _ (ReflectliteType.abiMethod fun t => do pure (.int .u8 (← Rtype.kind t))) Tryd.func46 (by kernel_rfl) (by kernel_rfl) (by kernel_rfl) (by kernel_rfl)
  have h55 := @run_callFunc_extern Tryd.prog 55 _ (ReflectliteType.method ReflectliteType.elem) Tryd.func55 (by kernel_rfl) (by kernel_rfl) (by kernel_rfl) (by kernel_rfl)
  have h56 := @run_callFunc_extern Tryd.prog 56 _ (ReflectliteType.relation "Implements" ReflectliteType.implements_) Tryd.func56 (by kernel_rfl) (by kernel_rfl) (by kernel_rfl) (by kernel_rfl)
  have hTypeOf := @run_callFunc_extern Tryd.prog 23 _ ReflectliteType.typeOf Tryd.func23 (by kernel_rfl) (by kernel_rfl) (by kernel_rfl) (by kernel_rfl)
  have h53 := @run_callFunc_extern Tryd.prog 53 _ (ReflectliteType.relation "AssignableTo" ReflectliteType.assignableTo) Tryd.func53 (by kernel_rfl) (by kernel_rfl) (by kernel_rfl) (by kernel_rfl)
  have h30 := @run_callFunc_extern Tryd.prog 30 _ (ReflectliteValue.method (ReflectliteValue.valueError "reflectlite.Value.Elem" 0) ReflectliteValue.elem) Tryd.func30 (by kernel_rfl) (by kernel_rfl) (by kernel_rfl) (by kernel_rfl)
  have h31 := @run_callFunc_extern Tryd.prog 31 _ ReflectliteValue.set Tryd.func31 (by kernel_rfl) (by kernel_rfl) (by kernel_rfl) (by kernel_rfl)
  have tErrno := Tryd.typeOfErrno
  have nAsErrno := Tryd.noAsErrno
  have nUnwrapsErrno := Tryd.noUnwrapsErrno
  have nUnwrapErrno := Tryd.noUnwrapErrno
  have aErrno := Tryd.assignable30to30
  have mA := Tryd.methodAssignableTo
  have f6 := Tryd.valueOf62
  have f7 := Tryd.type62
  have mK := Tryd.methodKind
  have mE := Tryd.methodElem
  have mI := Tryd.methodImplements
  have kP := Tryd.kind62
  have kT := Tryd.kind30
  have eP := Tryd.elem62
  have iT := Tryd.implements30
  have n8 := Tryd.isNil62 ⟨w.heap.size, 0, none⟩ t ((w.alloc (.cells #[.pointer (some t)] 62)).alloc (.cells #[.pointer (some ⟨1, 62, none⟩), .pointer (some ⟨w.heap.size, 0, none⟩), .int .u64 150] 77)) (by simp)
  have hg2 : ((w.alloc (.cells #[.pointer (some t)] 62)).alloc (.cells #[.pointer (some ⟨1, 62, none⟩), .pointer (some ⟨w.heap.size, 0, none⟩), .int .u64 150] 77)).cell? ⟨0, 0, none⟩ = some (.iface 64 (.agg #[.pointer (some ⟨1, 26, none⟩)])) := by
    rw [World.cell?_alloc_lt _ _ ⟨0, 0, none⟩ (by simp <;> omega), World.cell?_alloc_lt _ _ ⟨0, 0, none⟩ hlt]; exact hg
  have vT := Tryd.valueOf30
  have htl : t.block < w.heap.size := World.block_lt_of_cell? _ _ ht0
  have el := Tryd.elemV62 ⟨w.heap.size, 0, none⟩ t (((w.alloc (.cells #[.pointer (some t)] 62)).alloc (.cells #[.pointer (some ⟨1, 62, none⟩), .pointer (some ⟨w.heap.size, 0, none⟩), .int .u64 150] 77)).alloc (.cells #[.pointer (some ⟨1, 62, none⟩), .pointer (some ⟨w.heap.size, 0, none⟩), .int .u64 150] 77)) (by rw [World.cell?_alloc_lt _ _ ⟨w.heap.size, 0, none⟩ (by simp <;> omega)]; simp)
  have st := Tryd.set30 t ⟨w.heap.size + 1 + 1 + 1, 0, none⟩ n old ((((w.alloc (.cells #[.pointer (some t)] 62)).alloc (.cells #[.pointer (some ⟨1, 62, none⟩), .pointer (some ⟨w.heap.size, 0, none⟩), .int .u64 150] 77)).alloc (.cells #[.pointer (some ⟨1, 62, none⟩), .pointer (some ⟨w.heap.size, 0, none⟩), .int .u64 150] 77)).alloc (.cells #[.int .i64 n] 30))
    (by rw [World.cell?_alloc_at _ _ _ _ (by simp)]; rfl)
    (by rw [World.cell?_alloc_lt _ _ t (by simp <;> omega), World.cell?_alloc_lt _ _ t (by simp <;> omega), World.cell?_alloc_lt _ _ t (by simp <;> omega), World.cell?_alloc_lt _ _ t htl]; exact ht0)
    (by rw [World.frozen?_alloc_old _ _ t (by simp <;> omega), World.frozen?_alloc_old _ _ t (by simp <;> omega), World.frozen?_alloc_old _ _ t (by simp <;> omega), World.frozen?_alloc_old _ _ t (Nat.ne_of_lt htl)]; exact hf0)
  go_enter Tryd.func25, Tryd.ntmps25
  go_wp2
  refine wp_loop_rounds 1 ?_
  rw [rounds_succ]
  go_wp2
  go_ret
  exact ⟨rfl, rfl⟩

set_option maxHeartbeats 4000000 in
theorem asErrno_FE (pb : Nat) (n : Int) (t : Addr) (old : Value) (w : World) (hg0 : Hg w) (ht0 : w.cell? t = some old) (hf0 : w.frozen? t = false) (hc : w.cell? ⟨pb, 2, none⟩ = some (eE n)) :
    Calls Tryd.prog 25 #[eF pb, .iface 62 (.pointer (some t))] w fun ev w' => ev = .returned (.bool true) ∧ w' = (((asWErrno t w).alloc (.cells #[.int .i64 n] 30)).setCell t (.int .i64 n)) := by
  unfold eE at *
  unfold eF
  have hg := hg0; unfold Hg at hg; have hlt := hg0.lt; clear hg0
  have h26 := @run_callFunc_extern Tryd.prog 26 _ (fun args => ReflectliteValue.unpack (args.getD 0 (.tuple #[]))) Tryd.func26 (by kernel_rfl) (by kernel_rfl) (by kernel_rfl) (by kernel_rfl)
  have h27 := @run_callFunc_extern Tryd.prog 27 _ (ReflectliteValue.methodAny (ReflectliteValue.valueError "reflectlite.Value.Type" 0) (fun t _ _ _ => ReflectliteType.toType t)) Tryd.func27 (by kernel_rfl) (by kernel_rfl) (by kernel_rfl) (by kernel_rfl)
  have h28 := @run_callFunc_extern Tryd.prog 28 _ (ReflectliteValue.method (ReflectliteValue.valueError "reflectlite.Value.IsNil" 0) ReflectliteValue.isNil) Tryd.func28 (by kernel_rfl) (by kernel_rfl) (by kernel_rfl) (by kernel_rfl)
  have h46 := @run_callFunc_extern Tryd.prog 46 _ (ReflectliteType.abiMethod fun t => do pure (.int .u8 (← Rtype.kind t))) Tryd.func46 (by kernel_rfl) (by kernel_rfl) (by kernel_rfl) (by kernel_rfl)
  have h55 := @run_callFunc_extern Tryd.prog 55 _ (ReflectliteType.method ReflectliteType.elem) Tryd.func55 (by kernel_rfl) (by kernel_rfl) (by kernel_rfl) (by kernel_rfl)
  have h56 := @run_callFunc_extern Tryd.prog 56 _ (ReflectliteType.relation "Implements" ReflectliteType.implements_) Tryd.func56 (by kernel_rfl) (by kernel_rfl) (by kernel_rfl) (by kernel_rfl)
  have hTypeOf := @run_callFunc_extern Tryd.prog 23 _ ReflectliteType.typeOf Tryd.func23 (by kernel_rfl) (by kernel_rfl) (by kernel_rfl) (by kernel_rfl)
  have h53 := @run_callFunc_extern Tryd.prog 53 _ (ReflectliteType.relation "AssignableTo" ReflectliteType.assignableTo) Tryd.func53 (by kernel_rfl) (by kernel_rfl) (by kernel_rfl) (by kernel_rfl)
  have h30 := @run_callFunc_extern Tryd.prog 30 _ (ReflectliteValue.method (ReflectliteValue.valueError "reflectlite.Value.Elem" 0) ReflectliteValue.elem) Tryd.func30 (by kernel_rfl) (by kernel_rfl) (by kernel_rfl) (by kernel_rfl)
  have h31 := @run_callFunc_extern Tryd.prog 31 _ ReflectliteValue.set Tryd.func31 (by kernel_rfl) (by kernel_rfl) (by kernel_rfl) (by kernel_rfl)
  have tFault := Tryd.typeOfFault
  have nAsFault := Tryd.noAsFault
  have nUnwrapsFault := Tryd.noUnwrapsFault
  have uFault := Tryd.hasUnwrapFault
  have mFault := Tryd.methodUnwrapFault
  have tErrno := Tryd.typeOfErrno
  have nAsErrno := Tryd.noAsErrno
  have nUnwrapsErrno := Tryd.noUnwrapsErrno
  have nUnwrapErrno := Tryd.noUnwrapErrno
  have aFault := Tryd.assignable57to30
  have aErrno := Tryd.assignable30to30
  have mA := Tryd.methodAssignableTo
  have f6 := Tryd.valueOf62
  have f7 := Tryd.type62
  have mK := Tryd.methodKind
  have mE := Tryd.methodElem
  have mI := Tryd.methodImplements
  have kP := Tryd.kind62
  have kT := Tryd.kind30
  have eP := Tryd.elem62
  have iT := Tryd.implements30
  have n8 := Tryd.isNil62 ⟨w.heap.size, 0, none⟩ t ((w.alloc (.cells #[.pointer (some t)] 62)).alloc (.cells #[.pointer (some ⟨1, 62, none⟩), .pointer (some ⟨w.heap.size, 0, none⟩), .int .u64 150] 77)) (by simp)
  have hg2 : ((w.alloc (.cells #[.pointer (some t)] 62)).alloc (.cells #[.pointer (some ⟨1, 62, none⟩), .pointer (some ⟨w.heap.size, 0, none⟩), .int .u64 150] 77)).cell? ⟨0, 0, none⟩ = some (.iface 64 (.agg #[.pointer (some ⟨1, 26, none⟩)])) := by
    rw [World.cell?_alloc_lt _ _ ⟨0, 0, none⟩ (by simp <;> omega), World.cell?_alloc_lt _ _ ⟨0, 0, none⟩ hlt]; exact hg
  have hpl : pb < w.heap.size := World.block_lt_of_cell? _ _ hc
  have hc3 : (((w.alloc (.cells #[.pointer (some t)] 62)).alloc (.cells #[.pointer (some ⟨1, 62, none⟩), .pointer (some ⟨w.heap.size, 0, none⟩), .int .u64 150] 77)).alloc (.cells #[.pointer (some ⟨1, 62, none⟩), .pointer (some ⟨w.heap.size, 0, none⟩), .int .u64 150] 77)).cell? ⟨pb, 2, none⟩ = some (.iface 30 (.int .i64 n)) := by
    rw [World.cell?_alloc_lt _ _ ⟨pb, 2, none⟩ (by simp <;> omega), World.cell?_alloc_lt _ _ ⟨pb, 2, none⟩ (by simp <;> omega), World.cell?_alloc_lt _ _ ⟨pb, 2, none⟩ hpl]; exact hc
  have vT := Tryd.valueOf30
  have htl : t.block < w.heap.size := World.block_lt_of_cell? _ _ ht0
  have el := Tryd.elemV62 ⟨w.heap.size, 0, none⟩ t (((w.alloc (.cells #[.pointer (some t)] 62)).alloc (.cells #[.pointer (some ⟨1, 62, none⟩), .pointer (some ⟨w.heap.size, 0, none⟩), .int .u64 150] 77)).alloc (.cells #[.pointer (some ⟨1, 62, none⟩), .pointer (some ⟨w.heap.size, 0, none⟩), .int .u64 150] 77)) (by rw [World.cell?_alloc_lt _ _ ⟨w.heap.size, 0, none⟩ (by simp <;> omega)]; simp)
  have st := Tryd.set30 t ⟨w.heap.size + 1 + 1 + 1, 0, none⟩ n old ((((w.alloc (.cells #[.pointer (some t)] 62)).alloc (.cells #[.pointer (some ⟨1, 62, none⟩), .pointer (some ⟨w.heap.size, 0, none⟩), .int .u64 150] 77)).alloc (.cells #[.pointer (some ⟨1, 62, none⟩), .pointer (some ⟨w.heap.size, 0, none⟩), .int .u64 150] 77)).alloc (.cells #[.int .i64 n] 30))
    (by rw [World.cell?_alloc_at _ _ _ _ (by simp)]; rfl)
    (by rw [World.cell?_alloc_lt _ _ t (by simp <;> omega), World.cell?_alloc_lt _ _ t (by simp <;> omega), World.cell?_alloc_lt _ _ t (by simp <;> omega), World.cell?_alloc_lt _ _ t htl]; exact ht0)
    (by rw [World.frozen?_alloc_old _ _ t (by simp <;> omega), World.frozen?_alloc_old _ _ t (by simp <;> omega), World.frozen?_alloc_old _ _ t (by simp <;> omega), World.frozen?_alloc_old _ _ t (Nat.ne_of_lt htl)]; exact hf0)
  go_enter Tryd.func25, Tryd.ntmps25
  go_wp2
  refine wp_loop_rounds 2 ?_
  rw [rounds_succ]
  go_wp2
  rw [rounds_succ]
  go_wp2
  go_ret
  exact ⟨rfl, rfl⟩

/-- The world behind errors.As's own boxes, at a target of this type. -/
abbrev asWFault (t : Addr) (w : World) : World := ((w.alloc (.cells #[.pointer (some t)] 59)).alloc (.cells #[.pointer (some ⟨1, 59, none⟩), .pointer (some ⟨w.heap.size, 0, none⟩), .int .u64 150] 77)).alloc (.cells #[.pointer (some ⟨1, 59, none⟩), .pointer (some ⟨w.heap.size, 0, none⟩), .int .u64 150] 77)

set_option maxHeartbeats 4000000 in
theorem asFault_E (n : Int) (t : Addr) (w : World) (hg0 : Hg w) :
    Calls Tryd.prog 25 #[eE n, .iface 59 (.pointer (some t))] w fun ev w' => ev = .returned (.bool false) ∧ w' = asWFault t w := by
  unfold eE at *
  have hg := hg0; unfold Hg at hg; have hlt := hg0.lt; clear hg0
  have h26 := @run_callFunc_extern Tryd.prog 26 _ (fun args => ReflectliteValue.unpack (args.getD 0 (.tuple #[]))) Tryd.func26 (by kernel_rfl) (by kernel_rfl) (by kernel_rfl) (by kernel_rfl)
  have h27 := @run_callFunc_extern Tryd.prog 27 _ (ReflectliteValue.methodAny (ReflectliteValue.valueError "reflectlite.Value.Type" 0) (fun t _ _ _ => ReflectliteType.toType t)) Tryd.func27 (by kernel_rfl) (by kernel_rfl) (by kernel_rfl) (by kernel_rfl)
  have h28 := @run_callFunc_extern Tryd.prog 28 _ (ReflectliteValue.method (ReflectliteValue.valueError "reflectlite.Value.IsNil" 0) ReflectliteValue.isNil) Tryd.func28 (by kernel_rfl) (by kernel_rfl) (by kernel_rfl) (by kernel_rfl)
  have h46 := @run_callFunc_extern Tryd.prog 46 _ (ReflectliteType.abiMethod fun t => do pure (.int .u8 (← Rtype.kind t))) Tryd.func46 (by kernel_rfl) (by kernel_rfl) (by kernel_rfl) (by kernel_rfl)
  have h55 := @run_callFunc_extern Tryd.prog 55 _ (ReflectliteType.method ReflectliteType.elem) Tryd.func55 (by kernel_rfl) (by kernel_rfl) (by kernel_rfl) (by kernel_rfl)
  have h56 := @run_callFunc_extern Tryd.prog 56 _ (ReflectliteType.relation "Implements" ReflectliteType.implements_) Tryd.func56 (by kernel_rfl) (by kernel_rfl) (by kernel_rfl) (by kernel_rfl)
  have hTypeOf := @run_callFunc_extern Tryd.prog 23 _ ReflectliteType.typeOf Tryd.func23 (by kernel_rfl) (by kernel_rfl) (by kernel_rfl) (by kernel_rfl)
  have h53 := @run_callFunc_extern Tryd.prog 53 _ (ReflectliteType.relation "AssignableTo" ReflectliteType.assignableTo) Tryd.func53 (by kernel_rfl) (by kernel_rfl) (by kernel_rfl) (by kernel_rfl)
  have h30 := @run_callFunc_extern Tryd.prog 30 _ (ReflectliteValue.method (ReflectliteValue.valueError "reflectlite.Value.Elem" 0) ReflectliteValue.elem) Tryd.func30 (by kernel_rfl) (by kernel_rfl) (by kernel_rfl) (by kernel_rfl)
  have h31 := @run_callFunc_extern Tryd.prog 31 _ ReflectliteValue.set Tryd.func31 (by kernel_rfl) (by kernel_rfl) (by kernel_rfl) (by kernel_rfl)
  have tErrno := Tryd.typeOfErrno
  have nAsErrno := Tryd.noAsErrno
  have nUnwrapsErrno := Tryd.noUnwrapsErrno
  have nUnwrapErrno := Tryd.noUnwrapErrno
  have ttE := Tryd.typeOfErrno
  have aErrno := Tryd.assignable30to57
  have mA := Tryd.methodAssignableTo
  have f6 := Tryd.valueOf59
  have f7 := Tryd.type59
  have mK := Tryd.methodKind
  have mE := Tryd.methodElem
  have mI := Tryd.methodImplements
  have kP := Tryd.kind59
  have kT := Tryd.kind57
  have eP := Tryd.elem59
  have iT := Tryd.implements57
  have n8 := Tryd.isNil59 ⟨w.heap.size, 0, none⟩ t ((w.alloc (.cells #[.pointer (some t)] 59)).alloc (.cells #[.pointer (some ⟨1, 59, none⟩), .pointer (some ⟨w.heap.size, 0, none⟩), .int .u64 150] 77)) (by simp)
  have hg2 : ((w.alloc (.cells #[.pointer (some t)] 59)).alloc (.cells #[.pointer (some ⟨1, 59, none⟩), .pointer (some ⟨w.heap.size, 0, none⟩), .int .u64 150] 77)).cell? ⟨0, 0, none⟩ = some (.iface 64 (.agg #[.pointer (some ⟨1, 26, none⟩)])) := by
    rw [World.cell?_alloc_lt _ _ ⟨0, 0, none⟩ (by simp <;> omega), World.cell?_alloc_lt _ _ ⟨0, 0, none⟩ hlt]; exact hg
  go_enter Tryd.func25, Tryd.ntmps25
  go_wp2
  refine wp_loop_rounds 1 ?_
  rw [rounds_succ]
  go_wp2
  go_ret
  exact ⟨rfl, rfl⟩

set_option maxHeartbeats 4000000 in
theorem asFault_FE (pb : Nat) (t : Addr) (old : Value) (w : World) (hg0 : Hg w) (ht0 : w.cell? t = some old) (hf0 : w.frozen? t = false) :
    Calls Tryd.prog 25 #[eF pb, .iface 59 (.pointer (some t))] w fun ev w' => ev = .returned (.bool true) ∧ w' = (((asWFault t w).alloc (.cells #[.pointer (some ⟨pb, 0, none⟩)] 57)).setCell t (.pointer (some ⟨pb, 0, none⟩))) := by
  skip
  unfold eF
  have hg := hg0; unfold Hg at hg; have hlt := hg0.lt; clear hg0
  have h26 := @run_callFunc_extern Tryd.prog 26 _ (fun args => ReflectliteValue.unpack (args.getD 0 (.tuple #[]))) Tryd.func26 (by kernel_rfl) (by kernel_rfl) (by kernel_rfl) (by kernel_rfl)
  have h27 := @run_callFunc_extern Tryd.prog 27 _ (ReflectliteValue.methodAny (ReflectliteValue.valueError "reflectlite.Value.Type" 0) (fun t _ _ _ => ReflectliteType.toType t)) Tryd.func27 (by kernel_rfl) (by kernel_rfl) (by kernel_rfl) (by kernel_rfl)
  have h28 := @run_callFunc_extern Tryd.prog 28 _ (ReflectliteValue.method (ReflectliteValue.valueError "reflectlite.Value.IsNil" 0) ReflectliteValue.isNil) Tryd.func28 (by kernel_rfl) (by kernel_rfl) (by kernel_rfl) (by kernel_rfl)
  have h46 := @run_callFunc_extern Tryd.prog 46 _ (ReflectliteType.abiMethod fun t => do pure (.int .u8 (← Rtype.kind t))) Tryd.func46 (by kernel_rfl) (by kernel_rfl) (by kernel_rfl) (by kernel_rfl)
  have h55 := @run_callFunc_extern Tryd.prog 55 _ (ReflectliteType.method ReflectliteType.elem) Tryd.func55 (by kernel_rfl) (by kernel_rfl) (by kernel_rfl) (by kernel_rfl)
  have h56 := @run_callFunc_extern Tryd.prog 56 _ (ReflectliteType.relation "Implements" ReflectliteType.implements_) Tryd.func56 (by kernel_rfl) (by kernel_rfl) (by kernel_rfl) (by kernel_rfl)
  have hTypeOf := @run_callFunc_extern Tryd.prog 23 _ ReflectliteType.typeOf Tryd.func23 (by kernel_rfl) (by kernel_rfl) (by kernel_rfl) (by kernel_rfl)
  have h53 := @run_callFunc_extern Tryd.prog 53 _ (ReflectliteType.relation "AssignableTo" ReflectliteType.assignableTo) Tryd.func53 (by kernel_rfl) (by kernel_rfl) (by kernel_rfl) (by kernel_rfl)
  have h30 := @run_callFunc_extern Tryd.prog 30 _ (ReflectliteValue.method (ReflectliteValue.valueError "reflectlite.Value.Elem" 0) ReflectliteValue.elem) Tryd.func30 (by kernel_rfl) (by kernel_rfl) (by kernel_rfl) (by kernel_rfl)
  have h31 := @run_callFunc_extern Tryd.prog 31 _ ReflectliteValue.set Tryd.func31 (by kernel_rfl) (by kernel_rfl) (by kernel_rfl) (by kernel_rfl)
  have tFault := Tryd.typeOfFault
  have nAsFault := Tryd.noAsFault
  have nUnwrapsFault := Tryd.noUnwrapsFault
  have uFault := Tryd.hasUnwrapFault
  have mFault := Tryd.methodUnwrapFault
  have aFault := Tryd.assignable57to57
  have mA := Tryd.methodAssignableTo
  have f6 := Tryd.valueOf59
  have f7 := Tryd.type59
  have mK := Tryd.methodKind
  have mE := Tryd.methodElem
  have mI := Tryd.methodImplements
  have kP := Tryd.kind59
  have kT := Tryd.kind57
  have eP := Tryd.elem59
  have iT := Tryd.implements57
  have n8 := Tryd.isNil59 ⟨w.heap.size, 0, none⟩ t ((w.alloc (.cells #[.pointer (some t)] 59)).alloc (.cells #[.pointer (some ⟨1, 59, none⟩), .pointer (some ⟨w.heap.size, 0, none⟩), .int .u64 150] 77)) (by simp)
  have hg2 : ((w.alloc (.cells #[.pointer (some t)] 59)).alloc (.cells #[.pointer (some ⟨1, 59, none⟩), .pointer (some ⟨w.heap.size, 0, none⟩), .int .u64 150] 77)).cell? ⟨0, 0, none⟩ = some (.iface 64 (.agg #[.pointer (some ⟨1, 26, none⟩)])) := by
    rw [World.cell?_alloc_lt _ _ ⟨0, 0, none⟩ (by simp <;> omega), World.cell?_alloc_lt _ _ ⟨0, 0, none⟩ hlt]; exact hg
  have vT := Tryd.valueOf57
  have htl : t.block < w.heap.size := World.block_lt_of_cell? _ _ ht0
  have el := Tryd.elemV59 ⟨w.heap.size, 0, none⟩ t (((w.alloc (.cells #[.pointer (some t)] 59)).alloc (.cells #[.pointer (some ⟨1, 59, none⟩), .pointer (some ⟨w.heap.size, 0, none⟩), .int .u64 150] 77)).alloc (.cells #[.pointer (some ⟨1, 59, none⟩), .pointer (some ⟨w.heap.size, 0, none⟩), .int .u64 150] 77)) (by rw [World.cell?_alloc_lt _ _ ⟨w.heap.size, 0, none⟩ (by simp <;> omega)]; simp)
  have st := Tryd.set57 t ⟨w.heap.size + 1 + 1 + 1, 0, none⟩ ⟨pb, 0, none⟩ old ((((w.alloc (.cells #[.pointer (some t)] 59)).alloc (.cells #[.pointer (some ⟨1, 59, none⟩), .pointer (some ⟨w.heap.size, 0, none⟩), .int .u64 150] 77)).alloc (.cells #[.pointer (some ⟨1, 59, none⟩), .pointer (some ⟨w.heap.size, 0, none⟩), .int .u64 150] 77)).alloc (.cells #[.pointer (some ⟨pb, 0, none⟩)] 57))
    (by rw [World.cell?_alloc_at _ _ _ _ (by simp)]; rfl)
    (by rw [World.cell?_alloc_lt _ _ t (by simp <;> omega), World.cell?_alloc_lt _ _ t (by simp <;> omega), World.cell?_alloc_lt _ _ t (by simp <;> omega), World.cell?_alloc_lt _ _ t htl]; exact ht0)
    (by rw [World.frozen?_alloc_old _ _ t (by simp <;> omega), World.frozen?_alloc_old _ _ t (by simp <;> omega), World.frozen?_alloc_old _ _ t (by simp <;> omega), World.frozen?_alloc_old _ _ t (Nat.ne_of_lt htl)]; exact hf0)
  go_enter Tryd.func25, Tryd.ntmps25
  go_wp2
  refine wp_loop_rounds 1 ?_
  rw [rounds_succ]
  go_wp2
  go_ret
  exact ⟨rfl, rfl⟩
end Go.Proofs.YtamkappanknklaaDoor
