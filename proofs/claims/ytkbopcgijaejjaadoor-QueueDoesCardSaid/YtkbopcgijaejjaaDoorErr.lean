/-
  Contracts of errors.Is, errors.As, api.Number (and api.Place, api.Wrap where the translation has them) at the error types of package api; their conditions: the package variable errors.errorType holds the handle of the type error, and the cells that are read.
  Turned from the guide's worked texts ToyasAs and SentryIs by a program of this repository (wip/err.py).
-/
import Derived.Test.YtkbopcgijaejjaaDoorProg
import Derived.WalkKit
import Derived.LaidEql
import Derived.Stop.Asserts
import Derived.RowKitTokens
import Derived.Lib.IfaceEq
import Derived.Lib.Hide
namespace Go.Proofs.YtkbopcgijaejjaaDoor
open Go.RowKit Go.Extern.Stop Go.Stop Go.Extern

/-- The error that is an Errno. -/
def eE (n : Int) : Value := .iface 52 (.int .i64 n)
/-- The variable errors.errorType holds the handle of the type error. -/
def Hg (w : World) : Prop := w.cell? ⟨0, 0, none⟩ = some (.iface 91 (.agg #[.pointer (some ⟨1, 34, none⟩)]))
theorem Hg.lt {w : World} (hg : Hg w) : 0 < w.heap.size := World.block_lt_of_cell? _ _ hg
theorem Hg.alloc {w : World} (hg : Hg w) (ob : Obj) : Hg (w.alloc ob) := by
  unfold Hg; rw [World.cell?_alloc_lt _ _ _ hg.lt]; exact hg
theorem Hg.below {w w' : World} {B : Nat} (hg : Hg w) (hb : Below B w w') (h0 : 0 < B) : Hg w' := by
  unfold Hg; rw [hb.cell (p := ⟨0, 0, none⟩) h0]; exact hg

def eF (b : Nat) : Value := .iface 86 (.pointer (some ⟨b, 0, none⟩))
theorem Tryd.typeOfErrno (v : Value) (w : World) : (ReflectliteType.typeOf #[.iface 52 v]).run Tryd.prog w = .ok (.iface 91 (.agg #[.pointer (some ⟨1, 52, none⟩)])) w := by kernel_rfl
theorem Tryd.noIsErrno (v : Value) (xT : TypeId) (w : World) : (Instr.typeAssert (.iface 52 v) xT 93 true).run Tryd.prog w = .ok (.tuple #[.nilIface, .bool false]) w := run_typeAssert_lacksB Tryd.underlying93 (by kernel_rfl) (by kernel_rfl) v xT w
theorem Tryd.noAsErrno (v : Value) (xT : TypeId) (w : World) : (Instr.typeAssert (.iface 52 v) xT 116 true).run Tryd.prog w = .ok (.tuple #[.nilIface, .bool false]) w := run_typeAssert_lacksB Tryd.underlying116 (by kernel_rfl) (by kernel_rfl) v xT w
theorem Tryd.noUnwrapsErrno (v : Value) (xT : TypeId) (w : World) : (Instr.typeAssert (.iface 52 v) xT 98 true).run Tryd.prog w = .ok (.tuple #[.nilIface, .bool false]) w := run_typeAssert_lacksB Tryd.underlying98 (by kernel_rfl) (by kernel_rfl) v xT w
theorem Tryd.noUnwrapErrno (v : Value) (xT : TypeId) (w : World) : (Instr.typeAssert (.iface 52 v) xT 96 true).run Tryd.prog w = .ok (.tuple #[.nilIface, .bool false]) w := run_typeAssert_lacksB Tryd.underlying96 (by kernel_rfl) (by kernel_rfl) v xT w
theorem Tryd.typeOfFault (v : Value) (w : World) : (ReflectliteType.typeOf #[.iface 86 v]).run Tryd.prog w = .ok (.iface 91 (.agg #[.pointer (some ⟨1, 86, none⟩)])) w := by kernel_rfl
theorem Tryd.noIsFault (v : Value) (xT : TypeId) (w : World) : (Instr.typeAssert (.iface 86 v) xT 93 true).run Tryd.prog w = .ok (.tuple #[.nilIface, .bool false]) w := run_typeAssert_lacksB Tryd.underlying93 (by kernel_rfl) (by kernel_rfl) v xT w
theorem Tryd.noAsFault (v : Value) (xT : TypeId) (w : World) : (Instr.typeAssert (.iface 86 v) xT 116 true).run Tryd.prog w = .ok (.tuple #[.nilIface, .bool false]) w := run_typeAssert_lacksB Tryd.underlying116 (by kernel_rfl) (by kernel_rfl) v xT w
theorem Tryd.noUnwrapsFault (v : Value) (xT : TypeId) (w : World) : (Instr.typeAssert (.iface 86 v) xT 98 true).run Tryd.prog w = .ok (.tuple #[.nilIface, .bool false]) w := run_typeAssert_lacksB Tryd.underlying98 (by kernel_rfl) (by kernel_rfl) v xT w
theorem Tryd.hasUnwrapFault (v : Value) (xT : TypeId) (w : World) : (Instr.typeAssert (.iface 86 v) xT 96 true).run Tryd.prog w = .ok (.tuple #[.iface 86 v, .bool true]) w := run_typeAssert_hasB Tryd.underlying96 (by kernel_rfl) v xT w
theorem Tryd.methodUnwrapFault (v : Value) (w : World) : (Go.method 248 86 v "Unwrap").run Tryd.prog w = .ok (69, v) w := by kernel_rfl

theorem Tryd.isComparable (w : World) : ((ReflectliteType.method fun t => do Rtype.noPackHeld "Comparable" t; pure (.bool (← typeInfo t).comparable)) #[.agg #[.pointer (some ⟨1, 52, none⟩)]]).run Tryd.prog w = .ok (.bool true) w := by kernel_rfl
theorem Tryd.callComparable (w : World) : (callFunc 72 #[.agg #[.pointer (some ⟨1, 52, none⟩)]]).run Tryd.prog w = .ok (.value (.bool true)) w :=
  (run_callFunc_extern (e := ReflectliteType.method fun t => do Rtype.noPackHeld "Comparable" t; pure (.bool (← typeInfo t).comparable)) Tryd.func72 (by kernel_rfl) (by kernel_rfl) (by kernel_rfl) (by kernel_rfl) _ w).trans (by rw [Tryd.isComparable]; rfl)
theorem Tryd.isMethodComparable (v : Value) (w : World) : (Go.method 248 91 v "Comparable").run Tryd.prog w = .ok (72, v) w := by kernel_rfl
theorem Tryd.isComp : (Tryd.prog.info? 52).map (·.comparable) = some true := by kernel_rfl
theorem Tryd.eqErrno (w : World) (a b : Int) : (binOp .eql 34 (.iface 52 (.int .i64 a)) (.iface 52 (.int .i64 b))).run Tryd.prog w = .ok (.bool (a == b)) w := Lib.run_eql_iface_int w a b Tryd.underlying34 Tryd.isComp Tryd.underlying52

theorem isE_same (n b : Int) (w : World) (hnb : (n == b) = true) :
    Calls Tryd.prog 21 #[eE n, eE b] w fun e w' => e = .returned (.bool true) ∧ w' = w := by
  unfold eE at *
  have hTypeOf := @run_callFunc_extern Tryd.prog 36 _ ReflectliteType.typeOf Tryd.func36 (by kernel_rfl) (by kernel_rfl) (by kernel_rfl) (by kernel_rfl)
  have hComp := Tryd.callComparable
  have mR := Tryd.isMethodComparable
  have tErrno := Tryd.typeOfErrno
  have nIsErrno := Tryd.noIsErrno
  have nUnwrapsErrno := Tryd.noUnwrapsErrno
  have nUnwrapErrno := Tryd.noUnwrapErrno
  have heq := Tryd.eqErrno
  go_enter Tryd.func21, Tryd.ntmps21
  go_wp2
  refine wp_loop_rounds 1 ?_
  rw [rounds_succ]
  go_wp2
  go_ret
  exact ⟨rfl, rfl⟩

theorem isE_other (n b : Int) (w : World) (hnb : (n == b) = false) :
    Calls Tryd.prog 21 #[eE n, eE b] w fun e w' => e = .returned (.bool false) ∧ w' = w := by
  unfold eE at *
  have hTypeOf := @run_callFunc_extern Tryd.prog 36 _ ReflectliteType.typeOf Tryd.func36 (by kernel_rfl) (by kernel_rfl) (by kernel_rfl) (by kernel_rfl)
  have hComp := Tryd.callComparable
  have mR := Tryd.isMethodComparable
  have tErrno := Tryd.typeOfErrno
  have nIsErrno := Tryd.noIsErrno
  have nUnwrapsErrno := Tryd.noUnwrapsErrno
  have nUnwrapErrno := Tryd.noUnwrapErrno
  have heq := Tryd.eqErrno
  go_enter Tryd.func21, Tryd.ntmps21
  go_wp2
  refine wp_loop_rounds 1 ?_
  rw [rounds_succ]
  go_wp2
  go_ret
  exact ⟨rfl, rfl⟩

theorem isFE_same (pb : Nat) (n b : Int) (w : World) (hnb : (n == b) = true) (hc : w.cell? ⟨pb, 2, none⟩ = some (eE n)) :
    Calls Tryd.prog 21 #[eF pb, eE b] w fun e w' => e = .returned (.bool true) ∧ w' = w := by
  unfold eE at *
  unfold eF
  have hTypeOf := @run_callFunc_extern Tryd.prog 36 _ ReflectliteType.typeOf Tryd.func36 (by kernel_rfl) (by kernel_rfl) (by kernel_rfl) (by kernel_rfl)
  have hComp := Tryd.callComparable
  have mR := Tryd.isMethodComparable
  have tFault := Tryd.typeOfFault
  have nIsFault := Tryd.noIsFault
  have nUnwrapsFault := Tryd.noUnwrapsFault
  have uFault := Tryd.hasUnwrapFault
  have mFault := Tryd.methodUnwrapFault
  have tErrno := Tryd.typeOfErrno
  have nIsErrno := Tryd.noIsErrno
  have nUnwrapsErrno := Tryd.noUnwrapsErrno
  have nUnwrapErrno := Tryd.noUnwrapErrno
  have heq := Tryd.eqErrno
  have hty := run_eql_iface_types (P := Tryd.prog) 86 52 (.pointer (some ⟨pb, 0, none⟩)) (.int .i64 b) Tryd.underlying34 (by decide) w
  go_enter Tryd.func21, Tryd.ntmps21
  go_wp2
  refine wp_loop_rounds 2 ?_
  rw [rounds_succ]
  go_wp2
  rw [rounds_succ]
  go_wp2
  go_ret
  exact ⟨rfl, rfl⟩

theorem isFE_other (pb : Nat) (n b : Int) (w : World) (hnb : (n == b) = false) (hc : w.cell? ⟨pb, 2, none⟩ = some (eE n)) :
    Calls Tryd.prog 21 #[eF pb, eE b] w fun e w' => e = .returned (.bool false) ∧ w' = w := by
  unfold eE at *
  unfold eF
  have hTypeOf := @run_callFunc_extern Tryd.prog 36 _ ReflectliteType.typeOf Tryd.func36 (by kernel_rfl) (by kernel_rfl) (by kernel_rfl) (by kernel_rfl)
  have hComp := Tryd.callComparable
  have mR := Tryd.isMethodComparable
  have tFault := Tryd.typeOfFault
  have nIsFault := Tryd.noIsFault
  have nUnwrapsFault := Tryd.noUnwrapsFault
  have uFault := Tryd.hasUnwrapFault
  have mFault := Tryd.methodUnwrapFault
  have tErrno := Tryd.typeOfErrno
  have nIsErrno := Tryd.noIsErrno
  have nUnwrapsErrno := Tryd.noUnwrapsErrno
  have nUnwrapErrno := Tryd.noUnwrapErrno
  have heq := Tryd.eqErrno
  have hty := run_eql_iface_types (P := Tryd.prog) 86 52 (.pointer (some ⟨pb, 0, none⟩)) (.int .i64 b) Tryd.underlying34 (by decide) w
  go_enter Tryd.func21, Tryd.ntmps21
  go_wp2
  refine wp_loop_rounds 2 ?_
  rw [rounds_succ]
  go_wp2
  rw [rounds_succ]
  go_wp2
  go_ret
  exact ⟨rfl, rfl⟩

theorem is_nil (b : Int) (w : World) :
    Calls Tryd.prog 21 #[.nilIface, eE b] w fun e w' => e = .returned (.bool false) ∧ w' = w := by
  unfold eE
  have hn := run_eql_iface_nil_left (P := Tryd.prog) w 52 (.int .i64 b) Tryd.underlying34
  go_enter Tryd.func21, Tryd.ntmps21
  go_wp2
  go_ret
  exact ⟨rfl, rfl⟩

theorem Tryd.methodKind (h : Value) (w : World) : (Go.method 248 91 (.agg #[h]) "Kind").run Tryd.prog w = .ok (64, h) w := by kernel_rfl
theorem Tryd.methodElem (h : Value) (w : World) : (Go.method 248 91 (.agg #[h]) "Elem").run Tryd.prog w = .ok (73, .agg #[h]) w := by kernel_rfl
theorem Tryd.methodImplements (h : Value) (w : World) : (Go.method 248 91 (.agg #[h]) "Implements").run Tryd.prog w = .ok (74, .agg #[h]) w := by kernel_rfl
theorem Tryd.methodAssignableTo (h : Value) (w : World) : (Go.method 248 91 (.agg #[h]) "AssignableTo").run Tryd.prog w = .ok (71, .agg #[h]) w := by kernel_rfl
theorem rlm (z : Sem Value) (f : TypeId → Addr → Nat → Nat → Sem Value) (v : Value) :
    ReflectliteValue.method z f #[v] = (do match ← ReflectliteValue.parts v with | none => z | some (t, a, fl) => f t a fl (fl % 32)) := rfl
theorem rls (v x : Value) : ReflectliteValue.set #[v, x] = (do
    let (some (dst, a, fl), some (src, b, _)) := (← ReflectliteValue.parts v, ← ReflectliteValue.parts x)
      | unsupported (.noEntry "extern/(internal/reflectlite.Value).Set.zeroValue")
    if fl / ReflectliteValue.flagAddr % 2 == 0 then unsupported (.noEntry "extern/(internal/reflectlite.Value).Set.unaddressable")
    let val ← loadVar src b
    if ← Rtype.directlyAssignable dst src then storeVar dst a val
    else if ← Rtype.implements dst src then
      if (← Rtype.kind src) == 20 then
        match val with
        | .nilIface => unsupported (.noEntry "extern/reflectlite: a nil value of one interface type handed on as a value of another")
        | _ => storeVar dst a val
      else storeVar dst a (.iface src val)
    else panicString ("reflectlite.Set: value of type " ++ (← Rtype.spelt src) ++ " is not assignable to type " ++ (← Rtype.spelt dst))
    pure (.tuple #[])) := rfl
theorem Tryd.kind52 (w : World) : ((ReflectliteType.abiMethod fun t => (fun a : Nat => Value.int IntKind.u8 (a : Int)) <$> Rtype.kind t) #[.pointer (some ⟨1, 52, none⟩)]).run Tryd.prog w = .ok (.int .u8 2) w := by kernel_rfl
theorem Tryd.kind86 (w : World) : ((ReflectliteType.abiMethod fun t => (fun a : Nat => Value.int IntKind.u8 (a : Int)) <$> Rtype.kind t) #[.pointer (some ⟨1, 86, none⟩)]).run Tryd.prog w = .ok (.int .u8 22) w := by kernel_rfl
theorem Tryd.kind103 (w : World) : ((ReflectliteType.abiMethod fun t => (fun a : Nat => Value.int IntKind.u8 (a : Int)) <$> Rtype.kind t) #[.pointer (some ⟨1, 103, none⟩)]).run Tryd.prog w = .ok (.int .u8 22) w := by kernel_rfl
theorem Tryd.valueOf103 (t : Addr) (w : World) : (ReflectliteValue.unpack (.iface 103 (.pointer (some t)))).run Tryd.prog w
    = .ok (.agg #[.pointer (some ⟨1, 103, none⟩), .pointer (some ⟨w.heap.size, 0, none⟩), .int .u64 150]) (w.alloc (.cells #[.pointer (some t)] 103)) := by kernel_rfl
theorem Tryd.type103 (a : Addr) (w : World) : (ReflectliteValue.methodAny (ReflectliteValue.valueError "reflectlite.Value.Type" 0) (fun t _ _ _ => ReflectliteType.toType t) #[.agg #[.pointer (some ⟨1, 103, none⟩), .pointer (some a), .int .u64 150]]).run Tryd.prog w
    = .ok (.iface 91 (.agg #[.pointer (some ⟨1, 103, none⟩)])) w := by kernel_rfl
theorem Tryd.parts103 (a : Addr) (w : World) : (ReflectliteValue.parts (.agg #[.pointer (some ⟨1, 103, none⟩), .pointer (some a), .int .u64 150])).run Tryd.prog w = .ok (some (103, a, 150)) w := by kernel_rfl
theorem Tryd.isNil103 (a p : Addr) (W : World) (ha : W.cell? a = some (.pointer (some p))) :
    (ReflectliteValue.method (ReflectliteValue.valueError "reflectlite.Value.IsNil" 0) ReflectliteValue.isNil #[.agg #[.pointer (some ⟨1, 103, none⟩), .pointer (some a), .int .u64 150]]).run Tryd.prog W = .ok (.bool false) W := by
  rw [rlm]
  simp only [Sem.run_bind, Tryd.parts103, Result.andThen]
  simp [ReflectliteValue.isNil, loadVar, isAgg, underlying, Tryd.underlying103, ha, Result.andThen]
theorem Tryd.elem103 (w : World) : (ReflectliteType.method ReflectliteType.elem #[.agg #[.pointer (some ⟨1, 103, none⟩)]]).run Tryd.prog w = .ok (.iface 91 (.agg #[.pointer (some ⟨1, 52, none⟩)])) w := by kernel_rfl
theorem Tryd.implements52 (w : World) : (ReflectliteType.relation "Implements" ReflectliteType.implements_ #[.agg #[.pointer (some ⟨1, 52, none⟩)], .iface 91 (.agg #[.pointer (some ⟨1, 34, none⟩)])]).run Tryd.prog w = .ok (.bool true) w := by kernel_rfl
theorem Tryd.elemOf103 (w : World) : (Rtype.elem? 103).run Tryd.prog w = .ok (some 52) w := by kernel_rfl
theorem Tryd.mk52 (p : Addr) (w : World) : (ReflectliteValue.mk 52 p ReflectliteValue.flagAddr).run Tryd.prog w = .ok (.agg #[.pointer (some ⟨1, 52, none⟩), .pointer (some p), .int .u64 386]) w := by kernel_rfl
theorem Tryd.elemV103 (a p : Addr) (W : World) (ha : W.cell? a = some (.pointer (some p))) :
    (ReflectliteValue.method (ReflectliteValue.valueError "reflectlite.Value.Elem" 0) ReflectliteValue.elem #[.agg #[.pointer (some ⟨1, 103, none⟩), .pointer (some a), .int .u64 150]]).run Tryd.prog W
      = .ok (.agg #[.pointer (some ⟨1, 52, none⟩), .pointer (some p), .int .u64 386]) W := by
  rw [rlm]
  simp only [Sem.run_bind, Tryd.parts103, Result.andThen]
  simp [ReflectliteValue.elem, loadVar, isAgg, underlying, Tryd.underlying103, ha, Result.andThen, Tryd.elemOf103, Tryd.mk52]
theorem Tryd.valueOf52 (n : Int) (w : World) : (ReflectliteValue.unpack (.iface 52 (.int .i64 n))).run Tryd.prog w
    = .ok (.agg #[.pointer (some ⟨1, 52, none⟩), .pointer (some ⟨w.heap.size, 0, none⟩), .int .u64 130]) (w.alloc (.cells #[.int .i64 n] 52)) := by kernel_rfl
theorem Tryd.parts52a (a : Addr) (w : World) : (ReflectliteValue.parts (.agg #[.pointer (some ⟨1, 52, none⟩), .pointer (some a), .int .u64 386])).run Tryd.prog w = .ok (some (52, a, 386)) w := by kernel_rfl
theorem Tryd.parts52b (a : Addr) (w : World) : (ReflectliteValue.parts (.agg #[.pointer (some ⟨1, 52, none⟩), .pointer (some a), .int .u64 130])).run Tryd.prog w = .ok (some (52, a, 130)) w := by kernel_rfl
theorem Tryd.direct52 (w : World) : (Rtype.directlyAssignable 52 52).run Tryd.prog w = .ok true w := by kernel_rfl
theorem Tryd.set52 (ta b : Addr) (n : Int) (old : Value) (W : World) (hb : W.cell? b = some (.int .i64 n)) (ht : W.cell? ta = some old) (hf : W.frozen? ta = false) :
    (ReflectliteValue.set #[.agg #[.pointer (some ⟨1, 52, none⟩), .pointer (some ta), .int .u64 386], .agg #[.pointer (some ⟨1, 52, none⟩), .pointer (some b), .int .u64 130]]).run Tryd.prog W
      = .ok (.tuple #[]) (W.setCell ta (.int .i64 n)) := by
  rw [rls]
  simp only [Sem.run_bind, Tryd.parts52a, Tryd.parts52b, Result.andThen]
  simp [ReflectliteValue.flagAddr, loadVar, isAgg, underlying, Tryd.underlying52, hb, Result.andThen, Tryd.direct52, storeVar, Value.cells, storeCells, Addr.add]
  rw [run_store Tryd.prog W ta _ _ (by rfl)]
  simp [ht, hf]
theorem Tryd.assignable52to52 (w : World) : (ReflectliteType.relation "AssignableTo" ReflectliteType.assignableTo #[.agg #[.pointer (some ⟨1, 52, none⟩)], .iface 91 (.agg #[.pointer (some ⟨1, 52, none⟩)])]).run Tryd.prog w = .ok (.bool true) w := by kernel_rfl
theorem Tryd.assignable86to52 (w : World) : (ReflectliteType.relation "AssignableTo" ReflectliteType.assignableTo #[.agg #[.pointer (some ⟨1, 86, none⟩)], .iface 91 (.agg #[.pointer (some ⟨1, 52, none⟩)])]).run Tryd.prog w = .ok (.bool false) w := by kernel_rfl
theorem Tryd.kind102 (w : World) : ((ReflectliteType.abiMethod fun t => (fun a : Nat => Value.int IntKind.u8 (a : Int)) <$> Rtype.kind t) #[.pointer (some ⟨1, 102, none⟩)]).run Tryd.prog w = .ok (.int .u8 22) w := by kernel_rfl
theorem Tryd.valueOf102 (t : Addr) (w : World) : (ReflectliteValue.unpack (.iface 102 (.pointer (some t)))).run Tryd.prog w
    = .ok (.agg #[.pointer (some ⟨1, 102, none⟩), .pointer (some ⟨w.heap.size, 0, none⟩), .int .u64 150]) (w.alloc (.cells #[.pointer (some t)] 102)) := by kernel_rfl
theorem Tryd.type102 (a : Addr) (w : World) : (ReflectliteValue.methodAny (ReflectliteValue.valueError "reflectlite.Value.Type" 0) (fun t _ _ _ => ReflectliteType.toType t) #[.agg #[.pointer (some ⟨1, 102, none⟩), .pointer (some a), .int .u64 150]]).run Tryd.prog w
    = .ok (.iface 91 (.agg #[.pointer (some ⟨1, 102, none⟩)])) w := by kernel_rfl
theorem Tryd.parts102 (a : Addr) (w : World) : (ReflectliteValue.parts (.agg #[.pointer (some ⟨1, 102, none⟩), .pointer (some a), .int .u64 150])).run Tryd.prog w = .ok (some (102, a, 150)) w := by kernel_rfl
theorem Tryd.isNil102 (a p : Addr) (W : World) (ha : W.cell? a = some (.pointer (some p))) :
    (ReflectliteValue.method (ReflectliteValue.valueError "reflectlite.Value.IsNil" 0) ReflectliteValue.isNil #[.agg #[.pointer (some ⟨1, 102, none⟩), .pointer (some a), .int .u64 150]]).run Tryd.prog W = .ok (.bool false) W := by
  rw [rlm]
  simp only [Sem.run_bind, Tryd.parts102, Result.andThen]
  simp [ReflectliteValue.isNil, loadVar, isAgg, underlying, Tryd.underlying102, ha, Result.andThen]
theorem Tryd.elem102 (w : World) : (ReflectliteType.method ReflectliteType.elem #[.agg #[.pointer (some ⟨1, 102, none⟩)]]).run Tryd.prog w = .ok (.iface 91 (.agg #[.pointer (some ⟨1, 86, none⟩)])) w := by kernel_rfl
theorem Tryd.implements86 (w : World) : (ReflectliteType.relation "Implements" ReflectliteType.implements_ #[.agg #[.pointer (some ⟨1, 86, none⟩)], .iface 91 (.agg #[.pointer (some ⟨1, 34, none⟩)])]).run Tryd.prog w = .ok (.bool true) w := by kernel_rfl
theorem Tryd.elemOf102 (w : World) : (Rtype.elem? 102).run Tryd.prog w = .ok (some 86) w := by kernel_rfl
theorem Tryd.mk86 (p : Addr) (w : World) : (ReflectliteValue.mk 86 p ReflectliteValue.flagAddr).run Tryd.prog w = .ok (.agg #[.pointer (some ⟨1, 86, none⟩), .pointer (some p), .int .u64 406]) w := by kernel_rfl
theorem Tryd.elemV102 (a p : Addr) (W : World) (ha : W.cell? a = some (.pointer (some p))) :
    (ReflectliteValue.method (ReflectliteValue.valueError "reflectlite.Value.Elem" 0) ReflectliteValue.elem #[.agg #[.pointer (some ⟨1, 102, none⟩), .pointer (some a), .int .u64 150]]).run Tryd.prog W
      = .ok (.agg #[.pointer (some ⟨1, 86, none⟩), .pointer (some p), .int .u64 406]) W := by
  rw [rlm]
  simp only [Sem.run_bind, Tryd.parts102, Result.andThen]
  simp [ReflectliteValue.elem, loadVar, isAgg, underlying, Tryd.underlying102, ha, Result.andThen, Tryd.elemOf102, Tryd.mk86]
theorem Tryd.valueOf86 (e : Addr) (w : World) : (ReflectliteValue.unpack (.iface 86 (.pointer (some e)))).run Tryd.prog w
    = .ok (.agg #[.pointer (some ⟨1, 86, none⟩), .pointer (some ⟨w.heap.size, 0, none⟩), .int .u64 150]) (w.alloc (.cells #[.pointer (some e)] 86)) := by kernel_rfl
theorem Tryd.parts86a (a : Addr) (w : World) : (ReflectliteValue.parts (.agg #[.pointer (some ⟨1, 86, none⟩), .pointer (some a), .int .u64 406])).run Tryd.prog w = .ok (some (86, a, 406)) w := by kernel_rfl
theorem Tryd.parts86b (a : Addr) (w : World) : (ReflectliteValue.parts (.agg #[.pointer (some ⟨1, 86, none⟩), .pointer (some a), .int .u64 150])).run Tryd.prog w = .ok (some (86, a, 150)) w := by kernel_rfl
theorem Tryd.direct86 (w : World) : (Rtype.directlyAssignable 86 86).run Tryd.prog w = .ok true w := by kernel_rfl
theorem Tryd.set86 (ta b : Addr) (e : Addr) (old : Value) (W : World) (hb : W.cell? b = some (.pointer (some e))) (ht : W.cell? ta = some old) (hf : W.frozen? ta = false) :
    (ReflectliteValue.set #[.agg #[.pointer (some ⟨1, 86, none⟩), .pointer (some ta), .int .u64 406], .agg #[.pointer (some ⟨1, 86, none⟩), .pointer (some b), .int .u64 150]]).run Tryd.prog W
      = .ok (.tuple #[]) (W.setCell ta (.pointer (some e))) := by
  rw [rls]
  simp only [Sem.run_bind, Tryd.parts86a, Tryd.parts86b, Result.andThen]
  simp [ReflectliteValue.flagAddr, loadVar, isAgg, underlying, Tryd.underlying86, hb, Result.andThen, Tryd.direct86, storeVar, Value.cells, storeCells, Addr.add]
  rw [run_store Tryd.prog W ta _ _ (by rfl)]
  simp [ht, hf]
theorem Tryd.assignable52to86 (w : World) : (ReflectliteType.relation "AssignableTo" ReflectliteType.assignableTo #[.agg #[.pointer (some ⟨1, 52, none⟩)], .iface 91 (.agg #[.pointer (some ⟨1, 86, none⟩)])]).run Tryd.prog w = .ok (.bool false) w := by kernel_rfl
theorem Tryd.assignable86to86 (w : World) : (ReflectliteType.relation "AssignableTo" ReflectliteType.assignableTo #[.agg #[.pointer (some ⟨1, 86, none⟩)], .iface 91 (.agg #[.pointer (some ⟨1, 86, none⟩)])]).run Tryd.prog w = .ok (.bool true) w := by kernel_rfl

theorem as_nil (t : Value) (w : World) :
    Calls Tryd.prog 43 #[.nilIface, t] w fun e w' => e = .returned (.bool false) ∧ w' = w := by
  go_enter Tryd.func43, Tryd.ntmps43
  go_wp2
  go_ret
  exact ⟨rfl, rfl⟩

/-- The world behind errors.As's own boxes, at a target of this type. -/
abbrev asWErrno (t : Addr) (w : World) : World := ((w.alloc (.cells #[.pointer (some t)] 103)).alloc (.cells #[.pointer (some ⟨1, 103, none⟩), .pointer (some ⟨w.heap.size, 0, none⟩), .int .u64 150] 107)).alloc (.cells #[.pointer (some ⟨1, 103, none⟩), .pointer (some ⟨w.heap.size, 0, none⟩), .int .u64 150] 107)

set_option maxHeartbeats 4000000 in
theorem asErrno_E (n : Int) (t : Addr) (old : Value) (w : World) (hg0 : Hg w) (ht0 : w.cell? t = some old) (hf0 : w.frozen? t = false) :
    Calls Tryd.prog 43 #[eE n, .iface 103 (.pointer (some t))] w fun ev w' => ev = .returned (.bool true) ∧ w' = (((asWErrno t w).alloc (.cells #[.int .i64 n] 52)).setCell t (.int .i64 n)) := by
  unfold eE at *
  have hg := hg0; unfold Hg at hg; have hlt := hg0.lt; clear hg0
  have h44 := @run_callFunc_extern Tryd.prog 44 _ (fun args => ReflectliteValue.unpack (args.getD 0 (.tuple #[]))) Tryd.func44 (by kernel_rfl) (by kernel_rfl) (by kernel_rfl) (by kernel_rfl)
  have h45 := @run_callFunc_extern Tryd.prog 45 _ (ReflectliteValue.methodAny (ReflectliteValue.valueError "reflectlite.Value.Type" 0) (fun t _ _ _ => ReflectliteType.toType t)) Tryd.func45 (by kernel_rfl) (by kernel_rfl) (by kernel_rfl) (by kernel_rfl)
  have h46 := @run_callFunc_extern Tryd.prog 46 _ (ReflectliteValue.method (ReflectliteValue.valueError "reflectlite.Value.IsNil" 0) ReflectliteValue.isNil) Tryd.func46 (by kernel_rfl) (by kernel_rfl) (by kernel_rfl) (by kernel_rfl)
  have h64 := @run_callFunc_extern Tryd.prog 64 _ (ReflectliteType.abiMethod fun t => do pure (.int .u8 (← Rtype.kind t))) Tryd.func64 (by kernel_rfl) (by kernel_rfl) (by kernel_rfl) (by kernel_rfl)
  have h73 := @run_callFunc_extern Tryd.prog 73 _ (ReflectliteType.method ReflectliteType.elem) Tryd.func73 (by kernel_rfl) (by kernel_rfl) (by kernel_rfl) (by kernel_rfl)
  have h74 := @run_callFunc_extern Tryd.prog 74 _ (ReflectliteType.relation "Implements" ReflectliteType.implements_) Tryd.func74 (by kernel_rfl) (by kernel_rfl) (by kernel_rfl) (by kernel_rfl)
  have hTypeOf := @run_callFunc_extern Tryd.prog 36 _ ReflectliteType.typeOf Tryd.func36 (by kernel_rfl) (by kernel_rfl) (by kernel_rfl) (by kernel_rfl)
  have h71 := @run_callFunc_extern Tryd.prog 71 _ (ReflectliteType.relation "AssignableTo" ReflectliteType.assignableTo) Tryd.func71 (by kernel_rfl) (by kernel_rfl) (by kernel_rfl) (by kernel_rfl)
  have h48 := @run_callFunc_extern Tryd.prog 48 _ (ReflectliteValue.method (ReflectliteValue.valueError "reflectlite.Value.Elem" 0) ReflectliteValue.elem) Tryd.func48 (by kernel_rfl) (by kernel_rfl) (by kernel_rfl) (by kernel_rfl)
  have h49 := @run_callFunc_extern Tryd.prog 49 _ ReflectliteValue.set Tryd.func49 (by kernel_rfl) (by kernel_rfl) (by kernel_rfl) (by kernel_rfl)
  have tErrno := Tryd.typeOfErrno
  have nAsErrno := Tryd.noAsErrno
  have nUnwrapsErrno := Tryd.noUnwrapsErrno
  have nUnwrapErrno := Tryd.noUnwrapErrno
  have aErrno := Tryd.assignable52to52
  have mA := Tryd.methodAssignableTo
  have f6 := Tryd.valueOf103
  have f7 := Tryd.type103
  have mK := Tryd.methodKind
  have mE := Tryd.methodElem
  have mI := Tryd.methodImplements
  have kP := Tryd.kind103
  have kT := Tryd.kind52
  have eP := Tryd.elem103
  have iT := Tryd.implements52
  have n8 := Tryd.isNil103 ⟨w.heap.size, 0, none⟩ t ((w.alloc (.cells #[.pointer (some t)] 103)).alloc (.cells #[.pointer (some ⟨1, 103, none⟩), .pointer (some ⟨w.heap.size, 0, none⟩), .int .u64 150] 107)) (by simp)
  have hg2 : ((w.alloc (.cells #[.pointer (some t)] 103)).alloc (.cells #[.pointer (some ⟨1, 103, none⟩), .pointer (some ⟨w.heap.size, 0, none⟩), .int .u64 150] 107)).cell? ⟨0, 0, none⟩ = some (.iface 91 (.agg #[.pointer (some ⟨1, 34, none⟩)])) := by
    rw [World.cell?_alloc_lt _ _ ⟨0, 0, none⟩ (by simp <;> omega), World.cell?_alloc_lt _ _ ⟨0, 0, none⟩ hlt]; exact hg
  have vT := Tryd.valueOf52
  have htl : t.block < w.heap.size := World.block_lt_of_cell? _ _ ht0
  have el := Tryd.elemV103 ⟨w.heap.size, 0, none⟩ t (((w.alloc (.cells #[.pointer (some t)] 103)).alloc (.cells #[.pointer (some ⟨1, 103, none⟩), .pointer (some ⟨w.heap.size, 0, none⟩), .int .u64 150] 107)).alloc (.cells #[.pointer (some ⟨1, 103, none⟩), .pointer (some ⟨w.heap.size, 0, none⟩), .int .u64 150] 107)) (by rw [World.cell?_alloc_lt _ _ ⟨w.heap.size, 0, none⟩ (by simp <;> omega)]; simp)
  have st := Tryd.set52 t ⟨w.heap.size + 1 + 1 + 1, 0, none⟩ n old ((((w.alloc (.cells #[.pointer (some t)] 103)).alloc (.cells #[.pointer (some ⟨1, 103, none⟩), .pointer (some ⟨w.heap.size, 0, none⟩), .int .u64 150] 107)).alloc (.cells #[.pointer (some ⟨1, 103, none⟩), .pointer (some ⟨w.heap.size, 0, none⟩), .int .u64 150] 107)).alloc (.cells #[.int .i64 n] 52))
    (by rw [World.cell?_alloc_at _ _ _ _ (by simp)]; rfl)
    (by rw [World.cell?_alloc_lt _ _ t (by simp <;> omega), World.cell?_alloc_lt _ _ t (by simp <;> omega), World.cell?_alloc_lt _ _ t (by simp <;> omega), World.cell?_alloc_lt _ _ t htl]; exact ht0)
    (by rw [World.frozen?_alloc_old _ _ t (by simp <;> omega), World.frozen?_alloc_old _ _ t (by simp <;> omega), World.frozen?_alloc_old _ _ t (by simp <;> omega), World.frozen?_alloc_old _ _ t (Nat.ne_of_lt htl)]; exact hf0)
  go_enter Tryd.func43, Tryd.ntmps43
  go_wp2
  refine wp_loop_rounds 1 ?_
  rw [rounds_succ]
  go_wp2
  go_ret
  exact ⟨rfl, rfl⟩

set_option maxHeartbeats 4000000 in
theorem asErrno_FE (pb : Nat) (n : Int) (t : Addr) (old : Value) (w : World) (hg0 : Hg w) (ht0 : w.cell? t = some old) (hf0 : w.frozen? t = false) (hc : w.cell? ⟨pb, 2, none⟩ = some (eE n)) :
    Calls Tryd.prog 43 #[eF pb, .iface 103 (.pointer (some t))] w fun ev w' => ev = .returned (.bool true) ∧ w' = (((asWErrno t w).alloc (.cells #[.int .i64 n] 52)).setCell t (.int .i64 n)) := by
  unfold eE at *
  unfold eF
  have hg := hg0; unfold Hg at hg; have hlt := hg0.lt; clear hg0
  have h44 := @run_callFunc_extern Tryd.prog 44 _ (fun args => ReflectliteValue.unpack (args.getD 0 (.tuple #[]))) Tryd.func44 (by kernel_rfl) (by kernel_rfl) (by kernel_rfl) (by kernel_rfl)
  have h45 := @run_callFunc_extern Tryd.prog 45 _ (ReflectliteValue.methodAny (ReflectliteValue.valueError "reflectlite.Value.Type" 0) (fun t _ _ _ => ReflectliteType.toType t)) Tryd.func45 (by kernel_rfl) (by kernel_rfl) (by kernel_rfl) (by kernel_rfl)
  have h46 := @run_callFunc_extern Tryd.prog 46 _ (ReflectliteValue.method (ReflectliteValue.valueError "reflectlite.Value.IsNil" 0) ReflectliteValue.isNil) Tryd.func46 (by kernel_rfl) (by kernel_rfl) (by kernel_rfl) (by kernel_rfl)
  have h64 := @run_callFunc_extern Tryd.prog 64 _ (ReflectliteType.abiMethod fun t => do pure (.int .u8 (← Rtype.kind t))) Tryd.func64 (by kernel_rfl) (by kernel_rfl) (by kernel_rfl) (by kernel_rfl)
  have h73 := @run_callFunc_extern Tryd.prog 73 _ (ReflectliteType.method ReflectliteType.elem) Tryd.func73 (by kernel_rfl) (by kernel_rfl) (by kernel_rfl) (by kernel_rfl)
  have h74 := @run_callFunc_extern Tryd.prog 74 _ (ReflectliteType.relation "Implements" ReflectliteType.implements_) Tryd.func74 (by kernel_rfl) (by kernel_rfl) (by kernel_rfl) (by kernel_rfl)
  have hTypeOf := @run_callFunc_extern Tryd.prog 36 _ ReflectliteType.typeOf Tryd.func36 (by kernel_rfl) (by kernel_rfl) (by kernel_rfl) (by kernel_rfl)
  have h71 := @run_callFunc_extern Tryd.prog 71 _ (ReflectliteType.relation "AssignableTo" ReflectliteType.assignableTo) Tryd.func71 (by kernel_rfl) (by kernel_rfl) (by kernel_rfl) (by kernel_rfl)
  have h48 := @run_callFunc_extern Tryd.prog 48 _ (ReflectliteValue.method (ReflectliteValue.valueError "reflectlite.Value.Elem" 0) ReflectliteValue.elem) Tryd.func48 (by kernel_rfl) (by kernel_rfl) (by kernel_rfl) (by kernel_rfl)
  have h49 := @run_callFunc_extern Tryd.prog 49 _ ReflectliteValue.set Tryd.func49 (by kernel_rfl) (by kernel_rfl) (by kernel_rfl) (by kernel_rfl)
  have tFault := Tryd.typeOfFault
  have nAsFault := Tryd.noAsFault
  have nUnwrapsFault := Tryd.noUnwrapsFault
  have uFault := Tryd.hasUnwrapFault
  have mFault := Tryd.methodUnwrapFault
  have tErrno := Tryd.typeOfErrno
  have nAsErrno := Tryd.noAsErrno
  have nUnwrapsErrno := Tryd.noUnwrapsErrno
  have nUnwrapErrno := Tryd.noUnwrapErrno
  have aFault := Tryd.assignable86to52
  have aErrno := Tryd.assignable52to52
  have mA := Tryd.methodAssignableTo
  have f6 := Tryd.valueOf103
  have f7 := Tryd.type103
  have mK := Tryd.methodKind
  have mE := Tryd.methodElem
  have mI := Tryd.methodImplements
  have kP := Tryd.kind103
  have kT := Tryd.kind52
  have eP := Tryd.elem103
  have iT := Tryd.implements52
  have n8 := Tryd.isNil103 ⟨w.heap.size, 0, none⟩ t ((w.alloc (.cells #[.pointer (some t)] 103)).alloc (.cells #[.pointer (some ⟨1, 103, none⟩), .pointer (some ⟨w.heap.size, 0, none⟩), .int .u64 150] 107)) (by simp)
  have hg2 : ((w.alloc (.cells #[.pointer (some t)] 103)).alloc (.cells #[.pointer (some ⟨1, 103, none⟩), .pointer (some ⟨w.heap.size, 0, none⟩), .int .u64 150] 107)).cell? ⟨0, 0, none⟩ = some (.iface 91 (.agg #[.pointer (some ⟨1, 34, none⟩)])) := by
    rw [World.cell?_alloc_lt _ _ ⟨0, 0, none⟩ (by simp <;> omega), World.cell?_alloc_lt _ _ ⟨0, 0, none⟩ hlt]; exact hg
  have hpl : pb < w.heap.size := World.block_lt_of_cell? _ _ hc
  have hc3 : (((w.alloc (.cells #[.pointer (some t)] 103)).alloc (.cells #[.pointer (some ⟨1, 103, none⟩), .pointer (some ⟨w.heap.size, 0, none⟩), .int .u64 150] 107)).alloc (.cells #[.pointer (some ⟨1, 103, none⟩), .pointer (some ⟨w.heap.size, 0, none⟩), .int .u64 150] 107)).cell? ⟨pb, 2, none⟩ = some (.iface 52 (.int .i64 n)) := by
    rw [World.cell?_alloc_lt _ _ ⟨pb, 2, none⟩ (by simp <;> omega), World.cell?_alloc_lt _ _ ⟨pb, 2, none⟩ (by simp <;> omega), World.cell?_alloc_lt _ _ ⟨pb, 2, none⟩ hpl]; exact hc
  have vT := Tryd.valueOf52
  have htl : t.block < w.heap.size := World.block_lt_of_cell? _ _ ht0
  have el := Tryd.elemV103 ⟨w.heap.size, 0, none⟩ t (((w.alloc (.cells #[.pointer (some t)] 103)).alloc (.cells #[.pointer (some ⟨1, 103, none⟩), .pointer (some ⟨w.heap.size, 0, none⟩), .int .u64 150] 107)).alloc (.cells #[.pointer (some ⟨1, 103, none⟩), .pointer (some ⟨w.heap.size, 0, none⟩), .int .u64 150] 107)) (by rw [World.cell?_alloc_lt _ _ ⟨w.heap.size, 0, none⟩ (by simp <;> omega)]; simp)
  have st := Tryd.set52 t ⟨w.heap.size + 1 + 1 + 1, 0, none⟩ n old ((((w.alloc (.cells #[.pointer (some t)] 103)).alloc (.cells #[.pointer (some ⟨1, 103, none⟩), .pointer (some ⟨w.heap.size, 0, none⟩), .int .u64 150] 107)).alloc (.cells #[.pointer (some ⟨1, 103, none⟩), .pointer (some ⟨w.heap.size, 0, none⟩), .int .u64 150] 107)).alloc (.cells #[.int .i64 n] 52))
    (by rw [World.cell?_alloc_at _ _ _ _ (by simp)]; rfl)
    (by rw [World.cell?_alloc_lt _ _ t (by simp <;> omega), World.cell?_alloc_lt _ _ t (by simp <;> omega), World.cell?_alloc_lt _ _ t (by simp <;> omega), World.cell?_alloc_lt _ _ t htl]; exact ht0)
    (by rw [World.frozen?_alloc_old _ _ t (by simp <;> omega), World.frozen?_alloc_old _ _ t (by simp <;> omega), World.frozen?_alloc_old _ _ t (by simp <;> omega), World.frozen?_alloc_old _ _ t (Nat.ne_of_lt htl)]; exact hf0)
  go_enter Tryd.func43, Tryd.ntmps43
  go_wp2
  refine wp_loop_rounds 2 ?_
  rw [rounds_succ]
  go_wp2
  rw [rounds_succ]
  go_wp2
  go_ret
  exact ⟨rfl, rfl⟩

/-- The world behind errors.As's own boxes, at a target of this type. -/
abbrev asWFault (t : Addr) (w : World) : World := ((w.alloc (.cells #[.pointer (some t)] 102)).alloc (.cells #[.pointer (some ⟨1, 102, none⟩), .pointer (some ⟨w.heap.size, 0, none⟩), .int .u64 150] 107)).alloc (.cells #[.pointer (some ⟨1, 102, none⟩), .pointer (some ⟨w.heap.size, 0, none⟩), .int .u64 150] 107)

set_option maxHeartbeats 4000000 in
theorem asFault_E (n : Int) (t : Addr) (w : World) (hg0 : Hg w) :
    Calls Tryd.prog 43 #[eE n, .iface 102 (.pointer (some t))] w fun ev w' => ev = .returned (.bool false) ∧ w' = asWFault t w := by
  unfold eE at *
  have hg := hg0; unfold Hg at hg; have hlt := hg0.lt; clear hg0
  have h44 := @run_callFunc_extern Tryd.prog 44 _ (fun args => ReflectliteValue.unpack (args.getD 0 (.tuple #[]))) Tryd.func44 (by kernel_rfl) (by kernel_rfl) (by kernel_rfl) (by kernel_rfl)
  have h45 := @run_callFunc_extern Tryd.prog 45 _ (ReflectliteValue.methodAny (ReflectliteValue.valueError "reflectlite.Value.Type" 0) (fun t _ _ _ => ReflectliteType.toType t)) Tryd.func45 (by kernel_rfl) (by kernel_rfl) (by kernel_rfl) (by kernel_rfl)
  have h46 := @run_callFunc_extern Tryd.prog 46 _ (ReflectliteValue.method (ReflectliteValue.valueError "reflectlite.Value.IsNil" 0) ReflectliteValue.isNil) Tryd.func46 (by kernel_rfl) (by kernel_rfl) (by kernel_rfl) (by kernel_rfl)
  have h64 := @run_callFunc_extern Tryd.prog 64 _ (ReflectliteType.abiMethod fun t => do pure (.int .u8 (← Rtype.kind t))) Tryd.func64 (by kernel_rfl) (by kernel_rfl) (by kernel_rfl) (by kernel_rfl)
  have h73 := @run_callFunc_extern Tryd.prog 73 _ (ReflectliteType.method ReflectliteType.elem) Tryd.func73 (by kernel_rfl) (by kernel_rfl) (by kernel_rfl) (by kernel_rfl)
  have h74 := @run_callFunc_extern Tryd.prog 74 _ (ReflectliteType.relation "Implements" ReflectliteType.implements_) Tryd.func74 (by kernel_rfl) (by kernel_rfl) (by kernel_rfl) (by kernel_rfl)
  have hTypeOf := @run_callFunc_extern Tryd.prog 36 _ ReflectliteType.typeOf Tryd.func36 (by kernel_rfl) (by kernel_rfl) (by kernel_rfl) (by kernel_rfl)
  have h71 := @run_callFunc_extern Tryd.prog 71 _ (ReflectliteType.relation "AssignableTo" ReflectliteType.assignableTo) Tryd.func71 (by kernel_rfl) (by kernel_rfl) (by kernel_rfl) (by kernel_rfl)
  have h48 := @run_callFunc_extern Tryd.prog 48 _ (ReflectliteValue.method (ReflectliteValue.valueError "reflectlite.Value.Elem" 0) ReflectliteValue.elem) Tryd.func48 (by kernel_rfl) (by kernel_rfl) (by kernel_rfl) (by kernel_rfl)
  have h49 := @run_callFunc_extern Tryd.prog 49 _ ReflectliteValue.set Tryd.func49 (by kernel_rfl) (by kernel_rfl) (by kernel_rfl) (by kernel_rfl)
  have tErrno := Tryd.typeOfErrno
  have nAsErrno := Tryd.noAsErrno
  have nUnwrapsErrno := Tryd.noUnwrapsErrno
  have nUnwrapErrno := Tryd.noUnwrapErrno
  have ttE := Tryd.typeOfErrno
  have aErrno := Tryd.assignable52to86
  have mA := Tryd.methodAssignableTo
  have f6 := Tryd.valueOf102
  have f7 := Tryd.type102
  have mK := Tryd.methodKind
  have mE := Tryd.methodElem
  have mI := Tryd.methodImplements
  have kP := Tryd.kind102
  have kT := Tryd.kind86
  have eP := Tryd.elem102
  have iT := Tryd.implements86
  have n8 := Tryd.isNil102 ⟨w.heap.size, 0, none⟩ t ((w.alloc (.cells #[.pointer (some t)] 102)).alloc (.cells #[.pointer (some ⟨1, 102, none⟩), .pointer (some ⟨w.heap.size, 0, none⟩), .int .u64 150] 107)) (by simp)
  have hg2 : ((w.alloc (.cells #[.pointer (some t)] 102)).alloc (.cells #[.pointer (some ⟨1, 102, none⟩), .pointer (some ⟨w.heap.size, 0, none⟩), .int .u64 150] 107)).cell? ⟨0, 0, none⟩ = some (.iface 91 (.agg #[.pointer (some ⟨1, 34, none⟩)])) := by
    rw [World.cell?_alloc_lt _ _ ⟨0, 0, none⟩ (by simp <;> omega), World.cell?_alloc_lt _ _ ⟨0, 0, none⟩ hlt]; exact hg
  go_enter Tryd.func43, Tryd.ntmps43
  go_wp2
  refine wp_loop_rounds 1 ?_
  rw [rounds_succ]
  go_wp2
  go_ret
  exact ⟨rfl, rfl⟩

set_option maxHeartbeats 4000000 in
theorem asFault_FE (pb : Nat) (t : Addr) (old : Value) (w : World) (hg0 : Hg w) (ht0 : w.cell? t = some old) (hf0 : w.frozen? t = false) :
    Calls Tryd.prog 43 #[eF pb, .iface 102 (.pointer (some t))] w fun ev w' => ev = .returned (.bool true) ∧ w' = (((asWFault t w).alloc (.cells #[.pointer (some ⟨pb, 0, none⟩)] 86)).setCell t (.pointer (some ⟨pb, 0, none⟩))) := by
  skip
  unfold eF
  have hg := hg0; unfold Hg at hg; have hlt := hg0.lt; clear hg0
  have h44 := @run_callFunc_extern Tryd.prog 44 _ (fun args => ReflectliteValue.unpack (args.getD 0 (.tuple #[]))) Tryd.func44 (by kernel_rfl) (by kernel_rfl) (by kernel_rfl) (by kernel_rfl)
  have h45 := @run_callFunc_extern Tryd.prog 45 _ (ReflectliteValue.methodAny (ReflectliteValue.valueError "reflectlite.Value.Type" 0) (fun t _ _ _ => ReflectliteType.toType t)) Tryd.func45 (by kernel_rfl) (by kernel_rfl) (by kernel_rfl) (by kernel_rfl)
  have h46 := @run_callFunc_extern Tryd.prog 46 _ (ReflectliteValue.method (ReflectliteValue.valueError "reflectlite.Value.IsNil" 0) ReflectliteValue.isNil) Tryd.func46 (by kernel_rfl) (by kernel_rfl) (by kernel_rfl) (by kernel_rfl)
  have h64 := @run_callFunc_extern Tryd.prog 64 _ (ReflectliteType.abiMethod fun t => do pure (.int .u8 (← Rtype.kind t))) Tryd.func64 (by kernel_rfl) (by kernel_rfl) (by kernel_rfl) (by kernel_rfl)
  have h73 := @run_callFunc_extern Tryd.prog 73 _ (ReflectliteType.method ReflectliteType.elem) Tryd.func73 (by kernel_rfl) (by kernel_rfl) (by kernel_rfl) (by kernel_rfl)
  have h74 := @run_callFunc_extern Tryd.prog 74 _ (ReflectliteType.relation "Implements" ReflectliteType.implements_) Tryd.func74 (by kernel_rfl) (by kernel_rfl) (by kernel_rfl) (by kernel_rfl)
  have hTypeOf := @run_callFunc_extern Tryd.prog 36 _ ReflectliteType.typeOf Tryd.func36 (by kernel_rfl) (by kernel_rfl) (by kernel_rfl) (by kernel_rfl)
  have h71 := @run_callFunc_extern Tryd.prog 71 _ (ReflectliteType.relation "AssignableTo" ReflectliteType.assignableTo) Tryd.func71 (by kernel_rfl) (by kernel_rfl) (by kernel_rfl) (by kernel_rfl)
  have h48 := @run_callFunc_extern Tryd.prog 48 _ (ReflectliteValue.method (ReflectliteValue.valueError "reflectlite.Value.Elem" 0) ReflectliteValue.elem) Tryd.func48 (by kernel_rfl) (by kernel_rfl) (by kernel_rfl) (by kernel_rfl)
  have h49 := @run_callFunc_extern Tryd.prog 49 _ ReflectliteValue.set Tryd.func49 (by kernel_rfl) (by kernel_rfl) (by kernel_rfl) (by kernel_rfl)
  have tFault := Tryd.typeOfFault
  have nAsFault := Tryd.noAsFault
  have nUnwrapsFault := Tryd.noUnwrapsFault
  have uFault := Tryd.hasUnwrapFault
  have mFault := Tryd.methodUnwrapFault
  have aFault := Tryd.assignable86to86
  have mA := Tryd.methodAssignableTo
  have f6 := Tryd.valueOf102
  have f7 := Tryd.type102
  have mK := Tryd.methodKind
  have mE := Tryd.methodElem
  have mI := Tryd.methodImplements
  have kP := Tryd.kind102
  have kT := Tryd.kind86
  have eP := Tryd.elem102
  have iT := Tryd.implements86
  have n8 := Tryd.isNil102 ⟨w.heap.size, 0, none⟩ t ((w.alloc (.cells #[.pointer (some t)] 102)).alloc (.cells #[.pointer (some ⟨1, 102, none⟩), .pointer (some ⟨w.heap.size, 0, none⟩), .int .u64 150] 107)) (by simp)
  have hg2 : ((w.alloc (.cells #[.pointer (some t)] 102)).alloc (.cells #[.pointer (some ⟨1, 102, none⟩), .pointer (some ⟨w.heap.size, 0, none⟩), .int .u64 150] 107)).cell? ⟨0, 0, none⟩ = some (.iface 91 (.agg #[.pointer (some ⟨1, 34, none⟩)])) := by
    rw [World.cell?_alloc_lt _ _ ⟨0, 0, none⟩ (by simp <;> omega), World.cell?_alloc_lt _ _ ⟨0, 0, none⟩ hlt]; exact hg
  have vT := Tryd.valueOf86
  have htl : t.block < w.heap.size := World.block_lt_of_cell? _ _ ht0
  have el := Tryd.elemV102 ⟨w.heap.size, 0, none⟩ t (((w.alloc (.cells #[.pointer (some t)] 102)).alloc (.cells #[.pointer (some ⟨1, 102, none⟩), .pointer (some ⟨w.heap.size, 0, none⟩), .int .u64 150] 107)).alloc (.cells #[.pointer (some ⟨1, 102, none⟩), .pointer (some ⟨w.heap.size, 0, none⟩), .int .u64 150] 107)) (by rw [World.cell?_alloc_lt _ _ ⟨w.heap.size, 0, none⟩ (by simp <;> omega)]; simp)
  have st := Tryd.set86 t ⟨w.heap.size + 1 + 1 + 1, 0, none⟩ ⟨pb, 0, none⟩ old ((((w.alloc (.cells #[.pointer (some t)] 102)).alloc (.cells #[.pointer (some ⟨1, 102, none⟩), .pointer (some ⟨w.heap.size, 0, none⟩), .int .u64 150] 107)).alloc (.cells #[.pointer (some ⟨1, 102, none⟩), .pointer (some ⟨w.heap.size, 0, none⟩), .int .u64 150] 107)).alloc (.cells #[.pointer (some ⟨pb, 0, none⟩)] 86))
    (by rw [World.cell?_alloc_at _ _ _ _ (by simp)]; rfl)
    (by rw [World.cell?_alloc_lt _ _ t (by simp <;> omega), World.cell?_alloc_lt _ _ t (by simp <;> omega), World.cell?_alloc_lt _ _ t (by simp <;> omega), World.cell?_alloc_lt _ _ t htl]; exact ht0)
    (by rw [World.frozen?_alloc_old _ _ t (by simp <;> omega), World.frozen?_alloc_old _ _ t (by simp <;> omega), World.frozen?_alloc_old _ _ t (by simp <;> omega), World.frozen?_alloc_old _ _ t (Nat.ne_of_lt htl)]; exact hf0)
  go_enter Tryd.func43, Tryd.ntmps43
  go_wp2
  refine wp_loop_rounds 1 ?_
  rw [rounds_succ]
  go_wp2
  go_ret
  exact ⟨rfl, rfl⟩
end Go.Proofs.YtkbopcgijaejjaaDoor
