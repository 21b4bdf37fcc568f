/-
 What the laws stand on, part I: contracts and plain laws of Err, Err, Err, Err, Err, Err, Err, Err, Err; the conditions are each law's own.
-/
import Derived.Test.YtmhainidincjhaaGreatDoorBW
import Derived.WalkKit
import Derived.LaidEql
import Derived.Stop.Asserts
import Derived.RowKitTokens
import Derived.Lib.IfaceEq
import Derived.Lib.Hide
import Derived.Test.YtmhainidincjhaaGreatDoorBF
set_option linter.unusedVariables false
set_option linter.unusedSimpArgs false
set_option maxRecDepth 100000
set_option maxHeartbeats 16000000
namespace Go.Proofs.YtmhainidincjhaaGreatDoor
open Go.RowKit Go.Extern.Stop Go.Stop Go.Extern
theorem Tryz.noIsErrno (v:Value) (xT:TypeId) (w:World):(Instr.typeAssert (.iface 52 v) xT 267 true).run Tryz.prog w=.ok (.tuple #[.nilIface,.bool false]) w:=run_typeAssert_lacksB Tryz.underlying267 (by kernel_rfl) (by kernel_rfl) v xT w
theorem Tryz.noIsFault (v:Value) (xT:TypeId) (w:World):(Instr.typeAssert (.iface 211 v) xT 267 true).run Tryz.prog w=.ok (.tuple #[.nilIface,.bool false]) w:=run_typeAssert_lacksB Tryz.underlying267 (by kernel_rfl) (by kernel_rfl) v xT w
theorem Tryz.isComparable (w:World):((ReflectliteType.method fun t=>do Rtype.noPackHeld "Comparable" t;pure (.bool (← typeInfo t).comparable)) #[.agg #[.pointer (some ⟨2,52,none⟩)]]).run Tryz.prog w=.ok (.bool true) w:=by kernel_rfl
theorem Tryz.callComparable (w:World):(callFunc 248 #[.agg #[.pointer (some ⟨2,52,none⟩)]]).run Tryz.prog w=.ok (.value (.bool true)) w :=
 (run_callFunc_extern (e:=ReflectliteType.method fun t=>do Rtype.noPackHeld "Comparable" t;pure (.bool (← typeInfo t).comparable)) Tryz.func248 (by kernel_rfl) (by kernel_rfl) (by kernel_rfl) (by kernel_rfl) _ w).trans (by rw [Tryz.isComparable];rfl)
theorem Tryz.isMethodComparable (v:Value) (w:World):(Go.method 458 265 v "Comparable").run Tryz.prog w=.ok (248,v) w:=by kernel_rfl
theorem Tryz.isComp:(Tryz.prog.info? 52).map (·.comparable)=some true:=by kernel_rfl
theorem Tryz.eqErrno (w:World) (a b:Int):(binOp .eql 34 (.iface 52 (.int .i64 a)) (.iface 52 (.int .i64 b))).run Tryz.prog w=.ok (.bool (a==b)) w:=Lib.run_eql_iface_int w a b Tryz.underlying34 Tryz.isComp Tryz.underlying52
theorem isFE_same (pb:Nat) (n b:Int) (w:World) (hnb:(n==b)=true) (hc:w.cell? ⟨pb,2,none⟩=some (eE n)) :
  Calls Tryz.prog 39 #[eF pb,eE b] w fun e w'=>e=.returned (.bool true)∧w'=w:=by
 unfold eE at *
 unfold eF
 have hTypeOf:=@run_callFunc_extern Tryz.prog 101 _ ReflectliteType.typeOf Tryz.func101 (by kernel_rfl) (by kernel_rfl) (by kernel_rfl) (by kernel_rfl)
 have hComp:=Tryz.callComparable
 have mR:=Tryz.isMethodComparable
 have tFault:=Tryz.typeOfFault
 have nIsFault:=Tryz.noIsFault
 have nUnwrapsFault:=Tryz.noUnwrapsFault
 have uFault:=Tryz.hasUnwrapFault
 have mFault:=Tryz.methodUnwrapFault
 have tErrno:=Tryz.typeOfErrno
 have nIsErrno:=Tryz.noIsErrno
 have nUnwrapsErrno:=Tryz.noUnwrapsErrno
 have nUnwrapErrno:=Tryz.noUnwrapErrno
 have heq:=Tryz.eqErrno
 have hty:=run_eql_iface_types (P:=Tryz.prog) 211 52 (.pointer (some ⟨pb,0,none⟩)) (.int .i64 b) Tryz.underlying34 (by decide) w
 go_enter Tryz.func39,Tryz.ntmps39
 go_wp2
 refine wp_loop_rounds 2 ?_
 rw [rounds_succ]
 go_wp2
 rw [rounds_succ]
 go_wp2
 go_ret
 exact ⟨rfl,rfl⟩
theorem isFE_other (pb:Nat) (n b:Int) (w:World) (hnb:(n==b)=false) (hc:w.cell? ⟨pb,2,none⟩=some (eE n)) :
  Calls Tryz.prog 39 #[eF pb,eE b] w fun e w'=>e=.returned (.bool false)∧w'=w:=by
 unfold eE at *
 unfold eF
 have hTypeOf:=@run_callFunc_extern Tryz.prog 101 _ ReflectliteType.typeOf Tryz.func101 (by kernel_rfl) (by kernel_rfl) (by kernel_rfl) (by kernel_rfl)
 have hComp:=Tryz.callComparable
 have mR:=Tryz.isMethodComparable
 have tFault:=Tryz.typeOfFault
 have nIsFault:=Tryz.noIsFault
 have nUnwrapsFault:=Tryz.noUnwrapsFault
 have uFault:=Tryz.hasUnwrapFault
 have mFault:=Tryz.methodUnwrapFault
 have tErrno:=Tryz.typeOfErrno
 have nIsErrno:=Tryz.noIsErrno
 have nUnwrapsErrno:=Tryz.noUnwrapsErrno
 have nUnwrapErrno:=Tryz.noUnwrapErrno
 have heq:=Tryz.eqErrno
 have hty:=run_eql_iface_types (P:=Tryz.prog) 211 52 (.pointer (some ⟨pb,0,none⟩)) (.int .i64 b) Tryz.underlying34 (by decide) w
 go_enter Tryz.func39,Tryz.ntmps39
 go_wp2
 refine wp_loop_rounds 2 ?_
 rw [rounds_succ]
 go_wp2
 rw [rounds_succ]
 go_wp2
 go_ret
 exact ⟨rfl,rfl⟩
end Go.Proofs.YtmhainidincjhaaGreatDoor
