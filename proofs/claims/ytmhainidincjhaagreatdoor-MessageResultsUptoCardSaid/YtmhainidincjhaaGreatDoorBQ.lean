/-
 What the laws stand on, part Q: contracts and plain laws of RDec; the conditions are each law's own.
-/
import Derived.Test.YtmhainidincjhaaGreatDoorBK
import Derived.Test.YtmhainidincjhaaGreatDoorBT
import Derived.Test.YtmhainidincjhaaGreatDoorBS
import Derived.Test.YtmhainidincjhaaGreatDoorBR
set_option linter.unusedVariables false
set_option linter.unusedSimpArgs false
set_option maxRecDepth 100000
set_option maxHeartbeats 16000000
namespace Go.Proofs.YtmhainidincjhaaGreatDoor
open Go.RowKit Go.Extern.Stop Go.Stop Go.Extern
theorem Tryz.infoM:(Tryz.prog.info? 50).map (fun i=>(i.zero,i.size,i.bytes))=some (some (.agg #[.int .i64 0,.string ⟨#[]⟩,.int .i64 0,.int .i64 0,.string ⟨#[]⟩,.int .i64 0,.int .i64 0,.int .i64 0,.int .i64 0,.bool false,.slice none 0 0,.slice none 0 0,.slice none 0 0]),13,168):=by kernel_rfl
theorem strB_len (l:List Nat):(strB l).size=l.length:=by unfold strB;simp [ByteArray.size]
theorem results_cell_tmp {fn:Func} {p u:Tmp} {ty:TypeId} (h:fn.results=#[.cell p ty,.tmp u]) (tmps:Array Value) (P:Program) (w:World) :
  (results fn tmps).run P w =
   ((asAddr (tmps.getD p undef)).run P w).andThen fun a w1=>((loadVar ty a).run P w1).andThen fun x w2=>.ok (.tuple #[x,tmps.getD u undef]) w2:=by
 simp only [results,h]
 simp [Sem.run_bind,Result.andThen]
theorem ret_of {P:Program} {T:TypeId} {p:Nat} {v u:Value} {W:World} (h:(loadVar T ⟨p,0,none⟩).run P W=.ok v W) :
  ((asAddr (.pointer (some ⟨p,0,none⟩))).run P W).andThen (fun a w1=>((loadVar T a).run P w1).andThen fun x w2=>(.ok (Value.tuple #[x,u]) w2:Result Value))=.ok (Value.tuple #[v,u]) W:=by
 show ((loadVar T ⟨p,0,none⟩).run P W).andThen (fun x w2=>(.ok (Value.tuple #[x,u]) w2:Result Value))=_
 rw [h];rfl
def RetMD (r:Except (Int × Nat) Msg) (w:World) (e:Ending) (w':World):Prop:=match r with
 | .error x=>∃ v,e=.returned (.tuple #[.agg #[.int .i64 0,.string ⟨#[]⟩,.int .i64 0,.int .i64 0,.string ⟨#[]⟩,.int .i64 0,.int .i64 0,.int .i64 0,.int .i64 0,.bool false,.slice none 0 0,.slice none 0 0,.slice none 0 0],v])∧ErrB w' (fun _=>True) v x.1 x.2∧Below w.heap.size w w'
 | .ok m=>∃ x:MsgV,e=.returned (.tuple #[x.val,.nilIface])∧x.ok w'∧x.msg=m∧Below w.heap.size w w'
end Go.Proofs.YtmhainidincjhaaGreatDoor
