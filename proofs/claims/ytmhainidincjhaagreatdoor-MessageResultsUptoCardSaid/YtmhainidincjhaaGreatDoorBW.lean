/-
 What the laws stand on, part W: contracts and plain laws of Wrap; the conditions are each law's own.
-/
import Derived.Test.YtmhainidincjhaaGreatDoorProg
import Derived.WalkKit
import Derived.LaidEql
import Derived.RowKitTokens
import Derived.Lib.Hide
set_option linter.unusedVariables false
set_option linter.unusedSimpArgs false
set_option maxRecDepth 100000
set_option maxHeartbeats 16000000
namespace Go.Proofs.YtmhainidincjhaaGreatDoor
open Go.RowKit Go.Extern.Stop Go.Stop Go.Extern
def eE (n:Int):Value:=.iface 52 (.int .i64 n)
def eF (b:Nat):Value:=.iface 211 (.pointer (some ⟨b,0,none⟩))
def IsF (w:World) (b:Nat) (s:ByteArray) (k n:Int):Prop :=
 w.cell? ⟨b,0,none⟩=some (.string s)∧w.cell? ⟨b,1,none⟩=some (.int .i64 k)∧w.cell? ⟨b,2,none⟩=some (eE n)
theorem IsF.below {w w':World} {b B:Nat} {s:ByteArray} {k n:Int} (h:IsF w b s k n) (hb:Below B w w') (hB:b<B):IsF w' b s k n:=by
 obtain ⟨h0,h1,h2⟩:=h
 exact ⟨(hb.cell (p:=⟨b,0,none⟩) hB).trans h0,(hb.cell (p:=⟨b,1,none⟩) hB).trans h1,(hb.cell (p:=⟨b,2,none⟩) hB).trans h2⟩
theorem IsF.lt {w:World} {b:Nat} {s:ByteArray} {k n:Int} (h:IsF w b s k n):b<w.heap.size:=World.block_lt_of_cell? _ _ h.1
theorem wrap_E (n:Int) (s:ByteArray) (k:Int) (w:World) :
  Calls Tryz.prog 79 #[eE n,.string s,.int .i64 k] w fun e w'=>e=.returned (eF w.heap.size)∧IsF w' w.heap.size s k n∧w'=w.alloc (.cells #[.string s,.int .i64 k,eE n] 215):=by
 unfold eE eF IsF
 go_enter Tryz.func79,Tryz.ntmps79
 go_wp2
 go_ret
 refine ⟨rfl,⟨?_,?_,?_⟩,rfl⟩ <;> simp [eE]
end Go.Proofs.YtmhainidincjhaaGreatDoor
