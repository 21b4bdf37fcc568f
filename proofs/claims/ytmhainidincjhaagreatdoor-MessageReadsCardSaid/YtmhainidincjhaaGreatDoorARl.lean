/-
 What the laws stand on, part Rl: contracts and plain laws of MTells, MTells2; the conditions are each law's own.
-/
import Derived.Test.YtmhainidincjhaaGreatDoorARf
import Derived.Test.YtmhainidincjhaaGreatDoorAG
import Derived.Test.YtmhainidincjhaaGreatDoorARc
set_option linter.unusedVariables false
set_option linter.unusedSimpArgs false
set_option maxRecDepth 100000
set_option maxHeartbeats 16000000
namespace Go.Proofs.YtmhainidincjhaaGreatDoor
open Go.RowKit Go.Extern.Stop Go.Stop Go.Extern
def MO (w:World) (y:MsgV):Prop:=y.ok w
theorem MO.lt {w:World} {y:MsgV} (_:MO w y):True:=trivial
theorem MO.below {w w':World} {y:MsgV} (h:MO w y) (hb:Below w.heap.size w w') (_:True):MO w' y:=MsgV.ok.below h hb
def RO (w:World) (y:RefM):Prop:=y.ok w
theorem RO.lt {w:World} {y:RefM} (_:RO w y):True:=trivial
theorem RO.below {w w':World} {y:RefM} (h:RO w y) (hb:Below w.heap.size w w') (_:True):RO w' y:=RefM.ok.below h hb
def EM (r:WS) (w:World) (v:Value):Prop:=match r with
 | .ok _=>v=.nilIface
 | .error x=>ErrB w (fun _=>True) v x.1 x.2
theorem EM.lt {r:WS} {w:World} {v:Value} (_:EM r w v):True:=trivial
theorem EM.below {r:WS} {w w':World} {v:Value} (h:EM r w v) (hb:Below w.heap.size w w') (_:True:=trivial):EM r w' v:=by
 cases r with
 | ok l=>exact h
 | error f=>exact ErrB.below h hb
def kM:WS→Int
 | .ok _=>0
 | .error x=>x.1
def atM:WS→Int
 | .ok _=>0
 | .error x=>(x.2:Nat)
end Go.Proofs.YtmhainidincjhaaGreatDoor
