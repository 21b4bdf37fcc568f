/-
 What the laws stand on, part M: contracts and plain laws of DMake, DMake2; the conditions are each law's own.
-/
import Derived.Test.YtmhainidincjhaaGreatDoorAR
import Derived.Test.YtmhainidincjhaaGreatDoorAA
set_option linter.unusedVariables false
set_option linter.unusedSimpArgs false
set_option maxRecDepth 100000
set_option maxHeartbeats 16000000
namespace Go.Proofs.YtmhainidincjhaaGreatDoor
open Go.RowKit Go.Extern.Stop Go.Stop Go.Extern
def denG (ys:List Nat):Nat:=if val ys=0 then 1 else val ys
def ratG (sg:Bool) (xs ys:List Nat):Rat:=Rat.divInt (newI sg (val xs)) (denG ys:Int)
theorem denG_ne (ys:List Nat):denG ys≠0:=by unfold denG;split <;> omega
theorem val_words {xs:List Nat} (h:∀ x∈xs,x<W64):lenW (val xs)≤xs.length:=lenW_le (val_lt xs h)
end Go.Proofs.YtmhainidincjhaaGreatDoor
