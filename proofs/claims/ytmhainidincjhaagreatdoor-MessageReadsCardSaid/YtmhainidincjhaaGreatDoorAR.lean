/-
 What the laws stand on, part R: contracts and plain laws of DRead2, DRead3; the conditions are each law's own.
-/
import Derived.Test.YtmhainidincjhaaGreatDoorAV
import Derived.Test.YtmhainidincjhaaGreatDoorAX
import Derived.Test.YtmhainidincjhaaGreatDoorAB
import Derived.Test.YtmhainidincjhaaGreatDoorAE
import Derived.Lib.SlicesS
set_option linter.unusedVariables false
set_option linter.unusedSimpArgs false
set_option maxRecDepth 100000
set_option maxHeartbeats 16000000
namespace Go.Proofs.YtmhainidincjhaaGreatDoor
open Go.RowKit Go.Extern.Stop Go.Stop Go.Extern
theorem strB_natB (s:ByteArray):strB (natB s)=s:=by
 apply ByteArray.ext
 unfold strB natB
 rw [List.map_map,show (UInt8.ofNat ∘ UInt8.toNat)=id from funext fun x=>by simp,List.map_id]
theorem natB_strB {l:List Nat} (h:∀ c,c∈l→c<256):natB (strB l)=l:=by
 unfold natB strB
 rw [List.toList_toArray,List.map_map]
 conv=>rhs;rw [← List.map_id l]
 apply List.map_congr_left
 intro c hc
 simp only [Function.comp,id]
 exact UInt8.toNat_ofNat_of_lt' (by have:=h c hc;omega)
theorem den_le (z d:Int) (hd:d≠0):lenW (Rat.divInt z d).den≤lenW d.natAbs:=by
 rw [rat_den z d hd];exact lenW_mono (Nat.div_le_self _ _)
theorem num_le (z d:Int) (hd:d≠0):lenW (Rat.divInt z d).num.natAbs≤lenW z.natAbs:=by
 rw [rat_num z d hd,newI_abs];exact lenW_mono (Nat.div_le_self _ _)
end Go.Proofs.YtmhainidincjhaaGreatDoor
