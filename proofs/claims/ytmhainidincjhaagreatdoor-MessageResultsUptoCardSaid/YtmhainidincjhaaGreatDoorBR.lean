/-
 What the laws stand on, part R: contracts and plain laws of DRead2, DRead3; the conditions are each law's own.
-/
import Derived.Test.YtmhainidincjhaaGreatDoorBV
import Derived.Test.YtmhainidincjhaaGreatDoorBX
import Derived.Test.YtmhainidincjhaaGreatDoorBB
import Derived.Test.YtmhainidincjhaaGreatDoorBE
import Derived.Lib.SlicesS
set_option linter.unusedVariables false
set_option linter.unusedSimpArgs false
set_option maxRecDepth 100000
set_option maxHeartbeats 16000000
namespace Go.Proofs.YtmhainidincjhaaGreatDoor
open Go.RowKit Go.Extern.Stop Go.Stop Go.Extern
theorem BS.pick2 {w W:World} {bs:List Bk} {ns:List Nm} (h:BS w bs ns W) (i j:Nat) {x y:Bk} (hi:bs[i]?=some x) (hj:bs[j]?=some y) (hij:i≠j):BS w [x,y] ns W:=by
 have ne:x.p≠y.p:=by
  obtain ⟨li,rfl⟩:=List.getElem?_eq_some_iff.1 hi
  obtain ⟨lj,rfl⟩:=List.getElem?_eq_some_iff.1 hj
  have hp:=List.pairwise_iff_getElem.1 h.nod
  rcases Nat.lt_or_gt_of_ne hij with h1 | h1
  ·
   exact hp i j li lj h1
  ·
   exact fun e=>hp j i lj li h1 e.symm
 refine ⟨h.bel,fun b hb=>?_,?_,h.num⟩
 ·
  simp only [List.mem_cons,List.not_mem_nil,or_false] at hb
  rcases hb with rfl | rfl
  ·
   exact h.box _ (List.mem_of_getElem? hi)
  ·
   exact h.box _ (List.mem_of_getElem? hj)
 ·
  simp [ne]
theorem strB_natB (s:ByteArray):strB (natB s)=s:=by
 apply ByteArray.ext
 unfold strB natB
 rw [List.map_map,show (UInt8.ofNat ∘ UInt8.toNat)=id from funext fun x=>by simp,List.map_id]
theorem natB_strB {l:List Nat} (h:∀ c,c∈l→c<256):natB (strB l)=l:=by
 unfold natB strB
 rw [List.toList_toArray,List.map_map]
 conv=>rhs;rw [← List.map_id l]
 apply List.map_congr_left
 intro c hc
 simp only [Function.comp,id]
 exact UInt8.toNat_ofNat_of_lt' (by have:=h c hc;omega)
theorem den_le (z d:Int) (hd:d≠0):lenW (Rat.divInt z d).den≤lenW d.natAbs:=by
 rw [rat_den z d hd];exact lenW_mono (Nat.div_le_self _ _)
theorem num_le (z d:Int) (hd:d≠0):lenW (Rat.divInt z d).num.natAbs≤lenW z.natAbs:=by
 rw [rat_num z d hd,newI_abs];exact lenW_mono (Nat.div_le_self _ _)
end Go.Proofs.YtmhainidincjhaaGreatDoor
