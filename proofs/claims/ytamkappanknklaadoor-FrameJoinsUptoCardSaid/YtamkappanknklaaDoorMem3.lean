/-
  Writes into slices of the call's own; over whatever program; the conditions are each law's own.
  Printed by a program of this repository (wip/mem3.py).
-/
import Derived.Test.YtamkappanknklaaDoorMem2
import Derived.Laws.Rows
namespace Go.Proofs.YtamkappanknklaaDoor
open Go.RowKit

section
variable {w w' : World} {base : Nat} {e : TypeId} {size : Nat} {v : Value} {n : Nat} {xs : List Value}
/-- A cell of its own is written. -/
theorem Mid.stored {g o cap : Nat} (h : Mid w base e size (.slice (some ⟨g, o, none⟩) n cap) n xs) (j : Nat) (u : Value) :
    Mid (w.setCell ⟨g, o + j, none⟩ u) base e size (.slice (some ⟨g, o, none⟩) n cap) n (xs.set j u) := by
  refine ⟨by rw [List.length_set]; exact h.1, ?_⟩
  rcases h.2 with ⟨hv, _⟩ | ⟨g', o', cap', cur, hv, hb, hg, hn, hm, hc, ht⟩
  · cases hv
  · cases hv
    refine .inr ⟨g, o, cap, _, rfl, hb, heap_setCell_same w g (o + j) cur e u hg, hn, hm, by simpa using hc, ?_⟩
    rw [Array.toList_setIfInBounds, List.drop_set, if_neg (by omega), Nat.add_sub_cancel_left, List.take_set, ht]
/-- What lies in a block that stays, is read as it was. -/
theorem Keeps.refl' (w : World) : Keeps w w (fun _ => False) := Keeps.refl _ _
end
end Go.Proofs.YtamkappanknklaaDoor
