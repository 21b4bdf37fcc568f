/-
 What the laws stand on, part K: contracts and plain laws of RAsk; the conditions are each law's own.
-/
import Derived.Test.YtmhainidincjhaaGreatDoorBT
set_option linter.unusedVariables false
set_option linter.unusedSimpArgs false
set_option maxRecDepth 100000
set_option maxHeartbeats 16000000
namespace Go.Proofs.YtmhainidincjhaaGreatDoor
open Go.RowKit Go.Extern.Stop Go.Stop Go.Extern
theorem OB.ren {w W:World} {bs:List Bk} {ns ns':List Nm} {T:TypeId} {sz:Nat} {a:Option Addr} {n c:Nat} {cs:List Value} (h:OB w bs ns T sz a n c cs W) (hn:∀ x,x∈ns'→x∈ns):OB w bs ns' T sz a n c cs W:=⟨h.st.only (List.Sublist.refl _) hn,h.mid,h.nod,h.hd⟩
end Go.Proofs.YtmhainidincjhaaGreatDoor
