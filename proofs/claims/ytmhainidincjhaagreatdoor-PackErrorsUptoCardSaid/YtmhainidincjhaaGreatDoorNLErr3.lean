/-
  The law PackErrors answers true; the conditions: the library's own global is as it began; at most 2 to the 40 bytes and 2 to the 39 bytes of text.
  Printed by a program of this repository (wip/dg29.py).
-/
import Derived.Test.YtmhainidincjhaaGreatDoorNLErr2
import Derived.Test.YtmhainidincjhaaGreatDoorNL
set_option linter.unusedVariables false
set_option linter.unusedSimpArgs false
namespace Go.Proofs.YtmhainidincjhaaGreatDoor
open Go.RowKit Go.Extern.Stop Go.Stop Go.Extern
theorem packErrors_any (a : Option Addr) (n c : Nat) (bs : List Nat) (t : ByteArray) (w : World) (hg : Hg w) (h : BytesN w (.slice a n c) bs) (hb8 : ∀ x, x ∈ bs → x < 256) (hs : n ≤ 1099511627776) (ht : t.size ≤ 549755813888) :
    Calls Tryz.prog 12 #[.slice a n c, .string t] w fun e w' => e = .returned (.bool true) ∧ Below w.heap.size w w' :=
  perr_any a n c bs t w h hb8 hs ht (Lib.hid fun W hb => awake_any W (hg.below hb hg.lt))
end Go.Proofs.YtmhainidincjhaaGreatDoor
