/-
 MessageTells answers true; the conditions: the message that is handed in is in memory, and of bounded sizes; the library's own global is as it began.
 Printed by a program of this repository (wip/rf38.py).
-/
import Derived.Test.YtmhainidincjhaaGreatDoorYMTells2
import Derived.Test.YtmhainidincjhaaGreatDoorYC
set_option linter.unusedVariables false
set_option linter.unusedSimpArgs false
set_option maxRecDepth 100000
set_option maxHeartbeats 16000000
namespace Go.Proofs.YtmhainidincjhaaGreatDoor
open Go.RowKit Go.Extern.Stop Go.Stop Go.Extern
theorem mtells_all (x : RawV) (w : World) (hg : Hg w) (h : RawW w x) : Calls Tryz.prog 3 #[.agg #[.int .i64 x.verb, .int .i64 x.ses, .int .i64 x.rig, .string x.tk, .string x.ot, .int .i64 x.op, .int .i64 x.row, .int .i64 x.col, .int .i64 x.kind, .bool x.sg, .slice x.a x.n x.c, .slice x.b x.m x.d, .slice x.ea x.en x.ec]] w fun e w' => e = .returned (.bool true) ∧ Below w.heap.size w w' :=
 mtells_any x w hg h (Lib.hid fun W hb => mawake_small W (hg.below hb hg.lt))
end Go.Proofs.YtmhainidincjhaaGreatDoor
