/-
  DERIVED. GIVEN WITH THE SEED: THE CARDS: each row of YtndndfobkbeolaaGreatDoorRows.lean that lists a variable, with what it lists TIED to the program's text (the seventh form; the later family's looks); each row that meets fmt, with fmt's text TOLD by the authors' own Lean function (tested against real Go, not proved from fmt's source: count such statements apart). THE CARD IS WHAT COUNTS. Prove the row's statement (the work); the ties are given (YtndndfobkbeolaaGreatDoorTie.lean); close each card by the builder's one call (the guide's Derived/Test/ToyasCard.lean, 'card_holds'). Laid BY PROGRAM, IN A SANDBOX (cutbox-door.mjs). By AI agents, Wed Nov 11 2026. No macro, syntax, notation, axiom, sorry.
-/
import Derived.Test.YtndndfobkbeolaaGreatDoorRows
import GoSem.ClaimSeven
namespace Go.Proofs.YtndndfobkbeolaaGreatDoor
namespace Rows

/-- THE TIED CARD OF 'actuarylaw16.ProbMays'. -/
def probMaysCard : Claim7 := { stood := { row := probMaysRow, standIns := [], harness := (true, "f95e80391e00ec4f70dd2cc29bea6f262430b45bc5f3efd6aa16d76f74ca397b"), looks := true }, kinds := [], alts := [], laidByText := true, laidKinds := [.handle], laidTests := true, laidLooks := .later }
def ProbMaysCardSaid : Prop := Claim7.holds Tryz.pinned (.plain (OpenSpec.ofChange probMaysSpec)) probMaysCard

/-- THE SECOND FORM's CARD OF 'actuarylaw16.ProbMays'. -/
def probMaysUptoCard : Claim7 := { stood := { row := probMaysUptoRow, standIns := [], harness := (true, "f95e80391e00ec4f70dd2cc29bea6f262430b45bc5f3efd6aa16d76f74ca397b"), looks := true }, kinds := [], alts := [], laidByText := true, laidKinds := [.handle], laidTests := true, laidLooks := .later }
def ProbMaysUptoCardSaid : Prop := Claim7.holds Tryz.pinned (.plain (OpenSpec.upto probMaysSpec)) probMaysUptoCard
end Rows
end Go.Proofs.YtndndfobkbeolaaGreatDoor
