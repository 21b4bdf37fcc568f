/-
  DERIVED. GIVEN WITH THE SEED: THE CARDS: each row of YtkbopcgijaejjaaDoorRows.lean that lists a variable, with what it lists TIED to the program's text (the seventh form; the later family's looks); each row that meets fmt, with fmt's text TOLD by the authors' own Lean function (tested against real Go, not proved from fmt's source: count such statements apart). THE CARD IS WHAT COUNTS. Prove the row's statement (the work); the ties are given (YtkbopcgijaejjaaDoorTie.lean); close each card by the builder's one call (the guide's Derived/Test/ToyasCard.lean, 'card_holds'). Laid BY PROGRAM, IN A SANDBOX (cutbox-door.mjs). By AI agents, Wed Nov 11 2026. No macro, syntax, notation, axiom, sorry.
-/
import Derived.Test.YtkbopcgijaejjaaDoorRows
import GoSem.ClaimSeven
namespace Go.Proofs.YtkbopcgijaejjaaDoor
namespace Rows

/-- THE TIED CARD OF 'actuarylaw30.QueueOrder'. -/
def queueOrderCard : Claim7 := { stood := { row := queueOrderRow, standIns := [], harness := (true, "a0e979a86cef34c51a0308095ccbff84bd7874b1b9eb55006ad45ea16ba927a8"), looks := true }, kinds := [], alts := [], laidByText := true, laidKinds := [.handle], laidTests := true, laidLooks := .later }
def QueueOrderCardSaid : Prop := Claim7.holds Tryd.pinned (.plain (OpenSpec.ofChange queueOrderSpec)) queueOrderCard

/-- THE TIED CARD OF 'actuarylaw30.QueueApart'. -/
def queueApartCard : Claim7 := { stood := { row := queueApartRow, standIns := [], harness := (true, "a0e979a86cef34c51a0308095ccbff84bd7874b1b9eb55006ad45ea16ba927a8"), looks := true }, kinds := [], alts := [], laidByText := true, laidKinds := [.handle], laidTests := true, laidLooks := .later }
def QueueApartCardSaid : Prop := Claim7.holds Tryd.pinned (.plain (OpenSpec.ofChange queueApartSpec)) queueApartCard

/-- THE TIED CARD OF 'actuarylaw30.QueueDoes'. -/
def queueDoesCard : Claim7 := { stood := { row := queueDoesRow, standIns := [], harness := (true, "a0e979a86cef34c51a0308095ccbff84bd7874b1b9eb55006ad45ea16ba927a8"), looks := true }, kinds := [], alts := [], laidByText := true, laidKinds := [.handle], laidTests := true, laidLooks := .later }
def QueueDoesCardSaid : Prop := Claim7.holds Tryd.pinned (.plain (OpenSpec.ofChange queueDoesSpec)) queueDoesCard

/-- THE TIED CARD OF 'actuarylaw30.QueueEnds'. -/
def queueEndsCard : Claim7 := { stood := { row := queueEndsRow, standIns := [], harness := (true, "a0e979a86cef34c51a0308095ccbff84bd7874b1b9eb55006ad45ea16ba927a8"), looks := true }, kinds := [], alts := [], laidByText := true, laidKinds := [.handle], laidTests := true, laidLooks := .later }
def QueueEndsCardSaid : Prop := Claim7.holds Tryd.pinned (.plain (OpenSpec.ofChange queueEndsSpec)) queueEndsCard

/-- THE TIED CARD OF 'actuarylaw30.QueueNews'. -/
def queueNewsCard : Claim7 := { stood := { row := queueNewsRow, standIns := [], harness := (true, "a0e979a86cef34c51a0308095ccbff84bd7874b1b9eb55006ad45ea16ba927a8"), looks := true }, kinds := [], alts := [], laidByText := true, laidKinds := [.handle], laidTests := true, laidLooks := .later }
def QueueNewsCardSaid : Prop := Claim7.holds Tryd.pinned (.plain (OpenSpec.ofChange queueNewsSpec)) queueNewsCard

/-- THE SECOND FORM's CARD OF 'actuarylaw30.QueueOrder'. -/
def queueOrderUptoCard : Claim7 := { stood := { row := queueOrderUptoRow, standIns := [], harness := (true, "a0e979a86cef34c51a0308095ccbff84bd7874b1b9eb55006ad45ea16ba927a8"), looks := true }, kinds := [], alts := [], laidByText := true, laidKinds := [.handle], laidTests := true, laidLooks := .later }
def QueueOrderUptoCardSaid : Prop := Claim7.holds Tryd.pinned (.plain (OpenSpec.upto queueOrderSpec)) queueOrderUptoCard

/-- THE SECOND FORM's CARD OF 'actuarylaw30.QueueApart'. -/
def queueApartUptoCard : Claim7 := { stood := { row := queueApartUptoRow, standIns := [], harness := (true, "a0e979a86cef34c51a0308095ccbff84bd7874b1b9eb55006ad45ea16ba927a8"), looks := true }, kinds := [], alts := [], laidByText := true, laidKinds := [.handle], laidTests := true, laidLooks := .later }
def QueueApartUptoCardSaid : Prop := Claim7.holds Tryd.pinned (.plain (OpenSpec.upto queueApartSpec)) queueApartUptoCard

/-- THE SECOND FORM's CARD OF 'actuarylaw30.QueueDoes'. -/
def queueDoesUptoCard : Claim7 := { stood := { row := queueDoesUptoRow, standIns := [], harness := (true, "a0e979a86cef34c51a0308095ccbff84bd7874b1b9eb55006ad45ea16ba927a8"), looks := true }, kinds := [], alts := [], laidByText := true, laidKinds := [.handle], laidTests := true, laidLooks := .later }
def QueueDoesUptoCardSaid : Prop := Claim7.holds Tryd.pinned (.plain (OpenSpec.upto queueDoesSpec)) queueDoesUptoCard

/-- THE SECOND FORM's CARD OF 'actuarylaw30.QueueEnds'. -/
def queueEndsUptoCard : Claim7 := { stood := { row := queueEndsUptoRow, standIns := [], harness := (true, "a0e979a86cef34c51a0308095ccbff84bd7874b1b9eb55006ad45ea16ba927a8"), looks := true }, kinds := [], alts := [], laidByText := true, laidKinds := [.handle], laidTests := true, laidLooks := .later }
def QueueEndsUptoCardSaid : Prop := Claim7.holds Tryd.pinned (.plain (OpenSpec.upto queueEndsSpec)) queueEndsUptoCard

/-- THE SECOND FORM's CARD OF 'actuarylaw30.QueueNews'. -/
def queueNewsUptoCard : Claim7 := { stood := { row := queueNewsUptoRow, standIns := [], harness := (true, "a0e979a86cef34c51a0308095ccbff84bd7874b1b9eb55006ad45ea16ba927a8"), looks := true }, kinds := [], alts := [], laidByText := true, laidKinds := [.handle], laidTests := true, laidLooks := .later }
def QueueNewsUptoCardSaid : Prop := Claim7.holds Tryd.pinned (.plain (OpenSpec.upto queueNewsSpec)) queueNewsUptoCard
end Rows
end Go.Proofs.YtkbopcgijaejjaaDoor
