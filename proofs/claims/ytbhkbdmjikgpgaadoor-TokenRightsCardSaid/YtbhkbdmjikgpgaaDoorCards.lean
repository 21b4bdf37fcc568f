/-
  DERIVED. GIVEN WITH THE SEED: THE CARDS: each row of YtbhkbdmjikgpgaaDoorRows.lean that lists a variable, with what it lists TIED to the program's text (the seventh form; the later family's looks); each row that meets fmt, with fmt's text TOLD by the authors' own Lean function (tested against real Go, not proved from fmt's source: count such statements apart). THE CARD IS WHAT COUNTS. Prove the row's statement (the work); the ties are given (YtbhkbdmjikgpgaaDoorTie.lean); close each card by the builder's one call (the guide's Derived/Test/ToyasCard.lean, 'card_holds'). Laid BY PROGRAM, IN A SANDBOX (cutbox-door.mjs). By AI agents, Wed Nov 11 2026. No macro, syntax, notation, axiom, sorry.
-/
import Derived.Test.YtbhkbdmjikgpgaaDoorRows
import GoSem.ClaimSeven
namespace Go.Proofs.YtbhkbdmjikgpgaaDoor
namespace Rows

/-- THE TIED CARD OF 'actuarylaw28.TokenEqual'. -/
def tokenEqualCard : Claim7 := { stood := { row := tokenEqualRow, standIns := [], harness := (true, "cdd03474b349e7ddcaaa52160e6ea03ef8ba71321ff0e991dee624c6db32c585"), looks := true }, kinds := [], alts := [], laidByText := true, laidKinds := [.handle], laidTests := true, laidLooks := .later }
def TokenEqualCardSaid : Prop := Claim7.holds Tryd.pinned (.plain (OpenSpec.ofChange tokenEqualSpec)) tokenEqualCard

/-- THE TIED CARD OF 'actuarylaw28.TokenTenants'. -/
def tokenTenantsCard : Claim7 := { stood := { row := tokenTenantsRow, standIns := [], harness := (true, "cdd03474b349e7ddcaaa52160e6ea03ef8ba71321ff0e991dee624c6db32c585"), looks := true }, kinds := [], alts := [], laidByText := true, laidKinds := [.handle], laidTests := true, laidLooks := .later }
def TokenTenantsCardSaid : Prop := Claim7.holds Tryd.pinned (.plain (OpenSpec.ofChange tokenTenantsSpec)) tokenTenantsCard

/-- THE TIED CARD OF 'actuarylaw28.TokenDoes'. -/
def tokenDoesCard : Claim7 := { stood := { row := tokenDoesRow, standIns := [], harness := (true, "cdd03474b349e7ddcaaa52160e6ea03ef8ba71321ff0e991dee624c6db32c585"), looks := true }, kinds := [], alts := [], laidByText := true, laidKinds := [.handle], laidTests := true, laidLooks := .later }
def TokenDoesCardSaid : Prop := Claim7.holds Tryd.pinned (.plain (OpenSpec.ofChange tokenDoesSpec)) tokenDoesCard

/-- THE TIED CARD OF 'actuarylaw28.TokenRights'. -/
def tokenRightsCard : Claim7 := { stood := { row := tokenRightsRow, standIns := [], harness := (true, "cdd03474b349e7ddcaaa52160e6ea03ef8ba71321ff0e991dee624c6db32c585"), looks := true }, kinds := [], alts := [], laidByText := true, laidKinds := [.handle], laidTests := true, laidLooks := .later }
def TokenRightsCardSaid : Prop := Claim7.holds Tryd.pinned (.plain (OpenSpec.ofChange tokenRightsSpec)) tokenRightsCard

/-- THE TIED CARD OF 'actuarylaw28.TokenMints'. -/
def tokenMintsCard : Claim7 := { stood := { row := tokenMintsRow, standIns := [], harness := (true, "cdd03474b349e7ddcaaa52160e6ea03ef8ba71321ff0e991dee624c6db32c585"), looks := true }, kinds := [], alts := [], laidByText := true, laidKinds := [.handle], laidTests := true, laidLooks := .later }
def TokenMintsCardSaid : Prop := Claim7.holds Tryd.pinned (.plain (OpenSpec.ofChange tokenMintsSpec)) tokenMintsCard

/-- THE SECOND FORM's CARD OF 'actuarylaw28.TokenEqual'. -/
def tokenEqualUptoCard : Claim7 := { stood := { row := tokenEqualUptoRow, standIns := [], harness := (true, "cdd03474b349e7ddcaaa52160e6ea03ef8ba71321ff0e991dee624c6db32c585"), looks := true }, kinds := [], alts := [], laidByText := true, laidKinds := [.handle], laidTests := true, laidLooks := .later }
def TokenEqualUptoCardSaid : Prop := Claim7.holds Tryd.pinned (.plain (OpenSpec.upto tokenEqualSpec)) tokenEqualUptoCard

/-- THE SECOND FORM's CARD OF 'actuarylaw28.TokenTenants'. -/
def tokenTenantsUptoCard : Claim7 := { stood := { row := tokenTenantsUptoRow, standIns := [], harness := (true, "cdd03474b349e7ddcaaa52160e6ea03ef8ba71321ff0e991dee624c6db32c585"), looks := true }, kinds := [], alts := [], laidByText := true, laidKinds := [.handle], laidTests := true, laidLooks := .later }
def TokenTenantsUptoCardSaid : Prop := Claim7.holds Tryd.pinned (.plain (OpenSpec.upto tokenTenantsSpec)) tokenTenantsUptoCard

/-- THE SECOND FORM's CARD OF 'actuarylaw28.TokenDoes'. -/
def tokenDoesUptoCard : Claim7 := { stood := { row := tokenDoesUptoRow, standIns := [], harness := (true, "cdd03474b349e7ddcaaa52160e6ea03ef8ba71321ff0e991dee624c6db32c585"), looks := true }, kinds := [], alts := [], laidByText := true, laidKinds := [.handle], laidTests := true, laidLooks := .later }
def TokenDoesUptoCardSaid : Prop := Claim7.holds Tryd.pinned (.plain (OpenSpec.upto tokenDoesSpec)) tokenDoesUptoCard

/-- THE SECOND FORM's CARD OF 'actuarylaw28.TokenRights'. -/
def tokenRightsUptoCard : Claim7 := { stood := { row := tokenRightsUptoRow, standIns := [], harness := (true, "cdd03474b349e7ddcaaa52160e6ea03ef8ba71321ff0e991dee624c6db32c585"), looks := true }, kinds := [], alts := [], laidByText := true, laidKinds := [.handle], laidTests := true, laidLooks := .later }
def TokenRightsUptoCardSaid : Prop := Claim7.holds Tryd.pinned (.plain (OpenSpec.upto tokenRightsSpec)) tokenRightsUptoCard

/-- THE SECOND FORM's CARD OF 'actuarylaw28.TokenMints'. -/
def tokenMintsUptoCard : Claim7 := { stood := { row := tokenMintsUptoRow, standIns := [], harness := (true, "cdd03474b349e7ddcaaa52160e6ea03ef8ba71321ff0e991dee624c6db32c585"), looks := true }, kinds := [], alts := [], laidByText := true, laidKinds := [.handle], laidTests := true, laidLooks := .later }
def TokenMintsUptoCardSaid : Prop := Claim7.holds Tryd.pinned (.plain (OpenSpec.upto tokenMintsSpec)) tokenMintsUptoCard
end Rows
end Go.Proofs.YtbhkbdmjikgpgaaDoor
