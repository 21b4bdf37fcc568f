/-
  DERIVED. GIVEN WITH THE SEED: THE CARDS: each row of YtgicnjpneoedoaaDoorRows.lean that lists a variable, with what it lists TIED to the program's text (the seventh form; the later family's looks); each row that meets fmt, with fmt's text TOLD by the authors' own Lean function (tested against real Go, not proved from fmt's source: count such statements apart). THE CARD IS WHAT COUNTS. Prove the row's statement (the work); the ties are given (YtgicnjpneoedoaaDoorTie.lean); close each card by the builder's one call (the guide's Derived/Test/ToyasCard.lean, 'card_holds'). Laid BY PROGRAM, IN A SANDBOX (cutbox-door.mjs). By AI agents, Wed Nov 11 2026. No macro, syntax, notation, axiom, sorry.
-/
import Derived.Test.YtgicnjpneoedoaaDoorRows
import GoSem.ClaimSeven
namespace Go.Proofs.YtgicnjpneoedoaaDoor
namespace Rows

/-- THE TIED CARD OF 'actuarylaw24.QuotaChecks'. -/
def quotaChecksCard : Claim7 := { stood := { row := quotaChecksRow, standIns := [], harness := (true, "6f9af42750c35a5aa50f730f3347dafe8095dd1d29812107aeb5067bec1b1188"), looks := true }, kinds := [], alts := [], laidByText := true, laidKinds := [.handle], laidTests := true, laidLooks := .later }
def QuotaChecksCardSaid : Prop := Claim7.holds Tryd.pinned (.plain (OpenSpec.ofChange quotaChecksSpec)) quotaChecksCard

/-- THE TIED CARD OF 'actuarylaw24.QuotaOne'. -/
def quotaOneCard : Claim7 := { stood := { row := quotaOneRow, standIns := [], harness := (true, "6f9af42750c35a5aa50f730f3347dafe8095dd1d29812107aeb5067bec1b1188"), looks := true }, kinds := [], alts := [], laidByText := true, laidKinds := [.handle], laidTests := true, laidLooks := .later }
def QuotaOneCardSaid : Prop := Claim7.holds Tryd.pinned (.plain (OpenSpec.ofChange quotaOneSpec)) quotaOneCard

/-- THE TIED CARD OF 'actuarylaw24.QuotaJust'. -/
def quotaJustCard : Claim7 := { stood := { row := quotaJustRow, standIns := [], harness := (true, "6f9af42750c35a5aa50f730f3347dafe8095dd1d29812107aeb5067bec1b1188"), looks := true }, kinds := [], alts := [], laidByText := true, laidKinds := [.handle], laidTests := true, laidLooks := .later }
def QuotaJustCardSaid : Prop := Claim7.holds Tryd.pinned (.plain (OpenSpec.ofChange quotaJustSpec)) quotaJustCard

/-- THE TIED CARD OF 'actuarylaw24.QuotaFits'. -/
def quotaFitsCard : Claim7 := { stood := { row := quotaFitsRow, standIns := [], harness := (true, "6f9af42750c35a5aa50f730f3347dafe8095dd1d29812107aeb5067bec1b1188"), looks := true }, kinds := [], alts := [], laidByText := true, laidKinds := [.handle], laidTests := true, laidLooks := .later }
def QuotaFitsCardSaid : Prop := Claim7.holds Tryd.pinned (.plain (OpenSpec.ofChange quotaFitsSpec)) quotaFitsCard

/-- THE SECOND FORM's CARD OF 'actuarylaw24.QuotaChecks'. -/
def quotaChecksUptoCard : Claim7 := { stood := { row := quotaChecksUptoRow, standIns := [], harness := (true, "6f9af42750c35a5aa50f730f3347dafe8095dd1d29812107aeb5067bec1b1188"), looks := true }, kinds := [], alts := [], laidByText := true, laidKinds := [.handle], laidTests := true, laidLooks := .later }
def QuotaChecksUptoCardSaid : Prop := Claim7.holds Tryd.pinned (.plain (OpenSpec.upto quotaChecksSpec)) quotaChecksUptoCard

/-- THE SECOND FORM's CARD OF 'actuarylaw24.QuotaOne'. -/
def quotaOneUptoCard : Claim7 := { stood := { row := quotaOneUptoRow, standIns := [], harness := (true, "6f9af42750c35a5aa50f730f3347dafe8095dd1d29812107aeb5067bec1b1188"), looks := true }, kinds := [], alts := [], laidByText := true, laidKinds := [.handle], laidTests := true, laidLooks := .later }
def QuotaOneUptoCardSaid : Prop := Claim7.holds Tryd.pinned (.plain (OpenSpec.upto quotaOneSpec)) quotaOneUptoCard

/-- THE SECOND FORM's CARD OF 'actuarylaw24.QuotaJust'. -/
def quotaJustUptoCard : Claim7 := { stood := { row := quotaJustUptoRow, standIns := [], harness := (true, "6f9af42750c35a5aa50f730f3347dafe8095dd1d29812107aeb5067bec1b1188"), looks := true }, kinds := [], alts := [], laidByText := true, laidKinds := [.handle], laidTests := true, laidLooks := .later }
def QuotaJustUptoCardSaid : Prop := Claim7.holds Tryd.pinned (.plain (OpenSpec.upto quotaJustSpec)) quotaJustUptoCard

/-- THE SECOND FORM's CARD OF 'actuarylaw24.QuotaFits'. -/
def quotaFitsUptoCard : Claim7 := { stood := { row := quotaFitsUptoRow, standIns := [], harness := (true, "6f9af42750c35a5aa50f730f3347dafe8095dd1d29812107aeb5067bec1b1188"), looks := true }, kinds := [], alts := [], laidByText := true, laidKinds := [.handle], laidTests := true, laidLooks := .later }
def QuotaFitsUptoCardSaid : Prop := Claim7.holds Tryd.pinned (.plain (OpenSpec.upto quotaFitsSpec)) quotaFitsUptoCard
end Rows
end Go.Proofs.YtgicnjpneoedoaaDoor
