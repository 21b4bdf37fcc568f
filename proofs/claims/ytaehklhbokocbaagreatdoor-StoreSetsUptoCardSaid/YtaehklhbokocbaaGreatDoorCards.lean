/-
  DERIVED. GIVEN WITH THE SEED: THE CARDS: each row of YtaehklhbokocbaaGreatDoorRows.lean that lists a variable, with what it lists TIED to the program's text (the seventh form; the later family's looks); each row that meets fmt, with fmt's text TOLD by the authors' own Lean function (tested against real Go, not proved from fmt's source: count such statements apart). THE CARD IS WHAT COUNTS. Prove the row's statement (the work); the ties are given (YtaehklhbokocbaaGreatDoorTie.lean); close each card by the builder's one call (the guide's Derived/Test/ToyasCard.lean, 'card_holds'). Laid BY PROGRAM, IN A SANDBOX (cutbox-door.mjs). By AI agents, Wed Nov 11 2026. No macro, syntax, notation, axiom, sorry.
-/
import Derived.Test.YtaehklhbokocbaaGreatDoorRows
import GoSem.ClaimSeven
namespace Go.Proofs.YtaehklhbokocbaaGreatDoor
namespace Rows

/-- THE TIED CARD OF 'actuarylaw23.StoreNumbers'. -/
def storeNumbersCard : Claim7 := { stood := { row := storeNumbersRow, standIns := [], harness := (true, "98d80498720b649b535dbb2f495cb8870a75dd7b5f8f7adc813e8c0af741cb90"), looks := true }, kinds := [], alts := [], laidByText := true, laidKinds := [.handle], laidTests := true, laidLooks := .later }
def StoreNumbersCardSaid : Prop := Claim7.holds Tryz.pinned (.plain (OpenSpec.ofChange storeNumbersSpec)) storeNumbersCard

/-- THE TIED CARD OF 'actuarylaw23.StoreRoom'. -/
def storeRoomCard : Claim7 := { stood := { row := storeRoomRow, standIns := [], harness := (true, "98d80498720b649b535dbb2f495cb8870a75dd7b5f8f7adc813e8c0af741cb90"), looks := true }, kinds := [], alts := [], laidByText := true, laidKinds := [.handle], laidTests := true, laidLooks := .later }
def StoreRoomCardSaid : Prop := Claim7.holds Tryz.pinned (.plain (OpenSpec.ofChange storeRoomSpec)) storeRoomCard

/-- THE TIED CARD OF 'actuarylaw24.QuotaUses'. -/
def quotaUsesCard : Claim7 := { stood := { row := quotaUsesRow, standIns := [], harness := (true, "98d80498720b649b535dbb2f495cb8870a75dd7b5f8f7adc813e8c0af741cb90"), looks := true }, kinds := [], alts := [], laidByText := true, laidKinds := [.handle], laidTests := true, laidLooks := .later }
def QuotaUsesCardSaid : Prop := Claim7.holds Tryz.pinned (.plain (OpenSpec.ofChange quotaUsesSpec)) quotaUsesCard

/-- THE TIED CARD OF 'actuarylaw23.StoreDoes'. -/
def storeDoesCard : Claim7 := { stood := { row := storeDoesRow, standIns := [], harness := (true, "98d80498720b649b535dbb2f495cb8870a75dd7b5f8f7adc813e8c0af741cb90"), looks := true }, kinds := [], alts := [], laidByText := true, laidKinds := [.handle], laidTests := true, laidLooks := .later }
def StoreDoesCardSaid : Prop := Claim7.holds Tryz.pinned (.plain (OpenSpec.ofChange storeDoesSpec)) storeDoesCard

/-- THE TIED CARD OF 'actuarylaw23.StoreKeeps'. -/
def storeKeepsCard : Claim7 := { stood := { row := storeKeepsRow, standIns := [], harness := (true, "98d80498720b649b535dbb2f495cb8870a75dd7b5f8f7adc813e8c0af741cb90"), looks := true }, kinds := [], alts := [], laidByText := true, laidKinds := [.handle], laidTests := true, laidLooks := .later }
def StoreKeepsCardSaid : Prop := Claim7.holds Tryz.pinned (.plain (OpenSpec.ofChange storeKeepsSpec)) storeKeepsCard

/-- THE TIED CARD OF 'actuarylaw23.StoreBack'. -/
def storeBackCard : Claim7 := { stood := { row := storeBackRow, standIns := [], harness := (true, "98d80498720b649b535dbb2f495cb8870a75dd7b5f8f7adc813e8c0af741cb90"), looks := true }, kinds := [], alts := [], laidByText := true, laidKinds := [.handle], laidTests := true, laidLooks := .later }
def StoreBackCardSaid : Prop := Claim7.holds Tryz.pinned (.plain (OpenSpec.ofChange storeBackSpec)) storeBackCard

/-- THE TIED CARD OF 'actuarylaw23.StoreSets'. -/
def storeSetsCard : Claim7 := { stood := { row := storeSetsRow, standIns := [], harness := (true, "98d80498720b649b535dbb2f495cb8870a75dd7b5f8f7adc813e8c0af741cb90"), looks := true }, kinds := [], alts := [], laidByText := true, laidKinds := [.handle], laidTests := true, laidLooks := .later }
def StoreSetsCardSaid : Prop := Claim7.holds Tryz.pinned (.plain (OpenSpec.ofChange storeSetsSpec)) storeSetsCard

/-- THE SECOND FORM's CARD OF 'actuarylaw23.StoreNumbers'. -/
def storeNumbersUptoCard : Claim7 := { stood := { row := storeNumbersUptoRow, standIns := [], harness := (true, "98d80498720b649b535dbb2f495cb8870a75dd7b5f8f7adc813e8c0af741cb90"), looks := true }, kinds := [], alts := [], laidByText := true, laidKinds := [.handle], laidTests := true, laidLooks := .later }
def StoreNumbersUptoCardSaid : Prop := Claim7.holds Tryz.pinned (.plain (OpenSpec.upto storeNumbersSpec)) storeNumbersUptoCard

/-- THE SECOND FORM's CARD OF 'actuarylaw23.StoreRoom'. -/
def storeRoomUptoCard : Claim7 := { stood := { row := storeRoomUptoRow, standIns := [], harness := (true, "98d80498720b649b535dbb2f495cb8870a75dd7b5f8f7adc813e8c0af741cb90"), looks := true }, kinds := [], alts := [], laidByText := true, laidKinds := [.handle], laidTests := true, laidLooks := .later }
def StoreRoomUptoCardSaid : Prop := Claim7.holds Tryz.pinned (.plain (OpenSpec.upto storeRoomSpec)) storeRoomUptoCard

/-- THE SECOND FORM's CARD OF 'actuarylaw24.QuotaUses'. -/
def quotaUsesUptoCard : Claim7 := { stood := { row := quotaUsesUptoRow, standIns := [], harness := (true, "98d80498720b649b535dbb2f495cb8870a75dd7b5f8f7adc813e8c0af741cb90"), looks := true }, kinds := [], alts := [], laidByText := true, laidKinds := [.handle], laidTests := true, laidLooks := .later }
def QuotaUsesUptoCardSaid : Prop := Claim7.holds Tryz.pinned (.plain (OpenSpec.upto quotaUsesSpec)) quotaUsesUptoCard

/-- THE SECOND FORM's CARD OF 'actuarylaw23.StoreDoes'. -/
def storeDoesUptoCard : Claim7 := { stood := { row := storeDoesUptoRow, standIns := [], harness := (true, "98d80498720b649b535dbb2f495cb8870a75dd7b5f8f7adc813e8c0af741cb90"), looks := true }, kinds := [], alts := [], laidByText := true, laidKinds := [.handle], laidTests := true, laidLooks := .later }
def StoreDoesUptoCardSaid : Prop := Claim7.holds Tryz.pinned (.plain (OpenSpec.upto storeDoesSpec)) storeDoesUptoCard

/-- THE SECOND FORM's CARD OF 'actuarylaw23.StoreKeeps'. -/
def storeKeepsUptoCard : Claim7 := { stood := { row := storeKeepsUptoRow, standIns := [], harness := (true, "98d80498720b649b535dbb2f495cb8870a75dd7b5f8f7adc813e8c0af741cb90"), looks := true }, kinds := [], alts := [], laidByText := true, laidKinds := [.handle], laidTests := true, laidLooks := .later }
def StoreKeepsUptoCardSaid : Prop := Claim7.holds Tryz.pinned (.plain (OpenSpec.upto storeKeepsSpec)) storeKeepsUptoCard

/-- THE SECOND FORM's CARD OF 'actuarylaw23.StoreBack'. -/
def storeBackUptoCard : Claim7 := { stood := { row := storeBackUptoRow, standIns := [], harness := (true, "98d80498720b649b535dbb2f495cb8870a75dd7b5f8f7adc813e8c0af741cb90"), looks := true }, kinds := [], alts := [], laidByText := true, laidKinds := [.handle], laidTests := true, laidLooks := .later }
def StoreBackUptoCardSaid : Prop := Claim7.holds Tryz.pinned (.plain (OpenSpec.upto storeBackSpec)) storeBackUptoCard

/-- THE SECOND FORM's CARD OF 'actuarylaw23.StoreSets'. -/
def storeSetsUptoCard : Claim7 := { stood := { row := storeSetsUptoRow, standIns := [], harness := (true, "98d80498720b649b535dbb2f495cb8870a75dd7b5f8f7adc813e8c0af741cb90"), looks := true }, kinds := [], alts := [], laidByText := true, laidKinds := [.handle], laidTests := true, laidLooks := .later }
def StoreSetsUptoCardSaid : Prop := Claim7.holds Tryz.pinned (.plain (OpenSpec.upto storeSetsSpec)) storeSetsUptoCard
end Rows
end Go.Proofs.YtaehklhbokocbaaGreatDoor
