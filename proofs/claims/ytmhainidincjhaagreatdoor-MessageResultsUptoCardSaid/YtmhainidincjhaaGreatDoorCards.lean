/-
  DERIVED. GIVEN WITH THE SEED: THE CARDS: each row of YtmhainidincjhaaGreatDoorRows.lean that lists a variable, with what it lists TIED to the program's text (the seventh form; the later family's looks); each row that meets fmt, with fmt's text TOLD by the authors' own Lean function (tested against real Go, not proved from fmt's source: count such statements apart). THE CARD IS WHAT COUNTS. Prove the row's statement (the work); the ties are given (YtmhainidincjhaaGreatDoorTie.lean); close each card by the builder's one call (the guide's Derived/Test/ToyasCard.lean, 'card_holds'). Laid BY PROGRAM, IN A SANDBOX (cutbox-door.mjs). By AI agents, Wed Nov 11 2026. No macro, syntax, notation, axiom, sorry.
-/
import Derived.Test.YtmhainidincjhaaGreatDoorRows
import GoSem.ClaimSeven
namespace Go.Proofs.YtmhainidincjhaaGreatDoor
namespace Rows

/-- THE TIED CARD OF 'actuarylaw27.MessageTells'. -/
def messageTellsCard : Claim7 := { stood := { row := messageTellsRow, standIns := [], harness := (true, "232c554d23d088e7831762f4b3c2a7cd2399b938393180627577029ecfb038d4"), looks := true }, kinds := [], alts := [], laidByText := true, laidKinds := [.handle], laidTests := true, laidLooks := .later }
def MessageTellsCardSaid : Prop := Claim7.holds Tryz.pinned (.plain (OpenSpec.ofChange messageTellsSpec)) messageTellsCard

/-- THE TIED CARD OF 'actuarylaw27.MessageBack'. -/
def messageBackCard : Claim7 := { stood := { row := messageBackRow, standIns := [], harness := (true, "232c554d23d088e7831762f4b3c2a7cd2399b938393180627577029ecfb038d4"), looks := true }, kinds := [], alts := [], laidByText := true, laidKinds := [.handle], laidTests := true, laidLooks := .later }
def MessageBackCardSaid : Prop := Claim7.holds Tryz.pinned (.plain (OpenSpec.ofChange messageBackSpec)) messageBackCard

/-- THE TIED CARD OF 'actuarylaw09.PackTells'. -/
def packTellsCard : Claim7 := { stood := { row := packTellsRow, standIns := [], harness := (true, "232c554d23d088e7831762f4b3c2a7cd2399b938393180627577029ecfb038d4"), looks := true }, kinds := [], alts := [], laidByText := true, laidKinds := [.handle], laidTests := true, laidLooks := .later }
def PackTellsCardSaid : Prop := Claim7.holds Tryz.pinned (.plain (OpenSpec.ofChange packTellsSpec)) packTellsCard

/-- THE TIED CARD OF 'actuarylaw09.PackBack'. -/
def packBackCard : Claim7 := { stood := { row := packBackRow, standIns := [], harness := (true, "232c554d23d088e7831762f4b3c2a7cd2399b938393180627577029ecfb038d4"), looks := true }, kinds := [], alts := [], laidByText := true, laidKinds := [.handle], laidTests := true, laidLooks := .later }
def PackBackCardSaid : Prop := Claim7.holds Tryz.pinned (.plain (OpenSpec.ofChange packBackSpec)) packBackCard

/-- THE TIED CARD OF 'actuarylaw09.PackOne'. -/
def packOneCard : Claim7 := { stood := { row := packOneRow, standIns := [], harness := (true, "232c554d23d088e7831762f4b3c2a7cd2399b938393180627577029ecfb038d4"), looks := true }, kinds := [], alts := [], laidByText := true, laidKinds := [.handle], laidTests := true, laidLooks := .later }
def PackOneCardSaid : Prop := Claim7.holds Tryz.pinned (.plain (OpenSpec.ofChange packOneSpec)) packOneCard

/-- THE TIED CARD OF 'actuarylaw09.PackReads'. -/
def packReadsCard : Claim7 := { stood := { row := packReadsRow, standIns := [], harness := (true, "232c554d23d088e7831762f4b3c2a7cd2399b938393180627577029ecfb038d4"), looks := true }, kinds := [], alts := [], laidByText := true, laidKinds := [.handle], laidTests := true, laidLooks := .later }
def PackReadsCardSaid : Prop := Claim7.holds Tryz.pinned (.plain (OpenSpec.ofChange packReadsSpec)) packReadsCard

/-- THE TIED CARD OF 'actuarylaw27.MessageShort'. -/
def messageShortCard : Claim7 := { stood := { row := messageShortRow, standIns := [], harness := (true, "232c554d23d088e7831762f4b3c2a7cd2399b938393180627577029ecfb038d4"), looks := true }, kinds := [], alts := [], laidByText := true, laidKinds := [.handle], laidTests := true, laidLooks := .later }
def MessageShortCardSaid : Prop := Claim7.holds Tryz.pinned (.plain (OpenSpec.ofChange messageShortSpec)) messageShortCard

/-- THE TIED CARD OF 'actuarylaw27.MessageReads'. -/
def messageReadsCard : Claim7 := { stood := { row := messageReadsRow, standIns := [], harness := (true, "232c554d23d088e7831762f4b3c2a7cd2399b938393180627577029ecfb038d4"), looks := true }, kinds := [], alts := [], laidByText := true, laidKinds := [.handle], laidTests := true, laidLooks := .later }
def MessageReadsCardSaid : Prop := Claim7.holds Tryz.pinned (.plain (OpenSpec.ofChange messageReadsSpec)) messageReadsCard

/-- THE TIED CARD OF 'actuarylaw09.PackShort'. -/
def packShortCard : Claim7 := { stood := { row := packShortRow, standIns := [], harness := (true, "232c554d23d088e7831762f4b3c2a7cd2399b938393180627577029ecfb038d4"), looks := true }, kinds := [], alts := [], laidByText := true, laidKinds := [.handle], laidTests := true, laidLooks := .later }
def PackShortCardSaid : Prop := Claim7.holds Tryz.pinned (.plain (OpenSpec.ofChange packShortSpec)) packShortCard

/-- THE TIED CARD OF 'actuarylaw09.PackErrors'. -/
def packErrorsCard : Claim7 := { stood := { row := packErrorsRow, standIns := [], harness := (true, "232c554d23d088e7831762f4b3c2a7cd2399b938393180627577029ecfb038d4"), looks := true }, kinds := [], alts := [], laidByText := true, laidKinds := [.handle], laidTests := true, laidLooks := .later }
def PackErrorsCardSaid : Prop := Claim7.holds Tryz.pinned (.plain (OpenSpec.ofChange packErrorsSpec)) packErrorsCard

/-- THE TIED CARD OF 'actuarylaw09.PackSizes'. -/
def packSizesCard : Claim7 := { stood := { row := packSizesRow, standIns := [], harness := (true, "232c554d23d088e7831762f4b3c2a7cd2399b938393180627577029ecfb038d4"), looks := true }, kinds := [], alts := [], laidByText := true, laidKinds := [.handle], laidTests := true, laidLooks := .later }
def PackSizesCardSaid : Prop := Claim7.holds Tryz.pinned (.plain (OpenSpec.ofChange packSizesSpec)) packSizesCard

/-- THE TIED CARD OF 'actuarylaw27.MessageAny'. -/
def messageAnyCard : Claim7 := { stood := { row := messageAnyRow, standIns := [], harness := (true, "232c554d23d088e7831762f4b3c2a7cd2399b938393180627577029ecfb038d4"), looks := true }, kinds := [], alts := [], laidByText := true, laidKinds := [.handle], laidTests := true, laidLooks := .later }
def MessageAnyCardSaid : Prop := Claim7.holds Tryz.pinned (.plain (OpenSpec.ofChange messageAnySpec)) messageAnyCard

/-- THE TIED CARD OF 'actuarylaw27.MessageResults'. -/
def messageResultsCard : Claim7 := { stood := { row := messageResultsRow, standIns := [], harness := (true, "232c554d23d088e7831762f4b3c2a7cd2399b938393180627577029ecfb038d4"), looks := true }, kinds := [], alts := [], laidByText := true, laidKinds := [.handle], laidTests := true, laidLooks := .later }
def MessageResultsCardSaid : Prop := Claim7.holds Tryz.pinned (.plain (OpenSpec.ofChange messageResultsSpec)) messageResultsCard

/-- THE SECOND FORM's CARD OF 'actuarylaw27.MessageTells'. -/
def messageTellsUptoCard : Claim7 := { stood := { row := messageTellsUptoRow, standIns := [], harness := (true, "232c554d23d088e7831762f4b3c2a7cd2399b938393180627577029ecfb038d4"), looks := true }, kinds := [], alts := [], laidByText := true, laidKinds := [.handle], laidTests := true, laidLooks := .later }
def MessageTellsUptoCardSaid : Prop := Claim7.holds Tryz.pinned (.plain (OpenSpec.upto messageTellsSpec)) messageTellsUptoCard

/-- THE SECOND FORM's CARD OF 'actuarylaw27.MessageBack'. -/
def messageBackUptoCard : Claim7 := { stood := { row := messageBackUptoRow, standIns := [], harness := (true, "232c554d23d088e7831762f4b3c2a7cd2399b938393180627577029ecfb038d4"), looks := true }, kinds := [], alts := [], laidByText := true, laidKinds := [.handle], laidTests := true, laidLooks := .later }
def MessageBackUptoCardSaid : Prop := Claim7.holds Tryz.pinned (.plain (OpenSpec.upto messageBackSpec)) messageBackUptoCard

/-- THE SECOND FORM's CARD OF 'actuarylaw09.PackTells'. -/
def packTellsUptoCard : Claim7 := { stood := { row := packTellsUptoRow, standIns := [], harness := (true, "232c554d23d088e7831762f4b3c2a7cd2399b938393180627577029ecfb038d4"), looks := true }, kinds := [], alts := [], laidByText := true, laidKinds := [.handle], laidTests := true, laidLooks := .later }
def PackTellsUptoCardSaid : Prop := Claim7.holds Tryz.pinned (.plain (OpenSpec.upto packTellsSpec)) packTellsUptoCard

/-- THE SECOND FORM's CARD OF 'actuarylaw09.PackBack'. -/
def packBackUptoCard : Claim7 := { stood := { row := packBackUptoRow, standIns := [], harness := (true, "232c554d23d088e7831762f4b3c2a7cd2399b938393180627577029ecfb038d4"), looks := true }, kinds := [], alts := [], laidByText := true, laidKinds := [.handle], laidTests := true, laidLooks := .later }
def PackBackUptoCardSaid : Prop := Claim7.holds Tryz.pinned (.plain (OpenSpec.upto packBackSpec)) packBackUptoCard

/-- THE SECOND FORM's CARD OF 'actuarylaw09.PackOne'. -/
def packOneUptoCard : Claim7 := { stood := { row := packOneUptoRow, standIns := [], harness := (true, "232c554d23d088e7831762f4b3c2a7cd2399b938393180627577029ecfb038d4"), looks := true }, kinds := [], alts := [], laidByText := true, laidKinds := [.handle], laidTests := true, laidLooks := .later }
def PackOneUptoCardSaid : Prop := Claim7.holds Tryz.pinned (.plain (OpenSpec.upto packOneSpec)) packOneUptoCard

/-- THE SECOND FORM's CARD OF 'actuarylaw09.PackReads'. -/
def packReadsUptoCard : Claim7 := { stood := { row := packReadsUptoRow, standIns := [], harness := (true, "232c554d23d088e7831762f4b3c2a7cd2399b938393180627577029ecfb038d4"), looks := true }, kinds := [], alts := [], laidByText := true, laidKinds := [.handle], laidTests := true, laidLooks := .later }
def PackReadsUptoCardSaid : Prop := Claim7.holds Tryz.pinned (.plain (OpenSpec.upto packReadsSpec)) packReadsUptoCard

/-- THE SECOND FORM's CARD OF 'actuarylaw27.MessageShort'. -/
def messageShortUptoCard : Claim7 := { stood := { row := messageShortUptoRow, standIns := [], harness := (true, "232c554d23d088e7831762f4b3c2a7cd2399b938393180627577029ecfb038d4"), looks := true }, kinds := [], alts := [], laidByText := true, laidKinds := [.handle], laidTests := true, laidLooks := .later }
def MessageShortUptoCardSaid : Prop := Claim7.holds Tryz.pinned (.plain (OpenSpec.upto messageShortSpec)) messageShortUptoCard

/-- THE SECOND FORM's CARD OF 'actuarylaw27.MessageReads'. -/
def messageReadsUptoCard : Claim7 := { stood := { row := messageReadsUptoRow, standIns := [], harness := (true, "232c554d23d088e7831762f4b3c2a7cd2399b938393180627577029ecfb038d4"), looks := true }, kinds := [], alts := [], laidByText := true, laidKinds := [.handle], laidTests := true, laidLooks := .later }
def MessageReadsUptoCardSaid : Prop := Claim7.holds Tryz.pinned (.plain (OpenSpec.upto messageReadsSpec)) messageReadsUptoCard

/-- THE SECOND FORM's CARD OF 'actuarylaw09.PackShort'. -/
def packShortUptoCard : Claim7 := { stood := { row := packShortUptoRow, standIns := [], harness := (true, "232c554d23d088e7831762f4b3c2a7cd2399b938393180627577029ecfb038d4"), looks := true }, kinds := [], alts := [], laidByText := true, laidKinds := [.handle], laidTests := true, laidLooks := .later }
def PackShortUptoCardSaid : Prop := Claim7.holds Tryz.pinned (.plain (OpenSpec.upto packShortSpec)) packShortUptoCard

/-- THE SECOND FORM's CARD OF 'actuarylaw09.PackErrors'. -/
def packErrorsUptoCard : Claim7 := { stood := { row := packErrorsUptoRow, standIns := [], harness := (true, "232c554d23d088e7831762f4b3c2a7cd2399b938393180627577029ecfb038d4"), looks := true }, kinds := [], alts := [], laidByText := true, laidKinds := [.handle], laidTests := true, laidLooks := .later }
def PackErrorsUptoCardSaid : Prop := Claim7.holds Tryz.pinned (.plain (OpenSpec.upto packErrorsSpec)) packErrorsUptoCard

/-- THE SECOND FORM's CARD OF 'actuarylaw09.PackSizes'. -/
def packSizesUptoCard : Claim7 := { stood := { row := packSizesUptoRow, standIns := [], harness := (true, "232c554d23d088e7831762f4b3c2a7cd2399b938393180627577029ecfb038d4"), looks := true }, kinds := [], alts := [], laidByText := true, laidKinds := [.handle], laidTests := true, laidLooks := .later }
def PackSizesUptoCardSaid : Prop := Claim7.holds Tryz.pinned (.plain (OpenSpec.upto packSizesSpec)) packSizesUptoCard

/-- THE SECOND FORM's CARD OF 'actuarylaw27.MessageAny'. -/
def messageAnyUptoCard : Claim7 := { stood := { row := messageAnyUptoRow, standIns := [], harness := (true, "232c554d23d088e7831762f4b3c2a7cd2399b938393180627577029ecfb038d4"), looks := true }, kinds := [], alts := [], laidByText := true, laidKinds := [.handle], laidTests := true, laidLooks := .later }
def MessageAnyUptoCardSaid : Prop := Claim7.holds Tryz.pinned (.plain (OpenSpec.upto messageAnySpec)) messageAnyUptoCard

/-- THE SECOND FORM's CARD OF 'actuarylaw27.MessageResults'. -/
def messageResultsUptoCard : Claim7 := { stood := { row := messageResultsUptoRow, standIns := [], harness := (true, "232c554d23d088e7831762f4b3c2a7cd2399b938393180627577029ecfb038d4"), looks := true }, kinds := [], alts := [], laidByText := true, laidKinds := [.handle], laidTests := true, laidLooks := .later }
def MessageResultsUptoCardSaid : Prop := Claim7.holds Tryz.pinned (.plain (OpenSpec.upto messageResultsSpec)) messageResultsUptoCard
end Rows
end Go.Proofs.YtmhainidincjhaaGreatDoor
