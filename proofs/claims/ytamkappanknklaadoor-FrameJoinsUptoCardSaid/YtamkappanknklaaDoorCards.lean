/-
  DERIVED. GIVEN WITH THE SEED: THE CARDS: each row of YtamkappanknklaaDoorRows.lean that lists a variable, with what it lists TIED to the program's text (the seventh form; the later family's looks); each row that meets fmt, with fmt's text TOLD by the authors' own Lean function (tested against real Go, not proved from fmt's source: count such statements apart). THE CARD IS WHAT COUNTS. Prove the row's statement (the work); the ties are given (YtamkappanknklaaDoorTie.lean); close each card by the builder's one call (the guide's Derived/Test/ToyasCard.lean, 'card_holds'). Laid BY PROGRAM, IN A SANDBOX (cutbox-door.mjs). By AI agents, Wed Nov 11 2026. No macro, syntax, notation, axiom, sorry.
-/
import Derived.Test.YtamkappanknklaaDoorRows
import GoSem.ClaimSeven
namespace Go.Proofs.YtamkappanknklaaDoor
namespace Rows

/-- THE TIED CARD OF 'actuarylaw26.FrameMakes'. -/
def frameMakesCard : Claim7 := { stood := { row := frameMakesRow, standIns := [], harness := (true, "3df5ae11edd1f680f606188fae1153dca8a2a42c526c81af7cafdde8141cbf30"), looks := true }, kinds := [], alts := [], laidByText := true, laidKinds := [.handle], laidTests := true, laidLooks := .later }
def FrameMakesCardSaid : Prop := Claim7.holds Tryd.pinned (.plain (OpenSpec.ofChange frameMakesSpec)) frameMakesCard

/-- THE TIED CARD OF 'actuarylaw26.FrameCuts'. -/
def frameCutsCard : Claim7 := { stood := { row := frameCutsRow, standIns := [], harness := (true, "3df5ae11edd1f680f606188fae1153dca8a2a42c526c81af7cafdde8141cbf30"), looks := true }, kinds := [], alts := [], laidByText := true, laidKinds := [.handle], laidTests := true, laidLooks := .later }
def FrameCutsCardSaid : Prop := Claim7.holds Tryd.pinned (.plain (OpenSpec.ofChange frameCutsSpec)) frameCutsCard

/-- THE TIED CARD OF 'actuarylaw26.FrameBodies'. -/
def frameBodiesCard : Claim7 := { stood := { row := frameBodiesRow, standIns := [], harness := (true, "3df5ae11edd1f680f606188fae1153dca8a2a42c526c81af7cafdde8141cbf30"), looks := true }, kinds := [], alts := [], laidByText := true, laidKinds := [.handle], laidTests := true, laidLooks := .later }
def FrameBodiesCardSaid : Prop := Claim7.holds Tryd.pinned (.plain (OpenSpec.ofChange frameBodiesSpec)) frameBodiesCard

/-- THE TIED CARD OF 'actuarylaw26.FrameJoins'. -/
def frameJoinsCard : Claim7 := { stood := { row := frameJoinsRow, standIns := [], harness := (true, "3df5ae11edd1f680f606188fae1153dca8a2a42c526c81af7cafdde8141cbf30"), looks := true }, kinds := [], alts := [], laidByText := true, laidKinds := [.handle], laidTests := true, laidLooks := .later }
def FrameJoinsCardSaid : Prop := Claim7.holds Tryd.pinned (.plain (OpenSpec.ofChange frameJoinsSpec)) frameJoinsCard

/-- THE TIED CARD OF 'actuarylaw26.FrameEnds'. -/
def frameEndsCard : Claim7 := { stood := { row := frameEndsRow, standIns := [], harness := (true, "3df5ae11edd1f680f606188fae1153dca8a2a42c526c81af7cafdde8141cbf30"), looks := true }, kinds := [], alts := [], laidByText := true, laidKinds := [.handle], laidTests := true, laidLooks := .later }
def FrameEndsCardSaid : Prop := Claim7.holds Tryd.pinned (.plain (OpenSpec.ofChange frameEndsSpec)) frameEndsCard

/-- THE SECOND FORM's CARD OF 'actuarylaw26.FrameMakes'. -/
def frameMakesUptoCard : Claim7 := { stood := { row := frameMakesUptoRow, standIns := [], harness := (true, "3df5ae11edd1f680f606188fae1153dca8a2a42c526c81af7cafdde8141cbf30"), looks := true }, kinds := [], alts := [], laidByText := true, laidKinds := [.handle], laidTests := true, laidLooks := .later }
def FrameMakesUptoCardSaid : Prop := Claim7.holds Tryd.pinned (.plain (OpenSpec.upto frameMakesSpec)) frameMakesUptoCard

/-- THE SECOND FORM's CARD OF 'actuarylaw26.FrameCuts'. -/
def frameCutsUptoCard : Claim7 := { stood := { row := frameCutsUptoRow, standIns := [], harness := (true, "3df5ae11edd1f680f606188fae1153dca8a2a42c526c81af7cafdde8141cbf30"), looks := true }, kinds := [], alts := [], laidByText := true, laidKinds := [.handle], laidTests := true, laidLooks := .later }
def FrameCutsUptoCardSaid : Prop := Claim7.holds Tryd.pinned (.plain (OpenSpec.upto frameCutsSpec)) frameCutsUptoCard

/-- THE SECOND FORM's CARD OF 'actuarylaw26.FrameBodies'. -/
def frameBodiesUptoCard : Claim7 := { stood := { row := frameBodiesUptoRow, standIns := [], harness := (true, "3df5ae11edd1f680f606188fae1153dca8a2a42c526c81af7cafdde8141cbf30"), looks := true }, kinds := [], alts := [], laidByText := true, laidKinds := [.handle], laidTests := true, laidLooks := .later }
def FrameBodiesUptoCardSaid : Prop := Claim7.holds Tryd.pinned (.plain (OpenSpec.upto frameBodiesSpec)) frameBodiesUptoCard

/-- THE SECOND FORM's CARD OF 'actuarylaw26.FrameJoins'. -/
def frameJoinsUptoCard : Claim7 := { stood := { row := frameJoinsUptoRow, standIns := [], harness := (true, "3df5ae11edd1f680f606188fae1153dca8a2a42c526c81af7cafdde8141cbf30"), looks := true }, kinds := [], alts := [], laidByText := true, laidKinds := [.handle], laidTests := true, laidLooks := .later }
def FrameJoinsUptoCardSaid : Prop := Claim7.holds Tryd.pinned (.plain (OpenSpec.upto frameJoinsSpec)) frameJoinsUptoCard

/-- THE SECOND FORM's CARD OF 'actuarylaw26.FrameEnds'. -/
def frameEndsUptoCard : Claim7 := { stood := { row := frameEndsUptoRow, standIns := [], harness := (true, "3df5ae11edd1f680f606188fae1153dca8a2a42c526c81af7cafdde8141cbf30"), looks := true }, kinds := [], alts := [], laidByText := true, laidKinds := [.handle], laidTests := true, laidLooks := .later }
def FrameEndsUptoCardSaid : Prop := Claim7.holds Tryd.pinned (.plain (OpenSpec.upto frameEndsSpec)) frameEndsUptoCard
end Rows
end Go.Proofs.YtamkappanknklaaDoor
