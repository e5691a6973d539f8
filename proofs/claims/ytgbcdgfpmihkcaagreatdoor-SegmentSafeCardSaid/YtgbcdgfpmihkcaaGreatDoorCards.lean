/-
  DERIVED. GIVEN WITH THE SEED: THE CARDS: each row of YtgbcdgfpmihkcaaGreatDoorRows.lean that lists a variable, with what it lists TIED to the program's text (the seventh form; the later family's looks); each row that meets fmt, with fmt's text TOLD by the authors' own Lean function (tested against real Go, not proved from fmt's source: count such statements apart). THE CARD IS WHAT COUNTS. Prove the row's statement (the work); the ties are given (YtgbcdgfpmihkcaaGreatDoorTie.lean); close each card by the builder's one call (the guide's Derived/Test/ToyasCard.lean, 'card_holds'). Laid BY PROGRAM, IN A SANDBOX (cutbox-door.mjs). By AI agents, Wed Nov 11 2026. No macro, syntax, notation, axiom, sorry.
-/
import Derived.Test.YtgbcdgfpmihkcaaGreatDoorRows
import GoSem.ClaimSeven
namespace Go.Proofs.YtgbcdgfpmihkcaaGreatDoor
namespace Rows

/-- THE TIED CARD OF 'flotsamlaw10.SegmentSafe'. -/
def segmentSafeCard : Claim7 := { stood := { row := segmentSafeRow, standIns := [], harness := (true, "5008f96f68ee1168f896c63597f30e8ead4c008447d6acb4d13b236c42112db9"), looks := false }, kinds := [], alts := [], laidByText := true, laidKinds := [.data], laidTests := true, laidLooks := .later }
def SegmentSafeCardSaid : Prop := Claim7.holds Tryz.pinned (.plain (OpenSpec.ofChange segmentSafeSpec)) segmentSafeCard

/-- THE TIED CARD OF 'flotsamlaw10.SegmentAgain'. -/
def segmentAgainCard : Claim7 := { stood := { row := segmentAgainRow, standIns := [], harness := (true, "5008f96f68ee1168f896c63597f30e8ead4c008447d6acb4d13b236c42112db9"), looks := false }, kinds := [], alts := [], laidByText := true, laidKinds := [.data], laidTests := true, laidLooks := .later }
def SegmentAgainCardSaid : Prop := Claim7.holds Tryz.pinned (.plain (OpenSpec.ofChange segmentAgainSpec)) segmentAgainCard

/-- THE TIED CARD OF 'flotsamlaw10.SegmentScripts'. -/
def segmentScriptsCard : Claim7 := { stood := { row := segmentScriptsRow, standIns := [], harness := (true, "5008f96f68ee1168f896c63597f30e8ead4c008447d6acb4d13b236c42112db9"), looks := false }, kinds := [], alts := [], laidByText := true, laidKinds := [.data], laidTests := true, laidLooks := .later }
def SegmentScriptsCardSaid : Prop := Claim7.holds Tryz.pinned (.plain (OpenSpec.ofChange segmentScriptsSpec)) segmentScriptsCard

/-- THE SECOND FORM's CARD OF 'flotsamlaw10.SegmentSafe'. -/
def segmentSafeUptoCard : Claim7 := { stood := { row := segmentSafeUptoRow, standIns := [], harness := (true, "5008f96f68ee1168f896c63597f30e8ead4c008447d6acb4d13b236c42112db9"), looks := false }, kinds := [], alts := [], laidByText := true, laidKinds := [.data], laidTests := true, laidLooks := .later }
def SegmentSafeUptoCardSaid : Prop := Claim7.holds Tryz.pinned (.plain (OpenSpec.upto segmentSafeSpec)) segmentSafeUptoCard

/-- THE SECOND FORM's CARD OF 'flotsamlaw10.SegmentAgain'. -/
def segmentAgainUptoCard : Claim7 := { stood := { row := segmentAgainUptoRow, standIns := [], harness := (true, "5008f96f68ee1168f896c63597f30e8ead4c008447d6acb4d13b236c42112db9"), looks := false }, kinds := [], alts := [], laidByText := true, laidKinds := [.data], laidTests := true, laidLooks := .later }
def SegmentAgainUptoCardSaid : Prop := Claim7.holds Tryz.pinned (.plain (OpenSpec.upto segmentAgainSpec)) segmentAgainUptoCard

/-- THE SECOND FORM's CARD OF 'flotsamlaw10.SegmentScripts'. -/
def segmentScriptsUptoCard : Claim7 := { stood := { row := segmentScriptsUptoRow, standIns := [], harness := (true, "5008f96f68ee1168f896c63597f30e8ead4c008447d6acb4d13b236c42112db9"), looks := false }, kinds := [], alts := [], laidByText := true, laidKinds := [.data], laidTests := true, laidLooks := .later }
def SegmentScriptsUptoCardSaid : Prop := Claim7.holds Tryz.pinned (.plain (OpenSpec.upto segmentScriptsSpec)) segmentScriptsUptoCard
end Rows
end Go.Proofs.YtgbcdgfpmihkcaaGreatDoor
