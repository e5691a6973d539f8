/-
  DERIVED. GIVEN WITH THE SEED: THE CARDS: each row of YtfdhofabgdkkkaaGreatDoorRows.lean that lists a variable, with what it lists TIED to the program's text (the seventh form; the later family's looks); each row that meets fmt, with fmt's text TOLD by the authors' own Lean function (tested against real Go, not proved from fmt's source: count such statements apart). THE CARD IS WHAT COUNTS. Prove the row's statement (the work); the ties are given (YtfdhofabgdkkkaaGreatDoorTie.lean); close each card by the builder's one call (the guide's Derived/Test/ToyasCard.lean, 'card_holds'). Laid BY PROGRAM, IN A SANDBOX (cutbox-door.mjs). By AI agents, Wed Nov 11 2026. No macro, syntax, notation, axiom, sorry.
-/
import Derived.Test.YtfdhofabgdkkkaaGreatDoorRows
import GoSem.ClaimSeven
namespace Go.Proofs.YtfdhofabgdkkkaaGreatDoor
namespace Rows

/-- THE TIED CARD OF 'flotsamlaw20.StateFetches'. -/
def stateFetchesCard : Claim7 := { stood := { row := stateFetchesRow, standIns := [], harness := (true, "dea7876b46f8d311670febbf903361ea52308cf7487194f2ff98cda2a737c5c4"), looks := false }, kinds := [], alts := [], laidByText := true, laidKinds := [.data, .data, .pinned], laidTests := true, laidLooks := .later }
def StateFetchesCardSaid : Prop := Claim7.holds Tryz.pinned (.plain (OpenSpec.ofChange stateFetchesSpec)) stateFetchesCard

/-- THE TIED CARD OF 'flotsamlaw20.StateAgain'. -/
def stateAgainCard : Claim7 := { stood := { row := stateAgainRow, standIns := [], harness := (true, "dea7876b46f8d311670febbf903361ea52308cf7487194f2ff98cda2a737c5c4"), looks := false }, kinds := [], alts := [], laidByText := true, laidKinds := [.data, .data, .pinned], laidTests := true, laidLooks := .later }
def StateAgainCardSaid : Prop := Claim7.holds Tryz.pinned (.plain (OpenSpec.ofChange stateAgainSpec)) stateAgainCard

/-- THE TIED CARD OF 'flotsamlaw20.StateEnds'. -/
def stateEndsCard : Claim7 := { stood := { row := stateEndsRow, standIns := [], harness := (true, "dea7876b46f8d311670febbf903361ea52308cf7487194f2ff98cda2a737c5c4"), looks := false }, kinds := [], alts := [], laidByText := true, laidKinds := [.data, .data, .pinned], laidTests := true, laidLooks := .later }
def StateEndsCardSaid : Prop := Claim7.holds Tryz.pinned (.plain (OpenSpec.ofChange stateEndsSpec)) stateEndsCard

/-- THE TIED CARD OF 'flotsamlaw20.StateFilter'. -/
def stateFilterCard : Claim7 := { stood := { row := stateFilterRow, standIns := [], harness := (true, "dea7876b46f8d311670febbf903361ea52308cf7487194f2ff98cda2a737c5c4"), looks := false }, kinds := [], alts := [], laidByText := true, laidKinds := [.data, .data, .pinned], laidTests := true, laidLooks := .later }
def StateFilterCardSaid : Prop := Claim7.holds Tryz.pinned (.plain (OpenSpec.ofChange stateFilterSpec)) stateFilterCard

/-- THE TIED CARD OF 'flotsamlaw20.StateApart'. -/
def stateApartCard : Claim7 := { stood := { row := stateApartRow, standIns := [], harness := (true, "dea7876b46f8d311670febbf903361ea52308cf7487194f2ff98cda2a737c5c4"), looks := false }, kinds := [], alts := [], laidByText := true, laidKinds := [.data, .data, .pinned], laidTests := true, laidLooks := .later }
def StateApartCardSaid : Prop := Claim7.holds Tryz.pinned (.plain (OpenSpec.ofChange stateApartSpec)) stateApartCard

/-- THE TIED CARD OF 'flotsamlaw20.StateScripts'. -/
def stateScriptsCard : Claim7 := { stood := { row := stateScriptsRow, standIns := [], harness := (true, "dea7876b46f8d311670febbf903361ea52308cf7487194f2ff98cda2a737c5c4"), looks := false }, kinds := [], alts := [], laidByText := true, laidKinds := [.data, .data, .pinned], laidTests := true, laidLooks := .later }
def StateScriptsCardSaid : Prop := Claim7.holds Tryz.pinned (.plain (OpenSpec.ofChange stateScriptsSpec)) stateScriptsCard

/-- THE TIED CARD OF 'flotsamlaw20.StateNil'. -/
def stateNilCard : Claim7 := { stood := { row := stateNilRow, standIns := [], harness := (true, "dea7876b46f8d311670febbf903361ea52308cf7487194f2ff98cda2a737c5c4"), looks := false }, kinds := [], alts := [], laidByText := true, laidKinds := [.data, .data, .pinned], laidTests := true, laidLooks := .later }
def StateNilCardSaid : Prop := Claim7.holds Tryz.pinned (.plain (OpenSpec.ofChange stateNilSpec)) stateNilCard

/-- THE SECOND FORM's CARD OF 'flotsamlaw20.StateFetches'. -/
def stateFetchesUptoCard : Claim7 := { stood := { row := stateFetchesUptoRow, standIns := [], harness := (true, "dea7876b46f8d311670febbf903361ea52308cf7487194f2ff98cda2a737c5c4"), looks := false }, kinds := [], alts := [], laidByText := true, laidKinds := [.data, .data, .pinned], laidTests := true, laidLooks := .later }
def StateFetchesUptoCardSaid : Prop := Claim7.holds Tryz.pinned (.plain (OpenSpec.upto stateFetchesSpec)) stateFetchesUptoCard

/-- THE SECOND FORM's CARD OF 'flotsamlaw20.StateAgain'. -/
def stateAgainUptoCard : Claim7 := { stood := { row := stateAgainUptoRow, standIns := [], harness := (true, "dea7876b46f8d311670febbf903361ea52308cf7487194f2ff98cda2a737c5c4"), looks := false }, kinds := [], alts := [], laidByText := true, laidKinds := [.data, .data, .pinned], laidTests := true, laidLooks := .later }
def StateAgainUptoCardSaid : Prop := Claim7.holds Tryz.pinned (.plain (OpenSpec.upto stateAgainSpec)) stateAgainUptoCard

/-- THE SECOND FORM's CARD OF 'flotsamlaw20.StateEnds'. -/
def stateEndsUptoCard : Claim7 := { stood := { row := stateEndsUptoRow, standIns := [], harness := (true, "dea7876b46f8d311670febbf903361ea52308cf7487194f2ff98cda2a737c5c4"), looks := false }, kinds := [], alts := [], laidByText := true, laidKinds := [.data, .data, .pinned], laidTests := true, laidLooks := .later }
def StateEndsUptoCardSaid : Prop := Claim7.holds Tryz.pinned (.plain (OpenSpec.upto stateEndsSpec)) stateEndsUptoCard

/-- THE SECOND FORM's CARD OF 'flotsamlaw20.StateFilter'. -/
def stateFilterUptoCard : Claim7 := { stood := { row := stateFilterUptoRow, standIns := [], harness := (true, "dea7876b46f8d311670febbf903361ea52308cf7487194f2ff98cda2a737c5c4"), looks := false }, kinds := [], alts := [], laidByText := true, laidKinds := [.data, .data, .pinned], laidTests := true, laidLooks := .later }
def StateFilterUptoCardSaid : Prop := Claim7.holds Tryz.pinned (.plain (OpenSpec.upto stateFilterSpec)) stateFilterUptoCard

/-- THE SECOND FORM's CARD OF 'flotsamlaw20.StateApart'. -/
def stateApartUptoCard : Claim7 := { stood := { row := stateApartUptoRow, standIns := [], harness := (true, "dea7876b46f8d311670febbf903361ea52308cf7487194f2ff98cda2a737c5c4"), looks := false }, kinds := [], alts := [], laidByText := true, laidKinds := [.data, .data, .pinned], laidTests := true, laidLooks := .later }
def StateApartUptoCardSaid : Prop := Claim7.holds Tryz.pinned (.plain (OpenSpec.upto stateApartSpec)) stateApartUptoCard

/-- THE SECOND FORM's CARD OF 'flotsamlaw20.StateScripts'. -/
def stateScriptsUptoCard : Claim7 := { stood := { row := stateScriptsUptoRow, standIns := [], harness := (true, "dea7876b46f8d311670febbf903361ea52308cf7487194f2ff98cda2a737c5c4"), looks := false }, kinds := [], alts := [], laidByText := true, laidKinds := [.data, .data, .pinned], laidTests := true, laidLooks := .later }
def StateScriptsUptoCardSaid : Prop := Claim7.holds Tryz.pinned (.plain (OpenSpec.upto stateScriptsSpec)) stateScriptsUptoCard

/-- THE SECOND FORM's CARD OF 'flotsamlaw20.StateNil'. -/
def stateNilUptoCard : Claim7 := { stood := { row := stateNilUptoRow, standIns := [], harness := (true, "dea7876b46f8d311670febbf903361ea52308cf7487194f2ff98cda2a737c5c4"), looks := false }, kinds := [], alts := [], laidByText := true, laidKinds := [.data, .data, .pinned], laidTests := true, laidLooks := .later }
def StateNilUptoCardSaid : Prop := Claim7.holds Tryz.pinned (.plain (OpenSpec.upto stateNilSpec)) stateNilUptoCard
end Rows
end Go.Proofs.YtfdhofabgdkkkaaGreatDoor
