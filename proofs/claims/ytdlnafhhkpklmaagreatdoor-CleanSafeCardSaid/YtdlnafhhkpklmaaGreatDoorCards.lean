/-
  DERIVED. GIVEN WITH THE SEED: THE CARDS: each row of YtdlnafhhkpklmaaGreatDoorRows.lean that lists a variable, with what it lists TIED to the program's text (the seventh form; the later family's looks); each row that meets fmt, with fmt's text TOLD by the authors' own Lean function (tested against real Go, not proved from fmt's source: count such statements apart). THE CARD IS WHAT COUNTS. Prove the row's statement (the work); the ties are given (YtdlnafhhkpklmaaGreatDoorTie.lean); close each card by the builder's one call (the guide's Derived/Test/ToyasCard.lean, 'card_holds'). Laid BY PROGRAM, IN A SANDBOX (cutbox-door.mjs). By AI agents, Wed Nov 11 2026. No macro, syntax, notation, axiom, sorry.
-/
import Derived.Test.YtdlnafhhkpklmaaGreatDoorRows
import GoSem.ClaimSeven
namespace Go.Proofs.YtdlnafhhkpklmaaGreatDoor
namespace Rows

/-- THE TIED CARD OF 'flotsamlaw11.PlogRetains'. -/
def plogRetainsCard : Claim7 := { stood := { row := plogRetainsRow, standIns := [], harness := (true, "2ad0330e88ada424928e4b5b330a8314463f122199c080ec1ad0b6cbf4b1e8bc"), looks := false }, kinds := [], alts := [], laidByText := true, laidKinds := [.data], laidTests := true, laidLooks := .later }
def PlogRetainsCardSaid : Prop := Claim7.holds Tryz.pinned (.plain (OpenSpec.ofChange plogRetainsSpec)) plogRetainsCard

/-- THE TIED CARD OF 'flotsamlaw11.PlogBegins'. -/
def plogBeginsCard : Claim7 := { stood := { row := plogBeginsRow, standIns := [], harness := (true, "2ad0330e88ada424928e4b5b330a8314463f122199c080ec1ad0b6cbf4b1e8bc"), looks := false }, kinds := [], alts := [], laidByText := true, laidKinds := [.data], laidTests := true, laidLooks := .later }
def PlogBeginsCardSaid : Prop := Claim7.holds Tryz.pinned (.plain (OpenSpec.ofChange plogBeginsSpec)) plogBeginsCard

/-- THE TIED CARD OF 'flotsamlaw11.PlogSafe'. -/
def plogSafeCard : Claim7 := { stood := { row := plogSafeRow, standIns := [], harness := (true, "2ad0330e88ada424928e4b5b330a8314463f122199c080ec1ad0b6cbf4b1e8bc"), looks := false }, kinds := [], alts := [], laidByText := true, laidKinds := [.data], laidTests := true, laidLooks := .later }
def PlogSafeCardSaid : Prop := Claim7.holds Tryz.pinned (.plain (OpenSpec.ofChange plogSafeSpec)) plogSafeCard

/-- THE TIED CARD OF 'flotsamlaw11.PlogSame'. -/
def plogSameCard : Claim7 := { stood := { row := plogSameRow, standIns := [], harness := (true, "2ad0330e88ada424928e4b5b330a8314463f122199c080ec1ad0b6cbf4b1e8bc"), looks := false }, kinds := [], alts := [], laidByText := true, laidKinds := [.data], laidTests := true, laidLooks := .later }
def PlogSameCardSaid : Prop := Claim7.holds Tryz.pinned (.plain (OpenSpec.ofChange plogSameSpec)) plogSameCard

/-- THE TIED CARD OF 'flotsamlaw12.CleanSteps'. -/
def cleanStepsCard : Claim7 := { stood := { row := cleanStepsRow, standIns := [], harness := (true, "2ad0330e88ada424928e4b5b330a8314463f122199c080ec1ad0b6cbf4b1e8bc"), looks := false }, kinds := [], alts := [], laidByText := true, laidKinds := [.data], laidTests := true, laidLooks := .later }
def CleanStepsCardSaid : Prop := Claim7.holds Tryz.pinned (.plain (OpenSpec.ofChange cleanStepsSpec)) cleanStepsCard

/-- THE TIED CARD OF 'flotsamlaw12.CleanSafe'. -/
def cleanSafeCard : Claim7 := { stood := { row := cleanSafeRow, standIns := [], harness := (true, "2ad0330e88ada424928e4b5b330a8314463f122199c080ec1ad0b6cbf4b1e8bc"), looks := false }, kinds := [], alts := [], laidByText := true, laidKinds := [.data], laidTests := true, laidLooks := .later }
def CleanSafeCardSaid : Prop := Claim7.holds Tryz.pinned (.plain (OpenSpec.ofChange cleanSafeSpec)) cleanSafeCard

/-- THE SECOND FORM's CARD OF 'flotsamlaw11.PlogRetains'. -/
def plogRetainsUptoCard : Claim7 := { stood := { row := plogRetainsUptoRow, standIns := [], harness := (true, "2ad0330e88ada424928e4b5b330a8314463f122199c080ec1ad0b6cbf4b1e8bc"), looks := false }, kinds := [], alts := [], laidByText := true, laidKinds := [.data], laidTests := true, laidLooks := .later }
def PlogRetainsUptoCardSaid : Prop := Claim7.holds Tryz.pinned (.plain (OpenSpec.upto plogRetainsSpec)) plogRetainsUptoCard

/-- THE SECOND FORM's CARD OF 'flotsamlaw11.PlogBegins'. -/
def plogBeginsUptoCard : Claim7 := { stood := { row := plogBeginsUptoRow, standIns := [], harness := (true, "2ad0330e88ada424928e4b5b330a8314463f122199c080ec1ad0b6cbf4b1e8bc"), looks := false }, kinds := [], alts := [], laidByText := true, laidKinds := [.data], laidTests := true, laidLooks := .later }
def PlogBeginsUptoCardSaid : Prop := Claim7.holds Tryz.pinned (.plain (OpenSpec.upto plogBeginsSpec)) plogBeginsUptoCard

/-- THE SECOND FORM's CARD OF 'flotsamlaw11.PlogSafe'. -/
def plogSafeUptoCard : Claim7 := { stood := { row := plogSafeUptoRow, standIns := [], harness := (true, "2ad0330e88ada424928e4b5b330a8314463f122199c080ec1ad0b6cbf4b1e8bc"), looks := false }, kinds := [], alts := [], laidByText := true, laidKinds := [.data], laidTests := true, laidLooks := .later }
def PlogSafeUptoCardSaid : Prop := Claim7.holds Tryz.pinned (.plain (OpenSpec.upto plogSafeSpec)) plogSafeUptoCard

/-- THE SECOND FORM's CARD OF 'flotsamlaw11.PlogSame'. -/
def plogSameUptoCard : Claim7 := { stood := { row := plogSameUptoRow, standIns := [], harness := (true, "2ad0330e88ada424928e4b5b330a8314463f122199c080ec1ad0b6cbf4b1e8bc"), looks := false }, kinds := [], alts := [], laidByText := true, laidKinds := [.data], laidTests := true, laidLooks := .later }
def PlogSameUptoCardSaid : Prop := Claim7.holds Tryz.pinned (.plain (OpenSpec.upto plogSameSpec)) plogSameUptoCard

/-- THE SECOND FORM's CARD OF 'flotsamlaw12.CleanSteps'. -/
def cleanStepsUptoCard : Claim7 := { stood := { row := cleanStepsUptoRow, standIns := [], harness := (true, "2ad0330e88ada424928e4b5b330a8314463f122199c080ec1ad0b6cbf4b1e8bc"), looks := false }, kinds := [], alts := [], laidByText := true, laidKinds := [.data], laidTests := true, laidLooks := .later }
def CleanStepsUptoCardSaid : Prop := Claim7.holds Tryz.pinned (.plain (OpenSpec.upto cleanStepsSpec)) cleanStepsUptoCard

/-- THE SECOND FORM's CARD OF 'flotsamlaw12.CleanSafe'. -/
def cleanSafeUptoCard : Claim7 := { stood := { row := cleanSafeUptoRow, standIns := [], harness := (true, "2ad0330e88ada424928e4b5b330a8314463f122199c080ec1ad0b6cbf4b1e8bc"), looks := false }, kinds := [], alts := [], laidByText := true, laidKinds := [.data], laidTests := true, laidLooks := .later }
def CleanSafeUptoCardSaid : Prop := Claim7.holds Tryz.pinned (.plain (OpenSpec.upto cleanSafeSpec)) cleanSafeUptoCard
end Rows
end Go.Proofs.YtdlnafhhkpklmaaGreatDoor
