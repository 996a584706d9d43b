/-
  DERIVED. GIVEN WITH THE SEED: THE CARDS: each row of YtkeoeooghhjibaaGreatDoorRows.lean that lists a variable, with what it lists TIED to the program's text (the seventh form; the later family's looks); each row that meets fmt, with fmt's text TOLD by the authors' own Lean function (tested against real Go, not proved from fmt's source: count such statements apart). THE CARD IS WHAT COUNTS. Prove the row's statement (the work); the ties are given (YtkeoeooghhjibaaGreatDoorTie.lean); close each card by the builder's one call (the guide's Derived/Test/ToyasCard.lean, 'card_holds'). Laid BY PROGRAM, IN A SANDBOX (cutbox-door.mjs). By AI agents, Wed Nov 11 2026. No macro, syntax, notation, axiom, sorry.
-/
import Derived.Test.YtkeoeooghhjibaaGreatDoorRows
import GoSem.ClaimSeven
namespace Go.Proofs.YtkeoeooghhjibaaGreatDoor
namespace Rows

/-- THE TIED CARD OF 'cassegrainlaw08.CommandReplays'. -/
def commandReplaysCard : Claim7 := { stood := { row := commandReplaysRow, standIns := [], harness := (true, "8c1ed7d8057f43ebcdbb04c28ebc619118c2b9edc4e61f717e99dd8a4395b1c5"), looks := true }, kinds := [], alts := [], laidByText := true, laidKinds := [.data, .data, .data], laidTests := true, laidLooks := .later }
def CommandReplaysCardSaid : Prop := Claim7.holds Tryz.pinned (.plain (OpenSpec.ofChange commandReplaysSpec)) commandReplaysCard

/-- THE TIED CARD OF 'cassegrainlaw08.CommandTimes'. -/
def commandTimesCard : Claim7 := { stood := { row := commandTimesRow, standIns := [], harness := (true, "8c1ed7d8057f43ebcdbb04c28ebc619118c2b9edc4e61f717e99dd8a4395b1c5"), looks := true }, kinds := [], alts := [], laidByText := true, laidKinds := [.data, .data, .data], laidTests := true, laidLooks := .later }
def CommandTimesCardSaid : Prop := Claim7.holds Tryz.pinned (.plain (OpenSpec.ofChange commandTimesSpec)) commandTimesCard

/-- THE TIED CARD OF 'cassegrainlaw08.CommandStates'. -/
def commandStatesCard : Claim7 := { stood := { row := commandStatesRow, standIns := [], harness := (true, "8c1ed7d8057f43ebcdbb04c28ebc619118c2b9edc4e61f717e99dd8a4395b1c5"), looks := true }, kinds := [], alts := [], laidByText := true, laidKinds := [.data, .data, .data], laidTests := true, laidLooks := .later }
def CommandStatesCardSaid : Prop := Claim7.holds Tryz.pinned (.plain (OpenSpec.ofChange commandStatesSpec)) commandStatesCard

/-- THE TIED CARD OF 'cassegrainlaw08.CommandOnce'. -/
def commandOnceCard : Claim7 := { stood := { row := commandOnceRow, standIns := [], harness := (true, "8c1ed7d8057f43ebcdbb04c28ebc619118c2b9edc4e61f717e99dd8a4395b1c5"), looks := true }, kinds := [], alts := [], laidByText := true, laidKinds := [.data, .data, .data], laidTests := true, laidLooks := .later }
def CommandOnceCardSaid : Prop := Claim7.holds Tryz.pinned (.plain (OpenSpec.ofChange commandOnceSpec)) commandOnceCard

/-- THE TIED CARD OF 'cassegrainlaw08.CommandEarly'. -/
def commandEarlyCard : Claim7 := { stood := { row := commandEarlyRow, standIns := [], harness := (true, "8c1ed7d8057f43ebcdbb04c28ebc619118c2b9edc4e61f717e99dd8a4395b1c5"), looks := true }, kinds := [], alts := [], laidByText := true, laidKinds := [.data, .data, .data], laidTests := true, laidLooks := .later }
def CommandEarlyCardSaid : Prop := Claim7.holds Tryz.pinned (.plain (OpenSpec.ofChange commandEarlySpec)) commandEarlyCard

/-- THE TIED CARD OF 'cassegrainlaw08.CommandReaches'. -/
def commandReachesCard : Claim7 := { stood := { row := commandReachesRow, standIns := [], harness := (true, "8c1ed7d8057f43ebcdbb04c28ebc619118c2b9edc4e61f717e99dd8a4395b1c5"), looks := true }, kinds := [], alts := [], laidByText := true, laidKinds := [.data, .data, .data], laidTests := true, laidLooks := .later }
def CommandReachesCardSaid : Prop := Claim7.holds Tryz.pinned (.plain (OpenSpec.ofChange commandReachesSpec)) commandReachesCard

/-- THE TIED CARD OF 'cassegrainlaw08.CommandApplies'. -/
def commandAppliesCard : Claim7 := { stood := { row := commandAppliesRow, standIns := [], harness := (true, "8c1ed7d8057f43ebcdbb04c28ebc619118c2b9edc4e61f717e99dd8a4395b1c5"), looks := true }, kinds := [], alts := [], laidByText := true, laidKinds := [.data, .data, .data], laidTests := true, laidLooks := .later }
def CommandAppliesCardSaid : Prop := Claim7.holds Tryz.pinned (.plain (OpenSpec.ofChange commandAppliesSpec)) commandAppliesCard

/-- THE TIED CARD OF 'cassegrainlaw08.CommandWays'. -/
def commandWaysCard : Claim7 := { stood := { row := commandWaysRow, standIns := [], harness := (true, "8c1ed7d8057f43ebcdbb04c28ebc619118c2b9edc4e61f717e99dd8a4395b1c5"), looks := true }, kinds := [], alts := [], laidByText := true, laidKinds := [.data, .data, .data], laidTests := true, laidLooks := .later }
def CommandWaysCardSaid : Prop := Claim7.holds Tryz.pinned (.plain (OpenSpec.ofChange commandWaysSpec)) commandWaysCard

/-- THE TIED CARD OF 'cassegrainlaw08.CommandStrings'. -/
def commandStringsCard : Claim7 := { stood := { row := commandStringsRow, standIns := [], harness := (true, "8c1ed7d8057f43ebcdbb04c28ebc619118c2b9edc4e61f717e99dd8a4395b1c5"), looks := true }, kinds := [], alts := [], laidByText := true, laidKinds := [.data, .data, .data, .data, .sentinel, .sentinel, .pinned], laidTests := true, laidLooks := .later }
def CommandStringsCardSaid : Prop := Claim7.holds Tryz.pinned (.plain (OpenSpec.ofChange commandStringsSpec)) commandStringsCard

/-- THE TIED CARD OF 'cassegrainlaw08.CommandModelStrings'. -/
def commandModelStringsCard : Claim7 := { stood := { row := commandModelStringsRow, standIns := [], harness := (true, "8c1ed7d8057f43ebcdbb04c28ebc619118c2b9edc4e61f717e99dd8a4395b1c5"), looks := true }, kinds := [], alts := [], laidByText := true, laidKinds := [.data, .data, .data, .data, .sentinel, .sentinel, .pinned], laidTests := true, laidLooks := .later }
def CommandModelStringsCardSaid : Prop := Claim7.holds Tryz.pinned (.plain (OpenSpec.ofChange commandModelStringsSpec)) commandModelStringsCard

/-- THE SECOND FORM's CARD OF 'cassegrainlaw08.CommandReplays'. -/
def commandReplaysUptoCard : Claim7 := { stood := { row := commandReplaysUptoRow, standIns := [], harness := (true, "8c1ed7d8057f43ebcdbb04c28ebc619118c2b9edc4e61f717e99dd8a4395b1c5"), looks := true }, kinds := [], alts := [], laidByText := true, laidKinds := [.data, .data, .data], laidTests := true, laidLooks := .later }
def CommandReplaysUptoCardSaid : Prop := Claim7.holds Tryz.pinned (.plain (OpenSpec.upto commandReplaysSpec)) commandReplaysUptoCard

/-- THE SECOND FORM's CARD OF 'cassegrainlaw08.CommandTimes'. -/
def commandTimesUptoCard : Claim7 := { stood := { row := commandTimesUptoRow, standIns := [], harness := (true, "8c1ed7d8057f43ebcdbb04c28ebc619118c2b9edc4e61f717e99dd8a4395b1c5"), looks := true }, kinds := [], alts := [], laidByText := true, laidKinds := [.data, .data, .data], laidTests := true, laidLooks := .later }
def CommandTimesUptoCardSaid : Prop := Claim7.holds Tryz.pinned (.plain (OpenSpec.upto commandTimesSpec)) commandTimesUptoCard

/-- THE SECOND FORM's CARD OF 'cassegrainlaw08.CommandStates'. -/
def commandStatesUptoCard : Claim7 := { stood := { row := commandStatesUptoRow, standIns := [], harness := (true, "8c1ed7d8057f43ebcdbb04c28ebc619118c2b9edc4e61f717e99dd8a4395b1c5"), looks := true }, kinds := [], alts := [], laidByText := true, laidKinds := [.data, .data, .data], laidTests := true, laidLooks := .later }
def CommandStatesUptoCardSaid : Prop := Claim7.holds Tryz.pinned (.plain (OpenSpec.upto commandStatesSpec)) commandStatesUptoCard

/-- THE SECOND FORM's CARD OF 'cassegrainlaw08.CommandOnce'. -/
def commandOnceUptoCard : Claim7 := { stood := { row := commandOnceUptoRow, standIns := [], harness := (true, "8c1ed7d8057f43ebcdbb04c28ebc619118c2b9edc4e61f717e99dd8a4395b1c5"), looks := true }, kinds := [], alts := [], laidByText := true, laidKinds := [.data, .data, .data], laidTests := true, laidLooks := .later }
def CommandOnceUptoCardSaid : Prop := Claim7.holds Tryz.pinned (.plain (OpenSpec.upto commandOnceSpec)) commandOnceUptoCard

/-- THE SECOND FORM's CARD OF 'cassegrainlaw08.CommandEarly'. -/
def commandEarlyUptoCard : Claim7 := { stood := { row := commandEarlyUptoRow, standIns := [], harness := (true, "8c1ed7d8057f43ebcdbb04c28ebc619118c2b9edc4e61f717e99dd8a4395b1c5"), looks := true }, kinds := [], alts := [], laidByText := true, laidKinds := [.data, .data, .data], laidTests := true, laidLooks := .later }
def CommandEarlyUptoCardSaid : Prop := Claim7.holds Tryz.pinned (.plain (OpenSpec.upto commandEarlySpec)) commandEarlyUptoCard

/-- THE SECOND FORM's CARD OF 'cassegrainlaw08.CommandReaches'. -/
def commandReachesUptoCard : Claim7 := { stood := { row := commandReachesUptoRow, standIns := [], harness := (true, "8c1ed7d8057f43ebcdbb04c28ebc619118c2b9edc4e61f717e99dd8a4395b1c5"), looks := true }, kinds := [], alts := [], laidByText := true, laidKinds := [.data, .data, .data], laidTests := true, laidLooks := .later }
def CommandReachesUptoCardSaid : Prop := Claim7.holds Tryz.pinned (.plain (OpenSpec.upto commandReachesSpec)) commandReachesUptoCard

/-- THE SECOND FORM's CARD OF 'cassegrainlaw08.CommandApplies'. -/
def commandAppliesUptoCard : Claim7 := { stood := { row := commandAppliesUptoRow, standIns := [], harness := (true, "8c1ed7d8057f43ebcdbb04c28ebc619118c2b9edc4e61f717e99dd8a4395b1c5"), looks := true }, kinds := [], alts := [], laidByText := true, laidKinds := [.data, .data, .data], laidTests := true, laidLooks := .later }
def CommandAppliesUptoCardSaid : Prop := Claim7.holds Tryz.pinned (.plain (OpenSpec.upto commandAppliesSpec)) commandAppliesUptoCard

/-- THE SECOND FORM's CARD OF 'cassegrainlaw08.CommandWays'. -/
def commandWaysUptoCard : Claim7 := { stood := { row := commandWaysUptoRow, standIns := [], harness := (true, "8c1ed7d8057f43ebcdbb04c28ebc619118c2b9edc4e61f717e99dd8a4395b1c5"), looks := true }, kinds := [], alts := [], laidByText := true, laidKinds := [.data, .data, .data], laidTests := true, laidLooks := .later }
def CommandWaysUptoCardSaid : Prop := Claim7.holds Tryz.pinned (.plain (OpenSpec.upto commandWaysSpec)) commandWaysUptoCard

/-- THE SECOND FORM's CARD OF 'cassegrainlaw08.CommandStrings'. -/
def commandStringsUptoCard : Claim7 := { stood := { row := commandStringsUptoRow, standIns := [], harness := (true, "8c1ed7d8057f43ebcdbb04c28ebc619118c2b9edc4e61f717e99dd8a4395b1c5"), looks := true }, kinds := [], alts := [], laidByText := true, laidKinds := [.data, .data, .data, .data, .sentinel, .sentinel, .pinned], laidTests := true, laidLooks := .later }
def CommandStringsUptoCardSaid : Prop := Claim7.holds Tryz.pinned (.plain (OpenSpec.upto commandStringsSpec)) commandStringsUptoCard

/-- THE SECOND FORM's CARD OF 'cassegrainlaw08.CommandModelStrings'. -/
def commandModelStringsUptoCard : Claim7 := { stood := { row := commandModelStringsUptoRow, standIns := [], harness := (true, "8c1ed7d8057f43ebcdbb04c28ebc619118c2b9edc4e61f717e99dd8a4395b1c5"), looks := true }, kinds := [], alts := [], laidByText := true, laidKinds := [.data, .data, .data, .data, .sentinel, .sentinel, .pinned], laidTests := true, laidLooks := .later }
def CommandModelStringsUptoCardSaid : Prop := Claim7.holds Tryz.pinned (.plain (OpenSpec.upto commandModelStringsSpec)) commandModelStringsUptoCard
end Rows
end Go.Proofs.YtkeoeooghhjibaaGreatDoor
