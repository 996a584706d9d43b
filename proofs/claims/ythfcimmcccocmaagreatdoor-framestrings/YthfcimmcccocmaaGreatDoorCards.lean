/-
  DERIVED. GIVEN WITH THE SEED: THE CARDS: each row of YthfcimmcccocmaaGreatDoorRows.lean that lists a variable, with what it lists TIED to the program's text (the seventh form; the later family's looks); each row that meets fmt, with fmt's text TOLD by the authors' own Lean function (tested against real Go, not proved from fmt's source: count such statements apart). THE CARD IS WHAT COUNTS. Prove the row's statement (the work); the ties are given (YthfcimmcccocmaaGreatDoorTie.lean); close each card by the builder's one call (the guide's Derived/Test/ToyasCard.lean, 'card_holds'). Laid BY PROGRAM, IN A SANDBOX (cutbox-door.mjs). By AI agents, Wed Nov 11 2026. No macro, syntax, notation, axiom, sorry.
-/
import Derived.Test.YthfcimmcccocmaaGreatDoorRows
import GoSem.ClaimSeven
namespace Go.Proofs.YthfcimmcccocmaaGreatDoor
namespace Rows

/-- THE TIED CARD OF 'cassegrainlaw06.FrameStrings'. -/
def frameStringsCard : Claim7 := { stood := { row := frameStringsRow, standIns := [], harness := (true, "24b49cd2e15b53733eec4e42affb38f9e155feb67b0a469bfcd0c3401323d806"), looks := true }, kinds := [], alts := [], laidByText := true, laidKinds := [.data, .data, .data, .data, .sentinel, .sentinel, .pinned], laidTests := true, laidLooks := .later }
def FrameStringsCardSaid : Prop := Claim7.holds Tryz.pinned (.plain (OpenSpec.ofChange frameStringsSpec)) frameStringsCard

/-- THE SECOND FORM's CARD OF 'cassegrainlaw06.FrameStrings'. -/
def frameStringsUptoCard : Claim7 := { stood := { row := frameStringsUptoRow, standIns := [], harness := (true, "24b49cd2e15b53733eec4e42affb38f9e155feb67b0a469bfcd0c3401323d806"), looks := true }, kinds := [], alts := [], laidByText := true, laidKinds := [.data, .data, .data, .data, .sentinel, .sentinel, .pinned], laidTests := true, laidLooks := .later }
def FrameStringsUptoCardSaid : Prop := Claim7.holds Tryz.pinned (.plain (OpenSpec.upto frameStringsSpec)) frameStringsUptoCard
end Rows
end Go.Proofs.YthfcimmcccocmaaGreatDoor
