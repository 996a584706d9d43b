/-
  DERIVED. GIVEN WITH THE SEED: THE CARDS: each row of YtkeoeooghhjibaaDoorRows.lean that lists a variable, with what it lists TIED to the program's text (the seventh form; the later family's looks); each row that meets fmt, with fmt's text TOLD by the authors' own Lean function (tested against real Go, not proved from fmt's source: count such statements apart). THE CARD IS WHAT COUNTS. Prove the row's statement (the work); the ties are given (YtkeoeooghhjibaaDoorTie.lean); close each card by the builder's one call (the guide's Derived/Test/ToyasCard.lean, 'card_holds'). Laid BY PROGRAM, IN A SANDBOX (cutbox-door.mjs). By AI agents, Wed Nov 11 2026. No macro, syntax, notation, axiom, sorry.
-/
import Derived.Test.YtkeoeooghhjibaaDoorRows
import GoSem.ClaimSeven
namespace Go.Proofs.YtkeoeooghhjibaaDoor
namespace Rows

/-- THE TIED CARD OF 'cassegrainlaw08.CommandModels'. -/
def commandModelsCard : Claim7 := { stood := { row := commandModelsRow, standIns := [], harness := (true, "61ceb6d36ce798be62b0c0c423765d3d7f1a0ca9ac04062ab8778cb18cec1579"), looks := false }, kinds := [], alts := [], laidByText := true, laidKinds := [.data, .data, .data], laidTests := true, laidLooks := .later }
def CommandModelsCardSaid : Prop := Claim7.holds Tryd.pinned (.plain (OpenSpec.ofChange commandModelsSpec)) commandModelsCard

/-- THE TIED CARD OF 'cassegrainlaw08.CommandRules'. -/
def commandRulesCard : Claim7 := { stood := { row := commandRulesRow, standIns := [], harness := (true, "61ceb6d36ce798be62b0c0c423765d3d7f1a0ca9ac04062ab8778cb18cec1579"), looks := false }, kinds := [], alts := [], laidByText := true, laidKinds := [.data, .data, .data], laidTests := true, laidLooks := .later }
def CommandRulesCardSaid : Prop := Claim7.holds Tryd.pinned (.plain (OpenSpec.ofChange commandRulesSpec)) commandRulesCard

/-- THE SECOND FORM's CARD OF 'cassegrainlaw08.CommandModels'. -/
def commandModelsUptoCard : Claim7 := { stood := { row := commandModelsUptoRow, standIns := [], harness := (true, "61ceb6d36ce798be62b0c0c423765d3d7f1a0ca9ac04062ab8778cb18cec1579"), looks := false }, kinds := [], alts := [], laidByText := true, laidKinds := [.data, .data, .data], laidTests := true, laidLooks := .later }
def CommandModelsUptoCardSaid : Prop := Claim7.holds Tryd.pinned (.plain (OpenSpec.upto commandModelsSpec)) commandModelsUptoCard

/-- THE SECOND FORM's CARD OF 'cassegrainlaw08.CommandRules'. -/
def commandRulesUptoCard : Claim7 := { stood := { row := commandRulesUptoRow, standIns := [], harness := (true, "61ceb6d36ce798be62b0c0c423765d3d7f1a0ca9ac04062ab8778cb18cec1579"), looks := false }, kinds := [], alts := [], laidByText := true, laidKinds := [.data, .data, .data], laidTests := true, laidLooks := .later }
def CommandRulesUptoCardSaid : Prop := Claim7.holds Tryd.pinned (.plain (OpenSpec.upto commandRulesSpec)) commandRulesUptoCard
end Rows
end Go.Proofs.YtkeoeooghhjibaaDoor
