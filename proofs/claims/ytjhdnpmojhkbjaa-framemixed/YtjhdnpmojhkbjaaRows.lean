/-
  No cell of these rows narrows 'for every input' (looked for: loops, veiled, ifaces, maps, wideKeys, modest, calm, conditions, laid).
  DERIVED. THE GIVEN ROWS OF THIS SEAT. 11 by the template 'for every input the law returns true; each argument reads behind the call as it read before'; 0 by the template 'total and deterministic' (their statements: YtjhdnpmojhkbjaaTotals.lean).
  GIVEN WITH THE SEED: the statements are not yours to turn. If you find one false, say at which input.
  Laid BY PROGRAM, IN A SANDBOX (cutbox-rows.mjs): the forced cells as the released guide's own fill.sh prints them over the translation 92294eb6fe8209e3… (all of the seat's roots in one cut). By AI agents, Wed Nov 11 2026. No macro, syntax, notation, axiom, sorry.
-/
import Derived.Test.YtjhdnpmojhkbjaaChecked
import GoSem.Claim
import GoSem.ClaimJoined
import GoSem.ClaimMapViews
import Derived.JoinedTies
import Derived.KernelRfl
namespace Go.Proofs.Ytjhdnpmojhkbjaa
/- THE CELL 'sum', in the pinned program and in every row, IS THE sha256 OF THE DUMP (.gsa) THAT YtjhdnpmojhkbjaaProg.lean LOADS. Nothing in Lean hashes anything: it is a label: what it is worth is what the hold of that sum in a sandbox is worth. -/
noncomputable def Try.pinned : Pinned := { name := "ytjhdnpmojhkbjaa", sum := "92294eb6fe8209e3ae073801a25435c53bfdbc5c88e1072fb7d047ca90042b9b", checked := Try.checked }
namespace Rows
def none {H : Type} : Left H := { results := [], args := [] }

/-- 'cassegrainlaw06.FrameExtracts': WHATEVER THE INPUT: true; the input reads as it did. -/
def frameExtractsSpec : ChangeSpec := { name := "frameExtracts", fn := fun _ => fun
  | [d1, d2, d3] => { results := [.lit (.bool true)], args := [d1, d2, d3] }
  | _ => none }
def frameExtractsRow : OpenClaim := { program := "ytjhdnpmojhkbjaa", sum := "92294eb6fe8209e3ae073801a25435c53bfdbc5c88e1072fb7d047ca90042b9b", func := "cassegrain/cassegrainlaw06.FrameExtracts", spec := "frameExtracts", unfollowed := true, recurses := true, apart := false }
def FrameExtractsSaid : Prop := frameExtractsRow.holds Try.pinned (OpenSpec.ofChange frameExtractsSpec)

/-- ITS FALSE NEIGHBOUR: 'it returns false'. Refute it at one input. -/
def frameExtractsWrong : ChangeSpec := { name := "frameExtracts", fn := fun _ => fun
  | [d1, d2, d3] => { results := [.lit (.bool false)], args := [d1, d2, d3] }
  | _ => none }
def FrameExtractsWrongFalsely : Prop := frameExtractsRow.holds Try.pinned (OpenSpec.ofChange frameExtractsWrong)

/-- 'cassegrainlaw06.FrameTimes': WHATEVER THE INPUT: true; the input reads as it did. -/
def frameTimesSpec : ChangeSpec := { name := "frameTimes", fn := fun _ => fun
  | [d1, d2] => { results := [.lit (.bool true)], args := [d1, d2] }
  | _ => none }
def frameTimesRow : OpenClaim := { program := "ytjhdnpmojhkbjaa", sum := "92294eb6fe8209e3ae073801a25435c53bfdbc5c88e1072fb7d047ca90042b9b", func := "cassegrain/cassegrainlaw06.FrameTimes", spec := "frameTimes", unfollowed := true, recurses := true, apart := false }
def FrameTimesSaid : Prop := frameTimesRow.holds Try.pinned (OpenSpec.ofChange frameTimesSpec)

/-- ITS FALSE NEIGHBOUR: 'it returns false'. Refute it at one input. -/
def frameTimesWrong : ChangeSpec := { name := "frameTimes", fn := fun _ => fun
  | [d1, d2] => { results := [.lit (.bool false)], args := [d1, d2] }
  | _ => none }
def FrameTimesWrongFalsely : Prop := frameTimesRow.holds Try.pinned (OpenSpec.ofChange frameTimesWrong)

/-- 'cassegrainlaw06.FramePacks': WHATEVER THE INPUT: true; the input reads as it did. -/
def framePacksSpec : ChangeSpec := { name := "framePacks", fn := fun _ => fun
  | [d1, d2, d3] => { results := [.lit (.bool true)], args := [d1, d2, d3] }
  | _ => none }
def framePacksRow : OpenClaim := { program := "ytjhdnpmojhkbjaa", sum := "92294eb6fe8209e3ae073801a25435c53bfdbc5c88e1072fb7d047ca90042b9b", func := "cassegrain/cassegrainlaw06.FramePacks", spec := "framePacks", unfollowed := true, recurses := true, apart := false }
def FramePacksSaid : Prop := framePacksRow.holds Try.pinned (OpenSpec.ofChange framePacksSpec)

/-- ITS FALSE NEIGHBOUR: 'it returns false'. Refute it at one input. -/
def framePacksWrong : ChangeSpec := { name := "framePacks", fn := fun _ => fun
  | [d1, d2, d3] => { results := [.lit (.bool false)], args := [d1, d2, d3] }
  | _ => none }
def FramePacksWrongFalsely : Prop := framePacksRow.holds Try.pinned (OpenSpec.ofChange framePacksWrong)

/-- 'cassegrainlaw06.FrameWhole': WHATEVER THE INPUT: true; the input reads as it did. -/
def frameWholeSpec : ChangeSpec := { name := "frameWhole", fn := fun _ => fun
  | [d1, d2] => { results := [.lit (.bool true)], args := [d1, d2] }
  | _ => none }
def frameWholeRow : OpenClaim := { program := "ytjhdnpmojhkbjaa", sum := "92294eb6fe8209e3ae073801a25435c53bfdbc5c88e1072fb7d047ca90042b9b", func := "cassegrain/cassegrainlaw06.FrameWhole", spec := "frameWhole", unfollowed := true, recurses := true, apart := false }
def FrameWholeSaid : Prop := frameWholeRow.holds Try.pinned (OpenSpec.ofChange frameWholeSpec)

/-- ITS FALSE NEIGHBOUR: 'it returns false'. Refute it at one input. -/
def frameWholeWrong : ChangeSpec := { name := "frameWhole", fn := fun _ => fun
  | [d1, d2] => { results := [.lit (.bool false)], args := [d1, d2] }
  | _ => none }
def FrameWholeWrongFalsely : Prop := frameWholeRow.holds Try.pinned (OpenSpec.ofChange frameWholeWrong)

/-- 'cassegrainlaw06.FrameClocks': WHATEVER THE INPUT: true; the input reads as it did. -/
def frameClocksSpec : ChangeSpec := { name := "frameClocks", fn := fun _ => fun
  | [d] => { results := [.lit (.bool true)], args := [d] }
  | _ => none }
def frameClocksRow : OpenClaim := { program := "ytjhdnpmojhkbjaa", sum := "92294eb6fe8209e3ae073801a25435c53bfdbc5c88e1072fb7d047ca90042b9b", func := "cassegrain/cassegrainlaw06.FrameClocks", spec := "frameClocks", unfollowed := true, recurses := true, apart := false }
def FrameClocksSaid : Prop := frameClocksRow.holds Try.pinned (OpenSpec.ofChange frameClocksSpec)

/-- ITS FALSE NEIGHBOUR: 'it returns false'. Refute it at one input. -/
def frameClocksWrong : ChangeSpec := { name := "frameClocks", fn := fun _ => fun
  | [d] => { results := [.lit (.bool false)], args := [d] }
  | _ => none }
def FrameClocksWrongFalsely : Prop := frameClocksRow.holds Try.pinned (OpenSpec.ofChange frameClocksWrong)

/-- 'cassegrainlaw06.FrameEncloses': WHATEVER THE INPUT: true; the input reads as it did. -/
def frameEnclosesSpec : ChangeSpec := { name := "frameEncloses", fn := fun _ => fun
  | [d1, d2, d3] => { results := [.lit (.bool true)], args := [d1, d2, d3] }
  | _ => none }
def frameEnclosesRow : OpenClaim := { program := "ytjhdnpmojhkbjaa", sum := "92294eb6fe8209e3ae073801a25435c53bfdbc5c88e1072fb7d047ca90042b9b", func := "cassegrain/cassegrainlaw06.FrameEncloses", spec := "frameEncloses", unfollowed := true, recurses := true, apart := false }
def FrameEnclosesSaid : Prop := frameEnclosesRow.holds Try.pinned (OpenSpec.ofChange frameEnclosesSpec)

/-- ITS FALSE NEIGHBOUR: 'it returns false'. Refute it at one input. -/
def frameEnclosesWrong : ChangeSpec := { name := "frameEncloses", fn := fun _ => fun
  | [d1, d2, d3] => { results := [.lit (.bool false)], args := [d1, d2, d3] }
  | _ => none }
def FrameEnclosesWrongFalsely : Prop := frameEnclosesRow.holds Try.pinned (OpenSpec.ofChange frameEnclosesWrong)

/-- 'cassegrainlaw06.FrameDecodes': WHATEVER THE INPUT: true; the input reads as it did. -/
def frameDecodesSpec : ChangeSpec := { name := "frameDecodes", fn := fun _ => fun
  | [d1, d2] => { results := [.lit (.bool true)], args := [d1, d2] }
  | _ => none }
def frameDecodesRow : OpenClaim := { program := "ytjhdnpmojhkbjaa", sum := "92294eb6fe8209e3ae073801a25435c53bfdbc5c88e1072fb7d047ca90042b9b", func := "cassegrain/cassegrainlaw06.FrameDecodes", spec := "frameDecodes", unfollowed := true, recurses := true, apart := false }
def FrameDecodesSaid : Prop := frameDecodesRow.holds Try.pinned (OpenSpec.ofChange frameDecodesSpec)

/-- ITS FALSE NEIGHBOUR: 'it returns false'. Refute it at one input. -/
def frameDecodesWrong : ChangeSpec := { name := "frameDecodes", fn := fun _ => fun
  | [d1, d2] => { results := [.lit (.bool false)], args := [d1, d2] }
  | _ => none }
def FrameDecodesWrongFalsely : Prop := frameDecodesRow.holds Try.pinned (OpenSpec.ofChange frameDecodesWrong)

/-- 'cassegrainlaw06.FrameMixed': WHATEVER THE INPUT: true; the input reads as it did. -/
def frameMixedSpec : ChangeSpec := { name := "frameMixed", fn := fun _ => fun
  | [d1, d2, d3] => { results := [.lit (.bool true)], args := [d1, d2, d3] }
  | _ => none }
def frameMixedRow : OpenClaim := { program := "ytjhdnpmojhkbjaa", sum := "92294eb6fe8209e3ae073801a25435c53bfdbc5c88e1072fb7d047ca90042b9b", func := "cassegrain/cassegrainlaw06.FrameMixed", spec := "frameMixed", unfollowed := true, recurses := true, apart := false }
def FrameMixedSaid : Prop := frameMixedRow.holds Try.pinned (OpenSpec.ofChange frameMixedSpec)

/-- ITS FALSE NEIGHBOUR: 'it returns false'. Refute it at one input. -/
def frameMixedWrong : ChangeSpec := { name := "frameMixed", fn := fun _ => fun
  | [d1, d2, d3] => { results := [.lit (.bool false)], args := [d1, d2, d3] }
  | _ => none }
def FrameMixedWrongFalsely : Prop := frameMixedRow.holds Try.pinned (OpenSpec.ofChange frameMixedWrong)

/-- 'cassegrainlaw06.FrameFrames': WHATEVER THE INPUT: true; the input reads as it did. -/
def frameFramesSpec : ChangeSpec := { name := "frameFrames", fn := fun _ => fun
  | [d1, d2, d3] => { results := [.lit (.bool true)], args := [d1, d2, d3] }
  | _ => none }
def frameFramesRow : OpenClaim := { program := "ytjhdnpmojhkbjaa", sum := "92294eb6fe8209e3ae073801a25435c53bfdbc5c88e1072fb7d047ca90042b9b", func := "cassegrain/cassegrainlaw06.FrameFrames", spec := "frameFrames", unfollowed := true, recurses := true, apart := false }
def FrameFramesSaid : Prop := frameFramesRow.holds Try.pinned (OpenSpec.ofChange frameFramesSpec)

/-- ITS FALSE NEIGHBOUR: 'it returns false'. Refute it at one input. -/
def frameFramesWrong : ChangeSpec := { name := "frameFrames", fn := fun _ => fun
  | [d1, d2, d3] => { results := [.lit (.bool false)], args := [d1, d2, d3] }
  | _ => none }
def FrameFramesWrongFalsely : Prop := frameFramesRow.holds Try.pinned (OpenSpec.ofChange frameFramesWrong)

/-- 'cassegrainlaw06.FrameChanges': WHATEVER THE INPUT: true; the input reads as it did. -/
def frameChangesSpec : ChangeSpec := { name := "frameChanges", fn := fun _ => fun
  | [d1, d2, d3] => { results := [.lit (.bool true)], args := [d1, d2, d3] }
  | _ => none }
def frameChangesRow : OpenClaim := { program := "ytjhdnpmojhkbjaa", sum := "92294eb6fe8209e3ae073801a25435c53bfdbc5c88e1072fb7d047ca90042b9b", func := "cassegrain/cassegrainlaw06.FrameChanges", spec := "frameChanges", unfollowed := true, recurses := true, apart := false }
def FrameChangesSaid : Prop := frameChangesRow.holds Try.pinned (OpenSpec.ofChange frameChangesSpec)

/-- ITS FALSE NEIGHBOUR: 'it returns false'. Refute it at one input. -/
def frameChangesWrong : ChangeSpec := { name := "frameChanges", fn := fun _ => fun
  | [d1, d2, d3] => { results := [.lit (.bool false)], args := [d1, d2, d3] }
  | _ => none }
def FrameChangesWrongFalsely : Prop := frameChangesRow.holds Try.pinned (OpenSpec.ofChange frameChangesWrong)

/-- 'cassegrainlaw06.FrameOrders': WHATEVER THE INPUT: true; the input reads as it did. -/
def frameOrdersSpec : ChangeSpec := { name := "frameOrders", fn := fun _ => fun
  | [d1, d2, d3] => { results := [.lit (.bool true)], args := [d1, d2, d3] }
  | _ => none }
def frameOrdersRow : OpenClaim := { program := "ytjhdnpmojhkbjaa", sum := "92294eb6fe8209e3ae073801a25435c53bfdbc5c88e1072fb7d047ca90042b9b", func := "cassegrain/cassegrainlaw06.FrameOrders", spec := "frameOrders", unfollowed := true, recurses := true, apart := false }
def FrameOrdersSaid : Prop := frameOrdersRow.holds Try.pinned (OpenSpec.ofChange frameOrdersSpec)

/-- ITS FALSE NEIGHBOUR: 'it returns false'. Refute it at one input. -/
def frameOrdersWrong : ChangeSpec := { name := "frameOrders", fn := fun _ => fun
  | [d1, d2, d3] => { results := [.lit (.bool false)], args := [d1, d2, d3] }
  | _ => none }
def FrameOrdersWrongFalsely : Prop := frameOrdersRow.holds Try.pinned (OpenSpec.ofChange frameOrdersWrong)

/- THE SECOND FORM. 'bulk': how many values and letters a reading holds, each counted each time it is reached (what is shared counts as often as it is met; a slice's spare places count too). A statement '..UptoSaid' is the law's where the arguments, and the package variables that the reading takes, are together of bulk at most 1048576: NARROWER than '..Said'. Prove '..Said' where nothing that the law and all that it calls make is longer than what came in: it says more and counts as full. Else prove '..UptoSaid'. A law counts once. -/
mutual
def uptoBulk {H : Type} : DataW H → Nat
  | .lit (.string bytes) => bytes.length + 1
  | .lit _ => 1
  | .nil => 1
  | .ptr d => uptoBulk d + 1
  | .slice elems spare => uptoBulkAll elems + uptoBulkAll spare + 1
  | .agg parts => uptoBulkAll parts + 1
  | .iface _ d => uptoBulk d + 1
  | .map entries => uptoBulkEntries entries + 1
  | .held _ => 1
def uptoBulkAll {H : Type} : List (DataW H) → Nat
  | [] => 0
  | d :: r => uptoBulk d + uptoBulkAll r
def uptoBulkEntries {H : Type} : List (Lit × DataW H) → Nat
  | [] => 0
  | x :: r => uptoBulkEntry x + uptoBulkEntries r
def uptoBulkEntry {H : Type} : Lit × DataW H → Nat
  | (.string bytes, d) => bytes.length + uptoBulk d + 1
  | (_, d) => uptoBulk d + 1
 end
def uptoSmall : (H : Type) → List (DataW H) → Bool := fun _ ds => decide (uptoBulkAll ds ≤ 1048576)
def OpenSpec.upto (s : _root_.Go.ChangeSpec) : _root_.Go.OpenSpec := { _root_.Go.OpenSpec.ofChange s with cond := some uptoSmall }

/-- 'cassegrainlaw06.FrameExtracts', WHERE WHAT IT READS IS OF BULK AT MOST 1048576: true; the input reads as it did. -/
def frameExtractsUptoRow : OpenClaim := { program := "ytjhdnpmojhkbjaa", sum := "92294eb6fe8209e3ae073801a25435c53bfdbc5c88e1072fb7d047ca90042b9b", func := "cassegrain/cassegrainlaw06.FrameExtracts", spec := "frameExtracts", unfollowed := true, recurses := true, apart := false, narrowed := true }
def FrameExtractsUptoSaid : Prop := frameExtractsUptoRow.holds Try.pinned (OpenSpec.upto frameExtractsSpec)

/-- 'cassegrainlaw06.FrameTimes', WHERE WHAT IT READS IS OF BULK AT MOST 1048576: true; the input reads as it did. -/
def frameTimesUptoRow : OpenClaim := { program := "ytjhdnpmojhkbjaa", sum := "92294eb6fe8209e3ae073801a25435c53bfdbc5c88e1072fb7d047ca90042b9b", func := "cassegrain/cassegrainlaw06.FrameTimes", spec := "frameTimes", unfollowed := true, recurses := true, apart := false, narrowed := true }
def FrameTimesUptoSaid : Prop := frameTimesUptoRow.holds Try.pinned (OpenSpec.upto frameTimesSpec)

/-- 'cassegrainlaw06.FramePacks', WHERE WHAT IT READS IS OF BULK AT MOST 1048576: true; the input reads as it did. -/
def framePacksUptoRow : OpenClaim := { program := "ytjhdnpmojhkbjaa", sum := "92294eb6fe8209e3ae073801a25435c53bfdbc5c88e1072fb7d047ca90042b9b", func := "cassegrain/cassegrainlaw06.FramePacks", spec := "framePacks", unfollowed := true, recurses := true, apart := false, narrowed := true }
def FramePacksUptoSaid : Prop := framePacksUptoRow.holds Try.pinned (OpenSpec.upto framePacksSpec)

/-- 'cassegrainlaw06.FrameWhole', WHERE WHAT IT READS IS OF BULK AT MOST 1048576: true; the input reads as it did. -/
def frameWholeUptoRow : OpenClaim := { program := "ytjhdnpmojhkbjaa", sum := "92294eb6fe8209e3ae073801a25435c53bfdbc5c88e1072fb7d047ca90042b9b", func := "cassegrain/cassegrainlaw06.FrameWhole", spec := "frameWhole", unfollowed := true, recurses := true, apart := false, narrowed := true }
def FrameWholeUptoSaid : Prop := frameWholeUptoRow.holds Try.pinned (OpenSpec.upto frameWholeSpec)

/-- 'cassegrainlaw06.FrameClocks', WHERE WHAT IT READS IS OF BULK AT MOST 1048576: true; the input reads as it did. -/
def frameClocksUptoRow : OpenClaim := { program := "ytjhdnpmojhkbjaa", sum := "92294eb6fe8209e3ae073801a25435c53bfdbc5c88e1072fb7d047ca90042b9b", func := "cassegrain/cassegrainlaw06.FrameClocks", spec := "frameClocks", unfollowed := true, recurses := true, apart := false, narrowed := true }
def FrameClocksUptoSaid : Prop := frameClocksUptoRow.holds Try.pinned (OpenSpec.upto frameClocksSpec)

/-- 'cassegrainlaw06.FrameEncloses', WHERE WHAT IT READS IS OF BULK AT MOST 1048576: true; the input reads as it did. -/
def frameEnclosesUptoRow : OpenClaim := { program := "ytjhdnpmojhkbjaa", sum := "92294eb6fe8209e3ae073801a25435c53bfdbc5c88e1072fb7d047ca90042b9b", func := "cassegrain/cassegrainlaw06.FrameEncloses", spec := "frameEncloses", unfollowed := true, recurses := true, apart := false, narrowed := true }
def FrameEnclosesUptoSaid : Prop := frameEnclosesUptoRow.holds Try.pinned (OpenSpec.upto frameEnclosesSpec)

/-- 'cassegrainlaw06.FrameDecodes', WHERE WHAT IT READS IS OF BULK AT MOST 1048576: true; the input reads as it did. -/
def frameDecodesUptoRow : OpenClaim := { program := "ytjhdnpmojhkbjaa", sum := "92294eb6fe8209e3ae073801a25435c53bfdbc5c88e1072fb7d047ca90042b9b", func := "cassegrain/cassegrainlaw06.FrameDecodes", spec := "frameDecodes", unfollowed := true, recurses := true, apart := false, narrowed := true }
def FrameDecodesUptoSaid : Prop := frameDecodesUptoRow.holds Try.pinned (OpenSpec.upto frameDecodesSpec)

/-- 'cassegrainlaw06.FrameMixed', WHERE WHAT IT READS IS OF BULK AT MOST 1048576: true; the input reads as it did. -/
def frameMixedUptoRow : OpenClaim := { program := "ytjhdnpmojhkbjaa", sum := "92294eb6fe8209e3ae073801a25435c53bfdbc5c88e1072fb7d047ca90042b9b", func := "cassegrain/cassegrainlaw06.FrameMixed", spec := "frameMixed", unfollowed := true, recurses := true, apart := false, narrowed := true }
def FrameMixedUptoSaid : Prop := frameMixedUptoRow.holds Try.pinned (OpenSpec.upto frameMixedSpec)

/-- 'cassegrainlaw06.FrameFrames', WHERE WHAT IT READS IS OF BULK AT MOST 1048576: true; the input reads as it did. -/
def frameFramesUptoRow : OpenClaim := { program := "ytjhdnpmojhkbjaa", sum := "92294eb6fe8209e3ae073801a25435c53bfdbc5c88e1072fb7d047ca90042b9b", func := "cassegrain/cassegrainlaw06.FrameFrames", spec := "frameFrames", unfollowed := true, recurses := true, apart := false, narrowed := true }
def FrameFramesUptoSaid : Prop := frameFramesUptoRow.holds Try.pinned (OpenSpec.upto frameFramesSpec)

/-- 'cassegrainlaw06.FrameChanges', WHERE WHAT IT READS IS OF BULK AT MOST 1048576: true; the input reads as it did. -/
def frameChangesUptoRow : OpenClaim := { program := "ytjhdnpmojhkbjaa", sum := "92294eb6fe8209e3ae073801a25435c53bfdbc5c88e1072fb7d047ca90042b9b", func := "cassegrain/cassegrainlaw06.FrameChanges", spec := "frameChanges", unfollowed := true, recurses := true, apart := false, narrowed := true }
def FrameChangesUptoSaid : Prop := frameChangesUptoRow.holds Try.pinned (OpenSpec.upto frameChangesSpec)

/-- 'cassegrainlaw06.FrameOrders', WHERE WHAT IT READS IS OF BULK AT MOST 1048576: true; the input reads as it did. -/
def frameOrdersUptoRow : OpenClaim := { program := "ytjhdnpmojhkbjaa", sum := "92294eb6fe8209e3ae073801a25435c53bfdbc5c88e1072fb7d047ca90042b9b", func := "cassegrain/cassegrainlaw06.FrameOrders", spec := "frameOrders", unfollowed := true, recurses := true, apart := false, narrowed := true }
def FrameOrdersUptoSaid : Prop := frameOrdersUptoRow.holds Try.pinned (OpenSpec.upto frameOrdersSpec)

end Rows
end Go.Proofs.Ytjhdnpmojhkbjaa
