/-
  No cell of these rows narrows 'for every input' (looked for: loops, veiled, ifaces, maps, wideKeys, modest, calm, conditions, laid).
  DERIVED. THE GIVEN ROWS OF THIS SEAT. 9 by the template 'for every input the law returns true; each argument reads behind the call as it read before'; 0 by the template 'total and deterministic' (their statements: YtklbmkllepkjcaaTotals.lean).
  GIVEN WITH THE SEED: the statements are not yours to turn. If you find one false, say at which input.
  Laid BY PROGRAM, IN A SANDBOX (cutbox-rows.mjs): the forced cells as the released guide's own fill.sh prints them over the translation 85dfc87173e11c26… (all of the seat's roots in one cut). By AI agents, Wed Nov 11 2026. No macro, syntax, notation, axiom, sorry.
-/
import Derived.Test.YtklbmkllepkjcaaChecked
import GoSem.Claim
import GoSem.ClaimJoined
import GoSem.ClaimMapViews
import Derived.JoinedTies
import Derived.KernelRfl
namespace Go.Proofs.Ytklbmkllepkjcaa
/- THE CELL 'sum', in the pinned program and in every row, IS THE sha256 OF THE DUMP (.gsa) THAT YtklbmkllepkjcaaProg.lean LOADS. Nothing in Lean hashes anything: it is a label: what it is worth is what the hold of that sum in a sandbox is worth. -/
noncomputable def Try.pinned : Pinned := { name := "ytklbmkllepkjcaa", sum := "85dfc87173e11c26045451c5ac1f57a4e2418948f5efcf96c8f1efc1364ab46b", checked := Try.checked }
namespace Rows
def none {H : Type} : Left H := { results := [], args := [] }

/-- 'cassegrainlaw05.CodeBest': WHATEVER THE INPUT: true; the input reads as it did. -/
def codeBestSpec : ChangeSpec := { name := "codeBest", fn := fun _ => fun
  | [d1, d2] => { results := [.lit (.bool true)], args := [d1, d2] }
  | _ => none }
def codeBestRow : OpenClaim := { program := "ytklbmkllepkjcaa", sum := "85dfc87173e11c26045451c5ac1f57a4e2418948f5efcf96c8f1efc1364ab46b", func := "cassegrain/cassegrainlaw05.CodeBest", spec := "codeBest", unfollowed := true, recurses := true, apart := false }
def CodeBestSaid : Prop := codeBestRow.holds Try.pinned (OpenSpec.ofChange codeBestSpec)

/-- ITS FALSE NEIGHBOUR: 'it returns false'. Refute it at one input. -/
def codeBestWrong : ChangeSpec := { name := "codeBest", fn := fun _ => fun
  | [d1, d2] => { results := [.lit (.bool false)], args := [d1, d2] }
  | _ => none }
def CodeBestWrongFalsely : Prop := codeBestRow.holds Try.pinned (OpenSpec.ofChange codeBestWrong)

/-- 'cassegrainlaw05.CodeBlocks': WHATEVER THE INPUT: true; the input reads as it did. -/
def codeBlocksSpec : ChangeSpec := { name := "codeBlocks", fn := fun _ => fun
  | [d1, d2, d3] => { results := [.lit (.bool true)], args := [d1, d2, d3] }
  | _ => none }
def codeBlocksRow : OpenClaim := { program := "ytklbmkllepkjcaa", sum := "85dfc87173e11c26045451c5ac1f57a4e2418948f5efcf96c8f1efc1364ab46b", func := "cassegrain/cassegrainlaw05.CodeBlocks", spec := "codeBlocks", unfollowed := true, recurses := true, apart := false }
def CodeBlocksSaid : Prop := codeBlocksRow.holds Try.pinned (OpenSpec.ofChange codeBlocksSpec)

/-- ITS FALSE NEIGHBOUR: 'it returns false'. Refute it at one input. -/
def codeBlocksWrong : ChangeSpec := { name := "codeBlocks", fn := fun _ => fun
  | [d1, d2, d3] => { results := [.lit (.bool false)], args := [d1, d2, d3] }
  | _ => none }
def CodeBlocksWrongFalsely : Prop := codeBlocksRow.holds Try.pinned (OpenSpec.ofChange codeBlocksWrong)

/-- 'cassegrainlaw05.CodeWithin': WHATEVER THE INPUT: true; the input reads as it did. -/
def codeWithinSpec : ChangeSpec := { name := "codeWithin", fn := fun _ => fun
  | [d1, d2, d3] => { results := [.lit (.bool true)], args := [d1, d2, d3] }
  | _ => none }
def codeWithinRow : OpenClaim := { program := "ytklbmkllepkjcaa", sum := "85dfc87173e11c26045451c5ac1f57a4e2418948f5efcf96c8f1efc1364ab46b", func := "cassegrain/cassegrainlaw05.CodeWithin", spec := "codeWithin", unfollowed := true, recurses := true, apart := false }
def CodeWithinSaid : Prop := codeWithinRow.holds Try.pinned (OpenSpec.ofChange codeWithinSpec)

/-- ITS FALSE NEIGHBOUR: 'it returns false'. Refute it at one input. -/
def codeWithinWrong : ChangeSpec := { name := "codeWithin", fn := fun _ => fun
  | [d1, d2, d3] => { results := [.lit (.bool false)], args := [d1, d2, d3] }
  | _ => none }
def CodeWithinWrongFalsely : Prop := codeWithinRow.holds Try.pinned (OpenSpec.ofChange codeWithinWrong)

/-- 'cassegrainlaw05.CodeProofs': WHATEVER THE INPUT: true; the input reads as it did. -/
def codeProofsSpec : ChangeSpec := { name := "codeProofs", fn := fun _ => fun
  | [d1, d2, d3] => { results := [.lit (.bool true)], args := [d1, d2, d3] }
  | _ => none }
def codeProofsRow : OpenClaim := { program := "ytklbmkllepkjcaa", sum := "85dfc87173e11c26045451c5ac1f57a4e2418948f5efcf96c8f1efc1364ab46b", func := "cassegrain/cassegrainlaw05.CodeProofs", spec := "codeProofs", unfollowed := true, recurses := true, apart := false }
def CodeProofsSaid : Prop := codeProofsRow.holds Try.pinned (OpenSpec.ofChange codeProofsSpec)

/-- ITS FALSE NEIGHBOUR: 'it returns false'. Refute it at one input. -/
def codeProofsWrong : ChangeSpec := { name := "codeProofs", fn := fun _ => fun
  | [d1, d2, d3] => { results := [.lit (.bool false)], args := [d1, d2, d3] }
  | _ => none }
def CodeProofsWrongFalsely : Prop := codeProofsRow.holds Try.pinned (OpenSpec.ofChange codeProofsWrong)

/-- 'cassegrainlaw05.CodeGap': WHATEVER THE INPUT: true; the input reads as it did. -/
def codeGapSpec : ChangeSpec := { name := "codeGap", fn := fun _ => fun
  | [d1, d2, d3] => { results := [.lit (.bool true)], args := [d1, d2, d3] }
  | _ => none }
def codeGapRow : OpenClaim := { program := "ytklbmkllepkjcaa", sum := "85dfc87173e11c26045451c5ac1f57a4e2418948f5efcf96c8f1efc1364ab46b", func := "cassegrain/cassegrainlaw05.CodeGap", spec := "codeGap", unfollowed := true, recurses := true, apart := false }
def CodeGapSaid : Prop := codeGapRow.holds Try.pinned (OpenSpec.ofChange codeGapSpec)

/-- ITS FALSE NEIGHBOUR: 'it returns false'. Refute it at one input. -/
def codeGapWrong : ChangeSpec := { name := "codeGap", fn := fun _ => fun
  | [d1, d2, d3] => { results := [.lit (.bool false)], args := [d1, d2, d3] }
  | _ => none }
def CodeGapWrongFalsely : Prop := codeGapRow.holds Try.pinned (OpenSpec.ofChange codeGapWrong)

/-- 'cassegrainlaw05.CodeDecodes': WHATEVER THE INPUT: true; the input reads as it did. -/
def codeDecodesSpec : ChangeSpec := { name := "codeDecodes", fn := fun _ => fun
  | [d1, d2, d3] => { results := [.lit (.bool true)], args := [d1, d2, d3] }
  | _ => none }
def codeDecodesRow : OpenClaim := { program := "ytklbmkllepkjcaa", sum := "85dfc87173e11c26045451c5ac1f57a4e2418948f5efcf96c8f1efc1364ab46b", func := "cassegrain/cassegrainlaw05.CodeDecodes", spec := "codeDecodes", unfollowed := true, recurses := true, apart := false }
def CodeDecodesSaid : Prop := codeDecodesRow.holds Try.pinned (OpenSpec.ofChange codeDecodesSpec)

/-- ITS FALSE NEIGHBOUR: 'it returns false'. Refute it at one input. -/
def codeDecodesWrong : ChangeSpec := { name := "codeDecodes", fn := fun _ => fun
  | [d1, d2, d3] => { results := [.lit (.bool false)], args := [d1, d2, d3] }
  | _ => none }
def CodeDecodesWrongFalsely : Prop := codeDecodesRow.holds Try.pinned (OpenSpec.ofChange codeDecodesWrong)

/-- 'cassegrainlaw05.CodeSentOne': WHATEVER THE INPUT: true; the input reads as it did. -/
def codeSentOneSpec : ChangeSpec := { name := "codeSentOne", fn := fun _ => fun
  | [d1, d2, d3] => { results := [.lit (.bool true)], args := [d1, d2, d3] }
  | _ => none }
def codeSentOneRow : OpenClaim := { program := "ytklbmkllepkjcaa", sum := "85dfc87173e11c26045451c5ac1f57a4e2418948f5efcf96c8f1efc1364ab46b", func := "cassegrain/cassegrainlaw05.CodeSentOne", spec := "codeSentOne", unfollowed := true, recurses := true, apart := false }
def CodeSentOneSaid : Prop := codeSentOneRow.holds Try.pinned (OpenSpec.ofChange codeSentOneSpec)

/-- ITS FALSE NEIGHBOUR: 'it returns false'. Refute it at one input. -/
def codeSentOneWrong : ChangeSpec := { name := "codeSentOne", fn := fun _ => fun
  | [d1, d2, d3] => { results := [.lit (.bool false)], args := [d1, d2, d3] }
  | _ => none }
def CodeSentOneWrongFalsely : Prop := codeSentOneRow.holds Try.pinned (OpenSpec.ofChange codeSentOneWrong)

/-- 'cassegrainlaw05.CodeLinks': WHATEVER THE INPUT: true; the input reads as it did. -/
def codeLinksSpec : ChangeSpec := { name := "codeLinks", fn := fun _ => fun
  | [d1, d2, d3] => { results := [.lit (.bool true)], args := [d1, d2, d3] }
  | _ => none }
def codeLinksRow : OpenClaim := { program := "ytklbmkllepkjcaa", sum := "85dfc87173e11c26045451c5ac1f57a4e2418948f5efcf96c8f1efc1364ab46b", func := "cassegrain/cassegrainlaw05.CodeLinks", spec := "codeLinks", unfollowed := true, recurses := true, apart := false }
def CodeLinksSaid : Prop := codeLinksRow.holds Try.pinned (OpenSpec.ofChange codeLinksSpec)

/-- ITS FALSE NEIGHBOUR: 'it returns false'. Refute it at one input. -/
def codeLinksWrong : ChangeSpec := { name := "codeLinks", fn := fun _ => fun
  | [d1, d2, d3] => { results := [.lit (.bool false)], args := [d1, d2, d3] }
  | _ => none }
def CodeLinksWrongFalsely : Prop := codeLinksRow.holds Try.pinned (OpenSpec.ofChange codeLinksWrong)

/-- 'cassegrainlaw05.CodeThrough': WHATEVER THE INPUT: true; the input reads as it did. -/
def codeThroughSpec : ChangeSpec := { name := "codeThrough", fn := fun _ => fun
  | [d1, d2, d3] => { results := [.lit (.bool true)], args := [d1, d2, d3] }
  | _ => none }
def codeThroughRow : OpenClaim := { program := "ytklbmkllepkjcaa", sum := "85dfc87173e11c26045451c5ac1f57a4e2418948f5efcf96c8f1efc1364ab46b", func := "cassegrain/cassegrainlaw05.CodeThrough", spec := "codeThrough", unfollowed := true, recurses := true, apart := false }
def CodeThroughSaid : Prop := codeThroughRow.holds Try.pinned (OpenSpec.ofChange codeThroughSpec)

/-- ITS FALSE NEIGHBOUR: 'it returns false'. Refute it at one input. -/
def codeThroughWrong : ChangeSpec := { name := "codeThrough", fn := fun _ => fun
  | [d1, d2, d3] => { results := [.lit (.bool false)], args := [d1, d2, d3] }
  | _ => none }
def CodeThroughWrongFalsely : Prop := codeThroughRow.holds Try.pinned (OpenSpec.ofChange codeThroughWrong)

/- THE SECOND FORM. 'bulk': how many values and letters a reading holds, each counted each time it is reached (what is shared counts as often as it is met; a slice's spare places count too). A statement '..UptoSaid' is the law's where the arguments, and the package variables that the reading takes, are together of bulk at most 1048576: NARROWER than '..Said'. Prove '..Said' where nothing that the law and all that it calls make is longer than what came in: it says more and counts as full. Else prove '..UptoSaid'. A law counts once. -/
mutual
def uptoBulk {H : Type} : DataW H → Nat
  | .lit (.string bytes) => bytes.length + 1
  | .lit _ => 1
  | .nil => 1
  | .ptr d => uptoBulk d + 1
  | .slice elems spare => uptoBulkAll elems + uptoBulkAll spare + 1
  | .agg parts => uptoBulkAll parts + 1
  | .iface _ d => uptoBulk d + 1
  | .map entries => uptoBulkEntries entries + 1
  | .held _ => 1
def uptoBulkAll {H : Type} : List (DataW H) → Nat
  | [] => 0
  | d :: r => uptoBulk d + uptoBulkAll r
def uptoBulkEntries {H : Type} : List (Lit × DataW H) → Nat
  | [] => 0
  | x :: r => uptoBulkEntry x + uptoBulkEntries r
def uptoBulkEntry {H : Type} : Lit × DataW H → Nat
  | (.string bytes, d) => bytes.length + uptoBulk d + 1
  | (_, d) => uptoBulk d + 1
 end
def uptoSmall : (H : Type) → List (DataW H) → Bool := fun _ ds => decide (uptoBulkAll ds ≤ 1048576)
def OpenSpec.upto (s : _root_.Go.ChangeSpec) : _root_.Go.OpenSpec := { _root_.Go.OpenSpec.ofChange s with cond := some uptoSmall }

/-- 'cassegrainlaw05.CodeBest', WHERE WHAT IT READS IS OF BULK AT MOST 1048576: true; the input reads as it did. -/
def codeBestUptoRow : OpenClaim := { program := "ytklbmkllepkjcaa", sum := "85dfc87173e11c26045451c5ac1f57a4e2418948f5efcf96c8f1efc1364ab46b", func := "cassegrain/cassegrainlaw05.CodeBest", spec := "codeBest", unfollowed := true, recurses := true, apart := false, narrowed := true }
def CodeBestUptoSaid : Prop := codeBestUptoRow.holds Try.pinned (OpenSpec.upto codeBestSpec)

/-- 'cassegrainlaw05.CodeBlocks', WHERE WHAT IT READS IS OF BULK AT MOST 1048576: true; the input reads as it did. -/
def codeBlocksUptoRow : OpenClaim := { program := "ytklbmkllepkjcaa", sum := "85dfc87173e11c26045451c5ac1f57a4e2418948f5efcf96c8f1efc1364ab46b", func := "cassegrain/cassegrainlaw05.CodeBlocks", spec := "codeBlocks", unfollowed := true, recurses := true, apart := false, narrowed := true }
def CodeBlocksUptoSaid : Prop := codeBlocksUptoRow.holds Try.pinned (OpenSpec.upto codeBlocksSpec)

/-- 'cassegrainlaw05.CodeWithin', WHERE WHAT IT READS IS OF BULK AT MOST 1048576: true; the input reads as it did. -/
def codeWithinUptoRow : OpenClaim := { program := "ytklbmkllepkjcaa", sum := "85dfc87173e11c26045451c5ac1f57a4e2418948f5efcf96c8f1efc1364ab46b", func := "cassegrain/cassegrainlaw05.CodeWithin", spec := "codeWithin", unfollowed := true, recurses := true, apart := false, narrowed := true }
def CodeWithinUptoSaid : Prop := codeWithinUptoRow.holds Try.pinned (OpenSpec.upto codeWithinSpec)

/-- 'cassegrainlaw05.CodeProofs', WHERE WHAT IT READS IS OF BULK AT MOST 1048576: true; the input reads as it did. -/
def codeProofsUptoRow : OpenClaim := { program := "ytklbmkllepkjcaa", sum := "85dfc87173e11c26045451c5ac1f57a4e2418948f5efcf96c8f1efc1364ab46b", func := "cassegrain/cassegrainlaw05.CodeProofs", spec := "codeProofs", unfollowed := true, recurses := true, apart := false, narrowed := true }
def CodeProofsUptoSaid : Prop := codeProofsUptoRow.holds Try.pinned (OpenSpec.upto codeProofsSpec)

/-- 'cassegrainlaw05.CodeGap', WHERE WHAT IT READS IS OF BULK AT MOST 1048576: true; the input reads as it did. -/
def codeGapUptoRow : OpenClaim := { program := "ytklbmkllepkjcaa", sum := "85dfc87173e11c26045451c5ac1f57a4e2418948f5efcf96c8f1efc1364ab46b", func := "cassegrain/cassegrainlaw05.CodeGap", spec := "codeGap", unfollowed := true, recurses := true, apart := false, narrowed := true }
def CodeGapUptoSaid : Prop := codeGapUptoRow.holds Try.pinned (OpenSpec.upto codeGapSpec)

/-- 'cassegrainlaw05.CodeDecodes', WHERE WHAT IT READS IS OF BULK AT MOST 1048576: true; the input reads as it did. -/
def codeDecodesUptoRow : OpenClaim := { program := "ytklbmkllepkjcaa", sum := "85dfc87173e11c26045451c5ac1f57a4e2418948f5efcf96c8f1efc1364ab46b", func := "cassegrain/cassegrainlaw05.CodeDecodes", spec := "codeDecodes", unfollowed := true, recurses := true, apart := false, narrowed := true }
def CodeDecodesUptoSaid : Prop := codeDecodesUptoRow.holds Try.pinned (OpenSpec.upto codeDecodesSpec)

/-- 'cassegrainlaw05.CodeSentOne', WHERE WHAT IT READS IS OF BULK AT MOST 1048576: true; the input reads as it did. -/
def codeSentOneUptoRow : OpenClaim := { program := "ytklbmkllepkjcaa", sum := "85dfc87173e11c26045451c5ac1f57a4e2418948f5efcf96c8f1efc1364ab46b", func := "cassegrain/cassegrainlaw05.CodeSentOne", spec := "codeSentOne", unfollowed := true, recurses := true, apart := false, narrowed := true }
def CodeSentOneUptoSaid : Prop := codeSentOneUptoRow.holds Try.pinned (OpenSpec.upto codeSentOneSpec)

/-- 'cassegrainlaw05.CodeLinks', WHERE WHAT IT READS IS OF BULK AT MOST 1048576: true; the input reads as it did. -/
def codeLinksUptoRow : OpenClaim := { program := "ytklbmkllepkjcaa", sum := "85dfc87173e11c26045451c5ac1f57a4e2418948f5efcf96c8f1efc1364ab46b", func := "cassegrain/cassegrainlaw05.CodeLinks", spec := "codeLinks", unfollowed := true, recurses := true, apart := false, narrowed := true }
def CodeLinksUptoSaid : Prop := codeLinksUptoRow.holds Try.pinned (OpenSpec.upto codeLinksSpec)

/-- 'cassegrainlaw05.CodeThrough', WHERE WHAT IT READS IS OF BULK AT MOST 1048576: true; the input reads as it did. -/
def codeThroughUptoRow : OpenClaim := { program := "ytklbmkllepkjcaa", sum := "85dfc87173e11c26045451c5ac1f57a4e2418948f5efcf96c8f1efc1364ab46b", func := "cassegrain/cassegrainlaw05.CodeThrough", spec := "codeThrough", unfollowed := true, recurses := true, apart := false, narrowed := true }
def CodeThroughUptoSaid : Prop := codeThroughUptoRow.holds Try.pinned (OpenSpec.upto codeThroughSpec)

end Rows
end Go.Proofs.Ytklbmkllepkjcaa
