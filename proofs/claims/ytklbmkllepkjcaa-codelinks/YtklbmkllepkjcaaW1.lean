/- Arguments' readings as the machine's values; how a law is closed. No condition. -/
import Derived.Test.YtklbmkllepkjcaaR0
import Derived.Test.YtklbmkllepkjcaaRows
import Derived.ProofKit
import Derived.ChangeSlices
import Derived.Carry
import Derived.OpenShut
import Derived.Deep.Matrix
import Derived.ChangeSame
namespace Go.Proofs.Ytklbmkllepkjcaa
open Go.ChangeShapes Go.WideShapes Go.ChangeAt Go.RowKit
theorem own:ownKnob Try.prog.godebug=none:=by kernel_rfl
theorem ZrU:laidOutB Try.prog=true:=by kernel_rfl
abbrev Zpk(W:World):Nat→Prop:=fun g=>g<W.heap.size
theorem ZFi{W:World}{a:Addr}{v:Value}(h:W.cell? a=some v):a.block<W.heap.size:=by
 unfold World.cell? at h
 cases hb:W.heap[a.block]? with
 |none=>simp[hb]at h
 |some o=>exact(Array.getElem?_eq_some_iff.1 hb).1
theorem ZzI{f:FuncId}{args:List AV}{vs:Array Value}{W:World}(hG:GoodW Try.prog W W.heap.size 0)(hp:Zaj Try.prog f args (.bool true) none)(hr:RelL W (Zpk W) [] ⟨fun _ _=>0,fun _ _=>0⟩ args vs.toList):
 Calls Try.prog f vs W fun e W'=>e=.returned (.bool true)∧Below W.heap.size W W':=by
 refine(hp W (Zpk W) _ vs hr (fun g hg=>hg) hG).mono ?_
 rintro e W' ⟨v,L',rfl,hb,hpo⟩
 refine⟨?_,hb⟩
 have:Zaw (Ctx.of Try.prog W (Zpk W) []) (Zas none) L' W' (.bool true) v:=hpo.2
 cases this
 rfl
end Go.Proofs.Ytklbmkllepkjcaa
/- Arguments' readings: rows of integers, a parity-check code. No condition. -/
namespace Go.Proofs.Ytklbmkllepkjcaa
open Go.ChangeShapes Go.WideShapes Go.ChangeAt Go.RowKit Go.Deep
end Go.Proofs.Ytklbmkllepkjcaa
