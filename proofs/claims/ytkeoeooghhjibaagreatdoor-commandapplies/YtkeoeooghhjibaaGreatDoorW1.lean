/- Arguments' readings as the machine's values; how a law is closed. No condition. -/
import Derived.Test.YtkeoeooghhjibaaGreatDoorR0
import Derived.Test.YtkeoeooghhjibaaGreatDoorRows
import Derived.ProofKit
import Derived.ChangeSlices
import Derived.Carry
import Derived.OpenShut
import Derived.Deep.Matrix
import Derived.ChangeSame
namespace Go.Proofs.YtkeoeooghhjibaaGreatDoor
open Go.ChangeShapes Go.WideShapes Go.ChangeAt Go.RowKit
theorem own:ownKnob Tryz.prog.godebug=none:=by kernel_rfl
theorem ZnJ:laidOutB Tryz.prog=true:=by kernel_rfl
abbrev ZmV(W:World):Nat→Prop:=fun g=>g<W.heap.size
theorem ZBv{W:World}{a:Addr}{v:Value}(h:W.cell? a=some v):a.block<W.heap.size:=by
 unfold World.cell? at h
 cases hb:W.heap[a.block]? with
 |none=>simp[hb]at h
 |some o=>exact(Array.getElem?_eq_some_iff.1 hb).1
theorem Zuw{f:FuncId}{args:zA}{vs:Array Value}{W:World}(hG:GoodW Tryz.prog W W.heap.size 0)(hp:Zan Tryz.prog f args (.bool true) none)(hr:RelL W (ZmV W) [] ⟨fun _ _=>0,fun _ _=>0⟩ args vs.toList):
 Calls Tryz.prog f vs W fun e W'=>e=.returned (.bool true)∧Below W.heap.size W W':=by
 refine(hp W (ZmV W) _ vs hr (fun g hg=>hg) hG).mono ?_
 rintro e W' ⟨v,L',rfl,hb,hpo⟩
 refine⟨?_,hb⟩
 have:ZaH (Ctx.of Tryz.prog W (ZmV W) []) (ZaB none) L' W' (.bool true) v:=hpo.2
 cases this
 rfl
end Go.Proofs.YtkeoeooghhjibaaGreatDoor
namespace Go.Proofs.YtkeoeooghhjibaaGreatDoor
open Go.ChangeShapes Go.WideShapes Go.ChangeAt Go.RowKit Go.Deep
end Go.Proofs.YtkeoeooghhjibaaGreatDoor
