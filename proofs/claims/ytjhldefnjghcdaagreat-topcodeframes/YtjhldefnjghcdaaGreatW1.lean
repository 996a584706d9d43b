/- Arguments' readings as the machine's values; how a law is closed. No condition. -/
import Derived.Test.YtjhldefnjghcdaaGreatR0
import Derived.Test.YtjhldefnjghcdaaGreatRows
import Derived.ProofKit
import Derived.ChangeSlices
import Derived.Carry
import Derived.OpenShut
import Derived.Deep.Matrix
import Derived.ChangeSame
namespace Go.Proofs.YtjhldefnjghcdaaGreat
open Go.ChangeShapes Go.WideShapes Go.ChangeAt Go.RowKit
theorem own:ownKnob Tryz.prog.godebug=none:=by kernel_rfl
theorem ZvY:laidOutB Tryz.prog=true:=by kernel_rfl
abbrev ZpO(W:World):Nat→Prop:=fun g=>g<W.heap.size
theorem ZA9{W:World}{a:Addr}{v:Value}(h:W.cell? a=some v):a.block<W.heap.size:=by
 unfold World.cell? at h
 cases hb:W.heap[a.block]? with
 |none=>simp[hb]at h
 |some o=>exact(Array.getElem?_eq_some_iff.1 hb).1
theorem Zzh{f:FuncId}{args:List AV}{vs:Array Value}{W:World}(hG:GoodW Tryz.prog W W.heap.size 0)(hp:ZaK Tryz.prog f args (.bool true) none)(hr:RelL W (ZpO W) [] ⟨fun _ _=>0,fun _ _=>0⟩ args vs.toList):
 Calls Tryz.prog f vs W fun e W'=>e=.returned (.bool true)∧Below W.heap.size W W':=by
 refine(hp W (ZpO W) _ vs hr (fun g hg=>hg) hG).mono ?_
 rintro e W' ⟨v,L',rfl,hb,hpo⟩
 refine⟨?_,hb⟩
 have:Zau (Ctx.of Tryz.prog W (ZpO W) []) (Zat none) L' W' (.bool true) v:=hpo.2
 cases this
 rfl
end Go.Proofs.YtjhldefnjghcdaaGreat
namespace Go.Proofs.YtjhldefnjghcdaaGreat
open Go.ChangeShapes Go.WideShapes Go.ChangeAt Go.RowKit Go.Deep
end Go.Proofs.YtjhldefnjghcdaaGreat
