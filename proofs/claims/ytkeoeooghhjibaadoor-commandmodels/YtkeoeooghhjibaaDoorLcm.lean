/- CommandModels: for every input it returns true, and the arguments read as they did; the card ties the listed variables. No condition. -/
import Derived.Test.YtkeoeooghhjibaaDoorWq
import Derived.Test.YtkeoeooghhjibaaDoorCards
import Derived.Test.YtkeoeooghhjibaaDoorTie
import Derived.SevenTiedAt
namespace Go.Proofs.YtkeoeooghhjibaaDoor
open Go.ChangeShapes Go.WideShapes Go.ChangeAt Go.RowKit
theorem sh3_0:ZnR Tryd.prog 8 26=some [.big .str, .big (.agg [.str, .int .i64]), .big (.agg [.str, .int .i64, .int .i64, .int .i64, .int .i64])]:=by kernel_rfl
theorem sh3_1:ZnR Tryd.prog 8 27=some [.big (.agg [.int .i64, .int .i64, .int .i64])]:=by kernel_rfl
theorem door3(os:Os)(args:Array Value):laidMetH Tryd.prog Rows.commandModelsRow.laid ((World.doorLaid Tryd.prog 400 os).forCall (fun _ _=>0) ⟨#[],args,[]⟩).memory:=
 laidMetH_of_parts3 (fuel:=8) (laidMet_of_run' 8 (by kernel_rfl) (by kernel_rfl)) (by kernel_rfl) (by kernel_rfl)
set_option maxRecDepth 100000 in
theorem law3(os:Os)(started:os.Started)(H:Type)(enc:TypeId×Value→H):
 ReturnsInHanded {} Tryd.checked os 3 .any (fun w args=>(Rows.commandModelsSpec.pre enc Tryd.prog Tryd.f3 [] false w args∧laidMetH Tryd.prog Rows.commandModelsRow.laid w)∧sizedMet enc Tryd.prog Tryd.f3 (OpenSpec.ofChange Rows.commandModelsSpec) false w args) (Rows.commandModelsSpec.post enc Tryd.prog Tryd.f3 false true false false):=by
 refine returnsInHanded_of_change_and (C:=Tryd.checked) (X:=fun w _=>laidMetH Tryd.prog Rows.commandModelsRow.laid w) (fun _ _ _ hh h=>h.of_heap hh) own started (by kernel_rfl) Tryd.func3
  (ChangeSpec.witness_shaped (enc:=enc) (C:=Tryd.checked) (os:=os) (X:=fun w _=>laidMetH Tryd.prog Rows.commandModelsRow.laid w) false (World.doorLaid Tryd.prog 400 os) #[.agg #[.slice none 0 0, .slice none 0 0, .slice none 0 0], .slice none 0 0] 8 rfl (World.shaped_of_RefB (by kernel_rfl) (by kernel_rfl)) (by kernel_rfl) (by kernel_rfl) (by kernel_rfl) (door3 os _)) ?_
 intro W base args ds gs before hval0 hW _ _ _ _
 have hval:∀(j:Nat) t v,Tryd.f3.params[j]? =some t→args[j]? =some v→Value.okWide Tryd.prog W .any base t v:=hval0
 have hW':=hW
 obtain⟨p,q,hA0,hV,rfl,_,_⟩:=hW
 have hA:DataW.TrodAll enc Tryd.prog W 0 (fun _=>true) true Tryd.f3.params.toList args.toList ds p:=hA0
 rw[Tryd.params3]at hA hval
 obtain⟨v0,v1,d0,d1,p0,p1,rfl,rfl,rfl,h0,h1⟩:=trodAll_two hA
 obtain⟨rfl,rfl⟩:=trodVars_none hV
 have hlt:∀x∈p0++p1,x.block<W.heap.size:=fun x hx=>by simpa using hW'.lt x (by simpa using hx)
 obtain⟨us0,r0,c0⟩:=Zrm (L:=⟨fun _ _=>0,fun _ _=>0⟩) sh3_0 (okWide_struct Tryd.underlying26 (hval 0 26 v0 rfl rfl)) h0
 obtain⟨ms,ks,rs,rfl⟩:=Zmz c0
 obtain⟨u1,r1,c1⟩:=ZsP (L:=⟨fun _ _=>0,fun _ _=>0⟩) sh3_1 (by obtain⟨a,l,c,rfl⟩:=okWide_slice Tryd.underlying27 (hval 1 27 v1 rfl rfl);rfl) h1
 obtain⟨l,rfl⟩:=ZjB c1
 refine(ZmR (Zla ms ks rs l) (RelL.cons ( r0) (RelL.cons ( r1) RelL.nil))).mono fun e W' ⟨he,hb⟩=>?_
 subst he
 refine⟨_,rfl,_,_,_,[],p0++p1,[],hW',trodAll_mk1 (shut_bool Tryd.underlying4 true),?_,rfl,hb.frame _,fun h=>by cases h⟩
 exact trodAll_mk2 (Below.trod Zl1 (by kernel_rfl) (of_decide_eq_true (by kernel_rfl)) h0 hb (fun x hx=>hlt x (List.mem_append_left _ hx))) (Below.trod Zl1 (by kernel_rfl) (of_decide_eq_true (by kernel_rfl)) h1 hb (fun x hx=>hlt x (List.mem_append_right _ hx)))
theorem n3 : Tryd.checked.prog.funcNamed "cassegrain/cassegrainlaw08.CommandModels" = some 3 := by kernel_rfl
theorem j3:joinedFacts Tryd.checked.prog 3 Tryd.f3 Rows.commandModelsSpec Rows.commandModelsRow=true:=by kernel_rfl
theorem i3:Tryd.f3.isInstance Tryd.checked.prog Rows.commandModelsRow.origin Rows.commandModelsRow.targs:=of_decide_eq_true (by kernel_rfl)
theorem w3:Tryd.f3.isWrapper Tryd.checked.prog Rows.commandModelsRow.wrapper Rows.commandModelsRow.mainSum:=by
 unfold Func.isWrapper
 first |(rw [if_pos (by decide +kernel)];kernel_rfl) |(rw [if_neg (by decide +kernel)];exact⟨rfl,rfl⟩)
theorem CommandModels_said:Rows.CommandModelsSaid:=
 OpenClaim.holds_of_wide 3 Tryd.f3 rfl rfl rfl rfl rfl rfl rfl ⟨rfl,rfl,rfl,rfl,rfl⟩ rfl rfl rfl rfl rfl n3 Tryd.func3 j3 i3 w3 (fun os started H enc _=>law3 os started H enc)
theorem CommandModels_holds:Rows.CommandModelsCardSaid:=
 Claim7.holds_tied_plain_at .later [] [.data, .data, .data] true (true, "61ceb6d36ce798be62b0c0c423765d3d7f1a0ca9ac04062ab8778cb18cec1579") false
  CommandModels_said (fun _ h=>by cases h) (by kernel_rfl) (fun _ h=>by cases h) commandModels_row_tie rfl ⟨rfl,rfl⟩ (by kernel_rfl) rfl
  (fun f fn hf hfn=>by
    obtain rfl : f = 3 := Option.some.inj ((show Tryd.prog.funcNamed "cassegrain/cassegrainlaw08.CommandModels" = some 3 by kernel_rfl).symm.trans hf) |>.symm
    obtain rfl:fn=Tryd.f3:=(Option.some.inj (Tryd.func3.symm.trans hfn)).symm
    exact⟨by kernel_rfl,fun j t ht=>by
     rw[Tryd.params3]at ht
     have hm:t∈[26,27]:=by simpa using Array.mem_of_getElem? ht
     have hall:([26,27].all fun u=>!Tryd.prog.wantsStandIn u)=true:=by kernel_rfl
     exact(show Tryd.prog.wantsStandIn t=false by simpa using List.all_eq_true.1 hall t hm)⟩)
  (by kernel_rfl)
#print axioms CommandModels_holds
end Go.Proofs.YtkeoeooghhjibaaDoor
