/- CommandRules: for every input it returns true, and the arguments read as they did; the card ties the listed variables. No condition. -/
import Derived.Test.YtkeoeooghhjibaaDoorWq
import Derived.Test.YtkeoeooghhjibaaDoorCards
import Derived.Test.YtkeoeooghhjibaaDoorTie
import Derived.SevenTiedAt
namespace Go.Proofs.YtkeoeooghhjibaaDoor
open Go.ChangeShapes Go.WideShapes Go.ChangeAt Go.RowKit
theorem sh4_0:ZnO Tryd.prog 8 26=some [.big .str, .big (.agg [.str, .int .i64]), .big (.agg [.str, .int .i64, .int .i64, .int .i64, .int .i64])]:=by kernel_rfl
theorem sh4_1:ZnO Tryd.prog 8 46=some [.int .i64, .int .i64, .ints .i64]:=by kernel_rfl
theorem sh4_2:ZnO Tryd.prog 8 3=some [.int .i64]:=by kernel_rfl
theorem door4(os:Os)(args:Array Value):laidMetH Tryd.prog Rows.commandRulesRow.laid ((World.doorLaid Tryd.prog 400 os).forCall (fun _ _=>0) ⟨#[],args,[]⟩).memory:=
 laidMetH_of_parts3 (fuel:=8) (laidMet_of_run' 8 (by kernel_rfl) (by kernel_rfl)) (by kernel_rfl) (by kernel_rfl)
set_option maxRecDepth 100000 in
theorem law4(os:Os)(started:os.Started)(H:Type)(enc:TypeId×Value→H):
 ReturnsInHanded {} Tryd.checked os 4 .any (fun w args=>(Rows.commandRulesSpec.pre enc Tryd.prog Tryd.f4 [] false w args∧laidMetH Tryd.prog Rows.commandRulesRow.laid w)∧sizedMet enc Tryd.prog Tryd.f4 (OpenSpec.ofChange Rows.commandRulesSpec) false w args) (Rows.commandRulesSpec.post enc Tryd.prog Tryd.f4 false true false false):=by
 refine returnsInHanded_of_change_and (C:=Tryd.checked) (X:=fun w _=>laidMetH Tryd.prog Rows.commandRulesRow.laid w) (fun _ _ _ hh h=>h.of_heap hh) own started (by kernel_rfl) Tryd.func4
  (ChangeSpec.witness_shaped (enc:=enc) (C:=Tryd.checked) (os:=os) (X:=fun w _=>laidMetH Tryd.prog Rows.commandRulesRow.laid w) false (World.doorLaid Tryd.prog 400 os) #[.agg #[.slice none 0 0, .slice none 0 0, .slice none 0 0], .agg #[.int .i64 0, .int .i64 0, .slice none 0 0], .int .i64 0] 8 rfl (World.shaped_of_RefB (by kernel_rfl) (by kernel_rfl)) (by kernel_rfl) (by kernel_rfl) (by kernel_rfl) (door4 os _)) ?_
 intro W base args ds gs before hval0 hW _ _ _ _
 have hval:∀(j:Nat) t v,Tryd.f4.params[j]? =some t→args[j]? =some v→Value.okWide Tryd.prog W .any base t v:=hval0
 have hW':=hW
 obtain⟨p,q,hA0,hV,rfl,_,_⟩:=hW
 have hA:DataW.TrodAll enc Tryd.prog W 0 (fun _=>true) true Tryd.f4.params.toList args.toList ds p:=hA0
 rw[Tryd.params4]at hA hval
 obtain⟨v0,v1,v2,d0,d1,d2,p0,p1,p2,rfl,rfl,rfl,h0,h1,h2⟩:=trodAll_three hA
 obtain⟨rfl,rfl⟩:=trodVars_none hV
 have hlt:∀x∈p0++(p1++p2),x.block<W.heap.size:=fun x hx=>by simpa using hW'.lt x (by simpa using hx)
 obtain⟨us0,r0,c0⟩:=Zn4 (L:=⟨fun _ _=>0,fun _ _=>0⟩) sh4_0 (okWide_struct Tryd.underlying26 (hval 0 26 v0 rfl rfl)) h0
 obtain⟨ms,ks,rs,rfl⟩:=Znq c0
 obtain⟨us1,r1,c1⟩:=Zn4 (L:=⟨fun _ _=>0,fun _ _=>0⟩) sh4_1 (okWide_struct Tryd.underlying46 (hval 1 46 v1 rfl rfl)) h1
 obtain⟨a,b,xs,rfl⟩:=Zll c1
 obtain⟨u2,r2,c2⟩:=ZrI (L:=⟨fun _ _=>0,fun _ _=>0⟩) sh4_2 (by obtain⟨n,rfl⟩:=okWide_int Tryd.underlying3 (hval 2 3 v2 rfl rfl);rfl) h2
 obtain⟨k,rfl,_⟩:=Zlk c2
 refine(ZmZ (Zm2 ms ks rs a b xs k) (RelL.cons ( r0) (RelL.cons ( r1) (RelL.cons ( r2) RelL.nil)))).mono fun e W' ⟨he,hb⟩=>?_
 subst he
 refine⟨_,rfl,_,_,_,[],p0++(p1++p2),[],hW',trodAll_mk1 (shut_bool Tryd.underlying4 true),?_,rfl,hb.frame _,fun h=>by cases h⟩
 exact trodAll_mk3 (Below.trod ZiM (by kernel_rfl) (of_decide_eq_true (by kernel_rfl)) h0 hb (fun x hx=>hlt x (List.mem_append_left _ hx))) (Below.trod ZiM (by kernel_rfl) (of_decide_eq_true (by kernel_rfl)) h1 hb (fun x hx=>hlt x (List.mem_append_right _ (List.mem_append_left _ hx)))) (Below.trod ZiM (by kernel_rfl) (of_decide_eq_true (by kernel_rfl)) h2 hb (fun x hx=>hlt x (List.mem_append_right _ (List.mem_append_right _ hx))))
theorem n4 : Tryd.checked.prog.funcNamed "cassegrain/cassegrainlaw08.CommandRules" = some 4 := by kernel_rfl
theorem j4:joinedFacts Tryd.checked.prog 4 Tryd.f4 Rows.commandRulesSpec Rows.commandRulesRow=true:=by kernel_rfl
theorem i4:Tryd.f4.isInstance Tryd.checked.prog Rows.commandRulesRow.origin Rows.commandRulesRow.targs:=of_decide_eq_true (by kernel_rfl)
theorem w4:Tryd.f4.isWrapper Tryd.checked.prog Rows.commandRulesRow.wrapper Rows.commandRulesRow.mainSum:=by
 unfold Func.isWrapper
 first |(rw [if_pos (by decide +kernel)];kernel_rfl) |(rw [if_neg (by decide +kernel)];exact⟨rfl,rfl⟩)
theorem CommandRules_said:Rows.CommandRulesSaid:=
 OpenClaim.holds_of_wide 4 Tryd.f4 rfl rfl rfl rfl rfl rfl rfl ⟨rfl,rfl,rfl,rfl,rfl⟩ rfl rfl rfl rfl rfl n4 Tryd.func4 j4 i4 w4 (fun os started H enc _=>law4 os started H enc)
theorem CommandRules_holds:Rows.CommandRulesCardSaid:=
 Claim7.holds_tied_plain_at .later [] [.data, .data, .data] true (true, "61ceb6d36ce798be62b0c0c423765d3d7f1a0ca9ac04062ab8778cb18cec1579") false
  CommandRules_said (fun _ h=>by cases h) (by kernel_rfl) (fun _ h=>by cases h) commandRules_row_tie rfl ⟨rfl,rfl⟩ (by kernel_rfl) rfl
  (fun f fn hf hfn=>by
    obtain rfl : f = 4 := Option.some.inj ((show Tryd.prog.funcNamed "cassegrain/cassegrainlaw08.CommandRules" = some 4 by kernel_rfl).symm.trans hf) |>.symm
    obtain rfl:fn=Tryd.f4:=(Option.some.inj (Tryd.func4.symm.trans hfn)).symm
    exact⟨by kernel_rfl,fun j t ht=>by
     rw[Tryd.params4]at ht
     have hm:t∈[26,46,3]:=by simpa using Array.mem_of_getElem? ht
     have hall:([26,46,3].all fun u=>!Tryd.prog.wantsStandIn u)=true:=by kernel_rfl
     exact(show Tryd.prog.wantsStandIn t=false by simpa using List.all_eq_true.1 hall t hm)⟩)
  (by kernel_rfl)
#print axioms CommandRules_holds
end Go.Proofs.YtkeoeooghhjibaaDoor
