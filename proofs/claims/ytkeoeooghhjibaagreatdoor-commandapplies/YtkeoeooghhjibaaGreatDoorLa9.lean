/- CommandApplies: for every input it returns true, and the arguments read as they did; the card ties the listed variables. No condition. -/
import Derived.Test.YtkeoeooghhjibaaGreatDoorEd
import Derived.Test.YtkeoeooghhjibaaGreatDoorCards
import Derived.Test.YtkeoeooghhjibaaGreatDoorTie
import Derived.SevenTiedAt
namespace Go.Proofs.YtkeoeooghhjibaaGreatDoor
open Go.ChangeShapes Go.WideShapes Go.ChangeAt Go.RowKit
theorem sh9_0:ZvQ Tryz.prog 8 29=some [.big .str, .big (.agg [.str, .int .i64]), .big (.agg [.str, .int .i64, .int .i64, .int .i64, .int .i64]), .big (.agg [.int .i64, .int .i64, .int .i64]), .int .i64, .int .i64]:=by kernel_rfl
theorem sh9_1:ZvQ Tryz.prog 8 37=some [.int .i64, .int .i64, .big (.agg [.int .i64, .int .i64]), .bool, .int .i64, .bool, .ints .i64, .big (.agg [.int .i64, .bool])]:=by kernel_rfl
theorem sh9_2:ZvQ Tryz.prog 8 63=some [.int .i64, .int .i64]:=by kernel_rfl
theorem door9(os:Os)(args:Array Value):laidMetH Tryz.prog Rows.commandAppliesRow.laid ((World.doorLaid Tryz.prog 400 os).forCall (fun _ _=>0) ⟨#[],args,[]⟩).memory:=
 laidMetH_of_parts3 (fuel:=8) (laidMet_of_run' 8 (by kernel_rfl) (by kernel_rfl)) (by kernel_rfl) (by kernel_rfl)
set_option maxRecDepth 100000 in
theorem law9(os:Os)(started:os.Started)(H:Type)(enc:TypeId×Value→H):
 ReturnsInHanded {} Tryz.checked os 9 .any (fun w args=>(Rows.commandAppliesSpec.pre enc Tryz.prog Tryz.f9 [] false w args∧laidMetH Tryz.prog Rows.commandAppliesRow.laid w)∧sizedMet enc Tryz.prog Tryz.f9 (OpenSpec.ofChange Rows.commandAppliesSpec) false w args) (Rows.commandAppliesSpec.post enc Tryz.prog Tryz.f9 false true false false):=by
 refine returnsInHanded_of_change_and (C:=Tryz.checked) (X:=fun w _=>laidMetH Tryz.prog Rows.commandAppliesRow.laid w) (fun _ _ _ hh h=>h.of_heap hh) own started (by kernel_rfl) Tryz.func9
  (ChangeSpec.witness_shaped (enc:=enc) (C:=Tryz.checked) (os:=os) (X:=fun w _=>laidMetH Tryz.prog Rows.commandAppliesRow.laid w) false (World.doorLaid Tryz.prog 400 os) #[.agg #[.slice none 0 0, .slice none 0 0, .slice none 0 0, .slice none 0 0, .int .i64 0, .int .i64 0], .agg #[.int .i64 0, .int .i64 0, .slice none 0 0, .bool false, .int .i64 0, .bool false, .slice none 0 0, .slice none 0 0], .agg #[.int .i64 0, .int .i64 0]] 8 rfl (World.shaped_of_RefB (by kernel_rfl) (by kernel_rfl)) (by kernel_rfl) (by kernel_rfl) (by kernel_rfl) (door9 os _)) ?_
 intro W base args ds gs before hval0 hW _ _ _ _
 have hval:∀(j:Nat) t v,Tryz.f9.params[j]? =some t→args[j]? =some v→Value.okWide Tryz.prog W .any base t v:=hval0
 have hW':=hW
 obtain⟨p,q,hA0,hV,rfl,_,_⟩:=hW
 have hA:DataW.TrodAll enc Tryz.prog W 0 (fun _=>true) true Tryz.f9.params.toList args.toList ds p:=hA0
 rw[Tryz.params9]at hA hval
 obtain⟨v0,v1,v2,d0,d1,d2,p0,p1,p2,rfl,rfl,rfl,h0,h1,h2⟩:=trodAll_three hA
 obtain⟨rfl,rfl⟩:=trodVars_none hV
 have hlt:∀x∈p0++(p1++p2),x.block<W.heap.size:=fun x hx=>by simpa using hW'.lt x (by simpa using hx)
 obtain⟨us0,r0,c0⟩:=ZrP (L:=⟨fun _ _=>0,fun _ _=>0⟩) sh9_0 (okWide_struct Tryz.underlying29 (hval 0 29 v0 rfl rfl)) h0
 obtain⟨ms,ks,rs,l,wn,fl,rfl⟩:=ZrQ c0
 obtain⟨us1,r1,c1⟩:=ZrP (L:=⟨fun _ _=>0,fun _ _=>0⟩) sh9_1 (okWide_struct Tryz.underlying37 (hval 1 37 v1 rfl rfl)) h1
 obtain⟨at0,mo,dn,ha,ba,to,dw,up,rfl⟩:=ZtS c1
 obtain⟨us2,r2,c2⟩:=ZrP (L:=⟨fun _ _=>0,fun _ _=>0⟩) sh9_2 (okWide_struct Tryz.underlying63 (hval 2 63 v2 rfl rfl)) h2
 obtain⟨ek,en,rfl⟩:=Zu8 c2
 refine(Zuw trivial (Zn2 ms ks rs l wn fl at0 mo dn ha ba to dw up ek en) (RelL.cons ( r0) (RelL.cons ( r1) (RelL.cons ( r2) RelL.nil)))).mono fun e W' ⟨he,hb⟩=>?_
 subst he
 refine⟨_,rfl,_,_,_,[],p0++(p1++p2),[],hW',trodAll_mk1 (shut_bool Tryz.underlying4 true),?_,rfl,hb.frame _,fun h=>by cases h⟩
 exact trodAll_mk3 (Below.trod ZnJ (by kernel_rfl) (of_decide_eq_true (by kernel_rfl)) h0 hb (fun x hx=>hlt x (List.mem_append_left _ hx))) (Below.trod ZnJ (by kernel_rfl) (of_decide_eq_true (by kernel_rfl)) h1 hb (fun x hx=>hlt x (List.mem_append_right _ (List.mem_append_left _ hx)))) (Below.trod ZnJ (by kernel_rfl) (of_decide_eq_true (by kernel_rfl)) h2 hb (fun x hx=>hlt x (List.mem_append_right _ (List.mem_append_right _ hx))))
theorem n9 : Tryz.checked.prog.funcNamed "cassegrain/cassegrainlaw08.CommandApplies" = some 9 := by kernel_rfl
theorem j9:joinedFacts Tryz.checked.prog 9 Tryz.f9 Rows.commandAppliesSpec Rows.commandAppliesRow=true:=by kernel_rfl
theorem i9:Tryz.f9.isInstance Tryz.checked.prog Rows.commandAppliesRow.origin Rows.commandAppliesRow.targs:=of_decide_eq_true (by kernel_rfl)
theorem w9:Tryz.f9.isWrapper Tryz.checked.prog Rows.commandAppliesRow.wrapper Rows.commandAppliesRow.mainSum:=by
 unfold Func.isWrapper
 first |(rw [if_pos (by decide +kernel)];kernel_rfl) |(rw [if_neg (by decide +kernel)];exact⟨rfl,rfl⟩)
theorem CommandApplies_said:Rows.CommandAppliesSaid:=
 OpenClaim.holds_of_wide 9 Tryz.f9 rfl rfl rfl rfl rfl rfl rfl ⟨rfl,rfl,rfl,rfl,rfl⟩ rfl rfl rfl rfl rfl n9 Tryz.func9 j9 i9 w9 (fun os started H enc _=>law9 os started H enc)
theorem CommandApplies_holds:Rows.CommandAppliesCardSaid:=
 Claim7.holds_tied_plain_at .later [] [.data, .data, .data] true (true, "8c1ed7d8057f43ebcdbb04c28ebc619118c2b9edc4e61f717e99dd8a4395b1c5") true
  CommandApplies_said (fun _ h=>by cases h) (by kernel_rfl) (fun _ h=>by cases h) commandApplies_row_tie rfl ⟨rfl,rfl⟩ (by kernel_rfl) rfl
  (fun f fn hf hfn=>by
    obtain rfl : f = 9 := Option.some.inj ((show Tryz.prog.funcNamed "cassegrain/cassegrainlaw08.CommandApplies" = some 9 by kernel_rfl).symm.trans hf) |>.symm
    obtain rfl:fn=Tryz.f9:=(Option.some.inj (Tryz.func9.symm.trans hfn)).symm
    exact⟨by kernel_rfl,fun j t ht=>by
     rw[Tryz.params9]at ht
     have hm:t∈[29,37,63]:=by simpa using Array.mem_of_getElem? ht
     have hall:([29,37,63].all fun u=>!Tryz.prog.wantsStandIn u)=true:=by kernel_rfl
     exact(show Tryz.prog.wantsStandIn t=false by simpa using List.all_eq_true.1 hall t hm)⟩)
  (by kernel_rfl)
#print axioms CommandApplies_holds
end Go.Proofs.YtkeoeooghhjibaaGreatDoor
