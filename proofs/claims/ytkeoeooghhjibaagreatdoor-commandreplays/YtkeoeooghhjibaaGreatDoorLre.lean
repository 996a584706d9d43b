/- CommandReplays: for every input it returns true, and the arguments read as they did; the card ties the listed variables. No condition. -/
import Derived.Test.YtkeoeooghhjibaaGreatDoorEb
import Derived.Test.YtkeoeooghhjibaaGreatDoorCards
import Derived.Test.YtkeoeooghhjibaaGreatDoorTie
import Derived.SevenTiedAt
namespace Go.Proofs.YtkeoeooghhjibaaGreatDoor
open Go.ChangeShapes Go.WideShapes Go.ChangeAt Go.RowKit
theorem sh3_0:ZsG Tryz.prog 8 29=some [.big .str, .big (.agg [.str, .int .i64]), .big (.agg [.str, .int .i64, .int .i64, .int .i64, .int .i64]), .big (.agg [.int .i64, .int .i64, .int .i64]), .int .i64, .int .i64]:=by kernel_rfl
theorem sh3_1:ZsG Tryz.prog 8 30=some [.big (.agg [.int .i64, .int .i64])]:=by kernel_rfl
theorem door3(os:Os)(args:Array Value):laidMetH Tryz.prog Rows.commandReplaysRow.laid ((World.doorLaid Tryz.prog 400 os).forCall (fun _ _=>0) ⟨#[],args,[]⟩).memory:=
 laidMetH_of_parts3 (fuel:=8) (laidMet_of_run' 8 (by kernel_rfl) (by kernel_rfl)) (by kernel_rfl) (by kernel_rfl)
set_option maxRecDepth 100000 in
theorem law3(os:Os)(started:os.Started)(H:Type)(enc:TypeId×Value→H):
 ReturnsInHanded {} Tryz.checked os 3 .any (fun w args=>(Rows.commandReplaysSpec.pre enc Tryz.prog Tryz.f3 [] false w args∧laidMetH Tryz.prog Rows.commandReplaysRow.laid w)∧sizedMet enc Tryz.prog Tryz.f3 (OpenSpec.ofChange Rows.commandReplaysSpec) false w args) (Rows.commandReplaysSpec.post enc Tryz.prog Tryz.f3 false true false false):=by
 refine returnsInHanded_of_change_and (C:=Tryz.checked) (X:=fun w _=>laidMetH Tryz.prog Rows.commandReplaysRow.laid w) (fun _ _ _ hh h=>h.of_heap hh) own started (by kernel_rfl) Tryz.func3
  (ChangeSpec.witness_shaped (enc:=enc) (C:=Tryz.checked) (os:=os) (X:=fun w _=>laidMetH Tryz.prog Rows.commandReplaysRow.laid w) false (World.doorLaid Tryz.prog 400 os) #[.agg #[.slice none 0 0, .slice none 0 0, .slice none 0 0, .slice none 0 0, .int .i64 0, .int .i64 0], .slice none 0 0] 8 rfl (World.shaped_of_RefB (by kernel_rfl) (by kernel_rfl)) (by kernel_rfl) (by kernel_rfl) (by kernel_rfl) (door3 os _)) ?_
 intro W base args ds gs before hval0 hW _ _ _ _
 have hval:∀(j:Nat) t v,Tryz.f3.params[j]? =some t→args[j]? =some v→Value.okWide Tryz.prog W .any base t v:=hval0
 have hW':=hW
 obtain⟨p,q,hA0,hV,rfl,_,_⟩:=hW
 have hA:DataW.TrodAll enc Tryz.prog W 0 (fun _=>true) true Tryz.f3.params.toList args.toList ds p:=hA0
 rw[Tryz.params3]at hA hval
 obtain⟨v0,v1,d0,d1,p0,p1,rfl,rfl,rfl,h0,h1⟩:=trodAll_two hA
 obtain⟨rfl,rfl⟩:=trodVars_none hV
 have hlt:∀x∈p0++p1,x.block<W.heap.size:=fun x hx=>by simpa using hW'.lt x (by simpa using hx)
 obtain⟨us0,r0,c0⟩:=Zy0 (L:=⟨fun _ _=>0,fun _ _=>0⟩) sh3_0 (okWide_struct Tryz.underlying29 (hval 0 29 v0 rfl rfl)) h0
 obtain⟨ms,ks,rs,l,wn,fl,rfl⟩:=ZpY c0
 obtain⟨u1,r1,c1⟩:=ZBD (L:=⟨fun _ _=>0,fun _ _=>0⟩) sh3_1 (by obtain⟨a,l,c,rfl⟩:=okWide_slice Tryz.underlying30 (hval 1 30 v1 rfl rfl);rfl) h1
 obtain⟨vs,rfl⟩:=Zj5 c1
 refine(Zre (ZkZ ms ks rs l wn fl vs) (RelL.cons ( r0) (RelL.cons ( r1) RelL.nil))).mono fun e W' ⟨he,hb⟩=>?_
 subst he
 refine⟨_,rfl,_,_,_,[],p0++p1,[],hW',trodAll_mk1 (shut_bool Tryz.underlying4 true),?_,rfl,hb.frame _,fun h=>by cases h⟩
 exact trodAll_mk2 (Below.trod ZoH (by kernel_rfl) (of_decide_eq_true (by kernel_rfl)) h0 hb (fun x hx=>hlt x (List.mem_append_left _ hx))) (Below.trod ZoH (by kernel_rfl) (of_decide_eq_true (by kernel_rfl)) h1 hb (fun x hx=>hlt x (List.mem_append_right _ hx)))
theorem n3 : Tryz.checked.prog.funcNamed "cassegrain/cassegrainlaw08.CommandReplays" = some 3 := by kernel_rfl
theorem j3:joinedFacts Tryz.checked.prog 3 Tryz.f3 Rows.commandReplaysSpec Rows.commandReplaysRow=true:=by kernel_rfl
theorem i3:Tryz.f3.isInstance Tryz.checked.prog Rows.commandReplaysRow.origin Rows.commandReplaysRow.targs:=of_decide_eq_true (by kernel_rfl)
theorem w3:Tryz.f3.isWrapper Tryz.checked.prog Rows.commandReplaysRow.wrapper Rows.commandReplaysRow.mainSum:=by
 unfold Func.isWrapper
 first |(rw [if_pos (by decide +kernel)];kernel_rfl) |(rw [if_neg (by decide +kernel)];exact⟨rfl,rfl⟩)
theorem CommandReplays_said:Rows.CommandReplaysSaid:=
 OpenClaim.holds_of_wide 3 Tryz.f3 rfl rfl rfl rfl rfl rfl rfl ⟨rfl,rfl,rfl,rfl,rfl⟩ rfl rfl rfl rfl rfl n3 Tryz.func3 j3 i3 w3 (fun os started H enc _=>law3 os started H enc)
theorem CommandReplays_holds:Rows.CommandReplaysCardSaid:=
 Claim7.holds_tied_plain_at .later [] [.data, .data, .data] true (true, "8c1ed7d8057f43ebcdbb04c28ebc619118c2b9edc4e61f717e99dd8a4395b1c5") true
  CommandReplays_said (fun _ h=>by cases h) (by kernel_rfl) (fun _ h=>by cases h) commandReplays_row_tie rfl ⟨rfl,rfl⟩ (by kernel_rfl) rfl
  (fun f fn hf hfn=>by
    obtain rfl : f = 3 := Option.some.inj ((show Tryz.prog.funcNamed "cassegrain/cassegrainlaw08.CommandReplays" = some 3 by kernel_rfl).symm.trans hf) |>.symm
    obtain rfl:fn=Tryz.f3:=(Option.some.inj (Tryz.func3.symm.trans hfn)).symm
    exact⟨by kernel_rfl,fun j t ht=>by
     rw[Tryz.params3]at ht
     have hm:t∈[29,30]:=by simpa using Array.mem_of_getElem? ht
     have hall:([29,30].all fun u=>!Tryz.prog.wantsStandIn u)=true:=by kernel_rfl
     exact(show Tryz.prog.wantsStandIn t=false by simpa using List.all_eq_true.1 hall t hm)⟩)
  (by kernel_rfl)
#print axioms CommandReplays_holds
end Go.Proofs.YtkeoeooghhjibaaGreatDoor
