/- CommandModelStrings: for every input it returns true, and the arguments read as they did; the card ties the listed variables. No condition. -/
import Derived.Test.YtkeoeooghhjibaaGreatDoorSwm
import Derived.Test.YtkeoeooghhjibaaGreatDoorCards
import Derived.Test.YtkeoeooghhjibaaGreatDoorTie
import Derived.SevenTiedAt
namespace Go.Proofs.YtkeoeooghhjibaaGreatDoor
open Go.ChangeShapes Go.WideShapes Go.ChangeAt Go.RowKit
theorem sh12_0:ZuX Tryz.prog 8 26=some [.big .str, .big (.agg [.str, .int .i64]), .big (.agg [.str, .int .i64, .int .i64, .int .i64, .int .i64])]:=by kernel_rfl
theorem sh12_1:ZuX Tryz.prog 8 9=some [.str]:=by kernel_rfl
theorem door12(os:Os)(args:Array Value):laidMetH Tryz.prog Rows.commandModelStringsRow.laid ((strWorld os).forCall (fun _ _=>0) ⟨#[],args,[]⟩).memory:=
 laidMetH_of_parts3 (fuel:=8) (laidMet_of_run' 8 (by kernel_rfl) (by kernel_rfl)) (by kernel_rfl) (by kernel_rfl)
set_option maxRecDepth 100000 in
theorem law12(os:Os)(started:os.Started)(H:Type)(enc:TypeId×Value→H):
 ReturnsInHanded {} Tryz.checked os 12 .any (fun w args=>(Rows.commandModelStringsSpec.pre enc Tryz.prog Tryz.f12 [] false w args∧laidMetH Tryz.prog Rows.commandModelStringsRow.laid w)∧sizedMet enc Tryz.prog Tryz.f12 (OpenSpec.ofChange Rows.commandModelStringsSpec) false w args) (Rows.commandModelStringsSpec.post enc Tryz.prog Tryz.f12 false true false false):=by
 refine ZgH (C:=Tryz.checked) (X:=fun w _=>laidMetH Tryz.prog Rows.commandModelStringsRow.laid w) (fun _ _ _ hh h=>h.of_heap hh) own started (by kernel_rfl) Tryz.func12
  (ChangeSpec.witness_shaped (enc:=enc) (C:=Tryz.checked) (os:=os) (X:=fun w _=>laidMetH Tryz.prog Rows.commandModelStringsRow.laid w) false (strWorld os) #[.agg #[.slice none 0 0, .slice none 0 0, .slice none 0 0], .string ⟨#[]⟩] 8 rfl (World.shaped_of_RefB (by kernel_rfl) (by kernel_rfl)) (by kernel_rfl) (by kernel_rfl) (by kernel_rfl) (door12 os _)) ?_
 intro W base args ds gs before hval0 hW _ _ hsh hlaid _
 have hval:∀(j:Nat) t v,Tryz.f12.params[j]? =some t→args[j]? =some v→Value.okWide Tryz.prog W .any base t v:=hval0
 have hW':=hW
 obtain⟨p,q,hA0,hV,rfl,_,_⟩:=hW
 have hA:DataW.TrodAll enc Tryz.prog W 0 (fun _=>true) true Tryz.f12.params.toList args.toList ds p:=hA0
 rw[Tryz.params12]at hA hval
 obtain⟨v0,v1,d0,d1,p0,p1,rfl,rfl,rfl,h0,h1⟩:=trodAll_two hA
 obtain⟨rfl,rfl⟩:=trodVars_none hV
 have hlt:∀x∈p0++p1,x.block<W.heap.size:=fun x hx=>by simpa using hW'.lt x (by simpa using hx)
 obtain⟨us0,r0,c0⟩:=ZBP (L:=⟨fun _ _=>0,fun _ _=>0⟩) sh12_0 (okWide_struct Tryz.underlying26 (hval 0 26 v0 rfl rfl)) h0
 obtain⟨ms,ks,rs,rfl,hk,hr⟩:=Zst c0
 obtain⟨u1,r1,c1⟩:=ZDf (L:=⟨fun _ _=>0,fun _ _=>0⟩) sh12_1 (by obtain⟨x,rfl⟩:=okWide_string Tryz.underlying9 (hval 1 9 v1 rfl rfl);rfl) h1
 obtain⟨s,rfl⟩:=ZCc c1
 refine(Ztm (ZnG hsh hlaid) (Zp2 ms ks rs s hk hr) (RelL.cons ( r0) (RelL.cons ( r1) RelL.nil))).mono fun e W' ⟨he,hb⟩=>?_
 subst he
 refine⟨_,rfl,_,_,_,[],p0++p1,[],hW',trodAll_mk1 (shut_bool Tryz.underlying4 true),?_,rfl,hb.frame _,fun h=>by cases h⟩
 exact trodAll_mk2 (Below.trod ZrD (by kernel_rfl) (of_decide_eq_true (by kernel_rfl)) h0 hb (fun x hx=>hlt x (List.mem_append_left _ hx))) (Below.trod ZrD (by kernel_rfl) (of_decide_eq_true (by kernel_rfl)) h1 hb (fun x hx=>hlt x (List.mem_append_right _ hx)))
theorem n12 : Tryz.checked.prog.funcNamed "cassegrain/cassegrainlaw08.CommandModelStrings" = some 12 := by kernel_rfl
theorem j12:joinedFacts Tryz.checked.prog 12 Tryz.f12 Rows.commandModelStringsSpec Rows.commandModelStringsRow=true:=by kernel_rfl
theorem i12:Tryz.f12.isInstance Tryz.checked.prog Rows.commandModelStringsRow.origin Rows.commandModelStringsRow.targs:=of_decide_eq_true (by kernel_rfl)
theorem w12:Tryz.f12.isWrapper Tryz.checked.prog Rows.commandModelStringsRow.wrapper Rows.commandModelStringsRow.mainSum:=by
 unfold Func.isWrapper
 first |(rw [if_pos (by decide +kernel)];kernel_rfl) |(rw [if_neg (by decide +kernel)];exact⟨rfl,rfl⟩)
theorem CommandModelStrings_said:Rows.CommandModelStringsSaid:=
 OpenClaim.holds_of_wide 12 Tryz.f12 rfl rfl rfl rfl rfl rfl rfl ⟨rfl,rfl,rfl,rfl,rfl⟩ rfl rfl rfl rfl rfl n12 Tryz.func12 j12 i12 w12 (fun os started H enc _=>law12 os started H enc)
theorem CommandModelStrings_holds:Rows.CommandModelStringsCardSaid:=
 Claim7.holds_tied_plain_at .later [] [.data, .data, .data, .data, .sentinel, .sentinel, .pinned] true (true, "8c1ed7d8057f43ebcdbb04c28ebc619118c2b9edc4e61f717e99dd8a4395b1c5") true
  CommandModelStrings_said (fun _ h=>by cases h) (by kernel_rfl) (fun _ h=>by cases h) commandModelStrings_row_tie rfl ⟨rfl,rfl⟩ (by kernel_rfl) rfl
  (fun f fn hf hfn=>by
    obtain rfl : f = 12 := Option.some.inj ((show Tryz.prog.funcNamed "cassegrain/cassegrainlaw08.CommandModelStrings" = some 12 by kernel_rfl).symm.trans hf) |>.symm
    obtain rfl:fn=Tryz.f12:=(Option.some.inj (Tryz.func12.symm.trans hfn)).symm
    exact⟨by kernel_rfl,fun j t ht=>by
     rw[Tryz.params12]at ht
     have hm:t∈[26,9]:=by simpa using Array.mem_of_getElem? ht
     have hall:([26,9].all fun u=>!Tryz.prog.wantsStandIn u)=true:=by kernel_rfl
     exact(show Tryz.prog.wantsStandIn t=false by simpa using List.all_eq_true.1 hall t hm)⟩)
  (by kernel_rfl)
#print axioms CommandModelStrings_holds
end Go.Proofs.YtkeoeooghhjibaaGreatDoor
