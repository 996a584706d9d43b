/- CommandStrings: for every input it returns true, and the arguments read as they did; the card ties the listed variables. No condition. -/
import Derived.Test.YtkeoeooghhjibaaGreatDoorSw
import Derived.Test.YtkeoeooghhjibaaGreatDoorCards
import Derived.Test.YtkeoeooghhjibaaGreatDoorTie
import Derived.SevenTiedAt
namespace Go.Proofs.YtkeoeooghhjibaaGreatDoor
open Go.ChangeShapes Go.WideShapes Go.ChangeAt Go.RowKit
theorem sh11_0:Zor Tryz.prog 8 82=some [.int .i64, .int .i64, .int .i64]:=by kernel_rfl
theorem sh11_1:Zor Tryz.prog 8 63=some [.int .i64, .int .i64]:=by kernel_rfl
theorem sh11_2:Zor Tryz.prog 8 9=some [.str]:=by kernel_rfl
theorem door11(os:Os)(args:Array Value):laidMetH Tryz.prog Rows.commandStringsRow.laid ((strWorld os).forCall (fun _ _=>0) ⟨#[],args,[]⟩).memory:=
 laidMetH_of_parts3 (fuel:=8) (laidMet_of_run' 8 (by kernel_rfl) (by kernel_rfl)) (by kernel_rfl) (by kernel_rfl)
set_option maxRecDepth 100000 in
theorem law11(os:Os)(started:os.Started)(H:Type)(enc:TypeId×Value→H):
 ReturnsInHanded {} Tryz.checked os 11 .any (fun w args=>(Rows.commandStringsSpec.pre enc Tryz.prog Tryz.f11 [] false w args∧laidMetH Tryz.prog Rows.commandStringsRow.laid w)∧sizedMet enc Tryz.prog Tryz.f11 (OpenSpec.ofChange Rows.commandStringsSpec) false w args) (Rows.commandStringsSpec.post enc Tryz.prog Tryz.f11 false true false false):=by
 refine ZeC (C:=Tryz.checked) (X:=fun w _=>laidMetH Tryz.prog Rows.commandStringsRow.laid w) (fun _ _ _ hh h=>h.of_heap hh) own started (by kernel_rfl) Tryz.func11
  (ChangeSpec.witness_shaped (enc:=enc) (C:=Tryz.checked) (os:=os) (X:=fun w _=>laidMetH Tryz.prog Rows.commandStringsRow.laid w) false (strWorld os) #[.agg #[.int .i64 0, .int .i64 0, .int .i64 0], .agg #[.int .i64 0, .int .i64 0], .string ⟨#[]⟩] 8 rfl (World.shaped_of_RefB (by kernel_rfl) (by kernel_rfl)) (by kernel_rfl) (by kernel_rfl) (by kernel_rfl) (door11 os _)) ?_
 intro W base args ds gs before hval0 hW _ _ hsh hlaid _
 have hval:∀(j:Nat) t v,Tryz.f11.params[j]? =some t→args[j]? =some v→Value.okWide Tryz.prog W .any base t v:=hval0
 have hW':=hW
 obtain⟨p,q,hA0,hV,rfl,_,_⟩:=hW
 have hA:DataW.TrodAll enc Tryz.prog W 0 (fun _=>true) true Tryz.f11.params.toList args.toList ds p:=hA0
 rw[Tryz.params11]at hA hval
 obtain⟨v0,v1,v2,d0,d1,d2,p0,p1,p2,rfl,rfl,rfl,h0,h1,h2⟩:=trodAll_three hA
 obtain⟨rfl,rfl⟩:=trodVars_none hV
 have hlt:∀x∈p0++(p1++p2),x.block<W.heap.size:=fun x hx=>by simpa using hW'.lt x (by simpa using hx)
 obtain⟨us0,r0,c0⟩:=ZpU (L:=⟨fun _ _=>0,fun _ _=>0⟩) sh11_0 (okWide_struct Tryz.underlying82 (hval 0 82 v0 rfl rfl)) h0
 obtain⟨a,b,c,rfl,ha,hb,hc⟩:=Zu1 c0
 obtain⟨us1,r1,c1⟩:=ZpU (L:=⟨fun _ _=>0,fun _ _=>0⟩) sh11_1 (okWide_struct Tryz.underlying63 (hval 1 63 v1 rfl rfl)) h1
 obtain⟨ek,en,rfl,hn⟩:=ZtL c1
 obtain⟨u2,r2,c2⟩:=ZvL (L:=⟨fun _ _=>0,fun _ _=>0⟩) sh11_2 (by obtain⟨x,rfl⟩:=okWide_string Tryz.underlying9 (hval 2 9 v2 rfl rfl);rfl) h2
 obtain⟨s,rfl⟩:=Zve c2
 refine(Zom (ZiH hsh hlaid) (Zjx a b c ek en s ha hb hc hn) (RelL.cons ( r0) (RelL.cons ( r1) (RelL.cons ( r2) RelL.nil)))).mono fun e W' ⟨he,hb⟩=>?_
 subst he
 refine⟨_,rfl,_,_,_,[],p0++(p1++p2),[],hW',trodAll_mk1 (shut_bool Tryz.underlying4 true),?_,rfl,hb.frame _,fun h=>by cases h⟩
 exact trodAll_mk3 (Below.trod Zjw (by kernel_rfl) (of_decide_eq_true (by kernel_rfl)) h0 hb (fun x hx=>hlt x (List.mem_append_left _ hx))) (Below.trod Zjw (by kernel_rfl) (of_decide_eq_true (by kernel_rfl)) h1 hb (fun x hx=>hlt x (List.mem_append_right _ (List.mem_append_left _ hx)))) (Below.trod Zjw (by kernel_rfl) (of_decide_eq_true (by kernel_rfl)) h2 hb (fun x hx=>hlt x (List.mem_append_right _ (List.mem_append_right _ hx))))
theorem n11 : Tryz.checked.prog.funcNamed "cassegrain/cassegrainlaw08.CommandStrings" = some 11 := by kernel_rfl
theorem j11:joinedFacts Tryz.checked.prog 11 Tryz.f11 Rows.commandStringsSpec Rows.commandStringsRow=true:=by kernel_rfl
theorem i11:Tryz.f11.isInstance Tryz.checked.prog Rows.commandStringsRow.origin Rows.commandStringsRow.targs:=of_decide_eq_true (by kernel_rfl)
theorem w11:Tryz.f11.isWrapper Tryz.checked.prog Rows.commandStringsRow.wrapper Rows.commandStringsRow.mainSum:=by
 unfold Func.isWrapper
 first |(rw [if_pos (by decide +kernel)];kernel_rfl) |(rw [if_neg (by decide +kernel)];exact⟨rfl,rfl⟩)
theorem CommandStrings_said:Rows.CommandStringsSaid:=
 OpenClaim.holds_of_wide 11 Tryz.f11 rfl rfl rfl rfl rfl rfl rfl ⟨rfl,rfl,rfl,rfl,rfl⟩ rfl rfl rfl rfl rfl n11 Tryz.func11 j11 i11 w11 (fun os started H enc _=>law11 os started H enc)
theorem CommandStrings_holds:Rows.CommandStringsCardSaid:=
 Claim7.holds_tied_plain_at .later [] [.data, .data, .data, .data, .sentinel, .sentinel, .pinned] true (true, "8c1ed7d8057f43ebcdbb04c28ebc619118c2b9edc4e61f717e99dd8a4395b1c5") true
  CommandStrings_said (fun _ h=>by cases h) (by kernel_rfl) (fun _ h=>by cases h) commandStrings_row_tie rfl ⟨rfl,rfl⟩ (by kernel_rfl) rfl
  (fun f fn hf hfn=>by
    obtain rfl : f = 11 := Option.some.inj ((show Tryz.prog.funcNamed "cassegrain/cassegrainlaw08.CommandStrings" = some 11 by kernel_rfl).symm.trans hf) |>.symm
    obtain rfl:fn=Tryz.f11:=(Option.some.inj (Tryz.func11.symm.trans hfn)).symm
    exact⟨by kernel_rfl,fun j t ht=>by
     rw[Tryz.params11]at ht
     have hm:t∈[82,63,9]:=by simpa using Array.mem_of_getElem? ht
     have hall:([82,63,9].all fun u=>!Tryz.prog.wantsStandIn u)=true:=by kernel_rfl
     exact(show Tryz.prog.wantsStandIn t=false by simpa using List.all_eq_true.1 hall t hm)⟩)
  (by kernel_rfl)
#print axioms CommandStrings_holds
end Go.Proofs.YtkeoeooghhjibaaGreatDoor
