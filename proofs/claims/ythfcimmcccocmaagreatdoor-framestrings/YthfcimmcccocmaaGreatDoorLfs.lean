/- FrameStrings: for every input it returns true, and the arguments read as they did; the card ties the listed variables. No condition. -/
import Derived.Test.YthfcimmcccocmaaGreatDoorSw
import Derived.Test.YthfcimmcccocmaaGreatDoorCards
import Derived.Test.YthfcimmcccocmaaGreatDoorTie
import Derived.SevenTiedAt
namespace Go.Proofs.YthfcimmcccocmaaGreatDoor
open Go.ChangeShapes Go.WideShapes Go.ChangeAt Go.RowKit
theorem sh3_0:ZpB Tryz.prog 8 24=some [.int .i64, .int .i64, .int .i64, .ints .i64]:=by kernel_rfl
theorem sh3_1:ZpB Tryz.prog 8 26=some [.int .i64, .int .i64, .ints .i64]:=by kernel_rfl
theorem sh3_2:ZpB Tryz.prog 8 9=some [.str]:=by kernel_rfl
theorem door3(os:Os)(args:Array Value):laidMetH Tryz.prog Rows.frameStringsRow.laid ((strWorld os).forCall (fun _ _=>0) ⟨#[],args,[]⟩).memory:=
 laidMetH_of_parts3 (fuel:=8) (laidMet_of_run' 8 (by kernel_rfl) (by kernel_rfl)) (by kernel_rfl) (by kernel_rfl)
set_option maxRecDepth 100000 in
theorem law3(os:Os)(started:os.Started)(H:Type)(enc:TypeId×Value→H):
 ReturnsInHanded {} Tryz.checked os 3 .any (fun w args=>(Rows.frameStringsSpec.pre enc Tryz.prog Tryz.f3 [] false w args∧laidMetH Tryz.prog Rows.frameStringsRow.laid w)∧sizedMet enc Tryz.prog Tryz.f3 (OpenSpec.ofChange Rows.frameStringsSpec) false w args) (Rows.frameStringsSpec.post enc Tryz.prog Tryz.f3 false true false false):=by
 refine Zep (C:=Tryz.checked) (X:=fun w _=>laidMetH Tryz.prog Rows.frameStringsRow.laid w) (fun _ _ _ hh h=>h.of_heap hh) own started (by kernel_rfl) Tryz.func3
  (ChangeSpec.witness_shaped (enc:=enc) (C:=Tryz.checked) (os:=os) (X:=fun w _=>laidMetH Tryz.prog Rows.frameStringsRow.laid w) false (strWorld os) #[.agg #[.int .i64 0, .int .i64 0, .int .i64 0, .slice none 0 0], .agg #[.int .i64 0, .int .i64 0, .slice none 0 0], .string ⟨#[]⟩] 8 rfl (World.shaped_of_RefB (by kernel_rfl) (by kernel_rfl)) (by kernel_rfl) (by kernel_rfl) (by kernel_rfl) (door3 os _)) ?_
 intro W base args ds gs before hval0 hW _ _ hsh hlaid _
 have hval:∀(j:Nat) t v,Tryz.f3.params[j]? =some t→args[j]? =some v→Value.okWide Tryz.prog W .any base t v:=hval0
 have hW':=hW
 obtain⟨p,q,hA0,hV,rfl,_,_⟩:=hW
 have hA:DataW.TrodAll enc Tryz.prog W 0 (fun _=>true) true Tryz.f3.params.toList args.toList ds p:=hA0
 rw[Tryz.params3]at hA hval
 obtain⟨v0,v1,v2,d0,d1,d2,p0,p1,p2,rfl,rfl,rfl,h0,h1,h2⟩:=trodAll_three hA
 obtain⟨rfl,rfl⟩:=trodVars_none hV
 have hlt:∀x∈p0++(p1++p2),x.block<W.heap.size:=fun x hx=>by simpa using hW'.lt x (by simpa using hx)
 obtain⟨us0,r0,c0⟩:=Zr1 (L:=⟨fun _ _=>0,fun _ _=>0⟩) sh3_0 (okWide_struct Tryz.underlying24 (hval 0 24 v0 rfl rfl)) h0
 obtain⟨a,b,c,xs,rfl,ha,hx⟩:=Zud c0
 obtain⟨us1,r1,c1⟩:=Zr1 (L:=⟨fun _ _=>0,fun _ _=>0⟩) sh3_1 (okWide_struct Tryz.underlying26 (hval 1 26 v1 rfl rfl)) h1
 obtain⟨a1,b1,ys,rfl,hb,hy⟩:=Zxm c1
 obtain⟨u2,r2,c2⟩:=Zvz (L:=⟨fun _ _=>0,fun _ _=>0⟩) sh3_2 (by obtain⟨x,rfl⟩:=okWide_string Tryz.underlying9 (hval 2 9 v2 rfl rfl);rfl) h2
 obtain⟨s,rfl⟩:=ZxX c2
 refine(Zpc (Zjc hsh hlaid) (ZkA a b c xs a1 b1 ys s ha hx hb hy) (RelL.cons ( r0) (RelL.cons ( r1) (RelL.cons ( r2) RelL.nil)))).mono fun e W' ⟨he,hb'⟩=>?_
 subst he
 refine⟨_,rfl,_,_,_,[],p0++(p1++p2),[],hW',trodAll_mk1 (shut_bool Tryz.underlying4 true),?_,rfl,hb'.frame _,fun h=>by cases h⟩
 exact trodAll_mk3 (Below.trod ZjL (by kernel_rfl) (of_decide_eq_true (by kernel_rfl)) h0 hb' (fun x hx=>hlt x (List.mem_append_left _ hx))) (Below.trod ZjL (by kernel_rfl) (of_decide_eq_true (by kernel_rfl)) h1 hb' (fun x hx=>hlt x (List.mem_append_right _ (List.mem_append_left _ hx)))) (Below.trod ZjL (by kernel_rfl) (of_decide_eq_true (by kernel_rfl)) h2 hb' (fun x hx=>hlt x (List.mem_append_right _ (List.mem_append_right _ hx))))
theorem n3 : Tryz.checked.prog.funcNamed "cassegrain/cassegrainlaw06.FrameStrings" = some 3 := by kernel_rfl
theorem j3:joinedFacts Tryz.checked.prog 3 Tryz.f3 Rows.frameStringsSpec Rows.frameStringsRow=true:=by kernel_rfl
theorem i3:Tryz.f3.isInstance Tryz.checked.prog Rows.frameStringsRow.origin Rows.frameStringsRow.targs:=of_decide_eq_true (by kernel_rfl)
theorem w3:Tryz.f3.isWrapper Tryz.checked.prog Rows.frameStringsRow.wrapper Rows.frameStringsRow.mainSum:=by
 unfold Func.isWrapper
 first |(rw [if_pos (by decide +kernel)];kernel_rfl) |(rw [if_neg (by decide +kernel)];exact⟨rfl,rfl⟩)
theorem FrameStrings_said:Rows.FrameStringsSaid:=
 OpenClaim.holds_of_wide 3 Tryz.f3 rfl rfl rfl rfl rfl rfl rfl ⟨rfl,rfl,rfl,rfl,rfl⟩ rfl rfl rfl rfl rfl n3 Tryz.func3 j3 i3 w3 (fun os started H enc _=>law3 os started H enc)
theorem FrameStrings_holds:Rows.FrameStringsCardSaid:=
 Claim7.holds_tied_plain_at .later [] [.data, .data, .data, .data, .sentinel, .sentinel, .pinned] true (true, "24b49cd2e15b53733eec4e42affb38f9e155feb67b0a469bfcd0c3401323d806") true
  FrameStrings_said (fun _ h=>by cases h) (by kernel_rfl) (fun _ h=>by cases h) frameStrings_row_tie rfl ⟨rfl,rfl⟩ (by kernel_rfl) rfl
  (fun f fn hf hfn=>by
    obtain rfl : f = 3 := Option.some.inj ((show Tryz.prog.funcNamed "cassegrain/cassegrainlaw06.FrameStrings" = some 3 by kernel_rfl).symm.trans hf) |>.symm
    obtain rfl:fn=Tryz.f3:=(Option.some.inj (Tryz.func3.symm.trans hfn)).symm
    exact⟨by kernel_rfl,fun j t ht=>by
     rw[Tryz.params3]at ht
     have hm:t∈[24,26,9]:=by simpa using Array.mem_of_getElem? ht
     have hall:([24,26,9].all fun u=>!Tryz.prog.wantsStandIn u)=true:=by kernel_rfl
     exact(show Tryz.prog.wantsStandIn t=false by simpa using List.all_eq_true.1 hall t hm)⟩)
  (by kernel_rfl)
#print axioms FrameStrings_holds
end Go.Proofs.YthfcimmcccocmaaGreatDoor
