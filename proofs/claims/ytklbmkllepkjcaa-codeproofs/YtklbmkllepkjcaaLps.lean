/- CodeProofs: for every input it returns true, and the arguments read as they did. No condition. -/
import Derived.Test.YtklbmkllepkjcaaLp
namespace Go.Proofs.Ytklbmkllepkjcaa
open Go.ChangeShapes Go.WideShapes Go.ChangeAt Go.RowKit
theorem sh6_0:Zuf Try.prog 8 24=some [.int .i64, .int .i64, .int .i64]:=by kernel_rfl
theorem sh6_1:Zuf Try.prog 8 25=some [.ints .i64]:=by kernel_rfl
theorem sh6_2:Zuf Try.prog 8 56=some [.big (.ints .i64)]:=by kernel_rfl
set_option maxRecDepth 100000 in
theorem law6(os:Os)(started:os.Started)(H:Type)(enc:TypeId×Value→H):
 ReturnsInHanded {} Try.checked os 6 .any (Rows.codeProofsSpec.pre6 enc Try.prog Try.f6 Rows.codeProofsRow.domain false) (Rows.codeProofsSpec.post enc Try.prog Try.f6 false true false false):=by
 refine returnsInHanded_of_change (C:=Try.checked) own started (by kernel_rfl) Try.func6
  (ChangeSpec.witness6 (enc:=enc) (C:=Try.checked) false ⟨#[], #[.agg #[.int .i64 0, .int .i64 0, .int .i64 0], .slice none 0 0, .slice none 0 0],[]⟩ 8 (by kernel_rfl) (by kernel_rfl) (by kernel_rfl) (by kernel_rfl)) ?_
 intro W base args ds gs before hval0 hW _ _
 have hval:∀(j:Nat) t v,Try.f6.params[j]? =some t→args[j]? =some v→Value.okWide Try.prog W .any base t v:=hval0
 have hW':=hW
 obtain⟨p,q,hA0,hV,rfl,_,_⟩:=hW
 have hA:DataW.TrodAll enc Try.prog W 0 (fun _=>true) true Try.f6.params.toList args.toList ds p:=hA0
 rw[Try.params6]at hA hval
 obtain⟨v0,v1,v2,d0,d1,d2,p0,p1,p2,rfl,rfl,rfl,h0,h1,h2⟩:=trodAll_three hA
 obtain⟨rfl,rfl⟩:=trodVars_none hV
 have hlt:∀x∈p0++(p1++p2),x.block<W.heap.size:=fun x hx=>by simpa using hW'.lt x (by simpa using hx)
 obtain⟨us0,r0,c0⟩:=Zzw (L:=⟨fun _ _=>0,fun _ _=>0⟩) sh6_0 (okWide_struct Try.underlying24 (hval 0 24 v0 rfl rfl)) h0
 obtain⟨m,g0,g1,rfl⟩:=ZvH c0
 obtain⟨u1,r1,c1⟩:=Zva (L:=⟨fun _ _=>0,fun _ _=>0⟩) sh6_1 (by obtain⟨a,l,c,rfl⟩:=okWide_slice Try.underlying25 (hval 1 25 v1 rfl rfl);rfl) h1
 obtain⟨xs,rfl,_⟩:=Zx9 c1
 obtain⟨u2,r2,c2⟩:=Zva (L:=⟨fun _ _=>0,fun _ _=>0⟩) sh6_2 (by obtain⟨a,l,c,rfl⟩:=okWide_slice Try.underlying56 (hval 2 56 v2 rfl rfl);rfl) h2
 obtain⟨ps,rfl⟩:=ZBF c2
 refine(ZsM trivial (ZoX m g0 g1 xs ps) (RelL.cons ( r0) (RelL.cons ( r1) (RelL.cons ( r2) RelL.nil)))).mono fun e W' ⟨he,hb⟩=>?_
 subst he
 refine⟨_,rfl,_,_,_,[],p0++(p1++p2),[],hW',trodAll_mk1 (shut_bool Try.underlying4 true),?_,rfl,hb.frame _,fun h=>by cases h⟩
 exact trodAll_mk3 (Below.trod Zl8 (by kernel_rfl) (of_decide_eq_true (by kernel_rfl)) h0 hb (fun x hx=>hlt x (List.mem_append_left _ hx))) (Below.trod Zl8 (by kernel_rfl) (of_decide_eq_true (by kernel_rfl)) h1 hb (fun x hx=>hlt x (List.mem_append_right _ (List.mem_append_left _ hx)))) (Below.trod Zl8 (by kernel_rfl) (of_decide_eq_true (by kernel_rfl)) h2 hb (fun x hx=>hlt x (List.mem_append_right _ (List.mem_append_right _ hx))))
theorem n6 : Try.checked.prog.funcNamed "cassegrain/cassegrainlaw05.CodeProofs" = some 6 := by kernel_rfl
theorem j6:joinedFacts Try.checked.prog 6 Try.f6 Rows.codeProofsSpec Rows.codeProofsRow=true:=by kernel_rfl
theorem i6:Try.f6.isInstance Try.checked.prog Rows.codeProofsRow.origin Rows.codeProofsRow.targs:=of_decide_eq_true (by kernel_rfl)
theorem w6:Try.f6.isWrapper Try.checked.prog Rows.codeProofsRow.wrapper Rows.codeProofsRow.mainSum:=by
 unfold Func.isWrapper
 first |(rw [if_pos (by decide +kernel)];kernel_rfl) |(rw [if_neg (by decide +kernel)];exact⟨rfl,rfl⟩)
theorem CodeProofs_holds:Rows.CodeProofsSaid:=
 OpenClaim.holds_of_wide 6 Try.f6 rfl rfl rfl rfl rfl rfl rfl ⟨rfl,rfl,rfl,rfl,rfl⟩ rfl rfl rfl rfl rfl n6 Try.func6 j6 i6 w6 (fun os started H enc _=>law6 os started H enc)
#print axioms CodeProofs_holds
end Go.Proofs.Ytklbmkllepkjcaa
