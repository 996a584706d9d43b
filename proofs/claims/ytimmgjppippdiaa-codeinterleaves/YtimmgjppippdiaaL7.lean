/- CodeInterleaves: for every input it returns true, and the arguments read as they did. No condition. -/
import Derived.Test.YtimmgjppippdiaaW0
import Derived.Test.YtimmgjppippdiaaR7
namespace Go.Proofs.Ytimmgjppippdiaa
open Go.ChangeShapes Go.WideShapes Go.ChangeAt Go.RowKit
set_option maxRecDepth 100000 in
theorem law7 (os : Os) (started : os.Started) (H : Type) (enc : TypeId × Value → H) :
    ReturnsInHanded {} Try.checked os 7 .any (Rows.codeInterleavesSpec.pre6 enc Try.prog Try.f7 Rows.codeInterleavesRow.domain false) (Rows.codeInterleavesSpec.post enc Try.prog Try.f7 false true false false) := by
  refine returnsInHanded_of_change (C := Try.checked) own started (by kernel_rfl) Try.func7
    (ChangeSpec.witness6 (enc := enc) (C := Try.checked) false ⟨#[], #[.slice none 0 0, .int .i64 0], []⟩ 8 (by kernel_rfl) (by kernel_rfl) (by kernel_rfl) (by kernel_rfl)) ?_
  intro W base args ds gs before hval0 hW _ _
  have hval : ∀ (j : Nat) t v, Try.f7.params[j]? = some t → args[j]? = some v → Value.okWide Try.prog W .any base t v := hval0
  have hW' := hW
  obtain ⟨p, q, hA0, hV, rfl, _, _⟩ := hW
  have hA : DataW.TrodAll enc Try.prog W 0 (fun _ => true) true Try.f7.params.toList args.toList ds p := hA0
  rw [Try.params7] at hA hval
  obtain ⟨v0, v1, d0, d1, p0, p1, rfl, rfl, rfl, h0, h1⟩ := trodAll_two hA
  obtain ⟨rfl, rfl⟩ := trodVars_none hV
  have hlt : ∀ x ∈ p0 ++ p1, x.block < W.heap.size := fun x hx => by simpa using hW'.lt x (by simpa using hx)
  obtain ⟨n, rfl, _, _, _⟩ := open_int Try.underlying3 (hval 1 3 v1 rfl rfl) h1
  obtain ⟨xs, hx, _⟩ := rel_ints (L := ⟨fun _ _ => 0, fun _ _ => 0⟩) Try.underlying25 Try.underlying3 cells3 (by
    obtain ⟨a, l, c, rfl⟩ := okWide_slice Try.underlying25 (hval 0 25 v0 rfl rfl); rfl) h0
  refine (law_runs (interleaves_ok xs n) (RelL.cons hx (RelL.cons (.int .i64 n) RelL.nil))).mono fun e W' ⟨he, hb⟩ => ?_
  subst he
  refine ⟨_, rfl, _, _, _, [], p0 ++ p1, [], hW', trodAll_mk1 (shut_bool Try.underlying4 true), ?_, rfl, hb.frame _, fun h => by cases h⟩
  exact trodAll_mk2 (Below.trod laidOut (by kernel_rfl) (of_decide_eq_true (by kernel_rfl)) h0 hb (fun x hx => hlt x (List.mem_append_left _ hx))) (Below.trod laidOut (by kernel_rfl) (of_decide_eq_true (by kernel_rfl)) h1 hb (fun x hx => hlt x (List.mem_append_right _ hx)))
theorem n7 : Try.checked.prog.funcNamed "cassegrain/cassegrainlaw05.CodeInterleaves" = some 7 := by kernel_rfl
theorem j7 : joinedFacts Try.checked.prog 7 Try.f7 Rows.codeInterleavesSpec Rows.codeInterleavesRow = true := by kernel_rfl
theorem i7 : Try.f7.isInstance Try.checked.prog Rows.codeInterleavesRow.origin Rows.codeInterleavesRow.targs := of_decide_eq_true (by kernel_rfl)
theorem w7 : Try.f7.isWrapper Try.checked.prog Rows.codeInterleavesRow.wrapper Rows.codeInterleavesRow.mainSum := by
  unfold Func.isWrapper
  first | (rw [if_pos (by decide +kernel)]; kernel_rfl) | (rw [if_neg (by decide +kernel)]; exact ⟨rfl, rfl⟩)
theorem CodeInterleaves_holds : Rows.CodeInterleavesSaid :=
  OpenClaim.holds_of_wide 7 Try.f7 rfl rfl rfl rfl rfl rfl rfl ⟨rfl, rfl, rfl, rfl, rfl⟩ rfl rfl rfl rfl rfl n7 Try.func7 j7 i7 w7 (fun os started H enc _ => law7 os started H enc)
#print axioms CodeInterleaves_holds
end Go.Proofs.Ytimmgjppippdiaa
