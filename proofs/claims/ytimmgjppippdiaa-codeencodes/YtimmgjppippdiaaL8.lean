/- CodeEncodes: for every input it returns true, and the arguments read as they did. No condition. -/
import Derived.Test.YtimmgjppippdiaaW2
import Derived.Test.YtimmgjppippdiaaS8
namespace Go.Proofs.Ytimmgjppippdiaa
open Go.ChangeShapes Go.WideShapes Go.ChangeAt Go.RowKit
set_option maxRecDepth 100000 in
theorem law8 (os : Os) (started : os.Started) (H : Type) (enc : TypeId × Value → H) :
    ReturnsInHanded {} Try.checked os 8 .any (Rows.codeEncodesSpec.pre6 enc Try.prog Try.f8 Rows.codeEncodesRow.domain false) (Rows.codeEncodesSpec.post enc Try.prog Try.f8 false true false false) := by
  refine returnsInHanded_of_change (C := Try.checked) own started (by kernel_rfl) Try.func8
    (ChangeSpec.witness6 (enc := enc) (C := Try.checked) false ⟨#[], #[.agg #[.int .i64 0, .int .i64 0, .int .i64 0], .slice none 0 0, .slice none 0 0], []⟩ 8 (by kernel_rfl) (by kernel_rfl) (by kernel_rfl) (by kernel_rfl)) ?_
  intro W base args ds gs before hval0 hW _ _
  have hval : ∀ (j : Nat) t v, Try.f8.params[j]? = some t → args[j]? = some v → Value.okWide Try.prog W .any base t v := hval0
  have hW' := hW
  obtain ⟨p, q, hA0, hV, rfl, _, _⟩ := hW
  have hA : DataW.TrodAll enc Try.prog W 0 (fun _ => true) true Try.f8.params.toList args.toList ds p := hA0
  rw [Try.params8] at hA hval
  obtain ⟨v0, v1, v2, d0, d1, d2, p0, p1, p2, rfl, rfl, rfl, h0, h1, h2⟩ := trodAll_three hA
  obtain ⟨rfl, rfl⟩ := trodVars_none hV
  have hlt : ∀ x ∈ p0 ++ (p1 ++ p2), x.block < W.heap.size := fun x hx => by simpa using hW'.lt x (by simpa using hx)
  obtain ⟨c, hc3, hc⟩ : ∃ c : List Int, c.length = 3 ∧ Rel W (oldOk W) [] ⟨fun _ _ => 0, fun _ _ => 0⟩ (.agg (.ints .i64 c)) v0 := rel_conv (okWide_struct Try.underlying24 (hval 0 24 v0 rfl rfl)) h0
  obtain ⟨xs, hx, _⟩ := rel_ints (L := ⟨fun _ _ => 0, fun _ _ => 0⟩) Try.underlying25 Try.underlying3 cells3 (by
    obtain ⟨a, l, c, rfl⟩ := okWide_slice Try.underlying25 (hval 1 25 v1 rfl rfl); rfl) h1
  obtain ⟨ys, hy, _⟩ := rel_ints (L := ⟨fun _ _ => 0, fun _ _ => 0⟩) Try.underlying25 Try.underlying3 cells3 (by
    obtain ⟨a, l, c, rfl⟩ := okWide_slice Try.underlying25 (hval 2 25 v2 rfl rfl); rfl) h2
  refine (law_runs (encodes_ok c xs ys hc3) (RelL.cons hc (RelL.cons hx (RelL.cons hy RelL.nil)))).mono fun e W' ⟨he, hb⟩ => ?_
  subst he
  refine ⟨_, rfl, _, _, _, [], p0 ++ (p1 ++ p2), [], hW', trodAll_mk1 (shut_bool Try.underlying4 true), ?_, rfl, hb.frame _, fun h => by cases h⟩
  exact trodAll_mk3 (Below.trod laidOut (by kernel_rfl) (of_decide_eq_true (by kernel_rfl)) h0 hb (fun x hx => hlt x (List.mem_append_left _ hx))) (Below.trod laidOut (by kernel_rfl) (of_decide_eq_true (by kernel_rfl)) h1 hb (fun x hx => hlt x (List.mem_append_right _ (List.mem_append_left _ hx)))) (Below.trod laidOut (by kernel_rfl) (of_decide_eq_true (by kernel_rfl)) h2 hb (fun x hx => hlt x (List.mem_append_right _ (List.mem_append_right _ hx))))
theorem n8 : Try.checked.prog.funcNamed "cassegrain/cassegrainlaw05.CodeEncodes" = some 8 := by kernel_rfl
theorem j8 : joinedFacts Try.checked.prog 8 Try.f8 Rows.codeEncodesSpec Rows.codeEncodesRow = true := by kernel_rfl
theorem i8 : Try.f8.isInstance Try.checked.prog Rows.codeEncodesRow.origin Rows.codeEncodesRow.targs := of_decide_eq_true (by kernel_rfl)
theorem w8 : Try.f8.isWrapper Try.checked.prog Rows.codeEncodesRow.wrapper Rows.codeEncodesRow.mainSum := by
  unfold Func.isWrapper
  first | (rw [if_pos (by decide +kernel)]; kernel_rfl) | (rw [if_neg (by decide +kernel)]; exact ⟨rfl, rfl⟩)
theorem CodeEncodes_holds : Rows.CodeEncodesSaid :=
  OpenClaim.holds_of_wide 8 Try.f8 rfl rfl rfl rfl rfl rfl rfl ⟨rfl, rfl, rfl, rfl, rfl⟩ rfl rfl rfl rfl rfl n8 Try.func8 j8 i8 w8 (fun os started H enc _ => law8 os started H enc)
#print axioms CodeEncodes_holds
end Go.Proofs.Ytimmgjppippdiaa
