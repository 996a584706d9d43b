/- FrameChanges: for every input it returns true, and the arguments read as they did. No condition. -/
import Derived.Test.YtjhdnpmojhkbjaaW4
import Derived.Test.YtjhdnpmojhkbjaaA7
namespace Go.Proofs.Ytjhdnpmojhkbjaa
open Go.ChangeShapes Go.WideShapes Go.ChangeAt Go.RowKit
theorem sh12_0 : shsB Try.prog 8 23 = some [.int .i64, .int .i64] := by kernel_rfl
theorem sh12_1 : shsB Try.prog 8 74 = some [.int .i64, .int .i64, .int .i64, .ints .i64] := by kernel_rfl
theorem sh12_2 : shsB Try.prog 8 118 = some [.int .i64, .int .i64] := by kernel_rfl
set_option maxRecDepth 100000 in
theorem law12 (os : Os) (started : os.Started) (H : Type) (enc : TypeId × Value → H) :
    ReturnsInHanded {} Try.checked os 12 .any (Rows.frameChangesSpec.pre6 enc Try.prog Try.f12 Rows.frameChangesRow.domain false) (Rows.frameChangesSpec.post enc Try.prog Try.f12 false true false false) := by
  refine returnsInHanded_of_change (C := Try.checked) own started (by kernel_rfl) Try.func12
    (ChangeSpec.witness6 (enc := enc) (C := Try.checked) false ⟨#[], #[.agg #[.int .i64 0, .int .i64 0], .agg #[.int .i64 0, .int .i64 0, .int .i64 0, .slice none 0 0], .agg #[.int .i64 0, .int .i64 0]], []⟩ 8 (by kernel_rfl) (by kernel_rfl) (by kernel_rfl) (by kernel_rfl)) ?_
  intro W base args ds gs before hval0 hW _ _
  have hval : ∀ (j : Nat) t v, Try.f12.params[j]? = some t → args[j]? = some v → Value.okWide Try.prog W .any base t v := hval0
  have hW' := hW
  obtain ⟨p, q, hA0, hV, rfl, _, _⟩ := hW
  have hA : DataW.TrodAll enc Try.prog W 0 (fun _ => true) true Try.f12.params.toList args.toList ds p := hA0
  rw [Try.params12] at hA hval
  obtain ⟨v0, v1, v2, d0, d1, d2, p0, p1, p2, rfl, rfl, rfl, h0, h1, h2⟩ := trodAll_three hA
  obtain ⟨rfl, rfl⟩ := trodVars_none hV
  have hlt : ∀ x ∈ p0 ++ (p1 ++ p2), x.block < W.heap.size := fun x hx => by simpa using hW'.lt x (by simpa using hx)
  obtain ⟨us0, r0, c0⟩ := rd_agg (L := ⟨fun _ _ => 0, fun _ _ => 0⟩) sh12_0 (okWide_struct Try.underlying23 (hval 0 23 v0 rfl rfl)) h0
  obtain ⟨a, b, rfl, _, _⟩ := cf_ii c0
  obtain ⟨us1, r1, c1⟩ := rd_agg (L := ⟨fun _ _ => 0, fun _ _ => 0⟩) sh12_1 (okWide_struct Try.underlying74 (hval 1 74 v1 rfl rfl)) h1
  obtain ⟨c, n, f, ds, rfl⟩ := cf_frame c1
  obtain ⟨us2, r2, c2⟩ := rd_agg (L := ⟨fun _ _ => 0, fun _ _ => 0⟩) sh12_2 (okWide_ary Try.underlying118 (hval 2 118 v2 rfl rfl)) h2
  obtain ⟨x0, x1, rfl, _, _⟩ := cf_ii c2
  refine (law_runs (changes_ok a b c n f x0 x1 ds) (RelL.cons ( r0) (RelL.cons ( r1) (RelL.cons (rel_aggsame (r := .gen [.int .i64 x0, .int .i64 x1]) (r' := .ints .i64 [x0, x1]) rfl r2) RelL.nil)))).mono fun e W' ⟨he, hb⟩ => ?_
  subst he
  refine ⟨_, rfl, _, _, _, [], p0 ++ (p1 ++ p2), [], hW', trodAll_mk1 (shut_bool Try.underlying4 true), ?_, rfl, hb.frame _, fun h => by cases h⟩
  exact trodAll_mk3 (Below.trod laidOut (by kernel_rfl) (of_decide_eq_true (by kernel_rfl)) h0 hb (fun x hx => hlt x (List.mem_append_left _ hx))) (Below.trod laidOut (by kernel_rfl) (of_decide_eq_true (by kernel_rfl)) h1 hb (fun x hx => hlt x (List.mem_append_right _ (List.mem_append_left _ hx)))) (Below.trod laidOut (by kernel_rfl) (of_decide_eq_true (by kernel_rfl)) h2 hb (fun x hx => hlt x (List.mem_append_right _ (List.mem_append_right _ hx))))
theorem n12 : Try.checked.prog.funcNamed "cassegrain/cassegrainlaw06.FrameChanges" = some 12 := by kernel_rfl
theorem j12 : joinedFacts Try.checked.prog 12 Try.f12 Rows.frameChangesSpec Rows.frameChangesRow = true := by kernel_rfl
theorem i12 : Try.f12.isInstance Try.checked.prog Rows.frameChangesRow.origin Rows.frameChangesRow.targs := of_decide_eq_true (by kernel_rfl)
theorem w12 : Try.f12.isWrapper Try.checked.prog Rows.frameChangesRow.wrapper Rows.frameChangesRow.mainSum := by
  unfold Func.isWrapper
  first | (rw [if_pos (by decide +kernel)]; kernel_rfl) | (rw [if_neg (by decide +kernel)]; exact ⟨rfl, rfl⟩)
theorem FrameChanges_holds : Rows.FrameChangesSaid :=
  OpenClaim.holds_of_wide 12 Try.f12 rfl rfl rfl rfl rfl rfl rfl ⟨rfl, rfl, rfl, rfl, rfl⟩ rfl rfl rfl rfl rfl n12 Try.func12 j12 i12 w12 (fun os started H enc _ => law12 os started H enc)
#print axioms FrameChanges_holds
end Go.Proofs.Ytjhdnpmojhkbjaa
