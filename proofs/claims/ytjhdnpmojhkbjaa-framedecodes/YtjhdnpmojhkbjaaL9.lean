/- FrameDecodes: for every input it returns true, and the arguments read as they did. No condition. -/
import Derived.Test.YtjhdnpmojhkbjaaW4
import Derived.Test.YtjhdnpmojhkbjaaA6
namespace Go.Proofs.Ytjhdnpmojhkbjaa
open Go.ChangeShapes Go.WideShapes Go.ChangeAt Go.RowKit
theorem sh9_0 : shsB Try.prog 8 23 = some [.int .i64, .int .i64] := by kernel_rfl
theorem sh9_1 : shsB Try.prog 8 55 = some [.ints .i64] := by kernel_rfl
set_option maxRecDepth 100000 in
theorem law9 (os : Os) (started : os.Started) (H : Type) (enc : TypeId × Value → H) :
    ReturnsInHanded {} Try.checked os 9 .any (Rows.frameDecodesSpec.pre6 enc Try.prog Try.f9 Rows.frameDecodesRow.domain false) (Rows.frameDecodesSpec.post enc Try.prog Try.f9 false true false false) := by
  refine returnsInHanded_of_change (C := Try.checked) own started (by kernel_rfl) Try.func9
    (ChangeSpec.witness6 (enc := enc) (C := Try.checked) false ⟨#[], #[.agg #[.int .i64 0, .int .i64 0], .slice none 0 0], []⟩ 8 (by kernel_rfl) (by kernel_rfl) (by kernel_rfl) (by kernel_rfl)) ?_
  intro W base args ds gs before hval0 hW _ _
  have hval : ∀ (j : Nat) t v, Try.f9.params[j]? = some t → args[j]? = some v → Value.okWide Try.prog W .any base t v := hval0
  have hW' := hW
  obtain ⟨p, q, hA0, hV, rfl, _, _⟩ := hW
  have hA : DataW.TrodAll enc Try.prog W 0 (fun _ => true) true Try.f9.params.toList args.toList ds p := hA0
  rw [Try.params9] at hA hval
  obtain ⟨v0, v1, d0, d1, p0, p1, rfl, rfl, rfl, h0, h1⟩ := trodAll_two hA
  obtain ⟨rfl, rfl⟩ := trodVars_none hV
  have hlt : ∀ x ∈ p0 ++ p1, x.block < W.heap.size := fun x hx => by simpa using hW'.lt x (by simpa using hx)
  obtain ⟨us0, r0, c0⟩ := rd_agg (L := ⟨fun _ _ => 0, fun _ _ => 0⟩) sh9_0 (okWide_struct Try.underlying23 (hval 0 23 v0 rfl rfl)) h0
  obtain ⟨a, b, rfl, _, _⟩ := cf_ii c0
  obtain ⟨u1, r1, c1⟩ := rd_one (L := ⟨fun _ _ => 0, fun _ _ => 0⟩) sh9_1 (by obtain ⟨a, l, c, rfl⟩ := okWide_slice Try.underlying55 (hval 1 55 v1 rfl rfl); rfl) h1
  obtain ⟨xs, rfl, _⟩ := cf_ints c1
  refine (law_runs (decodes_ok a b xs) (RelL.cons r0 (RelL.cons r1 RelL.nil))).mono fun e W' ⟨he, hb⟩ => ?_
  subst he
  refine ⟨_, rfl, _, _, _, [], p0 ++ p1, [], hW', trodAll_mk1 (shut_bool Try.underlying4 true), ?_, rfl, hb.frame _, fun h => by cases h⟩
  exact trodAll_mk2 (Below.trod laidOut (by kernel_rfl) (of_decide_eq_true (by kernel_rfl)) h0 hb (fun x hx => hlt x (List.mem_append_left _ hx))) (Below.trod laidOut (by kernel_rfl) (of_decide_eq_true (by kernel_rfl)) h1 hb (fun x hx => hlt x (List.mem_append_right _ hx)))
theorem n9 : Try.checked.prog.funcNamed "cassegrain/cassegrainlaw06.FrameDecodes" = some 9 := by kernel_rfl
theorem j9 : joinedFacts Try.checked.prog 9 Try.f9 Rows.frameDecodesSpec Rows.frameDecodesRow = true := by kernel_rfl
theorem i9 : Try.f9.isInstance Try.checked.prog Rows.frameDecodesRow.origin Rows.frameDecodesRow.targs := of_decide_eq_true (by kernel_rfl)
theorem w9 : Try.f9.isWrapper Try.checked.prog Rows.frameDecodesRow.wrapper Rows.frameDecodesRow.mainSum := by
  unfold Func.isWrapper
  first | (rw [if_pos (by decide +kernel)]; kernel_rfl) | (rw [if_neg (by decide +kernel)]; exact ⟨rfl, rfl⟩)
theorem FrameDecodes_holds : Rows.FrameDecodesSaid :=
  OpenClaim.holds_of_wide 9 Try.f9 rfl rfl rfl rfl rfl rfl rfl ⟨rfl, rfl, rfl, rfl, rfl⟩ rfl rfl rfl rfl rfl n9 Try.func9 j9 i9 w9 (fun os started H enc _ => law9 os started H enc)
#print axioms FrameDecodes_holds
end Go.Proofs.Ytjhdnpmojhkbjaa
