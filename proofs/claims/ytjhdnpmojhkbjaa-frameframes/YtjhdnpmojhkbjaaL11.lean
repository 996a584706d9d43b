/- FrameFrames: for every input it returns true, and the arguments read as they did. No condition. -/
import Derived.Test.YtjhdnpmojhkbjaaW4
import Derived.Test.YtjhdnpmojhkbjaaA6
namespace Go.Proofs.Ytjhdnpmojhkbjaa
open Go.ChangeShapes Go.WideShapes Go.ChangeAt Go.RowKit
theorem sh11_0 : shsB Try.prog 8 23 = some [.int .i64, .int .i64] := by kernel_rfl
theorem sh11_1 : shsB Try.prog 8 74 = some [.int .i64, .int .i64, .int .i64, .ints .i64] := by kernel_rfl
theorem sh11_2 : shsB Try.prog 8 55 = some [.ints .i64] := by kernel_rfl
set_option maxRecDepth 100000 in
theorem law11 (os : Os) (started : os.Started) (H : Type) (enc : TypeId × Value → H) :
    ReturnsInHanded {} Try.checked os 11 .any (Rows.frameFramesSpec.pre6 enc Try.prog Try.f11 Rows.frameFramesRow.domain false) (Rows.frameFramesSpec.post enc Try.prog Try.f11 false true false false) := by
  refine returnsInHanded_of_change (C := Try.checked) own started (by kernel_rfl) Try.func11
    (ChangeSpec.witness6 (enc := enc) (C := Try.checked) false ⟨#[], #[.agg #[.int .i64 0, .int .i64 0], .agg #[.int .i64 0, .int .i64 0, .int .i64 0, .slice none 0 0], .slice none 0 0], []⟩ 8 (by kernel_rfl) (by kernel_rfl) (by kernel_rfl) (by kernel_rfl)) ?_
  intro W base args ds gs before hval0 hW _ _
  have hval : ∀ (j : Nat) t v, Try.f11.params[j]? = some t → args[j]? = some v → Value.okWide Try.prog W .any base t v := hval0
  have hW' := hW
  obtain ⟨p, q, hA0, hV, rfl, _, _⟩ := hW
  have hA : DataW.TrodAll enc Try.prog W 0 (fun _ => true) true Try.f11.params.toList args.toList ds p := hA0
  rw [Try.params11] at hA hval
  obtain ⟨v0, v1, v2, d0, d1, d2, p0, p1, p2, rfl, rfl, rfl, h0, h1, h2⟩ := trodAll_three hA
  obtain ⟨rfl, rfl⟩ := trodVars_none hV
  have hlt : ∀ x ∈ p0 ++ (p1 ++ p2), x.block < W.heap.size := fun x hx => by simpa using hW'.lt x (by simpa using hx)
  obtain ⟨us0, r0, c0⟩ := rd_agg (L := ⟨fun _ _ => 0, fun _ _ => 0⟩) sh11_0 (okWide_struct Try.underlying23 (hval 0 23 v0 rfl rfl)) h0
  obtain ⟨a, b, rfl, _, _⟩ := cf_ii c0
  obtain ⟨us1, r1, c1⟩ := rd_agg (L := ⟨fun _ _ => 0, fun _ _ => 0⟩) sh11_1 (okWide_struct Try.underlying74 (hval 1 74 v1 rfl rfl)) h1
  obtain ⟨c, n, f, ds, rfl⟩ := cf_frame c1
  obtain ⟨u2, r2, c2⟩ := rd_one (L := ⟨fun _ _ => 0, fun _ _ => 0⟩) sh11_2 (by obtain ⟨a, l, c, rfl⟩ := okWide_slice Try.underlying55 (hval 2 55 v2 rfl rfl); rfl) h2
  obtain ⟨xs, rfl, _⟩ := cf_ints c2
  refine (law_runs (frames_ok a b c n f ds xs) (RelL.cons r0 (RelL.cons r1 (RelL.cons r2 RelL.nil)))).mono fun e W' ⟨he, hb⟩ => ?_
  subst he
  refine ⟨_, rfl, _, _, _, [], p0 ++ (p1 ++ p2), [], hW', trodAll_mk1 (shut_bool Try.underlying4 true), ?_, rfl, hb.frame _, fun h => by cases h⟩
  exact trodAll_mk3 (Below.trod laidOut (by kernel_rfl) (of_decide_eq_true (by kernel_rfl)) h0 hb (fun x hx => hlt x (List.mem_append_left _ hx))) (Below.trod laidOut (by kernel_rfl) (of_decide_eq_true (by kernel_rfl)) h1 hb (fun x hx => hlt x (List.mem_append_right _ (List.mem_append_left _ hx)))) (Below.trod laidOut (by kernel_rfl) (of_decide_eq_true (by kernel_rfl)) h2 hb (fun x hx => hlt x (List.mem_append_right _ (List.mem_append_right _ hx))))
theorem n11 : Try.checked.prog.funcNamed "cassegrain/cassegrainlaw06.FrameFrames" = some 11 := by kernel_rfl
theorem j11 : joinedFacts Try.checked.prog 11 Try.f11 Rows.frameFramesSpec Rows.frameFramesRow = true := by kernel_rfl
theorem i11 : Try.f11.isInstance Try.checked.prog Rows.frameFramesRow.origin Rows.frameFramesRow.targs := of_decide_eq_true (by kernel_rfl)
theorem w11 : Try.f11.isWrapper Try.checked.prog Rows.frameFramesRow.wrapper Rows.frameFramesRow.mainSum := by
  unfold Func.isWrapper
  first | (rw [if_pos (by decide +kernel)]; kernel_rfl) | (rw [if_neg (by decide +kernel)]; exact ⟨rfl, rfl⟩)
theorem FrameFrames_holds : Rows.FrameFramesSaid :=
  OpenClaim.holds_of_wide 11 Try.f11 rfl rfl rfl rfl rfl rfl rfl ⟨rfl, rfl, rfl, rfl, rfl⟩ rfl rfl rfl rfl rfl n11 Try.func11 j11 i11 w11 (fun os started H enc _ => law11 os started H enc)
#print axioms FrameFrames_holds
end Go.Proofs.Ytjhdnpmojhkbjaa
