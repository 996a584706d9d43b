/- FramePacks: for every input it returns true, and the arguments read as they did. No condition. -/
import Derived.Test.YtjhdnpmojhkbjaaW4
import Derived.Test.YtjhdnpmojhkbjaaD7
namespace Go.Proofs.Ytjhdnpmojhkbjaa
open Go.ChangeShapes Go.WideShapes Go.ChangeAt Go.RowKit
theorem sh5_0 : shsB Try.prog 8 23 = some [.int .i64, .int .i64] := by kernel_rfl
theorem sh5_1 : shsB Try.prog 8 52 = some [.int .i64, .int .i64] := by kernel_rfl
theorem sh5_2 : shsB Try.prog 8 27 = some [.big (.agg [.int .i64, .int .i64, .ints .i64])] := by kernel_rfl
set_option maxRecDepth 100000 in
theorem law5 (os : Os) (started : os.Started) (H : Type) (enc : TypeId × Value → H) :
    ReturnsInHanded {} Try.checked os 5 .any (Rows.framePacksSpec.pre6 enc Try.prog Try.f5 Rows.framePacksRow.domain false) (Rows.framePacksSpec.post enc Try.prog Try.f5 false true false false) := by
  refine returnsInHanded_of_change (C := Try.checked) own started (by kernel_rfl) Try.func5
    (ChangeSpec.witness6 (enc := enc) (C := Try.checked) false ⟨#[], #[.agg #[.int .i64 0, .int .i64 0], .agg #[.int .i64 0, .int .i64 0], .slice none 0 0], []⟩ 8 (by kernel_rfl) (by kernel_rfl) (by kernel_rfl) (by kernel_rfl)) ?_
  intro W base args ds gs before hval0 hW _ _
  have hval : ∀ (j : Nat) t v, Try.f5.params[j]? = some t → args[j]? = some v → Value.okWide Try.prog W .any base t v := hval0
  have hW' := hW
  obtain ⟨p, q, hA0, hV, rfl, _, _⟩ := hW
  have hA : DataW.TrodAll enc Try.prog W 0 (fun _ => true) true Try.f5.params.toList args.toList ds p := hA0
  rw [Try.params5] at hA hval
  obtain ⟨v0, v1, v2, d0, d1, d2, p0, p1, p2, rfl, rfl, rfl, h0, h1, h2⟩ := trodAll_three hA
  obtain ⟨rfl, rfl⟩ := trodVars_none hV
  have hlt : ∀ x ∈ p0 ++ (p1 ++ p2), x.block < W.heap.size := fun x hx => by simpa using hW'.lt x (by simpa using hx)
  obtain ⟨us0, r0, c0⟩ := rd_agg (L := ⟨fun _ _ => 0, fun _ _ => 0⟩) sh5_0 (okWide_struct Try.underlying23 (hval 0 23 v0 rfl rfl)) h0
  obtain ⟨a, b, rfl, _, _⟩ := cf_ii c0
  obtain ⟨us1, r1, c1⟩ := rd_agg (L := ⟨fun _ _ => 0, fun _ _ => 0⟩) sh5_1 (okWide_struct Try.underlying52 (hval 1 52 v1 rfl rfl)) h1
  obtain ⟨c, d, rfl, _, _⟩ := cf_ii c1
  obtain ⟨u2, r2, c2⟩ := rd_one (L := ⟨fun _ _ => 0, fun _ _ => 0⟩) sh5_2 (by obtain ⟨a, l, c, rfl⟩ := okWide_slice Try.underlying27 (hval 2 27 v2 rfl rfl); rfl) h2
  obtain ⟨ps, rfl⟩ := cf_big c2
  refine (law_runs (packs_ok a b c d ps) (RelL.cons ( r0) (RelL.cons ( r1) (RelL.cons ( r2) RelL.nil)))).mono fun e W' ⟨he, hb⟩ => ?_
  subst he
  refine ⟨_, rfl, _, _, _, [], p0 ++ (p1 ++ p2), [], hW', trodAll_mk1 (shut_bool Try.underlying4 true), ?_, rfl, hb.frame _, fun h => by cases h⟩
  exact trodAll_mk3 (Below.trod laidOut (by kernel_rfl) (of_decide_eq_true (by kernel_rfl)) h0 hb (fun x hx => hlt x (List.mem_append_left _ hx))) (Below.trod laidOut (by kernel_rfl) (of_decide_eq_true (by kernel_rfl)) h1 hb (fun x hx => hlt x (List.mem_append_right _ (List.mem_append_left _ hx)))) (Below.trod laidOut (by kernel_rfl) (of_decide_eq_true (by kernel_rfl)) h2 hb (fun x hx => hlt x (List.mem_append_right _ (List.mem_append_right _ hx))))
theorem n5 : Try.checked.prog.funcNamed "cassegrain/cassegrainlaw06.FramePacks" = some 5 := by kernel_rfl
theorem j5 : joinedFacts Try.checked.prog 5 Try.f5 Rows.framePacksSpec Rows.framePacksRow = true := by kernel_rfl
theorem i5 : Try.f5.isInstance Try.checked.prog Rows.framePacksRow.origin Rows.framePacksRow.targs := of_decide_eq_true (by kernel_rfl)
theorem w5 : Try.f5.isWrapper Try.checked.prog Rows.framePacksRow.wrapper Rows.framePacksRow.mainSum := by
  unfold Func.isWrapper
  first | (rw [if_pos (by decide +kernel)]; kernel_rfl) | (rw [if_neg (by decide +kernel)]; exact ⟨rfl, rfl⟩)
theorem FramePacks_holds : Rows.FramePacksSaid :=
  OpenClaim.holds_of_wide 5 Try.f5 rfl rfl rfl rfl rfl rfl rfl ⟨rfl, rfl, rfl, rfl, rfl⟩ rfl rfl rfl rfl rfl n5 Try.func5 j5 i5 w5 (fun os started H enc _ => law5 os started H enc)
#print axioms FramePacks_holds
end Go.Proofs.Ytjhdnpmojhkbjaa
