/- FrameClocks: for every input it returns true, and the arguments read as they did. No condition. -/
import Derived.Test.YtjhdnpmojhkbjaaW4
import Derived.Test.YtjhdnpmojhkbjaaC8
namespace Go.Proofs.Ytjhdnpmojhkbjaa
open Go.ChangeShapes Go.WideShapes Go.ChangeAt Go.RowKit
theorem sh7_0 : shsB Try.prog 8 38 = some [.big (.agg [.int .i64, .int .i64, .int .i64])] := by kernel_rfl
set_option maxRecDepth 100000 in
theorem law7 (os : Os) (started : os.Started) (H : Type) (enc : TypeId × Value → H) :
    ReturnsInHanded {} Try.checked os 7 .any (Rows.frameClocksSpec.pre6 enc Try.prog Try.f7 Rows.frameClocksRow.domain false) (Rows.frameClocksSpec.post enc Try.prog Try.f7 false true false false) := by
  refine returnsInHanded_of_change (C := Try.checked) own started (by kernel_rfl) Try.func7
    (ChangeSpec.witness6 (enc := enc) (C := Try.checked) false ⟨#[], #[.slice none 0 0], []⟩ 8 (by kernel_rfl) (by kernel_rfl) (by kernel_rfl) (by kernel_rfl)) ?_
  intro W base args ds gs before hval0 hW _ _
  have hval : ∀ (j : Nat) t v, Try.f7.params[j]? = some t → args[j]? = some v → Value.okWide Try.prog W .any base t v := hval0
  have hW' := hW
  obtain ⟨p, q, hA0, hV, rfl, _, _⟩ := hW
  have hA : DataW.TrodAll enc Try.prog W 0 (fun _ => true) true Try.f7.params.toList args.toList ds p := hA0
  rw [Try.params7] at hA hval
  obtain ⟨v0, d0, rfl, rfl, h0⟩ := trodAll_one hA
  obtain ⟨rfl, rfl⟩ := trodVars_none hV
  have hlt : ∀ x ∈ p, x.block < W.heap.size := fun x hx => by simpa using hW'.lt x (by simpa using hx)
  obtain ⟨u0, r0, c0⟩ := rd_one (L := ⟨fun _ _ => 0, fun _ _ => 0⟩) sh7_0 (by obtain ⟨a, l, c, rfl⟩ := okWide_slice Try.underlying38 (hval 0 38 v0 rfl rfl); rfl) h0
  obtain ⟨ps, rfl⟩ := cf_big c0
  refine (law_runs (clocks_ok ps) (RelL.cons ( r0) RelL.nil)).mono fun e W' ⟨he, hb⟩ => ?_
  subst he
  refine ⟨_, rfl, _, _, _, [], p, [], hW', trodAll_mk1 (shut_bool Try.underlying4 true), ?_, rfl, hb.frame _, fun h => by cases h⟩
  exact trodAll_mk1 (Below.trod laidOut (by kernel_rfl) (of_decide_eq_true (by kernel_rfl)) h0 hb (fun x hx => hlt x hx))
theorem n7 : Try.checked.prog.funcNamed "cassegrain/cassegrainlaw06.FrameClocks" = some 7 := by kernel_rfl
theorem j7 : joinedFacts Try.checked.prog 7 Try.f7 Rows.frameClocksSpec Rows.frameClocksRow = true := by kernel_rfl
theorem i7 : Try.f7.isInstance Try.checked.prog Rows.frameClocksRow.origin Rows.frameClocksRow.targs := of_decide_eq_true (by kernel_rfl)
theorem w7 : Try.f7.isWrapper Try.checked.prog Rows.frameClocksRow.wrapper Rows.frameClocksRow.mainSum := by
  unfold Func.isWrapper
  first | (rw [if_pos (by decide +kernel)]; kernel_rfl) | (rw [if_neg (by decide +kernel)]; exact ⟨rfl, rfl⟩)
theorem FrameClocks_holds : Rows.FrameClocksSaid :=
  OpenClaim.holds_of_wide 7 Try.f7 rfl rfl rfl rfl rfl rfl rfl ⟨rfl, rfl, rfl, rfl, rfl⟩ rfl rfl rfl rfl rfl n7 Try.func7 j7 i7 w7 (fun os started H enc _ => law7 os started H enc)
#print axioms FrameClocks_holds
end Go.Proofs.Ytjhdnpmojhkbjaa
