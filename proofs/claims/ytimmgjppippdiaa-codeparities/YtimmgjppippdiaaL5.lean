/- CodeParities: for every input it returns true, and the arguments read as they did. No condition. -/
import Derived.Test.YtimmgjppippdiaaW1
import Derived.Test.YtimmgjppippdiaaRh
namespace Go.Proofs.Ytimmgjppippdiaa
open Go.ChangeShapes Go.WideShapes Go.ChangeAt Go.RowKit
set_option maxRecDepth 100000 in
theorem law5 (os : Os) (started : os.Started) (H : Type) (enc : TypeId × Value → H) :
    ReturnsInHanded {} Try.checked os 5 .any (Rows.codeParitiesSpec.pre6 enc Try.prog Try.f5 Rows.codeParitiesRow.domain false) (Rows.codeParitiesSpec.post enc Try.prog Try.f5 false true false false) := by
  refine returnsInHanded_of_change (C := Try.checked) own started (by kernel_rfl) Try.func5
    (ChangeSpec.witness6 (enc := enc) (C := Try.checked) false ⟨#[], #[.agg #[.int .i64 0, .slice none 0 0], .slice none 0 0], []⟩ 8 (by kernel_rfl) (by kernel_rfl) (by kernel_rfl) (by kernel_rfl)) ?_
  intro W base args ds gs before hval0 hW _ _
  have hval : ∀ (j : Nat) t v, Try.f5.params[j]? = some t → args[j]? = some v → Value.okWide Try.prog W .any base t v := hval0
  have hW' := hW
  obtain ⟨p, q, hA0, hV, rfl, _, _⟩ := hW
  have hA : DataW.TrodAll enc Try.prog W 0 (fun _ => true) true Try.f5.params.toList args.toList ds p := hA0
  rw [Try.params5] at hA hval
  obtain ⟨v0, v1, d0, d1, p0, p1, rfl, rfl, rfl, h0, h1⟩ := trodAll_two hA
  obtain ⟨rfl, rfl⟩ := trodVars_none hV
  have hlt : ∀ x ∈ p0 ++ p1, x.block < W.heap.size := fun x hx => by simpa using hW'.lt x (by simpa using hx)
  obtain ⟨n, cs, hc, hx0⟩ : ∃ (n : Int) (cs : List AV), Rel W (oldOk W) [] ⟨fun _ _ => 0, fun _ _ => 0⟩ (.agg (.gen [.int .i64 n, .list (.big (.ints .i64) cs)])) v0 ∧ True := by
    obtain ⟨n, cs, h⟩ := rel_parity (okWide_struct Try.underlying48 (hval 0 48 v0 rfl rfl)) h0
    exact ⟨n, cs, h, trivial⟩
  obtain ⟨xs, hx, _⟩ := rel_ints (L := ⟨fun _ _ => 0, fun _ _ => 0⟩) Try.underlying25 Try.underlying3 cells3 (by
    obtain ⟨a, l, c, rfl⟩ := okWide_slice Try.underlying25 (hval 1 25 v1 rfl rfl); rfl) h1
  refine (law_runs (parities_ok n cs xs) (RelL.cons hc (RelL.cons hx RelL.nil))).mono fun e W' ⟨he, hb⟩ => ?_
  subst he
  refine ⟨_, rfl, _, _, _, [], p0 ++ p1, [], hW', trodAll_mk1 (shut_bool Try.underlying4 true), ?_, rfl, hb.frame _, fun h => by cases h⟩
  exact trodAll_mk2 (Below.trod laidOut (by kernel_rfl) (of_decide_eq_true (by kernel_rfl)) h0 hb (fun x hx => hlt x (List.mem_append_left _ hx))) (Below.trod laidOut (by kernel_rfl) (of_decide_eq_true (by kernel_rfl)) h1 hb (fun x hx => hlt x (List.mem_append_right _ hx)))
theorem n5 : Try.checked.prog.funcNamed "cassegrain/cassegrainlaw05.CodeParities" = some 5 := by kernel_rfl
theorem j5 : joinedFacts Try.checked.prog 5 Try.f5 Rows.codeParitiesSpec Rows.codeParitiesRow = true := by kernel_rfl
theorem i5 : Try.f5.isInstance Try.checked.prog Rows.codeParitiesRow.origin Rows.codeParitiesRow.targs := of_decide_eq_true (by kernel_rfl)
theorem w5 : Try.f5.isWrapper Try.checked.prog Rows.codeParitiesRow.wrapper Rows.codeParitiesRow.mainSum := by
  unfold Func.isWrapper
  first | (rw [if_pos (by decide +kernel)]; kernel_rfl) | (rw [if_neg (by decide +kernel)]; exact ⟨rfl, rfl⟩)
theorem CodeParities_holds : Rows.CodeParitiesSaid :=
  OpenClaim.holds_of_wide 5 Try.f5 rfl rfl rfl rfl rfl rfl rfl ⟨rfl, rfl, rfl, rfl, rfl⟩ rfl rfl rfl rfl rfl n5 Try.func5 j5 i5 w5 (fun os started H enc _ => law5 os started H enc)
#print axioms CodeParities_holds
end Go.Proofs.Ytimmgjppippdiaa
