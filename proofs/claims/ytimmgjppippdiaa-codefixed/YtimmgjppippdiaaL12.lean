/- CodeFixed: for every input it returns true, and the arguments read as they did. No condition. -/
import Derived.Test.YtimmgjppippdiaaW1
import Derived.Test.YtimmgjppippdiaaS2
namespace Go.Proofs.Ytimmgjppippdiaa
open Go.ChangeShapes Go.WideShapes Go.ChangeAt Go.RowKit
set_option maxRecDepth 100000 in
theorem law12 (os : Os) (started : os.Started) (H : Type) (enc : TypeId × Value → H) :
    ReturnsInHanded {} Try.checked os 12 .any (Rows.codeFixedSpec.pre6 enc Try.prog Try.f12 Rows.codeFixedRow.domain false) (Rows.codeFixedSpec.post enc Try.prog Try.f12 false true false false) := by
  refine returnsInHanded_of_change (C := Try.checked) own started (by kernel_rfl) Try.func12
    (ChangeSpec.witness6 (enc := enc) (C := Try.checked) false ⟨#[], #[.agg #[.int .i64 0, .slice none 0 0], .slice none 0 0, .slice none 0 0], []⟩ 8 (by kernel_rfl) (by kernel_rfl) (by kernel_rfl) (by kernel_rfl)) ?_
  intro W base args ds gs before hval0 hW _ _
  have hval : ∀ (j : Nat) t v, Try.f12.params[j]? = some t → args[j]? = some v → Value.okWide Try.prog W .any base t v := hval0
  have hW' := hW
  obtain ⟨p, q, hA0, hV, rfl, _, _⟩ := hW
  have hA : DataW.TrodAll enc Try.prog W 0 (fun _ => true) true Try.f12.params.toList args.toList ds p := hA0
  rw [Try.params12] at hA hval
  obtain ⟨v0, v1, v2, d0, d1, d2, p0, p1, p2, rfl, rfl, rfl, h0, h1, h2⟩ := trodAll_three hA
  obtain ⟨rfl, rfl⟩ := trodVars_none hV
  have hlt : ∀ x ∈ p0 ++ (p1 ++ p2), x.block < W.heap.size := fun x hx => by simpa using hW'.lt x (by simpa using hx)
  obtain ⟨n, cs, hc, hx0⟩ : ∃ (n : Int) (cs : List AV), Rel W (oldOk W) [] ⟨fun _ _ => 0, fun _ _ => 0⟩ (.agg (.gen [.int .i64 n, .list (.big (.ints .i64) cs)])) v0 ∧ True := by
    obtain ⟨n, cs, h⟩ := rel_parity (okWide_struct Try.underlying48 (hval 0 48 v0 rfl rfl)) h0
    exact ⟨n, cs, h, trivial⟩
  obtain ⟨xs, hx, _⟩ := rel_ints (L := ⟨fun _ _ => 0, fun _ _ => 0⟩) Try.underlying25 Try.underlying3 cells3 (by
    obtain ⟨a, l, c, rfl⟩ := okWide_slice Try.underlying25 (hval 1 25 v1 rfl rfl); rfl) h1
  obtain ⟨ys, hy, _⟩ := rel_ints (L := ⟨fun _ _ => 0, fun _ _ => 0⟩) Try.underlying25 Try.underlying3 cells3 (by
    obtain ⟨a, l, c, rfl⟩ := okWide_slice Try.underlying25 (hval 2 25 v2 rfl rfl); rfl) h2
  refine (law_runs (fixed_ok n cs xs ys) (RelL.cons hc (RelL.cons hx (RelL.cons hy RelL.nil)))).mono fun e W' ⟨he, hb⟩ => ?_
  subst he
  refine ⟨_, rfl, _, _, _, [], p0 ++ (p1 ++ p2), [], hW', trodAll_mk1 (shut_bool Try.underlying4 true), ?_, rfl, hb.frame _, fun h => by cases h⟩
  exact trodAll_mk3 (Below.trod laidOut (by kernel_rfl) (of_decide_eq_true (by kernel_rfl)) h0 hb (fun x hx => hlt x (List.mem_append_left _ hx))) (Below.trod laidOut (by kernel_rfl) (of_decide_eq_true (by kernel_rfl)) h1 hb (fun x hx => hlt x (List.mem_append_right _ (List.mem_append_left _ hx)))) (Below.trod laidOut (by kernel_rfl) (of_decide_eq_true (by kernel_rfl)) h2 hb (fun x hx => hlt x (List.mem_append_right _ (List.mem_append_right _ hx))))
theorem n12 : Try.checked.prog.funcNamed "cassegrain/cassegrainlaw05.CodeFixed" = some 12 := by kernel_rfl
theorem j12 : joinedFacts Try.checked.prog 12 Try.f12 Rows.codeFixedSpec Rows.codeFixedRow = true := by kernel_rfl
theorem i12 : Try.f12.isInstance Try.checked.prog Rows.codeFixedRow.origin Rows.codeFixedRow.targs := of_decide_eq_true (by kernel_rfl)
theorem w12 : Try.f12.isWrapper Try.checked.prog Rows.codeFixedRow.wrapper Rows.codeFixedRow.mainSum := by
  unfold Func.isWrapper
  first | (rw [if_pos (by decide +kernel)]; kernel_rfl) | (rw [if_neg (by decide +kernel)]; exact ⟨rfl, rfl⟩)
theorem CodeFixed_holds : Rows.CodeFixedSaid :=
  OpenClaim.holds_of_wide 12 Try.f12 rfl rfl rfl rfl rfl rfl rfl ⟨rfl, rfl, rfl, rfl, rfl⟩ rfl rfl rfl rfl rfl n12 Try.func12 j12 i12 w12 (fun os started H enc _ => law12 os started H enc)
#print axioms CodeFixed_holds
end Go.Proofs.Ytimmgjppippdiaa
