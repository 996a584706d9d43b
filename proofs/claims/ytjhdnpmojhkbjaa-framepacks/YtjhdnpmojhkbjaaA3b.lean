/- Contracts as a list. No condition. -/
import Derived.Test.YtjhdnpmojhkbjaaA3
namespace Go.Proofs.Ytjhdnpmojhkbjaa

def k113r : Ctr := ⟨113, 0, fun _ a => match a with | [.list (.gen [.list (.ints .i64 a), .list (.ints .i64 b)])] => some (decide (0 < a.length + b.length ∧ a.length + b.length ≤ 1000000), .row 0 0, (some ⟨3, 1, .ints .i64 (a ++ b)⟩)) | _ => none⟩
theorem k113r_ok : k113r.OK Try.prog := fun pa args r fr h => by
  simp only [k113r] at h
  split at h
  · simp only [Option.some.injEq, Prod.mk.injEq, decide_eq_true_eq] at h
    obtain ⟨h0, rfl, rfl⟩ := h
    exact pure_arg (xs := []) (ys := []) (concat_row (.list (.ints .i64 _)) (.list (.ints .i64 _)) _ _ rfl rfl h0) rfl
  · cases h
def B3b : List Ctr := [k113r] ++ B3
theorem B3b_ok : CtrsOK Try.prog B3b := ⟨k113r_ok, B3_ok⟩
end Go.Proofs.Ytjhdnpmojhkbjaa
