/- Contracts as a list. No condition. -/
import Derived.Test.YtimmgjppippdiaaRc
namespace Go.Proofs.Ytimmgjppippdiaa

def k20r : Ctr := ⟨20, 0, fun _ a => match a with | [.list (.ints .i64 xs)] => some (decide (xs.length ≤ 4294967296), .row 0 0, (some ⟨3, 1, .ints .i64 xs⟩)) | _ => none⟩
theorem k20r_ok : k20r.OK Try.prog := fun pa args r fr h => by
  simp only [k20r] at h
  split at h
  · simp only [Option.some.injEq, Prod.mk.injEq, decide_eq_true_eq] at h
    obtain ⟨h0, rfl, rfl⟩ := h
    exact copy_row _ h0
  · cases h
def F6 : List Ctr := [k20r] ++ F5
theorem F6_ok : CtrsOK Try.prog F6 := ⟨k20r_ok, F5_ok⟩
end Go.Proofs.Ytimmgjppippdiaa
