/- Contracts as a list. No condition. -/
import Derived.Test.YtjhdnpmojhkbjaaA5
namespace Go.Proofs.Ytjhdnpmojhkbjaa
def bigB (x : Int) : Bool := decide (-9223372036854775807 ≤ x ∧ x ≤ 9223372036854775807)
theorem size70w_ok (n : Int) (h : bigB n = true) : Pure Try.prog 70 [.int .i64 n] (.int .i64 (sizeI n)) none :=
  start (f70e_at n) fun C hC => fin hC E0_ok (f70p0 std n) (by simp [bigB] at h ⊢; omega) rfl rfl
def k70w : Ctr := ⟨70, 0, fun _ a => match a with | [.int .i64 n] => some (decide (bigB n = true), .int .i64 (sizeI n), none) | _ => none⟩
theorem k70w_ok : k70w.OK Try.prog := fun pa args r fr h => by
  simp only [k70w] at h
  split at h
  · simp only [Option.some.injEq, Prod.mk.injEq, decide_eq_true_eq] at h
    obtain ⟨h0, rfl, rfl⟩ := h
    exact size70w_ok _ h0
  · cases h
def BC0 : List Ctr := [k70w] ++ B5
theorem BC0_ok : CtrsOK Try.prog BC0 := ⟨k70w_ok, B5_ok⟩
end Go.Proofs.Ytjhdnpmojhkbjaa
