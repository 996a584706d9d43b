/- Contracts as a list. No condition. -/
import Derived.Test.YtimmgjppippdiaaQ2
namespace Go.Proofs.Ytimmgjppippdiaa
theorem listErr2_ok (xs : List Int) (rows : Int) (hlen : xs.length ≤ 1000000) : Pure Try.prog 123 [.list (.ints .i64 xs), .int .i64 rows] (.int .i64 (listErr xs.length rows)) none :=
  start (f123e_at xs rows) fun C hC => by
    have key : firstE [unlessE (std.le (std.int (std.len xs)) 400) 8, unlessE (decide (1 ≤ rows ∧ rows ≤ 400)) 2] = if 400 < xs.length then 8 else if ¬ (1 ≤ rows ∧ rows ≤ 400) then 2 else 0 := by
      by_cases h1 : 400 < xs.length
      · simp [firstE, unlessE, h1]
        omega
      · by_cases h2 : 1 ≤ rows ∧ rows ≤ 400
        · simp [firstE, unlessE, h1, h2]; omega
        · simp [firstE, unlessE, h1, h2]; omega
    by_cases h1 : 400 < xs.length
    · refine fin hC E1_ok (f123p0 std xs rows) ?_ (by rw [key]; simp [listErr, h1]) rfl
      rw [key]; simp [h1, AV.bx, flatLen]
    · by_cases h2 : 1 ≤ rows ∧ rows ≤ 400
      · refine fin hC E1_ok (f123p1 std xs rows) ?_ (by simp [listErr, h1, h2, unlessE]) rfl
        rw [key]; simp [h1, h2, AV.bx, flatLen]; omega
      · refine fin hC E1_ok (f123p0 std xs rows) ?_ (by rw [key]; simp only [listErr, h1, h2, if_true, if_false, not_false_eq_true]) rfl
        rw [key]; simp [h1, h2, AV.bx, flatLen]
def k123 : Ctr := ⟨123, 0, fun _ a => match a with | [.list (.ints .i64 xs), .int .i64 n] => some (decide (xs.length ≤ 1000000), .int .i64 (listErr xs.length n), none) | _ => none⟩
theorem k123_ok : k123.OK Try.prog := fun pa args r fr h => by
  simp only [k123] at h
  split at h
  · simp only [Option.some.injEq, Prod.mk.injEq, decide_eq_true_eq] at h
    obtain ⟨h0, rfl, rfl⟩ := h
    exact listErr2_ok _ _ h0
  · cases h
def E2 : List Ctr := [k123] ++ E1
theorem E2_ok : CtrsOK Try.prog E2 := ⟨k123_ok, E1_ok⟩
end Go.Proofs.Ytimmgjppippdiaa
