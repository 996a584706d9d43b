/- Contracts as a list. No condition. -/
import Derived.Test.YtimmgjppippdiaaQ3
namespace Go.Proofs.Ytimmgjppippdiaa
def okL (e : Int) (l : List Int) : List Int := if e = 0 then l else []
theorem il_ok (xs : List Int) (rows : Int) (hlen : xs.length ≤ 1000000) : Pure Try.prog 51 [.list (.ints .i64 xs), .int .i64 rows] (.tup [.list (.ints .i64 (okL (listErr xs.length rows) (tS xs rows.toNat))), .int .i64 (listErr xs.length rows)]) none := by
  by_cases h0 : listErr xs.length rows = 0
  · obtain ⟨h1, h2, h3, h4⟩ := listErr_zero h0
    obtain ⟨R, rfl⟩ := Int.eq_ofNat_of_zero_le (show 0 ≤ rows by omega)
    have h5 : xs.length / R * R = xs.length := Nat.div_mul_cancel (Nat.dvd_of_mod_eq_zero h4)
    refine start (f51e_at xs R) fun C hC => fin hC E2_ok (f51p1 std xs R) ?_ (by rw [h0]; simp [okL]) rfl
    simp [h0, h5]; omega
  · refine wk_tup (start (f51e_at xs rows) fun C hC => fin hC E2_ok (f51p0 std xs rows) ?_ rfl rfl) ⟨.nil _ (by simp [okL, h0, Row.elems]), .same _, trivial⟩
    simp [h0, hlen]
theorem dl_ok (xs : List Int) (rows : Int) (hlen : xs.length ≤ 1000000) : Pure Try.prog 52 [.list (.ints .i64 xs), .int .i64 rows] (.tup [.list (.ints .i64 (okL (listErr xs.length rows) (tS xs (xs.length / rows.toNat)))), .int .i64 (listErr xs.length rows)]) none := by
  by_cases h0 : listErr xs.length rows = 0
  · obtain ⟨h1, h2, h3, h4⟩ := listErr_zero h0
    obtain ⟨R, rfl⟩ := Int.eq_ofNat_of_zero_le (show 0 ≤ rows by omega)
    have h4 : xs.length % R = 0 := h4
    have h5 : xs.length / R * R = xs.length := Nat.div_mul_cancel (Nat.dvd_of_mod_eq_zero h4)
    have h6 : xs.length / (xs.length / R) * (xs.length / R) = xs.length := Nat.div_mul_cancel ⟨R, h5.symm⟩
    have h7 : xs.length / R ≤ xs.length := Nat.div_le_self _ _
    have e0 : (xs.length : Int).tdiv (R : Int) = ((xs.length / R : Nat) : Int) := rfl
    generalize hq : xs.length / R = q at h5 h6 h7 e0
    refine start (f52e_at xs R) fun C hC => fin hC E2_ok (f52p1 std xs R) ?_ (by rw [h0]; simp only [s_quo, s_int, s_len, e0]; simp [okL, hq]) rfl
    simp only [s_quo, s_int, s_len, e0]
    simp [h0, h6]; omega
  · refine wk_tup (start (f52e_at xs rows) fun C hC => fin hC E2_ok (f52p0 std xs rows) ?_ rfl rfl) ⟨.nil _ (by simp [okL, h0, Row.elems]), .same _, trivial⟩
    simp [h0, hlen]
def k51 : Ctr := ⟨51, 0, fun _ a => match a with | [.list (.ints .i64 xs), .int .i64 n] => some (decide (xs.length ≤ 1000000), .tup [.list (.ints .i64 (okL (listErr xs.length n) (tS xs n.toNat))), .int .i64 (listErr xs.length n)], none) | _ => none⟩
theorem k51_ok : k51.OK Try.prog := fun pa args r fr h => by
  simp only [k51] at h
  split at h
  · simp only [Option.some.injEq, Prod.mk.injEq, decide_eq_true_eq] at h
    obtain ⟨h0, rfl, rfl⟩ := h
    exact il_ok _ _ h0
  · cases h
def k52 : Ctr := ⟨52, 0, fun _ a => match a with | [.list (.ints .i64 xs), .int .i64 n] => some (decide (xs.length ≤ 1000000), .tup [.list (.ints .i64 (okL (listErr xs.length n) (tS xs (xs.length / n.toNat)))), .int .i64 (listErr xs.length n)], none) | _ => none⟩
theorem k52_ok : k52.OK Try.prog := fun pa args r fr h => by
  simp only [k52] at h
  split at h
  · simp only [Option.some.injEq, Prod.mk.injEq, decide_eq_true_eq] at h
    obtain ⟨h0, rfl, rfl⟩ := h
    exact dl_ok _ _ h0
  · cases h
def E3 : List Ctr := [k51, k52] ++ E2
theorem E3_ok : CtrsOK Try.prog E3 := ⟨k51_ok, ⟨k52_ok, E2_ok⟩⟩
end Go.Proofs.Ytimmgjppippdiaa
