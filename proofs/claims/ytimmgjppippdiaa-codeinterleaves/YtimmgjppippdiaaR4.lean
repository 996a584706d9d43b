/- Contracts as a list. No condition. -/
import Derived.Test.YtimmgjppippdiaaR3
import Derived.Test.YtimmgjppippdiaaTi
namespace Go.Proofs.Ytimmgjppippdiaa
theorem listErr_zero {n : Nat} {rows : Int} (h : listErr n rows = 0) : n ≤ 400 ∧ 1 ≤ rows ∧ rows ≤ 400 ∧ n % rows.toNat = 0 := by
  unfold listErr at h
  split at h
  · cases h
  · split at h
    · cases h
    · rename_i h1 h2
      have h2 := Decidable.not_not.1 h2
      split at h
      · rename_i h3
        refine ⟨by omega, h2.1, h2.2, ?_⟩
        obtain ⟨R, rfl⟩ := Int.eq_ofNat_of_zero_le (show 0 ≤ rows by omega)
        exact Int.ofNat.inj (h3 : Int.ofNat (n % R) = Int.ofNat 0)
      · cases h
theorem rin_ok' (xs : List Int) (n : Int) (h0 : listErr xs.length n = 0) : Pure Try.prog 54 [.list (.ints .i64 xs), .int .i64 n] (.list (.ints .i64 (tS xs n.toNat))) newF := by
  obtain ⟨h1, h2, h3, h4⟩ := listErr_zero h0
  obtain ⟨R, rfl⟩ := Int.eq_ofNat_of_zero_le (show 0 ≤ n by omega)
  exact rin_ok xs R (by omega) (by omega) h4
theorem rde_ok' (xs : List Int) (n : Int) (h0 : listErr xs.length n = 0) : Pure Try.prog 55 [.list (.ints .i64 xs), .int .i64 n] (.list (.ints .i64 (tS xs (xs.length / n.toNat)))) newF := by
  obtain ⟨h1, h2, h3, h4⟩ := listErr_zero h0
  obtain ⟨R, rfl⟩ := Int.eq_ofNat_of_zero_le (show 0 ≤ n by omega)
  exact rde_ok xs R (by omega) (by omega) h4
theorem turned_ok' (xs : List Int) (n : Int) (h : 0 ≤ n ∧ n ≤ 1000000 ∧ xs.length ≤ 1000000 ∧ xs.length / n.toNat * n.toNat = xs.length) : Pure Try.prog 124 [.list (.ints .i64 xs), .int .i64 n] (.list (.ints .i64 (tS xs n.toNat))) newF := by
  obtain ⟨h0, h1, h2, h3⟩ := h
  obtain ⟨R, rfl⟩ := Int.eq_ofNat_of_zero_le h0
  exact turned_ok xs R (by omega) h2 h3
def k18 : Ctr := ⟨18, 0, fun _ a => match a with | [] => some (true, .bool true, none) | _ => none⟩
theorem k18_ok : k18.OK Try.prog := fun pa args r fr h => by
  simp only [k18] at h
  split at h
  · cases h
    exact q181_ok
  · cases h
def k20 : Ctr := ⟨20, 0, fun _ a => match a with | [.list (.ints .i64 xs)] => some (decide (xs.length ≤ 4294967296), .list (.ints .i64 xs), newF) | _ => none⟩
theorem k20_ok : k20.OK Try.prog := fun pa args r fr h => by
  simp only [k20] at h
  split at h
  · simp only [Option.some.injEq, Prod.mk.injEq, decide_eq_true_eq] at h
    obtain ⟨h0, rfl, rfl⟩ := h
    exact copy_new _ h0
  · cases h
def k23 : Ctr := ⟨23, 0, fun _ a => match a with | [.list (.ints .i64 xs), .list (.ints .i64 ys)] => some (decide (xs.length ≤ 1000000), .bool (decide (xs = ys)), none) | _ => none⟩
theorem k23_ok : k23.OK Try.prog := fun pa args r fr h => by
  simp only [k23] at h
  split at h
  · simp only [Option.some.injEq, Prod.mk.injEq, decide_eq_true_eq] at h
    obtain ⟨h0, rfl, rfl⟩ := h
    exact ints_ok _ _ h0
  · cases h
def k45 : Ctr := ⟨45, 0, fun _ a => match a with | [.int .i64 n, .int .i64 a, .int .i64 b] => some (true, .bool (decide (a ≤ n ∧ n ≤ b)), none) | _ => none⟩
theorem k45_ok : k45.OK Try.prog := fun pa args r fr h => by
  simp only [k45] at h
  split at h
  · cases h
    exact within45_ok _ _ _
  · cases h
def k50 : Ctr := ⟨50, 0, fun _ a => match a with | [.int .i64 n, .int .i64 m] => some (decide (-1000 ≤ m ∧ m ≤ 1000), .bool (few n m), none) | _ => none⟩
theorem k50_ok : k50.OK Try.prog := fun pa args r fr h => by
  simp only [k50] at h
  split at h
  · simp only [Option.some.injEq, Prod.mk.injEq, decide_eq_true_eq] at h
    obtain ⟨h0, rfl, rfl⟩ := h
    exact few_ok _ _ h0
  · cases h
def k53 : Ctr := ⟨53, 0, fun _ a => match a with | [.list (.ints .i64 xs), .int .i64 n] => some (decide (xs.length ≤ 1000000), .int .i64 (listErr xs.length n), none) | _ => none⟩
theorem k53_ok : k53.OK Try.prog := fun pa args r fr h => by
  simp only [k53] at h
  split at h
  · simp only [Option.some.injEq, Prod.mk.injEq, decide_eq_true_eq] at h
    obtain ⟨h0, rfl, rfl⟩ := h
    exact listErr_ok _ _ h0
  · cases h
def k54 : Ctr := ⟨54, 0, fun _ a => match a with | [.list (.ints .i64 xs), .int .i64 n] => some (decide (listErr xs.length n = 0), .list (.ints .i64 (tS xs n.toNat)), newF) | _ => none⟩
theorem k54_ok : k54.OK Try.prog := fun pa args r fr h => by
  simp only [k54] at h
  split at h
  · simp only [Option.some.injEq, Prod.mk.injEq, decide_eq_true_eq] at h
    obtain ⟨h0, rfl, rfl⟩ := h
    exact rin_ok' _ _ h0
  · cases h
def k55 : Ctr := ⟨55, 0, fun _ a => match a with | [.list (.ints .i64 xs), .int .i64 n] => some (decide (listErr xs.length n = 0), .list (.ints .i64 (tS xs (xs.length / n.toNat))), newF) | _ => none⟩
theorem k55_ok : k55.OK Try.prog := fun pa args r fr h => by
  simp only [k55] at h
  split at h
  · simp only [Option.some.injEq, Prod.mk.injEq, decide_eq_true_eq] at h
    obtain ⟨h0, rfl, rfl⟩ := h
    exact rde_ok' _ _ h0
  · cases h
def k105 : Ctr := ⟨105, 0, fun _ a => match a with | [.list (.ints .i64 xs)] => some (decide (xs.length ≤ 1000000), .int .i64 (firstE xs), none) | _ => none⟩
theorem k105_ok : k105.OK Try.prog := fun pa args r fr h => by
  simp only [k105] at h
  split at h
  · simp only [Option.some.injEq, Prod.mk.injEq, decide_eq_true_eq] at h
    obtain ⟨h0, rfl, rfl⟩ := h
    exact first_ok _ h0
  · cases h
def k111 : Ctr := ⟨111, 0, fun _ a => match a with | [.bool b, .int .i64 e] => some (true, .int .i64 (unlessE b e), none) | _ => none⟩
theorem k111_ok : k111.OK Try.prog := fun pa args r fr h => by
  simp only [k111] at h
  split at h
  · cases h
    exact unless_ok _ _
  · cases h
def k112 : Ctr := ⟨112, 0, fun _ a => match a with | [.int .i64 n, .int .i64 a, .int .i64 b] => some (true, .bool (decide (a ≤ n ∧ n ≤ b)), none) | _ => none⟩
theorem k112_ok : k112.OK Try.prog := fun pa args r fr h => by
  simp only [k112] at h
  split at h
  · cases h
    exact within112_ok _ _ _
  · cases h
def k124 : Ctr := ⟨124, 0, fun _ a => match a with | [.list (.ints .i64 xs), .int .i64 n] => some (decide (0 ≤ n ∧ n ≤ 1000000 ∧ xs.length ≤ 1000000 ∧ xs.length / n.toNat * n.toNat = xs.length), .list (.ints .i64 (tS xs n.toNat)), newF) | _ => none⟩
theorem k124_ok : k124.OK Try.prog := fun pa args r fr h => by
  simp only [k124] at h
  split at h
  · simp only [Option.some.injEq, Prod.mk.injEq, decide_eq_true_eq] at h
    obtain ⟨h0, rfl, rfl⟩ := h
    exact turned_ok' _ _ h0
  · cases h
def E1 : List Ctr := [k18, k20, k23, k45, k50, k53, k54, k55, k105, k111, k112, k124]
theorem E1_ok : CtrsOK Try.prog E1 := ⟨k18_ok, ⟨k20_ok, ⟨k23_ok, ⟨k45_ok, ⟨k50_ok, ⟨k53_ok, ⟨k54_ok, ⟨k55_ok, ⟨k105_ok, ⟨k111_ok, ⟨k112_ok, ⟨k124_ok, trivial⟩⟩⟩⟩⟩⟩⟩⟩⟩⟩⟩⟩
end Go.Proofs.Ytimmgjppippdiaa
