/- Contracts of small functions: copies, equality, errors of lists, sequences in rows and columns. No condition. -/
import Derived.Test.YtimmgjppippdiaaQ1
namespace Go.Proofs.Ytimmgjppippdiaa

/-! ### CopyInts, Ints, few -/
theorem copy_row (xs : List Int) (hx : xs.length ≤ 4294967296) : Pure Try.prog 20 [.list (.ints .i64 xs)] (.row 0 0) (some ⟨3, 1, .ints .i64 xs⟩) :=
  start (f20e_at xs) fun C hC => fin hC E0_ok (f20p0 std xs) (by simp; omega) rfl rfl
theorem copy_new (xs : List Int) (hx : xs.length ≤ 4294967296) : Pure Try.prog 20 [.list (.ints .i64 xs)] (.list (.ints .i64 xs)) newF := new_row (copy_row xs hx) rfl rfl

theorem ints_loop {C : Ctx} (hC : C.P = Try.prog) (xs ys : List Int) (hl : xs.length = ys.length) (hlen : xs.length ≤ 1000000) : ∀ (d i : Nat), xs.length - i = d → i ≤ xs.length → xs.take i = ys.take i →
    Ev C (f23h23_0a xs ys i) (f23h23_0am xs ys i) (FinQ 23 (.bool (decide (xs = ys))) none) := by
  intro d
  induction d with
  | zero =>
    intro i hd hi ht
    have hi : i = xs.length := by omega
    have he : xs = ys := by rw [hi] at ht; rw [List.take_length, hl, List.take_length] at ht; exact ht
    exact fin hC E0_ok (f23p4 std xs ys i) (by simp; omega) (by simp [he]) rfl
  | succ d ih =>
    intro i hd hi ht
    have hlt : i < xs.length := by omega
    by_cases hx : xs[i]? = ys[i]?
    · refine go hC E0_ok (f23p3 std xs ys i) (by simp [hx]; omega) ?_
      exact ih (i + 1) (by omega) (by omega) (by
        have h3 : xs[i]'hlt = ys[i]'(by omega) := by
          rw [List.getElem?_eq_getElem hlt, List.getElem?_eq_getElem (show i < ys.length by omega)] at hx
          exact Option.some.inj hx
        rw [List.take_succ_eq_append_getElem hlt, List.take_succ_eq_append_getElem (show i < ys.length by omega), ht, h3])
    · have h3 : xs[i]'hlt ≠ ys[i]'(by omega) := by
        rw [List.getElem?_eq_getElem hlt, List.getElem?_eq_getElem (show i < ys.length by omega)] at hx
        exact fun e => hx (by rw [e])
      exact fin hC E0_ok (f23p2 std xs ys i) (by simp [hlt, show i < ys.length by omega, h3]) (by
        have : xs ≠ ys := fun e => hx (by rw [e])
        simp [this]) rfl
theorem ints_ok (xs ys : List Int) (hlen : xs.length ≤ 1000000) : Pure Try.prog 23 [.list (.ints .i64 xs), .list (.ints .i64 ys)] (.bool (decide (xs = ys))) none :=
  start (f23e_at xs ys) fun C hC => by
    by_cases hl : xs.length = ys.length
    · exact go hC E0_ok (f23p1 std xs ys) (by simp; omega) (ints_loop hC xs ys hl hlen xs.length 0 (by omega) (by omega) rfl)
    · refine fin hC E0_ok (f23p0 std xs ys) (by simp; omega) ?_ rfl
      have : xs ≠ ys := fun e => hl (by rw [e])
      simp [this]

def few (n m : Int) : Bool := decide (n ≤ 24 ∨ (m < n ∧ n ≤ m + 2))
theorem few_ok (n m : Int) (hm : -1000 ≤ m ∧ m ≤ 1000) : Pure Try.prog 50 [.int .i64 n, .int .i64 m] (.bool (few n m)) none :=
  start (f50e_at n m) fun C hC => by
    by_cases h1 : n ≤ 24
    · exact fin hC E0_ok (f50p0 std n m) (by simp; omega) (by simp [few, h1]) rfl
    · by_cases h2 : m < n
      · exact fin hC E0_ok (f50p1 std n m) (by simp; omega) (by simp [few, h1, h2]) rfl
      · exact fin hC E0_ok (f50p2 std n m) (by simp; omega) (by simp [few, h1, h2]) rfl

/-! ### Errors -/
def listErr (n : Nat) (rows : Int) : Int := if 400 < n then 8 else if ¬ (1 ≤ rows ∧ rows ≤ 400) then 2 else if (n : Int).tmod rows = 0 then 0 else 10
def firstE : List Int → Int
  | [] => 0
  | x :: xs => if x = 0 then firstE xs else x
theorem first_loop {C : Ctx} (hC : C.P = Try.prog) (xs : List Int) (hlen : xs.length ≤ 1000000) : ∀ (d i : Nat), xs.length - i = d → i ≤ xs.length →
    Ev C (f105h105_0a xs xs.length i) (f105h105_0am xs xs.length i) (FinQ 105 (.int .i64 (firstE (xs.drop i))) none) := by
  intro d
  induction d with
  | zero =>
    intro i hd hi
    exact fin hC E0_ok (f105p3 std xs xs.length i) (by simp; omega) (by rw [List.drop_of_length_le (by omega)]; rfl) rfl
  | succ d ih =>
    intro i hd hi
    have hlt : i < xs.length := by omega
    by_cases hx : xs[i]'hlt = 0
    · refine go hC E0_ok (f105p2 std xs xs.length i) (by simp [hlt, hx]; omega) ?_
      have := ih (i + 1) (by omega) (by omega)
      rw [List.drop_eq_getElem_cons hlt, firstE, if_pos hx]
      exact this
    · exact fin hC E0_ok (f105p1 std xs xs.length i) (by simp [hlt, hx]) (by rw [List.drop_eq_getElem_cons hlt, firstE, if_neg hx]; simp [hlt]) rfl
theorem first_ok (xs : List Int) (hlen : xs.length ≤ 1000000) : Pure Try.prog 105 [.list (.ints .i64 xs)] (.int .i64 (firstE xs)) none :=
  start (f105e_at xs) fun C hC => go hC E0_ok (f105p0 std xs) (by simp) (first_loop hC xs hlen xs.length 0 (by omega) (by omega))
end Go.Proofs.Ytimmgjppippdiaa
namespace Go.Proofs.Ytimmgjppippdiaa
/-! ### Within, unless -/
theorem within45_ok (n a b : Int) : Pure Try.prog 45 [.int .i64 n, .int .i64 a, .int .i64 b] (.bool (decide (a ≤ n ∧ n ≤ b))) none :=
  start (f45e_at n a b) fun C hC => by
    by_cases h1 : a ≤ n
    · exact fin hC E0_ok (f45p0 std n a b) (by simp [h1]) (by simp [h1]) rfl
    · exact fin hC E0_ok (f45p1 std n a b) (by simp; omega) (by simp [h1]) rfl
theorem within112_ok (n a b : Int) : Pure Try.prog 112 [.int .i64 n, .int .i64 a, .int .i64 b] (.bool (decide (a ≤ n ∧ n ≤ b))) none :=
  start (f112e_at n a b) fun C hC => by
    by_cases h1 : a ≤ n
    · exact fin hC E0_ok (f112p0 std n a b) (by simp [h1]) (by simp [h1]) rfl
    · exact fin hC E0_ok (f112p1 std n a b) (by simp; omega) (by simp [h1]) rfl
def unlessE (b : Bool) (e : Int) : Int := if b = true then 0 else e
theorem unless_ok (b : Bool) (e : Int) : Pure Try.prog 111 [.bool b, .int .i64 e] (.int .i64 (unlessE b e)) none :=
  start (f111e_at b e) fun C hC => by
    cases b with
    | true => exact fin hC E0_ok (f111p0 std true e) (by simp) rfl rfl
    | false => exact fin hC E0_ok (f111p1 std false e) (by simp) rfl rfl
end Go.Proofs.Ytimmgjppippdiaa
