/- Sequences in rows and columns. No condition. -/
import Derived.Test.YtimmgjppippdiaaR1
namespace Go.Proofs.Ytimmgjppippdiaa
theorem listErr_ok (xs : List Int) (rows : Int) (hlen : xs.length ≤ 1000000) : Pure Try.prog 53 [.list (.ints .i64 xs), .int .i64 rows] (.int .i64 (listErr xs.length rows)) none :=
  start (f53e_at xs rows) fun C hC => by
    by_cases h1 : 400 < xs.length
    · exact fin hC E0_ok (f53p0 std xs rows) (by simp; omega) (by simp [listErr, h1]) rfl
    · by_cases h2 : 1 ≤ rows
      · by_cases h3 : rows ≤ 400
        · by_cases h4 : (xs.length : Int).tmod rows = 0
          · exact fin hC E0_ok (f53p3 std xs rows) (by simp [h4, h2, h3]; omega) (by simp [listErr, h1, h2, h3, h4]) rfl
          · exact fin hC E0_ok (f53p2 std xs rows) (by simp [h4, h2, h3]; omega) (by simp [listErr, h1, h2, h3, h4]) rfl
        · exact fin hC E0_ok (f53p1 std xs rows) (by simp; omega) (by simp [listErr, h1, h2, h3]) rfl
      · exact fin hC E0_ok (f53p4 std xs rows) (by simp; omega) (by simp [listErr, h1, h2]) rfl

/-- written in R rows, read column by column: the element j -/
def tE (l : List Int) (R j : Nat) : Int := l.getD ((j % R) * (l.length / R) + j / R) 0
def tS (l : List Int) (R : Nat) : List Int := (List.range l.length).map (tE l R)
def tP (l : List Int) (R m : Nat) : List Int := (List.range m).map (tE l R)
theorem tP_len (l : List Int) (R m : Nat) : (tP l R m).length = m := by simp [tP]
theorem tP_succ (l : List Int) {R q c r : Nat} (hq : l.length / R = q) (hr : r < R) : tP l R (c * R + r) ++ [l.getD (r * q + c) 0] = tP l R (c * R + (r + 1)) := by
  rw [← Nat.add_assoc]
  unfold tP
  rw [List.range_succ, List.map_append]
  congr 1
  simp only [List.map_cons, List.map_nil, tE, hq]
  have h1 : (c * R + r) % R = r := by rw [Nat.mul_comm, Nat.mul_add_mod]; exact Nat.mod_eq_of_lt hr
  have h2 : (c * R + r) / R = c := by rw [Nat.mul_comm, Nat.mul_add_div (by omega), Nat.div_eq_of_lt hr]; rfl
  rw [h1, h2]
theorem idx_lt {n q R r c : Nat} (h : q * R ≤ n) (hr : r < R) (hc : c < q) : r * q + c < n := by
  have : (r + 1) * q ≤ R * q := Nat.mul_le_mul_right q hr
  rw [Nat.add_mul, Nat.one_mul, Nat.mul_comm R q] at this; omega
theorem tdiv_nat (n R : Nat) : (n : Int).tdiv (R : Int) = ((n / R : Nat) : Int) := rfl

section
variable {C : Ctx} (hC : C.P = Try.prog) {Q : List AFrame → AHeap → Prop}
include hC
/-- the reference's inner loop -/
theorem l54_in (xs : List Int) (R q c : Nat) (hq : xs.length / R = q) (hql : q ≤ xs.length) (hlen : xs.length ≤ 1000000) (hR : R ≤ 1000) (hqR : q * R ≤ xs.length) (hc : c < q)
    (hk : Ev C (f54h54_0b xs R q (tP xs R ((c + 1) * R)) (c + 1 : Nat)) (f54h54_0bm xs R q (tP xs R ((c + 1) * R)) (c + 1 : Nat)) Q) : ∀ (d r : Nat), R - r = d → r ≤ R →
    Ev C (f54h54_1b xs R q r (tP xs R (c * R + r)) c) (f54h54_1bm xs R q r (tP xs R (c * R + r)) c) Q := by
  intro d
  induction d with
  | zero =>
    intro r hd hr
    have : r = R := by omega
    subst this
    rw [show c * r + r = (c + 1) * r by rw [Nat.add_mul, Nat.one_mul]]
    exact go hC E0_ok (f54p6 std xs r q r (tP xs r ((c + 1) * r)) c) (by simp; omega) hk
  | succ d ih =>
    intro r hd hr
    have hrl : r < R := by omega
    have hx := idx_lt hqR hrl hc
    obtain ⟨m, hm⟩ : ∃ m, r * q + c = m := ⟨_, rfl⟩
    obtain ⟨m2, hm2⟩ : ∃ m, r * q = m := ⟨_, rfl⟩
    have e2 : ((r : Int) * (q : Int)) = (m2 : Int) := by rw [← hm2]; simp
    have e1 : ((m2 : Int) + (c : Int)) = (m : Int) := by rw [← hm, hm2]; simp
    rw [hm] at hx
    have hlp : c * R + r < xs.length := by have := idx_lt (by rw [Nat.mul_comm]; exact hqR) hc hrl; exact this
    refine go hC E0_ok (f54p5 std xs R q r (tP xs R (c * R + r)) c) ?_ ?_
    · simp [e1, e2, tP_len, flatLen, AV.bx]; omega
    · have := ih (r + 1) (by omega) (by omega)
      rw [← tP_succ xs hq hrl] at this
      rw [hm] at this
      simp only [s_app, s_nth, s_nat, s_add, s_mul, e2, e1, Int.toNat_natCast]
      exact this
/-- the reference's outer loop -/
theorem l54_out (xs : List Int) (R q : Nat) (hq : xs.length / R = q) (hql : q ≤ xs.length) (hlen : xs.length ≤ 1000000) (hR : R ≤ 1000) (hqR : q * R ≤ xs.length) : ∀ (d c : Nat), q - c = d → c ≤ q →
    Ev C (f54h54_0b xs R q (tP xs R (c * R)) c) (f54h54_0bm xs R q (tP xs R (c * R)) c) (FinQ 54 (.row 0 0) (some ⟨3, 1, .ints .i64 (tP xs R (q * R))⟩)) := by
  intro d
  induction d with
  | zero =>
    intro c hd hc
    have : c = q := by omega
    subst this
    exact fin hC E0_ok (f54p8 std xs R c (tP xs R (c * R)) c) (by simp) rfl rfl
  | succ d ih =>
    intro c hd hc
    refine go hC E0_ok (f54p7 std xs R q (tP xs R (c * R)) c) (by simp; omega) ?_
    exact l54_in hC xs R q c hq hql hlen hR hqR (by omega) (ih (c + 1) (by omega) (by omega)) R 0 (by omega) (by omega)
end
theorem rin_ok (xs : List Int) (R : Nat) (hR : 1 ≤ R ∧ R ≤ 400) (hlen : xs.length ≤ 1000000) (hm : xs.length % R = 0) : Pure Try.prog 54 [.list (.ints .i64 xs), .int .i64 (R : Int)] (.list (.ints .i64 (tS xs R))) newF := by
  have hqR : xs.length / R * R = xs.length := Nat.div_mul_cancel (Nat.dvd_of_mod_eq_zero hm)
  generalize hq : xs.length / R = q at hqR
  have hle : q ≤ xs.length := by rw [← hq]; exact Nat.div_le_self _ _
  have hb : AllT [true, true, true, std.and (std.not (std.eq (R : Int) 0)) (std.inR .i64 (std.quo (std.int (std.len xs)) (R : Int))), true, true, true, true] := by
    simp [hq]; omega
  have eq : std.quo (std.int (std.len xs)) (R : Int) = (q : Int) := by rw [s_quo, s_int, s_len, tdiv_nat, hq]
  by_cases h0 : q = 0
  · refine new_nil (start (f54e_at xs R) fun C hC => go hC E0_ok (f54p0 std xs R) hb ?_) (by
      have hz : xs.length = 0 := by rw [← hqR, h0, Nat.zero_mul]
      simp [Row.elems, tS, hz])
    rw [eq]
    refine fin hC E0_ok (f54p2 std xs R q 0) (by simp [h0]) rfl rfl
  · refine new_row (e := 3) (sz := 0) (start (f54e_at xs R) fun C hC => go hC E0_ok (f54p0 std xs R) hb ?_) rfl rfl
    rw [eq]
    refine go hC E0_ok (f54p1 std xs R q 0) (by simp; omega) ?_
    have hx := idx_lt (Nat.le_of_eq hqR) (show 0 < R by omega) (show 0 < q by omega)
    refine go hC E0_ok (f54p3 std xs R q 0) (by simp [flatLen, AV.bx]; omega) ?_
    have := l54_in hC xs R q 0 hq hle hlen (by omega) (Nat.le_of_eq hqR) (by omega) (l54_out hC xs R q hq hle hlen (by omega) (Nat.le_of_eq hqR) (q - 1) 1 (by omega) (by omega)) (R - 1) 1 (by omega) (by omega)
    rw [← tP_succ xs hq (by omega)] at this
    have e : tS xs R = tP xs R (q * R) := by unfold tS tP; rw [hqR]
    rw [e]
    simpa [tP] using this
end Go.Proofs.Ytimmgjppippdiaa
