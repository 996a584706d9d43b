/- Sequences in rows and columns: the program's, and the reference's way back. No condition. -/
import Derived.Test.YtimmgjppippdiaaR2
namespace Go.Proofs.Ytimmgjppippdiaa
section
variable {C : Ctx} (hC : C.P = Try.prog) {Q : List AFrame → AHeap → Prop}
include hC
theorem l124_in (xs : List Int) (R q c : Nat) (hq : xs.length / R = q) (hql : q ≤ xs.length) (hlen : xs.length ≤ 1000000) (hR : 0 < R ∧ R ≤ 1000000) (hqR : q * R ≤ xs.length) (hc : c < q)
    (hk : Ev C (f124h124_0b xs R (tP xs R ((c + 1) * R)) (c + 1 : Nat)) (f124h124_0bm xs R (tP xs R ((c + 1) * R)) (c + 1 : Nat)) Q) : ∀ (d r : Nat), R - r = d → r ≤ R →
    Ev C (f124h124_1b xs R r (tP xs R (c * R + r)) c) (f124h124_1bm xs R r (tP xs R (c * R + r)) c) Q := by
  intro d
  induction d with
  | zero =>
    intro r hd hr
    have : r = R := by omega
    subst this
    rw [show c * r + r = (c + 1) * r by rw [Nat.add_mul, Nat.one_mul]]
    exact go hC E0_ok (f124p7 std xs r r (tP xs r ((c + 1) * r)) c) (by simp; omega) hk
  | succ d ih =>
    intro r hd hr
    have hrl : r < R := by omega
    have hx := idx_lt hqR hrl hc
    obtain ⟨m, hm⟩ : ∃ m, r * q + c = m := ⟨_, rfl⟩
    obtain ⟨m2, hm2⟩ : ∃ m, r * q = m := ⟨_, rfl⟩
    have e0 : (xs.length : Int).tdiv (R : Int) = (q : Int) := by rw [tdiv_nat, hq]
    have e2 : ((r : Int) * (q : Int)) = (m2 : Int) := by rw [← hm2]; simp
    have e1 : ((m2 : Int) + (c : Int)) = (m : Int) := by rw [← hm, hm2]; simp
    rw [hm] at hx
    have hlp : c * R + r < xs.length := by have := idx_lt (by rw [Nat.mul_comm]; exact hqR) hc hrl; exact this
    refine go hC E0_ok (f124p6 std xs R r (tP xs R (c * R + r)) c) ?_ ?_
    · simp only [s_quo, s_int, s_len, e0]
      simp [e1, e2, tP_len, flatLen, AV.bx]; omega
    · have := ih (r + 1) (by omega) (by omega)
      rw [← tP_succ xs hq hrl] at this
      rw [hm] at this
      simp only [s_app, s_nth, s_nat, s_add, s_mul, s_quo, s_int, s_len, e0, e2, e1, Int.toNat_natCast]
      exact this
theorem l124_out (xs : List Int) (R q : Nat) (hq : xs.length / R = q) (hql : q ≤ xs.length) (hlen : xs.length ≤ 1000000) (hR : 0 < R ∧ R ≤ 1000000) (hqR : q * R ≤ xs.length) : ∀ (d c : Nat), q - c = d → c ≤ q →
    Ev C (f124h124_0b xs R (tP xs R (c * R)) c) (f124h124_0bm xs R (tP xs R (c * R)) c) (FinQ 124 (.row 0 0) (some ⟨3, 1, .ints .i64 (tP xs R (q * R))⟩)) := by
  have e0 : (xs.length : Int).tdiv (R : Int) = (q : Int) := by rw [tdiv_nat, hq]
  intro d
  induction d with
  | zero =>
    intro c hd hc
    have : c = q := by omega
    subst this
    exact fin hC E0_ok (f124p9 std xs R (tP xs R (c * R)) c) (by simp only [s_quo, s_int, s_len, e0]; simp; omega) rfl rfl
  | succ d ih =>
    intro c hd hc
    refine go hC E0_ok (f124p8 std xs R (tP xs R (c * R)) c) (by simp only [s_quo, s_int, s_len, e0]; simp; omega) ?_
    exact l124_in hC xs R q c hq hql hlen hR hqR (by omega) (ih (c + 1) (by omega) (by omega)) R 0 (by omega) (by omega)
end
theorem turned_ok (xs : List Int) (R : Nat) (hR : R ≤ 1000000) (hlen : xs.length ≤ 1000000) (hqR : xs.length / R * R = xs.length) : Pure Try.prog 124 [.list (.ints .i64 xs), .int .i64 (R : Int)] (.list (.ints .i64 (tS xs R))) newF := by
  generalize hq : xs.length / R = q at hqR
  have hle : q ≤ xs.length := by rw [← hq]; exact Nat.div_le_self _ _
  have e0 : (xs.length : Int).tdiv (R : Int) = (q : Int) := by rw [tdiv_nat, hq]
  by_cases h0 : xs.length = 0
  · refine new_nil (start (f124e_at xs R) fun C hC => go hC E0_ok (f124p0 std xs R) (by simp) ?_) (by simp [Row.elems, tS, h0])
    by_cases hR0 : R = 0
    · exact fin hC E0_ok (f124p3 std xs R 0) (by simp; omega) rfl rfl
    · have hq0 : q = 0 := by omega
      exact fin hC E0_ok (f124p2 std xs R 0) (by simp only [s_quo, s_int, s_len, e0]; simp; omega) rfl rfl
  · have hR0 : 0 < R := by
      rcases Nat.eq_zero_or_pos R with h | h
      · rw [h] at hqR; simp at hqR; omega
      · exact h
    have hq0 : 0 < q := by
      rcases Nat.eq_zero_or_pos q with h | h
      · rw [h] at hqR; simp at hqR; omega
      · exact h
    refine new_row (e := 3) (sz := 0) (start (f124e_at xs R) fun C hC => go hC E0_ok (f124p0 std xs R) (by simp) ?_) rfl rfl
    refine go hC E0_ok (f124p1 std xs R 0) (by simp only [s_quo, s_int, s_len, e0]; simp; omega) ?_
    have hx := idx_lt (Nat.le_of_eq hqR) (show 0 < R by omega) (show 0 < q by omega)
    refine go hC E0_ok (f124p4 std xs R 0) (by simp only [s_quo, s_int, s_len, e0]; simp [flatLen, AV.bx]; omega) ?_
    have := l124_in hC xs R q 0 hq hle hlen ⟨hR0, hR⟩ (Nat.le_of_eq hqR) (by omega) (l124_out hC xs R q hq hle hlen ⟨hR0, hR⟩ (Nat.le_of_eq hqR) (q - 1) 1 (by omega) (by omega)) (R - 1) 1 (by omega) (by omega)
    rw [← tP_succ xs hq (by omega)] at this
    have e : tS xs R = tP xs R (q * R) := by unfold tS tP; rw [hqR]
    rw [e]
    simpa [tP] using this

/-! ### The reference's way back -/
def dE (l : List Int) (q n m : Nat) : List Int := tP l q m ++ List.replicate (n - m) 0
theorem dE_len (l : List Int) {q n m : Nat} (h : m ≤ n) : (dE l q n m).length = n := by simp [dE, tP_len]; omega
theorem dE_set (l : List Int) {q R i k : Nat} {n : Nat} (hR : l.length / q = R) (hk : k < q) (hm : i * q + k < n) : (dE l q n (i * q + k)).set (i * q + k) (l.getD (k * R + i) 0) = dE l q n (i * q + (k + 1)) := by
  unfold dE
  rw [← tP_succ l hR hk]
  have hn : n - (i * q + k) = (n - (i * q + (k + 1))) + 1 := by omega
  rw [hn, List.replicate_succ, List.set_append_right _ _ (by rw [tP_len]; exact Nat.le_refl _), tP_len, Nat.sub_self, List.set_cons_zero, List.append_assoc]
  rfl
section
variable {C : Ctx} (hC : C.P = Try.prog) {Q : List AFrame → AHeap → Prop}
include hC
theorem l55_in (xs : List Int) (R q i : Nat) (hR : xs.length / q = R) (hql : q ≤ xs.length) (hlen : xs.length ≤ 1000000) (hRl : R ≤ 1000) (hqR : R * q ≤ xs.length) (hi : i < R)
    (hk : Ev C (f55h55_0a xs R q (dE xs q xs.length ((i + 1) * q)) (i + 1 : Nat)) (f55h55_0am xs R q (dE xs q xs.length ((i + 1) * q)) (i + 1 : Nat)) Q) : ∀ (d k : Nat), q - k = d → k ≤ q →
    Ev C (f55h55_1a xs R q i k (dE xs q xs.length (i * q + k))) (f55h55_1am xs R q i k (dE xs q xs.length (i * q + k))) Q := by
  intro d
  induction d with
  | zero =>
    intro k hd hk'
    have : k = q := by omega
    subst this
    rw [show i * k + k = (i + 1) * k by rw [Nat.add_mul, Nat.one_mul]]
    exact go hC E0_ok (f55p4 std xs R k i k (dE xs k xs.length ((i + 1) * k))) (by simp; omega) hk
  | succ d ih =>
    intro k hd hk'
    have hkl : k < q := by omega
    have hx := idx_lt hqR hkl hi
    have hm := idx_lt (by rw [Nat.mul_comm]; exact hqR) hi hkl
    have hdl := dE_len xs (q := q) (Nat.le_of_lt hm)
    have hst := dE_set xs (n := xs.length) hR hkl hm
    obtain ⟨a, ha⟩ : ∃ a, i * q + k = a := ⟨_, rfl⟩
    obtain ⟨a2, ha2⟩ : ∃ a, i * q = a := ⟨_, rfl⟩
    obtain ⟨b, hb⟩ : ∃ a, k * R + i = a := ⟨_, rfl⟩
    obtain ⟨b2, hb2⟩ : ∃ a, k * R = a := ⟨_, rfl⟩
    have e1 : ((i : Int) * (q : Int)) = (a2 : Int) := by rw [← ha2]; simp
    have e2 : ((a2 : Int) + (k : Int)) = (a : Int) := by rw [← ha, ha2]; simp
    have e3 : ((k : Int) * (R : Int)) = (b2 : Int) := by rw [← hb2]; simp
    have e4 : ((b2 : Int) + (i : Int)) = (b : Int) := by rw [← hb, hb2]; simp
    have := ih (k + 1) (by omega) (by omega)
    rw [← hst] at this
    rw [ha] at this hm hdl ⊢
    rw [hb] at this hx
    refine go hC E0_ok (f55p3 std xs R q i k (dE xs q xs.length a)) ?_ ?_
    · simp [e1, e2, e3, e4, hdl]; omega
    · simp only [s_set, s_nth, s_nat, s_add, s_mul, e1, e2, e3, e4, Int.toNat_natCast]
      exact this
theorem l55_out (xs : List Int) (R q : Nat) (hR : xs.length / q = R) (hql : q ≤ xs.length) (hlen : xs.length ≤ 1000000) (hRl : R ≤ 1000) (hqR : R * q = xs.length) : ∀ (d i : Nat), R - i = d → i ≤ R →
    Ev C (f55h55_0a xs R q (dE xs q xs.length (i * q)) i) (f55h55_0am xs R q (dE xs q xs.length (i * q)) i) (FinQ 55 (.row 0 0) (some ⟨3, 1, .ints .i64 (tS xs q)⟩)) := by
  intro d
  induction d with
  | zero =>
    intro i hd hi
    have : i = R := by omega
    subst this
    refine fin hC E0_ok (f55p2 std xs i q (dE xs q xs.length (i * q)) i) (by simp) rfl ?_
    rw [hqR]
    simp [dE, tP, tS]
  | succ d ih =>
    intro i hd hi
    refine go hC E0_ok (f55p1 std xs R q (dE xs q xs.length (i * q)) i) (by simp; omega) ?_
    exact l55_in hC xs R q i hR hql hlen hRl (Nat.le_of_eq hqR) (by omega) (ih (i + 1) (by omega) (by omega)) q 0 (by omega) (by omega)
/-- no columns: nothing to do -/
theorem l55_none (xs : List Int) (R : Nat) (h0 : xs.length = 0) (hRl : R ≤ 1000) : ∀ (d i : Nat), R - i = d → i ≤ R →
    Ev C (f55h55_0a xs R 0 [] i) (f55h55_0am xs R 0 [] i) (FinQ 55 (.row 0 0) (some ⟨3, 1, .ints .i64 (tS xs 0)⟩)) := by
  intro d
  induction d with
  | zero =>
    intro i hd hi
    exact fin hC E0_ok (f55p2 std xs R 0 [] i) (by simp; omega) rfl (by simp [tS, h0])
  | succ d ih =>
    intro i hd hi
    refine go hC E0_ok (f55p1 std xs R 0 [] i) (by simp; omega) ?_
    exact go hC E0_ok (f55p4 std xs R 0 i 0 []) (by simp; omega) (ih (i + 1) (by omega) (by omega))
end
theorem rde_ok (xs : List Int) (R : Nat) (hR : 1 ≤ R ∧ R ≤ 400) (hlen : xs.length ≤ 1000000) (hm : xs.length % R = 0) : Pure Try.prog 55 [.list (.ints .i64 xs), .int .i64 (R : Int)] (.list (.ints .i64 (tS xs (xs.length / R)))) newF := by
  have hqR : xs.length / R * R = xs.length := Nat.div_mul_cancel (Nat.dvd_of_mod_eq_zero hm)
  generalize hq : xs.length / R = q at hqR ⊢
  have hle : q ≤ xs.length := by rw [← hq]; exact Nat.div_le_self _ _
  have e0 : (xs.length : Int).tdiv (R : Int) = (q : Int) := by rw [tdiv_nat, hq]
  refine new_row (e := 3) (sz := 0) (start (f55e_at xs R) fun C hC => go hC E0_ok (f55p0 std xs R) (by simp only [s_quo, s_int, s_len, e0]; simp; omega) ?_) rfl rfl
  simp only [s_quo, s_int, s_len, s_rep, s_nat, e0, Int.toNat_natCast]
  by_cases h0 : xs.length = 0
  · have hq0 : q = 0 := by omega
    rw [hq0, h0]
    exact l55_none hC xs R h0 (by omega) R 0 (by omega) (by omega)
  · have hq0 : 0 < q := by
      rcases Nat.eq_zero_or_pos q with h | h
      · rw [h] at hqR; simp at hqR; omega
      · exact h
    have hR2 : xs.length / q = R := by rw [← hqR]; exact Nat.mul_div_cancel_left R hq0
    have := l55_out hC xs R q hR2 hle hlen (by omega) (by rw [Nat.mul_comm]; exact hqR) R 0 (by omega) (by omega)
    simpa [dE, tP] using this
end Go.Proofs.Ytimmgjppippdiaa
