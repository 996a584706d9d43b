/- CodeInterleaves returns true. No condition. -/
import Derived.Test.YtimmgjppippdiaaQ4
namespace Go.Proofs.Ytimmgjppippdiaa
theorem tS_len (l : List Int) (R : Nat) : (tS l R).length = l.length := by simp [tS]
theorem tS_get (l : List Int) (R j : Nat) (h : j < l.length) : (tS l R).getD j 0 = tE l R j := by simp [tS, h]
theorem ndiv (a b : Nat) : Nat.div a b = a / b := rfl
theorem okL_zero (l : List Int) : okL 0 l = l := by simp [okL]
theorem okL_ne {e : Int} (l : List Int) (h : e ≠ 0) : okL e l = [] := by simp [okL, h]
theorem div_lt_of {n q R j : Nat} (h : q * R = n) (hj : j < n) : j / R < q ∧ 0 < R ∧ 0 < q := by
  have hR : 0 < R := by
    rcases Nat.eq_zero_or_pos R with h1 | h1
    · rw [h1] at h; omega
    · exact h1
  have hq : 0 < q := by
    rcases Nat.eq_zero_or_pos q with h1 | h1
    · rw [h1] at h; omega
    · exact h1
  exact ⟨(Nat.div_lt_iff_lt_mul hR).2 (by omega), hR, hq⟩
/-- back again -/
theorem tS_back (l : List Int) {R q : Nat} (h : q * R = l.length) (hq : l.length / R = q) (hR : 0 < R) : tS (tS l R) q = l := by
  apply List.ext_getElem (by simp [tS_len])
  intro j h1 h2
  obtain ⟨h3, h4, _⟩ := div_lt_of (q := R) (R := q) (by rw [Nat.mul_comm]; exact h) h2
  have e1 : (tS (tS l R) q)[j] = (tS (tS l R) q).getD j 0 := by simp [List.getD_eq_getElem?_getD, h1]
  have hRq : l.length / q = R := by rw [← h]; exact Nat.mul_div_cancel_left R h4
  rw [e1, tS_get _ _ _ (by rw [tS_len]; exact h2)]
  unfold tE
  rw [tS_len, hRq]
  have hm : j % q < q := Nat.mod_lt j h4
  have h5 : j % q * R + j / q < l.length := by
    rw [Nat.add_comm]
    have := idx_lt (n := l.length) (q := R) (R := q) (r := j % q) (c := j / q) (by rw [Nat.mul_comm]; omega) hm h3
    omega
  rw [tS_get _ _ _ h5]
  unfold tE
  rw [hq]
  have e2 : (j % q * R + j / q) % R = j / q := by rw [Nat.mul_comm, Nat.mul_add_mod]; exact Nat.mod_eq_of_lt h3
  have e3 : (j % q * R + j / q) / R = j % q := by rw [Nat.mul_comm, Nat.mul_add_div hR, Nat.div_eq_of_lt h3]; rfl
  rw [e2, e3, show j / q * q + j % q = j by rw [Nat.mul_comm]; exact Nat.div_add_mod j q]
  simp [h2]
/-- the row of each element -/
def owS (q m : Nat) : List Int := (List.range m).map fun (i : Nat) => ((i / q : Nat) : Int)
theorem owS_len (q m : Nat) : (owS q m).length = m := by simp [owS]
theorem owS_succ (q m : Nat) : owS q m ++ [((m / q : Nat) : Int)] = owS q (m + 1) := by simp [owS, List.range_succ]
theorem own_row {n q R j : Nat} (h : q * R = n) (hj : j < n) (hq : n / R = q) : (tS (owS q n) R).getD j 0 = ((j % R : Nat) : Int) := by
  obtain ⟨h1, h2, h3⟩ := div_lt_of h hj
  rw [tS_get _ _ _ (by rw [owS_len]; exact hj)]
  unfold tE
  rw [owS_len, hq]
  have h4 := idx_lt (Nat.le_of_eq h) (Nat.mod_lt j h2) h1
  have h5 : (j % R * q + j / R) / q = j % R := by rw [Nat.mul_comm, Nat.mul_add_div h3, Nat.div_eq_of_lt h1]; rfl
  have h6 : (owS q n).getD (j % R * q + j / R) 0 = (((j % R * q + j / R) / q : Nat) : Int) := by
    generalize j % R * q + j / R = m at h4
    simp [owS, h4]
  rw [h6, h5]
theorem mod_ne {R i k : Nat} (h1 : i < k) (h2 : k < i + R) : i % R ≠ k % R := by
  intro e
  have h3 := Nat.div_add_mod i R
  have h4 := Nat.div_add_mod k R
  have h5 : i / R < k / R ∨ k / R ≤ i / R := Nat.lt_or_ge _ _
  rcases h5 with h5 | h5
  · have := Nat.mul_le_mul_left R (show i / R + 1 ≤ k / R from h5)
    rw [Nat.mul_add, Nat.mul_one] at this
    omega
  · have := Nat.mul_le_mul_left R h5
    omega

section
variable {C : Ctx} (hC : C.P = Try.prog)
include hC
theorem l7_in (R n : Nat) (z : List Int) (hz : z.length = n) (hn : n ≤ 1000) (hR : R ≤ 1000) (hzz : ∀ i k, i < k → k < n → k < i + R → z.getD i 0 ≠ z.getD k 0) (i : Nat) (hi : i < n)
    (hk : Ev C (f7h7_0a R z (i + 1 : Nat)) (f7h7_0am R z (i + 1 : Nat)) (FinQ 7 (.bool true) none)) : ∀ (d k : Nat), n - k = d → i < k → k ≤ n → Ev C (f7h7_1a R z i k) (f7h7_1am R z i k) (FinQ 7 (.bool true) none) := by
  intro d
  induction d with
  | zero =>
    intro k hd hik hkn
    exact go hC E3_ok (f7p24 std R z i k) (by simp; omega) hk
  | succ d ih =>
    intro k hd hik hkn
    by_cases h2 : k < i + R
    · have h3 := hzz i k hik (by omega) h2
      refine go hC E3_ok (f7p22 std R z i k) ?_ (ih (k + 1) (by omega) (by omega) (by omega))
      simp only [s_nth, s_nat, Int.toNat_natCast]
      simp only [List.getD_eq_getElem?_getD] at h3
      simp [h3]
      omega
    · exact go hC E3_ok (f7p23 std R z i k) (by simp; omega) hk
theorem l7_out (R n : Nat) (z : List Int) (hz : z.length = n) (hn : n ≤ 1000) (hR : R ≤ 1000) (hzz : ∀ i k, i < k → k < n → k < i + R → z.getD i 0 ≠ z.getD k 0) : ∀ (d i : Nat), n - i = d → i ≤ n → Ev C (f7h7_0a R z i) (f7h7_0am R z i) (FinQ 7 (.bool true) none) := by
  intro d
  induction d with
  | zero =>
    intro i hd hi
    exact fin hC E3_ok (f7p20 std R z i) (by simp; omega) rfl rfl
  | succ d ih =>
    intro i hd hi
    refine go hC E3_ok (f7p19 std R z i) (by simp; omega) ?_
    exact l7_in hC R n z hz hn hR hzz i (by omega) (ih (i + 1) (by omega) (by omega)) (n - (i + 1)) (i + 1) (by omega) (by omega) (by omega)
theorem l7_end (xs : List Int) (R q : Nat) (hR : 1 ≤ R ∧ R ≤ 400) (hn : xs.length ≤ 400) (hqR : q * R = xs.length) (hq : xs.length / R = q) :
    Ev C (f7h7_0a R (tS (owS q xs.length) R) 0) (f7h7_0am R (tS (owS q xs.length) R) 0) (FinQ 7 (.bool true) none) := by
  refine l7_out hC R xs.length _ (by rw [tS_len, owS_len]) (by omega) (by omega) (fun i k hik hk hkr => ?_) xs.length 0 (by omega) (by omega)
  rw [own_row hqR (by omega) hq, own_row hqR hk hq]
  have := mod_ne hik hkr
  omega
theorem l7_own (xs : List Int) (R q : Nat) (hR : 1 ≤ R ∧ R ≤ 400) (hn : xs.length ≤ 400) (h0 : 0 < xs.length) (hqR : q * R = xs.length) (hq : xs.length / R = q) (hq0 : 0 < q) (hql : q ≤ xs.length) (he : listErr xs.length R = 0) : ∀ (d i : Nat), xs.length - i = d → i ≤ xs.length →
    Ev C (f7h7_2b xs R i (owS q i)) (f7h7_2bm xs R i (owS q i)) (FinQ 7 (.bool true) none) := by
  have e0 : (xs.length : Int).tdiv (R : Int) = (q : Int) := by rw [tdiv_nat, hq]
  intro d
  induction d with
  | zero =>
    intro i hd hi
    have : i = xs.length := by omega
    subst this
    refine go hC E3_ok (f7p18 std xs R xs.length (owS q xs.length)) ?_ ?_
    · simp [owS_len, he, okL_zero, tS_len]; omega
    · rw [owS_len, he, okL_zero]
      exact l7_end hC xs R q hR hn hqR hq
  | succ d ih =>
    intro i hd hi
    have e1 : (i : Int).tdiv (q : Int) = ((i / q : Nat) : Int) := rfl
    have h7 : i / q ≤ i := Nat.div_le_self _ _
    refine go hC E3_ok (f7p15 std xs R i (owS q i)) ?_ ?_
    · simp only [s_quo, s_int, s_len, e0, e1]
      generalize i / q = m at h7
      simp [owS_len, AV.bx, flatLen]; omega
    · simp only [s_app, s_quo, s_int, s_len, e0, e1, owS_succ]
      exact ih (i + 1) (by omega) (by omega)
end
theorem interleaves_ok (xs : List Int) (rows : Int) : Pure Try.prog 7 [.list (.ints .i64 xs), .int .i64 rows] (.bool true) none :=
  start (f7e_at xs rows) fun C hC => by
    by_cases hf : few xs.length 400 = true
    · have hn2 : xs.length ≤ 402 := by simp [few] at hf; omega
      by_cases he : listErr xs.length rows = 0
      · obtain ⟨h1, h2, h3, h4⟩ := listErr_zero he
        obtain ⟨R, rfl⟩ := Int.eq_ofNat_of_zero_le (show 0 ≤ rows by omega)
        have h4 : xs.length % R = 0 := h4
        have hqR : xs.length / R * R = xs.length := Nat.div_mul_cancel (Nat.dvd_of_mod_eq_zero h4)
        have hql : xs.length / R ≤ xs.length := Nat.div_le_self _ _
        obtain ⟨q, hq⟩ : ∃ q, xs.length / R = q := ⟨_, rfl⟩
        rw [hq] at hqR hql
        have hback := tS_back xs hqR hq (by omega)
        have e0 : (xs.length : Int).tdiv (R : Int) = (q : Int) := by rw [tdiv_nat, hq]
        refine go hC E3_ok (f7p10 std xs R) ?_ ?_
        · simp only [he, okL_zero, tS_len, Int.toNat_natCast, ndiv, hq, hback]
          simp [hf]; omega
        · by_cases h0 : xs.length = 0
          · have hx : xs = [] := List.eq_nil_of_length_eq_zero h0
            subst hx
            have he : listErr 0 R = 0 := he
            refine go hC E3_ok (f7p14 std [] R) (by simp [he, okL_zero, tS_len]) ?_
            rw [he, okL_zero]
            exact l7_end hC [] R q (by omega) (by omega) hqR hq
          · have hq0 : 0 < q := by
              rcases Nat.eq_zero_or_pos q with h | h
              · rw [h] at hqR; omega
              · exact h
            refine go hC E3_ok (f7p11 std xs R) ?_ ?_
            · simp only [s_quo, s_int, s_len, e0]
              simp [AV.bx, flatLen]; omega
            · simp only [s_quo, s_int, s_len, e0, s_add, Int.zero_add, Int.zero_tdiv]
              have := l7_own hC xs R q (by omega) h1 (by omega) hqR hq hq0 hql he (xs.length - 1) 1 (by omega) (by omega)
              simpa [owS] using this
      · refine fin hC E3_ok (f7p1 std xs rows) ?_ (by simp [okL_ne _ he]) rfl
        simp only [okL_ne _ he]
        simp [hf, he]; omega
    · exact fin hC E3_ok (f7p0 std xs rows) (by simp [hf]) rfl rfl
end Go.Proofs.Ytimmgjppippdiaa
