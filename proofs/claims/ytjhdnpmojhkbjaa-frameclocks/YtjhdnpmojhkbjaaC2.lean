/- Contracts as a list. No condition. -/
import Derived.Test.YtjhdnpmojhkbjaaPC
namespace Go.Proofs.Ytjhdnpmojhkbjaa
theorem lowest92_ok (n d : Int) (h : bigB n = true ∧ 0 < d ∧ bigB d = true) : Pure Try.prog 92 [.int .i64 n, .int .i64 d] (.agg (.gen [.int .i64 (lN n d), .int .i64 (lD n d)])) none :=
  start (f92e_at n d) fun C hC => by
    obtain ⟨hn, hd0, hd⟩ := h
    have hg : 0 < (Int.gcd n d : Int) := by
      have := Int.gcd_pos_of_ne_zero_right n (show d ≠ 0 by omega)
      omega
    obtain ⟨_, _, _, _, _, h1⟩ := tdiv_rng n hg
    obtain ⟨_, _, _, _, _, h2⟩ := tdiv_rng d hg
    refine fin hC BC1_ok (f92p1 std n d) ?_ rfl rfl
    have hn' := hn; have hd' := hd
    simp only [bigB, decide_eq_true_eq] at hn' hd'
    simp [hn, hd]
    omega
/-! ### Fractions compared -/
def cmpI (n d m k : Int) : Int := if n * k < m * d then -1 else if m * d < n * k then 1 else 0
def medB (x : Int) : Bool := decide (-4000000000000000000 ≤ x ∧ x ≤ 4000000000000000000)
theorem cmp_parts {n d m k p r q s : Int} (hn : n = p * d + r) (hm : m = q * k + s) (hd : 0 < d) (hk : 0 < k) (hr : 0 ≤ r ∧ r < d) (hs : 0 ≤ s ∧ s < k) :
    (p < q → cmpI n d m k = -1) ∧ (q < p → cmpI n d m k = 1) ∧ (p = q → cmpI n d m k = if r * k < s * d then -1 else if s * d < r * k then 1 else 0) := by
  have e1 : n * k = p * (d * k) + r * k := by rw [hn, Int.add_mul, Int.mul_assoc]
  have e2 : m * d = q * (d * k) + s * d := by rw [hm, Int.add_mul, Int.mul_assoc, Int.mul_comm k d]
  have g1 : 0 ≤ r * k := Int.mul_nonneg hr.1 (by omega)
  have g2 : 0 ≤ s * d := Int.mul_nonneg hs.1 (by omega)
  have g3 : r * k < d * k := Int.mul_lt_mul_of_pos_right hr.2 hk
  have g4 : s * d < d * k := by rw [Int.mul_comm d k]; exact Int.mul_lt_mul_of_pos_right hs.2 hd
  have hD : 0 < d * k := Int.mul_pos hd hk
  unfold cmpI
  rw [e1, e2]
  refine ⟨fun h => ?_, fun h => ?_, fun h => ?_⟩
  · have : (p + 1) * (d * k) ≤ q * (d * k) := Int.mul_le_mul_of_nonneg_right (by omega) (by omega)
    rw [Int.add_mul, Int.one_mul] at this
    rw [if_pos (by omega)]
  · have : (q + 1) * (d * k) ≤ p * (d * k) := Int.mul_le_mul_of_nonneg_right (by omega) (by omega)
    rw [Int.add_mul, Int.one_mul] at this
    rw [if_neg (by omega), if_pos (by omega)]
  · subst h
    generalize p * (d * k) = Z
    by_cases h1 : r * k < s * d
    · rw [if_pos (by omega), if_pos h1]
    · rw [if_neg (by omega), if_neg h1]
      by_cases h2 : s * d < r * k
      · rw [if_pos (by omega), if_pos h2]
      · rw [if_neg (by omega), if_neg h2]
theorem l52 {C : Ctx} (hC : C.P = Try.prog) (c : Int) : ∀ (N : Nat) (n d m k : Int), (d + k).toNat ≤ N → 0 < d → 0 < k → medB n = true → medB d = true → medB m = true → medB k = true → cmpI n d m k = c →
    Ev C (f52h52_0a n d m k) (f52h52_0am n d m k) (FinQ 52 (.int .i64 c) none) := by
  intro N
  induction N with
  | zero => intro n d m k hN hd hk; omega
  | succ N ih =>
    intro n d m k hN hd hk hnb hdb hmb hkb hc
    have f1 := floorI_rng n hd
    have f2 := floorI_rng m hk
    obtain ⟨_, _, _, _, _, a1⟩ := tdiv_rng n hd
    obtain ⟨_, _, _, _, _, a2⟩ := tdiv_rng m hk
    have b1 : bigB n = true ∧ bigB d = true ∧ bigB m = true ∧ bigB k = true := by
      simp only [medB, bigB, decide_eq_true_eq] at *
      omega
    have hnb' := hnb; have hdb' := hdb; have hmb' := hmb; have hkb' := hkb
    simp only [medB, decide_eq_true_eq] at hnb' hdb' hmb' hkb'
    obtain ⟨p, hp⟩ : ∃ p, floorI n d = p := ⟨_, rfl⟩
    obtain ⟨q, hq⟩ : ∃ q, floorI m k = q := ⟨_, rfl⟩
    rw [hp] at f1
    rw [hq] at f2
    have key := cmp_parts (n := n) (d := d) (m := m) (k := k) (p := p) (r := n - p * d) (q := q) (s := m - q * k) (by omega) (by omega) hd hk (by omega) (by omega)
    rw [hc] at key
    obtain ⟨pd, hpd⟩ : ∃ pd, p * d = pd := ⟨_, rfl⟩
    obtain ⟨qk, hqk⟩ : ∃ qk, q * k = qk := ⟨_, rfl⟩
    rw [hpd] at f1 key
    rw [hqk] at f2 key
    rcases Int.lt_trichotomy p q with h | h | h
    · exact fin hC BC1_ok (f52p1 std n d m k) (by simp only [hp, hq]; simp [hd, hk, b1, h]) (by rw [key.1 h]) rfl
    · have hk3 := key.2.2 h
      have hpq : q = p := h.symm
      by_cases hr : n - pd = 0
      · by_cases hs : m - qk = 0
        · refine fin hC BC1_ok (f52p3 std n d m k) (by simp only [hp, hq, s_mul, hpd, hqk]; simp [hd, hk, b1, hpq, hr, hs]; omega) ?_ rfl
          rw [hk3, hr, hs]; simp
        · refine fin hC BC1_ok (f52p4 std n d m k) (by simp only [hp, hq, s_mul, hpd, hqk]; simp [hd, hk, b1, hpq, hr, hs]; omega) ?_ rfl
          rw [hk3, hr, Int.zero_mul, if_pos (Int.mul_pos (by omega) hd)]
      · by_cases hs : m - qk = 0
        · refine fin hC BC1_ok (f52p5 std n d m k) (by simp only [hp, hq, s_mul, hpd, hqk]; simp [hd, hk, b1, hpq, hr, hs]; omega) ?_ rfl
          have : 0 < (n - pd) * k := Int.mul_pos (by omega) hk
          rw [hk3, hs, Int.zero_mul, if_neg (by omega), if_pos this]
        · refine go hC BC1_ok (f52p6 std n d m k) (by simp only [hp, hq, s_mul, hpd, hqk]; simp [hd, hk, b1, hpq, hr, hs]; omega) ?_
          simp only [hp, hq, s_mul, s_sub, hpd, hqk]
          refine ih k (m - qk) d (n - pd) (by omega) (by omega) (by omega) hkb (by simp only [medB, decide_eq_true_eq]; omega) hdb (by simp only [medB, decide_eq_true_eq]; omega) ?_
          rw [hk3, cmpI, Int.mul_comm k, Int.mul_comm d]
    · exact fin hC BC1_ok (f52p2 std n d m k) (by simp only [hp, hq]; simp [hd, hk, b1, h]; omega) (by rw [key.2.1 h]) rfl
theorem cmp52_ok (n d m k : Int) (h : ((0 < d ∧ 0 < k) ∧ medB n = true ∧ medB d = true) ∧ medB m = true ∧ medB k = true) : Pure Try.prog 52 [.int .i64 n, .int .i64 d, .int .i64 m, .int .i64 k] (.int .i64 (cmpI n d m k)) none :=
  start (f52e_at n d m k) fun C hC => go hC BC1_ok (f52p0 std n d m k) (by simp) (l52 hC _ _ n d m k (Nat.le_refl _) h.1.1.1 h.1.1.2 h.1.2.1 h.1.2.2 h.2.1 h.2.2 rfl)
def k92 : Ctr := ⟨92, 0, fun _ a => match a with | [.int .i64 n, .int .i64 d] => some (decide (bigB n = true ∧ 0 < d ∧ bigB d = true), .agg (.gen [.int .i64 (lN n d), .int .i64 (lD n d)]), none) | _ => none⟩
theorem k92_ok : k92.OK Try.prog := fun pa args r fr h => by
  simp only [k92] at h
  split at h
  · simp only [Option.some.injEq, Prod.mk.injEq, decide_eq_true_eq] at h
    obtain ⟨h0, rfl, rfl⟩ := h
    exact lowest92_ok _ _ h0
  · cases h
def k52 : Ctr := ⟨52, 0, fun _ a => match a with | [.int .i64 n, .int .i64 d, .int .i64 m, .int .i64 k] => some (decide (((0 < d ∧ 0 < k) ∧ medB n = true ∧ medB d = true) ∧ medB m = true ∧ medB k = true), .int .i64 (cmpI n d m k), none) | _ => none⟩
theorem k52_ok : k52.OK Try.prog := fun pa args r fr h => by
  simp only [k52] at h
  split at h
  · simp only [Option.some.injEq, Prod.mk.injEq, decide_eq_true_eq] at h
    obtain ⟨h0, rfl, rfl⟩ := h
    exact cmp52_ok _ _ _ _ h0
  · cases h
def BC2 : List Ctr := [k92, k52] ++ BC1
theorem BC2_ok : CtrsOK Try.prog BC2 := ⟨k92_ok, ⟨k52_ok, BC1_ok⟩⟩
end Go.Proofs.Ytjhdnpmojhkbjaa
