/- What the nearest word and the least weight are: no program in sight. No condition. -/
import Derived.Test.YtimmgjppippdiaaRk
/-! ### What the nearest word and the least weight are: no program in sight. -/
namespace Go.Proofs.Ytimmgjppippdiaa
/-! ### Distances of words -/
def ham : List Int → List Int → Int
  | x :: xs, y :: ys => (if x = y then 0 else 1) + ham xs ys
  | _, _ => 0
theorem distB_ham (ys : List Int) : ∀ (xs : List Int) (i : Nat), xs.length + i ≤ ys.length → distB ys i xs = ham xs (ys.drop i)
  | [], _, _ => by cases h : ys.drop _ <;> simp [distB, ham]
  | x :: xs, i, h => by
    simp only [List.length_cons] at h
    have hi : i < ys.length := by omega
    rw [List.drop_eq_getElem_cons hi, distB, ham, distB_ham ys xs (i + 1) (by omega)]
    simp [List.getD_eq_getElem?_getD, hi]
theorem dist_ham {xs ys : List Int} (h : xs.length ≤ ys.length) : distB ys 0 xs = ham xs ys := by
  rw [distB_ham ys xs 0 (by omega)]; rfl
theorem ham_comm : ∀ xs ys : List Int, ham xs ys = ham ys xs
  | [], [] => rfl
  | [], _ :: _ => rfl
  | _ :: _, [] => rfl
  | x :: xs, y :: ys => by
    simp only [ham]
    rw [ham_comm xs ys]
    by_cases h : x = y
    · rw [if_pos h, if_pos h.symm]
    · rw [if_neg h, if_neg (Ne.symm h)]
theorem dist_comm {xs ys : List Int} (h : xs.length = ys.length) : distB ys 0 xs = distB xs 0 ys := by
  rw [dist_ham (by omega), dist_ham (by omega), ham_comm]
theorem ham_nn : ∀ xs ys : List Int, 0 ≤ ham xs ys
  | [], [] => by simp [ham]
  | [], _ :: _ => by simp [ham]
  | _ :: _, [] => by simp [ham]
  | x :: xs, y :: ys => by
    have := ham_nn xs ys
    simp only [ham]; split <;> omega
theorem ham_le : ∀ xs ys : List Int, ham xs ys ≤ xs.length
  | [], [] => by simp [ham]
  | [], _ :: _ => by simp [ham]
  | _ :: _, [] => by simp [ham]; omega
  | x :: xs, y :: ys => by
    have := ham_le xs ys
    simp only [ham, List.length_cons]; split <;> omega
theorem ham_eq : ∀ xs ys : List Int, xs.length = ys.length → ham xs ys ≤ 0 → xs = ys
  | [], [], _, _ => rfl
  | [], _ :: _, h, _ => by simp at h
  | _ :: _, [], h, _ => by simp at h
  | x :: xs, y :: ys, h, h2 => by
    have := ham_nn xs ys
    simp only [ham] at h2
    split at h2
    · rename_i e; rw [e, ham_eq xs ys (by simpa using h) (by omega)]
    · omega
theorem ham_self : ∀ xs : List Int, ham xs xs = 0
  | [] => rfl
  | x :: xs => by simp [ham, ham_self xs]
theorem ham_tri : ∀ xs ys zs : List Int, xs.length = ys.length → ys.length = zs.length → ham xs zs ≤ ham xs ys + ham ys zs
  | [], [], [], _, _ => by simp [ham]
  | x :: xs, y :: ys, z :: zs, h, h2 => by
    have := ham_tri xs ys zs (by simpa using h) (by simpa using h2)
    simp only [ham]
    by_cases e1 : x = y <;> by_cases e2 : y = z <;> by_cases e3 : x = z <;> simp [e1, e2, e3] <;> first | omega | (exact absurd (e1.trans e2) e3) | skip
    all_goals (try subst e1; try subst e2; simp_all <;> omega)
  | [], _ :: _, _, h, _ => by simp at h
  | _ :: _, [], _, h, _ => by simp at h
  | _, [], _ :: _, _, h => by simp at h
  | _, _ :: _, [], _, h => by simp at h
def xorL : List Int → List Int → List Int
  | x :: xs, y :: ys => (if x = y then 0 else 1) :: xorL xs ys
  | _, _ => []
theorem xorL_len : ∀ xs ys : List Int, xs.length = ys.length → (xorL xs ys).length = xs.length
  | [], [], _ => rfl
  | [], _ :: _, h => by simp at h
  | _ :: _, [], h => by simp at h
  | x :: xs, y :: ys, h => by simp [xorL, xorL_len xs ys (by simpa using h)]
theorem xorL_bits : ∀ xs ys : List Int, (xorL xs ys).all bitB = true
  | [], [] => rfl
  | [], _ :: _ => rfl
  | _ :: _, [] => rfl
  | x :: xs, y :: ys => by
    simp only [xorL, List.all_cons, xorL_bits xs ys, Bool.and_true]
    split <;> rfl
theorem ham_xorL : ∀ xs ys : List Int, xs.length = ys.length → ham (xorL xs ys) (List.replicate xs.length 0) = ham xs ys
  | [], [], _ => rfl
  | [], _ :: _, h => by simp at h
  | _ :: _, [], h => by simp at h
  | x :: xs, y :: ys, h => by
    simp only [xorL, List.length_cons, List.replicate_succ, ham, ham_xorL xs ys (by simpa using h)]
    by_cases e : x = y <;> simp [e]
theorem getD_xorL : ∀ (xs ys : List Int) (j : Nat), xs.length = ys.length → xs.all bitB = true → ys.all bitB = true → (xorL xs ys).getD j 0 = (xs.getD j 0 + ys.getD j 0) % 2
  | [], [], _, _, _, _ => rfl
  | [], _ :: _, _, h, _, _ => by simp at h
  | _ :: _, [], _, h, _, _ => by simp at h
  | x :: xs, y :: ys, 0, h, hx, hy => by
    simp only [List.all_cons, Bool.and_eq_true, bitB, decide_eq_true_eq] at hx hy
    simp only [xorL, List.getD_cons_zero]
    split <;> omega
  | x :: xs, y :: ys, j + 1, h, hx, hy => by
    simp only [List.all_cons, Bool.and_eq_true] at hx hy
    simp only [xorL, List.getD_cons_succ]
    exact getD_xorL xs ys j (by simpa using h) hx.2 hy.2
theorem sumL_xor {xs ys : List Int} (h : xs.length = ys.length) (hx : xs.all bitB = true) (hy : ys.all bitB = true) : ∀ l : List Int, sumL (xorL xs ys) l % 2 = (sumL xs l + sumL ys l) % 2
  | [] => rfl
  | p :: l => by
    have := sumL_xor h hx hy l
    simp only [sumL, getD_xorL xs ys _ h hx hy]
    omega
theorem uns_iff (w : List Int) : ∀ (css : List (List Int)) (i : Nat), unsS w i css = [] ↔ ∀ l ∈ css, sumL w l % 2 ≠ 1
  | [], i => by simp [unsS]
  | l :: css, i => by
    simp only [unsS]
    by_cases h : sumL w l % 2 = 1
    · rw [if_pos h]
      simp [h]
    · rw [if_neg h, uns_iff w css (i + 1)]
      simp [h]
theorem uns_xor {xs ys : List Int} {css : List (List Int)} (h : xs.length = ys.length) (hx : xs.all bitB = true) (hy : ys.all bitB = true) (h1 : unsS xs 0 css = []) (h2 : unsS ys 0 css = []) : unsS (xorL xs ys) 0 css = [] := by
  rw [uns_iff] at h1 h2 ⊢
  intro l hl
  have := h1 l hl
  have := h2 l hl
  rw [sumL_xor h hx hy]
  omega
theorem sumL_zero (N : Nat) : ∀ l : List Int, sumL (List.replicate N 0) l = 0
  | [] => rfl
  | p :: l => by
    simp only [sumL, sumL_zero N l, List.getD_eq_getElem?_getD, List.getElem?_replicate]
    split <;> rfl
theorem uns_zero (N : Nat) (css : List (List Int)) : unsS (List.replicate N 0) 0 css = [] := by
  rw [uns_iff]
  intro l _
  rw [sumL_zero]; decide
/-! ### All words -/
theorem vN_succ (N : Nat) (f : Nat → Int) : vN (N + 1) f = f 0 :: vN N fun j => f (j + 1) := by
  simp [vN, List.range_succ_eq_map]
theorem btS_succ (k N : Nat) : btS k (N + 1) = ((k / 2 ^ N % 2 : Nat) : Int) :: btS k N := by
  rw [btS, vN_succ]
  congr 1
  unfold btS
  congr 1
  funext j
  unfold btJ
  rw [show N + 1 - 1 - (j + 1) = N - 1 - j by omega]
theorem btS_mod (x k : Nat) : ∀ N, N ≤ N → ∀ M, btS (x * 2 ^ (N + M) + k) N = btS k N
  | 0, _, _ => rfl
  | N + 1, _, M => by
    rw [btS_succ, btS_succ]
    have h := btS_mod x k N (Nat.le_refl _) (M + 1)
    rw [show N + (M + 1) = N + 1 + M by omega] at h
    rw [h]
    congr 2
    rw [show x * 2 ^ (N + 1 + M) = 2 ^ N * (2 * (x * 2 ^ M)) by rw [Nat.pow_add, Nat.pow_add]; simp [Nat.mul_comm, Nat.mul_left_comm, Nat.mul_assoc]]
    rw [Nat.mul_add_div (Nat.two_pow_pos N)]
    omega
theorem bt_all : ∀ (w : List Int), w.all bitB = true → ∃ k, k < 2 ^ w.length ∧ btS k w.length = w
  | [], _ => ⟨0, by simp, rfl⟩
  | x :: w, h => by
    simp only [List.all_cons, Bool.and_eq_true, bitB, decide_eq_true_eq] at h
    obtain ⟨k, hk, e⟩ := bt_all w h.2
    refine ⟨x.toNat * 2 ^ w.length + k, ?_, ?_⟩
    · simp only [List.length_cons, Nat.pow_succ]
      have : x.toNat = 0 ∨ x.toNat = 1 := by omega
      rcases this with e | e <;> rw [e] <;> omega
    · have hm := btS_mod x.toNat k w.length (Nat.le_refl _) 0
      rw [Nat.add_zero] at hm
      rw [List.length_cons, btS_succ, hm, e]
      congr 1
      rw [Nat.mul_comm, Nat.mul_add_div (Nat.two_pow_pos _), Nat.div_eq_of_lt hk]
      omega
theorem bt_zero : ∀ (N k : Nat), k < 2 ^ N → btS k N = List.replicate N 0 → k = 0
  | 0, k, h, _ => by simp at h; exact h
  | N + 1, k, h, e => by
    rw [btS_succ, List.replicate_succ] at e
    injection e with e1 e2
    have h2 : k / 2 ^ N < 2 := by rw [Nat.div_lt_iff_lt_mul (Nat.two_pow_pos N)]; rw [Nat.pow_succ] at h; omega
    have h3 : k / 2 ^ N = 0 := by
      generalize k / 2 ^ N = q at h2 e1 ⊢
      omega
    have h4 : k < 2 ^ N := by
      rcases Nat.div_eq_zero_iff.1 h3 with h5 | h5
      · exact absurd h5 (Nat.pos_iff_ne_zero.1 (Nat.two_pow_pos N))
      · exact h5
    exact bt_zero N k h4 e2
theorem bt0 : ∀ N, btS 0 N = List.replicate N 0
  | 0 => rfl
  | N + 1 => by rw [btS_succ, bt0 N]; simp [List.replicate_succ]
/-! ### What is nearest, what is least -/
theorem near_spec (css : List (List Int)) (w : List Int) (N : Nat) : ∀ (f k : Nat) (b : List Int) (m : Int),
    (nearS css w N f k b m).2 ≤ m ∧ (∀ j, k ≤ j → j < k + f → unsS (btS j N) 0 css = [] → (nearS css w N f k b m).2 ≤ distB (btS j N) 0 w) ∧
    (nearS css w N f k b m = (b, m) ∨ ∃ j, unsS (btS j N) 0 css = [] ∧ nearS css w N f k b m = (btS j N, distB (btS j N) 0 w))
  | 0, k, b, m => ⟨Int.le_refl _, fun j h1 h2 => by omega, .inl rfl⟩
  | f + 1, k, b, m => by
    rw [nearS]
    split
    · rename_i h
      obtain ⟨h1, h2, h3⟩ := near_spec css w N f (k + 1) (btS k N) (distB (btS k N) 0 w)
      refine ⟨by omega, fun j h4 h5 h6 => ?_, ?_⟩
      · by_cases e : j = k
        · rw [e]; exact h1
        · exact h2 j (by omega) (by omega) h6
      · rcases h3 with h3 | h3
        · exact .inr ⟨k, h.1, h3⟩
        · exact .inr h3
    · rename_i h
      obtain ⟨h1, h2, h3⟩ := near_spec css w N f (k + 1) b m
      refine ⟨h1, fun j h4 h5 h6 => ?_, h3⟩
      by_cases e : j = k
      · subst e
        have : ¬ distB (btS j N) 0 w < m := fun h7 => h ⟨h6, h7⟩
        omega
      · exact h2 j (by omega) (by omega) h6
/-- the nearest word satisfies the checks, and no other one that does is nearer -/
theorem near_all (css : List (List Int)) (w : List Int) : unsS (nearS css w w.length (2 ^ w.length) 0 [] (w.length + 1)).1 0 css = [] ∧
    (nearS css w w.length (2 ^ w.length) 0 [] (w.length + 1)).1.length = w.length ∧ (nearS css w w.length (2 ^ w.length) 0 [] (w.length + 1)).1.all bitB = true ∧
    (nearS css w w.length (2 ^ w.length) 0 [] (w.length + 1)).2 = ham (nearS css w w.length (2 ^ w.length) 0 [] (w.length + 1)).1 w ∧
    ∀ z : List Int, z.length = w.length → z.all bitB = true → unsS z 0 css = [] → (nearS css w w.length (2 ^ w.length) 0 [] (w.length + 1)).2 ≤ ham z w := by
  obtain ⟨h1, h2, h3⟩ := near_spec css w w.length (2 ^ w.length) 0 [] (w.length + 1)
  have key : ∀ z : List Int, z.length = w.length → z.all bitB = true → unsS z 0 css = [] → (nearS css w w.length (2 ^ w.length) 0 [] (w.length + 1)).2 ≤ ham z w := by
    intro z hz hb hu
    obtain ⟨j, hj, e⟩ := bt_all z hb
    rw [hz] at hj e
    have := h2 j (by omega) (by omega) (by rw [e]; exact hu)
    rw [e, dist_ham (by omega), ham_comm] at this
    exact this
  have hz := key (List.replicate w.length 0) (by simp) (by simp [bitB]) (uns_zero _ _)
  have hz2 := ham_le (List.replicate w.length 0) w
  rw [List.length_replicate] at hz2
  rcases h3 with h3 | ⟨j, hu, h3⟩
  · rw [h3] at hz
    simp only at hz
    omega
  · refine ⟨by rw [h3]; exact hu, by rw [h3]; exact btS_len _ _, by rw [h3]; exact btS_bits _ _, ?_, key⟩
    rw [h3]
    show distB (btS j w.length) 0 w = _
    rw [dist_ham (by rw [btS_len]; exact Nat.le_refl _), ham_comm]
def minC (css : List (List Int)) (N : Nat) : Nat → Nat → Int → Int
  | 0, _, m => m
  | f + 1, k, m => if unsS (btS k N) 0 css = [] ∧ 0 < distB (List.replicate N 0) 0 (btS k N) then minC css N f (k + 1) (min m (distB (List.replicate N 0) 0 (btS k N))) else minC css N f (k + 1) m
theorem minC_spec (css : List (List Int)) (N : Nat) : ∀ (f k : Nat) (m : Int),
    minC css N f k m ≤ m ∧ (∀ j, k ≤ j → j < k + f → unsS (btS j N) 0 css = [] → 0 < distB (List.replicate N 0) 0 (btS j N) → minC css N f k m ≤ distB (List.replicate N 0) 0 (btS j N)) ∧
    (minC css N f k m = m ∨ ∃ j, k ≤ j ∧ j < k + f ∧ unsS (btS j N) 0 css = [] ∧ 0 < distB (List.replicate N 0) 0 (btS j N) ∧ minC css N f k m = distB (List.replicate N 0) 0 (btS j N))
  | 0, k, m => ⟨Int.le_refl _, fun j h1 h2 => by omega, .inl rfl⟩
  | f + 1, k, m => by
    rw [minC]
    split
    · rename_i h
      obtain ⟨h1, h2, h3⟩ := minC_spec css N f (k + 1) (min m (distB (List.replicate N 0) 0 (btS k N)))
      refine ⟨by omega, fun j h4 h5 h6 h7 => ?_, ?_⟩
      · by_cases e : j = k
        · rw [e]; omega
        · exact h2 j (by omega) (by omega) h6 h7
      · rcases h3 with h3 | ⟨j, a, b, c⟩
        · by_cases hm : m ≤ distB (List.replicate N 0) 0 (btS k N)
          · exact .inl (by rw [h3]; omega)
          · exact .inr ⟨k, by omega, by omega, h.1, h.2, by rw [h3]; omega⟩
        · exact .inr ⟨j, by omega, by omega, c⟩
    · rename_i h
      obtain ⟨h1, h2, h3⟩ := minC_spec css N f (k + 1) m
      refine ⟨h1, fun j h4 h5 h6 h7 => ?_, ?_⟩
      · by_cases e : j = k
        · subst e
          exact absurd ⟨h6, h7⟩ h
        · exact h2 j (by omega) (by omega) h6 h7
      · rcases h3 with h3 | ⟨j, a, b, c⟩
        · exact .inl h3
        · exact .inr ⟨j, by omega, by omega, c⟩
theorem minS_spec (css : List (List Int)) (N : Nat) : ∀ (f k : Nat) (m : Int),
    (0 ≤ m → 0 ≤ minS css N f k m ∧ minS css N f k m ≤ m) ∧ (∀ j, k ≤ j → j < k + f → unsS (btS j N) 0 css = [] → 0 ≤ minS css N f k m ∧ minS css N f k m ≤ distB (btS j N) 0 (List.replicate N 0)) ∧
    (minS css N f k m = m ∨ ∃ j, k ≤ j ∧ j < k + f ∧ unsS (btS j N) 0 css = [] ∧ minS css N f k m = distB (btS j N) 0 (List.replicate N 0))
  | 0, k, m => ⟨fun h => ⟨h, Int.le_refl _⟩, fun j h1 h2 => by omega, .inl rfl⟩
  | f + 1, k, m => by
    have hnn : 0 ≤ distB (btS k N) 0 (List.replicate N 0) := by
      rw [dist_ham (by rw [btS_len, List.length_replicate]; exact Nat.le_refl _)]; exact ham_nn _ _
    rw [minS]
    split
    · rename_i h
      obtain ⟨h1, h2, h3⟩ := minS_spec css N f (k + 1) (distB (btS k N) 0 (List.replicate N 0))
      have h1 := h1 hnn
      refine ⟨fun h0 => ⟨h1.1, by omega⟩, fun j h4 h5 h6 => ?_, ?_⟩
      · by_cases e : j = k
        · rw [e]; exact h1
        · exact h2 j (by omega) (by omega) h6
      · rcases h3 with h3 | ⟨j, a, b, c⟩
        · exact .inr ⟨k, by omega, by omega, h.1, h3⟩
        · exact .inr ⟨j, by omega, by omega, c⟩
    · rename_i h
      obtain ⟨h1, h2, h3⟩ := minS_spec css N f (k + 1) m
      refine ⟨h1, fun j h4 h5 h6 => ?_, ?_⟩
      · by_cases e : j = k
        · subst e
          have h7 : ¬ m < 0 := fun h7 => h ⟨h6, .inl h7⟩
          have h8 : ¬ distB (btS j N) 0 (List.replicate N 0) < m := fun h7 => h ⟨h6, .inr h7⟩
          have := h1 (by omega)
          omega
        · exact h2 j (by omega) (by omega) h6
      · rcases h3 with h3 | ⟨j, a, b, c⟩
        · exact .inl h3
        · exact .inr ⟨j, by omega, by omega, c⟩
theorem dz_pos {N k : Nat} (hk : 1 ≤ k) (h : k < 2 ^ N) : 0 < ham (btS k N) (List.replicate N 0) := by
  by_cases e : ham (btS k N) (List.replicate N 0) ≤ 0
  · have := bt_zero N k h (ham_eq _ _ (by rw [btS_len, List.length_replicate]) e)
    omega
  · omega
/-- the program's least weight is the reference's -/
theorem min_join (css : List (List Int)) (N : Nat) :
    (minS css N (2 ^ N - 1) 1 (-1) < 0 ∧ minC css N (2 ^ N) 0 (N + 1) = N + 1) ∨ (1 ≤ minC css N (2 ^ N) 0 (N + 1) ∧ minC css N (2 ^ N) 0 (N + 1) ≤ N ∧ minS css N (2 ^ N - 1) 1 (-1) = minC css N (2 ^ N) 0 (N + 1)) := by
  obtain ⟨_, a2, a3⟩ := minS_spec css N (2 ^ N - 1) 1 (-1)
  obtain ⟨b1, b2, b3⟩ := minC_spec css N (2 ^ N) 0 (N + 1)
  have hp : 1 ≤ 2 ^ N := Nat.one_le_two_pow
  have e1 : ∀ j, distB (btS j N) 0 (List.replicate N 0) = ham (btS j N) (List.replicate N 0) := fun j => by
    rw [dist_ham (by rw [btS_len, List.length_replicate]; exact Nat.le_refl _), ham_comm]
  have e2 : ∀ j, distB (List.replicate N 0) 0 (btS j N) = ham (btS j N) (List.replicate N 0) := fun j => by
    rw [dist_ham (by rw [btS_len, List.length_replicate]; exact Nat.le_refl _)]
  have hle : ∀ j, ham (btS j N) (List.replicate N 0) ≤ N := fun j => by
    have := ham_le (btS j N) (List.replicate N 0)
    rwa [btS_len] at this
  simp only [e1, e2] at a2 a3 b2 b3
  rcases a3 with a3 | ⟨j, c1, c2, c3, c4⟩
  · refine .inl ⟨by omega, ?_⟩
    rcases b3 with b3 | ⟨j, d1, d2, d3, d4, d5⟩
    · exact b3
    · have hj : j ≠ 0 := by
        intro e
        rw [e, bt0, ham_self] at d4
        omega
      have := a2 j (by omega) (by omega) d3
      omega
  · have hpos := dz_pos c1 (show j < 2 ^ N by omega)
    have hC := b2 j (by omega) (by omega) c3 hpos
    have := hle j
    refine .inr ?_
    rcases b3 with b3 | ⟨i, d1, d2, d3, d4, d5⟩
    · omega
    · have hi : i ≠ 0 := by
        intro e
        rw [e, bt0, ham_self] at d4
        omega
      have := a2 i (by omega) (by omega) d3
      omega
/-- two words that satisfy the checks are as far apart as the least weight -/
theorem min_far {css : List (List Int)} {y z : List Int} (hl : y.length = z.length) (hy : y.all bitB = true) (hz : z.all bitB = true) (h1 : unsS y 0 css = []) (h2 : unsS z 0 css = []) (hne : y ≠ z) :
    minC css y.length (2 ^ y.length) 0 (y.length + 1) ≤ ham y z := by
  obtain ⟨b1, b2, b3⟩ := minC_spec css y.length (2 ^ y.length) 0 (y.length + 1)
  obtain ⟨j, hj, e⟩ := bt_all (xorL y z) (xorL_bits y z)
  rw [xorL_len y z hl] at hj e
  have hh := ham_xorL y z hl
  have hd : distB (List.replicate y.length 0) 0 (btS j y.length) = ham y z := by
    rw [e, dist_ham (by rw [xorL_len y z hl, List.length_replicate]; exact Nat.le_refl _)]
    exact hh
  have hpos : 0 < ham y z := by
    by_cases h : ham y z ≤ 0
    · exact absurd (ham_eq y z hl h) hne
    · omega
  have := b2 j (by omega) (by omega) (by rw [e]; exact uns_xor hl hy hz h1 h2) (by rw [hd]; exact hpos)
  rwa [hd] at this
/-- a word with few inverted bits is the nearest one again -/
theorem near_back {css : List (List Int)} {y s : List Int} (hl : s.length = y.length) (hy : y.all bitB = true) (h1 : unsS y 0 css = [])
    (hf : 2 * ham s y < minC css y.length (2 ^ y.length) 0 (y.length + 1) ∨ minC css y.length (2 ^ y.length) 0 (y.length + 1) = y.length + 1) :
    nearS css s s.length (2 ^ s.length) 0 [] (s.length + 1) = (y, ham s y) := by
  obtain ⟨a1, a2, a3, a4, a5⟩ := near_all css s
  have a6 := a5 y (by omega) hy h1
  generalize nearS css s s.length (2 ^ s.length) 0 [] (s.length + 1) = r at *
  obtain ⟨z, m⟩ := r
  simp only at *
  have : y = z := by
    by_cases e : y = z
    · exact e
    · exfalso
      have hm := min_far (css := css) (by omega) hy a3 h1 a1 e
      have t := ham_tri y s z (by omega) (by omega)
      have l := ham_le y z
      rw [ham_comm s z] at t
      rw [ham_comm s y] at hf
      omega
  subst this
  rw [a4, ham_comm]
/-! ### Rounds -/
theorem more_nil (b : Nat) : ∀ (cs : List (List Int)) (i : Nat), moreS [] b i cs ≤ 0
  | [], _ => Int.le_refl _
  | l :: cs, i => by
    have := more_nil b cs (i + 1)
    have e : hasB [] i = false := rfl
    rw [moreS, e]
    simp
    split <;> omega
theorem flip_fix {w : List Int} {css : List (List Int)} (h : unsS w 0 css = []) : flipS w css = w := by
  apply List.ext_getElem (flipS_len _ _)
  intro j h1 h2
  have := more_nil j css 0
  simp only [flipS, vN, h, List.getElem_map, List.getElem_range, flipG]
  rw [if_neg (by omega)]
  simp [h2]
theorem decP_spec (css : List (List Int)) : ∀ (f : Nat) (k : Int) (now : List Int), (decP css f k now).2.2 = true →
    unsS (decP css f k now).1 0 css = [] ∧ (decP css f k now).1.length = now.length ∧ (now.all bitB = true → (decP css f k now).1.all bitB = true) ∧ k ≤ (decP css f k now).2.1 ∧ (decP css f k now).2.1 < k + f
  | 0, _, _, h => by cases h
  | f + 1, k, now, h => by
    rw [decP] at h ⊢
    split at h
    · rename_i h0
      rw [if_pos h0]
      exact ⟨List.length_eq_zero_iff.1 h0, rfl, fun h => h, Int.le_refl _, by show k < k + ((f + 1 : Nat) : Int); omega⟩
    · rename_i h0
      rw [if_neg h0]
      obtain ⟨a, b, c, d, e⟩ := decP_spec css f (k + 1) (flipS now css) h
      exact ⟨a, by rw [b, flipS_len], fun h => c (flipS_bits h css), by omega, by omega⟩
end Go.Proofs.Ytimmgjppippdiaa
