/- What the functions on parity checks hand back, case by case. No condition. -/
import Derived.Test.YtimmgjppippdiaaRm
namespace Go.Proofs.Ytimmgjppippdiaa
theorem cpy_few (cs : List AV) : (cpy cs).all few1 = cs.all few1 := by
  unfold cpy
  rw [List.all_map]
  rfl
theorem cpy_len1 (cs : List AV) : (cpy cs).length = cs.length := by simp [cpy]
/-! ### What the functions hand back, case by case -/
theorem par_bad {n : Int} {css : List (List Int)} {w : List Int} (h : (chkE n css).2 ≠ 0) : parE n css w = (chkE n css).2 := by
  unfold parE; rw [if_pos h]
theorem mw_bad {n : Int} {css : List (List Int)} (h : (chkE n css).2 ≠ 0) : mw69 n css = (0, (chkE n css).2) := by
  unfold mw69; simp [firstE, h]
theorem mw_large {n : Int} {css : List (List Int)} (h : (chkE n css).2 = 0) (hn : ¬ n ≤ 14) : mw69 n css = (0, 8) := by
  unfold mw69; simp [firstE, h, unlessE, hn]
theorem mw_none {n : Int} {css : List (List Int)} (h : (chkE n css).2 = 0) (hn : n ≤ 14) (hm : minR n css < 0) : mw69 n css = (0, 12) := by
  have hr := chkE_rng h
  obtain ⟨N, rfl⟩ := Int.eq_ofNat_of_zero_le (show 0 ≤ n by omega)
  unfold minR at hm
  unfold mw69
  rw [Int.toNat_natCast] at hm ⊢
  rcases min_join css N with ⟨_, e⟩ | ⟨h1, h2, e⟩
  · simp [firstE, h, unlessE, hn, e]; omega
  · omega
theorem mw_some {n : Int} {css : List (List Int)} (h : (chkE n css).2 = 0) (hn : n ≤ 14) (hm : ¬ minR n css < 0) : mw69 n css = (minR n css, 0) := by
  have hr := chkE_rng h
  obtain ⟨N, rfl⟩ := Int.eq_ofNat_of_zero_le (show 0 ≤ n by omega)
  unfold minR at hm ⊢
  unfold mw69
  rw [Int.toNat_natCast] at hm ⊢
  rcases min_join css N with ⟨e, _⟩ | ⟨h1, h2, e⟩
  · omega
  · simp [firstE, h, unlessE, hn, e]; omega
theorem nr_bad {n : Int} {css : List (List Int)} {w : List Int} (h : parE n css w ≠ 0) : nr68 n css w = ([], 0, parE n css w) := by
  unfold nr68; simp [firstE, h]
theorem nr_large {n : Int} {css : List (List Int)} {w : List Int} (h : parE n css w = 0) (hn : ¬ n ≤ 14) : nr68 n css w = ([], 0, 8) := by
  unfold nr68; simp [firstE, h, unlessE, hn]
theorem nr_ok {n : Int} {css : List (List Int)} {w : List Int} (h : parE n css w = 0) (hn : n ≤ 14) : nr68 n css w = ((nearR n css w).1, (nearR n css w).2, 0) := by
  unfold nr68 nearR; simp [firstE, h, unlessE, hn]
theorem dp_bad {n : Int} {css : List (List Int)} {w : List Int} {r : Int} (h : parE n css w ≠ 0) : dp67 n css w r = ([], 0, parE n css w) := by
  unfold dp67; rw [if_pos h]
theorem dp_rng {n : Int} {css : List (List Int)} {w : List Int} {r : Int} (h : parE n css w = 0) (hr : ¬ (0 ≤ r ∧ r ≤ 30)) : dp67 n css w r = ([], 0, 2) := by
  unfold dp67; rw [if_neg (by simpa using h), if_pos hr]
theorem dp_ok {n : Int} {css : List (List Int)} {w : List Int} {r : Int} (h : parE n css w = 0) (hr : 0 ≤ r ∧ r ≤ 30) (hd : (decP css (r.toNat + 1) 0 w).2.2 = true) : dp67 n css w r = ((decP css (r.toNat + 1) 0 w).1, (decP css (r.toNat + 1) 0 w).2.1, 0) := by
  unfold dp67; rw [if_neg (by simpa using h), if_neg (by simpa using hr), if_pos hd]
theorem dp_lost {n : Int} {css : List (List Int)} {w : List Int} {r : Int} (h : parE n css w = 0) (hr : 0 ≤ r ∧ r ≤ 30) (hd : (decP css (r.toNat + 1) 0 w).2.2 = false) : dp67 n css w r = ([], 0, 27) := by
  unfold dp67; rw [if_neg (by simpa using h), if_neg (by simpa using hr), if_neg (by simp [hd])]
theorem near_len {n : Int} {cs : List AV} {w : List Int} (h : parE n (iss cs) w = 0) (hf : cs.all few1 = true) : (nearR n (iss cs) w).1.length = w.length := by
  obtain ⟨h1, h2, h3, h4, _⟩ := parE_ok h hf
  unfold nearR
  rw [← h1, Int.toNat_natCast]
  exact (near_all (iss cs) w).2.1
theorem near_facts {n : Int} {cs : List AV} {w : List Int} (h : parE n (iss cs) w = 0) (hf : cs.all few1 = true) : unsS (nearR n (iss cs) w).1 0 (iss cs) = [] ∧ (nearR n (iss cs) w).1.length = w.length ∧ (nearR n (iss cs) w).1.all bitB = true ∧
    (nearR n (iss cs) w).2 = ham (nearR n (iss cs) w).1 w ∧ ∀ z : List Int, z.length = w.length → z.all bitB = true → unsS z 0 (iss cs) = [] → (nearR n (iss cs) w).2 ≤ ham z w := by
  obtain ⟨h1, _⟩ := parE_ok h hf
  unfold nearR
  rw [← h1, Int.toNat_natCast]
  exact near_all (iss cs) w
theorem par_of {n : Int} {css : List (List Int)} {w z : List Int} (h : parE n css w = 0) (hl : z.length = w.length) (hb : z.all bitB = true) : parE n css z = 0 := by
  unfold parE at h ⊢
  split at h
  · rename_i h3; exact absurd h h3
  · rename_i h3
    rw [if_neg h3]
    split at h
    · cases h
    · rename_i h4
      rw [if_neg (by rw [hl]; exact h4), bitE, if_pos hb]
end Go.Proofs.Ytimmgjppippdiaa
