/- CodeRounds returns true. No condition. -/
import Derived.Test.YtimmgjppippdiaaQf
namespace Go.Proofs.Ytimmgjppippdiaa
theorem cpy_few (cs : List AV) : (cpy cs).all few1 = cs.all few1 := by
  unfold cpy
  rw [List.all_map]
  rfl
theorem cpy_len1 (cs : List AV) : (cpy cs).length = cs.length := by simp [cpy]
/-! ### What the functions hand back, case by case -/
theorem par_bad {n : Int} {css : List (List Int)} {w : List Int} (h : (chkE n css).2 ≠ 0) : parE n css w = (chkE n css).2 := by
  unfold parE; rw [if_pos h]
theorem mw_bad {n : Int} {css : List (List Int)} (h : (chkE n css).2 ≠ 0) : mw69 n css = (0, (chkE n css).2) := by
  unfold mw69; simp [firstE, h]
theorem mw_large {n : Int} {css : List (List Int)} (h : (chkE n css).2 = 0) (hn : ¬ n ≤ 14) : mw69 n css = (0, 8) := by
  unfold mw69; simp [firstE, h, unlessE, hn]
theorem mw_none {n : Int} {css : List (List Int)} (h : (chkE n css).2 = 0) (hn : n ≤ 14) (hm : minR n css < 0) : mw69 n css = (0, 12) := by
  have hr := chkE_rng h
  obtain ⟨N, rfl⟩ := Int.eq_ofNat_of_zero_le (show 0 ≤ n by omega)
  unfold minR at hm
  unfold mw69
  rw [Int.toNat_natCast] at hm ⊢
  rcases min_join css N with ⟨_, e⟩ | ⟨h1, h2, e⟩
  · simp [firstE, h, unlessE, hn, e]; omega
  · omega
theorem mw_some {n : Int} {css : List (List Int)} (h : (chkE n css).2 = 0) (hn : n ≤ 14) (hm : ¬ minR n css < 0) : mw69 n css = (minR n css, 0) := by
  have hr := chkE_rng h
  obtain ⟨N, rfl⟩ := Int.eq_ofNat_of_zero_le (show 0 ≤ n by omega)
  unfold minR at hm ⊢
  unfold mw69
  rw [Int.toNat_natCast] at hm ⊢
  rcases min_join css N with ⟨e, _⟩ | ⟨h1, h2, e⟩
  · omega
  · simp [firstE, h, unlessE, hn, e]; omega
theorem nr_bad {n : Int} {css : List (List Int)} {w : List Int} (h : parE n css w ≠ 0) : nr68 n css w = ([], 0, parE n css w) := by
  unfold nr68; simp [firstE, h]
theorem nr_large {n : Int} {css : List (List Int)} {w : List Int} (h : parE n css w = 0) (hn : ¬ n ≤ 14) : nr68 n css w = ([], 0, 8) := by
  unfold nr68; simp [firstE, h, unlessE, hn]
theorem nr_ok {n : Int} {css : List (List Int)} {w : List Int} (h : parE n css w = 0) (hn : n ≤ 14) : nr68 n css w = ((nearR n css w).1, (nearR n css w).2, 0) := by
  unfold nr68 nearR; simp [firstE, h, unlessE, hn]
theorem dp_bad {n : Int} {css : List (List Int)} {w : List Int} {r : Int} (h : parE n css w ≠ 0) : dp67 n css w r = ([], 0, parE n css w) := by
  unfold dp67; rw [if_pos h]
theorem dp_rng {n : Int} {css : List (List Int)} {w : List Int} {r : Int} (h : parE n css w = 0) (hr : ¬ (0 ≤ r ∧ r ≤ 30)) : dp67 n css w r = ([], 0, 2) := by
  unfold dp67; rw [if_neg (by simpa using h), if_pos hr]
theorem dp_ok {n : Int} {css : List (List Int)} {w : List Int} {r : Int} (h : parE n css w = 0) (hr : 0 ≤ r ∧ r ≤ 30) (hd : (decP css (r.toNat + 1) 0 w).2.2 = true) : dp67 n css w r = ((decP css (r.toNat + 1) 0 w).1, (decP css (r.toNat + 1) 0 w).2.1, 0) := by
  unfold dp67; rw [if_neg (by simpa using h), if_neg (by simpa using hr), if_pos hd]
theorem dp_lost {n : Int} {css : List (List Int)} {w : List Int} {r : Int} (h : parE n css w = 0) (hr : 0 ≤ r ∧ r ≤ 30) (hd : (decP css (r.toNat + 1) 0 w).2.2 = false) : dp67 n css w r = ([], 0, 27) := by
  unfold dp67; rw [if_neg (by simpa using h), if_neg (by simpa using hr), if_neg (by simp [hd])]
theorem near_len {n : Int} {cs : List AV} {w : List Int} (h : parE n (iss cs) w = 0) (hf : cs.all few1 = true) : (nearR n (iss cs) w).1.length = w.length := by
  obtain ⟨h1, h2, h3, h4, _⟩ := parE_ok h hf
  unfold nearR
  rw [← h1, Int.toNat_natCast]
  exact (near_all (iss cs) w).2.1
set_option maxRecDepth 20000 in
set_option maxHeartbeats 2000000 in
theorem rounds_ok (n : Int) (cs : List AV) (w : List Int) (r : Int) : Pure Try.prog 10 [.agg (.gen [.int .i64 n, .list (.big (.ints .i64) cs)]), .list (.ints .i64 w), .int .i64 r] (.bool true) none :=
  start (f10e_at n cs w r) fun C hC => by
    by_cases hf : fewC cs = true
    · by_cases hw : w.length ≤ 26
      · by_cases hn : 10 < n ∧ n ≤ 14
        · exact fin hC G4_ok (f10p2 std n cs w r) (by simp [hf]; omega) rfl rfl
        · have hall : cs.all few1 = true ∧ cs.length ≤ 18 := by simp only [fewC, Bool.and_eq_true, decide_eq_true_eq] at hf; exact ⟨hf.2, hf.1⟩
          obtain ⟨ha, hl⟩ := hall
          have hc : (List.map (fun v => AV.list (Row.ints .i64 (AV.toIs v))) cs) = cpy cs := rfl
          by_cases hd : (chkE n (iss cs)).2 = 0
          · have hrng := chkE_rng hd
            by_cases hn2 : n ≤ 14
            · have hn3 : n ≤ 10 := by omega
              have hb := parE_of hd (by omega) 0
              by_cases hm : minR n (iss cs) < 0
              · have em := mw_none hd hn2 hm
                by_cases hp : parE n (iss cs) w = 0
                · have e1 := nr_ok hp hn2
                  have hnl := near_len hp ha
                  by_cases hr : 0 ≤ r ∧ r ≤ 30
                  · cases hdc : (decP (iss cs) (r.toNat + 1) 0 w).2.2 with
                    | true =>
                      have e2 := dp_ok hp hr hdc
                      have hdl := (decP_spec (iss cs) (r.toNat + 1) 0 w hdc).2.1
                      refine fin hC G4_ok (f10p20 std n cs w r) ?_ (by simp only [hc, iss_cpy, e2]; simp) rfl
                      simp only [hc, iss_cpy, cpy_few, cpy_len1, ha, hf, hp, e1, e2, em, hd, hdc]
                      simp [hr, hm, hb, asB]
                      omega
                    | false =>
                      have e2 := dp_lost hp hr hdc
                      refine fin hC G4_ok (f10p21 std n cs w r) ?_ (by simp only [hc, iss_cpy, e2]; simp) rfl
                      simp only [hc, iss_cpy, cpy_few, cpy_len1, ha, hf, hp, e1, e2, em, hd, hdc]
                      simp [hr, hm, hb, asB]
                      omega
                  · have e2 := dp_rng hp hr
                    refine fin hC G4_ok (f10p19 std n cs w r) ?_ (by simp only [hc, iss_cpy, e2]; simp) rfl
                    simp only [hc, iss_cpy, cpy_few, cpy_len1, ha, hf, hp, e1, e2, em, hd]
                    simp [hr, hm, hb, asB]
                    omega
                · have e1 := nr_bad hp
                  have e2 := dp_bad (r := r) hp
                  refine fin hC G4_ok (f10p18 std n cs w r) ?_ (by simp only [hc, iss_cpy, e1]; simp) rfl
                  simp only [hc, iss_cpy, cpy_few, cpy_len1, ha, hf, e1, e2, em, hd]
                  simp [hp, hm, hb]
                  omega
              · have em := mw_some hd hn2 hm
                by_cases hp : parE n (iss cs) w = 0
                · have e1 := nr_ok hp hn2
                  have hnl := near_len hp ha
                  by_cases hr : 0 ≤ r ∧ r ≤ 30
                  · cases hdc : (decP (iss cs) (r.toNat + 1) 0 w).2.2 with
                    | true =>
                      have e2 := dp_ok hp hr hdc
                      have hdl := (decP_spec (iss cs) (r.toNat + 1) 0 w hdc).2.1
                      refine fin hC G4_ok (f10p24 std n cs w r) ?_ (by simp only [hc, iss_cpy, e2]; simp) rfl
                      simp only [hc, iss_cpy, cpy_few, cpy_len1, ha, hf, hp, e1, e2, em, hd, hdc]
                      simp [hr, hm, hb, asB]
                      omega
                    | false =>
                      have e2 := dp_lost hp hr hdc
                      refine fin hC G4_ok (f10p25 std n cs w r) ?_ (by simp only [hc, iss_cpy, e2]; simp) rfl
                      simp only [hc, iss_cpy, cpy_few, cpy_len1, ha, hf, hp, e1, e2, em, hd, hdc]
                      simp [hr, hm, hb, asB]
                      omega
                  · have e2 := dp_rng hp hr
                    refine fin hC G4_ok (f10p23 std n cs w r) ?_ (by simp only [hc, iss_cpy, e2]; simp) rfl
                    simp only [hc, iss_cpy, cpy_few, cpy_len1, ha, hf, hp, e1, e2, em, hd]
                    simp [hr, hm, hb, asB]
                    omega
                · have e1 := nr_bad hp
                  have e2 := dp_bad (r := r) hp
                  refine fin hC G4_ok (f10p22 std n cs w r) ?_ (by simp only [hc, iss_cpy, e1]; simp) rfl
                  simp only [hc, iss_cpy, cpy_few, cpy_len1, ha, hf, e1, e2, em, hd]
                  simp [hp, hm, hb]
                  omega
            · have em := mw_large hd hn2
              by_cases hp : parE n (iss cs) w = 0
              · have e1 := nr_large hp hn2
                by_cases hr : 0 ≤ r ∧ r ≤ 30
                · cases hdc : (decP (iss cs) (r.toNat + 1) 0 w).2.2 with
                  | true =>
                    have e2 := dp_ok hp hr hdc
                    have hdl := (decP_spec (iss cs) (r.toNat + 1) 0 w hdc).2.1
                    refine fin hC G4_ok (f10p9 std n cs w r) ?_ (by simp only [hc, iss_cpy, e2]; simp) rfl
                    simp only [hc, iss_cpy, cpy_few, cpy_len1, ha, hf, hp, e1, e2, em, hd, hdc]
                    simp [hr, asB]
                    omega
                  | false =>
                    have e2 := dp_lost hp hr hdc
                    refine fin hC G4_ok (f10p10 std n cs w r) ?_ (by simp only [hc, iss_cpy, e2]; simp) rfl
                    simp only [hc, iss_cpy, cpy_few, cpy_len1, ha, hf, hp, e1, e2, em, hd, hdc]
                    simp [hr, asB]
                    omega
                · have e2 := dp_rng hp hr
                  refine fin hC G4_ok (f10p8 std n cs w r) ?_ (by simp only [hc, iss_cpy, e2]; simp) rfl
                  simp only [hc, iss_cpy, cpy_few, cpy_len1, ha, hf, hp, e1, e2, em, hd]
                  simp [hr, asB]
                  omega
              · have e1 := nr_bad hp
                have e2 := dp_bad (r := r) hp
                refine fin hC G4_ok (f10p7 std n cs w r) ?_ (by simp only [hc, iss_cpy, e1]; simp) rfl
                simp only [hc, iss_cpy, cpy_few, cpy_len1, ha, hf, e1, e2, em, hd]
                simp [hp]
                omega
          · have hp := par_bad (w := w) hd
            have hp0 : parE n (iss cs) w ≠ 0 := by rw [hp]; exact hd
            have e1 := nr_bad hp0
            have e2 := dp_bad (r := r) hp0
            have e3 := mw_bad hd
            by_cases hn2 : 10 < n
            · refine fin hC G4_ok (f10p3 std n cs w r) ?_ (by simp only [hc, iss_cpy, e1]; simp) rfl
              simp only [hc, iss_cpy, cpy_few, cpy_len1, ha, hf, e1, e2, e3, hp]
              simp [hd]
              omega
            · refine fin hC G4_ok (f10p11 std n cs w r) ?_ (by simp only [hc, iss_cpy, e1]; simp) rfl
              simp only [hc, iss_cpy, cpy_few, cpy_len1, ha, hf, e1, e2, e3, hp]
              simp [hd]
              omega
      · exact fin hC G4_ok (f10p1 std n cs w r) (by simp [hf]; omega) rfl rfl
    · exact fin hC G4_ok (f10p0 std n cs w r) (by simp [hf]) rfl rfl
end Go.Proofs.Ytimmgjppippdiaa
