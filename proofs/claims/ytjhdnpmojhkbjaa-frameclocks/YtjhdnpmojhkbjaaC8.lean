/- FrameClocks: the law returns true. No condition. -/
import Derived.Test.YtjhdnpmojhkbjaaPG
namespace Go.Proofs.Ytjhdnpmojhkbjaa
theorem pcsP_len (ps : List AV) : ∀ n lo i, (pcsP ps n lo i).length ≤ n + 1
  | 0, _, _ => by simp [pcsP]
  | n + 1, lo, i => by
    rw [pcsP]
    split
    · have := pcsP_len ps n lo (i + 1); omega
    · have := pcsP_len ps n i (i + 1); simp; omega
theorem smF_of {a b : Int} (h : 0 < b ∧ b ≤ 1000000) : smF a b = decide (-1000000000 ≤ a ∧ a ≤ 1000000000) := by
  unfold smF
  by_cases h1 : -1000000000 ≤ a ∧ a ≤ 1000000000
  · rw [decide_eq_true h1, decide_eq_true ⟨h1, by omega⟩]
  · rw [decide_eq_false h1, decide_eq_false (fun h => h1 h.1)]
theorem rtV_bad {ps : List AV} (h : rtE ps ≠ 0) : rtV ps = (0, 0, 0, 0) := by rw [rtV, if_neg h]
theorem clocks_ok (ps : List AV) : Pure Try.prog 7 [.list (.big (.agg [.int .i64, .int .i64, .int .i64]) ps)] (.bool true) none :=
  start (f7e_at ps) fun C hC => by
    have z4 : Row.len std (Row.ints .i64 [0, 0, 0, 0]) = 4 := rfl
    by_cases h22 : 22 < ps.length
    · exact fin hC BC6_ok (f7p0 std ps) (by simp; omega) rfl rfl
    · have hl : ps.length ≤ 1000000 := by omega
      by_cases hc : (chkP ps).2 = 0
      · obtain ⟨h0, h20, hq⟩ := chkP_ok hc
        have hp : (pieA ps).length ≤ 1000000 := by
          rw [pieA, if_pos hc, List.length_map]
          have := pcsP_len ps (ps.length - 1) 0 1
          omega
        by_cases h1 : ps.length = 1
        · have hE : rtE ps = 10 := by rw [rtE, if_pos hc, if_pos (by omega)]
          have hV := rtV_bad (ps := ps) (by omega)
          refine fin hC BC6_ok (f7p7 std ps) ?_ ?_ rfl
          · rw [hE, hc]; simp [z4, hp, h1]
          · rw [hV]; simp
        · have hg := allQ_good hq (by omega) hl
          have hs := rateP_sR hg
          have m1 : smF (rateP ps).1 (rateP ps).2.1 = decide (-1000000000 ≤ (rateP ps).1 ∧ (rateP ps).1 ≤ 1000000000) := smF_of hs.1.2
          have m2 : smF (rateP ps).2.2.1 (rateP ps).2.2.2 = decide (-1000000000 ≤ (rateP ps).2.2.1 ∧ (rateP ps).2.2.1 ≤ 1000000000) := smF_of hs.2.2
          by_cases h3 : lineS ps = true
          · have hE : rtE ps = if smR (rateP ps) = true then 0 else 8 := by rw [rtE, if_pos hc, if_neg (by omega), if_pos h3]
            have hS : smR (rateP ps) = (smF (rateP ps).1 (rateP ps).2.1 && smF (rateP ps).2.2.1 (rateP ps).2.2.2) := by rw [m1, m2, smR]
            by_cases s1 : smF (rateP ps).1 (rateP ps).2.1 = true
            · by_cases s2 : smF (rateP ps).2.2.1 (rateP ps).2.2.2 = true
              · have hE0 : rtE ps = 0 := by rw [hE, if_pos (by rw [hS, s1, s2]; rfl)]
                have hV : rtV ps = rateP ps := by rw [rtV, if_pos hE0]
                refine fin hC BC6_ok (f7p15 std ps) ?_ ?_ rfl
                · rw [hE0, hc, s1, s2, h3]; simp [hl, hp, hg]; omega
                · rw [hV]; simp
              · have hE8 : rtE ps = 8 := by rw [hE, if_neg (by rw [hS, s1]; simpa using s2)]
                have hV := rtV_bad (ps := ps) (by omega)
                refine fin hC BC6_ok (f7p13 std ps) ?_ ?_ rfl
                · rw [hE8, hc, s1, h3]; simp [z4, hl, hp, hg]; exact ⟨by simpa using s2, by omega, by omega⟩
                · rw [hV]; simp
            · have hE8 : rtE ps = 8 := by rw [hE, if_neg (by rw [hS]; simp [s1])]
              have hV := rtV_bad (ps := ps) (by omega)
              refine fin hC BC6_ok (f7p11 std ps) ?_ ?_ rfl
              · rw [hE8, hc, h3]; simp [z4, hl, hp, hg]; exact ⟨by simpa using s1, by omega, by omega⟩
              · rw [hV]; simp
          · have hE : rtE ps = 13 := by rw [rtE, if_pos hc, if_neg (by omega), if_neg h3]
            have hV := rtV_bad (ps := ps) (by omega)
            refine fin hC BC6_ok (f7p9 std ps) ?_ ?_ rfl
            · rw [hE, hc]; simp [z4, hl, hp, hg]; exact ⟨by simpa using h3, by omega, by omega⟩
            · rw [hV]; simp
      · have hE : rtE ps = (chkP ps).2 := by rw [rtE, if_neg hc]
        have hV := rtV_bad (ps := ps) (by rw [hE]; exact hc)
        have hp : pieA ps = [] := by rw [pieA, if_neg hc]
        refine fin hC BC6_ok (f7p3 std ps) ?_ ?_ rfl
        · rw [hE, hV]; simp [z4, hl, hc]; omega
        · rw [hp]; simp
end Go.Proofs.Ytjhdnpmojhkbjaa
