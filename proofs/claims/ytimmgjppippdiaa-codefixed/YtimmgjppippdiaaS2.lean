/- CodeFixed returns true. No condition. -/
import Derived.Test.YtimmgjppippdiaaQg
import Derived.Test.YtimmgjppippdiaaS0
namespace Go.Proofs.Ytimmgjppippdiaa
def spJ (y inv : List Int) (j : Nat) : Int := if hasB inv (j : Int) = true then 1 - y.getD j 0 else y.getD j 0
def spP (y inv : List Int) (p : Nat) : List Int := vN y.length fun j => if j < p then spJ y inv j else y.getD j 0
theorem sp_len (y inv : List Int) (p : Nat) : (spP y inv p).length = y.length := by simp [spP, vN_len]
theorem sp_zero (y inv : List Int) : spP y inv 0 = y := by
  apply List.ext_getElem (sp_len _ _ _)
  intro j h1 h2
  simp [spP, vN, h2]
theorem sp_get {y inv : List Int} {p : Nat} (hp : p < y.length) : (spP y inv p).getD p 0 = y.getD p 0 := by
  rw [spP, vN_get hp, if_neg (by omega)]
theorem sp_hit {y inv : List Int} {p : Nat} (hp : p < y.length) (h : hasB inv (p : Int) = true) : (spP y inv p).set p (1 - (spP y inv p).getD p 0) = spP y inv (p + 1) := by
  rw [sp_get hp, spP, spP, vN_set]
  refine vN_congr fun j hj => ?_
  by_cases e : j = p
  · rw [if_pos e, if_pos (by omega), spJ, e, if_pos h]
  · rw [if_neg e]
    by_cases h2 : j < p
    · rw [if_pos h2, if_pos (by omega)]
    · rw [if_neg h2, if_neg (by omega)]
theorem sp_miss {y inv : List Int} {p : Nat} (h : ¬ hasB inv (p : Int) = true) : spP y inv p = spP y inv (p + 1) := by
  rw [spP, spP]
  refine vN_congr fun j hj => ?_
  by_cases h2 : j < p
  · rw [if_pos h2, if_pos (by omega)]
  · rw [if_neg h2]
    by_cases e : j = p
    · rw [if_pos (by omega), spJ, e, if_neg h]
    · rw [if_neg (by omega)]
theorem sp_bits {y inv : List Int} (hy : y.all bitB = true) (p : Nat) : (spP y inv p).all bitB = true := by
  rw [List.all_eq_true]
  intro x hx
  simp only [spP, vN, List.mem_map] at hx
  obtain ⟨j, _, rfl⟩ := hx
  have := bit_get hy j
  unfold spJ bitB
  rw [decide_eq_true_eq]
  split
  · split <;> omega
  · exact this
section
variable {C : Ctx} (hC : C.P = Try.prog)
include hC
theorem l12 {Q : List AFrame → AHeap → Prop} (n : Nat) (cs : List AV) (inv y : List Int) (n1 n2 : Int) (hy : y.length = n) (hyb : y.all bitB = true) (hn : n ≤ 24) (hi : inv.length ≤ 1000000)
    (hq : Ev C (f12h12_0a n cs inv y n1 n2 (spP y inv n) n) (f12h12_0am n cs inv y n1 n2 (spP y inv n) n) Q) : ∀ (d p : Nat), p + d = n →
    Ev C (f12h12_0a n cs inv y n1 n2 (spP y inv p) p) (f12h12_0am n cs inv y n1 n2 (spP y inv p) p) Q := by
  intro d
  induction d with
  | zero =>
    intro p hp
    rw [show p = n by omega]
    exact hq
  | succ d ih =>
    intro p hp
    have next := ih (p + 1) (by omega)
    have hl := sp_len y inv p
    have hv := bit_get (sp_bits (inv := inv) hyb p) p
    rw [List.getD_eq_getElem?_getD] at hv
    by_cases hb : hasB inv (p : Int) = true
    · rw [← sp_hit (by omega) hb] at next
      refine go hC G5_ok (f12p8 std n cs inv y n1 n2 (spP y inv p) p) (by simp [hb, hl, hi]; omega) ?_
      simp only [s_sub, s_nat, s_set, s_add, s_nth, Int.toNat_natCast]
      exact next
    · rw [← sp_miss hb] at next
      exact go hC G5_ok (f12p9 std n cs inv y n1 n2 (spP y inv p) p) (by rw [Bool.not_eq_true] at hb; simp [hb, hi]; omega) next
set_option maxRecDepth 20000 in
theorem e12 (n : Nat) (cs : List AV) (inv y : List Int) (hy : y.length = n) (hn : n ≤ 10) (hc : cs.length ≤ 1000000) (hf : cs.all few1 = true) (hp : parE (n : Int) (iss cs) y = 0) (hu : unsS y 0 (iss cs) = []) :
    Ev C (f12h12_0a n cs inv y (mw69 n (iss cs)).1 (mw69 n (iss cs)).2 (spP y inv n) n) (f12h12_0am n cs inv y (mw69 n (iss cs)).1 (mw69 n (iss cs)).2 (spP y inv n) n) (FinQ 12 (.bool true) none) := by
  have hcc : (List.map (fun v => AV.list (Row.ints .i64 (AV.toIs v))) cs) = cpy cs := rfl
  obtain ⟨p1, p2, p3, p4, p5⟩ := parE_ok hp hf
  have hl := sp_len y inv n
  have hb := sp_bits (inv := inv) p2 n
  have hd : (chkE (n : Int) (iss cs)).2 = 0 := by
    unfold parE at hp
    split at hp
    · rename_i h; exact absurd hp h
    · rename_i h; exact Decidable.not_not.1 h
  have hps := par_of hp hl hb
  have hnr := nr_ok hps (by omega)
  have hdist : distB y 0 (spP y inv n) = ham (spP y inv n) y := dist_ham (by omega)
  have hle := ham_le (spP y inv n) y
  have hnn := ham_nn (spP y inv n) y
  have back : 2 * ham (spP y inv n) y < minC (iss cs) y.length (2 ^ y.length) 0 (y.length + 1) ∨ minC (iss cs) y.length (2 ^ y.length) 0 (y.length + 1) = y.length + 1 → nearR n (iss cs) (spP y inv n) = (y, ham (spP y inv n) y) := fun h => by
    have := near_back (css := iss cs) hl p2 hu h
    unfold nearR
    rw [Int.toNat_natCast]
    rw [hl, hy] at this
    exact this
  have hmj := min_join (iss cs) y.length
  by_cases hm : minR n (iss cs) < 0
  · have em := mw_none hd (by omega) hm
    have hmm : minC (iss cs) y.length (2 ^ y.length) 0 (y.length + 1) = y.length + 1 := by
      unfold minR at hm
      rw [Int.toNat_natCast] at hm
      rw [hy] at hmj ⊢
      omega
    rw [back (.inr hmm)] at hnr
    rw [em]
    refine fin hC G5_ok (f12p13 std n cs inv y 0 12 (spP y inv n) n) ?_ (by simp only [hcc, iss_cpy, hnr, hdist]; simp) rfl
    simp only [hcc, iss_cpy, cpy_few, cpy_len1, hf, hnr, hdist]
    simp [hb, p2, hl]
    omega
  · have em := mw_some hd (by omega) hm
    have hmm : minC (iss cs) y.length (2 ^ y.length) 0 (y.length + 1) = minR n (iss cs) ∧ 1 ≤ minR n (iss cs) ∧ minR n (iss cs) ≤ n := by
      unfold minR at hm ⊢
      rw [Int.toNat_natCast] at hm ⊢
      rw [hy] at hmj ⊢
      omega
    obtain ⟨m1, m2, m3⟩ := hmm
    rw [em]
    by_cases h2 : minR n (iss cs) ≤ 2 * ham (spP y inv n) y
    · refine fin hC G5_ok (f12p11 std n cs inv y (minR n (iss cs)) 0 (spP y inv n) n) ?_ (by simp [m2, m3]) rfl
      simp only [hdist]
      simp [hb, p2, hl, m2, m3, h2]
      omega
    · rw [back (.inl (by omega))] at hnr
      refine fin hC G5_ok (f12p12 std n cs inv y (minR n (iss cs)) 0 (spP y inv n) n) ?_ (by simp only [hcc, iss_cpy, hnr, hdist]; simp) rfl
      simp only [hcc, iss_cpy, cpy_few, cpy_len1, hf, hnr, hdist]
      simp [hb, p2, hl, m2, m3]
      omega
end
set_option maxRecDepth 20000 in
theorem fixed_ok (n : Int) (cs : List AV) (w inv : List Int) : Pure Try.prog 12 [.agg (.gen [.int .i64 n, .list (.big (.ints .i64) cs)]), .list (.ints .i64 w), .list (.ints .i64 inv)] (.bool true) none :=
  start (f12e_at n cs w inv) fun C hC => by
    by_cases hf : fewC cs = true
    · have hall : cs.all few1 = true ∧ cs.length ≤ 18 := by simp only [fewC, Bool.and_eq_true, decide_eq_true_eq] at hf; exact ⟨hf.2, hf.1⟩
      obtain ⟨ha, hl⟩ := hall
      by_cases hn : 10 < n
      · exact fin hC G5_ok (f12p1 std n cs w inv) (by simp [hf]; omega) rfl rfl
      · by_cases hp : parE n (iss cs) w = 0
        · by_cases hi : 10 < inv.length
          · exact fin hC G5_ok (f12p3 std n cs w inv) (by simp [hf, hp, ha]; omega) rfl rfl
          · obtain ⟨q1, q2, q3, q4, q5⟩ := parE_ok hp ha
            obtain ⟨N, rfl⟩ := Int.eq_ofNat_of_zero_le (show 0 ≤ n by omega)
            have hc : (List.map (fun v => AV.list (Row.ints .i64 (AV.toIs v))) cs) = cpy cs := rfl
            have hd : (chkE (N : Int) (iss cs)).2 = 0 := by
              unfold parE at hp
              split at hp
              · rename_i h; exact absurd hp h
              · rename_i h; exact Decidable.not_not.1 h
            have e1 := nr_ok hp (by omega)
            obtain ⟨g1, g2, g3, g4, g5⟩ := near_facts hp ha
            have hpy := par_of hp g2 g3
            have hdy : distB w 0 (nearR N (iss cs) w).1 = (nearR N (iss cs) w).2 := by rw [dist_ham (by omega), g4]
            have hfx := flip_fix g1
            have hyl : (nearR N (iss cs) w).1.length = N := by omega
            have tail := l12 hC N cs inv (nearR N (iss cs) w).1 (mw69 N (iss cs)).1 (mw69 N (iss cs)).2 hyl g3 (by omega) (by omega) (e12 hC N cs inv _ hyl (by omega) (by omega) ha hpy g1) N 0 (by omega)
            rw [sp_zero] at tail
            generalize hy : nearR N (iss cs) w = r at *
            obtain ⟨y, m⟩ := r
            simp only at e1 g1 g2 g3 g4 g5 hpy hdy hfx hyl tail
            have hr30 : (0 : Int) ≤ 30 ∧ (30 : Int) ≤ 30 := by decide
            cases hdc : (decP (iss cs) ((30 : Int).toNat + 1) 0 w).2.2 with
            | true =>
              have e2 := dp_ok hp hr30 hdc
              obtain ⟨x1, x2, x3, x4, x5⟩ := decP_spec (iss cs) ((30 : Int).toNat + 1) 0 w hdc
              have x3 := x3 q2
              have hpx := par_of hp x2 x3
              have hdx : distB w 0 (decP (iss cs) ((30 : Int).toNat + 1) 0 w).1 = ham (decP (iss cs) ((30 : Int).toNat + 1) 0 w).1 w := dist_ham (by omega)
              have x6 := g5 _ x2 x3 x1
              rw [← hdx] at x6
              generalize decP (iss cs) ((30 : Int).toNat + 1) 0 w = X at *
              obtain ⟨x, k, b⟩ := X
              simp only at e2 x1 x2 x3 x4 x5 hpx hdx x6
              by_cases hm : minR N (iss cs) < 0
              · have em := mw_none hd (by omega) hm
                rw [em] at tail
                refine go hC G5_ok (f12p4 std N cs w inv) ?_ (by simp only [hc, iss_cpy, e1, em]; exact tail)
                simp only [hc, iss_cpy, cpy_few, cpy_len1, ha, hf, hp, e1, e2, em, hpy, hpx, okP, g1, x1, hfx, hdy, g3]
                simp [hyl, x2]
                omega
              · have em := mw_some hd (by omega) hm
                rw [em] at tail
                refine go hC G5_ok (f12p5 std N cs w inv) ?_ (by simp only [hc, iss_cpy, e1, em]; exact tail)
                simp only [hc, iss_cpy, cpy_few, cpy_len1, ha, hf, hp, e1, e2, em, hpy, hpx, okP, g1, x1, hfx, hdy, g3]
                simp [hyl, x2]
                omega
            | false =>
              have e2 := dp_lost hp hr30 hdc
              by_cases hm : minR N (iss cs) < 0
              · have em := mw_none hd (by omega) hm
                rw [em] at tail
                refine go hC G5_ok (f12p6 std N cs w inv) ?_ (by simp only [hc, iss_cpy, e1, em]; exact tail)
                simp only [hc, iss_cpy, cpy_few, cpy_len1, ha, hf, hp, e1, e2, em, hpy, okP, g1, hfx, hdy, g3]
                simp [hyl]
                omega
              · have em := mw_some hd (by omega) hm
                rw [em] at tail
                refine go hC G5_ok (f12p7 std N cs w inv) ?_ (by simp only [hc, iss_cpy, e1, em]; exact tail)
                simp only [hc, iss_cpy, cpy_few, cpy_len1, ha, hf, hp, e1, e2, em, hpy, okP, g1, hfx, hdy, g3]
                simp [hyl]
                omega
        · exact fin hC G5_ok (f12p2 std n cs w inv) (by simp [hf, hp, ha]; omega) rfl rfl
    · exact fin hC G5_ok (f12p0 std n cs w inv) (by simp [hf]) rfl rfl
end Go.Proofs.Ytimmgjppippdiaa
