/- FrameChanges returns true: the sums of bytes of which one is changed, or two neighbours are exchanged. No condition. -/
import Derived.Test.YtjhdnpmojhkbjaaP6
import Derived.Test.YtjhdnpmojhkbjaaA6
namespace Go.Proofs.Ytjhdnpmojhkbjaa
/-! ### Sums, as numbers modulo 251 -/
def wS : Int → List Int → Int
  | _, [] => 0
  | a, x :: xs => (a + x) + wS (a + x) xs
theorem wS_mod : ∀ (xs : List Int) (a s : Int), ∃ t, wS (a + 251 * s) xs = wS a xs + 251 * t
  | [], _, _ => ⟨0, rfl⟩
  | x :: xs, a, s => by
    obtain ⟨t, ht⟩ := wS_mod xs (a + x) s
    refine ⟨s + t, ?_⟩
    rw [wS, wS, show a + 251 * s + x = a + x + 251 * s by omega, ht]
    omega
theorem sumsS_em : ∀ (xs : List Int) (a b : Int), (∀ x ∈ xs, 0 ≤ x) → 0 ≤ a ∧ a < 251 → 0 ≤ b ∧ b < 251 → sumsS xs a b = [(a + xs.sum) % 251, (b + wS a xs) % 251]
  | [], a, b, _, ha, hb => by
    simp only [sumsS, List.sum_nil, wS]
    rw [show (a + 0) % 251 = a by omega, show (b + 0) % 251 = b by omega]
  | x :: xs, a, b, h, ha, hb => by
    have hx := h x (by simp)
    have e1 : (a + x).tmod 251 = (a + x) % 251 := Int.tmod_eq_emod_of_nonneg (by omega)
    have e2 : (b + (a + x) % 251).tmod 251 = (b + (a + x) % 251) % 251 := Int.tmod_eq_emod_of_nonneg (by omega)
    rw [sumsS, e1, e2, sumsS_em xs _ _ (fun y hy => h y (by simp [hy])) (by omega) (by omega)]
    obtain ⟨t, ht⟩ := wS_mod xs (a + x) (-((a + x) / 251))
    have e3 : a + x + 251 * -((a + x) / 251) = (a + x) % 251 := by omega
    rw [e3] at ht
    rw [List.sum_cons, wS, ht]
    generalize wS (a + x) xs = W
    generalize xs.sum = S
    congr 1
    · omega
    · congr 1
      omega
theorem wS_swap : ∀ (A : List Int) (a x y : Int) (B : List Int), wS a (A ++ y :: x :: B) = wS a (A ++ x :: y :: B) + (y - x)
  | [], a, x, y, B => by
    simp only [List.nil_append, wS]
    rw [show a + y + x = a + x + y by omega]
    omega
  | z :: A, a, x, y, B => by
    simp only [List.cons_append, wS, wS_swap A (a + z) x y B]
    omega
theorem set_mid {α : Type} (A : List α) (x y : α) (B : List α) : (A ++ x :: B).set A.length y = A ++ y :: B := by
  induction A with
  | nil => rfl
  | cons z A ih => simp only [List.cons_append, List.length_cons, List.set_cons_succ, ih]
theorem swap_mid {α : Type} (A : List α) (x y : α) (B : List α) : ((A ++ x :: y :: B).set A.length y).set (A.length + 1) x = A ++ y :: x :: B := by
  rw [set_mid]
  have := set_mid (A ++ [y]) y x B
  rw [List.length_append, List.append_assoc, List.append_assoc] at this
  exact this
def sumOK (n : Nat) (X : List Int) : Prop := sumsS (X.take n) 1 0 = (X.drop n).take 2
theorem sumOK_app {H : List Int} {u v : Int} : sumOK H.length (H ++ [u, v]) ↔ sumsS H 1 0 = [u, v] := by
  unfold sumOK
  rw [List.take_left, List.drop_left]
  exact Iff.rfl
theorem sumOK_app' {n : Nat} {H : List Int} {u v : Int} (h : H.length = n) : sumOK n (H ++ [u, v]) ↔ sumsS H 1 0 = [u, v] := by
  subst h; exact sumOK_app
theorem chg_set {H : List Int} {p q : Int} (hs : sumsS H 1 0 = [p, q]) (hH : ∀ x ∈ H, 0 ≤ x) {i : Nat} {y : Int} (hi : i < (H ++ [p, q]).length) (hy : 0 ≤ y) (h1 : y ≠ (H ++ [p, q])[i]) (h2 : y - (H ++ [p, q])[i] ≠ 251) (h3 : y - (H ++ [p, q])[i] ≠ -251)
    (h4 : y - (H ++ [p, q])[i] < 502 ∧ -502 < y - (H ++ [p, q])[i]) : ¬ sumOK H.length ((H ++ [p, q]).set i y) := by
  have hs2 := sumsS_em H 1 0 hH (by omega) (by omega)
  rw [hs] at hs2
  simp only [List.cons.injEq, and_true] at hs2
  by_cases h5 : i < H.length
  · have hg : (H ++ [p, q])[i] = H[i] := List.getElem_append_left h5
    rw [hg] at h1 h2 h3 h4
    have hH2 : H = H.take i ++ H[i] :: H.drop (i + 1) := by rw [← List.drop_eq_getElem_cons h5, List.take_append_drop]
    have hl : (H.take i).length = i := by simp; omega
    have e1 : (H ++ [p, q]).set i y = (H.take i ++ y :: H.drop (i + 1)) ++ [p, q] := by
      rw [List.set_append_left _ _ h5]
      congr 1
      have := set_mid (H.take i) H[i] y (H.drop (i + 1))
      rw [← hH2, hl] at this
      exact this
    have hlen : (H.take i ++ y :: H.drop (i + 1)).length = H.length := by simp; omega
    rw [e1, sumOK_app' hlen]
    intro e
    have hn : ∀ x ∈ H.take i ++ y :: H.drop (i + 1), 0 ≤ x := by
      intro x hx
      rcases List.mem_append.1 hx with hx | hx
      · exact hH x (List.mem_of_mem_take hx)
      · rcases List.mem_cons.1 hx with rfl | hx
        · exact hy
        · exact hH x (List.mem_of_mem_drop hx)
    rw [sumsS_em _ 1 0 hn (by omega) (by omega)] at e
    simp only [List.cons.injEq, and_true] at e
    have hsum : H.sum = (H.take i).sum + (H[i] + (H.drop (i + 1)).sum) := by
      rw [← List.sum_cons, ← List.sum_append, ← hH2]
    have hsum2 : (H.take i ++ y :: H.drop (i + 1)).sum = (H.take i).sum + (y + (H.drop (i + 1)).sum) := by rw [List.sum_append, List.sum_cons]
    rw [hsum2] at e
    rw [hsum] at hs2
    generalize (H.take i).sum = S1 at *
    generalize (H.drop (i + 1)).sum = S2 at *
    generalize H[i] = x at *
    have e0 := e.1
    have e9 := hs2.1
    omega
  · have h6 : i = H.length ∨ i = H.length + 1 := by simp at hi; omega
    rcases h6 with rfl | rfl
    · have hg : (H ++ [p, q])[H.length] = p := by rw [List.getElem_append_right (Nat.le_refl _)]; simp
      rw [hg] at h1
      rw [set_mid, sumOK_app, hs]
      simp only [List.cons.injEq, and_true, not_and]
      exact fun e => absurd e.symm h1
    · have hg : (H ++ [p, q])[H.length + 1] = q := by rw [List.getElem_append_right (by omega)]; simp
      rw [hg] at h1
      have := set_mid (H ++ [p]) q y []
      rw [List.length_append, List.append_assoc] at this
      simp only [List.singleton_append, List.length_singleton, List.append_assoc] at this
      rw [this]
      rw [show H ++ (p :: [y]) = H ++ [p, y] from rfl, sumOK_app, hs]
      simp only [List.cons.injEq, and_true, true_and]
      exact fun e => absurd e.symm h1
theorem chg_swap {H : List Int} {p q : Int} (hs : sumsS H 1 0 = [p, q]) (hH : ∀ x ∈ H, 0 ≤ x) {i : Nat} (hi : i + 1 < (H ++ [p, q]).length) (h1 : ((H ++ [p, q])[i] - (H ++ [p, q])[i + 1]) % 251 ≠ 0) :
    ¬ sumOK H.length (((H ++ [p, q]).set i (H ++ [p, q])[i + 1]).set (i + 1) (H ++ [p, q])[i]) := by
  have hs2 := sumsS_em H 1 0 hH (by omega) (by omega)
  rw [hs] at hs2
  simp only [List.cons.injEq, and_true] at hs2
  obtain ⟨hp, hq⟩ := hs2
  by_cases h5 : i + 1 < H.length
  · have hg : (H ++ [p, q])[i] = H[i] := List.getElem_append_left (by omega)
    have hg2 : (H ++ [p, q])[i + 1] = H[i + 1] := List.getElem_append_left h5
    have hH2 : H = H.take i ++ H[i] :: H[i + 1] :: H.drop (i + 2) := by
      rw [← List.drop_eq_getElem_cons h5, ← List.drop_eq_getElem_cons (show i < H.length by omega), List.take_append_drop]
    have hl : (H.take i).length = i := by simp; omega
    rw [hg, hg2] at h1
    have e1 : ((H ++ [p, q]).set i (H ++ [p, q])[i + 1]).set (i + 1) (H ++ [p, q])[i] = (H.take i ++ H[i + 1] :: H[i] :: H.drop (i + 2)) ++ [p, q] := by
      rw [hg, hg2, List.set_append_left _ _ (by omega), List.set_append_left _ _ (by simp; omega)]
      congr 1
      have := swap_mid (H.take i) H[i] H[i + 1] (H.drop (i + 2))
      rw [← hH2, hl] at this
      exact this
    have hlen : (H.take i ++ H[i + 1] :: H[i] :: H.drop (i + 2)).length = H.length := by simp; omega
    rw [e1, sumOK_app' hlen]
    intro e
    have hn : ∀ x ∈ H.take i ++ H[i + 1] :: H[i] :: H.drop (i + 2), 0 ≤ x := by
      intro x hx
      rcases List.mem_append.1 hx with hx | hx
      · exact hH x (List.mem_of_mem_take hx)
      · rcases List.mem_cons.1 hx with rfl | hx
        · exact hH _ (List.getElem_mem _)
        · rcases List.mem_cons.1 hx with rfl | hx
          · exact hH _ (List.getElem_mem _)
          · exact hH x (List.mem_of_mem_drop hx)
    rw [sumsS_em _ 1 0 hn (by omega) (by omega)] at e
    simp only [List.cons.injEq, and_true] at e
    have hw := wS_swap (H.take i) 1 H[i] H[i + 1] (H.drop (i + 2))
    rw [← hH2] at hw
    rw [hw] at e
    have e2 := e.2
    revert e2 hq h1
    generalize wS 1 H = W
    generalize H[i] = x
    generalize H[i + 1] = y
    intro h1 hq e2
    omega
  · by_cases h6 : i + 1 = H.length
    · have hne : H ≠ [] := fun e => by rw [e] at h6; simp at h6
      obtain ⟨A, x, rfl⟩ : ∃ A x, H = A ++ [x] := ⟨H.dropLast, H.getLast hne, (List.dropLast_concat_getLast hne).symm⟩
      have hi2 : i = A.length := by simp at h6; omega
      subst hi2
      have hL : (A ++ [x]) ++ [p, q] = A ++ x :: p :: [q] := by simp
      have hg : ((A ++ [x]) ++ [p, q])[A.length] = x := by simp
      have hg2 : ((A ++ [x]) ++ [p, q])[A.length + 1] = p := by simp
      rw [hg, hg2] at h1
      have e1 : (((A ++ [x]) ++ [p, q]).set A.length ((A ++ [x]) ++ [p, q])[A.length + 1]).set (A.length + 1) ((A ++ [x]) ++ [p, q])[A.length] = (A ++ [p]) ++ [x, q] := by
        rw [hg, hg2]
        have := swap_mid A x p [q]
        rw [← hL] at this
        rw [this]; simp
      have hlen : (A ++ [p]).length = (A ++ [x]).length := by simp
      rw [e1, sumOK_app' hlen]
      intro e
      have hn : ∀ z ∈ A ++ [p], 0 ≤ z := by
        intro z hz
        rcases List.mem_append.1 hz with hz | hz
        · exact hH z (by simp [hz])
        · simp at hz; omega
      rw [sumsS_em _ 1 0 hn (by omega) (by omega)] at e
      simp only [List.cons.injEq, and_true] at e
      have e0 := e.1
      simp only [List.sum_append, List.sum_cons, List.sum_nil] at e0 hp
      generalize A.sum = S at *
      omega
    · have h7 : i = H.length := by simp at hi; omega
      subst h7
      have hg : (H ++ [p, q])[H.length] = p := by rw [List.getElem_append_right (Nat.le_refl _)]; simp
      have hg2 : (H ++ [p, q])[H.length + 1] = q := by rw [List.getElem_append_right (by omega)]; simp
      rw [hg, hg2] at h1
      have e1 : ((H ++ [p, q]).set H.length (H ++ [p, q])[H.length + 1]).set (H.length + 1) (H ++ [p, q])[H.length] = H ++ [q, p] := by
        rw [hg, hg2]; exact swap_mid H p q []
      rw [e1, sumOK_app, hs]
      simp only [List.cons.injEq, and_true]
      rintro ⟨rfl, _⟩
      exact h1 (by simp)
/-! ### The law -/
theorem modI_rng {n m : Int} (h : 0 < m) : 0 ≤ modI n m ∧ modI n m < m := by
  have := tmodR n h
  unfold modI
  split <;> omega
theorem enc_form {a b c n f : Int} {ds : List Int} (hr : rulesB a b = true) (h : frameE a b c n f ds = 0) : ∃ p q, encS c n f ds = ([c, n, f] ++ ds) ++ [p, q] ∧ sumsS ([c, n, f] ++ ds) 1 0 = [p, q] ∧ ([c, n, f] ++ ds).length = 3 + a.toNat ∧ ∀ x ∈ [c, n, f] ++ ds, 0 ≤ x := by
  obtain ⟨h1, h2, h3, h4, h5⟩ := frameE_ok h
  have hb := bytesE_mem h5
  simp only [rulesB, decide_eq_true_eq] at hr
  have hall : ∀ x ∈ [c, n, f] ++ ds, 0 ≤ x := by
    intro x hx
    rcases List.mem_append.1 hx with hx | hx
    · simp at hx
      rcases hx with rfl | rfl | rfl <;> omega
    · exact (hb x hx).1
  obtain ⟨p, q, e, _, _⟩ := sumsS_nn ([c, n, f] ++ ds) 1 0 hall (by omega) (by omega)
  exact ⟨p, q, by rw [encS, e], e, by simp; omega, hall⟩
theorem dec_20 {a b : Int} {X : List Int} (hr : rulesB a b = true) (hl : (X.length : Int) = a + 5) (hb : ∀ x ∈ X, 0 ≤ x ∧ x ≤ 255) (hs : ¬ sumOK (3 + a.toNat) X) : decE a b X = 20 := by
  rw [decE, if_pos hr, dcE, if_pos hl, if_pos (bytesE_of hb)]
  exact if_neg hs
set_option maxRecDepth 20000 in
theorem changes_ok (a b c n f x0 x1 : Int) (ds : List Int) : Pure Try.prog 12 [.agg (.gen [.int .i64 a, .int .i64 b]), .agg (.gen [.int .i64 c, .int .i64 n, .int .i64 f, .list (.ints .i64 ds)]), .agg (.ints .i64 [x0, x1])] (.bool true) none :=
  start (f12e_at a b c n f ds [x0, x1]) fun C hC => by
    by_cases h1 : rulesB a b = true
    · have e1 : rulesE a b = 0 := by rw [rulesE, if_pos h1]
      have hr' := h1
      simp only [rulesB, decide_eq_true_eq] at hr'
      by_cases h2 : frameE a b c n f ds = 0
      · have e2 : chkE a b c n f ds = 0 := by rw [chkE, if_pos h1, h2]
        obtain ⟨p, q, g1, g2, g3, g4⟩ := enc_form h1 h2
        obtain ⟨_, _, _, _, _, g6, g7⟩ := dec_enc h1 h2
        have e3 : encR a b c n f ds = encS c n f ds := by rw [encR, if_pos e2]
        have hdl : ds.length ≤ 24 := (enc_small h1 h2).2
        have hbE : bytesE (encS c n f ds) = 0 := bytesE_of g7
        generalize hH : [c, n, f] ++ ds = H at g1 g2 g3 g4
        generalize hL : encS c n f ds = L at *
        have hLl : L.length = 3 + a.toNat + 2 := by omega
        obtain ⟨m, hm⟩ := Int.eq_ofNat_of_zero_le (show 0 ≤ a by omega)
        have hat := modI_rng (n := x0) (m := (L.length : Int)) (by omega)
        have hby := modI_rng (n := x1) (m := 256) (by omega)
        obtain ⟨i, hi⟩ := Int.eq_ofNat_of_zero_le hat.1
        rw [hi] at hat
        have hil : i < L.length := by omega
        have hLi := g7 L[i] (List.getElem_mem hil)
        obtain ⟨y, hy⟩ : ∃ y, modI x1 256 = y := ⟨_, rfl⟩
        rw [hy] at hby
        have hnat : std.nat (i : Int) = i := by simp
        have hnat1 : std.nat (std.add (i : Int) 1) = i + 1 := by simp only [s_nat, s_add]; omega
        have hnth : std.nth L i = L[i] := by simp [hil]
        have hx0 : std.nth [x0, x1] 0 = x0 := rfl
        have hx1 : std.nth [x0, x1] 1 = x1 := rfl
        have hsb : smallB (y - L[i]) = true := by simp [smallB]; omega
        have hLL : (L.length : Int) = (m : Int) + 5 := by omega
        have hset : y ≠ L[i] → y - L[i] ≠ 251 → y - L[i] ≠ -251 → decE a b (std.set L i y) = 20 := fun q1 q2 q3 => by
          refine dec_20 h1 (by simp; omega) (fun x hx => ?_) ?_
          · rcases List.mem_or_eq_of_mem_set hx with hx | rfl
            · exact g7 x hx
            · omega
          · subst g1
            rw [← g3]
            exact chg_set g2 g4 hil (by omega) q1 q2 q3 (by omega)
        have hswp : ∀ (hi1 : i + 1 < L.length), (L[i] - L[i + 1]) % 251 ≠ 0 → decE a b (std.set (std.set L i L[i + 1]) (i + 1) L[i]) = 20 := fun hi1 q1 => by
          refine dec_20 h1 (by simp; omega) (fun x hx => ?_) ?_
          · rcases List.mem_or_eq_of_mem_set hx with hx | rfl
            · rcases List.mem_or_eq_of_mem_set hx with hx | rfl
              · exact g7 x hx
              · exact g7 _ (List.getElem_mem _)
            · exact g7 _ (List.getElem_mem _)
          · subst g1
            rw [← g3]
            exact chg_swap g2 g4 hi1 q1
        have hmod : ∀ z : Int, modI z 251 = 0 ↔ z % 251 = 0 := fun z => by
          have := modI_rng (n := z) (m := 251) (by omega)
          have e : (modI z 251 - z) % 251 = 0 := by
            unfold modI
            have := Int.mul_tdiv_add_tmod z 251
            split <;> omega
          omega
        generalize hK : L[i] = K at *
        by_cases hc : y = K
        · by_cases hend : (i : Int) + 1 = (L.length : Int)
          · exact fin hC B5c_ok (f12p8 std a b c n f ds [x0, x1]) (by simp only [e1, e2, e3, h2, hx0, hx1, s_int, s_len, hi, hnat, hnat1, hnth, hbE, hy]; simp [hdl, hend, hsb, hc]; omega) rfl rfl
          · have hi1 : i + 1 < L.length := by omega
            have hnth1 : std.nth L (i + 1) = L[i + 1] := by simp [hi1]
            have hLi1 := g7 L[i + 1] (List.getElem_mem hi1)
            have hs2 := hswp hi1
            generalize L[i + 1] = M at *
            by_cases hz : modI (K - M) 251 = 0
            · exact fin hC B5c_ok (f12p9 std a b c n f ds [x0, x1]) (by simp only [e1, e2, e3, h2, hx0, hx1, s_int, s_len, hi, hnat, hnat1, hnth, hbE, hy, hnth1, s_sub, hz]; simp [hdl, hend, hsb, hc]; omega) rfl rfl
            · have hs3 := hs2 (fun h => hz ((hmod _).2 h))
              exact fin hC B5c_ok (f12p10 std a b c n f ds [x0, x1]) (by simp only [e1, e2, e3, h2, hx0, hx1, s_int, s_len, hi, hnat, hnat1, hnth, hbE, hy, hnth1, s_sub, hs3]; simp [hdl, hend, hsb, hz, hc]; omega) (by simp only [e1, e2, e3, h2, hx0, hx1, s_int, s_len, hi, hnat, hnat1, hnth, hbE, hy, hnth1, hs3]; rfl) rfl
        · by_cases hc2 : sizeI (y - K) = 251
          · have hc3 : sizeI (std.sub y K) = 251 := hc2
            by_cases hend : (i : Int) + 1 = (L.length : Int)
            · exact fin hC B5c_ok (f12p5 std a b c n f ds [x0, x1]) (by simp only [e1, e2, e3, h2, hx0, hx1, s_int, s_len, hi, hnat, hnat1, hnth, hbE, hy, hc3]; simp [hdl, hend, hsb, hc]; omega) rfl rfl
            · have hi1 : i + 1 < L.length := by omega
              have hnth1 : std.nth L (i + 1) = L[i + 1] := by simp [hi1]
              have hLi1 := g7 L[i + 1] (List.getElem_mem hi1)
              have hs2 := hswp hi1
              generalize L[i + 1] = M at *
              by_cases hz : modI (K - M) 251 = 0
              · exact fin hC B5c_ok (f12p6 std a b c n f ds [x0, x1]) (by simp only [e1, e2, e3, h2, hx0, hx1, s_int, s_len, hi, hnat, hnat1, hnth, hbE, hy, hc3, hnth1, s_sub, hz]; simp [hdl, hend, hsb, hc]; omega) rfl rfl
              · have hs3 := hs2 (fun h => hz ((hmod _).2 h))
                exact fin hC B5c_ok (f12p7 std a b c n f ds [x0, x1]) (by simp only [e1, e2, e3, h2, hx0, hx1, s_int, s_len, hi, hnat, hnat1, hnth, hbE, hy, hc3, hnth1, s_sub, hs3]; simp [hdl, hend, hsb, hz, hc]; omega) (by simp only [e1, e2, e3, h2, hx0, hx1, s_int, s_len, hi, hnat, hnat1, hnth, hbE, hy, hnth1, hs3]; rfl) rfl
          · have hc3 : sizeI (std.sub y K) ≠ 251 := hc2
            have hq2 : y - K ≠ 251 := fun h => hc2 (by rw [sizeI, h]; decide)
            have hq3 : y - K ≠ -251 := fun h => hc2 (by rw [sizeI, h]; decide)
            have h20 := hset hc hq2 hq3
            by_cases hend : (i : Int) + 1 = (L.length : Int)
            · exact fin hC B5c_ok (f12p2 std a b c n f ds [x0, x1]) (by simp only [e1, e2, e3, h2, hx0, hx1, s_int, s_len, hi, hnat, hnat1, hnth, hbE, hy, h20]; simp [hdl, hend, hsb, hc, hc2]; omega) rfl rfl
            · have hi1 : i + 1 < L.length := by omega
              have hnth1 : std.nth L (i + 1) = L[i + 1] := by simp [hi1]
              have hLi1 := g7 L[i + 1] (List.getElem_mem hi1)
              have hs2 := hswp hi1
              generalize L[i + 1] = M at *
              by_cases hz : modI (K - M) 251 = 0
              · exact fin hC B5c_ok (f12p3 std a b c n f ds [x0, x1]) (by simp only [e1, e2, e3, h2, hx0, hx1, s_int, s_len, hi, hnat, hnat1, hnth, hbE, hy, h20, hnth1, s_sub, hz]; simp [hdl, hend, hsb, hc, hc2]; omega) rfl rfl
              · have hs3 := hs2 (fun h => hz ((hmod _).2 h))
                exact fin hC B5c_ok (f12p4 std a b c n f ds [x0, x1]) (by simp only [e1, e2, e3, h2, hx0, hx1, s_int, s_len, hi, hnat, hnat1, hnth, hbE, hy, h20, hnth1, s_sub, hs3]; simp [hdl, hend, hsb, hz, hc, hc2]; omega) (by simp only [e1, e2, e3, h2, hx0, hx1, s_int, s_len, hi, hnat, hnat1, hnth, hbE, hy, hnth1, hs3]; rfl) rfl
      · exact fin hC B5c_ok (f12p1 std a b c n f ds [x0, x1]) (by simp [e1, h2]; omega) rfl rfl
    · have e1 : rulesE a b = 2 := by rw [rulesE, if_neg h1]
      exact fin hC B5c_ok (f12p0 std a b c n f ds [x0, x1]) (by simp [e1]) rfl rfl
end Go.Proofs.Ytjhdnpmojhkbjaa
