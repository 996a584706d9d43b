/- FrameDecodes and FrameFrames return true. No condition. -/
import Derived.Test.YtjhdnpmojhkbjaaP5
namespace Go.Proofs.Ytjhdnpmojhkbjaa
theorem dL_len (e a : Int) (xs : List Int) : (dL e a xs).length ≤ xs.length := by
  unfold dL
  split
  · simp only [List.length_take, List.length_drop]; omega
  · simp
theorem decodes_ok (a b : Int) (xs : List Int) : Pure Try.prog 9 [.agg (.gen [.int .i64 a, .int .i64 b]), .list (.ints .i64 xs)] (.bool true) none :=
  start (f9e_at a b xs) fun C hC => by
    by_cases h1 : 32 < xs.length
    · exact fin hC B5_ok (f9p0 std a b xs) (by simp; omega) rfl rfl
    · by_cases h2 : rulesB a b = true
      · have e1 : rulesE a b = 0 := by rw [rulesE, if_pos h2]
        have e2 : decE a b xs = dcE a b xs := by rw [decE, if_pos h2]
        have hd := dL_len (dcE a b xs) a xs
        exact fin hC B5_ok (f9p1 std a b xs) (by simp [e1, e2, h2]; omega) (by simp [e2]) rfl
      · have e1 : rulesE a b = 2 := by rw [rulesE, if_neg h2]
        have e2 : decE a b xs = 2 := by rw [decE, if_neg h2]
        have hd := dL_len 2 a xs
        exact fin hC B5_ok (f9p2 std a b xs) (by simp [e1, e2]; omega) (by simp [e2, dI, dL]) rfl
/-- what is encoded is decoded -/
theorem sumsS_nn : ∀ (xs : List Int) (a b : Int), (∀ x ∈ xs, 0 ≤ x) → 0 ≤ a ∧ a < 251 → 0 ≤ b ∧ b < 251 → ∃ p q, sumsS xs a b = [p, q] ∧ (0 ≤ p ∧ p < 251) ∧ 0 ≤ q ∧ q < 251
  | [], a, b, _, ha, hb => ⟨a, b, rfl, ha, hb⟩
  | x :: xs, a, b, h, ha, hb => by
    have hx := h x (by simp)
    have h1 := tmod251 (a + x)
    have h2 : 0 ≤ (a + x).tmod 251 := Int.tmod_nonneg _ (by omega)
    have h3 := tmod251 (b + (a + x).tmod 251)
    have h4 : 0 ≤ (b + (a + x).tmod 251).tmod 251 := Int.tmod_nonneg _ (by omega)
    exact sumsS_nn xs _ _ (fun y hy => h y (by simp [hy])) ⟨h2, h1.2⟩ ⟨h4, h3.2⟩
theorem bytesE_of {xs : List Int} (h : ∀ x ∈ xs, 0 ≤ x ∧ x ≤ 255) : bytesE xs = 0 := by
  unfold bytesE
  rw [if_pos]
  rw [List.all_eq_true]
  intro x hx
  simpa [byteB] using h x hx
theorem dec_enc {a b c n f : Int} {ds : List Int} (hr : rulesB a b = true) (h : frameE a b c n f ds = 0) :
    decE a b (encS c n f ds) = 0 ∧ (encS c n f ds).getD 0 0 = c ∧ (encS c n f ds).getD 1 0 = n ∧ (encS c n f ds).getD 2 0 = f ∧ ((encS c n f ds).drop 3).take a.toNat = ds ∧ ((encS c n f ds).length : Int) = a + 5 ∧ ∀ x ∈ encS c n f ds, 0 ≤ x ∧ x ≤ 255 := by
  obtain ⟨h1, h2, h3, h4, h5⟩ := frameE_ok h
  have hb := bytesE_mem h5
  have hr' := hr
  simp only [rulesB, decide_eq_true_eq] at hr'
  have hall : ∀ x ∈ [c, n, f] ++ ds, 0 ≤ x ∧ x ≤ 255 := by
    intro x hx
    rcases List.mem_append.1 hx with hx | hx
    · simp at hx
      rcases hx with rfl | rfl | rfl <;> omega
    · exact hb x hx
  obtain ⟨p, q, e, hp, hq⟩ := sumsS_nn ([c, n, f] ++ ds) 1 0 (fun x hx => (hall x hx).1) (by omega) (by omega)
  have hl : ds.length = a.toNat := by omega
  have he : encS c n f ds = ([c, n, f] ++ ds) ++ [p, q] := by rw [encS, e]
  have hl3 : ([c, n, f] ++ ds).length = 3 + a.toNat := by simp [hl]; omega
  have g5 : ((encS c n f ds).drop 3).take a.toNat = ds := by
    rw [he]
    show ((ds ++ [p, q])).take a.toNat = ds
    rw [← hl, List.take_left]
  have g6 : ((encS c n f ds).length : Int) = a + 5 := by rw [he]; simp; omega
  have g7 : ∀ x ∈ encS c n f ds, 0 ≤ x ∧ x ≤ 255 := by
    intro x hx
    rw [he] at hx
    rcases List.mem_append.1 hx with hx | hx
    · exact hall x hx
    · simp at hx
      rcases hx with rfl | rfl <;> omega
  have t1 : (encS c n f ds).take (3 + a.toNat) = [c, n, f] ++ ds := by rw [he, ← hl3, List.take_left]
  have t2 : ((encS c n f ds).drop (3 + a.toNat)).take 2 = [p, q] := by rw [he, ← hl3, List.drop_left]; rfl
  have q0 : (encS c n f ds).getD 0 0 = c := by rw [he]; rfl
  have q1 : (encS c n f ds).getD 1 0 = n := by rw [he]; rfl
  have q2 : (encS c n f ds).getD 2 0 = f := by rw [he]; rfl
  refine ⟨?_, q0, q1, q2, g5, g6, g7⟩
  rw [decE, if_pos hr, dcE, if_pos g6, if_pos (bytesE_of g7), t1, t2, if_pos e, q0, q1, q2, g5]
  exact h
theorem frames_ok (a b c n f : Int) (ds xs : List Int) : Pure Try.prog 11 [.agg (.gen [.int .i64 a, .int .i64 b]), .agg (.gen [.int .i64 c, .int .i64 n, .int .i64 f, .list (.ints .i64 ds)]), .list (.ints .i64 xs)] (.bool true) none :=
  start (f11e_at a b c n f ds xs) fun C hC => by
    by_cases h1 : 32 < ds.length
    · exact fin hC B5_ok (f11p0 std a b c n f ds xs) (by simp; omega) rfl rfl
    · by_cases h2 : 32 < xs.length
      · exact fin hC B5_ok (f11p1 std a b c n f ds xs) (by simp; omega) rfl rfl
      · have hs : sumE xs = 0 → xs.all smallB = true := fun h0 => by
          unfold sumE at h0
          split at h0
          · cases h0
          · split at h0
            · cases h0
            · exact bytes_small h0
        by_cases h3 : sumE xs = 0
        · have hsr : sumR xs = sumN xs := by rw [sumR, if_pos h3]
          have hsm := hs h3
          by_cases h4 : rulesB a b = true
          · have e1 : rulesE a b = 0 := by rw [rulesE, if_pos h4]
            have e2 : chkE a b c n f ds = frameE a b c n f ds := by rw [chkE, if_pos h4]
            have hr' := h4
            simp only [rulesB, decide_eq_true_eq] at hr'
            by_cases h5 : frameE a b c n f ds = 0
            · obtain ⟨hsm2, hl⟩ := enc_small h4 h5
              obtain ⟨g1, g2, g3, g4, g5, g6, _⟩ := dec_enc h4 h5
              have e3 : encR a b c n f ds = encS c n f ds := by rw [encR, if_pos (by rw [e2]; exact h5)]
              have hd := dL_len 0 a (encS c n f ds)
              exact fin hC B5_ok (f11p6 std a b c n f ds xs) (by simp only [e1, e2, e3, h3, h5, hsr, hsm, hsm2, g1]; simp; omega) (by simp only [e3, g1, dI, dL, if_true, g2, g3, g4, g5]; simp) rfl
            · have e3 : encR a b c n f ds = [] := by rw [encR, if_neg (by rw [e2]; exact h5)]
              exact fin hC B5_ok (f11p5 std a b c n f ds xs) (by simp only [e1, e2, h3, hsr, hsm]; simp [h5]; omega) (by rw [e3]; rfl) rfl
          · have e1 : rulesE a b = 2 := by rw [rulesE, if_neg h4]
            have e2 : chkE a b c n f ds = 2 := by rw [chkE, if_neg h4]
            have e3 : encR a b c n f ds = [] := by rw [encR, if_neg (by rw [e2]; decide)]
            exact fin hC B5_ok (f11p7 std a b c n f ds xs) (by simp only [e1, e2, h3, hsr, hsm]; simp; omega) (by rw [e3]; rfl) rfl
        · have hsr : sumR xs = 0 := by rw [sumR, if_neg h3]
          by_cases h4 : rulesB a b = true
          · have e1 : rulesE a b = 0 := by rw [rulesE, if_pos h4]
            have e2 : chkE a b c n f ds = frameE a b c n f ds := by rw [chkE, if_pos h4]
            have hr' := h4
            simp only [rulesB, decide_eq_true_eq] at hr'
            by_cases h5 : frameE a b c n f ds = 0
            · obtain ⟨hsm2, hl⟩ := enc_small h4 h5
              obtain ⟨g1, g2, g3, g4, g5, g6, _⟩ := dec_enc h4 h5
              have e3 : encR a b c n f ds = encS c n f ds := by rw [encR, if_pos (by rw [e2]; exact h5)]
              have hd := dL_len 0 a (encS c n f ds)
              exact fin hC B5_ok (f11p3 std a b c n f ds xs) (by simp only [e1, e2, e3, h5, hsr, hsm2, g1]; simp [h3]; omega) (by simp only [e3, g1, dI, dL, if_true, g2, g3, g4, g5]; simp) rfl
            · have e3 : encR a b c n f ds = [] := by rw [encR, if_neg (by rw [e2]; exact h5)]
              exact fin hC B5_ok (f11p2 std a b c n f ds xs) (by simp only [e1, e2, hsr]; simp [h5, h3]; omega) (by rw [e3]; rfl) rfl
          · have e1 : rulesE a b = 2 := by rw [rulesE, if_neg h4]
            have e2 : chkE a b c n f ds = 2 := by rw [chkE, if_neg h4]
            have e3 : encR a b c n f ds = [] := by rw [encR, if_neg (by rw [e2]; decide)]
            exact fin hC B5_ok (f11p4 std a b c n f ds xs) (by simp only [e1, e2, hsr]; simp [h3]; omega) (by rw [e3]; rfl) rfl
end Go.Proofs.Ytjhdnpmojhkbjaa
