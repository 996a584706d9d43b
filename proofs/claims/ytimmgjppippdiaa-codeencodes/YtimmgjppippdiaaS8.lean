/- CodeEncodes returns true. No condition. -/
import Derived.Test.YtimmgjppippdiaaQm
namespace Go.Proofs.Ytimmgjppippdiaa
theorem eb_conv {c bs : List Int} (h : convE c ≠ 0) : ebF c bs = convE c ∧ ebL c bs = [] := by
  have e : ebF c bs = convE c := by unfold ebF; simp [firstE, h]
  exact ⟨e, by unfold ebL; rw [if_neg (by rw [e]; exact h)]⟩
theorem eb_bits {c bs : List Int} (h : convE c = 0) (h2 : bsE bs ≠ 0) : ebF c bs = bsE bs ∧ ebL c bs = [] := by
  have e : ebF c bs = bsE bs := by unfold ebF; simp [firstE, h, h2]
  exact ⟨e, by unfold ebL; rw [if_neg (by rw [e]; exact h2)]⟩
theorem eb_ok {c bs : List Int} (h : convE c = 0) (h2 : bsE bs = 0) : ebF c bs = 0 ∧ ebL c bs = enc c bs := by
  have e : ebF c bs = 0 := by unfold ebF; simp [firstE, h, h2]
  exact ⟨e, by unfold ebL; rw [if_pos e]⟩
theorem me_conv {c bs so : List Int} (h : convE c ≠ 0) : meF c bs so = convE c := by unfold meF; simp [firstE, h]
theorem me_bits {c bs so : List Int} (h : convE c = 0) (h2 : bsE bs ≠ 0) : meF c bs so = bsE bs := by unfold meF; simp [firstE, h, h2]
theorem bs_ok {bs : List Int} (h2 : bsE bs = 0) : bs.all bitB = true ∧ bs.length ≤ 300 := by
  unfold bsE at h2
  split at h2
  · cases h2
  · refine ⟨?_, by omega⟩
    unfold bitE at h2
    split at h2
    · assumption
    · cases h2
theorem enc_length {c bs : List Int} (h3 : c.length = 3) (h : convE c = 0) : ((enc c bs).length : Int) = 2 * (bs.length + cM c) := by
  obtain ⟨m, hm, m1, m2⟩ := cm_rng h3 h
  unfold enc; rw [enc_len, List.length_append, List.length_replicate, hm]; omega
theorem me_soft {c bs so : List Int} (h3 : c.length = 3) (hs : so.length ≤ 1000000) (h : convE c = 0) (h2 : bsE bs = 0) (h4 : sfE c so ≠ 0) : meF c bs so = sfE c so := by
  unfold meF; rw [sfW_ok h3 h hs]; simp [firstE, h, h2, h4]
theorem me_len {c bs so : List Int} (h3 : c.length = 3) (hs : so.length ≤ 1000000) (h : convE c = 0) (h2 : bsE bs = 0) (h4 : sfE c so = 0) : meF c bs so = if (so.length : Int) = (enc c bs).length then 0 else 13 := by
  obtain ⟨m, hm, m1, m2⟩ := cm_rng h3 h
  have hb := bs_ok h2
  have w1 : IntKind.i64.wrap (bs.length + cM c) = bs.length + cM c := by rw [IntKind.wrap_i64, hm]; omega
  have w2 : IntKind.i64.wrap (2 * (bs.length + cM c)) = 2 * (bs.length + cM c) := by rw [IntKind.wrap_i64, hm]; omega
  unfold meF; rw [sfW_ok h3 h hs, w1, w2, enc_length h3 h]
  by_cases h6 : (so.length : Int) = 2 * (bs.length + cM c)
  · rw [if_pos h6]; simp [firstE, h, h2, h4, unlessE, h6]
  · rw [if_neg h6]; simp [firstE, h, h2, h4, unlessE, h6]
set_option maxRecDepth 20000 in
theorem encodes_ok (c bs so : List Int) (h3 : c.length = 3) : Pure Try.prog 8 [.agg (.ints .i64 c), .list (.ints .i64 bs), .list (.ints .i64 so)] (.bool true) none :=
  start (f8e_at c bs so) fun C hC => by
    have es := sub3_all h3
    by_cases hf : few bs.length 300 = true
    · have hbl : bs.length ≤ 302 := by unfold few at hf; simp at hf; omega
      by_cases hs1 : so.length ≤ 60
      · have hsl : so.length ≤ 1000000 := by omega
        by_cases hv : convE c = 0
        · obtain ⟨m, hm, m1, m2⟩ := cm_rng h3 hv
          by_cases hb : bsE bs = 0
          · obtain ⟨b1, b2⟩ := bs_ok hb
            obtain ⟨e1, e2⟩ := eb_ok hv hb
            have hel := enc_length (bs := bs) h3 hv
            by_cases hsf : sfE c so = 0
            · have em := me_len h3 hsl hv hb hsf
              by_cases hl : (so.length : Int) = (enc c bs).length
              · rw [if_pos hl] at em
                refine fin hC H5_ok (f8p12 std c bs so) ?_ (by rw [es, em]; simp) rfl
                rw [es]
                simp only [hv, hb, hsf, e1, e2, em, hf]
                simp [h3, b1, b2, hf, hl, hsl, hbl, hv, em]
                omega
              · rw [if_neg hl] at em
                refine fin hC H5_ok (f8p11 std c bs so) ?_ (by rw [es, em]; simp) rfl
                rw [es]
                simp only [hv, hb, hsf, e1, e2, em, hf]
                simp [h3, b1, b2, hf, hl, hsl, hbl, hv]
                omega
            · have em := me_soft h3 hsl hv hb hsf
              refine fin hC H5_ok (f8p13 std c bs so) ?_ (by rw [es, em]; simp [hsf]) rfl
              rw [es]
              simp only [hv, hb, e1, e2, em, hf]
              simp [h3, b1, b2, hf, hsf, hsl, hbl, hv]
              omega
          · obtain ⟨e1, e2⟩ := eb_bits hv hb
            have em := me_bits (so := so) hv hb
            refine fin hC H5_ok (f8p10 std c bs so) ?_ (by rw [es, em]; simp [hb]) rfl
            rw [es]
            simp only [hv, e1, e2, em, hf]
            simp [h3, hf, hb, hsl, hbl, hv]
            omega
        · obtain ⟨e1, e2⟩ := eb_conv (bs := bs) hv
          have em := me_conv (bs := bs) (so := so) hv
          refine fin hC H5_ok (f8p9 std c bs so) ?_ (by rw [es]; simp [hv]) rfl
          rw [es]
          simp only [e1, e2, em, hf]
          simp [h3, hf, hsl, hbl, hv]
          omega
      · by_cases hs2 : so.length ≤ 600
        · exact fin hC H5_ok (f8p1 std c bs so) (by simp [hf, h3]; omega) rfl rfl
        · by_cases hs3 : so.length ≤ 608
          · have hsl : so.length ≤ 1000000 := by omega
            by_cases hv : convE c = 0
            · obtain ⟨m, hm, m1, m2⟩ := cm_rng h3 hv
              by_cases hb : bsE bs = 0
              · obtain ⟨b1, b2⟩ := bs_ok hb
                obtain ⟨e1, e2⟩ := eb_ok hv hb
                have hel := enc_length (bs := bs) h3 hv
                by_cases hsf : sfE c so = 0
                · have em := me_len h3 hsl hv hb hsf
                  by_cases hl : (so.length : Int) = (enc c bs).length
                  · rw [if_pos hl] at em
                    refine fin hC H5_ok (f8p6 std c bs so) ?_ (by rw [es, em]; simp) rfl
                    rw [es]
                    simp only [hv, hb, hsf, e1, e2, em, hf]
                    simp [h3, b1, b2, hf, hl, hsl, hbl, hv, em]
                    omega
                  · rw [if_neg hl] at em
                    refine fin hC H5_ok (f8p5 std c bs so) ?_ (by rw [es, em]; simp) rfl
                    rw [es]
                    simp only [hv, hb, hsf, e1, e2, em, hf]
                    simp [h3, b1, b2, hf, hl, hsl, hbl, hv]
                    omega
                · have em := me_soft h3 hsl hv hb hsf
                  refine fin hC H5_ok (f8p7 std c bs so) ?_ (by rw [es, em]; simp [hsf]) rfl
                  rw [es]
                  simp only [hv, hb, e1, e2, em, hf]
                  simp [h3, b1, b2, hf, hsf, hsl, hbl, hv]
                  omega
              · obtain ⟨e1, e2⟩ := eb_bits hv hb
                have em := me_bits (so := so) hv hb
                refine fin hC H5_ok (f8p4 std c bs so) ?_ (by rw [es, em]; simp [hb]) rfl
                rw [es]
                simp only [hv, e1, e2, em, hf]
                simp [h3, hf, hb, hsl, hbl, hv]
                omega
            · obtain ⟨e1, e2⟩ := eb_conv (bs := bs) hv
              have em := me_conv (bs := bs) (so := so) hv
              refine fin hC H5_ok (f8p3 std c bs so) ?_ (by rw [es]; simp [hv]) rfl
              rw [es]
              simp only [e1, e2, em, hf]
              simp [h3, hf, hsl, hbl, hv]
              omega
          · exact fin hC H5_ok (f8p2 std c bs so) (by simp [hf, h3]; omega) rfl rfl
    · exact fin hC H5_ok (f8p0 std c bs so) (by simp [hf, h3]) rfl rfl
end Go.Proofs.Ytimmgjppippdiaa
