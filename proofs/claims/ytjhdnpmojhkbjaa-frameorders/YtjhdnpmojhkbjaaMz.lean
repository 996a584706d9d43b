/- FrameOrders: the law returns true. No condition. -/
import Derived.Test.YtjhdnpmojhkbjaaPX
namespace Go.Proofs.Ytjhdnpmojhkbjaa
set_option maxRecDepth 20000
theorem rules_ok2 {a b : Int} (h : rulesE a b = 0) : rulesB a b = true ∧ (4 ≤ a ∧ a ≤ 24) ∧ 1 ≤ b ∧ b ≤ 8 := by
  unfold rulesE at h
  by_cases hb : rulesB a b = true
  · refine ⟨hb, ?_⟩
    unfold rulesB at hb
    simp at hb
    omega
  · rw [if_neg hb] at h; cases h
theorem chan_same2 {b c : Int} (h1 : 1 ≤ b) (h2 : b ≤ 8) : chanW b c = chanE b c := by
  have : wr (b - 1) = b - 1 := by unfold wr; unfold IntKind.wrap; simp [IntKind.bits]; omega
  rw [chanW, chanE, this]
theorem each_same {a b : Int} (h : rulesB a b = true) : ∀ fs : List AV, eachW a b fs = eachE a b fs
  | [] => rfl
  | f :: fs => by
    unfold eachW eachE
    have : frW a b f = frE a b f := by unfold frW frE; exact frameW_eq h _ _ _ _
    rw [this, each_same h fs]
theorem open_eq {a b c : Int} (fs : List AV) (h : rulesE a b = 0) : openE a b c fs = if chanE b c = 0 then refE a b fs else chanE b c := by
  obtain ⟨h1, h2, h3, h4⟩ := rules_ok2 h
  unfold openE refE
  rw [each_same h1, chan_same2 h3 h4, h]
  by_cases hc : chanE b c = 0
  · by_cases hl : 40 < fs.length
    · have : ¬ (fs.length : Int) ≤ 40 := by omega
      simp [firstE, hc, hl, this, unlessE]
    · have : (fs.length : Int) ≤ 40 := by omega
      simp [firstE, hc, hl, this]
      by_cases he : eachE a b fs = 0 <;> simp [he]
  · simp [firstE, hc]
theorem open_bad {a b c : Int} (fs : List AV) (h : rulesE a b ≠ 0) : openE a b c fs = rulesE a b := by
  unfold openE
  simp [firstE, h]
theorem map_getD (l : List AV) (i : Nat) (hi : i < l.length) : (l.map keyN).getD i 0 = keyN (l.getD i .top) := by simp [hi]
theorem span_map {l : List AV} (h : l ≠ []) : spanK (l.map keyN) = spanN l := by
  have hp : 0 < l.length := List.length_pos_iff.mpr h
  unfold spanK spanN
  rw [if_neg (by omega), List.length_map, map_getD _ _ (by omega), map_getD _ _ (by omega)]
theorem miss_map (l : List AV) : missK (l.map keyN) = spanN l - (l.length : Int) := by
  unfold missK
  by_cases h : l = []
  · subst h; simp [spanN]
  · have hp : 0 < l.length := List.length_pos_iff.mpr h
    rw [List.length_map, if_neg (by omega), ← span_map h]
    unfold spanK
    rw [List.length_map]
theorem missB_ok {c : Int} {fs : List AV} (h : nmB fs = true) : missB c fs = true := by
  unfold missB
  have hl := ordL_len c fs
  have hr := ordL_rng (c := c) h
  have hn := (nm_of h).1
  rw [h, refN0_ord]
  simp only [Bool.true_and, decide_eq_true_eq, List.length_map]
  generalize ordL c fs = l at *
  by_cases h0 : l = []
  · subst h0; simp
  · have hp : 0 < l.length := List.length_pos_iff.mpr h0
    rw [map_getD _ _ (by omega), map_getD _ _ (by omega)]
    have g : ∀ i, i < l.length → l.getD i .top ∈ l := fun i hi => by
      rw [List.getD_eq_getElem?_getD, List.getElem?_eq_getElem hi]; exact List.getElem_mem _
    have r1 := hr _ (g (l.length - 1) (by omega))
    have r2 := hr _ (g 0 (by omega))
    omega
theorem lossB_ok {c : Int} {fs : List AV} (h : nmB fs = true) : lossB c fs = true := by
  unfold lossB
  have hs := span_ok (c := c) h
  have hl := ordL_len c fs
  have hn := (nm_of h).1
  rw [missB_ok h, Bool.true_and, refN0_ord]
  simp only [List.length_map]
  by_cases h0 : ordL c fs = []
  · rw [h0]; rfl
  · obtain ⟨q1, q2⟩ := str_span (ordL_str c fs) h0
    have b1 : bigB (spanN (ordL c fs) - ((ordL c fs).length : Int)) = true := decide_eq_true (by omega)
    have b2 : bigB (spanN (ordL c fs)) = true := decide_eq_true (by omega)
    rw [span_map h0, miss_map, b1, b2, decide_eq_true q2]
    simp
theorem ord_G {a b c : Int} {fs : List AV} (h : smallF fs = true) : lenG (ordO a b c fs) = true := by
  obtain ⟨h1, h2⟩ := small_of h
  have hl := ordL_len c fs
  rw [ordO_eq]
  unfold lenG
  rw [Bool.and_eq_true, decide_eq_true_eq, List.all_eq_true]
  split
  · refine ⟨by rw [List.length_map]; omega, fun f hf => decide_eq_true ?_⟩
    obtain ⟨x, hx, rfl⟩ := List.mem_map.1 hf
    exact numR0_data h2 x (ordL_mem hx)
  · exact ⟨by simp, by simp⟩
theorem orders_ok (a b c : Int) (fs : List AV) : Pure Try.prog 13 [.agg (.gen [.int .i64 a, .int .i64 b]), .int .i64 c, .list (.big shFr fs)] (.bool true) none :=
  start (f13e_at a b c fs) fun C hC => by
    by_cases hf : fewF fs = true
    · have hs := few_small hf
      have hlen := (small_of hs).1
      have errs : ∀ x, openE a b c fs = x → x ≠ 0 → ordO a b c fs = [] ∧ missO a b c fs = 0 ∧ lossE a b c fs = x ∧ lossP a b c fs lN = 0 ∧ lossP a b c fs lD = 0 := fun x hx h0 => by
        have e1 : lossE a b c fs = x := by unfold lossE; rw [hx, if_neg h0]
        refine ⟨by rw [ordO_eq, hx, if_neg h0], by unfold missO; rw [hx, if_neg h0], e1, by unfold lossP; rw [e1, if_neg h0], by unfold lossP; rw [e1, if_neg h0]⟩
      by_cases h1 : rulesE a b = 0
      · obtain ⟨q1, q2, q3, q4⟩ := rules_ok2 h1
        have ho := open_eq (c := c) fs h1
        have hb : -1000000 ≤ b ∧ b ≤ 1000000 := by omega
        have hfB : f20B a b fs = true := by
          unfold f20B medR
          simp only [Bool.and_eq_true, decide_eq_true_eq]
          omega
        by_cases h2 : chanE b c = 0
        · rw [if_pos h2] at ho
          by_cases h3 : refE a b fs = 0
          · rw [h3] at ho
            have hnm := open_nm ho
            have hlB := lossB_ok (c := c) hnm
            have hmB := missB_ok (c := c) hnm
            have hG := ord_G (a := a) (b := b) (c := c) hs
            have hO : ordO a b c fs = (ordL c fs).map valF := by rw [ordO_eq, if_pos ho]
            have hM : missO a b c fs = spanN (ordL c fs) - ((ordL c fs).length : Int) := by unfold missO; rw [if_pos ho]
            have hl := ordL_len c fs
            have hn := (nm_of hnm).1
            have hsp := span_ok (c := c) hnm
            by_cases h4 : ordL c fs = []
            · have e1 : lossE a b c fs = 12 := by unfold lossE; rw [if_pos ho, h4]; rfl
              have e2 : ∀ g, lossP a b c fs g = 0 := fun g => by unfold lossP; rw [e1]; rfl
              have hw := f13p4 std a b c fs
              rw [refN0_ord, h4] at hw
              refine fin hC BOn_ok hw ?_ ?_ rfl
              · rw [e1, e2, e2, ho, hG, hmB, hlB, hfB, hnm, hO, h4, hs, hf, h1, h2, h3]
                simp
                omega
              · rw [hM, h4]; simp [missK, spanN]
            · have hp : 0 < (ordL c fs).length := List.length_pos_iff.mpr h4
              have hp' : ¬ (ordL c fs).length = 0 := by omega
              have e1 : lossE a b c fs = 0 := by unfold lossE; rw [if_pos ho, if_neg hp']
              have e2 : ∀ g, lossP a b c fs g = g (spanN (ordL c fs) - ((ordL c fs).length : Int)) (spanN (ordL c fs)) := fun g => by unfold lossP; rw [if_pos e1]
              have hw := f13p3 std a b c fs
              have hk1 : lossN ((ordL c fs).map keyN) = lN (spanN (ordL c fs) - ((ordL c fs).length : Int)) (spanN (ordL c fs)) := by
                unfold lossN; rw [List.length_map, if_neg hp', miss_map, span_map h4]
              have hk2 : lossD ((ordL c fs).map keyN) = lD (spanN (ordL c fs) - ((ordL c fs).length : Int)) (spanN (ordL c fs)) := by
                unfold lossD; rw [List.length_map, if_neg hp', miss_map, span_map h4]
              have ei : (((ordL c fs).length : Int) - 1).toNat = (ordL c fs).length - 1 := by omega
              have hr := ordL_rng (c := c) hnm
              have g : ∀ i, i < (ordL c fs).length → (ordL c fs).getD i .top ∈ ordL c fs := fun i hi => by
                rw [List.getD_eq_getElem?_getD, List.getElem?_eq_getElem hi]; exact List.getElem_mem _
              have r1 := hr _ (g ((ordL c fs).length - 1) (by omega))
              have r2 := hr _ (g 0 (by omega))
              have hspe : spanN (ordL c fs) = keyN ((ordL c fs).getD ((ordL c fs).length - 1) .top) - keyN ((ordL c fs).getD 0 .top) + 1 := by unfold spanN; rw [if_neg hp']
              rw [refN0_ord] at hw
              simp only [s_nat, s_nth, s_sub, s_int, s_len, s_add, List.length_map, ei, show Int.toNat 0 = 0 from rfl, map_getD _ _ (show (ordL c fs).length - 1 < (ordL c fs).length by omega), map_getD _ _ hp] at hw
              refine fin hC BOn_ok hw ?_ ?_ rfl
              · rw [hk1, hk2, e1, e2, e2, ho, hG, hmB, hlB, hfB, hnm, hO, hM, hs, hf, h1, h2, h3]
                generalize keyN ((ordL c fs).getD ((ordL c fs).length - 1) .top) = u at *
                generalize keyN ((ordL c fs).getD 0 .top) = v at *
                generalize spanN (ordL c fs) = w at *
                simp [hp']
                omega
              · rw [hM, miss_map]; simp
          · obtain ⟨e1, e2, e3, e4, e5⟩ := errs _ ho h3
            refine fin hC BOn_ok (f13p1 std a b c fs) ?_ (by rw [e4, e5]; rfl) rfl
            rw [ho, e1, e2, e3, hfB, hs, hf, h1, h2]
            simp [h3, hb]
        · rw [if_neg h2] at ho
          obtain ⟨e1, e2, e3, e4, e5⟩ := errs _ ho h2
          refine fin hC BOn_ok (f13p6 std a b c fs) ?_ (by rw [e4, e5]; rfl) rfl
          rw [ho, e1, e2, e3, hs, hf, h1]
          simp [h2, hb]
      · have ho := open_bad (c := c) fs h1
        obtain ⟨e1, e2, e3, e4, e5⟩ := errs _ ho h1
        refine fin hC BOn_ok (f13p7 std a b c fs) ?_ (by rw [e4, e5]; rfl) rfl
        rw [ho, e1, e2, e3, hs, hf]
        simp [h1]
    · exact fin hC BOn_ok (f13p0 std a b c fs) (by simpa using hf) rfl rfl
end Go.Proofs.Ytjhdnpmojhkbjaa
