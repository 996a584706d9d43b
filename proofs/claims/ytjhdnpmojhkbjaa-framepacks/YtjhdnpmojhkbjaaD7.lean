/- FramePacks: the law returns true. No condition. -/
import Derived.Test.YtjhdnpmojhkbjaaPN
namespace Go.Proofs.Ytjhdnpmojhkbjaa
set_option maxRecDepth 20000
theorem chan_same {b c : Int} (h1 : 1 ≤ b) (h2 : b ≤ 8) : chanW b c = chanE b c := by
  have : wr (b - 1) = b - 1 := by unfold wr; unfold IntKind.wrap; simp [IntKind.bits]; omega
  rw [chanW, chanE, this]
theorem packL_G {a c d : Int} {ps : List AV} (ha : 4 ≤ a ∧ a ≤ 24) (hf : fewB ps = true) : lenG (packL a c d ps) = true := by
  obtain ⟨N, K, rfl, h2, h3, h4, h5⟩ := fil_len ha hf
  have e1 : packL N c d ps = frmL c d N (bytesP (filP N ps)) (startsP 0 (filP N ps)) K := by rw [packL, h4]; rfl
  rw [e1, lenG, Bool.and_eq_true, decide_eq_true_eq, frmL_len, List.all_eq_true]
  refine ⟨by omega, fun f hf => ?_⟩
  rw [frmL, List.mem_map] at hf
  obtain ⟨i, _, rfl⟩ := hf
  refine decide_eq_true ?_
  show ((bytesP (filP N ps)).drop (i * N) |>.take N).length ≤ 1000000
  rw [List.length_take]; omega
theorem lpacks {C : Ctx} (hC : C.P = Try.prog) (a b c d : Int) (ps : List AV) (hf : fewB ps = true) (R : List AFrame → AHeap → Prop) (hend : Ev C (f5h5_0a a b c d ps ps.length) (f5h5_0am a b c d ps ps.length) R) : ∀ (t i : Nat), i + t = ps.length →
    Ev C (f5h5_0a a b c d ps i) (f5h5_0am a b c d ps i) R := by
  obtain ⟨hlen, hk⟩ := few_ok hf
  intro t
  induction t with
  | zero => intro i hi; have : i = ps.length := by omega
            subst this; exact hend
  | succ t ih =>
    intro i hi
    have hlt : i < ps.length := by omega
    have e1 : std.nthA ps (std.nat (i : Int)) = ps[i] := by simp [hlt]
    have g2 : (ps[i].cellAt 2).toIs = kD ps[i] := rfl
    have hk' := hk ps[i] (by simp)
    refine go hC BD6_ok (f5p2 std a b c d ps i) ?_ ?_
    · simp only [e1, g2]; simp [hlt]; omega
    · simpa using ih (i + 1) (by omega)
theorem packs_ok (a b c d : Int) (ps : List AV) : Pure Try.prog 5 [.agg (.gen [.int .i64 a, .int .i64 b]), .agg (.gen [.int .i64 c, .int .i64 d]), .list (.big (.agg [.int .i64, .int .i64, .ints .i64]) ps)] (.bool true) none :=
  start (f5e_at a b c d ps) fun C hC => by
    by_cases hf : fewB ps = true
    · have hlen := (few_ok hf).1
      refine go hC BD6_ok (f5p1 std a b c d ps) (by simp [hf]) (lpacks hC a b c d ps hf _ ?_ ps.length 0 (by omega))
      by_cases h1 : rulesE a b = 0
      · obtain ⟨q1, q2, q3, q4⟩ := rulesE_ok h1
        have hb : -1000000 ≤ b ∧ b ≤ 1000000 := by omega
        have ha : (4 ≤ a ∧ a ≤ 24) ∧ fewB ps = true := ⟨⟨q1, q2⟩, hf⟩
        have hcw := chan_same (c := c) q3 q4
        have hE : ∀ x, pkErr a b c d ps = x → x ≠ 0 → pkdE a b c d ps = x ∧ pkdL a b c d ps = [] := fun x h hx => by
          have e1 : pkdE a b c d ps = x := by rw [pkdE, h, if_neg hx]
          exact ⟨e1, by rw [pkdL, e1, if_neg hx]⟩
        have hffE : ffE a b ps = packE ps := by rw [ffE, errs2, if_pos h1]
        have hpk : pkErr a b c d ps = if chanE b c = 0 then (if 0 ≤ d ∧ d ≤ 63 then packE ps else 2) else chanE b c := by
          rw [pkErr, errs3, errs2, if_pos h1, hcw]
          by_cases h2 : chanE b c = 0
          · rw [if_pos h2, if_pos h2]
            by_cases h3 : 0 ≤ d ∧ d ≤ 63
            · rw [decide_eq_true h3, unlessE_t, if_pos rfl, if_pos h3]
            · rw [decide_eq_false h3, unlessE_f, if_neg (by omega), if_neg h3]
          · rw [if_neg h2, if_neg h2]
        by_cases h4 : packE ps = 0
        · have hffN : ffN a b ps = framesN a ps := by rw [ffN, hffE, if_pos h4]
          by_cases h2 : chanE b c = 0
          · rw [if_pos h2] at hpk
            by_cases h3 : 0 ≤ d ∧ d ≤ 63
            · rw [if_pos h3, h4] at hpk
              by_cases h5 : 40 < framesN a ps
              · have e1 : pkdE a b c d ps = 8 := by rw [pkdE, if_pos hpk, if_pos h5]
                have e2 : pkdL a b c d ps = [] := by rw [pkdL, e1]; rfl
                refine fin hC BD6_ok (f5p8 std a b c d ps _) ?_ (by rw [e2]; rfl) rfl
                simp only [hffE, hffN, h1, h4, h2, e1, decide_eq_true h3]; simp [hf, ha, hb, h5]
              · have e1 : pkdE a b c d ps = 0 := by rw [pkdE, if_pos hpk, if_neg h5]
                have e2 : pkdL a b c d ps = packL a c d ps := by rw [pkdL, if_pos e1]
                have hG := packL_G (c := c) (d := d) ha.1 hf
                have hg : (4 ≤ a ∧ a ≤ 24) ∧ (0 ≤ d ∧ d ≤ 63) ∧ fewB ps = true := ⟨ha.1, h3, hf⟩
                refine fin hC BD6_ok (f5p9 std a b c d ps _) ?_ (by rw [e2]; simp) rfl
                simp only [hffE, hffN, h1, h4, h2, e1, e2, decide_eq_true h3, decide_eq_true hg, hG]; simp [hf, ha, hb]; omega
            · rw [if_neg h3] at hpk
              obtain ⟨e1, e2⟩ := hE _ hpk (by omega)
              refine fin hC BD6_ok (f5p7 std a b c d ps _) ?_ (by rw [e2]; rfl) rfl
              simp only [hffE, hffN, h1, h4, h2, e1, decide_eq_false h3]; simp [hf, ha, hb]
          · rw [if_neg h2] at hpk
            obtain ⟨e1, e2⟩ := hE _ hpk h2
            refine fin hC BD6_ok (f5p10 std a b c d ps _) ?_ (by rw [e2]; rfl) rfl
            simp only [hffE, hffN, h1, h4, e1]; simp [hf, ha, hb, h2]
        · have hffN : ffN a b ps = 0 := by rw [ffN, hffE, if_neg h4]
          by_cases h2 : chanE b c = 0
          · rw [if_pos h2] at hpk
            by_cases h3 : 0 ≤ d ∧ d ≤ 63
            · rw [if_pos h3] at hpk
              obtain ⟨e1, e2⟩ := hE _ hpk h4
              refine fin hC BD6_ok (f5p5 std a b c d ps _) ?_ (by rw [e2]; rfl) rfl
              simp only [hffE, hffN, h1, h2, e1, decide_eq_true h3]; simp [hf, hb, h4]
            · rw [if_neg h3] at hpk
              obtain ⟨e1, e2⟩ := hE _ hpk (by omega)
              refine fin hC BD6_ok (f5p4 std a b c d ps _) ?_ (by rw [e2]; rfl) rfl
              simp only [hffE, hffN, h1, h2, e1, decide_eq_false h3]; simp [hf, hb, h4]
          · rw [if_neg h2] at hpk
            obtain ⟨e1, e2⟩ := hE _ hpk h2
            refine fin hC BD6_ok (f5p6 std a b c d ps _) ?_ (by rw [e2]; rfl) rfl
            simp only [hffE, hffN, h1, e1]; simp [hf, hb, h4, h2]
      · have e1 : ffE a b ps = rulesE a b := by rw [ffE, errs2, if_neg h1]
        have e2 : ffN a b ps = 0 := by rw [ffN, e1, if_neg h1]
        have e3 : pkErr a b c d ps = rulesE a b := by rw [pkErr, errs3, errs2, if_neg h1, if_neg h1]
        have e4 : pkdE a b c d ps = rulesE a b := by rw [pkdE, e3, if_neg h1]
        have e5 : pkdL a b c d ps = [] := by rw [pkdL, e4, if_neg h1]
        refine fin hC BD6_ok (f5p3 std a b c d ps _) ?_ (by rw [e5]; rfl) rfl
        simp only [e1, e2, e4]; simp [hf, h1]
    · exact fin hC BD6_ok (f5p0 std a b c d ps) (by simpa using hf) rfl rfl
end Go.Proofs.Ytjhdnpmojhkbjaa
