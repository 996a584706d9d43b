/- FrameExtracts: the law returns true. No condition. -/
import Derived.Test.YtjhdnpmojhkbjaaQc
namespace Go.Proofs.Ytjhdnpmojhkbjaa
set_option maxRecDepth 20000
theorem ZmP {a : Int} (ha : 4 ≤ a ∧ a ≤ 24) : ∀ (L : List AV) (st : Option (List Int)) (last : Int), okS st → (∀ x ∈ L, okX a x) → (Zic st last L).length ≤ 290 * L.length ∧ ∀ y ∈ Zic st last L, (pkT y).2.2.length ≤ 255
  | [], _, _, _, _ => ⟨by simp [Zic], by simp [Zic]⟩
  | x :: L, st, last, hs, hx => by
    have hxi := hx x (by simp)
    obtain ⟨h1, h2⟩ := Zjp (last := last) hs hxi ha
    obtain ⟨h3, h4⟩ := ZmP ha L (Zfg st last x) (Zah x) (ZlY hs hxi ha) (fun y hy => hx y (by simp [hy]))
    unfold Zic
    refine ⟨by rw [List.length_append, List.length_cons]; omega, fun y hy => ?_⟩
    rcases List.mem_append.1 hy with hy | hy
    · exact h2 y hy
    · exact h4 y hy
theorem ZrR {a b c : Int} {fs : List AV} (h0 : ZbO a b c fs = 0) : Zzm (exO a b c fs) = true := by
  obtain ⟨ha, hfr⟩ := Zlr h0
  have hlen := Zjy c fs
  have h40 := (ZhH h0).2.2.1
  obtain ⟨h1, h2⟩ := ZmP ha (ZfF c fs) none 0 trivial (ZoL hfr)
  unfold Zzm
  rw [Zpn, if_pos h0, Bool.and_eq_true, decide_eq_true_eq, List.all_eq_true]
  exact ⟨by omega, fun y hy => decide_eq_true (by have := h2 y hy; omega)⟩
theorem Zma (a b c : Int) (fs : List AV) : ZaI Try.prog 3 [.agg (.gen [.int .i64 a, .int .i64 b]), .int .i64 c, .list (.big ZgT fs)] (.bool true) none :=
  start (ZFe a b c fs) fun C hC => by
    by_cases hf : ZqF fs = true
    · have hs := ZpM hf
      have hlen := (ZmK hs).1
      have errs : ∀ x, ZbO a b c fs = x → x ≠ 0 → exO a b c fs = [] := fun x hx h0 => by rw [Zpn, hx, if_neg h0]
      by_cases h1 : ZaK a b = 0
      · obtain ⟨q1, q2, q3, q4⟩ := Zkf h1
        have ho := ZvW (c := c) fs h1
        have hb : -1000000 ≤ b ∧ b ≤ 1000000 := by omega
        have hfB : Zwb a b fs = true := by
          unfold Zwb ZHK
          simp only [Bool.and_eq_true, decide_eq_true_eq]
          omega
        by_cases h2 : ZbS b c = 0
        · rw [if_pos h2] at ho
          by_cases h3 : Zrb a b fs = 0
          · rw [h3] at ho
            have e1 : exO a b c fs = exR c fs := by rw [Zpn, if_pos ho, Zug]
            refine fin hC ZkZ (ZKV std a b c fs) ?_ (by rw [e1]; simp) rfl
            rw [ZrR ho, ho, hfB, hs, hf, h1, h2, h3]
            simp [hb]
          · have e1 := errs _ ho h3
            refine fin hC ZkZ (ZKN std a b c fs) ?_ (by rw [e1]; rfl) rfl
            rw [ho, hfB, hs, hf, h1, h2]
            simp [h3, hb]
        · rw [if_neg h2] at ho
          have e1 := errs _ ho h2
          refine fin hC ZkZ (ZLI std a b c fs) ?_ (by rw [e1]; rfl) rfl
          rw [ho, hs, hf, h1]
          simp [h2, hb]
      · have ho := Zr0 (c := c) fs h1
        have e1 := errs _ ho h1
        refine fin hC ZkZ (ZL3 std a b c fs) ?_ (by rw [e1]; rfl) rfl
        rw [ho, hs, hf]
        simp [h1]
    · exact fin hC ZkZ (ZMv std a b c fs) (by simpa using hf) rfl rfl
end Go.Proofs.Ytjhdnpmojhkbjaa
