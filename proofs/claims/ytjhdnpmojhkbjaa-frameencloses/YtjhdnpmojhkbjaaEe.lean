/- FrameEncloses: the loop that makes the pairs, and the whole law. No condition. -/
import Derived.Test.YtjhdnpmojhkbjaaEd
namespace Go.Proofs.Ytjhdnpmojhkbjaa
set_option maxRecDepth 20000
theorem prs_step {C : Ctx} (hC : C.P = Try.prog) (a b : Int) (cs ws : List Int) (n g : Int) (ha : 1000 ≤ a ∧ a ≤ 1000000) (hb : 0 ≤ b ∧ b ≤ 100000) (hl : cs.length ≤ 10) (hw : ws.length = cs.length) (x1 : List AV) (i : Nat) (hi : i < cs.length) (hi0 : 0 < i) (hx : x1.length ≤ 1000) (hc : 0 ≤ cs[i] ∧ cs[i] ≤ 100000) (hasc : cs[i - 1]'(by omega) < cs[i]) (hww : 0 ≤ ws[i]'(by omega) ∧ ws[i]'(by omega) ≤ 1000) (R : List AFrame → AHeap → Prop)
    (h : Ev C (f8h8_0b a b cs ws n g ((i + 1 : Nat) : Int) (x1 ++ [.agg (.gen [.int .i64 cs[i], .int .i64 (floorI (100 * a + b * cs[i]) 100 - ws[i]'(by omega)), .int .i64 (ceilI (100 * a + b * cs[i]) 100 + ws[i]'(by omega))])])) (f8h8_0bm a b cs ws n g ((i + 1 : Nat) : Int) (x1 ++ [.agg (.gen [.int .i64 cs[i], .int .i64 (floorI (100 * a + b * cs[i]) 100 - ws[i]'(by omega)), .int .i64 (ceilI (100 * a + b * cs[i]) 100 + ws[i]'(by omega))])])) R) :
    Ev C (f8h8_0b a b cs ws n g i x1) (f8h8_0bm a b cs ws n g i x1) R := by
  have e1 : std.nth cs (std.nat (i : Int)) = cs[i] := by simp [hi]
  have e2 : std.nth ws (std.nat (i : Int)) = ws[i]'(by omega) := by simp [show i < ws.length by omega]
  have e3 : std.nth cs (std.nat (std.sub (i : Int) 1)) = cs[i - 1]'(by omega) := by
    have : std.nat (std.sub (i : Int) 1) = i - 1 := by simp <;> omega
    rw [this]; simp [show i - 1 < cs.length by omega]
  have hN := big_N ha hb hc
  generalize cs[i] = c at *
  generalize ws[i]'(by omega) = w at *
  generalize cs[i - 1]'(by omega) = c0 at *
  have c3 : ((0 : Int) < 100 ∧ bigB 100 = true) ∧ bigB (100 * a + b * c) = true := ⟨⟨by omega, rfl⟩, by simp only [bigB, decide_eq_true_eq]; omega⟩
  have c4 : ((0 : Int) < 100 ∧ bigB 100 = true) ∧ -4000000000000000000 ≤ 100 * a + b * c ∧ 100 * a + b * c ≤ 4000000000000000000 := ⟨⟨by omega, rfl⟩, by omega⟩
  refine go hC BEb_ok (f8p13 std a b cs ws n g i x1) ?_ ?_
  · simp only [e1, e2, e3, decide_eq_true hc, decide_eq_true hww]
    simp only [s_add, s_mul, decide_eq_true c3, decide_eq_true c4]
    simp [hi, AV.bx, flatLen, Row.len, show bigB 100 = true from rfl, c3.2]
    omega
  · simp only [e1, e2]; simpa using h
theorem encl_loop {C : Ctx} (hC : C.P = Try.prog) (a b : Int) (cs ws : List Int) (n g : Int) (ha : 1000 ≤ a ∧ a ≤ 1000000) (hb : 0 ≤ b ∧ b ≤ 100000) (hn : 0 ≤ n ∧ n ≤ 100000) (h3 : 3 ≤ cs.length) (hl : cs.length ≤ 10) (hw : ws.length = cs.length) : ∀ (t i : Nat) (x1 : List AV), i + t = cs.length → 0 < i → x1.length = i → (∀ p ∈ x1, Around a b p ∧ pC p ≤ cs.getD (i - 1) 0) → x1.Pairwise (fun p q => pC p < pC q) →
    Ev C (f8h8_0b a b cs ws n g i x1) (f8h8_0bm a b cs ws n g i x1) (FinQ 8 (.bool true) none) := by
  intro t
  induction t with
  | zero =>
    intro i x1 hi h0 hx hA hp
    have : i = cs.length := by omega
    subst this
    exact lencl hC a b cs ws n g x1 ha hb hn (by omega) (by omega) hx.symm (fun p hp => (hA p hp).1) hp
  | succ t ih =>
    intro i x1 hi h0 hx hA hp
    have hlt : i < cs.length := by omega
    have e1 : std.nth cs (std.nat (i : Int)) = cs[i] := by simp [hlt]
    have e2 : std.nth ws (std.nat (i : Int)) = ws[i]'(by omega) := by simp [show i < ws.length by omega]
    have e3 : std.nth cs (std.nat (std.sub (i : Int) 1)) = cs[i - 1]'(by omega) := by
      have : std.nat (std.sub (i : Int) 1) = i - 1 := by simp <;> omega
      rw [this]; simp [show i - 1 < cs.length by omega]
    have e4 : cs.getD (i - 1) 0 = cs[i - 1]'(by omega) := by simp [show i - 1 < cs.length by omega]
    by_cases hc : 0 ≤ cs[i] ∧ cs[i] ≤ 100000
    · by_cases hasc : cs[i - 1]'(by omega) < cs[i]
      · by_cases hww : 0 ≤ ws[i]'(by omega) ∧ ws[i]'(by omega) ≤ 1000
        · refine prs_step hC a b cs ws n g ha hb hl hw x1 i hlt h0 (by omega) hc hasc hww _ (ih (i + 1) _ (by omega) (by omega) (by simp [hx]) ?_ ?_)
          · intro p hpm
            have e5 : cs.getD (i + 1 - 1) 0 = cs[i] := by simp [hlt]
            rw [e5]
            rcases List.mem_append.1 hpm with hpm | hpm
            · have := hA p hpm; rw [e4] at this; exact ⟨this.1, by omega⟩
            · rw [List.mem_singleton] at hpm; subst hpm
              exact ⟨around_mk ha hb hc hww, Int.le_refl _⟩
          · rw [List.pairwise_append]
            refine ⟨hp, by simp, fun p hpm q hq => ?_⟩
            rw [List.mem_singleton] at hq; subst hq
            have := (hA p hpm).2
            rw [e4] at this
            show pC p < cs[i]
            omega
        · refine fin hC BEb_ok (f8p12 std a b cs ws n g i x1) ?_ rfl rfl
          simp only [e1, e2, e3, decide_eq_true hc, decide_eq_false hww]; simp [hlt]; omega
      · refine fin hC BEb_ok (f8p11 std a b cs ws n g i x1) ?_ rfl rfl
        simp only [e1, e3, decide_eq_true hc]; simp [hlt]; omega
    · refine fin hC BEb_ok (f8p10 std a b cs ws n g i x1) ?_ rfl rfl
      simp only [e1, decide_eq_false hc]; simp [hlt]
theorem encl_ok (a b : Int) (cs ws : List Int) (n g : Int) : Pure Try.prog 8 [.agg (.gen [.int .i64 a, .int .i64 b, .list (.ints .i64 cs), .list (.ints .i64 ws)]), .int .i64 n, .int .i64 g] (.bool true) none :=
  start (f8e_at a b cs ws n g) fun C hC => by
    by_cases h3 : cs.length < 3
    · exact fin hC BEb_ok (f8p0 std a b cs ws n g) (by simp; omega) rfl rfl
    · by_cases h10 : 10 < cs.length
      · exact fin hC BEb_ok (f8p1 std a b cs ws n g) (by simp; omega) rfl rfl
      · by_cases hw : ws.length = cs.length
        · by_cases ha : 1000 ≤ a ∧ a ≤ 1000000
          · by_cases hb : 0 ≤ b ∧ b ≤ 100000
            · by_cases hn : 0 ≤ n ∧ n ≤ 100000
              · refine go hC BEb_ok (f8p6 std a b cs ws n g) (by simp only [decide_eq_true ha, decide_eq_true hb, decide_eq_true hn]; simp [hw]; omega) ?_
                have hlt : 0 < cs.length := by omega
                have e1 : std.nth cs (std.nat 0) = cs[0] := by simp [hlt]
                have e2 : std.nth ws (std.nat 0) = ws[0]'(by omega) := by simp [show 0 < ws.length by omega]
                by_cases hc : 0 ≤ cs[0] ∧ cs[0] ≤ 100000
                · by_cases hww : 0 ≤ ws[0]'(by omega) ∧ ws[0]'(by omega) ≤ 1000
                  · have hN := big_N ha hb hc
                    have L := encl_loop hC a b cs ws n g ha hb hn (by omega) (by omega) hw (cs.length - 1) 1 [.agg (.gen [.int .i64 cs[0], .int .i64 (floorI (100 * a + b * cs[0]) 100 - ws[0]'(by omega)), .int .i64 (ceilI (100 * a + b * cs[0]) 100 + ws[0]'(by omega))])] (by omega) (by omega) rfl (fun p hp => by
                      rw [List.mem_singleton] at hp; subst hp
                      exact ⟨around_mk ha hb hc hww, by simp [hlt]; exact Int.le_refl _⟩) (by simp)
                    generalize cs[0] = c at *
                    generalize ws[0]'(by omega) = w at *
                    have c3 : ((0 : Int) < 100 ∧ bigB 100 = true) ∧ bigB (100 * a + b * c) = true := ⟨⟨by omega, rfl⟩, by simp only [bigB, decide_eq_true_eq]; omega⟩
                    have c4 : ((0 : Int) < 100 ∧ bigB 100 = true) ∧ -4000000000000000000 ≤ 100 * a + b * c ∧ 100 * a + b * c ≤ 4000000000000000000 := ⟨⟨by omega, rfl⟩, by omega⟩
                    refine go hC BEb_ok (f8p9 std a b cs ws n g) ?_ ?_
                    · simp only [e1, e2, decide_eq_true hc, decide_eq_true hww]
                      simp only [s_add, s_mul, decide_eq_true c3, decide_eq_true c4]
                      simp [hlt, AV.bx, flatLen, Row.len, show bigB 100 = true from rfl, c3.2]
                      omega
                    · simp only [e1, e2]; simpa using L
                  · refine fin hC BEb_ok (f8p8 std a b cs ws n g) ?_ rfl rfl
                    simp only [e1, e2, decide_eq_true hc, decide_eq_false hww]; simp [hlt]; omega
                · refine fin hC BEb_ok (f8p7 std a b cs ws n g) ?_ rfl rfl
                  simp only [e1, decide_eq_false hc]; simp [hlt]; omega
              · exact fin hC BEb_ok (f8p5 std a b cs ws n g) (by simp only [decide_eq_true ha, decide_eq_true hb, decide_eq_false hn]; simp [hw]; omega) rfl rfl
            · exact fin hC BEb_ok (f8p4 std a b cs ws n g) (by simp only [decide_eq_true ha, decide_eq_false hb]; simp [hw]; omega) rfl rfl
          · exact fin hC BEb_ok (f8p3 std a b cs ws n g) (by simp only [decide_eq_false ha]; simp [hw]; omega) rfl rfl
        · exact fin hC BEb_ok (f8p2 std a b cs ws n g) (by simp [hw]; omega) rfl rfl
end Go.Proofs.Ytjhdnpmojhkbjaa
