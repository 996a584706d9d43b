/- Contracts as a list. No condition. -/
import Derived.Test.YtjhdnpmojhkbjaaP3
namespace Go.Proofs.Ytjhdnpmojhkbjaa
def okF (hi n f : Int) : Bool := decide ((0 ≤ n ∧ n ≤ 63) ∧ (0 ≤ f ∧ f ≤ hi ∨ f = 255))
def frameW (a b c n f : Int) (ds : List Int) : Int := firstE [chanW b c, unlessE (okF (wr (a - 1)) n f) 2, unlessE (decide ((ds.length : Int) = a)) 10, bytesE ds]
def frameE (a b c n f : Int) (ds : List Int) : Int := firstE [chanE b c, unlessE (okF (a - 1) n f) 2, unlessE (decide ((ds.length : Int) = a)) 10, bytesE ds]
theorem frameW_eq {a b : Int} (h : rulesB a b = true) (c n f : Int) (ds : List Int) : frameW a b c n f ds = frameE a b c n f ds := by
  simp only [rulesB, decide_eq_true_eq] at h
  unfold frameW frameE chanW chanE
  rw [wr_id (n := b - 1) (by omega), wr_id (n := a - 1) (by omega)]
theorem okF_f (hi n f : Int) (h : ¬ (0 ≤ n ∧ n ≤ 63)) : okF hi n f = false := by simp [okF]; omega
theorem okF_t (hi n f : Int) (h : 0 ≤ n ∧ n ≤ 63) (h2 : 0 ≤ f ∧ f ≤ hi) : okF hi n f = true := by simp [okF]; omega
theorem okF_o (hi n f : Int) (h : 0 ≤ n ∧ n ≤ 63) (h2 : ¬ (0 ≤ f ∧ f ≤ hi)) : okF hi n f = decide (f = 255) := by
  by_cases h3 : f = 255
  · simp [okF, h3, h]
  · simp [okF, h3]; omega
theorem frame110_ok (a b c n f : Int) (ds : List Int) (h : ds.length ≤ 1000000) : Pure Try.prog 110 [.agg (.gen [.int .i64 a, .int .i64 b]), .agg (.gen [.int .i64 c, .int .i64 n, .int .i64 f, .list (.ints .i64 ds)])] (.int .i64 (frameW a b c n f ds)) none :=
  start (f110e_at a b c n f ds) fun C hC => by
    by_cases h1 : 0 ≤ n ∧ n ≤ 63
    · by_cases h2 : 0 ≤ f ∧ f ≤ wr (a - 1)
      · have h2' : decide (0 ≤ f ∧ f ≤ Go.IntKind.wrap .i64 (std.sub a 1)) = true := decide_eq_true h2
        exact fin hC B2_ok (f110p0 std a b c n f ds) (by simp only [h2']; simp [h1, h, AV.bx, flatLen]) (by rw [frameW, okF_t _ _ _ h1 h2]; rfl) rfl
      · have h2' : decide (0 ≤ f ∧ f ≤ Go.IntKind.wrap .i64 (std.sub a 1)) = false := decide_eq_false h2
        exact fin hC B2_ok (f110p1 std a b c n f ds) (by simp only [h2']; simp [h1, h, AV.bx, flatLen]) (by rw [frameW, okF_o _ _ _ h1 h2]; rfl) rfl
    · have h1' : decide (0 ≤ n ∧ n ≤ 63) = false := decide_eq_false h1
      exact fin hC B2_ok (f110p2 std a b c n f ds) (by simp only [h1']; simp [h, AV.bx, flatLen]) (by rw [frameW, okF_f _ _ _ h1]; rfl) rfl
theorem firstE4 (x y z u : Int) : firstE [x, y, z, u] = if x = 0 then (if y = 0 then (if z = 0 then u else z) else y) else x := by
  simp only [firstE]
  by_cases hu : u = 0 <;> simp [hu]
theorem frame64_ok (a b c n f : Int) (ds : List Int) (h : (-1000000 ≤ a ∧ a ≤ 1000000) ∧ (-1000000 ≤ b ∧ b ≤ 1000000)) : Pure Try.prog 64 [.agg (.gen [.int .i64 a, .int .i64 b]), .agg (.gen [.int .i64 c, .int .i64 n, .int .i64 f, .list (.ints .i64 ds)])] (.int .i64 (frameE a b c n f ds)) none :=
  start (f64e_at a b c n f ds) fun C hC => by
    obtain ⟨ha, hb⟩ := h
    rw [frameE, firstE4]
    by_cases h0 : chanE b c = 0
    · rw [if_pos h0]
      by_cases h1 : 0 ≤ n ∧ n ≤ 63
      · by_cases h2 : 0 ≤ f ∧ f ≤ a - 1
        · rw [okF_t _ _ _ h1 h2, unlessE_t, if_pos rfl]
          by_cases h3 : (ds.length : Int) = a
          · exact fin hC B2_ok (f64p6 std a b c n f ds) (by simp [h0, h1, h2.1, h2.2, h3]; omega) (by simp [h3]) rfl
          · exact fin hC B2_ok (f64p5 std a b c n f ds) (by simp [h0, h1, h2.1, h2.2, h3]; omega) (by simp [h3]) rfl
        · have h2' : decide (0 ≤ f ∧ f ≤ std.sub a 1) = false := decide_eq_false h2
          rw [okF_o _ _ _ h1 h2]
          by_cases h4 : f = 255
          · rw [decide_eq_true h4, unlessE_t, if_pos rfl]
            by_cases h3 : (ds.length : Int) = a
            · exact fin hC B2_ok (f64p4 std a b c n f ds) (by simp only [h2']; simp [h0, h1, h3, h4]; omega) (by simp [h3]) rfl
            · exact fin hC B2_ok (f64p3 std a b c n f ds) (by simp only [h2']; simp [h0, h1, h3, h4]; omega) (by simp [h3]) rfl
          · rw [decide_eq_false h4]
            exact fin hC B2_ok (f64p2 std a b c n f ds) (by simp only [h2']; simp [h0, h1, h4]; omega) (by simp) rfl
      · have h1' : decide (0 ≤ n ∧ n ≤ 63) = false := decide_eq_false h1
        rw [okF_f _ _ _ h1]
        exact fin hC B2_ok (f64p1 std a b c n f ds) (by simp only [h1']; simp [h0]; omega) (by simp) rfl
    · rw [if_neg h0]
      exact fin hC B2_ok (f64p0 std a b c n f ds) (by simp [h0]; omega) rfl rfl
def k110 : Ctr := ⟨110, 0, fun _ a => match a with | [.agg (.gen [.int .i64 a, .int .i64 b]), .agg (.gen [.int .i64 c, .int .i64 n, .int .i64 f, .list (.ints .i64 ds)])] => some (decide (ds.length ≤ 1000000), .int .i64 (frameW a b c n f ds), none) | _ => none⟩
theorem k110_ok : k110.OK Try.prog := fun pa args r fr h => by
  simp only [k110] at h
  split at h
  · simp only [Option.some.injEq, Prod.mk.injEq, decide_eq_true_eq] at h
    obtain ⟨h0, rfl, rfl⟩ := h
    exact frame110_ok _ _ _ _ _ _ h0
  · cases h
def k64 : Ctr := ⟨64, 0, fun _ a => match a with | [.agg (.gen [.int .i64 a, .int .i64 b]), .agg (.gen [.int .i64 c, .int .i64 n, .int .i64 f, .list (.ints .i64 ds)])] => some (decide ((-1000000 ≤ a ∧ a ≤ 1000000) ∧ (-1000000 ≤ b ∧ b ≤ 1000000)), .int .i64 (frameE a b c n f ds), none) | _ => none⟩
theorem k64_ok : k64.OK Try.prog := fun pa args r fr h => by
  simp only [k64] at h
  split at h
  · simp only [Option.some.injEq, Prod.mk.injEq, decide_eq_true_eq] at h
    obtain ⟨h0, rfl, rfl⟩ := h
    exact frame64_ok _ _ _ _ _ _ h0
  · cases h
def B3 : List Ctr := [k110, k64] ++ B2
theorem B3_ok : CtrsOK Try.prog B3 := ⟨k110_ok, ⟨k64_ok, B2_ok⟩⟩
end Go.Proofs.Ytjhdnpmojhkbjaa
