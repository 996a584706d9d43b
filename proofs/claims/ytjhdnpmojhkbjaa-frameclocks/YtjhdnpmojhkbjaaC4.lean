/- Contracts as a list. No condition. -/
import Derived.Test.YtjhdnpmojhkbjaaPD
namespace Go.Proofs.Ytjhdnpmojhkbjaa
/-! ### Rates of lines, the reference -/
theorem cmp_pos (n d m k : Int) : decide (0 < cmpI n d m k) = ltF m k n d := by
  unfold cmpI ltF
  by_cases h1 : n * k < m * d
  · rw [if_pos h1, decide_eq_false (show ¬ m * d < n * k by omega)]; rfl
  · rw [if_neg h1]
    by_cases h2 : m * d < n * k
    · rw [if_pos h2, decide_eq_true h2]; rfl
    · rw [if_neg h2, decide_eq_false h2]; rfl
theorem cmp_neg (n d m k : Int) : decide (cmpI n d m k < 0) = ltF n d m k := by
  unfold cmpI ltF
  by_cases h1 : n * k < m * d
  · rw [if_pos h1, decide_eq_true h1]; rfl
  · rw [if_neg h1, decide_eq_false h1]
    by_cases h2 : m * d < n * k
    · rw [if_pos h2]; rfl
    · rw [if_neg h2]; rfl
theorem med_n {a : Int} (ha : -1000000000000 ≤ a ∧ a ≤ 1000000000000) : medB a = true := by
  simp only [medB, decide_eq_true_eq]; omega
theorem med_d {a : Int} (ha : 0 < a ∧ a ≤ 1000000) : medB a = true := by
  simp only [medB, decide_eq_true_eq]; omega
theorem l47i {C : Ctx} (hC : C.P = Try.prog) (ps : List AV) (hl : ps.length ≤ 1000000) (R : AV) (i : Nat) (hi : i < ps.length) (hx : ∀ p ∈ ps.take i, okQ (ps.getD i (.int .i64 0)) p) : ∀ (d k : Nat) (s : R4), i - k = d → k ≤ i → sR s →
    (∀ t, sR t → t = rinP (ps.getD i (.int .i64 0)) s ((ps.take i).drop k) → Ev C (f47h47_0b ps t.1 t.2.1 t.2.2.1 t.2.2.2 ((i + 1 : Nat) : Int)) (f47h47_0bm ps t.1 t.2.1 t.2.2.1 t.2.2.2 ((i + 1 : Nat) : Int)) (FinQ 47 R none)) →
    Ev C (f47h47_1b ps k s.1 s.2.1 s.2.2.1 s.2.2.2 i) (f47h47_1bm ps k s.1 s.2.1 s.2.2.1 s.2.2.2 i) (FinQ 47 R none) := by
  intro d
  have hlen : (ps.take i).length = i := by rw [List.length_take]; omega
  induction d with
  | zero =>
    intro k s hd hk hs next
    have hk : k = i := by omega
    refine go hC BC3_ok (f47p14 std ps k s.1 s.2.1 s.2.2.1 s.2.2.2 i) (by simp; omega) ?_
    have := next s hs (by rw [List.drop_of_length_le (by omega)]; rfl)
    simpa using this
  | succ d ih =>
    intro k s hd hk hs next
    have hlt : k < i := by omega
    have hk2 : k < ps.length := by omega
    have hlt' : k < (ps.take i).length := by omega
    have e1 : std.nthA ps (std.nat (k : Int)) = (ps.take i)[k] := by simp [hk2]
    have e2 : std.nthA ps (std.nat (i : Int)) = ps.getD i (.int .i64 0) := by simp [hi]
    have hq := hx (ps.take i)[k] (by exact List.getElem_mem hlt')
    generalize hQ : ps.getD i (.int .i64 0) = q at *
    have hn := rnew_sR hq
    rw [List.drop_eq_getElem_cons hlt', rinP] at next
    generalize hP : (ps.take i)[k] = p at *
    have ih' := ih (k + 1) (rmrg s (rnew q p)) (by omega) (by omega) (rmrg_sR hs hn) next
    have g1 : (p.cellAt 0).toI = pC p := rfl
    have g2 : (p.cellAt 1).toI = pL p := rfl
    have g3 : (p.cellAt 2).toI = pH p := rfl
    have g4 : (q.cellAt 0).toI = pC q := rfl
    have g5 : (q.cellAt 1).toI = pL q := rfl
    have g6 : (q.cellAt 2).toI = pH q := rfl
    have m1 := med_n hs.1.1
    have m2 := med_d hs.1.2
    have m3 := med_n hs.2.1
    have m4 := med_d hs.2.2
    have m5 := med_n hn.1.1
    have m6 := med_d hn.1.2
    have m7 := med_n hn.2.1
    have m8 := med_d hn.2.2
    have d1 := hn.1.2.1
    have d2 := hn.2.2.1
    have d3 := hs.1.2.1
    have d4 := hs.2.2.1
    have d5 : s.2.1 ≠ 0 := by omega
    have d6 : s.2.2.2 ≠ 0 := by omega
    obtain ⟨⟨q1, q2⟩, q3, q4⟩ := hq
    have q5 : bigB (pL q - pH p) = true := by simp only [bigB, decide_eq_true_eq]; omega
    have q6 : bigB (pH q - pL p) = true := by simp only [bigB, decide_eq_true_eq]; omega
    have q7 : bigB (pC q - pC p) = true := by simp only [bigB, decide_eq_true_eq]; omega
    have key : ∀ t, rmrg s (rnew q p) = t → Ev C (f47h47_1b ps ((k + 1 : Nat) : Int) t.1 t.2.1 t.2.2.1 t.2.2.2 i) (f47h47_1bm ps ((k + 1 : Nat) : Int) t.1 t.2.1 t.2.2.1 t.2.2.2 i) (FinQ 47 R none) := fun t ht => ht ▸ ih'
    have e5 : std.add (k : Int) 1 = ((k + 1 : Nat) : Int) := by simp
    by_cases h1 : ltF s.1 s.2.1 (rnew q p).1 (rnew q p).2.1 = true
    · by_cases h2 : ltF (rnew q p).2.2.1 (rnew q p).2.2.2 s.2.2.1 s.2.2.2 = true
      · have kk := key (rnew q p) (by rw [rmrg, if_pos h1, if_pos h2])
        simp only [rnew] at h1 h2 kk m5 m6 m7 m8 d1 d2
        refine go hC BC3_ok (f47p9 std ps k s.1 s.2.1 s.2.2.1 s.2.2.2 i) ?_ ?_
        · simp only [e1, e2, g1, g2, g3, g4, g5, g6, s_sub, s_lt, cmp_pos, cmp_neg, h1, h2, m1, m2, m3, m4, m5, m6, m7, m8, d1, d2, d3, d4, q5, q6, q7]; simp [hlt, hi, hk2, d5, d6]; omega
        · simp only [e1, e2, g1, g2, g3, g4, g5, g6, s_sub, e5]; exact kk
      · have kk := key (((rnew q p).1, (rnew q p).2.1, s.2.2.1, s.2.2.2)) (by rw [rmrg, if_pos h1, if_neg h2])
        simp only [rnew] at h1 h2 kk m5 m6 m7 m8 d1 d2
        refine go hC BC3_ok (f47p10 std ps k s.1 s.2.1 s.2.2.1 s.2.2.2 i) ?_ ?_
        · simp only [e1, e2, g1, g2, g3, g4, g5, g6, s_sub, s_lt, cmp_pos, cmp_neg, h1, h2, m1, m2, m3, m4, m5, m6, m7, m8, d1, d2, d3, d4, q5, q6, q7]; simp [hlt, hi, hk2, d5, d6]; omega
        · simp only [e1, e2, g1, g3, g4, g5, s_sub, e5]; exact kk
    · by_cases h2 : ltF (rnew q p).2.2.1 (rnew q p).2.2.2 s.2.2.1 s.2.2.2 = true
      · have kk := key ((s.1, s.2.1, (rnew q p).2.2.1, (rnew q p).2.2.2)) (by rw [rmrg, if_neg h1, if_pos h2])
        simp only [rnew] at h1 h2 kk m5 m6 m7 m8 d1 d2
        refine go hC BC3_ok (f47p12 std ps k s.1 s.2.1 s.2.2.1 s.2.2.2 i) ?_ ?_
        · simp only [e1, e2, g1, g2, g3, g4, g5, g6, s_sub, s_lt, cmp_pos, cmp_neg, h1, h2, m1, m2, m3, m4, m5, m6, m7, m8, d1, d2, d3, d4, q5, q6, q7]; simp [hlt, hi, hk2, d5, d6]; omega
        · simp only [e1, e2, g1, g2, g4, g6, s_sub, e5]; exact kk
      · have kk := key s (by rw [rmrg, if_neg h1, if_neg h2])
        simp only [rnew] at h1 h2 kk m5 m6 m7 m8 d1 d2
        refine go hC BC3_ok (f47p13 std ps k s.1 s.2.1 s.2.2.1 s.2.2.2 i) ?_ ?_
        · simp only [e1, e2, g1, g2, g3, g4, g5, g6, s_sub, s_lt, cmp_pos, cmp_neg, h1, h2, m1, m2, m3, m4, m5, m6, m7, m8, d1, d2, d3, d4, q5, q6, q7]; simp [hlt, hi, hk2, d5, d6]; omega
        · simp only [e5]; exact kk
def lineR (r : R4) : Bool := !ltF r.2.2.1 r.2.2.2 r.1 r.2.1
theorem l47o {C : Ctx} (hC : C.P = Try.prog) (ps : List AV) (hl : ps.length ≤ 1000000) (r : R4) (hg : ∀ i k, i < ps.length → k < i → okQ (ps.getD i (.int .i64 0)) (ps.getD k (.int .i64 0))) : ∀ (d i : Nat) (s : R4), i + d = ps.length → sR s → rgoP ps d i s = r →
    Ev C (f47h47_0b ps s.1 s.2.1 s.2.2.1 s.2.2.2 i) (f47h47_0bm ps s.1 s.2.1 s.2.2.1 s.2.2.2 i) (FinQ 47 (.tup [.agg (.gen [.int .i64 r.1, .int .i64 r.2.1, .int .i64 r.2.2.1, .int .i64 r.2.2.2]), .bool (lineR r)]) none) := by
  intro d
  induction d with
  | zero =>
    intro i s hi hs hr
    rw [rgoP] at hr
    subst hr
    have m1 := med_n hs.1.1
    have m2 := med_d hs.1.2
    have m3 := med_n hs.2.1
    have m4 := med_d hs.2.2
    have d3 := hs.1.2.1
    have d4 := hs.2.2.1
    refine fin hC BC3_ok (f47p16 std ps s.1 s.2.1 s.2.2.1 s.2.2.2 i) (by simp [m1, m2, m3, m4, d3, d4]; omega) ?_ rfl
    have : std.le (cmpI s.1 s.2.1 s.2.2.1 s.2.2.2) 0 = lineR s := by
      rw [lineR, ← cmp_pos]
      by_cases h : cmpI s.1 s.2.1 s.2.2.1 s.2.2.2 ≤ 0
      · simp [h]; try omega
      · simp [h]; try omega
    rw [this]
  | succ d ih =>
    intro i s hi hs hr
    have hlt : i < ps.length := by omega
    rw [rgoP] at hr
    refine go hC BC3_ok (f47p15 std ps s.1 s.2.1 s.2.2.1 s.2.2.2 i) (by simp; omega) ?_
    refine l47i hC ps hl _ i hlt (rtake hg hlt) _ 0 s rfl (by omega) hs fun t ht he => ?_
    exact ih (i + 1) t (by omega) ht (by rw [he]; exact hr)
theorem rates47_ok (ps : List AV) (h : goodB ps = true) : Pure Try.prog 47 [.list (.big (.agg [.int .i64, .int .i64, .int .i64]) ps)] (.tup [.agg (.gen [.int .i64 (rateP ps).1, .int .i64 (rateP ps).2.1, .int .i64 (rateP ps).2.2.1, .int .i64 (rateP ps).2.2.2]), .bool (lineR (rateP ps))]) none :=
  start (f47e_at ps) fun C hC => by
    obtain ⟨⟨h2, hl⟩, hg⟩ := good_ok h
    have hok := hg 1 0 (by omega) (by omega)
    refine go hC BC3_ok (f47p0 std ps) (by simp) ?_
    refine go hC BC3_ok (f47p1 std ps 0) (by simp; omega) ?_
    refine go hC BC3_ok (f47p4 std ps 0) (by simp) ?_
    refine go hC BC3_ok (f47p1 std ps _) (by simp; omega) ?_
    have e1 : std.nthA ps (std.nat (std.add 0 1)) = ps.getD 1 (.int .i64 0) := by simp [show 1 < ps.length by omega]
    have e5 : std.nthA ps (std.nat 0) = ps.getD 0 (.int .i64 0) := by simp [show 0 < ps.length by omega]
    generalize hq : ps.getD 1 (.int .i64 0) = q at *
    generalize hp : ps.getD 0 (.int .i64 0) = p at *
    have g0 : (q.cellAt 0).toI = pC q := rfl
    have g1 : (q.cellAt 1).toI = pL q := rfl
    have g2 : (q.cellAt 2).toI = pH q := rfl
    have g3 : (p.cellAt 0).toI = pC p := rfl
    have g4 : (p.cellAt 1).toI = pL p := rfl
    have g5 : (p.cellAt 2).toI = pH p := rfl
    have hn := rnew_sR hok
    obtain ⟨⟨q1, q2⟩, q3, q4⟩ := hok
    have q5 : bigB (pL q - pH p) = true := by simp only [bigB, decide_eq_true_eq]; omega
    have q6 : bigB (pH q - pL p) = true := by simp only [bigB, decide_eq_true_eq]; omega
    have q7 : bigB (pC q - pC p) = true := by simp only [bigB, decide_eq_true_eq]; omega
    refine go hC BC3_ok (f47p3 std ps _) ?_ ?_
    · simp only [e1, e5, g0, g1, g2, g3, g4, g5, s_sub, q5, q6, q7]; simp; omega
    · simp only [e1, e5, g0, g1, g2, g3, g4, g5, s_sub]
      have next : ∀ t, sR t → t = rinP (ps.getD 1 (.int .i64 0)) (rnew q p) ((ps.take 1).drop 1) → Ev C (f47h47_0b ps t.1 t.2.1 t.2.2.1 t.2.2.2 ((1 + 1 : Nat) : Int)) (f47h47_0bm ps t.1 t.2.1 t.2.2.1 t.2.2.2 ((1 + 1 : Nat) : Int)) (FinQ 47 (.tup [.agg (.gen [.int .i64 (rateP ps).1, .int .i64 (rateP ps).2.1, .int .i64 (rateP ps).2.2.1, .int .i64 (rateP ps).2.2.2]), .bool (lineR (rateP ps))]) none) := by
        intro t ht he
        rw [List.drop_of_length_le (by rw [List.length_take]; omega)] at he
        exact l47o hC ps hl (rateP ps) hg (ps.length - 2) 2 t (by omega) ht (by rw [rateP, hq, hp, he]; rfl)
      have := l47i hC ps hl _ 1 (by omega) (rtake hg (by omega)) 0 1 (rnew q p) rfl (by omega) hn next
      simpa [rnew] using this
def lineS (ps : List AV) : Bool := lineR (rateP ps)
def lineB (ps : List AV) : Bool := decide (ps.length < 2) || lineR (rateP ps)
def lineG (ps : List AV) : Bool := decide (ps.length < 2) || goodB ps
theorem line107_ok (ps : List AV) (h : lineG ps = true) : Pure Try.prog 107 [.list (.big (.agg [.int .i64, .int .i64, .int .i64]) ps)] (.bool (lineB ps)) none :=
  start (f107e_at ps) fun C hC => by
    by_cases h2 : ps.length < 2
    · exact fin hC BC3_ok (f107p0 std ps) (by simp; omega) (by simp [lineB, h2]) rfl
    · have hg : goodB ps = true := by simpa [lineG, h2] using h
      have hs := rateP_sR hg
      have hp := prodR hs.2.1 hs.2.2 hs.1.1 hs.1.2
      exact fin hC BC3_ok (f107p1 std ps) (by simp [hg, hp]; omega) (by simp [lineB, h2, lineR]) rfl
def k47 : Ctr := ⟨47, 0, fun _ a => match a with | [.list (.big (.agg [.int .i64, .int .i64, .int .i64]) ps)] => some (decide (goodB ps = true), .tup [.agg (.gen [.int .i64 (rateP ps).1, .int .i64 (rateP ps).2.1, .int .i64 (rateP ps).2.2.1, .int .i64 (rateP ps).2.2.2]), .bool (lineS ps)], none) | _ => none⟩
theorem k47_ok : k47.OK Try.prog := fun pa args r fr h => by
  simp only [k47] at h
  split at h
  · simp only [Option.some.injEq, Prod.mk.injEq, decide_eq_true_eq] at h
    obtain ⟨h0, rfl, rfl⟩ := h
    exact rates47_ok _ h0
  · cases h
def k107 : Ctr := ⟨107, 0, fun _ a => match a with | [.list (.big (.agg [.int .i64, .int .i64, .int .i64]) ps)] => some (decide (lineG ps = true), .bool (lineB ps), none) | _ => none⟩
theorem k107_ok : k107.OK Try.prog := fun pa args r fr h => by
  simp only [k107] at h
  split at h
  · simp only [Option.some.injEq, Prod.mk.injEq, decide_eq_true_eq] at h
    obtain ⟨h0, rfl, rfl⟩ := h
    exact line107_ok _ h0
  · cases h
def BC4 : List Ctr := [k47, k107] ++ BC3
theorem BC4_ok : CtrsOK Try.prog BC4 := ⟨k47_ok, ⟨k107_ok, BC3_ok⟩⟩
end Go.Proofs.Ytjhdnpmojhkbjaa
