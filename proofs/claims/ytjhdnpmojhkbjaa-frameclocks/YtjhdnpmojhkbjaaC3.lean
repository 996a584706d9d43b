/- Contracts as a list. No condition. -/
import Derived.Test.YtjhdnpmojhkbjaaC2
namespace Go.Proofs.Ytjhdnpmojhkbjaa
/-! ### Rates of lines -/
abbrev R4 := Int × Int × Int × Int
def rnew (q p : AV) : R4 := (lN (pL q - pH p) (pC q - pC p), lD (pL q - pH p) (pC q - pC p), lN (pH q - pL p) (pC q - pC p), lD (pH q - pL p) (pC q - pC p))
def rmrg (s n : R4) : R4 :=
  if ltF s.1 s.2.1 n.1 n.2.1 = true then (if ltF n.2.2.1 n.2.2.2 s.2.2.1 s.2.2.2 = true then n else (n.1, n.2.1, s.2.2.1, s.2.2.2))
  else (if ltF n.2.2.1 n.2.2.2 s.2.2.1 s.2.2.2 = true then (s.1, s.2.1, n.2.2.1, n.2.2.2) else s)
def rinP (q : AV) : R4 → List AV → R4
  | s, [] => s
  | s, p :: l => rinP q (rmrg s (rnew q p)) l
def rgoP (ps : List AV) : Nat → Nat → R4 → R4
  | 0, _, s => s
  | n + 1, i, s => rgoP ps n (i + 1) (rinP (ps.getD i (.int .i64 0)) s (ps.take i))
def rateP (ps : List AV) : R4 := rgoP ps (ps.length - 2) 2 (rnew (ps.getD 1 (.int .i64 0)) (ps.getD 0 (.int .i64 0)))
def okQ (q p : AV) : Prop := (0 < pC q - pC p ∧ pC q - pC p ≤ 1000000) ∧ (-1000000000000 ≤ pL q - pH p ∧ pL q - pH p ≤ 1000000000000) ∧ (-1000000000000 ≤ pH q - pL p ∧ pH q - pL p ≤ 1000000000000)
instance (q p : AV) : Decidable (okQ q p) := by unfold okQ; infer_instance
def sR (s : R4) : Prop := ((-1000000000000 ≤ s.1 ∧ s.1 ≤ 1000000000000) ∧ 0 < s.2.1 ∧ s.2.1 ≤ 1000000) ∧ (-1000000000000 ≤ s.2.2.1 ∧ s.2.2.1 ≤ 1000000000000) ∧ 0 < s.2.2.2 ∧ s.2.2.2 ≤ 1000000
theorem low_rng (n : Int) {d : Int} (hd : 0 < d) : (lN n d).natAbs ≤ n.natAbs ∧ 0 < lD n d ∧ lD n d ≤ d := by
  have hg : 0 < (Int.gcd n d : Int) := by
    have := Int.gcd_pos_of_ne_zero_right n (show d ≠ 0 by omega)
    omega
  refine ⟨(tdiv_rng n hg).2.2.2.2.2, ?_, ?_⟩
  · obtain ⟨c, hc⟩ := Int.gcd_dvd_right n d
    have : lD n d = c := by
      unfold lD
      generalize (Int.gcd n d : Int) = g at *
      rw [hc, Int.mul_tdiv_cancel_left _ (by omega)]
    rw [this]
    rcases Int.lt_or_le 0 c with h | h
    · exact h
    · have := Int.mul_nonpos_of_nonneg_of_nonpos (show 0 ≤ (Int.gcd n d : Int) by omega) h
      omega
  · have := (tdiv_rng d hg).2.2.2.2.2
    have h2 := (tdiv_rng d hg).2.2.2.1 (by omega)
    unfold lD
    omega
theorem rnew_sR {q p : AV} (h : okQ q p) : sR (rnew q p) := by
  obtain ⟨⟨h1, h2⟩, h3, h4⟩ := h
  have a := low_rng (pL q - pH p) h1
  have b := low_rng (pH q - pL p) h1
  unfold sR rnew
  dsimp only
  omega
theorem rmrg_sR {s n : R4} (hs : sR s) (hn : sR n) : sR (rmrg s n) := by
  unfold rmrg
  split <;> split
  · exact hn
  · exact ⟨hn.1, hs.2⟩
  · exact ⟨hs.1, hn.2⟩
  · exact hs
theorem rinP_sR {q : AV} : ∀ {l : List AV} {s : R4}, sR s → (∀ p ∈ l, okQ q p) → sR (rinP q s l)
  | [], _, hs, _ => hs
  | p :: l, s, hs, h => rinP_sR (l := l) (rmrg_sR hs (rnew_sR (h p (by simp)))) (fun p hp => h p (by simp [hp]))
theorem mulR {a d : Int} (ha : -1000000000000 ≤ a ∧ a ≤ 1000000000000) (hd : 0 < d ∧ d ≤ 1000000) : -1000000000000000000 ≤ a * d ∧ a * d ≤ 1000000000000000000 := by
  have h1 := Int.mul_le_mul_of_nonneg_right ha.1 (show 0 ≤ d by omega)
  have h2 := Int.mul_le_mul_of_nonneg_right ha.2 (show 0 ≤ d by omega)
  omega
theorem prodR {a b c d : Int} (ha : -1000000000000 ≤ a ∧ a ≤ 1000000000000) (hb : 0 < b ∧ b ≤ 1000000) (hc : -1000000000000 ≤ c ∧ c ≤ 1000000000000) (hd : 0 < d ∧ d ≤ 1000000) : prodB a b c d = true := by
  have h1 := mulR ha hd
  have h2 := mulR hc hb
  simp only [prodB, decide_eq_true_eq]
  omega
theorem l106i {C : Ctx} (hC : C.P = Try.prog) (ps : List AV) (n0 : Int) (q : AV) (x : List AV) (R : AV) (i : Nat) (hi : i ≤ 1000000) (hxl : x.length ≤ 1000000) (hx : ∀ p ∈ x, okQ q p) : ∀ (d k : Nat) (s : R4), x.length - k = d → k ≤ x.length → sR s →
    (∀ t, sR t → t = rinP q s (x.drop k) → Ev C (f106h106_0b ps n0 t.1 t.2.1 t.2.2.1 t.2.2.2 ((i + 1 : Nat) : Int)) (f106h106_0bm ps n0 t.1 t.2.1 t.2.2.1 t.2.2.2 ((i + 1 : Nat) : Int)) (FinQ 106 R none)) →
    Ev C (f106h106_1b ps n0 k s.1 s.2.1 s.2.2.1 s.2.2.2 i x x.length (pC q) (pL q) (pH q)) (f106h106_1bm ps n0 k s.1 s.2.1 s.2.2.1 s.2.2.2 i x x.length (pC q) (pL q) (pH q)) (FinQ 106 R none) := by
  intro d
  induction d with
  | zero =>
    intro k s hd hk hs next
    have hk : k = x.length := by omega
    refine go hC BC1_ok (f106p9 std ps n0 k s.1 s.2.1 s.2.2.1 s.2.2.2 i x x.length (pC q) (pL q) (pH q)) (by simp; omega) ?_
    have := next s hs (by rw [List.drop_of_length_le (by omega)]; rfl)
    simpa using this
  | succ d ih =>
    intro k s hd hk hs next
    have hlt : k < x.length := by omega
    have e1 : std.nthA x (std.nat (k : Int)) = x[k] := by simp [hlt]
    have hq := hx x[k] (by simp)
    have hn := rnew_sR hq
    rw [List.drop_eq_getElem_cons hlt, rinP] at next
    have ih' := ih (k + 1) (rmrg s (rnew q x[k])) (by omega) (by omega) (rmrg_sR hs hn) next
    have g1 : (x[k].cellAt 0).toI = pC x[k] := rfl
    have g2 : (x[k].cellAt 1).toI = pL x[k] := rfl
    have g3 : (x[k].cellAt 2).toI = pH x[k] := rfl
    have b1 := prodR hs.1.1 hs.1.2 hn.1.1 hn.1.2
    have b2 := prodR hn.2.1 hn.2.2 hs.2.1 hs.2.2
    obtain ⟨⟨q1, q2⟩, q3, q4⟩ := hq
    have q5 : bigB (pL q - pH x[k]) = true := by simp only [bigB, decide_eq_true_eq]; omega
    have q6 : bigB (pH q - pL x[k]) = true := by simp only [bigB, decide_eq_true_eq]; omega
    have q7 : bigB (pC q - pC x[k]) = true := by simp only [bigB, decide_eq_true_eq]; omega
    have key : ∀ t, rmrg s (rnew q x[k]) = t → Ev C (f106h106_1b ps n0 ((k + 1 : Nat) : Int) t.1 t.2.1 t.2.2.1 t.2.2.2 i x x.length (pC q) (pL q) (pH q)) (f106h106_1bm ps n0 ((k + 1 : Nat) : Int) t.1 t.2.1 t.2.2.1 t.2.2.2 i x x.length (pC q) (pL q) (pH q)) (FinQ 106 R none) := fun t ht => ht ▸ ih'
    have e5 : std.add (k : Int) 1 = ((k + 1 : Nat) : Int) := by simp
    by_cases h1 : ltF s.1 s.2.1 (rnew q x[k]).1 (rnew q x[k]).2.1 = true
    · by_cases h2 : ltF (rnew q x[k]).2.2.1 (rnew q x[k]).2.2.2 s.2.2.1 s.2.2.2 = true
      · have kk := key (rnew q x[k]) (by rw [rmrg, if_pos h1, if_pos h2])
        simp only [rnew] at h1 h2 kk b1 b2
        refine go hC BC1_ok (f106p5 std ps n0 k s.1 s.2.1 s.2.2.1 s.2.2.2 i x x.length (pC q) (pL q) (pH q)) ?_ ?_
        · simp only [e1, g1, g2, g3, s_sub, h1, h2, b1, b2, q5, q6, q7]; simp [hlt]; omega
        · simp only [e1, g1, g2, g3, s_sub, e5]; exact kk
      · have kk := key (((rnew q x[k]).1, (rnew q x[k]).2.1, s.2.2.1, s.2.2.2)) (by rw [rmrg, if_pos h1, if_neg h2])
        simp only [rnew] at h1 h2 kk b1 b2
        refine go hC BC1_ok (f106p6 std ps n0 k s.1 s.2.1 s.2.2.1 s.2.2.2 i x x.length (pC q) (pL q) (pH q)) ?_ ?_
        · simp only [e1, g1, g2, g3, s_sub, h1, h2, b1, b2, q5, q6, q7]; simp [hlt]; omega
        · simp only [e1, g1, g3, s_sub, e5]; exact kk
    · by_cases h2 : ltF (rnew q x[k]).2.2.1 (rnew q x[k]).2.2.2 s.2.2.1 s.2.2.2 = true
      · have kk := key ((s.1, s.2.1, (rnew q x[k]).2.2.1, (rnew q x[k]).2.2.2)) (by rw [rmrg, if_neg h1, if_pos h2])
        simp only [rnew] at h1 h2 kk b1 b2
        refine go hC BC1_ok (f106p7 std ps n0 k s.1 s.2.1 s.2.2.1 s.2.2.2 i x x.length (pC q) (pL q) (pH q)) ?_ ?_
        · simp only [e1, g1, g2, g3, s_sub, h1, h2, b1, b2, q5, q6, q7]; simp [hlt]; omega
        · simp only [e1, g1, g2, s_sub, e5]; exact kk
      · have kk := key s (by rw [rmrg, if_neg h1, if_neg h2])
        simp only [rnew] at h1 h2 kk b1 b2
        refine go hC BC1_ok (f106p8 std ps n0 k s.1 s.2.1 s.2.2.1 s.2.2.2 i x x.length (pC q) (pL q) (pH q)) ?_ ?_
        · simp only [e1, g1, g2, g3, s_sub, h1, h2, b1, b2, q5, q6, q7]; simp [hlt]; omega
        · simp only [e5]; exact kk
/-- every later pair against every earlier one -/
def goodB (ps : List AV) : Bool := decide (2 ≤ ps.length ∧ ps.length ≤ 1000000) && (List.range ps.length).all fun i => (List.range i).all fun k => decide (okQ (ps.getD i (.int .i64 0)) (ps.getD k (.int .i64 0)))
theorem good_ok {ps : List AV} (h : goodB ps = true) : (2 ≤ ps.length ∧ ps.length ≤ 1000000) ∧ ∀ i k, i < ps.length → k < i → okQ (ps.getD i (.int .i64 0)) (ps.getD k (.int .i64 0)) := by
  rw [goodB, Bool.and_eq_true, decide_eq_true_eq, List.all_eq_true] at h
  refine ⟨h.1, fun i k hi hk => ?_⟩
  have := h.2 i (List.mem_range.2 hi)
  rw [List.all_eq_true] at this
  exact of_decide_eq_true (this k (List.mem_range.2 hk))
theorem rtake {ps : List AV} (hg : ∀ i k, i < ps.length → k < i → okQ (ps.getD i (.int .i64 0)) (ps.getD k (.int .i64 0))) {i : Nat} (hi : i < ps.length) : ∀ p ∈ ps.take i, okQ (ps.getD i (.int .i64 0)) p := by
  intro p hp
  obtain ⟨k, hk, rfl⟩ := List.getElem_of_mem hp
  rw [List.length_take] at hk
  have := hg i k hi (by omega)
  rw [List.getElem_take]
  have e : ps.getD k (.int .i64 0) = ps[k] := by simp [show k < ps.length by omega]
  rwa [e] at this
theorem rgoP_sR {ps : List AV} (hg : ∀ i k, i < ps.length → k < i → okQ (ps.getD i (.int .i64 0)) (ps.getD k (.int .i64 0))) : ∀ (d i : Nat) (s : R4), i + d = ps.length → sR s → sR (rgoP ps d i s)
  | 0, _, _, _, hs => hs
  | d + 1, i, s, hi, hs => rgoP_sR hg d (i + 1) _ (by omega) (rinP_sR hs (rtake hg (by omega)))
theorem rateP_sR {ps : List AV} (h : goodB ps = true) : sR (rateP ps) :=
  have hg := good_ok h
  rgoP_sR hg.2 _ _ _ (by omega) (rnew_sR (hg.2 1 0 (by omega) (by omega)))
theorem l106o {C : Ctx} (hC : C.P = Try.prog) (ps : List AV) (hl : ps.length ≤ 1000000) (r : R4) (hg : ∀ i k, i < ps.length → k < i → okQ (ps.getD i (.int .i64 0)) (ps.getD k (.int .i64 0))) : ∀ (d i : Nat) (s : R4), i + d = ps.length → sR s → rgoP ps d i s = r →
    Ev C (f106h106_0b ps ps.length s.1 s.2.1 s.2.2.1 s.2.2.2 i) (f106h106_0bm ps ps.length s.1 s.2.1 s.2.2.1 s.2.2.2 i) (FinQ 106 (.agg (.gen [.int .i64 r.1, .int .i64 r.2.1, .int .i64 r.2.2.1, .int .i64 r.2.2.2])) none) := by
  intro d
  induction d with
  | zero =>
    intro i s hi hs hr
    rw [rgoP] at hr
    exact fin hC BC1_ok (f106p11 std ps ps.length s.1 s.2.1 s.2.2.1 s.2.2.2 i) (by simp; omega) (by rw [hr]) rfl
  | succ d ih =>
    intro i s hi hs hr
    have hlt : i < ps.length := by omega
    have e1 : std.nthA ps (std.nat (i : Int)) = ps.getD i (.int .i64 0) := by simp [hlt]
    have e2 : std.subA ps 0 (std.subN (std.nat (i : Int)) 0) = ps.take i := by simp
    have e3 : std.int (std.lenA (ps.take i)) = ((ps.take i).length : Int) := by simp
    rw [rgoP] at hr
    refine go hC BC1_ok (f106p10 std ps ps.length s.1 s.2.1 s.2.2.1 s.2.2.2 i) (by simp; omega) ?_
    rw [e1, e2, e3]
    refine l106i hC ps ps.length (ps.getD i (.int .i64 0)) (ps.take i) _ i (by omega) (by rw [List.length_take]; omega) (rtake hg hlt) _ 0 s rfl (by omega) hs fun t ht he => ?_
    exact ih (i + 1) t (by omega) ht (by rw [he]; exact hr)
theorem rates106_ok (ps : List AV) (h : goodB ps = true) : Pure Try.prog 106 [.list (.big (.agg [.int .i64, .int .i64, .int .i64]) ps)] (.agg (.gen [.int .i64 (rateP ps).1, .int .i64 (rateP ps).2.1, .int .i64 (rateP ps).2.2.1, .int .i64 (rateP ps).2.2.2])) none :=
  start (f106e_at ps) fun C hC => by
    obtain ⟨⟨h2, hl⟩, hg⟩ := good_ok h
    have hok := hg 1 0 (by omega) (by omega)
    refine go hC BC1_ok (f106p0 std ps) (by simp) ?_
    refine go hC BC1_ok (f106p1 std ps _ 0) (by simp; omega) ?_
    refine go hC BC1_ok (f106p4 std ps _ 0 _ _ _ _ _) (by simp) ?_
    refine go hC BC1_ok (f106p1 std ps _ _) (by simp; omega) ?_
    have e1 : std.nthA ps (std.nat (std.add 0 1)) = ps.getD 1 (.int .i64 0) := by simp [show 1 < ps.length by omega]
    have e2 : std.subA ps 0 (std.subN (std.nat (std.add 0 1)) 0) = ps.take 1 := by simp
    have e3 : std.int (std.lenA (ps.take 1)) = ((ps.take 1).length : Int) := by simp
    have e4 : (ps.take 1).length = 1 := by rw [List.length_take]; omega
    have e5 : std.nthA (ps.take 1) (std.nat 0) = ps.getD 0 (.int .i64 0) := by simp [show 0 < ps.length by omega]
    rw [e1, e2, e3, e4]
    generalize hq : ps.getD 1 (.int .i64 0) = q at *
    generalize hp : ps.getD 0 (.int .i64 0) = p at *
    have g0 : (q.cellAt 0).toI = pC q := rfl
    have g1 : (q.cellAt 1).toI = pL q := rfl
    have g2 : (q.cellAt 2).toI = pH q := rfl
    have g3 : (p.cellAt 0).toI = pC p := rfl
    have g4 : (p.cellAt 1).toI = pL p := rfl
    have g5 : (p.cellAt 2).toI = pH p := rfl
    have hn := rnew_sR hok
    obtain ⟨⟨q1, q2⟩, q3, q4⟩ := hok
    have q5 : bigB (pL q - pH p) = true := by simp only [bigB, decide_eq_true_eq]; omega
    have q6 : bigB (pH q - pL p) = true := by simp only [bigB, decide_eq_true_eq]; omega
    have q7 : bigB (pC q - pC p) = true := by simp only [bigB, decide_eq_true_eq]; omega
    refine go hC BC1_ok (f106p3 std ps _ _ (ps.take 1) _ _ _ _) ?_ ?_
    · simp only [e5, g0, g1, g2, g3, g4, g5, s_sub, q5, q6, q7]; simp [e4]; omega
    · simp only [e5, g0, g1, g2, g3, g4, g5, s_sub]
      refine go hC BC1_ok (f106p9 std ps _ _ _ _ _ _ _ (ps.take 1) _ _ _ _) (by simp) ?_
      have := l106o hC ps hl (rateP ps) hg (ps.length - 2) 2 (rnew q p) (by omega) hn (by rw [rateP, hq, hp])
      simpa [rnew] using this
def k106 : Ctr := ⟨106, 0, fun _ a => match a with | [.list (.big (.agg [.int .i64, .int .i64, .int .i64]) ps)] => some (decide (goodB ps = true), .agg (.gen [.int .i64 (rateP ps).1, .int .i64 (rateP ps).2.1, .int .i64 (rateP ps).2.2.1, .int .i64 (rateP ps).2.2.2]), none) | _ => none⟩
theorem k106_ok : k106.OK Try.prog := fun pa args r fr h => by
  simp only [k106] at h
  split at h
  · simp only [Option.some.injEq, Prod.mk.injEq, decide_eq_true_eq] at h
    obtain ⟨h0, rfl, rfl⟩ := h
    exact rates106_ok _ h0
  · cases h
def BC3 : List Ctr := [k106] ++ BC2
theorem BC3_ok : CtrsOK Try.prog BC3 := ⟨k106_ok, BC2_ok⟩
end Go.Proofs.Ytjhdnpmojhkbjaa
