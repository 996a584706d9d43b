/- Contracts as a list. No condition. -/
import Derived.Test.YtjhdnpmojhkbjaaC2
import Derived.KernelRfl
namespace Go.Proofs.Ytjhdnpmojhkbjaa
abbrev R4 := Int × Int × Int × Int
def rnew (q p : AV) : R4 := (lN (pL q - pH p) (pC q - pC p), lD (pL q - pH p) (pC q - pC p), lN (pH q - pL p) (pC q - pC p), lD (pH q - pL p) (pC q - pC p))
def rmrg (s n : R4) : R4 :=
  if ltF s.1 s.2.1 n.1 n.2.1 = true then (if ltF n.2.2.1 n.2.2.2 s.2.2.1 s.2.2.2 = true then n else (n.1, n.2.1, s.2.2.1, s.2.2.2))
  else (if ltF n.2.2.1 n.2.2.2 s.2.2.1 s.2.2.2 = true then (s.1, s.2.1, n.2.2.1, n.2.2.2) else s)
def rinP (q : AV) : R4 → List AV → R4
  | s, [] => s
  | s, p :: l => rinP q (rmrg s (rnew q p)) l
def rgoP (ps : List AV) : Nat → Nat → R4 → R4
  | 0, _, s => s
  | n + 1, i, s => rgoP ps n (i + 1) (rinP (ps.getD i (.int .i64 0)) s (ps.take i))
def rateP (ps : List AV) : R4 := rgoP ps (ps.length - 2) 2 (rnew (ps.getD 1 (.int .i64 0)) (ps.getD 0 (.int .i64 0)))
def okQ (q p : AV) : Prop := (0 < pC q - pC p ∧ pC q - pC p ≤ 1000000) ∧ (-1000000000000 ≤ pL q - pH p ∧ pL q - pH p ≤ 1000000000000) ∧ (-1000000000000 ≤ pH q - pL p ∧ pH q - pL p ≤ 1000000000000)
instance (q p : AV) : Decidable (okQ q p) := by unfold okQ; infer_instance
def sR (s : R4) : Prop := ((-1000000000000 ≤ s.1 ∧ s.1 ≤ 1000000000000) ∧ 0 < s.2.1 ∧ s.2.1 ≤ 1000000) ∧ (-1000000000000 ≤ s.2.2.1 ∧ s.2.2.1 ≤ 1000000000000) ∧ 0 < s.2.2.2 ∧ s.2.2.2 ≤ 1000000
theorem low_rng (n : Int) {d : Int} (hd : 0 < d) : (lN n d).natAbs ≤ n.natAbs ∧ 0 < lD n d ∧ lD n d ≤ d := by
  have hg : 0 < (Int.gcd n d : Int) := by
    have := Int.gcd_pos_of_ne_zero_right n (show d ≠ 0 by omega)
    omega
  refine ⟨(tdiv_rng n hg).2.2.2.2.2, ?_, ?_⟩
  · obtain ⟨c, hc⟩ := Int.gcd_dvd_right n d
    have : lD n d = c := by
      unfold lD
      generalize (Int.gcd n d : Int) = g at *
      rw [hc, Int.mul_tdiv_cancel_left _ (by omega)]
    rw [this]
    rcases Int.lt_or_le 0 c with h | h
    · exact h
    · have := Int.mul_nonpos_of_nonneg_of_nonpos (show 0 ≤ (Int.gcd n d : Int) by omega) h
      omega
  · have := (tdiv_rng d hg).2.2.2.2.2
    have h2 := (tdiv_rng d hg).2.2.2.1 (by omega)
    unfold lD
    omega
theorem rnew_sR {q p : AV} (h : okQ q p) : sR (rnew q p) := by
  obtain ⟨⟨h1, h2⟩, h3, h4⟩ := h
  have a := low_rng (pL q - pH p) h1
  have b := low_rng (pH q - pL p) h1
  unfold sR rnew
  dsimp only
  omega
theorem rmrg_sR {s n : R4} (hs : sR s) (hn : sR n) : sR (rmrg s n) := by
  unfold rmrg
  split <;> split
  · exact hn
  · exact ⟨hn.1, hs.2⟩
  · exact ⟨hs.1, hn.2⟩
  · exact hs
theorem rinP_sR {q : AV} : ∀ {l : List AV} {s : R4}, sR s → (∀ p ∈ l, okQ q p) → sR (rinP q s l)
  | [], _, hs, _ => hs
  | p :: l, s, hs, h => rinP_sR (l := l) (rmrg_sR hs (rnew_sR (h p (by simp)))) (fun p hp => h p (by simp [hp]))
theorem mulR {a d : Int} (ha : -1000000000000 ≤ a ∧ a ≤ 1000000000000) (hd : 0 < d ∧ d ≤ 1000000) : -1000000000000000000 ≤ a * d ∧ a * d ≤ 1000000000000000000 := by
  have h1 := Int.mul_le_mul_of_nonneg_right ha.1 (show 0 ≤ d by omega)
  have h2 := Int.mul_le_mul_of_nonneg_right ha.2 (show 0 ≤ d by omega)
  omega
theorem prodR {a b c d : Int} (ha : -1000000000000 ≤ a ∧ a ≤ 1000000000000) (hb : 0 < b ∧ b ≤ 1000000) (hc : -1000000000000 ≤ c ∧ c ≤ 1000000000000) (hd : 0 < d ∧ d ≤ 1000000) : prodB a b c d = true := by
  have h1 := mulR ha hd
  have h2 := mulR hc hb
  simp only [prodB, decide_eq_true_eq]
  omega
theorem l106i {C : Ctx} (hC : C.P = Try.prog) (ps : List AV) (n0 : Int) (q : AV) (x : List AV) (R : AV) (i : Nat) (hi : i ≤ 1000000) (hxl : x.length ≤ 1000000) (hx : ∀ p ∈ x, okQ q p) : ∀ (d k : Nat) (s : R4), x.length - k = d → k ≤ x.length → sR s →
    (∀ t, sR t → t = rinP q s (x.drop k) → Ev C (f106h106_0b ps n0 t.1 t.2.1 t.2.2.1 t.2.2.2 ((i + 1 : Nat) : Int)) (f106h106_0bm ps n0 t.1 t.2.1 t.2.2.1 t.2.2.2 ((i + 1 : Nat) : Int)) (FinQ 106 R none)) →
    Ev C (f106h106_1b ps n0 k s.1 s.2.1 s.2.2.1 s.2.2.2 i x x.length (pC q) (pL q) (pH q)) (f106h106_1bm ps n0 k s.1 s.2.1 s.2.2.1 s.2.2.2 i x x.length (pC q) (pL q) (pH q)) (FinQ 106 R none) := by
  intro d
  induction d with
  | zero =>
    intro k s hd hk hs next
    have hk : k = x.length := by omega
    refine go hC BC1_ok (f106p9 std ps n0 k s.1 s.2.1 s.2.2.1 s.2.2.2 i x x.length (pC q) (pL q) (pH q)) (by simp; omega) ?_
    have := next s hs (by rw [List.drop_of_length_le (by omega)]; rfl)
    simpa using this
  | succ d ih =>
    intro k s hd hk hs next
    have hlt : k < x.length := by omega
    have e1 : std.nthA x (std.nat (k : Int)) = x[k] := by simp [hlt]
    have hq := hx x[k] (by simp)
    have hn := rnew_sR hq
    rw [List.drop_eq_getElem_cons hlt, rinP] at next
    have ih' := ih (k + 1) (rmrg s (rnew q x[k])) (by omega) (by omega) (rmrg_sR hs hn) next
    have g1 : (x[k].cellAt 0).toI = pC x[k] := rfl
    have g2 : (x[k].cellAt 1).toI = pL x[k] := rfl
    have g3 : (x[k].cellAt 2).toI = pH x[k] := rfl
    have b1 := prodR hs.1.1 hs.1.2 hn.1.1 hn.1.2
    have b2 := prodR hn.2.1 hn.2.2 hs.2.1 hs.2.2
    obtain ⟨⟨q1, q2⟩, q3, q4⟩ := hq
    have q5 : bigB (pL q - pH x[k]) = true := by simp only [bigB, decide_eq_true_eq]; omega
    have q6 : bigB (pH q - pL x[k]) = true := by simp only [bigB, decide_eq_true_eq]; omega
    have q7 : bigB (pC q - pC x[k]) = true := by simp only [bigB, decide_eq_true_eq]; omega
    have key : ∀ t, rmrg s (rnew q x[k]) = t → Ev C (f106h106_1b ps n0 ((k + 1 : Nat) : Int) t.1 t.2.1 t.2.2.1 t.2.2.2 i x x.length (pC q) (pL q) (pH q)) (f106h106_1bm ps n0 ((k + 1 : Nat) : Int) t.1 t.2.1 t.2.2.1 t.2.2.2 i x x.length (pC q) (pL q) (pH q)) (FinQ 106 R none) := fun t ht => ht ▸ ih'
    have e5 : std.add (k : Int) 1 = ((k + 1 : Nat) : Int) := by simp
    by_cases h1 : ltF s.1 s.2.1 (rnew q x[k]).1 (rnew q x[k]).2.1 = true
    · by_cases h2 : ltF (rnew q x[k]).2.2.1 (rnew q x[k]).2.2.2 s.2.2.1 s.2.2.2 = true
      · have kk := key (rnew q x[k]) (by rw [rmrg, if_pos h1, if_pos h2])
        simp only [rnew] at h1 h2 kk b1 b2
        refine go hC BC1_ok (f106p5 std ps n0 k s.1 s.2.1 s.2.2.1 s.2.2.2 i x x.length (pC q) (pL q) (pH q)) ?_ ?_
        · simp only [e1, g1, g2, g3, s_sub, h1, h2, b1, b2, q5, q6, q7]; simp [hlt]; omega
        · simp only [e1, g1, g2, g3, s_sub, e5]; exact kk
      · have kk := key (((rnew q x[k]).1, (rnew q x[k]).2.1, s.2.2.1, s.2.2.2)) (by rw [rmrg, if_pos h1, if_neg h2])
        simp only [rnew] at h1 h2 kk b1 b2
        refine go hC BC1_ok (f106p6 std ps n0 k s.1 s.2.1 s.2.2.1 s.2.2.2 i x x.length (pC q) (pL q) (pH q)) ?_ ?_
        · simp only [e1, g1, g2, g3, s_sub, h1, h2, b1, b2, q5, q6, q7]; simp [hlt]; omega
        · simp only [e1, g1, g3, s_sub, e5]; exact kk
    · by_cases h2 : ltF (rnew q x[k]).2.2.1 (rnew q x[k]).2.2.2 s.2.2.1 s.2.2.2 = true
      · have kk := key ((s.1, s.2.1, (rnew q x[k]).2.2.1, (rnew q x[k]).2.2.2)) (by rw [rmrg, if_neg h1, if_pos h2])
        simp only [rnew] at h1 h2 kk b1 b2
        refine go hC BC1_ok (f106p7 std ps n0 k s.1 s.2.1 s.2.2.1 s.2.2.2 i x x.length (pC q) (pL q) (pH q)) ?_ ?_
        · simp only [e1, g1, g2, g3, s_sub, h1, h2, b1, b2, q5, q6, q7]; simp [hlt]; omega
        · simp only [e1, g1, g2, s_sub, e5]; exact kk
      · have kk := key s (by rw [rmrg, if_neg h1, if_neg h2])
        simp only [rnew] at h1 h2 kk b1 b2
        refine go hC BC1_ok (f106p8 std ps n0 k s.1 s.2.1 s.2.2.1 s.2.2.2 i x x.length (pC q) (pL q) (pH q)) ?_ ?_
        · simp only [e1, g1, g2, g3, s_sub, h1, h2, b1, b2, q5, q6, q7]; simp [hlt]; omega
        · simp only [e5]; exact kk
def goodB (ps : List AV) : Bool := decide (2 ≤ ps.length ∧ ps.length ≤ 1000000) && (List.range ps.length).all fun i => (List.range i).all fun k => decide (okQ (ps.getD i (.int .i64 0)) (ps.getD k (.int .i64 0)))
theorem good_ok {ps : List AV} (h : goodB ps = true) : (2 ≤ ps.length ∧ ps.length ≤ 1000000) ∧ ∀ i k, i < ps.length → k < i → okQ (ps.getD i (.int .i64 0)) (ps.getD k (.int .i64 0)) := by
  rw [goodB, Bool.and_eq_true, decide_eq_true_eq, List.all_eq_true] at h
  refine ⟨h.1, fun i k hi hk => ?_⟩
  have := h.2 i (List.mem_range.2 hi)
  rw [List.all_eq_true] at this
  exact of_decide_eq_true (this k (List.mem_range.2 hk))
theorem rtake {ps : List AV} (hg : ∀ i k, i < ps.length → k < i → okQ (ps.getD i (.int .i64 0)) (ps.getD k (.int .i64 0))) {i : Nat} (hi : i < ps.length) : ∀ p ∈ ps.take i, okQ (ps.getD i (.int .i64 0)) p := by
  intro p hp
  obtain ⟨k, hk, rfl⟩ := List.getElem_of_mem hp
  rw [List.length_take] at hk
  have := hg i k hi (by omega)
  rw [List.getElem_take]
  have e : ps.getD k (.int .i64 0) = ps[k] := by simp [show k < ps.length by omega]
  rwa [e] at this
theorem rgoP_sR {ps : List AV} (hg : ∀ i k, i < ps.length → k < i → okQ (ps.getD i (.int .i64 0)) (ps.getD k (.int .i64 0))) : ∀ (d i : Nat) (s : R4), i + d = ps.length → sR s → sR (rgoP ps d i s)
  | 0, _, _, _, hs => hs
  | d + 1, i, s, hi, hs => rgoP_sR hg d (i + 1) _ (by omega) (rinP_sR hs (rtake hg (by omega)))
theorem rateP_sR {ps : List AV} (h : goodB ps = true) : sR (rateP ps) :=
  have hg := good_ok h
  rgoP_sR hg.2 _ _ _ (by omega) (rnew_sR (hg.2 1 0 (by omega) (by omega)))
theorem l106o {C : Ctx} (hC : C.P = Try.prog) (ps : List AV) (hl : ps.length ≤ 1000000) (r : R4) (hg : ∀ i k, i < ps.length → k < i → okQ (ps.getD i (.int .i64 0)) (ps.getD k (.int .i64 0))) : ∀ (d i : Nat) (s : R4), i + d = ps.length → sR s → rgoP ps d i s = r →
    Ev C (f106h106_0b ps ps.length s.1 s.2.1 s.2.2.1 s.2.2.2 i) (f106h106_0bm ps ps.length s.1 s.2.1 s.2.2.1 s.2.2.2 i) (FinQ 106 (.agg (.gen [.int .i64 r.1, .int .i64 r.2.1, .int .i64 r.2.2.1, .int .i64 r.2.2.2])) none) := by
  intro d
  induction d with
  | zero =>
    intro i s hi hs hr
    rw [rgoP] at hr
    exact fin hC BC1_ok (f106p11 std ps ps.length s.1 s.2.1 s.2.2.1 s.2.2.2 i) (by simp; omega) (by rw [hr]) rfl
  | succ d ih =>
    intro i s hi hs hr
    have hlt : i < ps.length := by omega
    have e1 : std.nthA ps (std.nat (i : Int)) = ps.getD i (.int .i64 0) := by simp [hlt]
    have e2 : std.subA ps 0 (std.subN (std.nat (i : Int)) 0) = ps.take i := by simp
    have e3 : std.int (std.lenA (ps.take i)) = ((ps.take i).length : Int) := by simp
    rw [rgoP] at hr
    refine go hC BC1_ok (f106p10 std ps ps.length s.1 s.2.1 s.2.2.1 s.2.2.2 i) (by simp; omega) ?_
    rw [e1, e2, e3]
    refine l106i hC ps ps.length (ps.getD i (.int .i64 0)) (ps.take i) _ i (by omega) (by rw [List.length_take]; omega) (rtake hg hlt) _ 0 s rfl (by omega) hs fun t ht he => ?_
    exact ih (i + 1) t (by omega) ht (by rw [he]; exact hr)
theorem rates106_ok (ps : List AV) (h : goodB ps = true) : Pure Try.prog 106 [.list (.big (.agg [.int .i64, .int .i64, .int .i64]) ps)] (.agg (.gen [.int .i64 (rateP ps).1, .int .i64 (rateP ps).2.1, .int .i64 (rateP ps).2.2.1, .int .i64 (rateP ps).2.2.2])) none :=
  start (f106e_at ps) fun C hC => by
    obtain ⟨⟨h2, hl⟩, hg⟩ := good_ok h
    have hok := hg 1 0 (by omega) (by omega)
    refine go hC BC1_ok (f106p0 std ps) (by simp) ?_
    refine go hC BC1_ok (f106p1 std ps _ 0) (by simp; omega) ?_
    refine go hC BC1_ok (f106p4 std ps _ 0 _ _ _ _ _) (by simp) ?_
    refine go hC BC1_ok (f106p1 std ps _ _) (by simp; omega) ?_
    have e1 : std.nthA ps (std.nat (std.add 0 1)) = ps.getD 1 (.int .i64 0) := by simp [show 1 < ps.length by omega]
    have e2 : std.subA ps 0 (std.subN (std.nat (std.add 0 1)) 0) = ps.take 1 := by simp
    have e3 : std.int (std.lenA (ps.take 1)) = ((ps.take 1).length : Int) := by simp
    have e4 : (ps.take 1).length = 1 := by rw [List.length_take]; omega
    have e5 : std.nthA (ps.take 1) (std.nat 0) = ps.getD 0 (.int .i64 0) := by simp [show 0 < ps.length by omega]
    rw [e1, e2, e3, e4]
    generalize hq : ps.getD 1 (.int .i64 0) = q at *
    generalize hp : ps.getD 0 (.int .i64 0) = p at *
    have g0 : (q.cellAt 0).toI = pC q := rfl
    have g1 : (q.cellAt 1).toI = pL q := rfl
    have g2 : (q.cellAt 2).toI = pH q := rfl
    have g3 : (p.cellAt 0).toI = pC p := rfl
    have g4 : (p.cellAt 1).toI = pL p := rfl
    have g5 : (p.cellAt 2).toI = pH p := rfl
    have hn := rnew_sR hok
    obtain ⟨⟨q1, q2⟩, q3, q4⟩ := hok
    have q5 : bigB (pL q - pH p) = true := by simp only [bigB, decide_eq_true_eq]; omega
    have q6 : bigB (pH q - pL p) = true := by simp only [bigB, decide_eq_true_eq]; omega
    have q7 : bigB (pC q - pC p) = true := by simp only [bigB, decide_eq_true_eq]; omega
    refine go hC BC1_ok (f106p3 std ps _ _ (ps.take 1) _ _ _ _) ?_ ?_
    · simp only [e5, g0, g1, g2, g3, g4, g5, s_sub, q5, q6, q7]; simp [e4]; omega
    · simp only [e5, g0, g1, g2, g3, g4, g5, s_sub]
      refine go hC BC1_ok (f106p9 std ps _ _ _ _ _ _ _ (ps.take 1) _ _ _ _) (by simp) ?_
      have := l106o hC ps hl (rateP ps) hg (ps.length - 2) 2 (rnew q p) (by omega) hn (by rw [rateP, hq, hp])
      simpa [rnew] using this
def k106 : Ctr := ⟨106, 0, fun _ a => match a with | [.list (.big (.agg [.int .i64, .int .i64, .int .i64]) ps)] => some (decide (goodB ps = true), .agg (.gen [.int .i64 (rateP ps).1, .int .i64 (rateP ps).2.1, .int .i64 (rateP ps).2.2.1, .int .i64 (rateP ps).2.2.2]), none) | _ => none⟩
theorem k106_ok : k106.OK Try.prog := fun pa args r fr h => by
  simp only [k106] at h
  split at h
  · simp only [Option.some.injEq, Prod.mk.injEq, decide_eq_true_eq] at h
    obtain ⟨h0, rfl, rfl⟩ := h
    exact rates106_ok _ h0
  · cases h
def BC3 : List Ctr := [k106] ++ BC2
theorem BC3_ok : CtrsOK Try.prog BC3 := ⟨k106_ok, BC2_ok⟩
end Go.Proofs.Ytjhdnpmojhkbjaa
/- Paths of functions, printed by the explorer (Gx). No condition. -/
namespace Go.Proofs.Ytjhdnpmojhkbjaa
set_option maxRecDepth 100000
set_option linter.unusedVariables false
def f107e (ps : List AV) : List AFrame := [{ fn := 107, N := 15, env := [(0, AV.list (Row.big (Sh.agg [Sh.int .i64, Sh.int .i64, Sh.int .i64]) ps))], todo := [.code a107.code], defs := [], rnd := none, ret := false, res := [ARes.tmp 2] }]
theorem f107e_at (ps : List AV) : enterA tab 107 [AV.list (Row.big (Sh.agg [Sh.int .i64, Sh.int .i64, Sh.int .i64]) ps)] = some { fn := 107, N := 15, env := [(0, AV.list (Row.big (Sh.agg [Sh.int .i64, Sh.int .i64, Sh.int .i64]) ps))], todo := [.code a107.code], defs := [], rnd := none, ret := false, res := [ARes.tmp 2] } := rfl
theorem f107p0 (A : Ar) (ps : List AV) : gfin A tab BC3 17 [true] 107 (f107e ps) [] =
  some ([A.and true (A.and true true), true, A.lt (A.int (A.lenA ps)) 2, true, true, true, true],
   AV.bool true, none) := by kernel_rfl
theorem f107p1 (A : Ar) (ps : List AV) : gfin A tab BC3 32 [false] 107 (f107e ps) [] =
  some ([A.and true (A.and true true), true, true, A.and true (Decidable.decide (prodB (rateP ps).snd.snd.1 (rateP ps).snd.snd.2 (rateP ps).1 (rateP ps).snd.1 = true)), A.and (A.ltN 0 1) (A.leN (A.addN 0 2) 4), true, A.and (A.ltN 0 1) (A.leN (A.addN 2 2) 4), true, A.and (A.ltN 0 1) (A.eqN 4 4), A.and true (A.ltN 0 (A.len [0, 0, 0, 0])), A.and true (Decidable.decide (goodB ps = true)), true, !A.lt (A.int (A.lenA ps)) 2, true, true, true, true],
   AV.bool (A.not (ltF (rateP ps).snd.snd.1 (rateP ps).snd.snd.2 (rateP ps).1 (rateP ps).snd.1)), none) := by kernel_rfl
end Go.Proofs.Ytjhdnpmojhkbjaa
/- Contracts as a list. No condition. -/
namespace Go.Proofs.Ytjhdnpmojhkbjaa
theorem cmp_pos (n d m k : Int) : decide (0 < cmpI n d m k) = ltF m k n d := by
  unfold cmpI ltF
  by_cases h1 : n * k < m * d
  · rw [if_pos h1, decide_eq_false (show ¬ m * d < n * k by omega)]; rfl
  · rw [if_neg h1]
    by_cases h2 : m * d < n * k
    · rw [if_pos h2, decide_eq_true h2]; rfl
    · rw [if_neg h2, decide_eq_false h2]; rfl
theorem cmp_neg (n d m k : Int) : decide (cmpI n d m k < 0) = ltF n d m k := by
  unfold cmpI ltF
  by_cases h1 : n * k < m * d
  · rw [if_pos h1, decide_eq_true h1]; rfl
  · rw [if_neg h1, decide_eq_false h1]
    by_cases h2 : m * d < n * k
    · rw [if_pos h2]; rfl
    · rw [if_neg h2]; rfl
def lineR (r : R4) : Bool := !ltF r.2.2.1 r.2.2.2 r.1 r.2.1
def lineS (ps : List AV) : Bool := lineR (rateP ps)
def lineB (ps : List AV) : Bool := decide (ps.length < 2) || lineR (rateP ps)
def lineG (ps : List AV) : Bool := decide (ps.length < 2) || goodB ps
theorem line107_ok (ps : List AV) (h : lineG ps = true) : Pure Try.prog 107 [.list (.big (.agg [.int .i64, .int .i64, .int .i64]) ps)] (.bool (lineB ps)) none :=
  start (f107e_at ps) fun C hC => by
    by_cases h2 : ps.length < 2
    · exact fin hC BC3_ok (f107p0 std ps) (by simp; omega) (by simp [lineB, h2]) rfl
    · have hg : goodB ps = true := by simpa [lineG, h2] using h
      have hs := rateP_sR hg
      have hp := prodR hs.2.1 hs.2.2 hs.1.1 hs.1.2
      exact fin hC BC3_ok (f107p1 std ps) (by simp [hg, hp]; omega) (by simp [lineB, h2, lineR]) rfl
def k107 : Ctr := ⟨107, 0, fun _ a => match a with | [.list (.big (.agg [.int .i64, .int .i64, .int .i64]) ps)] => some (decide (lineG ps = true), .bool (lineB ps), none) | _ => none⟩
theorem k107_ok : k107.OK Try.prog := fun pa args r fr h => by
  simp only [k107] at h
  split at h
  · simp only [Option.some.injEq, Prod.mk.injEq, decide_eq_true_eq] at h
    obtain ⟨h0, rfl, rfl⟩ := h
    exact line107_ok _ h0
  · cases h
def BC4 : List Ctr := [k107] ++ BC3
theorem BC4_ok : CtrsOK Try.prog BC4 := ⟨k107_ok, BC3_ok⟩
end Go.Proofs.Ytjhdnpmojhkbjaa
/- Contracts as a list. No condition. -/
namespace Go.Proofs.Ytjhdnpmojhkbjaa
inductive FrzN (r : Row) : AV → AV → Prop
  | row : FrzN r (.row 0 0) (.list r)
  | same (v : AV) (hp : v.pure = true) : FrzN r v v
def FrzNL (r : Row) : List AV → List AV → Prop
  | [], [] => True
  | x :: xs, y :: ys => FrzN r x y ∧ FrzNL r xs ys
  | _, _ => False
theorem FrzNL.spec {r : Row} : ∀ {xs ys : List AV}, FrzNL r xs ys → xs.length = ys.length ∧ ∀ (j : Nat) (y : AV), ys[j]? = some y → ∃ x, xs[j]? = some x ∧ FrzN r x y
  | [], [], _ => ⟨rfl, fun j y h => by simp at h⟩
  | x :: xs, y :: ys, h => by
    obtain ⟨h1, h2⟩ := h
    obtain ⟨e1, e2⟩ := FrzNL.spec h2
    refine ⟨by simp [e1], fun j z hz => ?_⟩
    cases j with
    | zero => simp at hz; subst hz; exact ⟨x, rfl, h1⟩
    | succ j => obtain ⟨q, q1, q2⟩ := e2 j z (by simpa using hz); exact ⟨q, by simpa using q1, q2⟩
theorem frz_tup {f : FuncId} {args xs ys : List AV} {e sz : Nat} {r : Row} (h : Pure Try.prog f args (.tup xs) (some ⟨e, sz + 1, r⟩)) (hp : r.pure = true) (hs : FrzNL r xs ys) : Pure Try.prog f args (.tup ys) none := by
  intro w okA L vs hargs hok
  refine (h w okA L vs hargs hok).mono ?_
  rintro e' w' ⟨x, L', rfl, hb, hpo⟩
  obtain ⟨H, hr⟩ : HRel ⟨Try.prog, w, okA, []⟩ (frHeap (some ⟨e, sz + 1, r⟩)) L' w' ∧ RelC ⟨Try.prog, w, okA, []⟩ (frHeap (some ⟨e, sz + 1, r⟩)) L' w' (.tup xs) x := hpo
  refine ⟨x, L', rfl, hb, ?_⟩
  show HRel _ (frHeap none) L' w' ∧ RelC _ (frHeap none) L' w' (.tup ys) x
  refine ⟨H.nil, ?_⟩
  have hbk : blk (frHeap (some ⟨e, sz + 1, r⟩)) 0 0 = .row e (sz + 1) r := rfl
  obtain ⟨ht, h0, h1, h2, h3, cur, h4, h5, h6, h7, h8⟩ := H.rowAt hbk
  have hl := H.live 0 0 (by rw [ht]; simp)
  have hpa := pureL_flatAll hp
  obtain ⟨e1, e2⟩ := hs.spec
  cases hr with
  | tup _ vs hlen hrr =>
    refine .tup _ vs (by rw [← e1]; exact hlen) (fun j u v hu hv => ?_)
    obtain ⟨q, q1, q2⟩ := e2 j u hu
    have hqv := hrr j q v q1 hv
    cases q2 with
    | same _ hpu => exact (hqv.okmono (fun g _ ho => okOf_nil ho)).pure hpu
    | row =>
      cases hqv with
      | row _ _ g o n c hn hlv =>
        obtain ⟨rfl, rfl, rfl, rfl⟩ := hlv.2 _ ht
        exact .list r _ rfl ⟨L'.loc 0 0, 0, none⟩ _ _ (sz + 1) _ hl.2 (.inr ⟨hl.1, fun a i ht => absurd rfl ht⟩) rfl hn h3 h6.1.symm h7 (fun j v hj => h8 j v hj) hpa
          (fun j u v hu hv => ((h6.2 j u v hu hv).okmono (fun g _ ho => okOf_nil ho)).pure (AV.pureL_mem hpa hu))
theorem chkL_ok : ∀ {ps : List AV} {last : Int} {i : Nat}, (chkL last i ps).2 = 0 → (∀ p ∈ ps, okP (pC p) (pL p) (pH p) = true ∧ last < pC p) ∧ ps.Pairwise (fun p q => pC p < pC q)
  | [], _, _, _ => ⟨fun _ h => absurd h List.not_mem_nil, List.Pairwise.nil⟩
  | p :: ps, last, i, h => by
    rw [chkL] at h
    split at h
    · rename_i h1
      split at h
      · rename_i h2
        obtain ⟨h3, h4⟩ := chkL_ok h
        refine ⟨fun q hq => ?_, List.pairwise_cons.2 ⟨fun q hq => (h3 q hq).2, h4⟩⟩
        rcases List.mem_cons.1 hq with rfl | hq
        · exact ⟨h1, h2.2⟩
        · have := h3 q hq
          exact ⟨this.1, by omega⟩
      · simp at h
    · simp at h
def allQ (ps : List AV) : Prop := ∀ i k, i < ps.length → k < i → okQ (ps.getD i (.int .i64 0)) (ps.getD k (.int .i64 0))
theorem chkP_ok {ps : List AV} (h : (chkP ps).2 = 0) : 0 < ps.length ∧ ps.length ≤ 20 ∧ allQ ps := by
  unfold chkP at h
  split at h
  · simp at h
  · split at h
    · simp at h
    · obtain ⟨h1, h2⟩ := chkL_ok h
      refine ⟨by omega, by omega, fun i k hi hk => ?_⟩
      have hk' : k < ps.length := by omega
      have e1 : ps.getD i (.int .i64 0) = ps[i] := by simp [hi]
      have e2 : ps.getD k (.int .i64 0) = ps[k] := by simp [hk']
      rw [e1, e2]
      have a := (h1 ps[i] (by simp)).1
      have b := (h1 ps[k] (by simp)).1
      have c := List.pairwise_iff_getElem.1 h2 k i hk' hi hk
      simp only [okP, decide_eq_true_eq] at a b
      unfold okQ
      omega
theorem allQ_good {ps : List AV} (h : allQ ps) (h2 : 2 ≤ ps.length) (hl : ps.length ≤ 1000000) : goodB ps = true := by
  rw [goodB, Bool.and_eq_true, decide_eq_true_eq, List.all_eq_true]
  refine ⟨⟨h2, hl⟩, fun i hi => ?_⟩
  rw [List.all_eq_true]
  intro k hk
  exact decide_eq_true (h i k (List.mem_range.1 hi) (List.mem_range.1 hk))
theorem allQ_line {ps : List AV} (h : allQ ps) (hl : ps.length ≤ 1000000) (a n : Nat) : lineG ((ps.drop a).take n) = true := by
  rw [lineG, Bool.or_eq_true]
  by_cases h2 : ((ps.drop a).take n).length < 2
  · exact .inl (decide_eq_true h2)
  · refine .inr (allQ_good (fun i k hi hk => ?_) (by omega) (by rw [List.length_take, List.length_drop]; omega))
    rw [List.length_take, List.length_drop] at hi
    have e : ∀ j, j < n → a + j < ps.length → ((ps.drop a).take n).getD j (.int .i64 0) = ps.getD (a + j) (.int .i64 0) := fun j h1 h2 => by
      simp [List.getElem?_drop, h1, h2]
    rw [e i (by omega) (by omega), e k (by omega) (by omega)]
    exact h (a + i) (a + k) (by omega) (by omega)
def BC5 : List Ctr := BC4
theorem BC5_ok : CtrsOK Try.prog BC5 := BC4_ok
end Go.Proofs.Ytjhdnpmojhkbjaa
/- Paths of functions, printed by the explorer (Gx). No condition. -/
namespace Go.Proofs.Ytjhdnpmojhkbjaa
set_option maxRecDepth 100000
set_option linter.unusedVariables false
def f42e (ps : List AV) : List AFrame := [{ fn := 42, N := 27, env := [(0, AV.list (Row.big (Sh.agg [Sh.int .i64, Sh.int .i64, Sh.int .i64]) ps))], todo := [.code a42.code], defs := [], rnd := none, ret := false, res := [ARes.cell 2 true 4, ARes.tmp 3] }]
theorem f42e_at (ps : List AV) : enterA tab 42 [AV.list (Row.big (Sh.agg [Sh.int .i64, Sh.int .i64, Sh.int .i64]) ps)] = some { fn := 42, N := 27, env := [(0, AV.list (Row.big (Sh.agg [Sh.int .i64, Sh.int .i64, Sh.int .i64]) ps))], todo := [.code a42.code], defs := [], rnd := none, ret := false, res := [ARes.cell 2 true 4, ARes.tmp 3] } := rfl
def f42h42_0a (n0 : Int) (n1 : Int) (n2 : Int) (n3 : Int) (n4 : Int) (n5 : Int) (n6 : Int) (n7 : Int) (n8 : Int) : List AFrame := [{ fn := 42, N := 27, env := [(2, AV.ptr 42003 0 0 0), (5, AV.ptr 42006 0 0 0), (16, AV.agg (Row.gen [AV.int .i64 n0, AV.int .i64 n1, AV.int .i64 n2, AV.int .i64 n3])), (17, AV.int .i64 n8)], todo := .code (ACode.gh [] l42_0) :: k42_0, defs := [], rnd := none, ret := false, res := [ARes.cell 2 true 4, ARes.tmp 3] }]
def f42h42_0am (n0 : Int) (n1 : Int) (n2 : Int) (n3 : Int) (n4 : Int) (n5 : Int) (n6 : Int) (n7 : Int) (n8 : Int) : AHeap := [(42003, { base := 0, blks := [Blk.row 80 4 (Row.gen [AV.agg (.ints .i64 [0, 0, 0, 0])])] }), (42006, { base := 0, blks := [Blk.row 80 4 (Row.gen [AV.agg (Row.gen [AV.int .i64 n4, AV.int .i64 n5, AV.int .i64 n6, AV.int .i64 n7])])] })]
theorem f42p0 (A : Ar) (ps : List AV) : gfin A tab BC5 55 [true, true] 42 (f42e ps) [] =
  some ([A.and (A.and (A.and (A.ltN 0 1) (A.leN (A.addN 0 4) (A.len [0, 0, 0, 0]))) true) (A.and true (A.and true true)), true, A.and (A.ltN 0 1) (A.eqN (A.len [0, 0, 0, 0]) 4), true, true, A.not (A.eq (chkP ps).2 0), true, true, true, true, true, true, A.not (A.eq (chkP ps).2 0), true, true, true, true, true, true, true, A.and true (Decidable.decide (List.length ps ≤ 1000000)), true, true, true, true, A.and true (A.ltN 0 (A.len [0, 0, 0, 0]))],
   AV.tup [AV.agg (.ints .i64 (A.sub3 [0, 0, 0, 0] 0 4)), AV.int .i64 (chkP ps).2], none) := by kernel_rfl
theorem f42p1 (A : Ar) (ps : List AV) : gfin A tab BC5 65 [false, true] 42 (f42e ps) [] =
  some ([A.and (A.and (A.and (A.ltN 0 1) (A.leN (A.addN 0 4) (A.len [0, 0, 0, 0]))) true) (A.and true (A.and true true)), true, A.and (A.ltN 0 1) (A.eqN (A.len [0, 0, 0, 0]) 4), true, true, A.not (A.eq (firstE [unlessE (A.lt 1 (A.int (A.lenA ps))) 10, unlessE (lineB ps) 13]) 0), true, true, true, true, true, A.and (A.and true true) (Decidable.decide (List.length [unlessE (A.lt 1 (A.int (A.lenA ps))) 10, unlessE (lineB ps) 13] ≤ 1000000)), List.all [AV.int .i64 (unlessE (A.lt 1 (A.int (A.lenA ps))) 10), AV.int .i64 (unlessE (lineB ps) 13)] fun x => AV.bx x && Nat.beq (flatLen A x) 1, A.and true true, A.and true (Decidable.decide (lineG ps = true)), true, A.and true true, true, true, true, !A.not (A.eq (chkP ps).2 0), true, true, true, true, true, true, true, A.and true (Decidable.decide (List.length ps ≤ 1000000)), true, true, true, true, A.and true (A.ltN 0 (A.len [0, 0, 0, 0]))],
   AV.tup [AV.agg (.ints .i64 (A.sub3 [0, 0, 0, 0] 0 4)), AV.int .i64 (firstE [unlessE (A.lt 1 (A.int (A.lenA ps))) 10, unlessE (lineB ps) 13])], none) := by kernel_rfl
theorem f42p2 (A : Ar) (ps : List AV) : gwalkL A tab BC5 74 [false, false] (f42e ps) [] =
  some ([true, A.and (A.ltN 0 1) (A.leN (A.addN 0 4) 4), A.and (A.ltN 0 1) (A.eqN 4 4), A.and true (A.ltN 0 (A.len [0, 0, 0, 0])), A.and true (Decidable.decide (goodB ps = true)), true, !A.not (A.eq (firstE [unlessE (A.lt 1 (A.int (A.lenA ps))) 10, unlessE (lineB ps) 13]) 0), true, true, true, true, true, A.and (A.and true true) (Decidable.decide (List.length [unlessE (A.lt 1 (A.int (A.lenA ps))) 10, unlessE (lineB ps) 13] ≤ 1000000)), List.all [AV.int .i64 (unlessE (A.lt 1 (A.int (A.lenA ps))) 10), AV.int .i64 (unlessE (lineB ps) 13)] fun x => AV.bx x && Nat.beq (flatLen A x) 1, A.and true true, A.and true (Decidable.decide (lineG ps = true)), true, A.and true true, true, true, true, !A.not (A.eq (chkP ps).2 0), true, true, true, true, true, true, true, A.and true (Decidable.decide (List.length ps ≤ 1000000)), true, true, true, true, A.and true (A.ltN 0 (A.len [0, 0, 0, 0]))],
   f42h42_0a ((rateP ps).1) ((rateP ps).snd.1) ((rateP ps).snd.snd.1) ((rateP ps).snd.snd.2) ((rateP ps).1) ((rateP ps).snd.1) ((rateP ps).snd.snd.1) ((rateP ps).snd.snd.2) (0), f42h42_0am ((rateP ps).1) ((rateP ps).snd.1) ((rateP ps).snd.snd.1) ((rateP ps).snd.snd.2) ((rateP ps).1) ((rateP ps).snd.1) ((rateP ps).snd.snd.1) ((rateP ps).snd.snd.2) (0)) := by kernel_rfl
theorem f42p3 (A : Ar) (n0 : Int) (n1 : Int) (n2 : Int) (n3 : Int) (n4 : Int) (n5 : Int) (n6 : Int) (n7 : Int) (n8 : Int) : gfin A tab BC5 31 [true, true] 42 (f42h42_0a n0 n1 n2 n3 n4 n5 n6 n7 n8) (f42h42_0am n0 n1 n2 n3 n4 n5 n6 n7 n8) =
  some ([A.and (A.and (A.and (A.ltN 0 1) (A.leN (A.addN 0 4) (A.len [0, 0, 0, 0]))) true) (A.and true (A.and true true)), true, A.and (A.ltN 0 1) (A.eqN (A.len [0, 0, 0, 0]) 4), true, A.not (Decidable.decide (-1000000000 ≤ A.nth (A.sub3 [n0, n1, n2, n3] (Nat.add (Nat.mul (A.nat n8) 1) (A.nat n8)) 2) 0 ∧ A.nth (A.sub3 [n0, n1, n2, n3] (Nat.add (Nat.mul (A.nat n8) 1) (A.nat n8)) 2) 0 ≤ 1000000000)), true, A.and true true, A.and (A.ltN 0 1) (A.ltN 0 (A.len (A.sub3 [n0, n1, n2, n3] (Nat.add (Nat.mul (A.nat n8) 1) (A.nat n8)) 2))), true, A.and (A.ltN 0 1) (A.eqN (A.len (A.sub3 [n0, n1, n2, n3] (Nat.add (Nat.mul (A.nat n8) 1) (A.nat n8)) 2)) 2), A.and true (A.ltN 0 2), A.and (A.and (A.le 0 n8) (A.lt n8 (A.int 2))) (A.leN (A.addN (Nat.add (Nat.mul (A.nat n8) 1) (A.nat n8)) 2) 4), A.lt n8 2, true],
   AV.tup [AV.agg (.ints .i64 (A.sub3 [0, 0, 0, 0] 0 4)), AV.int .i64 8], none) := by kernel_rfl
theorem f42p4 (A : Ar) (n0 : Int) (n1 : Int) (n2 : Int) (n3 : Int) (n4 : Int) (n5 : Int) (n6 : Int) (n7 : Int) (n8 : Int) : gwalkL A tab BC5 32 [true, false] (f42h42_0a n0 n1 n2 n3 n4 n5 n6 n7 n8) (f42h42_0am n0 n1 n2 n3 n4 n5 n6 n7 n8) =
  some ([true, A.inR .i64 (A.add n8 1), !A.not (Decidable.decide (-1000000000 ≤ A.nth (A.sub3 [n0, n1, n2, n3] (Nat.add (Nat.mul (A.nat n8) 1) (A.nat n8)) 2) 0 ∧ A.nth (A.sub3 [n0, n1, n2, n3] (Nat.add (Nat.mul (A.nat n8) 1) (A.nat n8)) 2) 0 ≤ 1000000000)), true, A.and true true, A.and (A.ltN 0 1) (A.ltN 0 (A.len (A.sub3 [n0, n1, n2, n3] (Nat.add (Nat.mul (A.nat n8) 1) (A.nat n8)) 2))), true, A.and (A.ltN 0 1) (A.eqN (A.len (A.sub3 [n0, n1, n2, n3] (Nat.add (Nat.mul (A.nat n8) 1) (A.nat n8)) 2)) 2), A.and true (A.ltN 0 2), A.and (A.and (A.le 0 n8) (A.lt n8 (A.int 2))) (A.leN (A.addN (Nat.add (Nat.mul (A.nat n8) 1) (A.nat n8)) 2) 4), A.lt n8 2, true],
   f42h42_0a (n0) (n1) (n2) (n3) (n4) (n5) (n6) (n7) (A.add n8 1), f42h42_0am (n0) (n1) (n2) (n3) (n4) (n5) (n6) (n7) (A.add n8 1)) := by kernel_rfl
theorem f42p5 (A : Ar) (n0 : Int) (n1 : Int) (n2 : Int) (n3 : Int) (n4 : Int) (n5 : Int) (n6 : Int) (n7 : Int) (n8 : Int) : gfin A tab BC5 15 [false] 42 (f42h42_0a n0 n1 n2 n3 n4 n5 n6 n7 n8) (f42h42_0am n0 n1 n2 n3 n4 n5 n6 n7 n8) =
  some ([A.and (A.and (A.and (A.ltN 0 1) (A.leN (A.addN 0 4) 4)) true) (A.and true (A.and true true)), true, A.and (A.ltN 0 1) (A.eqN 4 4), A.and (A.ltN 0 1) (A.leN (A.addN 0 4) 4), !A.lt n8 2, true],
   AV.tup [AV.agg (Row.gen [AV.int .i64 n4, AV.int .i64 n5, AV.int .i64 n6, AV.int .i64 n7]), AV.int .i64 0], none) := by kernel_rfl
def f43e (ps : List AV) : List AFrame := [{ fn := 43, N := 52, env := [(0, AV.list (Row.big (Sh.agg [Sh.int .i64, Sh.int .i64, Sh.int .i64]) ps))], todo := [.code a43.code], defs := [], rnd := none, ret := false, res := [ARes.tmp 2, ARes.tmp 3] }]
theorem f43e_at (ps : List AV) : enterA tab 43 [AV.list (Row.big (Sh.agg [Sh.int .i64, Sh.int .i64, Sh.int .i64]) ps)] = some { fn := 43, N := 52, env := [(0, AV.list (Row.big (Sh.agg [Sh.int .i64, Sh.int .i64, Sh.int .i64]) ps))], todo := [.code a43.code], defs := [], rnd := none, ret := false, res := [ARes.tmp 2, ARes.tmp 3] } := rfl
def f43h43_0a (ps : List AV) (n0 : Int) : List AFrame := [{ fn := 43, N := 52, env := [(0, AV.list (Row.big (Sh.agg [Sh.int .i64, Sh.int .i64, Sh.int .i64]) ps)), (6, AV.nils), (18, AV.int .i64 n0), (19, AV.int .i64 0)], todo := .code (ACode.gh [] l43_0) :: k43_0, defs := [], rnd := none, ret := false, res := [ARes.tmp 2, ARes.tmp 3] }]
def f43h43_0am (ps : List AV) (n0 : Int) : AHeap := []
def f43h43_0b (ps : List AV) (n0 : Int) (n1 : Int) (x2 : List AV) : List AFrame := [{ fn := 43, N := 52, env := [(0, AV.list (Row.big (Sh.agg [Sh.int .i64, Sh.int .i64, Sh.int .i64]) ps)), (6, AV.row 43050 0), (18, AV.int .i64 n0), (19, AV.int .i64 n1)], todo := .code (ACode.gh [] l43_0) :: k43_0, defs := [], rnd := none, ret := false, res := [ARes.tmp 2, ARes.tmp 3] }]
def f43h43_0bm (ps : List AV) (n0 : Int) (n1 : Int) (x2 : List AV) : AHeap := [(43050, { base := 0, blks := [Blk.row 40 2 (Row.big (Sh.agg [Sh.int .i64, Sh.int .i64]) x2)] })]
theorem f43p0 (A : Ar) (ps : List AV) : gfin A tab BC5 30 [true] 43 (f43e ps) [] =
  some ([A.and true (A.and true (A.and true true)), true, true, true, A.not (A.eq (chkP ps).2 0), true, true, true, true, true, true, true, A.and true (Decidable.decide (List.length ps ≤ 1000000)), true, true, true],
   AV.tup [AV.nils, AV.int .i64 (chkP ps).2], none) := by kernel_rfl
theorem f43p1 (A : Ar) (ps : List AV) : gwalkL A tab BC5 38 [false] (f43e ps) [] =
  some ([true, true, true, true, !A.not (A.eq (chkP ps).2 0), true, true, true, true, true, true, true, A.and true (Decidable.decide (List.length ps ≤ 1000000)), true, true, true],
   f43h43_0a (ps) (A.int (A.lenA ps)), f43h43_0am (ps) (A.int (A.lenA ps))) := by kernel_rfl
theorem f43p2 (A : Ar) (ps : List AV) (n0 : Int) : gwalkL A tab BC5 59 [true, false, false, false, false, false, false, false, false, false, false, false, false] (f43h43_0a ps n0) (f43h43_0am ps n0) =
  some ([true, A.inR .i64 (A.add 0 1), true, A.and (A.and true (A.eqN 2 2)) (A.and (A.leN (A.lenA [AV.agg (Row.gen [AV.int .i64 0, AV.int .i64 0])]) 4294967296) (A.ltN 0 (A.lenA [AV.agg (Row.gen [AV.int .i64 0, AV.int .i64 0])]))), List.all [AV.agg (Row.gen [AV.int .i64 0, AV.int .i64 0])] fun x => AV.bx x && Nat.beq (flatLen A x) 2, A.and (A.and true (A.eqN 1 1)) (A.and (A.leN (A.addN 0 1) 2) (A.and (A.ltN 0 1) (A.and (A.and true (A.eqN 1 1)) (A.and (A.leN (A.addN 1 1) 2) (A.and (A.ltN 0 1) true))))), true, true, true, true, true, true, true, true, true, true, true, true, true, true, true, true, true, true, true, true, true, true, true, true, true, !A.le 0 (A.sub (A.int 0) 1), true, true, true, true, A.inR .i64 (A.sub (A.int 0) 1), true, true, true, true, A.lt 0 n0, true],
   f43h43_0b (ps) (n0) (A.add 0 1) ([AV.agg (Row.gen [AV.int .i64 0, AV.int .i64 0])]), f43h43_0bm (ps) (n0) (A.add 0 1) ([AV.agg (Row.gen [AV.int .i64 0, AV.int .i64 0])])) := by kernel_rfl
theorem f43p4 (A : Ar) (ps : List AV) (n0 : Int) (n1 : Int) (x2 : List AV) : gwalkL A tab BC5 58 [true, true, true, true, true, true, true, true, true, true, true, true, true] (f43h43_0b ps n0 n1 x2) (f43h43_0bm ps n0 n1 x2) =
  some ([true, A.inR .i64 (A.add n1 1), A.and (A.ltN (A.nat (A.sub (A.int (A.lenA x2)) 1)) (A.lenA x2)) (A.and (A.and true (A.eqN 1 1)) (A.ltN 1 2)), true, A.and (A.eqN 2 2) (A.and (A.le 0 (A.sub (A.int (A.lenA x2)) 1)) (A.ltN (A.nat (A.sub (A.int (A.lenA x2)) 1)) (A.lenA x2))), true, true, true, lineB (A.subA ps (A.nat (AV.toI (AV.cellAt (A.nthA x2 (A.nat (A.sub (A.int (A.lenA x2)) 1))) 0))) (A.subN (A.nat (A.add n1 1)) (A.nat (AV.toI (AV.cellAt (A.nthA x2 (A.nat (A.sub (A.int (A.lenA x2)) 1))) 0))))), true, true, A.and true (Decidable.decide (lineG (A.subA ps (A.nat (AV.toI (AV.cellAt (A.nthA x2 (A.nat (A.sub (A.int (A.lenA x2)) 1))) 0))) (A.subN (A.nat (A.add n1 1)) (A.nat (AV.toI (AV.cellAt (A.nthA x2 (A.nat (A.sub (A.int (A.lenA x2)) 1))) 0))))) = true)), true, A.and (A.and (A.le 0 (AV.toI (AV.cellAt (A.nthA x2 (A.nat (A.sub (A.int (A.lenA x2)) 1))) 0))) (A.le 0 (A.add n1 1))) (A.and (A.and (A.leN (A.nat (AV.toI (AV.cellAt (A.nthA x2 (A.nat (A.sub (A.int (A.lenA x2)) 1))) 0))) (A.nat (A.add n1 1))) (A.leN (A.nat (A.add n1 1)) (A.lenA ps))) (A.and (A.eqN 3 3) true)), true, A.inR .i64 (A.add n1 1), true, true, true, A.and (A.ltN (A.nat (A.sub (A.int (A.lenA x2)) 1)) (A.lenA x2)) (A.ltN 0 2), true, true, true, A.and (A.eqN 2 2) (A.and (A.le 0 (A.sub (A.int (A.lenA x2)) 1)) (A.ltN (A.nat (A.sub (A.int (A.lenA x2)) 1)) (A.lenA x2))), true, true, true, true, true, true, A.le 0 (A.sub (A.int (A.lenA x2)) 1), true, true, true, true, A.inR .i64 (A.sub (A.int (A.lenA x2)) 1), true, true, true, true, A.lt n1 n0, true],
   f43h43_0b (ps) (n0) (A.add n1 1) (A.setA x2 (A.nat (A.sub (A.int (A.lenA x2)) 1)) (AV.agg (Row.set A (Row.gen (viewL [Sh.int .i64, Sh.int .i64] 0 (A.nthA x2 (A.nat (A.sub (A.int (A.lenA x2)) 1))))) 1 (AV.int .i64 n1)))), f43h43_0bm (ps) (n0) (A.add n1 1) (A.setA x2 (A.nat (A.sub (A.int (A.lenA x2)) 1)) (AV.agg (Row.set A (Row.gen (viewL [Sh.int .i64, Sh.int .i64] 0 (A.nthA x2 (A.nat (A.sub (A.int (A.lenA x2)) 1))))) 1 (AV.int .i64 n1))))) := by kernel_rfl
theorem f43p5 (A : Ar) (ps : List AV) (n0 : Int) (n1 : Int) (x2 : List AV) : gwalkL A tab BC5 59 [true, true, true, true, true, true, true, true, true, true, true, true, false] (f43h43_0b ps n0 n1 x2) (f43h43_0bm ps n0 n1 x2) =
  some ([true, A.inR .i64 (A.add n1 1), true, A.and (A.and true (A.eqN 2 2)) (A.and (A.eqN 40 40) (A.and (A.eqN 2 2) (A.leN (A.addN (A.lenA x2) (A.lenA [AV.agg (Row.gen [AV.int .i64 n1, AV.int .i64 n1])])) 4294967296))), List.all [AV.agg (Row.gen [AV.int .i64 n1, AV.int .i64 n1])] fun x => AV.bx x && Nat.beq (flatLen A x) 2, A.and (A.and true (A.eqN 1 1)) (A.and (A.leN (A.addN 0 1) 2) (A.and (A.ltN 0 1) (A.and (A.and true (A.eqN 1 1)) (A.and (A.leN (A.addN 1 1) 2) (A.and (A.ltN 0 1) true))))), true, true, true, !lineB (A.subA ps (A.nat (AV.toI (AV.cellAt (A.nthA x2 (A.nat (A.sub (A.int (A.lenA x2)) 1))) 0))) (A.subN (A.nat (A.add n1 1)) (A.nat (AV.toI (AV.cellAt (A.nthA x2 (A.nat (A.sub (A.int (A.lenA x2)) 1))) 0))))), true, true, A.and true (Decidable.decide (lineG (A.subA ps (A.nat (AV.toI (AV.cellAt (A.nthA x2 (A.nat (A.sub (A.int (A.lenA x2)) 1))) 0))) (A.subN (A.nat (A.add n1 1)) (A.nat (AV.toI (AV.cellAt (A.nthA x2 (A.nat (A.sub (A.int (A.lenA x2)) 1))) 0))))) = true)), true, A.and (A.and (A.le 0 (AV.toI (AV.cellAt (A.nthA x2 (A.nat (A.sub (A.int (A.lenA x2)) 1))) 0))) (A.le 0 (A.add n1 1))) (A.and (A.and (A.leN (A.nat (AV.toI (AV.cellAt (A.nthA x2 (A.nat (A.sub (A.int (A.lenA x2)) 1))) 0))) (A.nat (A.add n1 1))) (A.leN (A.nat (A.add n1 1)) (A.lenA ps))) (A.and (A.eqN 3 3) true)), true, A.inR .i64 (A.add n1 1), true, true, true, A.and (A.ltN (A.nat (A.sub (A.int (A.lenA x2)) 1)) (A.lenA x2)) (A.ltN 0 2), true, true, true, A.and (A.eqN 2 2) (A.and (A.le 0 (A.sub (A.int (A.lenA x2)) 1)) (A.ltN (A.nat (A.sub (A.int (A.lenA x2)) 1)) (A.lenA x2))), true, true, true, true, true, true, A.le 0 (A.sub (A.int (A.lenA x2)) 1), true, true, true, true, A.inR .i64 (A.sub (A.int (A.lenA x2)) 1), true, true, true, true, A.lt n1 n0, true],
   f43h43_0b (ps) (n0) (A.add n1 1) (A.appA x2 [AV.agg (Row.gen [AV.int .i64 n1, AV.int .i64 n1])]), f43h43_0bm (ps) (n0) (A.add n1 1) (A.appA x2 [AV.agg (Row.gen [AV.int .i64 n1, AV.int .i64 n1])])) := by kernel_rfl
theorem f43p7 (A : Ar) (ps : List AV) (n0 : Int) (n1 : Int) (x2 : List AV) : gfin A tab BC5 15 [false] 43 (f43h43_0b ps n0 n1 x2) (f43h43_0bm ps n0 n1 x2) =
  some ([A.and true (A.and true (A.and true true)), true, true, true, !A.lt n1 n0, true],
   AV.tup [AV.row 0 0, AV.int .i64 0], some { e := 40, sz := 2, r := Row.big (Sh.agg [Sh.int .i64, Sh.int .i64]) x2 }) := by kernel_rfl
end Go.Proofs.Ytjhdnpmojhkbjaa
/- Contracts as a list. No condition. -/
namespace Go.Proofs.Ytjhdnpmojhkbjaa
def mkR (p : Int × Int) : AV := .agg (.gen [.int .i64 p.1, .int .i64 p.2])
def pcsP (ps : List AV) : Nat → Nat → Nat → List (Int × Int)
  | 0, lo, i => [((lo : Int), (i : Int) - 1)]
  | n + 1, lo, i => if lineB ((ps.drop lo).take (i + 1 - lo)) = true then pcsP ps n lo (i + 1) else ((lo : Int), (i : Int) - 1) :: pcsP ps n i (i + 1)
def pieA (ps : List AV) : List AV := if (chkP ps).2 = 0 then (pcsP ps (ps.length - 1) 0 1).map mkR else []
@[simp] theorem bx_ii (a b : Int) : (AV.agg (Row.gen [AV.int .i64 a, AV.int .i64 b])).bx = true := rfl
@[simp] theorem fl_ii (a b : Int) : flatLen std (AV.agg (Row.gen [AV.int .i64 a, AV.int .i64 b])) = 2 := rfl
@[simp] theorem bx_i (a : Int) : (AV.int .i64 a).bx = true := rfl
@[simp] theorem fl_i (a : Int) : flatLen std (AV.int .i64 a) = 1 := rfl
theorem l43 {C : Ctx} (hC : C.P = Try.prog) (ps : List AV) (hl : ps.length ≤ 1000000) (hq : allQ ps) (T : List (Int × Int)) : ∀ (n lo i : Nat) (acc : List (Int × Int)), i + n = ps.length → lo < i → acc.length ≤ lo → acc ++ pcsP ps n lo i = T →
    Ev C (f43h43_0b ps ps.length i ((acc ++ [((lo : Int), (i : Int) - 1)]).map mkR)) (f43h43_0bm ps ps.length i ((acc ++ [((lo : Int), (i : Int) - 1)]).map mkR)) (FinQ 43 (.tup [.row 0 0, .int .i64 0]) (some ⟨40, 2, .big (.agg [.int .i64, .int .i64]) (T.map mkR)⟩)) := by
  intro n
  induction n with
  | zero =>
    intro lo i acc hn hlo hac hT
    rw [pcsP] at hT
    rw [hT]
    exact fin hC BC5_ok (f43p7 std ps _ _ (T.map mkR)) (by simp; omega) rfl rfl
  | succ n ih =>
    intro lo i acc hn hlo hac hT
    have hlen : ((acc ++ [((lo : Int), (i : Int) - 1)]).map mkR).length = acc.length + 1 := by simp
    have hget : ((acc ++ [((lo : Int), (i : Int) - 1)]).map mkR)[acc.length]? = some (mkR ((lo : Int), (i : Int) - 1)) := by simp
    generalize hX : (acc ++ [((lo : Int), (i : Int) - 1)]).map mkR = X at *
    have e1 : std.nthA X (std.nat (acc.length : Int)) = mkR ((lo : Int), (i : Int) - 1) := by simp [hget]
    have e8 : AV.toI (AV.cellAt (mkR ((lo : Int), (i : Int) - 1)) 0) = (lo : Int) := rfl
    have e2 : std.nat (lo : Int) = lo := by simp
    have e3 : std.subA ps lo (std.subN (std.nat (std.add (i : Int) 1)) lo) = (ps.drop lo).take (i + 1 - lo) := by
      have h2 : std.nat (std.add (i : Int) 1) = i + 1 := by simp
      rw [h2]; simp
    have hg := allQ_line hq hl lo (i + 1 - lo)
    have e5 : std.add (i : Int) 1 = ((i + 1 : Nat) : Int) := by simp
    have e6 : std.sub (std.int (std.lenA X)) 1 = (acc.length : Int) := by simp [hlen]
    rw [pcsP] at hT
    by_cases h : lineB ((ps.drop lo).take (i + 1 - lo)) = true
    · rw [if_pos h] at hT
      refine go hC BC5_ok (f43p4 std ps ps.length i X) ?_ ?_
      · simp only [e1, e8, e2, e3, e6, hg, h]; simp [hlen]; omega
      · have := ih lo (i + 1) acc (by omega) (by omega) hac hT
        have e : std.setA X (std.nat (std.sub (std.int (std.lenA X)) 1)) (AV.agg (Row.set std (Row.gen (viewL [Sh.int .i64, Sh.int .i64] 0 (std.nthA X (std.nat (std.sub (std.int (std.lenA X)) 1))))) 1 (AV.int .i64 (i : Int)))) = (acc ++ [((lo : Int), ((i + 1 : Nat) : Int) - 1)]).map mkR := by
          rw [e6, e1, ← hX]
          have e7 : ((i + 1 : Nat) : Int) - 1 = (i : Int) := by omega
          rw [e7]
          simp [mkR, viewL, Sh.view1, AV.cellAt, AV.toI, Row.set, Row.elems]
        rw [e, e5]
        exact this
    · rw [if_neg h] at hT
      refine go hC BC5_ok (f43p5 std ps ps.length i X) ?_ ?_
      · simp only [e1, e8, e2, e3, e6, hg, h]; simp [hlen]; omega
      · have := ih i (i + 1) (acc ++ [((lo : Int), (i : Int) - 1)]) (by omega) (by omega) (by simp; omega) (by rw [← hT]; simp)
        have e : std.appA X [AV.agg (Row.gen [AV.int .i64 (i : Int), AV.int .i64 (i : Int)])] = ((acc ++ [((lo : Int), (i : Int) - 1)]) ++ [((i : Int), ((i + 1 : Nat) : Int) - 1)]).map mkR := by
          rw [List.map_append, hX]; simp [mkR]
        rw [e, e5]
        exact this
theorem pie43_ok (ps : List AV) (h : ps.length ≤ 1000000) : Pure Try.prog 43 [.list (.big (.agg [.int .i64, .int .i64, .int .i64]) ps)] (.tup [.list (.big (.agg [.int .i64, .int .i64]) (pieA ps)), .int .i64 (chkP ps).2]) none := by
  by_cases hc : (chkP ps).2 = 0
  · obtain ⟨h0, hl, hq⟩ := chkP_ok hc
    rw [pieA, if_pos hc, hc]
    refine frz_tup (e := 40) (sz := 1) (r := .big (.agg [.int .i64, .int .i64]) ((pcsP ps (ps.length - 1) 0 1).map mkR)) (xs := [.row 0 0, .int .i64 0]) (start (f43e_at ps) fun C hC => ?_) rfl ⟨.row, .same _ rfl, trivial⟩
    refine go hC BC5_ok (f43p1 std ps) (by simp [h, hc]) ?_
    refine go hC BC5_ok (f43p2 std ps _) (by simp; omega) ?_
    have := l43 hC ps h hq _ (ps.length - 1) 0 1 [] (by omega) (by omega) (by simp) rfl
    simpa [mkR] using this
  · rw [pieA, if_neg hc]
    refine wk_tup (xs := [.nils, .int .i64 (chkP ps).2]) (start (f43e_at ps) fun C hC => ?_) ⟨.nil _ rfl, .same _, trivial⟩
    exact fin hC BC5_ok (f43p0 std ps) (by simp [h, hc]) rfl rfl
def smR (r : R4) : Bool := decide (-1000000000 ≤ r.1 ∧ r.1 ≤ 1000000000) && decide (-1000000000 ≤ r.2.2.1 ∧ r.2.2.1 ≤ 1000000000)
def rtE (ps : List AV) : Int := if (chkP ps).2 = 0 then (if ps.length < 2 then 10 else if lineS ps = true then (if smR (rateP ps) = true then 0 else 8) else 13) else (chkP ps).2
def rtV (ps : List AV) : R4 := if rtE ps = 0 then rateP ps else (0, 0, 0, 0)
theorem tup_agg {f : FuncId} {args : List AV} {r r' : Row} {e : Int} (h : Pure Try.prog f args (.tup [.agg r, .int .i64 e]) none) (he : r.elems = r'.elems) : Pure Try.prog f args (.tup [.agg r', .int .i64 e]) none := pure_mono h fun hr => by
  cases hr with
  | tup _ vs hl hrr =>
    refine .tup _ vs (by simpa using hl) (fun j u v hu hv => ?_)
    cases j with
    | zero =>
      simp at hu
      subst hu
      have := hrr 0 _ v rfl hv
      cases this with
      | agg _ xs hx vs hl h1 hrr => exact .agg r' xs (hx.trans he) vs hl h1 hrr
    | succ j => exact hrr (j + 1) u v (by simpa using hu) hv
theorem rat42_ok (ps : List AV) (h : ps.length ≤ 1000000) : Pure Try.prog 42 [.list (.big (.agg [.int .i64, .int .i64, .int .i64]) ps)] (.tup [.agg (.gen [.int .i64 (rtV ps).1, .int .i64 (rtV ps).2.1, .int .i64 (rtV ps).2.2.1, .int .i64 (rtV ps).2.2.2]), .int .i64 (rtE ps)]) none := by
  have z : ∀ e : Int, e ≠ 0 → rtE ps = e → Pure Try.prog 42 [.list (.big (.agg [.int .i64, .int .i64, .int .i64]) ps)] (.tup [.agg (.ints .i64 [0, 0, 0, 0]), .int .i64 e]) none →
      Pure Try.prog 42 [.list (.big (.agg [.int .i64, .int .i64, .int .i64]) ps)] (.tup [.agg (.gen [.int .i64 (rtV ps).1, .int .i64 (rtV ps).2.1, .int .i64 (rtV ps).2.2.1, .int .i64 (rtV ps).2.2.2]), .int .i64 (rtE ps)]) none := fun e he hr hp => by
    rw [rtV, if_neg (by rw [hr]; exact he), hr]
    exact tup_agg hp rfl
  by_cases hc : (chkP ps).2 = 0
  · obtain ⟨h0, hl, hq⟩ := chkP_ok hc
    have hg := allQ_line hq h 0 ps.length
    rw [List.drop_zero, List.take_length] at hg
    by_cases h2 : ps.length < 2
    · refine z 10 (by omega) (by rw [rtE, if_pos hc, if_pos h2]) (start (f42e_at ps) fun C hC => ?_)
      have e1 : std.lt 1 (std.int (std.lenA ps)) = false := by simp; omega
      have e2 : lineB ps = true := by simp [lineB, h2]
      refine fin hC BC5_ok (f42p1 std ps) ?_ ?_ rfl
      · rw [e1, e2]; simp [h, hc, hg, firstE]
      · rw [e1, e2]; simp [firstE]
    · have e1 : std.lt 1 (std.int (std.lenA ps)) = true := by simp; omega
      have hgo := allQ_good hq (by omega) h
      by_cases h3 : lineS ps = true
      · have e2 : lineB ps = true := by simp [lineB, h2]; exact h3
        have hE : rtE ps = if smR (rateP ps) = true then 0 else 8 := by rw [rtE, if_pos hc, if_neg h2, if_pos h3]
        have hgo42 : ∀ (Q : AV), (∀ C : Ctx, C.P = Try.prog → Ev C (f42h42_0a (rateP ps).1 (rateP ps).2.1 (rateP ps).2.2.1 (rateP ps).2.2.2 (rateP ps).1 (rateP ps).2.1 (rateP ps).2.2.1 (rateP ps).2.2.2 0) (f42h42_0am (rateP ps).1 (rateP ps).2.1 (rateP ps).2.2.1 (rateP ps).2.2.2 (rateP ps).1 (rateP ps).2.1 (rateP ps).2.2.1 (rateP ps).2.2.2 0) (FinQ 42 Q none)) → Pure Try.prog 42 [.list (.big (.agg [.int .i64, .int .i64, .int .i64]) ps)] Q none := fun Q hQ => start (f42e_at ps) fun C hC => by
          refine go hC BC5_ok (f42p2 std ps) ?_ (hQ C hC)
          rw [e1, e2]; simp [h, hc, hg, firstE, hgo]
        rcases hr : rateP ps with ⟨a, b, c, d⟩
        simp only [hr] at hE hgo42
        by_cases s1 : -1000000000 ≤ a ∧ a ≤ 1000000000
        · by_cases s2 : -1000000000 ≤ c ∧ c ≤ 1000000000
          · have hE0 : rtE ps = 0 := by rw [hE, if_pos (by simp [smR]; omega)]
            rw [rtV, if_pos hE0, hE0, hr]
            refine hgo42 _ fun C hC => ?_
            refine go hC BC5_ok (f42p4 std a b c d a b c d 0) (by simp [s1]) ?_
            refine go hC BC5_ok (f42p4 std a b c d a b c d _) (by simp [s2]) ?_
            exact fin hC BC5_ok (f42p5 std a b c d a b c d _) (by simp) rfl rfl
          · refine z 8 (by omega) (by rw [hE, if_neg (by simp [smR]; omega)]) (hgo42 _ fun C hC => ?_)
            refine go hC BC5_ok (f42p4 std a b c d a b c d 0) (by simp [s1]) ?_
            exact fin hC BC5_ok (f42p3 std a b c d a b c d _) (by simp; omega) (by simp) rfl
        · refine z 8 (by omega) (by rw [hE, if_neg (by simp [smR]; omega)]) (hgo42 _ fun C hC => ?_)
          exact fin hC BC5_ok (f42p3 std a b c d a b c d 0) (by simp; omega) (by simp) rfl
      · have e2 : lineB ps = false := by
          have h4 : lineS ps = false := by simpa using h3
          simp [lineB, h2]; exact h4
        refine z 13 (by omega) (by rw [rtE, if_pos hc, if_neg h2, if_neg h3]) (start (f42e_at ps) fun C hC => ?_)
        refine fin hC BC5_ok (f42p1 std ps) ?_ ?_ rfl
        · rw [e1, e2]; simp [h, hc, hg, firstE]
        · rw [e1, e2]; simp [firstE]
  · refine z (chkP ps).2 hc (by rw [rtE, if_neg hc]) (start (f42e_at ps) fun C hC => ?_)
    exact fin hC BC5_ok (f42p0 std ps) (by simp [h, hc]) (by simp) rfl
def k42 : Ctr := ⟨42, 0, fun _ a => match a with | [.list (.big (.agg [.int .i64, .int .i64, .int .i64]) ps)] => some (decide (ps.length ≤ 1000000), .tup [.agg (.gen [.int .i64 (rtV ps).1, .int .i64 (rtV ps).2.1, .int .i64 (rtV ps).2.2.1, .int .i64 (rtV ps).2.2.2]), .int .i64 (rtE ps)], none) | _ => none⟩
theorem k42_ok : k42.OK Try.prog := fun pa args r fr h => by
  simp only [k42] at h
  split at h
  · simp only [Option.some.injEq, Prod.mk.injEq, decide_eq_true_eq] at h
    obtain ⟨h0, rfl, rfl⟩ := h
    exact rat42_ok _ h0
  · cases h
def k43 : Ctr := ⟨43, 0, fun _ a => match a with | [.list (.big (.agg [.int .i64, .int .i64, .int .i64]) ps)] => some (decide (ps.length ≤ 1000000), .tup [.list (.big (.agg [.int .i64, .int .i64]) (pieA ps)), .int .i64 (chkP ps).2], none) | _ => none⟩
theorem k43_ok : k43.OK Try.prog := fun pa args r fr h => by
  simp only [k43] at h
  split at h
  · simp only [Option.some.injEq, Prod.mk.injEq, decide_eq_true_eq] at h
    obtain ⟨h0, rfl, rfl⟩ := h
    exact pie43_ok _ h0
  · cases h
def BC6 : List Ctr := [k42, k43] ++ BC5
theorem BC6_ok : CtrsOK Try.prog BC6 := ⟨k42_ok, ⟨k43_ok, BC5_ok⟩⟩
end Go.Proofs.Ytjhdnpmojhkbjaa
/- Paths of functions, printed by the explorer (Gx). No condition. -/
namespace Go.Proofs.Ytjhdnpmojhkbjaa
set_option maxRecDepth 100000
set_option linter.unusedVariables false
def f85e (ps : List AV) : List AFrame := [{ fn := 85, N := 22, env := [(0, AV.list (Row.big (Sh.agg [Sh.int .i64, Sh.int .i64, Sh.int .i64]) ps))], todo := [.code a85.code], defs := [], rnd := none, ret := false, res := [ARes.tmp 2] }]
theorem f85e_at (ps : List AV) : enterA tab 85 [AV.list (Row.big (Sh.agg [Sh.int .i64, Sh.int .i64, Sh.int .i64]) ps)] = some { fn := 85, N := 22, env := [(0, AV.list (Row.big (Sh.agg [Sh.int .i64, Sh.int .i64, Sh.int .i64]) ps))], todo := [.code a85.code], defs := [], rnd := none, ret := false, res := [ARes.tmp 2] } := rfl
theorem f85p0 (A : Ar) (ps : List AV) : gfin A tab BC6 28 [true] 85 (f85e ps) [] =
  some ([A.and true (A.and true true), true, true, A.not (A.eq (chkP ps).2 0), true, true, true, true, true, true, true, A.and true (Decidable.decide (List.length ps ≤ 1000000)), true, true],
   AV.int .i64 (chkP ps).2, none) := by kernel_rfl
theorem f85p1 (A : Ar) (ps : List AV) : gfin A tab BC6 38 [false] 85 (f85e ps) [] =
  some ([A.and true (A.and true true), true, A.and (A.and true true) (Decidable.decide (List.length [unlessE (A.lt 1 (A.int (A.lenA ps))) 10, unlessE (lineB ps) 13] ≤ 1000000)), List.all [AV.int .i64 (unlessE (A.lt 1 (A.int (A.lenA ps))) 10), AV.int .i64 (unlessE (lineB ps) 13)] fun x => AV.bx x && Nat.beq (flatLen A x) 1, A.and true true, A.and true (Decidable.decide (lineG ps = true)), true, A.and true true, true, true, true, !A.not (A.eq (chkP ps).2 0), true, true, true, true, true, true, true, A.and true (Decidable.decide (List.length ps ≤ 1000000)), true, true],
   AV.int .i64 (firstE [unlessE (A.lt 1 (A.int (A.lenA ps))) 10, unlessE (lineB ps) 13]), none) := by kernel_rfl
def f90e (n : Int) (d : Int) : List AFrame := [{ fn := 90, N := 16, env := [(0, AV.int .i64 n), (1, AV.int .i64 d)], todo := [.code a90.code], defs := [], rnd := none, ret := false, res := [ARes.tmp 4] }]
theorem f90e_at (n : Int) (d : Int) : enterA tab 90 [AV.int .i64 n, AV.int .i64 d] = some { fn := 90, N := 16, env := [(0, AV.int .i64 n), (1, AV.int .i64 d)], todo := [.code a90.code], defs := [], rnd := none, ret := false, res := [ARes.tmp 4] } := rfl
theorem f90p0 (A : Ar) (n : Int) (d : Int) : gfin A tab BC6 31 [true] 90 (f90e n d) [] =
  some ([A.and true (A.and true true), true, true, true, A.inR .i64 (A.sub (A.quo n d) 1), true, A.lt (A.rem n d) 0, true, A.not (A.eq d 0), true, true, true, A.and (A.not (A.eq d 0)) (A.inR .i64 (A.quo n d)), true, true, true],
   AV.int .i64 (A.sub (A.quo n d) 1), none) := by kernel_rfl
theorem f90p1 (A : Ar) (n : Int) (d : Int) : gfin A tab BC6 27 [false] 90 (f90e n d) [] =
  some ([A.and true (A.and true true), true, true, !A.lt (A.rem n d) 0, true, A.not (A.eq d 0), true, true, true, A.and (A.not (A.eq d 0)) (A.inR .i64 (A.quo n d)), true, true, true],
   AV.int .i64 (A.quo n d), none) := by kernel_rfl
def f91e (a : Int) (b : Int) (c : Int) (d : Int) : List AFrame := [{ fn := 91, N := 10, env := [(0, AV.agg (Row.gen [AV.int .i64 a, AV.int .i64 b, AV.int .i64 c, AV.int .i64 d]))], todo := [.code a91.code], defs := [], rnd := none, ret := false, res := [ARes.tmp 2] }]
theorem f91e_at (a : Int) (b : Int) (c : Int) (d : Int) : enterA tab 91 [AV.agg (Row.gen [AV.int .i64 a, AV.int .i64 b, AV.int .i64 c, AV.int .i64 d])] = some { fn := 91, N := 10, env := [(0, AV.agg (Row.gen [AV.int .i64 a, AV.int .i64 b, AV.int .i64 c, AV.int .i64 d]))], todo := [.code a91.code], defs := [], rnd := none, ret := false, res := [ARes.tmp 2] } := rfl
theorem f91p0 (A : Ar) (a : Int) (b : Int) (c : Int) (d : Int) : gfin A tab BC6 18 [] 91 (f91e a b c d) [] =
  some ([A.and true (A.and true true), true, A.inR .i64 (A.sub c a), A.and (A.ltN 0 1) (A.ltN 0 4), true, true, A.and (A.ltN 0 1) (A.ltN 2 4), true, true, true, A.and true (A.ltN 0 4)],
   AV.int .i64 (A.sub c a), none) := by kernel_rfl
end Go.Proofs.Ytjhdnpmojhkbjaa
/- Contracts as a list. No condition. -/
namespace Go.Proofs.Ytjhdnpmojhkbjaa
def denC (a c : Int) : Int := c - a
def cntB (n : Int) : Bool := decide (0 ≤ n ∧ n ≤ 1000000)
def timB (n : Int) : Bool := decide (0 ≤ n ∧ n ≤ 1000000000000)
theorem den91_ok (a b c d : Int) (h : cntB a = true ∧ cntB c = true) : Pure Try.prog 91 [.agg (.gen [.int .i64 a, .int .i64 b, .int .i64 c, .int .i64 d])] (.int .i64 (denC a c)) none :=
  start (f91e_at a b c d) fun C hC => by
    simp only [cntB, decide_eq_true_eq] at h
    exact fin hC BC6_ok (f91p0 std a b c d) (by simp; omega) rfl rfl
theorem floor90_ok (n d : Int) (h : (0 < d ∧ d ≤ 1000000) ∧ (-4000000000000000000 ≤ n ∧ n ≤ 4000000000000000000)) : Pure Try.prog 90 [.int .i64 n, .int .i64 d] (.int .i64 (floorI n d)) none :=
  start (f90e_at n d) fun C hC => by
    obtain ⟨⟨hd, hd2⟩, hn⟩ := h
    have h1 := tdiv_rng n hd
    have h3 : (n.tdiv d).natAbs ≤ n.natAbs := by rw [Int.natAbs_tdiv]; exact Nat.div_le_self _ _
    have h4 : d ≠ 0 := by omega
    by_cases h2 : n.tmod d < 0
    · exact fin hC BC6_ok (f90p0 std n d) (by simp [h2, h4]; omega) (by simp [floorI, h2]) rfl
    · exact fin hC BC6_ok (f90p1 std n d) (by simp [h4]; omega) (by simp [floorI, h2]) rfl
def lnE (ps : List AV) : Int := if (chkP ps).2 = 0 then (if ps.length < 2 then 10 else if lineS ps = true then 0 else 13) else (chkP ps).2
theorem lines85_ok (ps : List AV) (h : ps.length ≤ 1000000) : Pure Try.prog 85 [.list (.big (.agg [.int .i64, .int .i64, .int .i64]) ps)] (.int .i64 (lnE ps)) none :=
  start (f85e_at ps) fun C hC => by
    by_cases hc : (chkP ps).2 = 0
    · obtain ⟨h0, hl, hq⟩ := chkP_ok hc
      have hg := allQ_line hq h 0 ps.length
      rw [List.drop_zero, List.take_length] at hg
      refine fin hC BC6_ok (f85p1 std ps) (by simp [h, hc, hg, AV.bx, flatLen]) ?_ rfl
      rw [lnE, if_pos hc]
      by_cases h2 : ps.length < 2
      · have e1 : std.lt 1 (std.int (std.lenA ps)) = false := by simp; omega
        rw [e1, if_pos h2]; simp [firstE]
      · have e1 : std.lt 1 (std.int (std.lenA ps)) = true := by simp; omega
        have e2 : lineB ps = lineS ps := by simp [lineB, h2, lineS]
        rw [e1, e2, if_neg h2]
        by_cases h3 : lineS ps = true
        · rw [h3]; simp [firstE]
        · rw [if_neg h3]; simp only [Bool.not_eq_true] at h3; rw [h3]; simp [firstE]
    · refine fin hC BC6_ok (f85p0 std ps) (by simp [h, hc]) ?_ rfl
      rw [lnE, if_neg hc]
def k91 : Ctr := ⟨91, 0, fun _ a => match a with | [.agg (.gen [.int .i64 a, .int .i64 _, .int .i64 c, .int .i64 _])] => some (decide (cntB a = true ∧ cntB c = true), .int .i64 (denC a c), none) | _ => none⟩
theorem k91_ok : k91.OK Try.prog := fun pa args r fr h => by
  simp only [k91] at h
  split at h
  · simp only [Option.some.injEq, Prod.mk.injEq, decide_eq_true_eq] at h
    obtain ⟨h0, rfl, rfl⟩ := h
    exact den91_ok _ _ _ _ h0
  · cases h
def k90 : Ctr := ⟨90, 0, fun _ a => match a with | [.int .i64 n, .int .i64 d] => some (decide ((0 < d ∧ d ≤ 1000000) ∧ (-4000000000000000000 ≤ n ∧ n ≤ 4000000000000000000)), .int .i64 (floorI n d), none) | _ => none⟩
theorem k90_ok : k90.OK Try.prog := fun pa args r fr h => by
  simp only [k90] at h
  split at h
  · simp only [Option.some.injEq, Prod.mk.injEq, decide_eq_true_eq] at h
    obtain ⟨h0, rfl, rfl⟩ := h
    exact floor90_ok _ _ h0
  · cases h
def k85 : Ctr := ⟨85, 0, fun _ a => match a with | [.list (.big (.agg [.int .i64, .int .i64, .int .i64]) ps)] => some (decide (ps.length ≤ 1000000), .int .i64 (lnE ps), none) | _ => none⟩
theorem k85_ok : k85.OK Try.prog := fun pa args r fr h => by
  simp only [k85] at h
  split at h
  · simp only [Option.some.injEq, Prod.mk.injEq, decide_eq_true_eq] at h
    obtain ⟨h0, rfl, rfl⟩ := h
    exact lines85_ok _ h0
  · cases h
def BE1 : List Ctr := [k91, k90, k85] ++ BC6
theorem BE1_ok : CtrsOK Try.prog BE1 := ⟨k91_ok, ⟨k90_ok, ⟨k85_ok, BC6_ok⟩⟩⟩
end Go.Proofs.Ytjhdnpmojhkbjaa
/- Paths of functions, printed by the explorer (Gx). No condition. -/
namespace Go.Proofs.Ytjhdnpmojhkbjaa
set_option maxRecDepth 100000
set_option linter.unusedVariables false
def f89e (a : Int) (b : Int) (c : Int) (d : Int) (n : Int) : List AFrame := [{ fn := 89, N := 25, env := [(0, AV.agg (Row.gen [AV.int .i64 a, AV.int .i64 b, AV.int .i64 c, AV.int .i64 d])), (1, AV.int .i64 n)], todo := [.code a89.code], defs := [], rnd := none, ret := false, res := [ARes.tmp 4] }]
theorem f89e_at (a : Int) (b : Int) (c : Int) (d : Int) (n : Int) : enterA tab 89 [AV.agg (Row.gen [AV.int .i64 a, AV.int .i64 b, AV.int .i64 c, AV.int .i64 d]), AV.int .i64 n] = some { fn := 89, N := 25, env := [(0, AV.agg (Row.gen [AV.int .i64 a, AV.int .i64 b, AV.int .i64 c, AV.int .i64 d])), (1, AV.int .i64 n)], todo := [.code a89.code], defs := [], rnd := none, ret := false, res := [ARes.tmp 4] } := rfl
theorem f89p0 (A : Ar) (a : Int) (b : Int) (c : Int) (d : Int) (n : Int) : gfin A tab BE1 9 [] 89 (f89e a b c d n) [] =
  some ([A.and true (A.and true true), true, A.inR .i64 (A.add (A.mul b (denC a c)) (A.mul (A.sub d b) (A.sub n a))), A.inR .i64 (A.mul (A.sub d b) (A.sub n a)), A.inR .i64 (A.sub n a), A.and (A.ltN 0 1) (A.ltN 0 4), true, true, true, A.inR .i64 (A.sub d b), A.and (A.ltN 0 1) (A.ltN 1 4), true, true, A.and (A.ltN 0 1) (A.ltN 3 4), true, true, A.inR .i64 (A.mul b (denC a c)), A.and true (Decidable.decide (cntB a = true ∧ cntB c = true)), A.and (A.ltN 0 1) (A.leN (A.addN 0 4) 4), A.and (A.ltN 0 1) (A.ltN 1 4), true, true, true, A.and true (A.ltN 0 4)],
   AV.int .i64 (A.add (A.mul b (denC a c)) (A.mul (A.sub d b) (A.sub n a))), none) := by kernel_rfl
end Go.Proofs.Ytjhdnpmojhkbjaa
/- Contracts as a list. No condition. -/
namespace Go.Proofs.Ytjhdnpmojhkbjaa
def atC (a b c d n : Int) : Int := b * (c - a) + (d - b) * (n - a)
def chB (a b c d : Int) : Bool := (cntB a && cntB c) && (timB b && timB d)
theorem chB_ok {a b c d : Int} (h : chB a b c d = true) : ((0 ≤ a ∧ a ≤ 1000000) ∧ 0 ≤ c ∧ c ≤ 1000000) ∧ (0 ≤ b ∧ b ≤ 1000000000000) ∧ 0 ≤ d ∧ d ≤ 1000000000000 := by
  simpa [chB, cntB, timB] using h
theorem mulB {x y A B : Int} (hx : -A ≤ x ∧ x ≤ A) (hy : -B ≤ y ∧ y ≤ B) (hA : 0 ≤ A) (hB : 0 ≤ B) : -(A * B) ≤ x * y ∧ x * y ≤ A * B := by
  have h1 : (x * y).natAbs ≤ A.natAbs * B.natAbs := by
    rw [Int.natAbs_mul]; exact Nat.mul_le_mul (by omega) (by omega)
  have h2 : ((A.natAbs * B.natAbs : Nat) : Int) = A * B := by rw [Int.natCast_mul]; rw [Int.natAbs_of_nonneg hA, Int.natAbs_of_nonneg hB]
  omega
theorem atC_rng {a b c d n : Int} (h : chB a b c d = true) (hn : cntB n = true) : (-1000000000000000000 ≤ b * (c - a) ∧ b * (c - a) ≤ 1000000000000000000) ∧ (-1000000000000000000 ≤ (d - b) * (n - a) ∧ (d - b) * (n - a) ≤ 1000000000000000000) := by
  have h := chB_ok h
  simp only [cntB, decide_eq_true_eq] at hn
  have h1 := mulB (x := b) (y := c - a) (A := 1000000000000) (B := 1000000) (by omega) (by omega) (by omega) (by omega)
  have h2 := mulB (x := d - b) (y := n - a) (A := 1000000000000) (B := 1000000) (by omega) (by omega) (by omega) (by omega)
  omega
theorem at89_ok (a b c d n : Int) (h : chB a b c d = true ∧ cntB n = true) : Pure Try.prog 89 [.agg (.gen [.int .i64 a, .int .i64 b, .int .i64 c, .int .i64 d]), .int .i64 n] (.int .i64 (atC a b c d n)) none :=
  start (f89e_at a b c d n) fun C hC => by
    have h1 := atC_rng h.1 h.2
    have h2 := chB_ok h.1
    have h3 : cntB a = true ∧ cntB c = true := by simp only [cntB, decide_eq_true_eq]; exact h2.1
    have h4 := h.2
    simp only [cntB, decide_eq_true_eq] at h4
    refine fin hC BE1_ok (f89p0 std a b c d n) ?_ (by simp [atC, denC]) rfl
    simp only [decide_eq_true h3, denC]
    simp
    omega
def k89 : Ctr := ⟨89, 0, fun _ a => match a with | [.agg (.gen [.int .i64 a, .int .i64 b, .int .i64 c, .int .i64 d]), .int .i64 n] => some (decide (chB a b c d = true ∧ cntB n = true), .int .i64 (atC a b c d n), none) | _ => none⟩
theorem k89_ok : k89.OK Try.prog := fun pa args r fr h => by
  simp only [k89] at h
  split at h
  · simp only [Option.some.injEq, Prod.mk.injEq, decide_eq_true_eq] at h
    obtain ⟨h0, rfl, rfl⟩ := h
    exact at89_ok _ _ _ _ _ h0
  · cases h
def BE2 : List Ctr := [k89] ++ BE1
theorem BE2_ok : CtrsOK Try.prog BE2 := ⟨k89_ok, BE1_ok⟩
end Go.Proofs.Ytjhdnpmojhkbjaa
/- Paths of functions, printed by the explorer (Gx). No condition. -/
namespace Go.Proofs.Ytjhdnpmojhkbjaa
set_option maxRecDepth 100000
set_option linter.unusedVariables false
def f126e (a : Int) (b : Int) (c : Int) (d : Int) (ps : List AV) : List AFrame := [{ fn := 126, N := 32, env := [(0, AV.agg (Row.gen [AV.int .i64 a, AV.int .i64 b, AV.int .i64 c, AV.int .i64 d])), (1, AV.list (Row.big (Sh.agg [Sh.int .i64, Sh.int .i64, Sh.int .i64]) ps))], todo := [.code a126.code], defs := [], rnd := none, ret := false, res := [ARes.tmp 4] }]
theorem f126e_at (a : Int) (b : Int) (c : Int) (d : Int) (ps : List AV) : enterA tab 126 [AV.agg (Row.gen [AV.int .i64 a, AV.int .i64 b, AV.int .i64 c, AV.int .i64 d]), AV.list (Row.big (Sh.agg [Sh.int .i64, Sh.int .i64, Sh.int .i64]) ps)] = some { fn := 126, N := 32, env := [(0, AV.agg (Row.gen [AV.int .i64 a, AV.int .i64 b, AV.int .i64 c, AV.int .i64 d])), (1, AV.list (Row.big (Sh.agg [Sh.int .i64, Sh.int .i64, Sh.int .i64]) ps))], todo := [.code a126.code], defs := [], rnd := none, ret := false, res := [ARes.tmp 4] } := rfl
def f126h126_0a (a : Int) (b : Int) (c : Int) (d : Int) (ps : List AV) (n0 : Int) (n1 : Int) : List AFrame := [{ fn := 126, N := 32, env := [(2, AV.ptr 126003 0 0 0), (7, AV.list (Row.big (Sh.agg [Sh.int .i64, Sh.int .i64, Sh.int .i64]) ps)), (8, AV.int .i64 n0), (9, AV.int .i64 n1)], todo := .code (ACode.gh [] l126_0) :: k126_0, defs := [], rnd := none, ret := false, res := [ARes.tmp 4] }]
def f126h126_0am (a : Int) (b : Int) (c : Int) (d : Int) (ps : List AV) (n0 : Int) (n1 : Int) : AHeap := [(126003, { base := 0, blks := [Blk.row 152 4 (Row.gen [AV.agg (Row.gen [AV.int .i64 a, AV.int .i64 b, AV.int .i64 c, AV.int .i64 d])])] })]
theorem f126p0 (A : Ar) (a : Int) (b : Int) (c : Int) (d : Int) (ps : List AV) : gwalkL A tab BE2 15 [] (f126e a b c d ps) [] =
  some ([true, true, true, true, A.and true (A.ltN 0 4)],
   f126h126_0a (a) (b) (c) (d) (ps) (A.int (A.lenA ps)) (0), f126h126_0am (a) (b) (c) (d) (ps) (A.int (A.lenA ps)) (0)) := by kernel_rfl
theorem f126p1 (A : Ar) (a : Int) (b : Int) (c : Int) (d : Int) (ps : List AV) (n0 : Int) (n1 : Int) : gfin A tab BE2 26 [true, true] 126 (f126h126_0a a b c d ps n0 n1) (f126h126_0am a b c d ps n0 n1) =
  some ([A.and true (A.and true true), true, A.not (Decidable.decide (A.mul (AV.toI (AV.cellAt (A.nthA ps (A.nat n1)) 1)) (denC a c) ≤ atC a b c d (AV.toI (AV.cellAt (A.nthA ps (A.nat n1)) 0)) ∧ atC a b c d (AV.toI (AV.cellAt (A.nthA ps (A.nat n1)) 0)) ≤ A.mul (AV.toI (AV.cellAt (A.nthA ps (A.nat n1)) 2)) (denC a c))), true, A.and true true, A.inR .i64 (A.mul (AV.toI (AV.cellAt (A.nthA ps (A.nat n1)) 2)) (denC a c)), A.and true (Decidable.decide (cntB a = true ∧ cntB c = true)), A.and (A.ltN 0 1) (A.leN (A.addN 0 4) 4), A.and (A.ltN 0 1) (A.ltN 2 3), true, true, A.inR .i64 (A.mul (AV.toI (AV.cellAt (A.nthA ps (A.nat n1)) 1)) (denC a c)), A.and true (Decidable.decide (cntB a = true ∧ cntB c = true)), A.and (A.ltN 0 1) (A.leN (A.addN 0 4) 4), A.and (A.ltN 0 1) (A.ltN 1 3), true, true, A.and true (Decidable.decide (chB a b c d = true ∧ cntB (AV.toI (AV.cellAt (A.nthA ps (A.nat n1)) 0)) = true)), A.and (A.ltN 0 1) (A.ltN 0 3), true, A.and (A.ltN 0 1) (A.leN (A.addN 0 4) 4), A.and (A.ltN 0 1) (A.eqN 3 3), A.and true (A.ltN 0 3), A.leN (A.addN 0 3) 3, A.and (A.and (A.le 0 n1) (A.ltN (A.nat n1) (A.lenA ps))) (A.eqN 3 3), A.lt n1 n0, true],
   AV.bool false, none) := by kernel_rfl
theorem f126p2 (A : Ar) (a : Int) (b : Int) (c : Int) (d : Int) (ps : List AV) (n0 : Int) (n1 : Int) : gwalkL A tab BE2 29 [true, false] (f126h126_0a a b c d ps n0 n1) (f126h126_0am a b c d ps n0 n1) =
  some ([true, A.inR .i64 (A.add n1 1), !A.not (Decidable.decide (A.mul (AV.toI (AV.cellAt (A.nthA ps (A.nat n1)) 1)) (denC a c) ≤ atC a b c d (AV.toI (AV.cellAt (A.nthA ps (A.nat n1)) 0)) ∧ atC a b c d (AV.toI (AV.cellAt (A.nthA ps (A.nat n1)) 0)) ≤ A.mul (AV.toI (AV.cellAt (A.nthA ps (A.nat n1)) 2)) (denC a c))), true, A.and true true, A.inR .i64 (A.mul (AV.toI (AV.cellAt (A.nthA ps (A.nat n1)) 2)) (denC a c)), A.and true (Decidable.decide (cntB a = true ∧ cntB c = true)), A.and (A.ltN 0 1) (A.leN (A.addN 0 4) 4), A.and (A.ltN 0 1) (A.ltN 2 3), true, true, A.inR .i64 (A.mul (AV.toI (AV.cellAt (A.nthA ps (A.nat n1)) 1)) (denC a c)), A.and true (Decidable.decide (cntB a = true ∧ cntB c = true)), A.and (A.ltN 0 1) (A.leN (A.addN 0 4) 4), A.and (A.ltN 0 1) (A.ltN 1 3), true, true, A.and true (Decidable.decide (chB a b c d = true ∧ cntB (AV.toI (AV.cellAt (A.nthA ps (A.nat n1)) 0)) = true)), A.and (A.ltN 0 1) (A.ltN 0 3), true, A.and (A.ltN 0 1) (A.leN (A.addN 0 4) 4), A.and (A.ltN 0 1) (A.eqN 3 3), A.and true (A.ltN 0 3), A.leN (A.addN 0 3) 3, A.and (A.and (A.le 0 n1) (A.ltN (A.nat n1) (A.lenA ps))) (A.eqN 3 3), A.lt n1 n0, true],
   f126h126_0a (a) (b) (c) (d) (ps) (n0) (A.add n1 1), f126h126_0am (a) (b) (c) (d) (ps) (n0) (A.add n1 1)) := by kernel_rfl
theorem f126p3 (A : Ar) (a : Int) (b : Int) (c : Int) (d : Int) (ps : List AV) (n0 : Int) (n1 : Int) : gfin A tab BE2 13 [false] 126 (f126h126_0a a b c d ps n0 n1) (f126h126_0am a b c d ps n0 n1) =
  some ([A.and true (A.and true true), true, !A.lt n1 n0, true],
   AV.bool true, none) := by kernel_rfl
end Go.Proofs.Ytjhdnpmojhkbjaa
/- Contracts as a list. No condition. -/
namespace Go.Proofs.Ytjhdnpmojhkbjaa
def allP (ps : List AV) : Bool := decide (ps.length ≤ 1000000) && ps.all fun p => okP (pC p) (pL p) (pH p)
def fitS (a b c d : Int) (p : AV) : Prop := pL p * denC a c ≤ atC a b c d (pC p) ∧ atC a b c d (pC p) ≤ pH p * denC a c
instance (a b c d : Int) (p : AV) : Decidable (fitS a b c d p) := by unfold fitS; infer_instance
def fitB (a b c d : Int) : List AV → Bool
  | [] => true
  | p :: ps => decide (fitS a b c d p) && fitB a b c d ps
theorem l126 {C : Ctx} (hC : C.P = Try.prog) (a b c d : Int) (ps : List AV) (hc : chB a b c d = true) (hp : allP ps = true) : ∀ (t i : Nat), i + t = ps.length →
    Ev C (f126h126_0a a b c d ps ps.length i) (f126h126_0am a b c d ps ps.length i) (FinQ 126 (.bool (fitB a b c d (ps.drop i))) none) := by
  rw [allP, Bool.and_eq_true, decide_eq_true_eq, List.all_eq_true] at hp
  obtain ⟨hl, hp⟩ := hp
  intro t
  induction t with
  | zero =>
    intro i hi
    rw [List.drop_of_length_le (by omega)]
    exact fin hC BE2_ok (f126p3 std a b c d ps _ _) (by simp; omega) rfl rfl
  | succ t ih =>
    intro i hi
    have hlt : i < ps.length := by omega
    have e1 : std.nthA ps (std.nat (i : Int)) = ps[i] := by simp [hlt]
    have g0 : (ps[i].cellAt 0).toI = pC ps[i] := rfl
    have g1 : (ps[i].cellAt 1).toI = pL ps[i] := rfl
    have g2 : (ps[i].cellAt 2).toI = pH ps[i] := rfl
    have hk := hp ps[i] (by simp)
    simp only [okP, decide_eq_true_eq] at hk
    have hcn : cntB (pC ps[i]) = true := decide_eq_true hk.1
    have h1 := chB_ok hc
    have h3 : cntB a = true ∧ cntB c = true := by simp only [cntB, decide_eq_true_eq]; exact h1.1
    have h4 : chB a b c d = true ∧ cntB (pC ps[i]) = true := ⟨hc, hcn⟩
    have h5 := mulB (x := pL ps[i]) (y := denC a c) (A := 1000000000000) (B := 1000000) (by omega) (by unfold denC; omega) (by omega) (by omega)
    have h6 := mulB (x := pH ps[i]) (y := denC a c) (A := 1000000000000) (B := 1000000) (by omega) (by unfold denC; omega) (by omega) (by omega)
    rw [List.drop_eq_getElem_cons hlt, fitB]
    by_cases hf : fitS a b c d ps[i]
    · have hf' := hf
      unfold fitS at hf'
      rw [decide_eq_true hf, Bool.true_and]
      refine go hC BE2_ok (f126p2 std a b c d ps _ _) ?_ (by simpa using ih (i + 1) (by omega))
      simp only [e1, g0, g1, g2, decide_eq_true h3, decide_eq_true h4, s_mul, decide_eq_true hf']
      simp [hlt]; omega
    · have hf' := hf
      unfold fitS at hf'
      rw [decide_eq_false hf, Bool.false_and]
      refine fin hC BE2_ok (f126p1 std a b c d ps _ _) ?_ rfl rfl
      simp only [e1, g0, g1, g2, decide_eq_true h3, decide_eq_true h4, s_mul, decide_eq_false hf']
      simp [hlt]; omega
theorem fits126_ok (a b c d : Int) (ps : List AV) (h : chB a b c d = true ∧ allP ps = true) : Pure Try.prog 126 [.agg (.gen [.int .i64 a, .int .i64 b, .int .i64 c, .int .i64 d]), .list (.big (.agg [.int .i64, .int .i64, .int .i64]) ps)] (.bool (fitB a b c d ps)) none :=
  start (f126e_at a b c d ps) fun C hC => go hC BE2_ok (f126p0 std a b c d ps) (by simp) (l126 hC a b c d ps h.1 h.2 ps.length 0 (by omega))
def k126 : Ctr := ⟨126, 0, fun _ a => match a with | [.agg (.gen [.int .i64 a, .int .i64 b, .int .i64 c, .int .i64 d]), .list (.big (.agg [.int .i64, .int .i64, .int .i64]) ps)] => some (decide (chB a b c d = true ∧ allP ps = true), .bool (fitB a b c d ps), none) | _ => none⟩
theorem k126_ok : k126.OK Try.prog := fun pa args r fr h => by
  simp only [k126] at h
  split at h
  · simp only [Option.some.injEq, Prod.mk.injEq, decide_eq_true_eq] at h
    obtain ⟨h0, rfl, rfl⟩ := h
    exact fits126_ok _ _ _ _ _ h0
  · cases h
def BE3 : List Ctr := [k126] ++ BE2
theorem BE3_ok : CtrsOK Try.prog BE3 := ⟨k126_ok, BE2_ok⟩
end Go.Proofs.Ytjhdnpmojhkbjaa
