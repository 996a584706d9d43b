/- Contracts as a list. No condition. -/
import Derived.Test.YtjhdnpmojhkbjaaPB
namespace Go.Proofs.Ytjhdnpmojhkbjaa
/-! ### Fractions in lowest terms -/
theorem sizeI_abs (n : Int) : sizeI n = (n.natAbs : Int) := by unfold sizeI; omega
theorem tmod_big {a b : Int} (ha : bigB a = true) : bigB (a.tmod b) = true := by
  simp only [bigB, decide_eq_true_eq] at ha ⊢
  have h : (a.tmod b).natAbs ≤ a.natAbs := by rw [Int.natAbs_tmod]; exact Nat.mod_le _ _
  omega
theorem gcd_step (a b : Int) : Int.gcd b (a.tmod b) = Int.gcd a b := by
  unfold Int.gcd
  rw [Int.natAbs_tmod, Nat.gcd_comm a.natAbs b.natAbs, Nat.gcd_rec b.natAbs a.natAbs, Nat.gcd_comm]
theorem l108 {C : Ctx} (hC : C.P = Try.prog) (g : Nat) : ∀ (k : Nat) (a b : Int), b.natAbs ≤ k → bigB a = true → bigB b = true → Int.gcd a b = g → Ev C (f108h108_0a a b) (f108h108_0am a b) (FinQ 108 (.int .i64 (g : Int)) none) := by
  intro k
  induction k with
  | zero =>
    intro a b hk ha hb hg
    have hb0 : b = 0 := by omega
    subst hb0
    refine fin hC BC0_ok (f108p2 std a 0) (by simp [ha]) ?_ rfl
    rw [sizeI_abs, ← hg, Int.gcd_zero_right]
  | succ k ih =>
    intro a b hk ha hb hg
    by_cases hb0 : b = 0
    · subst hb0
      refine fin hC BC0_ok (f108p2 std a 0) (by simp [ha]) ?_ rfl
      rw [sizeI_abs, ← hg, Int.gcd_zero_right]
    · refine go hC BC0_ok (f108p1 std a b) (by simp [hb0]) ?_
      refine ih b (a.tmod b) ?_ hb (tmod_big ha) (by rw [gcd_step, hg])
      rw [Int.natAbs_tmod]
      have := Nat.mod_lt a.natAbs (show 0 < b.natAbs by omega)
      omega
theorem gcd108_ok (a b : Int) (h : bigB a = true ∧ bigB b = true) : Pure Try.prog 108 [.int .i64 a, .int .i64 b] (.int .i64 (Int.gcd a b : Int)) none :=
  start (f108e_at a b) fun C hC => go hC BC0_ok (f108p0 std a b) (by simp) (l108 hC _ b.natAbs a b (Nat.le_refl _) h.1 h.2 rfl)
def floorI (n d : Int) : Int := if n.tmod d < 0 then n.tdiv d - 1 else n.tdiv d
theorem tdiv_rng (n : Int) {d : Int} (h : 0 < d) : n.tdiv d * d + n.tmod d = n ∧ -d < n.tmod d ∧ n.tmod d < d ∧ (0 ≤ n → 0 ≤ n.tdiv d ∧ 0 ≤ n.tmod d) ∧ (n ≤ 0 → n.tdiv d ≤ 0 ∧ n.tmod d ≤ 0) ∧ (n.tdiv d).natAbs ≤ n.natAbs := by
  refine ⟨Int.tdiv_mul_add_tmod n d, (tmodR n h).1, (tmodR n h).2, fun hn => ⟨Int.tdiv_nonneg hn (by omega), Int.tmod_nonneg _ hn⟩, fun hn => ?_, ?_⟩
  · have e1 : (-n).tdiv d = -(n.tdiv d) := Int.neg_tdiv n d
    have e2 : (-n).tmod d = -(n.tmod d) := Int.neg_tmod n d
    have h1 := Int.tdiv_nonneg (show 0 ≤ -n by omega) (show 0 ≤ d by omega)
    have h2 := Int.tmod_nonneg d (show 0 ≤ -n by omega)
    omega
  · rw [Int.natAbs_tdiv]; exact Nat.div_le_self _ _
theorem floorI_rng (n : Int) {d : Int} (h : 0 < d) : floorI n d * d ≤ n ∧ n < floorI n d * d + d := by
  obtain ⟨h1, h2, h3, _⟩ := tdiv_rng n h
  unfold floorI
  split
  · rw [Int.sub_mul]; omega
  · omega
theorem floor49_ok (n d : Int) (h : (0 < d ∧ bigB d = true) ∧ bigB n = true) : Pure Try.prog 49 [.int .i64 n, .int .i64 d] (.int .i64 (floorI n d)) none :=
  start (f49e_at n d) fun C hC => by
    obtain ⟨⟨hd, hdb⟩, hn⟩ := h
    simp only [bigB, decide_eq_true_eq] at hn hdb
    obtain ⟨h1, h2, h3, _, _, h6⟩ := tdiv_rng n hd
    by_cases hm : n.tmod d < 0
    · exact fin hC BC0_ok (f49p0 std n d) (by simp [hm]; omega) (by simp [floorI, hm]) rfl
    · exact fin hC BC0_ok (f49p1 std n d) (by simp [hm]; omega) (by simp [floorI, hm]) rfl
def lN (n d : Int) : Int := n.tdiv (Int.gcd n d : Int)
def lD (n d : Int) : Int := d.tdiv (Int.gcd n d : Int)
theorem l114 {C : Ctx} (hC : C.P = Try.prog) (n d : Int) (hn : bigB n = true) (hd0 : 0 < d) (hd : bigB d = true) : ∀ (k : Nat) (a b : Int), b.natAbs ≤ k → 0 ≤ a → 0 ≤ b → 0 < a + b → (Int.gcd a b : Int) = Int.gcd n d →
    Ev C (f114h114_0a n d b a) (f114h114_0am n d b a) (FinQ 114 (.agg (.gen [.int .i64 (lN n d), .int .i64 (lD n d)])) none) := by
  intro k
  have fin0 : ∀ a, 0 ≤ a → 0 < a + 0 → (Int.gcd a 0 : Int) = Int.gcd n d → Ev C (f114h114_0a n d 0 a) (f114h114_0am n d 0 a) (FinQ 114 (.agg (.gen [.int .i64 (lN n d), .int .i64 (lD n d)])) none) := by
    intro a ha hab hg
    rw [Int.gcd_zero_right] at hg
    have hga : (Int.gcd n d : Int) = a := by omega
    have ha0 : 0 < a := by omega
    obtain ⟨_, _, _, _, _, h1⟩ := tdiv_rng n ha0
    obtain ⟨_, _, _, _, _, h2⟩ := tdiv_rng d ha0
    simp only [bigB, decide_eq_true_eq] at hn hd
    exact fin hC BC0_ok (f114p2 std n d 0 a) (by simp; omega) (by rw [lN, lD, hga]; rfl) rfl
  induction k with
  | zero =>
    intro a b hk ha hb hab hg
    have hb0 : b = 0 := by omega
    subst hb0
    exact fin0 a ha hab hg
  | succ k ih =>
    intro a b hk ha hb hab hg
    by_cases hb0 : b = 0
    · subst hb0
      exact fin0 a ha hab hg
    · refine go hC BC0_ok (f114p1 std n d b a) (by simp [hb0]) ?_
      have h1 := Int.tmod_nonneg b ha
      have h2 := Int.tmod_lt_of_pos a (show 0 < b by omega)
      exact ih b (a.tmod b) (by omega) hb h1 (by omega) (by rw [gcd_step, hg])
theorem lowest114_ok (n d : Int) (h : bigB n = true ∧ 0 < d ∧ bigB d = true) : Pure Try.prog 114 [.int .i64 n, .int .i64 d] (.agg (.gen [.int .i64 (lN n d), .int .i64 (lD n d)])) none :=
  start (f114e_at n d) fun C hC => by
    obtain ⟨hn, hd0, hd⟩ := h
    have hn' := hn
    simp only [bigB, decide_eq_true_eq] at hn'
    refine go hC BC0_ok (f114p0 std n d) (by simp; omega) ?_
    have e : std.max n (std.neg n) = (n.natAbs : Int) := by simp; omega
    rw [e]
    exact l114 hC n d hn hd0 hd n.natAbs d (n.natAbs : Int) (by omega) (by omega) (by omega) (by omega) (by rw [Int.gcd_comm]; simp [Int.gcd])
def ltF (a b c d : Int) : Bool := decide (a * d < c * b)
def prodB (a b c d : Int) : Bool := decide ((-9223372036854775808 ≤ a * d ∧ a * d ≤ 9223372036854775807) ∧ (-9223372036854775808 ≤ c * b ∧ c * b ≤ 9223372036854775807))
theorem less135_ok (a b c d : Int) (h : prodB a b c d = true) : Pure Try.prog 135 [.agg (.gen [.int .i64 a, .int .i64 b]), .agg (.gen [.int .i64 c, .int .i64 d])] (.bool (ltF a b c d)) none :=
  start (f135e_at a b c d) fun C hC => fin hC BC0_ok (f135p0 std a b c d) (by simp [prodB] at h ⊢; omega) rfl rfl
theorem copyP_ok (ps : List AV) (h : ps.length ≤ 1000000) : Pure Try.prog 24 [.list (.big (.agg [.int .i64, .int .i64, .int .i64]) ps)] (.list (.big (.agg [.int .i64, .int .i64, .int .i64]) ps)) newF :=
  new_row (e := 49) (sz := 2) (start (f24e_at ps) fun C hC => fin hC BC0_ok (f24p0 std ps) (by simp; omega) rfl rfl) rfl rfl
def smF (a b : Int) : Bool := decide ((-1000000000 ≤ a ∧ a ≤ 1000000000) ∧ 1 ≤ b ∧ b ≤ 1000000000)
theorem small48_ok (a b : Int) : Pure Try.prog 48 [.agg (.gen [.int .i64 a, .int .i64 b])] (.bool (smF a b)) none :=
  start (f48e_at a b) fun C hC => by
    by_cases h1 : -1000000000 ≤ a ∧ a ≤ 1000000000
    · exact fin hC BC0_ok (f48p0 std a b) (by simp [h1]) (by simp [smF, h1]) rfl
    · exact fin hC BC0_ok (f48p1 std a b) (by simp; omega) (by rw [smF, decide_eq_false (fun h => h1 h.1)]) rfl
/-! ### Ranges, pairs -/
def prP (p : AV) : Int × Int := ((p.cellAt 0).toI, (p.cellAt 1).toI)
theorem l45 {C : Ctx} (hC : C.P = Try.prog) (xs ys : List AV) (hl : xs.length = ys.length) (hlen : xs.length ≤ 1000000) : ∀ (d i : Nat), xs.length - i = d → i ≤ xs.length → (xs.take i).map prP = (ys.take i).map prP →
    Ev C (f45h45_0a xs ys i) (f45h45_0am xs ys i) (FinQ 45 (.bool (decide (xs.map prP = ys.map prP))) none) := by
  intro d
  induction d with
  | zero =>
    intro i hd hi ht
    have hi : i = xs.length := by omega
    have he : xs.map prP = ys.map prP := by rw [hi] at ht; rw [List.take_length, hl, List.take_length] at ht; exact ht
    exact fin hC BC0_ok (f45p4 std xs ys i) (by simp; omega) (by simp [he]) rfl
  | succ d ih =>
    intro i hd hi ht
    have hlt : i < xs.length := by omega
    have hlt2 : i < ys.length := by omega
    have e1 : std.nthA xs (std.nat (i : Int)) = xs[i] := by simp [hlt]
    have e2 : std.nthA ys (std.nat (i : Int)) = ys[i] := by simp [hlt2]
    by_cases h1 : prP xs[i] = prP ys[i]
    · refine go hC BC0_ok (f45p3 std xs ys i) ?_ (ih (i + 1) (by omega) (by omega) (by
        rw [List.take_succ_eq_append_getElem hlt, List.take_succ_eq_append_getElem hlt2, List.map_append, List.map_append, ht, List.map_singleton, List.map_singleton, h1]))
      simp only [e1, e2]
      simp only [prP, Prod.mk.injEq] at h1
      simp [h1.1, h1.2, hlt, hlt2, Row.len]
      omega
    · refine fin hC BC0_ok (f45p2 std xs ys i) ?_ ?_ rfl
      · simp only [e1, e2]
        simp only [prP, Prod.mk.injEq, not_and] at h1
        simp [hlt, hlt2, Row.len]
        by_cases h2 : (xs[i].cellAt 0).toI = (ys[i].cellAt 0).toI
        · exact .inr (h1 h2)
        · exact .inl h2
      · have : xs.map prP ≠ ys.map prP := fun e => h1 (by
          have := congrArg (fun l => l[i]?) e
          simpa [hlt, hlt2] using this)
        simp [this]
theorem ranges45_ok (xs ys : List AV) (h : xs.length ≤ 1000000) : Pure Try.prog 45 [.list (.big (.agg [.int .i64, .int .i64]) xs), .list (.big (.agg [.int .i64, .int .i64]) ys)] (.bool (decide (xs.map prP = ys.map prP))) none :=
  start (f45e_at xs ys) fun C hC => by
    by_cases hl : xs.length = ys.length
    · exact go hC BC0_ok (f45p1 std xs ys) (by simp; omega) (l45 hC xs ys hl h xs.length 0 (by omega) (by omega) rfl)
    · refine fin hC BC0_ok (f45p0 std xs ys) (by simp; omega) ?_ rfl
      have : xs.map prP ≠ ys.map prP := fun e => hl (by have := congrArg List.length e; simpa using this)
      simp [this]
/-- a pair: count, and the range of times -/
def okP (c l h : Int) : Bool := decide ((0 ≤ c ∧ c ≤ 1000000) ∧ (0 ≤ l ∧ l ≤ 1000000000000) ∧ 0 ≤ h ∧ h ≤ 1000000000000)
def pC (p : AV) : Int := (p.cellAt 0).toI
def pL (p : AV) : Int := (p.cellAt 1).toI
def pH (p : AV) : Int := (p.cellAt 2).toI
def chkL : Int → Nat → List AV → Int × Int
  | _, _, [] => (0, 0)
  | last, i, p :: ps => if okP (pC p) (pL p) (pH p) = true then (if pL p ≤ pH p ∧ last < pC p then chkL (pC p) (i + 1) ps else (i, 9)) else (i, 2)
def chkP (ps : List AV) : Int × Int := if ps.length = 0 then (0, 10) else if 20 < ps.length then (0, 8) else chkL (-1) 0 ps
theorem l44 {C : Ctx} (hC : C.P = Try.prog) (ps : List AV) (hlen : ps.length ≤ 1000000) : ∀ (d i : Nat) (last : Int), ps.length - i = d → i ≤ ps.length → (∀ (h : 0 < i) (h2 : i ≤ ps.length), pC (ps[i - 1]'(by omega)) = last) → (i = 0 → last = -1) →
    Ev C (f44h44_0a ps i) (f44h44_0am ps i) (FinQ 44 (.tup [.int .i64 (chkL last i (ps.drop i)).1, .int .i64 (chkL last i (ps.drop i)).2]) none) := by
  intro d
  induction d with
  | zero =>
    intro i last hd hi hl h0
    exact fin hC BC0_ok (f44p10 std ps i) (by simp; omega) (by rw [List.drop_of_length_le (by omega)]; rfl) rfl
  | succ d ih =>
    intro i last hd hi hl h0
    have hlt : i < ps.length := by omega
    have e1 : std.nthA ps (std.nat (i : Int)) = ps[i] := by simp [hlt]
    rw [List.drop_eq_getElem_cons hlt, chkL]
    have hnext : ∀ (h : 0 < i + 1) (h2 : i + 1 ≤ ps.length), pC (ps[i + 1 - 1]'(by omega)) = pC ps[i] := fun _ _ => rfl
    have g1 : pC ps[i] = (ps[i].cellAt 0).toI := rfl
    have g2 : pL ps[i] = (ps[i].cellAt 1).toI := rfl
    have g3 : pH ps[i] = (ps[i].cellAt 2).toI := rfl
    by_cases h1 : 0 ≤ pC ps[i] ∧ pC ps[i] ≤ 1000000
    · by_cases h2 : 0 ≤ pL ps[i] ∧ pL ps[i] ≤ 1000000000000
      · by_cases h3 : 0 ≤ pH ps[i] ∧ pH ps[i] ≤ 1000000000000
        · rw [if_pos (by rw [okP, decide_eq_true_eq]; exact ⟨h1, h2, h3⟩)]
          by_cases h4 : pL ps[i] ≤ pH ps[i]
          · by_cases hi0 : i = 0
            · have hla := h0 hi0
              rw [if_pos ⟨h4, by omega⟩]
              subst hi0
              refine go hC BC0_ok (f44p9 std ps (0 : Nat)) ?_ (ih 1 _ (by omega) (by omega) hnext (by omega))
              simp only [e1, ← g1, ← g2, ← g3]
              generalize pC ps[0] = c at *
              generalize pL ps[0] = l at *
              generalize pH ps[0] = h at *
              simp [hlt, h1, h2, h3, h4]
            · have hpre := hl (by omega) (by omega)
              have e2 : std.nthA ps (std.nat (std.sub (i : Int) 1)) = ps[i - 1]'(by omega) := by
                have : std.nat (std.sub (i : Int) 1) = i - 1 := by simp
                rw [this]; simp [show i - 1 < ps.length by omega]
              have g4 : pC (ps[i - 1]'(by omega)) = ((ps[i - 1]'(by omega)).cellAt 0).toI := rfl
              by_cases h5 : last < pC ps[i]
              · rw [if_pos ⟨h4, h5⟩]
                refine go hC BC0_ok (f44p8 std ps i) ?_ (ih (i + 1) _ (by omega) (by omega) hnext (by omega))
                simp only [e1, e2, ← g1, ← g2, ← g3, ← g4, hpre]
                generalize pC ps[i] = c at *
                generalize pL ps[i] = l at *
                generalize pH ps[i] = h at *
                simp [hlt, h1, h2, h3, h4]
                omega
              · rw [if_neg (fun h => h5 h.2)]
                refine fin hC BC0_ok (f44p7 std ps i) ?_ rfl rfl
                simp only [e1, e2, ← g1, ← g2, ← g3, ← g4, hpre]
                generalize pC ps[i] = c at *
                generalize pL ps[i] = l at *
                generalize pH ps[i] = h at *
                simp [hlt, h1, h2, h3, h4]
                omega
          · rw [if_neg (fun h => h4 h.1)]
            refine fin hC BC0_ok (f44p6 std ps i) ?_ rfl rfl
            simp only [e1, ← g1, ← g2, ← g3]
            generalize pC ps[i] = c at *
            generalize pL ps[i] = l at *
            generalize pH ps[i] = h at *
            simp [hlt, h1, h2, h3]
            omega
        · rw [if_neg (by rw [okP, decide_eq_true_eq]; exact fun h => h3 h.2.2)]
          refine fin hC BC0_ok (f44p5 std ps i) ?_ rfl rfl
          simp only [e1, ← g1, ← g2, ← g3, decide_eq_false h3]
          simp [hlt, h1, h2]
      · rw [if_neg (by rw [okP, decide_eq_true_eq]; exact fun h => h2 h.2.1)]
        refine fin hC BC0_ok (f44p4 std ps i) ?_ rfl rfl
        simp only [e1, ← g1, ← g2, ← g3, decide_eq_false h2]
        simp [hlt, h1]
    · rw [if_neg (by rw [okP, decide_eq_true_eq]; exact fun h => h1 h.1)]
      refine fin hC BC0_ok (f44p3 std ps i) ?_ rfl rfl
      simp only [e1, ← g1, ← g2, ← g3, decide_eq_false h1]
      simp [hlt]
theorem chk44_ok (ps : List AV) (h : ps.length ≤ 1000000) : Pure Try.prog 44 [.list (.big (.agg [.int .i64, .int .i64, .int .i64]) ps)] (.tup [.int .i64 (chkP ps).1, .int .i64 (chkP ps).2]) none :=
  start (f44e_at ps) fun C hC => by
    unfold chkP
    by_cases h1 : ps.length = 0
    · rw [if_pos h1]; exact fin hC BC0_ok (f44p0 std ps) (by simp [h1]) rfl rfl
    · rw [if_neg h1]
      have hne : ps ≠ [] := fun e => h1 (by rw [e]; rfl)
      by_cases h2 : 20 < ps.length
      · rw [if_pos h2]; exact fin hC BC0_ok (f44p1 std ps) (by simp [hne]; omega) rfl rfl
      · rw [if_neg h2]
        exact go hC BC0_ok (f44p2 std ps) (by simp [hne]; omega) (l44 hC ps h ps.length 0 (-1) (by omega) (by omega) (fun h => by omega) (fun _ => rfl))
theorem l41 {C : Ctx} (hC : C.P = Try.prog) (ps : List AV) (hlen : ps.length ≤ 1000000) : ∀ (d i : Nat) (last : Int), ps.length - i = d → i ≤ ps.length →
    Ev C (f41h41_0a ps ps.length last i) (f41h41_0am ps ps.length last i) (FinQ 41 (.tup [.int .i64 (chkL last i (ps.drop i)).1, .int .i64 (chkL last i (ps.drop i)).2]) none) := by
  intro d
  induction d with
  | zero =>
    intro i last hd hi
    exact fin hC BC0_ok (f41p12 std ps ps.length last i) (by simp; omega) (by rw [List.drop_of_length_le (by omega)]; rfl) rfl
  | succ d ih =>
    intro i last hd hi
    have hlt : i < ps.length := by omega
    have e1 : std.nthA ps (std.nat (i : Int)) = ps[i] := by simp [hlt]
    rw [List.drop_eq_getElem_cons hlt, chkL]
    have g1 : pC ps[i] = (ps[i].cellAt 0).toI := rfl
    have g2 : pL ps[i] = (ps[i].cellAt 1).toI := rfl
    have g3 : pH ps[i] = (ps[i].cellAt 2).toI := rfl
    have ih' := ih (i + 1) (pC ps[i]) (by omega) (by omega)
    have z1 : AV.bx (.int .i64 2) = true := rfl
    by_cases h1 : 0 ≤ pC ps[i] ∧ pC ps[i] ≤ 1000000
    · by_cases h2 : 0 ≤ pL ps[i] ∧ pL ps[i] ≤ 1000000000000
      · by_cases h3 : 0 ≤ pH ps[i] ∧ pH ps[i] ≤ 1000000000000
        · rw [if_pos (by rw [okP, decide_eq_true_eq]; exact ⟨h1, h2, h3⟩)]
          by_cases h4 : pL ps[i] ≤ pH ps[i]
          · by_cases h5 : last < pC ps[i]
            · rw [if_pos ⟨h4, h5⟩]
              refine go hC BC0_ok (f41p3 std ps ps.length last i) ?_ (by simpa [hlt, g1] using ih')
              simp only [e1, ← g1, ← g2, ← g3, decide_eq_true h1, decide_eq_true h2, decide_eq_true h3, s_lt, decide_eq_true h5]
              simp [hlt, h4, firstE, AV.bx, flatLen]
              omega
            · rw [if_neg (fun h => h5 h.2)]
              refine fin hC BC0_ok (f41p2 std ps ps.length last i) ?_ ?_ rfl
              · simp only [e1, ← g1, ← g2, ← g3, decide_eq_true h1, decide_eq_true h2, decide_eq_true h3, s_lt, decide_eq_false h5]
                simp [hlt, h4, firstE, AV.bx, flatLen]
              · simp only [e1, ← g1, ← g2, ← g3, decide_eq_true h3, s_lt, decide_eq_false h5]
                simp [firstE]
          · rw [if_neg (fun h => h4 h.1)]
            refine fin hC BC0_ok (f41p4 std ps ps.length last i) ?_ ?_ rfl
            · simp only [e1, ← g1, ← g2, ← g3, decide_eq_true h1, decide_eq_true h2, decide_eq_true h3]
              simp [hlt, firstE, AV.bx, flatLen]
              omega
            · simp only [e1, ← g3, decide_eq_true h3]
              simp [firstE]
        · rw [if_neg (by rw [okP, decide_eq_true_eq]; exact fun h => h3 h.2.2)]
          by_cases h4 : pL ps[i] ≤ pH ps[i]
          · refine fin hC BC0_ok (f41p2 std ps ps.length last i) ?_ ?_ rfl
            · simp only [e1, ← g1, ← g2, ← g3, decide_eq_true h1, decide_eq_true h2, decide_eq_false h3]
              simp [hlt, h4, firstE, AV.bx, flatLen]
            · simp only [e1, ← g1, ← g3, decide_eq_false h3]
              simp [firstE]
          · refine fin hC BC0_ok (f41p4 std ps ps.length last i) ?_ ?_ rfl
            · simp only [e1, ← g1, ← g2, ← g3, decide_eq_true h1, decide_eq_true h2, decide_eq_false h3]
              simp [hlt, firstE, AV.bx, flatLen]
              omega
            · simp only [e1, ← g3, decide_eq_false h3]
              simp [firstE]
      · rw [if_neg (by rw [okP, decide_eq_true_eq]; exact fun h => h2 h.2.1)]
        by_cases h4 : pL ps[i] ≤ pH ps[i]
        · refine fin hC BC0_ok (f41p6 std ps ps.length last i) ?_ ?_ rfl
          · simp only [e1, ← g1, ← g2, ← g3, decide_eq_true h1, decide_eq_false h2]
            simp [hlt, h4, firstE, AV.bx, flatLen]
          · simp [firstE]
        · refine fin hC BC0_ok (f41p8 std ps ps.length last i) ?_ rfl rfl
          simp only [e1, ← g1, ← g2, ← g3, decide_eq_true h1, decide_eq_false h2]
          simp [hlt, firstE, AV.bx, flatLen]
          omega
    · rw [if_neg (by rw [okP, decide_eq_true_eq]; exact fun h => h1 h.1)]
      by_cases h4 : pL ps[i] ≤ pH ps[i]
      · refine fin hC BC0_ok (f41p9 std ps ps.length last i) ?_ ?_ rfl
        · simp only [e1, ← g1, ← g2, ← g3, decide_eq_false h1]
          simp [hlt, h4, firstE, AV.bx, flatLen]
        · simp [firstE]
      · refine fin hC BC0_ok (f41p11 std ps ps.length last i) ?_ rfl rfl
        simp only [e1, ← g1, ← g2, ← g3, decide_eq_false h1]
        simp [hlt, firstE, AV.bx, flatLen]
        omega
theorem chk41_ok (ps : List AV) (h : ps.length ≤ 1000000) : Pure Try.prog 41 [.list (.big (.agg [.int .i64, .int .i64, .int .i64]) ps)] (.tup [.int .i64 (chkP ps).1, .int .i64 (chkP ps).2]) none :=
  start (f41e_at ps) fun C hC => by
    unfold chkP
    by_cases h1 : ps.length = 0
    · have hne : ps = [] := List.eq_nil_of_length_eq_zero h1
      subst hne
      rw [if_pos h1]; exact fin hC BC0_ok (f41p0 std []) (by simp [firstE, AV.bx, flatLen]) (by simp [firstE]) rfl
    · rw [if_neg h1]
      have hne : ps ≠ [] := fun e => h1 (by rw [e]; rfl)
      have h1' : (0 : Int) < (ps.length : Int) := by omega
      by_cases h2 : 20 < ps.length
      · rw [if_pos h2]
        have h2' : ¬ (ps.length : Int) ≤ 20 := by omega
        refine fin hC BC0_ok (f41p0 std ps) ?_ ?_ rfl
        · simp only [s_lt, s_le, s_int, s_lenA, decide_eq_true h1', decide_eq_false h2']; simp [firstE, AV.bx, flatLen]
        · simp only [s_lt, s_le, s_int, s_lenA, decide_eq_true h1', decide_eq_false h2']; simp [firstE]
      · rw [if_neg h2]
        have h2' : (ps.length : Int) ≤ 20 := by omega
        refine go hC BC0_ok (f41p1 std ps) ?_ (l41 hC ps h ps.length 0 (-1) (by omega) (by omega))
        simp only [s_lt, s_le, s_int, s_lenA, decide_eq_true h1', decide_eq_true h2']; simp [firstE, AV.bx, flatLen]
def k108 : Ctr := ⟨108, 0, fun _ a => match a with | [.int .i64 a, .int .i64 b] => some (decide (bigB a = true ∧ bigB b = true), .int .i64 (Int.gcd a b : Int), none) | _ => none⟩
theorem k108_ok : k108.OK Try.prog := fun pa args r fr h => by
  simp only [k108] at h
  split at h
  · simp only [Option.some.injEq, Prod.mk.injEq, decide_eq_true_eq] at h
    obtain ⟨h0, rfl, rfl⟩ := h
    exact gcd108_ok _ _ h0
  · cases h
def k49 : Ctr := ⟨49, 0, fun _ a => match a with | [.int .i64 n, .int .i64 d] => some (decide ((0 < d ∧ bigB d = true) ∧ bigB n = true), .int .i64 (floorI n d), none) | _ => none⟩
theorem k49_ok : k49.OK Try.prog := fun pa args r fr h => by
  simp only [k49] at h
  split at h
  · simp only [Option.some.injEq, Prod.mk.injEq, decide_eq_true_eq] at h
    obtain ⟨h0, rfl, rfl⟩ := h
    exact floor49_ok _ _ h0
  · cases h
def k114 : Ctr := ⟨114, 0, fun _ a => match a with | [.int .i64 n, .int .i64 d] => some (decide (bigB n = true ∧ 0 < d ∧ bigB d = true), .agg (.gen [.int .i64 (lN n d), .int .i64 (lD n d)]), none) | _ => none⟩
theorem k114_ok : k114.OK Try.prog := fun pa args r fr h => by
  simp only [k114] at h
  split at h
  · simp only [Option.some.injEq, Prod.mk.injEq, decide_eq_true_eq] at h
    obtain ⟨h0, rfl, rfl⟩ := h
    exact lowest114_ok _ _ h0
  · cases h
def k135 : Ctr := ⟨135, 0, fun _ a => match a with | [.agg (.gen [.int .i64 a, .int .i64 b]), .agg (.gen [.int .i64 c, .int .i64 d])] => some (decide (prodB a b c d = true), .bool (ltF a b c d), none) | _ => none⟩
theorem k135_ok : k135.OK Try.prog := fun pa args r fr h => by
  simp only [k135] at h
  split at h
  · simp only [Option.some.injEq, Prod.mk.injEq, decide_eq_true_eq] at h
    obtain ⟨h0, rfl, rfl⟩ := h
    exact less135_ok _ _ _ _ h0
  · cases h
def k24 : Ctr := ⟨24, 0, fun _ a => match a with | [.list (.big (.agg [.int .i64, .int .i64, .int .i64]) ps)] => some (decide (ps.length ≤ 1000000), .list (.big (.agg [.int .i64, .int .i64, .int .i64]) ps), newF) | _ => none⟩
theorem k24_ok : k24.OK Try.prog := fun pa args r fr h => by
  simp only [k24] at h
  split at h
  · simp only [Option.some.injEq, Prod.mk.injEq, decide_eq_true_eq] at h
    obtain ⟨h0, rfl, rfl⟩ := h
    exact copyP_ok _ h0
  · cases h
def k48 : Ctr := ⟨48, 0, fun _ a => match a with | [.agg (.gen [.int .i64 a, .int .i64 b])] => some (true, .bool (smF a b), none) | _ => none⟩
theorem k48_ok : k48.OK Try.prog := fun pa args r fr h => by
  simp only [k48] at h
  split at h
  · cases h
    exact small48_ok _ _
  · cases h
def k45 : Ctr := ⟨45, 0, fun _ a => match a with | [.list (.big (.agg [.int .i64, .int .i64]) xs), .list (.big (.agg [.int .i64, .int .i64]) ys)] => some (decide (xs.length ≤ 1000000), .bool (decide (xs.map prP = ys.map prP)), none) | _ => none⟩
theorem k45_ok : k45.OK Try.prog := fun pa args r fr h => by
  simp only [k45] at h
  split at h
  · simp only [Option.some.injEq, Prod.mk.injEq, decide_eq_true_eq] at h
    obtain ⟨h0, rfl, rfl⟩ := h
    exact ranges45_ok _ _ h0
  · cases h
def k44 : Ctr := ⟨44, 0, fun _ a => match a with | [.list (.big (.agg [.int .i64, .int .i64, .int .i64]) ps)] => some (decide (ps.length ≤ 1000000), .tup [.int .i64 (chkP ps).1, .int .i64 (chkP ps).2], none) | _ => none⟩
theorem k44_ok : k44.OK Try.prog := fun pa args r fr h => by
  simp only [k44] at h
  split at h
  · simp only [Option.some.injEq, Prod.mk.injEq, decide_eq_true_eq] at h
    obtain ⟨h0, rfl, rfl⟩ := h
    exact chk44_ok _ h0
  · cases h
def k41 : Ctr := ⟨41, 0, fun _ a => match a with | [.list (.big (.agg [.int .i64, .int .i64, .int .i64]) ps)] => some (decide (ps.length ≤ 1000000), .tup [.int .i64 (chkP ps).1, .int .i64 (chkP ps).2], none) | _ => none⟩
theorem k41_ok : k41.OK Try.prog := fun pa args r fr h => by
  simp only [k41] at h
  split at h
  · simp only [Option.some.injEq, Prod.mk.injEq, decide_eq_true_eq] at h
    obtain ⟨h0, rfl, rfl⟩ := h
    exact chk41_ok _ h0
  · cases h
def BC1 : List Ctr := [k108, k49, k114, k135, k24, k48, k45, k44, k41] ++ BC0
theorem BC1_ok : CtrsOK Try.prog BC1 := ⟨k108_ok, ⟨k49_ok, ⟨k114_ok, ⟨k135_ok, ⟨k24_ok, ⟨k48_ok, ⟨k45_ok, ⟨k44_ok, ⟨k41_ok, BC0_ok⟩⟩⟩⟩⟩⟩⟩⟩⟩
end Go.Proofs.Ytjhdnpmojhkbjaa
