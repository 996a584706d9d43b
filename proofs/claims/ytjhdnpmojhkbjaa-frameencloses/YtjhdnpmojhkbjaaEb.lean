/- Times: the lines through pairs. No condition. -/
import Derived.Test.YtjhdnpmojhkbjaaE6
import Derived.KernelRfl
namespace Go.Proofs.Ytjhdnpmojhkbjaa
theorem posQ {d : Int} (h : 0 < d) : (0 : Rat) < (d : Rat) := by exact_mod_cast h
theorem floorQ {m d : Int} (hd : 0 < d) (x : Int) : x ≤ floorI m d ↔ (x : Rat) ≤ (m : Rat) / (d : Rat) := by
  rw [ledv (posQ hd)]
  obtain ⟨h1, h2⟩ := floorI_rng m hd
  constructor
  · intro h
    have : x * d ≤ m := Int.le_trans (Int.mul_le_mul_of_nonneg_right h (by omega)) h1
    exact_mod_cast this
  · intro h
    have h : x * d ≤ m := by exact_mod_cast h
    have h3 : x * d < (floorI m d + 1) * d := by rw [Int.add_mul, Int.one_mul]; omega
    have := Int.lt_of_mul_lt_mul_right h3 (by omega)
    omega
theorem ceilQ {m d : Int} (hd : 0 < d) (x : Int) : ceilI m d ≤ x ↔ (m : Rat) / (d : Rat) ≤ (x : Rat) := by
  have h := floorQ (m := -m) hd (-x)
  unfold ceilI
  rw [divle (posQ hd)]
  rw [ledv (posQ hd)] at h
  constructor
  · intro h1
    have := h.1 (by omega)
    push_cast at this
    grind
  · intro h1
    have := h.2 (by push_cast; grind)
    omega
def qd (n d : Int) : Rat := (n : Rat) / (d : Rat)
theorem qd_le {a b c d : Int} (hb : 0 < b) (hd : 0 < d) : qd a b ≤ qd c d ↔ a * d ≤ c * b := by
  unfold qd
  rw [ledv (posQ hd), Rat.div_def, Rat.mul_assoc, Rat.mul_comm (b : Rat)⁻¹, ← Rat.mul_assoc, ← Rat.div_def, divle (posQ hb)]
  constructor
  · intro h; exact_mod_cast h
  · intro h; exact_mod_cast h
theorem low_eq (n : Int) {d : Int} (hd : 0 < d) : qd (lN n d) (lD n d) = qd n d := by
  have hr := low_rng n hd
  have e : lN n d * d = n * lD n d := by
    unfold lN lD
    obtain ⟨n', hn⟩ : ((Int.gcd n d : Nat) : Int) ∣ n := Int.gcd_dvd_left _ _
    obtain ⟨d', hd'⟩ : ((Int.gcd n d : Nat) : Int) ∣ d := Int.gcd_dvd_right _ _
    have hg : ((Int.gcd n d : Nat) : Int) ≠ 0 := fun h => by rw [h] at hd'; omega
    generalize ((Int.gcd n d : Nat) : Int) = g at *
    subst hn
    subst hd'
    rw [Int.mul_tdiv_cancel_left _ hg, Int.mul_tdiv_cancel_left _ hg]
    rw [Int.mul_comm g n', Int.mul_assoc]
  exact Rat.le_antisymm ((qd_le hr.2.1 hd).2 (by omega)) ((qd_le hd hr.2.1).2 (by omega))
def cQ (p : AV) : Rat := (pC p : Rat)
def lQ (p : AV) : Rat := (pL p : Rat)
def hQ (p : AV) : Rat := (pH p : Rat)
def feasL (ps : List AV) (n s T : Rat) : Prop := ∀ p ∈ ps, lQ p ≤ T + s * (cQ p - n) ∧ T + s * (cQ p - n) ≤ hQ p
theorem fitB_iff {a b c d : Int} : ∀ {ps : List AV}, fitB a b c d ps = true ↔ ∀ p ∈ ps, fitS a b c d p
  | [] => by simp [fitB]
  | p :: ps => by rw [fitB, Bool.and_eq_true, decide_eq_true_eq, fitB_iff (ps := ps)]; simp
def slQ (a b c d : Int) : Rat := ((d : Rat) - b) / ((c : Rat) - a)
theorem slQ_mul {a b c d : Int} (h : a < c) : slQ a b c d * ((c : Rat) - a) = (d : Rat) - b := by
  have : (a : Rat) < (c : Rat) := by exact_mod_cast h
  exact Rat.div_mul_cancel (by grind)
theorem at_mul {a b c d : Int} (h : a < c) (x : Int) : (atC a b c d x : Rat) = ((b : Rat) + slQ a b c d * ((x : Rat) - a)) * ((c : Rat) - a) := by
  have h1 := slQ_mul (b := b) (d := d) h
  unfold atC
  push_cast
  grind
theorem denC_pos {a c : Int} (h : a < c) : 0 < denC a c := by unfold denC; omega
theorem denC_Q (a c : Int) : ((denC a c : Int) : Rat) = (c : Rat) - a := by unfold denC; push_cast; rfl
theorem at_div {a b c d : Int} (h : a < c) (x : Int) : (atC a b c d x : Rat) / (denC a c : Rat) = (b : Rat) + slQ a b c d * ((x : Rat) - a) := by
  have h2 := posQ (denC_pos h)
  have h3 : (denC a c : Rat) ≠ 0 := by grind
  rw [at_mul h, ← denC_Q a c]
  exact Rat.mul_div_cancel h3
theorem fit_iff {a b c d : Int} (h : a < c) {ps : List AV} (n : Int) : fitB a b c d ps = true ↔ feasL ps n (slQ a b c d) ((b : Rat) + slQ a b c d * ((n : Rat) - a)) := by
  rw [fitB_iff]
  have hp := posQ (denC_pos h)
  refine forall_congr' fun p => forall_congr' fun _ => ?_
  have h1 : pL p * denC a c ≤ atC a b c d (pC p) ↔ lQ p ≤ (atC a b c d (pC p) : Rat) / (denC a c : Rat) := by
    rw [ledv hp]; unfold lQ
    constructor
    · intro h; exact_mod_cast h
    · intro h; exact_mod_cast h
  have h2 : atC a b c d (pC p) ≤ pH p * denC a c ↔ (atC a b c d (pC p) : Rat) / (denC a c : Rat) ≤ hQ p := by
    rw [divle hp]; unfold hQ
    constructor
    · intro h; exact_mod_cast h
    · intro h; exact_mod_cast h
  have e : (b : Rat) + slQ a b c d * ((n : Rat) - a) + slQ a b c d * (cQ p - n) = (b : Rat) + slQ a b c d * ((pC p : Rat) - a) := by unfold cQ; grind
  unfold fitS
  rw [h1, h2, at_div h, e]
theorem loX_iff {a b c d n : Int} (h : a < c) (x : Int) : x ≤ loX n a b c d ↔ (x : Rat) ≤ (b : Rat) + slQ a b c d * ((n : Rat) - a) := by
  unfold loX; rw [floorQ (denC_pos h), at_div h]
theorem hiX_iff {a b c d n : Int} (h : a < c) (x : Int) : hiX n a b c d ≤ x ↔ (b : Rat) + slQ a b c d * ((n : Rat) - a) ≤ (x : Rat) := by
  have : hiX n a b c d = ceilI (atC a b c d n) (denC a c) := rfl
  rw [this, ceilQ (denC_pos h), at_div h]
theorem ch_line {ps : List AV} {n : Int} {p q : AV} {v : Int × Int} (hlt : pC p < pC q) (h : isCh ps n p q v) : ∃ s T, feasL ps n s T ∧ (∀ x : Int, x ≤ v.1 ↔ (x : Rat) ≤ T) ∧ (∀ x : Int, v.2 ≤ x ↔ T ≤ (x : Rat)) := by
  obtain ⟨b, d, _, _, h3, rfl⟩ := h
  exact ⟨_, _, (fit_iff hlt n).1 h3, fun x => loX_iff hlt x, fun x => hiX_iff hlt x⟩
theorem line_ch {ps : List AV} {n : Int} {p q : AV} {b d : Int} (hlt : pC p < pC q) (hb : b = pL p ∨ b = pH p) (hd : d = pL q ∨ d = pH q) {s T : Rat} (hs : s * (cQ q - cQ p) = (d : Rat) - b) (hT : T = (b : Rat) + s * ((n : Rat) - cQ p)) (hf : feasL ps n s T) : ∃ v, isCh ps n p q v ∧ (∀ x : Int, x ≤ v.1 ↔ (x : Rat) ≤ T) ∧ (∀ x : Int, v.2 ≤ x ↔ T ≤ (x : Rat)) := by
  have e : s = slQ (pC p) b (pC q) d := by
    have h1 := slQ_mul (b := b) (d := d) hlt
    have h2 : (pC p : Rat) < (pC q : Rat) := by exact_mod_cast hlt
    have h3 : (cQ q - cQ p) ≠ 0 := by unfold cQ; grind
    have h4 : s * (cQ q - cQ p) = slQ (pC p) b (pC q) d * (cQ q - cQ p) := by rw [hs]; exact h1.symm
    have := congrArg (· / (cQ q - cQ p)) h4
    simp only [Rat.mul_div_cancel h3] at this
    exact this
  subst e
  subst hT
  exact ⟨_, ⟨b, d, hb, hd, (fit_iff hlt n).2 hf, rfl⟩, fun x => loX_iff hlt x, fun x => hiX_iff hlt x⟩
end Go.Proofs.Ytjhdnpmojhkbjaa
/- Times: the range of the rates, and the range of the times. No condition. -/
namespace Go.Proofs.Ytjhdnpmojhkbjaa
def slowQ (q p : AV) : Rat := qd (pL q - pH p) (pC q - pC p)
def fastQ (q p : AV) : Rat := qd (pH q - pL p) (pC q - pC p)
structure RInv (V : AV → AV → Prop) (s : R4) : Prop where
  rng : sR s
  lo1 : ∃ q p, V q p ∧ okQ q p ∧ qd s.1 s.2.1 = slowQ q p
  lo2 : ∀ q p, V q p → slowQ q p ≤ qd s.1 s.2.1
  hi1 : ∃ q p, V q p ∧ okQ q p ∧ qd s.2.2.1 s.2.2.2 = fastQ q p
  hi2 : ∀ q p, V q p → qd s.2.2.1 s.2.2.2 ≤ fastQ q p
theorem RInv.mono {V W : AV → AV → Prop} {s : R4} (h : RInv V s) (hw : ∀ q p, V q p ↔ W q p) : RInv W s :=
  ⟨h.rng, by obtain ⟨q, p, h1, h2⟩ := h.lo1; exact ⟨q, p, (hw q p).1 h1, h2⟩, fun q p hv => h.lo2 q p ((hw q p).2 hv), by obtain ⟨q, p, h1, h2⟩ := h.hi1; exact ⟨q, p, (hw q p).1 h1, h2⟩, fun q p hv => h.hi2 q p ((hw q p).2 hv)⟩
theorem rnew_1 {q p : AV} (h : okQ q p) : qd (rnew q p).1 (rnew q p).2.1 = slowQ q p := low_eq _ h.1.1
theorem rnew_2 {q p : AV} (h : okQ q p) : qd (rnew q p).2.2.1 (rnew q p).2.2.2 = fastQ q p := low_eq _ h.1.1
theorem rinv_one {q p : AV} (h : okQ q p) : RInv (fun a b => a = q ∧ b = p) (rnew q p) :=
  ⟨rnew_sR h, ⟨q, p, ⟨rfl, rfl⟩, h, rnew_1 h⟩, fun a b ⟨h1, h2⟩ => by rw [rnew_1 h, h1, h2]; exact Rat.le_refl, ⟨q, p, ⟨rfl, rfl⟩, h, rnew_2 h⟩, fun a b ⟨h1, h2⟩ => by rw [rnew_2 h, h1, h2]; exact Rat.le_refl⟩
theorem ltF_Q {a b c d : Int} (hb : 0 < b) (hd : 0 < d) : ltF a b c d = true ↔ ¬ qd c d ≤ qd a b := by
  rw [qd_le hd hb, ltF, decide_eq_true_eq]; omega
theorem rmrg_1 (s n : R4) : ((rmrg s n).1, (rmrg s n).2.1) = if ltF s.1 s.2.1 n.1 n.2.1 = true then (n.1, n.2.1) else (s.1, s.2.1) := by
  unfold rmrg
  split <;> split <;> rfl
theorem rmrg_2 (s n : R4) : ((rmrg s n).2.2.1, (rmrg s n).2.2.2) = if ltF n.2.2.1 n.2.2.2 s.2.2.1 s.2.2.2 = true then (n.2.2.1, n.2.2.2) else (s.2.2.1, s.2.2.2) := by
  unfold rmrg
  split <;> split <;> rfl
theorem rinv_mrg {V : AV → AV → Prop} {s : R4} (h : RInv V s) {q p : AV} (hq : okQ q p) : RInv (fun a b => V a b ∨ (a = q ∧ b = p)) (rmrg s (rnew q p)) := by
  have hn := rnew_sR hq
  have e1 := rnew_1 hq
  have e2 := rnew_2 hq
  have m1 := rmrg_1 s (rnew q p)
  have m2 := rmrg_2 s (rnew q p)
  have hr := rmrg_sR h.rng hn
  generalize rnew q p = n at *
  have a1 : qd (rmrg s n).1 (rmrg s n).2.1 = if ltF s.1 s.2.1 n.1 n.2.1 = true then qd n.1 n.2.1 else qd s.1 s.2.1 := by
    by_cases hl : ltF s.1 s.2.1 n.1 n.2.1 = true
    · rw [if_pos hl] at m1 ⊢
      rw [(Prod.mk.inj m1).1, (Prod.mk.inj m1).2]
    · rw [if_neg hl] at m1 ⊢
      rw [(Prod.mk.inj m1).1, (Prod.mk.inj m1).2]
  have a2 : qd (rmrg s n).2.2.1 (rmrg s n).2.2.2 = if ltF n.2.2.1 n.2.2.2 s.2.2.1 s.2.2.2 = true then qd n.2.2.1 n.2.2.2 else qd s.2.2.1 s.2.2.2 := by
    by_cases hl : ltF n.2.2.1 n.2.2.2 s.2.2.1 s.2.2.2 = true
    · rw [if_pos hl] at m2 ⊢
      rw [(Prod.mk.inj m2).1, (Prod.mk.inj m2).2]
    · rw [if_neg hl] at m2 ⊢
      rw [(Prod.mk.inj m2).1, (Prod.mk.inj m2).2]
  have l1 := ltF_Q (a := s.1) (b := s.2.1) (c := n.1) (d := n.2.1) h.rng.1.2.1 hn.1.2.1
  have l2 := ltF_Q (a := n.2.2.1) (b := n.2.2.2) (c := s.2.2.1) (d := s.2.2.2) hn.2.2.1 h.rng.2.2.1
  refine ⟨hr, ?_, fun a b hv => ?_, ?_, fun a b hv => ?_⟩
  · rw [a1]
    split
    · exact ⟨q, p, .inr ⟨rfl, rfl⟩, hq, e1⟩
    · obtain ⟨x, y, v1, v2⟩ := h.lo1; exact ⟨x, y, .inl v1, v2⟩
  · rw [a1]
    by_cases hl : ltF s.1 s.2.1 n.1 n.2.1 = true
    · rw [if_pos hl]
      have := l1.1 hl
      rcases hv with hv | ⟨rfl, rfl⟩
      · exact Rat.le_trans (h.lo2 a b hv) (Rat.le_of_lt (Rat.not_le.1 this))
      · rw [e1]; exact Rat.le_refl
    · rw [if_neg hl]
      rcases hv with hv | ⟨rfl, rfl⟩
      · exact h.lo2 a b hv
      · rw [← e1]; exact Classical.byContradiction fun hc => hl (l1.2 hc)
  · rw [a2]
    split
    · exact ⟨q, p, .inr ⟨rfl, rfl⟩, hq, e2⟩
    · obtain ⟨x, y, v1, v2⟩ := h.hi1; exact ⟨x, y, .inl v1, v2⟩
  · rw [a2]
    by_cases hl : ltF n.2.2.1 n.2.2.2 s.2.2.1 s.2.2.2 = true
    · rw [if_pos hl]
      have := l2.1 hl
      rcases hv with hv | ⟨rfl, rfl⟩
      · exact Rat.le_trans (Rat.le_of_lt (Rat.not_le.1 this)) (h.hi2 a b hv)
      · rw [e2]; exact Rat.le_refl
    · rw [if_neg hl]
      rcases hv with hv | ⟨rfl, rfl⟩
      · exact h.hi2 a b hv
      · rw [← e2]; exact Classical.byContradiction fun hc => hl (l2.2 hc)
theorem rinv_in {q : AV} : ∀ {l : List AV} {V : AV → AV → Prop} {s : R4}, RInv V s → (∀ p ∈ l, okQ q p) → RInv (fun a b => V a b ∨ (a = q ∧ b ∈ l)) (rinP q s l)
  | [], V, s, h, _ => h.mono fun a b => by simp
  | p :: l, V, s, h, hp => by
    have h1 := rinv_in (rinv_mrg h (hp p List.mem_cons_self)) (l := l) (fun x hx => hp x (List.mem_cons_of_mem _ hx))
    rw [rinP]
    exact h1.mono fun a b => by simp only [List.mem_cons]; constructor
                                · rintro ((h | ⟨rfl, rfl⟩) | ⟨rfl, h⟩)
                                  · exact .inl h
                                  · exact .inr ⟨rfl, .inl rfl⟩
                                  · exact .inr ⟨rfl, .inr h⟩
                                · rintro (h | ⟨rfl, rfl | h⟩)
                                  · exact .inl (.inl h)
                                  · exact .inl (.inr ⟨rfl, rfl⟩)
                                  · exact .inr ⟨rfl, h⟩
theorem rinv_go {ps : List AV} (hg : allQ ps) : ∀ (d i : Nat) {V : AV → AV → Prop} {s : R4}, i + d = ps.length → RInv V s → RInv (fun a b => V a b ∨ ∃ j, i ≤ j ∧ ∃ hj : j < ps.length, a = ps[j] ∧ b ∈ ps.take j) (rgoP ps d i s)
  | 0, i, V, s, hi, h => h.mono fun a b => by
    constructor
    · exact .inl
    · rintro (h | ⟨j, h1, h2, _⟩)
      · exact h
      · omega
  | d + 1, i, V, s, hi, h => by
    have hlt : i < ps.length := by omega
    have e : ps.getD i (.int .i64 0) = ps[i] := by simp [hlt]
    have h1 := rinv_in h (rtake hg hlt)
    rw [rgoP]
    rw [e] at h1 ⊢
    exact (rinv_go hg d (i + 1) (by omega) h1).mono fun a b => by
      constructor
      · rintro ((h | ⟨h1, h2⟩) | ⟨j, h1, h2, h3⟩)
        · exact .inl h
        · exact .inr ⟨i, Nat.le_refl _, hlt, h1, h2⟩
        · exact .inr ⟨j, by omega, h2, h3⟩
      · rintro (h | ⟨j, h1, h2, h3, h4⟩)
        · exact .inl (.inl h)
        · by_cases hj : j = i
          · subst hj; exact .inl (.inr ⟨h3, h4⟩)
          · exact .inr ⟨j, by omega, h2, h3, h4⟩
def r0Q (ps : List AV) : Rat := qd (rateP ps).1 (rateP ps).2.1
def r1Q (ps : List AV) : Rat := qd (rateP ps).2.2.1 (rateP ps).2.2.2
theorem rate_inv {ps : List AV} (hq : allQ ps) (h2 : 2 ≤ ps.length) : RInv (fun a b => ∃ j, ∃ hj : j < ps.length, a = ps[j] ∧ b ∈ ps.take j) (rateP ps) := by
  have h0 : 0 < ps.length := by omega
  have h1 : 1 < ps.length := by omega
  have e1 : ps.getD 1 (.int .i64 0) = ps[1] := by simp [h1]
  have e0 : ps.getD 0 (.int .i64 0) = ps[0] := by simp [h0]
  have ht : ps.take 1 = [ps[0]] := by rw [List.take_one, List.head?_eq_getElem?]; simp [h0]
  have hok := hq 1 0 h1 (by omega)
  rw [e1, e0] at hok
  rw [rateP, e1, e0]
  refine (rinv_go hq (ps.length - 2) 2 (by omega) (rinv_one hok)).mono fun a b => ?_
  constructor
  · rintro (⟨ha, hb⟩ | ⟨j, h1, h2, h3⟩)
    · exact ⟨1, h1, ha, by rw [ht, hb]; simp⟩
    · exact ⟨j, h2, h3⟩
  · rintro ⟨j, hj, h3, h4⟩
    by_cases hj1 : j = 1
    · subst hj1
      rw [ht, List.mem_singleton] at h4
      exact .inl ⟨h3, h4⟩
    · by_cases hj0 : j = 0
      · subst hj0; simp at h4
      · exact .inr ⟨j, by omega, hj, h3, h4⟩
structure Good2 (ps : List AV) : Prop where
  asc : ascP ps
  two : 2 ≤ ps.length
  rng : sR (rateP ps)
  lo1 : ∃ q ∈ ps, ∃ p ∈ ps, pC p < pC q ∧ r0Q ps = slowQ q p
  lo2 : ∀ q ∈ ps, ∀ p ∈ ps, pC p < pC q → slowQ q p ≤ r0Q ps
  hi1 : ∃ q ∈ ps, ∃ p ∈ ps, pC p < pC q ∧ r1Q ps = fastQ q p
  hi2 : ∀ q ∈ ps, ∀ p ∈ ps, pC p < pC q → r1Q ps ≤ fastQ q p
theorem chk_good {ps : List AV} (hc : (chkP ps).2 = 0) (h2 : 2 ≤ ps.length) : Good2 ps := by
  have ha : ascP ps := chkP_all hc
  have hi := rate_inv (chkP_ok hc).2.2 h2
  refine ⟨ha, h2, hi.rng, ?_, fun q hq p hp hlt => ?_, ?_, fun q hq p hp hlt => ?_⟩
  · obtain ⟨q, p, ⟨j, hj, rfl, hp⟩, _, h⟩ := hi.lo1
    exact ⟨_, by simp, p, List.mem_of_mem_take hp, (asc_take ha hj p hp).2, h⟩
  · obtain ⟨i, hi', rfl, hpi⟩ := asc_lt ha hp hq hlt
    exact hi.lo2 _ _ ⟨i, hi', rfl, hpi⟩
  · obtain ⟨q, p, ⟨j, hj, rfl, hp⟩, _, h⟩ := hi.hi1
    exact ⟨_, by simp, p, List.mem_of_mem_take hp, (asc_take ha hj p hp).2, h⟩
  · obtain ⟨i, hi', rfl, hpi⟩ := asc_lt ha hp hq hlt
    exact hi.hi2 _ _ ⟨i, hi', rfl, hpi⟩
theorem lineS_iff {ps : List AV} (G : Good2 ps) : lineS ps = true ↔ r0Q ps ≤ r1Q ps := by
  have h := ltF_Q (a := (rateP ps).2.2.1) (b := (rateP ps).2.2.2) (c := (rateP ps).1) (d := (rateP ps).2.1) G.rng.2.2.1 G.rng.1.2.1
  unfold lineS lineR r0Q r1Q
  rw [Bool.not_eq_true', ← Bool.not_eq_true, h]
  exact Classical.not_not
theorem ltQ {p q : AV} (h : pC p < pC q) : cQ p < cQ q := by unfold cQ; exact_mod_cast h
theorem slow_eq {p q : AV} (h : pC p < pC q) (x : Rat) : slowQ q p ≤ x ↔ lQ q - hQ p ≤ x * (cQ q - cQ p) := by
  unfold slowQ qd
  have := posQ (d := pC q - pC p) (by omega)
  rw [divle this]; unfold lQ hQ cQ; push_cast; rfl
theorem fast_eq {p q : AV} (h : pC p < pC q) (x : Rat) : x ≤ fastQ q p ↔ x * (cQ q - cQ p) ≤ hQ q - lQ p := by
  unfold fastQ qd
  have := posQ (d := pC q - pC p) (by omega)
  rw [ledv this]; unfold lQ hQ cQ; push_cast; rfl
theorem feas_rate {ps : List AV} (G : Good2 ps) {n s T : Rat} (hf : feasL ps n s T) : r0Q ps ≤ s ∧ s ≤ r1Q ps := by
  obtain ⟨q, hq, p, hp, hlt, e⟩ := G.lo1
  obtain ⟨q', hq', p', hp', hlt', e'⟩ := G.hi1
  rw [e, e', slow_eq hlt, fast_eq hlt']
  have h1 := hf q hq
  have h2 := hf p hp
  have h3 := hf q' hq'
  have h4 := hf p' hp'
  exact ⟨by grind, by grind⟩
end Go.Proofs.Ytjhdnpmojhkbjaa
/- Times: chords and rates give the same range. No condition. -/
namespace Go.Proofs.Ytjhdnpmojhkbjaa
theorem lhF_spec {num den n : Int} : ∀ {l : List AV} {s : Int × Int}, ((lhF num den n l s).1 = s.1 ∨ ∃ k ∈ l, (lhF num den n l s).1 = frmX num den n k) ∧ s.1 ≤ (lhF num den n l s).1 ∧ (∀ p ∈ l, frmX num den n p ≤ (lhF num den n l s).1) ∧ ((lhF num den n l s).2 = s.2 ∨ ∃ k ∈ l, (lhF num den n l s).2 = tooX num den n k) ∧ (lhF num den n l s).2 ≤ s.2 ∧ (∀ p ∈ l, (lhF num den n l s).2 ≤ tooX num den n p)
  | [], s => ⟨.inl rfl, Int.le_refl _, fun v hv => absurd hv List.not_mem_nil, .inl rfl, Int.le_refl _, fun v hv => absurd hv List.not_mem_nil⟩
  | v :: l, s => by
    rw [lhF]
    obtain ⟨h2, h3, h4, h5, h6, h7⟩ := lhF_spec (num := num) (den := den) (n := n) (l := l) (s := (max s.1 (frmX num den n v), min s.2 (tooX num den n v)))
    generalize lhF num den n l (max s.1 (frmX num den n v), min s.2 (tooX num den n v)) = z at *
    simp only at h2 h3 h5 h6
    have k1 : s.1 ≤ z.1 ∧ frmX num den n v ≤ z.1 := by clear h2 h5; omega
    have k2 : z.2 ≤ s.2 ∧ z.2 ≤ tooX num den n v := by clear h2 h5; omega
    have k3 : max s.1 (frmX num den n v) = s.1 ∨ max s.1 (frmX num den n v) = frmX num den n v := by clear h2 h5; omega
    have k4 : min s.2 (tooX num den n v) = s.2 ∨ min s.2 (tooX num den n v) = tooX num den n v := by clear h2 h5; omega
    refine ⟨?_, k1.1, fun w hw => ?_, ?_, k2.1, fun w hw => ?_⟩
    · rcases h2 with h2 | ⟨w, hw, h2⟩
      · rcases k3 with k3 | k3
        · exact .inl (h2.trans k3)
        · exact .inr ⟨v, by simp, h2.trans k3⟩
      · exact .inr ⟨w, by simp [hw], h2⟩
    · rcases List.mem_cons.1 hw with rfl | hw
      · exact k1.2
      · exact h4 w hw
    · rcases h5 with h5 | ⟨w, hw, h5⟩
      · rcases k4 with k4 | k4
        · exact .inl (h5.trans k4)
        · exact .inr ⟨v, by simp, h5.trans k4⟩
      · exact .inr ⟨w, by simp [hw], h5⟩
    · rcases List.mem_cons.1 hw with rfl | hw
      · exact k2.2
      · exact h7 w hw
theorem lhS_spec {num den n : Int} {ps : List AV} (h : ps ≠ []) : (∃ k ∈ ps, (lhS num den n ps).1 = frmX num den n k) ∧ (∀ p ∈ ps, frmX num den n p ≤ (lhS num den n ps).1) ∧ (∃ k ∈ ps, (lhS num den n ps).2 = tooX num den n k) ∧ (∀ p ∈ ps, (lhS num den n ps).2 ≤ tooX num den n p) := by
  cases ps with
  | nil => exact absurd rfl h
  | cons v l =>
    rw [lhS]
    obtain ⟨h2, h3, h4, h5, h6, h7⟩ := lhF_spec (num := num) (den := den) (n := n) (l := l) (s := (frmX num den n v, tooX num den n v))
    refine ⟨?_, fun w hw => ?_, ?_, fun w hw => ?_⟩
    · rcases h2 with h2 | ⟨w, hw, h2⟩
      · exact ⟨v, by simp, h2⟩
      · exact ⟨w, by simp [hw], h2⟩
    · rcases List.mem_cons.1 hw with rfl | hw
      · exact h3
      · exact h4 w hw
    · rcases h5 with h5 | ⟨w, hw, h5⟩
      · exact ⟨v, by simp, h5⟩
      · exact ⟨w, by simp [hw], h5⟩
    · rcases List.mem_cons.1 hw with rfl | hw
      · exact h6
      · exact h7 w hw
theorem frm_div {num den : Int} (hd : 0 < den) (n : Int) (p : AV) : (frmX num den n p : Rat) / (den : Rat) = lQ p + qd num den * ((n : Rat) - cQ p) := by
  have h0 := posQ hd
  have h1 : (den : Rat) ≠ 0 := by grind
  have h2 : qd num den * den = num := Rat.div_mul_cancel h1
  have h3 : (frmX num den n p : Rat) = (lQ p + qd num den * ((n : Rat) - cQ p)) * den := by unfold frmX lQ cQ; push_cast; grind
  rw [h3]; exact Rat.mul_div_cancel h1
theorem too_div {num den : Int} (hd : 0 < den) (n : Int) (p : AV) : (tooX num den n p : Rat) / (den : Rat) = hQ p + qd num den * ((n : Rat) - cQ p) := by
  have h0 := posQ hd
  have h1 : (den : Rat) ≠ 0 := by grind
  have h2 : qd num den * den = num := Rat.div_mul_cancel h1
  have h3 : (tooX num den n p : Rat) = (hQ p + qd num den * ((n : Rat) - cQ p)) * den := by unfold tooX hQ cQ; push_cast; grind
  rw [h3]; exact Rat.mul_div_cancel h1
theorem div_mono {a b d : Int} (hd : 0 < d) : (a : Rat) / (d : Rat) ≤ (b : Rat) / (d : Rat) ↔ a ≤ b := by
  have h0 := posQ hd
  rw [ledv h0, Rat.div_mul_cancel (by grind)]
  constructor
  · intro h; exact_mod_cast h
  · intro h; exact_mod_cast h
theorem same_pair {ps : List AV} (ha : ascP ps) {p q : AV} (hp : p ∈ ps) (hq : q ∈ ps) (h : cQ p = cQ q) : p = q := by
  have h : pC p = pC q := by unfold cQ at h; exact_mod_cast h
  obtain ⟨i, hi, rfl⟩ := List.getElem_of_mem hp
  obtain ⟨j, hj, rfl⟩ := List.getElem_of_mem hq
  rcases Nat.lt_trichotomy i j with h1 | h1 | h1
  · have := List.pairwise_iff_getElem.1 ha.2 i j hi hj h1; omega
  · subst h1; rfl
  · have := List.pairwise_iff_getElem.1 ha.2 j i hj hi h1; omega
theorem lo_hi {ps : List AV} (hc : (chkP ps).2 = 0) : ∀ p ∈ ps, pL p ≤ pH p := by
  have key : ∀ {ps : List AV} {last : Int} {i : Nat}, (chkL last i ps).2 = 0 → ∀ p ∈ ps, pL p ≤ pH p := by
    intro ps
    induction ps with
    | nil => intro _ _ _ p hp; exact absurd hp List.not_mem_nil
    | cons q qs ih =>
      intro last i h p hp
      rw [chkL] at h
      split at h
      · split at h
        · rename_i h2
          rcases List.mem_cons.1 hp with rfl | hp
          · exact h2.1
          · exact ih h p hp
        · simp at h
      · simp at h
  unfold chkP at hc
  split at hc
  · simp at hc
  · split at hc
    · simp at hc
    · exact key hc
theorem other_pair {ps : List AV} (G : Good2 ps) (k : AV) : ∃ p ∈ ps, cQ p ≠ cQ k := by
  have h0 : 0 < ps.length := by have := G.two; omega
  have h1 : 1 < ps.length := by have := G.two; omega
  have hlt := ltQ (List.pairwise_iff_getElem.1 G.asc.2 0 1 h0 h1 (by omega))
  by_cases h : cQ ps[0] = cQ k
  · exact ⟨ps[1], by simp, by grind⟩
  · exact ⟨ps[0], by simp, h⟩
theorem rate_ch {ps : List AV} (G : Good2 ps) (hLH : ∀ p ∈ ps, pL p ≤ pH p) {n : Int} {b : Rat} (hb0 : r0Q ps ≤ b) (hb1 : b ≤ r1Q ps) {k : AV} (hk : k ∈ ps) (ht : ∀ p ∈ ps, lQ p + b * ((n : Rat) - cQ p) ≤ lQ k + b * ((n : Rat) - cQ k)) :
    ∃ p ∈ ps, ∃ q ∈ ps, pC p < pC q ∧ ∃ v, isCh ps n p q v ∧ (v.1 : Rat) ≤ lQ k + b * ((n : Rat) - cQ k) := by
  have hLQ : ∀ p ∈ ps, lQ p ≤ hQ p := fun p hp => by unfold lQ hQ; exact_mod_cast hLH p hp
  have hbf : ∀ p ∈ ps, lQ p ≤ lQ k + b * (cQ p - cQ k) ∧ lQ k + b * (cQ p - cQ k) ≤ hQ p := fun p hp => by
    refine ⟨by have := ht p hp; grind, ?_⟩
    rcases Int.lt_trichotomy (pC p) (pC k) with h | h | h
    · have := (slow_eq h b).1 (Rat.le_trans (G.lo2 k hk p hp h) hb0); grind
    · have : cQ p = cQ k := by unfold cQ; rw [h]
      have h2 := same_pair G.asc hp hk this
      subst h2
      have := hLQ p hp; grind
    · have := (fast_eq h b).1 (Rat.le_trans hb1 (G.hi2 p hp k hk h)); grind
  obtain ⟨p, hp, e, he, hne, σ, hσ, hf, hT⟩ := turn_at ps cQ lQ hQ n b k (other_pair G k) (fun p hp h => by
    have := same_pair G.asc hp hk h; subst this; exact ⟨Rat.le_refl, hLQ p hp⟩) hbf
  obtain ⟨e', he', hee⟩ : ∃ e' : Int, (e' = pL p ∨ e' = pH p) ∧ (e' : Rat) = e := by
    rcases he with rfl | rfl
    · exact ⟨pL p, .inl rfl, rfl⟩
    · exact ⟨pH p, .inr rfl, rfl⟩
  have hfe : feasL ps n σ (lQ k + σ * ((n : Rat) - cQ k)) := fun q hq => by
    have := hf q hq
    exact ⟨by grind, by grind⟩
  rcases Int.lt_trichotomy (pC p) (pC k) with h | h | h
  · obtain ⟨v, hv, h1, _⟩ := line_ch h he' (.inl rfl : pL k = pL k ∨ pL k = pH k) (s := σ) (T := lQ k + σ * ((n : Rat) - cQ k)) (by rw [hee]; show σ * (cQ k - cQ p) = lQ k - e; grind) (by rw [hee]; grind) hfe
    exact ⟨p, hp, k, hk, h, v, hv, Rat.le_trans ((h1 v.1).1 (Int.le_refl _)) hT⟩
  · exact absurd (by unfold cQ; rw [h]) hne
  · obtain ⟨v, hv, h1, _⟩ := line_ch h (.inl rfl : pL k = pL k ∨ pL k = pH k) he' (s := σ) (T := lQ k + σ * ((n : Rat) - cQ k)) (by rw [hee]; exact hσ) rfl hfe
    exact ⟨k, hk, p, hp, h, v, hv, Rat.le_trans ((h1 v.1).1 (Int.le_refl _)) hT⟩
theorem rate_ch2 {ps : List AV} (G : Good2 ps) (hLH : ∀ p ∈ ps, pL p ≤ pH p) {n : Int} {b : Rat} (hb0 : r0Q ps ≤ b) (hb1 : b ≤ r1Q ps) {k : AV} (hk : k ∈ ps) (ht : ∀ p ∈ ps, hQ k + b * ((n : Rat) - cQ k) ≤ hQ p + b * ((n : Rat) - cQ p)) :
    ∃ p ∈ ps, ∃ q ∈ ps, pC p < pC q ∧ ∃ v, isCh ps n p q v ∧ hQ k + b * ((n : Rat) - cQ k) ≤ (v.2 : Rat) := by
  have hLQ : ∀ p ∈ ps, lQ p ≤ hQ p := fun p hp => by unfold lQ hQ; exact_mod_cast hLH p hp
  have hbf : ∀ p ∈ ps, -hQ p ≤ -hQ k + -b * (cQ p - cQ k) ∧ -hQ k + -b * (cQ p - cQ k) ≤ -lQ p := fun p hp => by
    refine ⟨by have := ht p hp; grind, ?_⟩
    rcases Int.lt_trichotomy (pC p) (pC k) with h | h | h
    · have := (fast_eq h b).1 (Rat.le_trans hb1 (G.hi2 k hk p hp h)); grind
    · have : cQ p = cQ k := by unfold cQ; rw [h]
      have h2 := same_pair G.asc hp hk this
      subst h2
      have := hLQ p hp; grind
    · have := (slow_eq h b).1 (Rat.le_trans (G.lo2 p hp k hk h) hb0); grind
  obtain ⟨p, hp, e, he, hne, σ, hσ, hf, hT⟩ := turn_at ps cQ (fun p => -hQ p) (fun p => -lQ p) n (-b) k (other_pair G k) (fun p hp h => by
    have := same_pair G.asc hp hk h; subst this; exact ⟨Rat.le_refl, by have := hLQ p hp; grind⟩) hbf
  obtain ⟨e', he', hee⟩ : ∃ e' : Int, (e' = pL p ∨ e' = pH p) ∧ (e' : Rat) = -e := by
    rcases he with rfl | rfl
    · exact ⟨pH p, .inr rfl, by unfold hQ; grind⟩
    · exact ⟨pL p, .inl rfl, by unfold lQ; grind⟩
  have hfe : feasL ps n (-σ) (hQ k + -σ * ((n : Rat) - cQ k)) := fun q hq => by
    have := hf q hq
    exact ⟨by grind, by grind⟩
  have hT' : hQ k + b * ((n : Rat) - cQ k) ≤ hQ k + -σ * ((n : Rat) - cQ k) := by grind
  rcases Int.lt_trichotomy (pC p) (pC k) with h | h | h
  · obtain ⟨v, hv, _, h1⟩ := line_ch h he' (.inr rfl : pH k = pL k ∨ pH k = pH k) (s := -σ) (T := hQ k + -σ * ((n : Rat) - cQ k)) (by rw [hee]; show -σ * (cQ k - cQ p) = hQ k - -e; grind) (by rw [hee]; grind) hfe
    exact ⟨p, hp, k, hk, h, v, hv, Rat.le_trans hT' ((h1 v.2).1 (Int.le_refl _))⟩
  · exact absurd (by unfold cQ; rw [h]) hne
  · obtain ⟨v, hv, _, h1⟩ := line_ch h (.inr rfl : pH k = pL k ∨ pH k = pH k) he' (s := -σ) (T := hQ k + -σ * ((n : Rat) - cQ k)) (by rw [hee]; show -σ * (cQ p - cQ k) = -e - hQ k; grind) rfl hfe
    exact ⟨k, hk, p, hp, h, v, hv, Rat.le_trans hT' ((h1 v.2).1 (Int.le_refl _))⟩
theorem okR_iff {ps : List AV} (G : Good2 ps) {x : AV} (hx : frG x) : okR (rateP ps) x ↔ r0Q ps ≤ qd (xN x) (xD x) ∧ qd (xN x) (xD x) ≤ r1Q ps := by
  have h1 := cmp_neg (xN x) (xD x) (rateP ps).1 (rateP ps).2.1
  have h2 := cmp_pos (xN x) (xD x) (rateP ps).2.2.1 (rateP ps).2.2.2
  have l1 := ltF_Q (a := xN x) (b := xD x) (c := (rateP ps).1) (d := (rateP ps).2.1) hx.2.1 G.rng.1.2.1
  have l2 := ltF_Q (a := (rateP ps).2.2.1) (b := (rateP ps).2.2.2) (c := xN x) (d := xD x) G.rng.2.2.1 hx.2.1
  rw [← h1, decide_eq_true_eq] at l1
  rw [← h2, decide_eq_true_eq] at l2
  unfold okR r0Q r1Q
  rw [l1, l2, Classical.not_not, Classical.not_not]
theorem rats_G {ps : List AV} (G : Good2 ps) : ∀ x ∈ ratsR ps, frG x := by
  intro x hx
  rw [ratsR, List.mem_cons, List.mem_cons] at hx
  rcases hx with rfl | rfl | hx
  · exact ⟨G.rng.1.1, G.rng.1.2⟩
  · exact ⟨G.rng.2.1, G.rng.2.2⟩
  · exact candO_G G.asc _ _ (by have := G.two; omega) x hx
theorem rats_pair {ps : List AV} (G : Good2 ps) {p q : AV} (hp : p ∈ ps) (hq : q ∈ ps) (hlt : pC p < pC q) : (∃ x ∈ ratsR ps, qd (xN x) (xD x) = (lQ q - lQ p) / (cQ q - cQ p)) ∧ ∃ x ∈ ratsR ps, qd (xN x) (xD x) = (hQ q - hQ p) / (cQ q - cQ p) := by
  obtain ⟨i, hi, rfl, hpi⟩ := asc_lt G.asc hp hq hlt
  have hi1 : 1 ≤ i := by
    rcases Nat.eq_zero_or_pos i with h | h
    · subst h; simp at hpi
    · exact h
  have hm : ∀ x, x ∈ candI ps[i] (ps.take i) → x ∈ ratsR ps := fun x hx => by
    rw [ratsR, List.mem_cons, List.mem_cons, mem_candO _ _ (by have := G.two; omega)]
    exact .inr (.inr ⟨i, hi1, hi, hx⟩)
  constructor
  · refine ⟨_, hm _ (mem_candI.2 ⟨p, hpi, .inl rfl⟩), ?_⟩
    show qd (lN (pL ps[i] - pL p) (pC ps[i] - pC p)) (lD (pL ps[i] - pL p) (pC ps[i] - pC p)) = _
    rw [low_eq _ (by omega)]; unfold qd lQ cQ; push_cast; rfl
  · refine ⟨_, hm _ (mem_candI.2 ⟨p, hpi, .inr rfl⟩), ?_⟩
    show qd (lN (pH ps[i] - pH p) (pC ps[i] - pC p)) (lD (pH ps[i] - pH p) (pC ps[i] - pC p)) = _
    rw [low_eq _ (by omega)]; unfold qd hQ cQ; push_cast; rfl
theorem ne_of_two {ps : List AV} (G : Good2 ps) : ps ≠ [] := fun h => by have := G.two; rw [h] at this; simp at this
theorem line_lo {ps : List AV} (G : Good2 ps) {n : Int} {s T : Rat} (hf : feasL ps n s T) : ∃ w ∈ valR ps n (rateP ps) (ratsR ps), (w.1 : Rat) ≤ T := by
  obtain ⟨h0, h1⟩ := feas_rate G hf
  obtain ⟨b, hb, hb0, hb1, hT⟩ := lowest_at ps cQ lQ n (r0Q ps) (r1Q ps) s T h0 h1 (ne_of_two G) (fun p hp q hq h => by rw [same_pair G.asc hp hq h]) (fun p hp => by have := hf p hp; grind)
  obtain ⟨x, hx, e⟩ : ∃ x ∈ ratsR ps, qd (xN x) (xD x) = b := by
    rcases hb with rfl | rfl | ⟨p, hp, q, hq, hlt, rfl⟩
    · exact ⟨frA (rateP ps).1 (rateP ps).2.1, by simp [ratsR], rfl⟩
    · exact ⟨frA (rateP ps).2.2.1 (rateP ps).2.2.2, by simp [ratsR], rfl⟩
    · exact (rats_pair G hp hq (by unfold cQ at hlt; exact_mod_cast hlt)).1
  have hg := rats_G G x hx
  refine ⟨_, mem_valR.2 ⟨x, hx, (okR_iff G hg).2 (by rw [e]; exact ⟨hb0, hb1⟩), rfl⟩, ?_⟩
  obtain ⟨⟨k, hk, hk2⟩, _⟩ := lhS_spec (num := xN x) (den := xD x) (n := n) (ne_of_two G)
  refine Rat.le_trans ((floorQ hg.2.1 _).1 (Int.le_refl _)) ?_
  rw [hk2, frm_div hg.2.1, e]
  exact hT k hk
theorem line_hi {ps : List AV} (G : Good2 ps) {n : Int} {s T : Rat} (hf : feasL ps n s T) : ∃ w ∈ valR ps n (rateP ps) (ratsR ps), T ≤ (w.2 : Rat) := by
  obtain ⟨h0, h1⟩ := feas_rate G hf
  obtain ⟨b, hb, hb0, hb1, hT⟩ := lowest_at ps cQ (fun p => -hQ p) n (-r1Q ps) (-r0Q ps) (-s) (-T) (by grind) (by grind) (ne_of_two G) (fun p hp q hq h => by rw [same_pair G.asc hp hq h]) (fun p hp => by have := hf p hp; grind)
  obtain ⟨x, hx, e⟩ : ∃ x ∈ ratsR ps, qd (xN x) (xD x) = -b := by
    rcases hb with rfl | rfl | ⟨p, hp, q, hq, hlt, rfl⟩
    · exact ⟨frA (rateP ps).2.2.1 (rateP ps).2.2.2, by simp [ratsR], by rw [Rat.neg_neg]; rfl⟩
    · exact ⟨frA (rateP ps).1 (rateP ps).2.1, by simp [ratsR], by rw [Rat.neg_neg]; rfl⟩
    · obtain ⟨x, hx, h⟩ := (rats_pair G hp hq (by unfold cQ at hlt; exact_mod_cast hlt)).2
      refine ⟨x, hx, ?_⟩
      rw [h, Rat.div_def, Rat.div_def]; grind
  have hg := rats_G G x hx
  refine ⟨_, mem_valR.2 ⟨x, hx, (okR_iff G hg).2 (by rw [e]; exact ⟨by grind, by grind⟩), rfl⟩, ?_⟩
  obtain ⟨_, _, ⟨k, hk, hk2⟩, _⟩ := lhS_spec (num := xN x) (den := xD x) (n := n) (ne_of_two G)
  refine Rat.le_trans ?_ ((ceilQ hg.2.1 _).1 (Int.le_refl _))
  rw [hk2, too_div hg.2.1, e]
  have := hT k hk
  grind
theorem val_ch {ps : List AV} (G : Good2 ps) (hLH : ∀ p ∈ ps, pL p ≤ pH p) {n : Int} {w : Int × Int} (hw : w ∈ valR ps n (rateP ps) (ratsR ps)) : (∃ v ∈ valO ps n ps.length 0, v.1 ≤ w.1) ∧ ∃ v ∈ valO ps n ps.length 0, w.2 ≤ v.2 := by
  obtain ⟨x, hx, hok, rfl⟩ := mem_valR.1 hw
  have hg := rats_G G x hx
  obtain ⟨b0, b1⟩ := (okR_iff G hg).1 hok
  obtain ⟨⟨k, hk, hk2⟩, hm, ⟨k', hk', hk2'⟩, hm'⟩ := lhS_spec (num := xN x) (den := xD x) (n := n) (ne_of_two G)
  constructor
  · obtain ⟨p, hp, q, hq, hlt, v, hv, hT⟩ := rate_ch G hLH (n := n) b0 b1 hk (fun p hp => by
      rw [← frm_div hg.2.1, ← frm_div hg.2.1, div_mono hg.2.1, ← hk2]; exact hm p hp)
    refine ⟨v, (mem_vals G.asc).2 ⟨p, hp, q, hq, hlt, hv⟩, (floorQ hg.2.1 _).2 ?_⟩
    rw [hk2, frm_div hg.2.1]; exact hT
  · obtain ⟨p, hp, q, hq, hlt, v, hv, hT⟩ := rate_ch2 G hLH (n := n) b0 b1 hk' (fun p hp => by
      rw [← too_div hg.2.1, ← too_div hg.2.1, div_mono hg.2.1, ← hk2']; exact hm' p hp)
    refine ⟨v, (mem_vals G.asc).2 ⟨p, hp, q, hq, hlt, hv⟩, (ceilQ hg.2.1 _).2 ?_⟩
    rw [hk2', too_div hg.2.1]; exact hT
structure TimeS (ps : List AV) (n lo hi : Int) : Prop where
  prog : tmT ps n = (lo, hi, true)
  ref : tmR ps n = (lo, hi, true)
  enc : ∀ s T, feasL ps n s T → (lo : Rat) ≤ T ∧ T ≤ (hi : Rat)
  atLo : ∃ s T, feasL ps n s T ∧ ∀ x : Int, x ≤ lo ↔ (x : Rat) ≤ T
  atHi : ∃ s T, feasL ps n s T ∧ ∀ x : Int, hi ≤ x ↔ T ≤ (x : Rat)
theorem time_same {ps : List AV} (h : lnE ps = 0) (n : Int) : ∃ lo hi, TimeS ps n lo hi := by
  obtain ⟨hc, h2, hl⟩ := lnE_ok h
  have G := chk_good hc h2
  have hLH := lo_hi hc
  have h01 := (lineS_iff G).1 hl
  have hx0 : frA (rateP ps).1 (rateP ps).2.1 ∈ ratsR ps := by simp [ratsR]
  have hw0 : ∃ w, w ∈ valR ps n (rateP ps) (ratsR ps) := ⟨_, mem_valR.2 ⟨_, hx0, (okR_iff G (rats_G G _ hx0)).2 ⟨Rat.le_refl, h01⟩, rfl⟩⟩
  obtain ⟨w0, hw0⟩ := hw0
  obtain ⟨⟨v0, hv0, _⟩, _⟩ := val_ch G hLH hw0
  obtain ⟨m, M, e1, ⟨v1, hv1, f1⟩, f2, ⟨v2, hv2, f3⟩, f4⟩ := acc_all (l := valO ps n ps.length 0) (List.ne_nil_of_mem hv0)
  obtain ⟨m', M', e2, ⟨w1, hw1, g1⟩, g2, ⟨w2, hw2, g3⟩, g4⟩ := acc_all (l := valR ps n (rateP ps) (ratsR ps)) (List.ne_nil_of_mem hw0)
  rw [← tmT_acc] at e1
  rw [← tmR_acc] at e2
  obtain ⟨p1, hp1, q1, hq1, hlt1, hc1⟩ := (mem_vals G.asc).1 hv1
  obtain ⟨p2, hp2, q2, hq2, hlt2, hc2⟩ := (mem_vals G.asc).1 hv2
  obtain ⟨s1, T1, hf1, i1, _⟩ := ch_line hlt1 hc1
  obtain ⟨s2, T2, hf2, _, i2⟩ := ch_line hlt2 hc2
  have a1 : m' = m := by
    obtain ⟨v, hv, hvw⟩ := (val_ch G hLH hw1).1
    obtain ⟨w, hw, hwT⟩ := line_lo G hf1
    have k1 := f2 v hv
    have k2 := g2 w hw
    have k3 := (i1 w.1).2 hwT
    omega
  have a2 : M' = M := by
    obtain ⟨v, hv, hvw⟩ := (val_ch G hLH hw2).2
    obtain ⟨w, hw, hwT⟩ := line_hi G hf2
    have k1 := f4 v hv
    have k2 := g4 w hw
    have k3 := (i2 w.2).2 hwT
    omega
  rw [a1, a2] at e2
  refine ⟨m, M, e1, e2, fun s T hf => ⟨?_, ?_⟩, ⟨s1, T1, hf1, by rw [← f1]; exact i1⟩, ⟨s2, T2, hf2, by rw [← f3]; exact i2⟩⟩
  · obtain ⟨w, hw, hwT⟩ := line_lo G hf
    have : m ≤ w.1 := by rw [← a1]; exact g2 w hw
    exact Rat.le_trans (by exact_mod_cast this) hwT
  · obtain ⟨w, hw, hwT⟩ := line_hi G hf
    have : w.2 ≤ M := by rw [← a2]; exact g4 w hw
    exact Rat.le_trans hwT (by exact_mod_cast this)
end Go.Proofs.Ytjhdnpmojhkbjaa
/- FrameTimes: the law returns true. No condition. -/
namespace Go.Proofs.Ytjhdnpmojhkbjaa
set_option maxRecDepth 20000
theorem castQ {a b : Int} : (a : Rat) ≤ (b : Rat) ↔ a ≤ b := ⟨fun h => by exact_mod_cast h, fun h => by exact_mod_cast h⟩
theorem at_pair {ps : List AV} {n s T : Rat} (hf : feasL ps n s T) {p : AV} (hp : p ∈ ps) (he : cQ p = n) : lQ p ≤ T ∧ T ≤ hQ p := by
  have := hf p hp
  rw [he] at this
  exact ⟨by grind, by grind⟩
end Go.Proofs.Ytjhdnpmojhkbjaa
/- Paths of functions, printed by the explorer (Gx). No condition. -/
namespace Go.Proofs.Ytjhdnpmojhkbjaa
set_option maxRecDepth 100000
set_option linter.unusedVariables false
def f51e (a : Int) (b : Int) : List AFrame := [{ fn := 51, N := 14, env := [(0, AV.agg (Row.gen [AV.int .i64 a, AV.int .i64 b]))], todo := [.code a51.code], defs := [], rnd := none, ret := false, res := [ARes.tmp 2] }]
theorem f51e_at (a : Int) (b : Int) : enterA tab 51 [AV.agg (Row.gen [AV.int .i64 a, AV.int .i64 b])] = some { fn := 51, N := 14, env := [(0, AV.agg (Row.gen [AV.int .i64 a, AV.int .i64 b]))], todo := [.code a51.code], defs := [], rnd := none, ret := false, res := [ARes.tmp 2] } := rfl
theorem f51p0 (A : Ar) (a : Int) (b : Int) : gfin A tab BE5 22 [true, true, true, true, true, true, true] 51 (f51e a b) [] =
  some ([A.and true (A.and true true), true, true, true, true, true, A.and true (Decidable.decide (bigB a = true ∧ bigB b = true)), true, A.and (A.ltN 0 1) (A.ltN 1 2), true, true, true, A.and (A.ltN 0 1) (A.ltN 0 2), true, true, A.lt 0 b, true, true, A.and (A.ltN 0 1) (A.ltN 1 2), true, true, A.and true (A.ltN 0 2)],
   AV.bool (A.eq (↑(Int.gcd a b)) 1), none) := by kernel_rfl
theorem f51p1 (A : Ar) (a : Int) (b : Int) : gfin A tab BE5 22 [false, false, false, false, false, false, false] 51 (f51e a b) [] =
  some ([A.and true (A.and true true), true, true, true, true, true, true, true, true, true, true, true, true, true, true, !A.lt 0 b, true, true, A.and (A.ltN 0 1) (A.ltN 1 2), true, true, A.and true (A.ltN 0 2)],
   AV.bool false, none) := by kernel_rfl
end Go.Proofs.Ytjhdnpmojhkbjaa
/- Contracts as a list. No condition. -/
namespace Go.Proofs.Ytjhdnpmojhkbjaa
def lowI (a b : Int) : Bool := decide (0 < b ∧ (Int.gcd a b : Int) = 1)
theorem low51_ok (a b : Int) (h : bigB a = true ∧ bigB b = true) : Pure Try.prog 51 [.agg (.gen [.int .i64 a, .int .i64 b])] (.bool (lowI a b)) none :=
  start (f51e_at a b) fun C hC => by
    by_cases h1 : 0 < b
    · exact fin hC BE5_ok (f51p0 std a b) (by simp [h1, h]) (by simp [lowI, h1]) rfl
    · exact fin hC BE5_ok (f51p1 std a b) (by simp; omega) (by simp [lowI, h1]) rfl
theorem copyP_row (ps : List AV) (h : ps.length ≤ 1000000) : Pure Try.prog 24 [.list (.big (.agg [.int .i64, .int .i64, .int .i64]) ps)] (.row 0 0) (some ⟨49, 3, .big (.agg [.int .i64, .int .i64, .int .i64]) ps⟩) :=
  start (f24e_at ps) fun C hC => fin hC BC0_ok (f24p0 std ps) (by simp; omega) rfl rfl
def k24b : Ctr := ⟨24, 1, fun pa a => match pa with
  | [] => none
  | b :: _ => (match a with
    | [.list (.big (.agg [.int .i64, .int .i64, .int .i64]) ps)] => some (decide (ps.length ≤ 1000000), (match b with | true => .row 0 0 | false => .list (.big (.agg [.int .i64, .int .i64, .int .i64]) ps)), (match b with | true => some ⟨49, 3, .big (.agg [.int .i64, .int .i64, .int .i64]) ps⟩ | false => newF))
    | _ => none)⟩
theorem k24b_ok : k24b.OK Try.prog := fun pa args r fr h => by
  simp only [k24b] at h
  split at h
  · simp at h
  · split at h
    · simp only [Option.some.injEq, Prod.mk.injEq, decide_eq_true_eq] at h
      obtain ⟨h0, rfl, rfl⟩ := h
      split
      · exact copyP_row _ h0
      · exact copyP_ok _ h0
    · cases h
theorem pie43_new (ps : List AV) (h : ps.length ≤ 1000000) : Pure Try.prog 43 [.list (.big (.agg [.int .i64, .int .i64, .int .i64]) ps)] (.tup [.list (.big (.agg [.int .i64, .int .i64]) (pieA ps)), .int .i64 (chkP ps).2]) newF := by
  by_cases hc : (chkP ps).2 = 0
  · obtain ⟨h0, hl, hq⟩ := chkP_ok hc
    rw [pieA, if_pos hc, hc]
    refine pure_new (r := .tup [.row 0 0, .int .i64 0]) (fr := some ⟨40, 2, .big (.agg [.int .i64, .int .i64]) ((pcsP ps (ps.length - 1) 0 1).map mkR)⟩) (start (f43e_at ps) fun C hC => ?_) rfl (.tup ⟨.row _ rfl rfl rfl, .same _ rfl rfl, trivial⟩)
    refine go hC BC5_ok (f43p1 std ps) (by simp [h, hc]) ?_
    refine go hC BC5_ok (f43p2 std ps _) (by simp; omega) ?_
    have := l43 hC ps h hq _ (ps.length - 1) 0 1 [] (by omega) (by omega) (by simp) rfl
    simpa [mkR] using this
  · rw [pieA, if_neg hc]
    refine pure_new (r := .tup [.nils, .int .i64 (chkP ps).2]) (fr := none) (start (f43e_at ps) fun C hC => ?_) rfl (.tup ⟨.nil _ rfl, .same _ rfl rfl, trivial⟩)
    exact fin hC BC5_ok (f43p0 std ps) (by simp [h, hc]) rfl rfl
def BEb0 : List Ctr := [k24b] ++ BE5
theorem BEb0_ok : CtrsOK Try.prog BEb0 := ⟨k24b_ok, BE5_ok⟩
def k51 : Ctr := ⟨51, 0, fun _ a => match a with | [.agg (.gen [.int .i64 a, .int .i64 b])] => some (decide (bigB a = true ∧ bigB b = true), .bool (lowI a b), none) | _ => none⟩
theorem k51_ok : k51.OK Try.prog := fun pa args r fr h => by
  simp only [k51] at h
  split at h
  · simp only [Option.some.injEq, Prod.mk.injEq, decide_eq_true_eq] at h
    obtain ⟨h0, rfl, rfl⟩ := h
    exact low51_ok _ _ h0
  · cases h
def k43n : Ctr := ⟨43, 0, fun _ a => match a with | [.list (.big (.agg [.int .i64, .int .i64, .int .i64]) ps)] => some (decide (ps.length ≤ 1000000), .tup [.list (.big (.agg [.int .i64, .int .i64]) (pieA ps)), .int .i64 (chkP ps).2], newF) | _ => none⟩
theorem k43n_ok : k43n.OK Try.prog := fun pa args r fr h => by
  simp only [k43n] at h
  split at h
  · simp only [Option.some.injEq, Prod.mk.injEq, decide_eq_true_eq] at h
    obtain ⟨h0, rfl, rfl⟩ := h
    exact pie43_new _ h0
  · cases h
def BEb : List Ctr := [k51, k43n] ++ BEb0
theorem BEb_ok : CtrsOK Try.prog BEb := ⟨k51_ok, ⟨k43n_ok, BEb0_ok⟩⟩
end Go.Proofs.Ytjhdnpmojhkbjaa
