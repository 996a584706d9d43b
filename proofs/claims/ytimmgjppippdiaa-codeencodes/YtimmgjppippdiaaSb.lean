/- Contracts as a list. No condition. -/
import Derived.Test.YtimmgjppippdiaaQi
namespace Go.Proofs.Ytimmgjppippdiaa
/-! ### Steps of a convolutional code, errors of soft symbols -/
def regS (c : List Int) (s b : Int) : Int := b * 2 ^ (cM c).toNat + s
def nxS (c : List Int) (s b : Int) : Int := regS c s b / 2
def o0S (c : List Int) (s b : Int) : Int := outS (regS c s b) (c.getD 1 0)
def o1S (c : List Int) (s b : Int) : Int := outS (regS c s b) (c.getD 2 0)
theorem conv_ok {c : List Int} (h3 : c.length = 3) (h : convE c = 0) : ∃ m p q : Nat, c = [(m : Int), (p : Int), (q : Int)] ∧ 1 ≤ m ∧ m ≤ 3 ∧ 1 ≤ p ∧ p ≤ 2 * 2 ^ m - 1 ∧ 1 ≤ q ∧ q ≤ 2 * 2 ^ m - 1 := by
  obtain ⟨a, b, d, rfl⟩ := three h3
  unfold convE at h
  split at h
  · cases h
  · rename_i h1
    have h1 := Decidable.not_not.1 h1
    split at h
    · rename_i h2
      simp only [cM, hiC, List.getD_cons_zero, List.getD_cons_succ] at h1 h2
      obtain ⟨m, rfl⟩ := Int.eq_ofNat_of_zero_le (show 0 ≤ a by omega)
      obtain ⟨p, rfl⟩ := Int.eq_ofNat_of_zero_le (show 0 ≤ b by omega)
      obtain ⟨q, rfl⟩ := Int.eq_ofNat_of_zero_le (show 0 ≤ d by omega)
      refine ⟨m, p, q, rfl, by omega, by omega, ?_⟩
      have hm : m = 1 ∨ m = 2 ∨ m = 3 := by omega
      rcases hm with rfl | rfl | rfl <;> simp at h2 <;> omega
    · cases h
theorem bits_or (r k : Nat) (hr : r ≤ 15) (hk : k ≤ 15) : std.bits .or .i64 (r : Int) (k : Int) = ((r ||| k : Nat) : Int) := by
  have h1 : ∀ m : Nat, m ≤ 15 → (BitVec.ofInt 64 (m : Int)).toNat = m := fun m hm => by
    rw [BitVec.ofInt_natCast, BitVec.toNat_ofNat]; exact Nat.mod_eq_of_lt (by omega)
  show IntKind.i64.wrap ((BitVec.ofInt 64 (r : Int) ||| BitVec.ofInt 64 (k : Int)).toNat : Int) = _
  rw [BitVec.toNat_or, h1 r hr, h1 k hk]
  have : r ||| k < 2 ^ 4 := Nat.or_lt_two_pow (by omega) (by omega)
  rw [IntKind.wrap_i64]
  omega
theorem or_add : ∀ m, m < 4 → ∀ B, B < 2 → ∀ S, S < 8 → S < 2 ^ m → B * 2 ^ m ||| S = B * 2 ^ m + S := by decide
theorem reg_le {m B S : Nat} (hm : m ≤ 3) (hB : B ≤ 1) (hS : S < 2 ^ m) : B * 2 ^ m + S ≤ 15 ∧ S < 8 ∧ B * 2 ^ m ≤ 8 ∧ (B * 2 ^ m + S) / 2 < 2 ^ m := by
  have : m = 0 ∨ m = 1 ∨ m = 2 ∨ m = 3 := by omega
  have : B = 0 ∨ B = 1 := by omega
  rcases ‹m = 0 ∨ m = 1 ∨ m = 2 ∨ m = 3› with rfl | rfl | rfl | rfl <;> rcases ‹B = 0 ∨ B = 1› with rfl | rfl <;> simp at hS ⊢ <;> omega
theorem reg_nat (m p q B S : Nat) : regS [(m : Int), (p : Int), (q : Int)] S B = ((B * 2 ^ m + S : Nat) : Int) := by
  simp [regS, cM]
set_option maxRecDepth 20000 in
theorem step121_ok (c : List Int) (s b : Int) (h3 : c.length = 3) (hv : convE c = 0) (hs : 0 ≤ s ∧ s < 2 ^ (cM c).toNat) (hb : b = 0 ∨ b = 1) :
    Pure Try.prog 121 [.agg (.ints .i64 c), .int .i64 s, .int .i64 b] (.tup [.int .i64 (nxS c s b), .agg (.ints .i64 [o0S c s b, o1S c s b])]) none := by
  obtain ⟨m, p, q, rfl, m1, m2, p1, p2, q1, q2⟩ := conv_ok h3 hv
  obtain ⟨S, rfl⟩ := Int.eq_ofNat_of_zero_le hs.1
  obtain ⟨B, rfl, hB⟩ : ∃ B : Nat, b = (B : Int) ∧ B ≤ 1 := by
    rcases hb with rfl | rfl
    · exact ⟨0, rfl, by omega⟩
    · exact ⟨1, rfl, by omega⟩
  have hS : S < 2 ^ m := by
    have := hs.2
    simp [cM] at this
    exact_mod_cast this
  obtain ⟨r1, r2, r3, r4⟩ := reg_le m2 hB hS
  have hp15 : 2 * 2 ^ m ≤ 16 := by
    have : 2 ^ m ≤ 2 ^ 3 := Nat.pow_le_pow_right (by omega) m2
    omega
  have hor := or_add m (by omega) B (by omega) S (by omega) hS
  rw [nxS, o0S, o1S, reg_nat]
  obtain ⟨P, hP⟩ : ∃ P, P = B * 2 ^ m := ⟨_, rfl⟩
  have es : std.shl (B : Int) (m : Int) = (P : Int) := by rw [hP]; simp
  rw [← hP] at hor r1 r3 r4 ⊢
  have hreg : std.bits .or .i64 (P : Int) (S : Int) = ((P + S : Nat) : Int) := by
    rw [bits_or _ _ (by omega) (by omega), hor]
  generalize hR : P + S = R at *
  have ho : ∀ k : Nat, k ≤ 15 → std.rem (((pop4 (Int.toNat (std.bits .and .i64 (R : Int) (k : Int))) : Nat)) : Int) 2 = outS R k := fun k hk => by
    rw [bits_and R k r1 hk]; rfl
  refine start (f121e_at _ _ _) fun C hC => go hC H1_ok (f121p0 std [(m : Int), (p : Int), (q : Int)] S B) ?_ ?_
  · rw [show std.nth [(m : Int), (p : Int), (q : Int)] 0 = (m : Int) from rfl, es]
    simp
    omega
  rw [show std.nth [(m : Int), (p : Int), (q : Int)] 0 = (m : Int) from rfl, es, hreg, show std.sub3 [(m : Int), (p : Int), (q : Int)] 1 2 = [(p : Int), (q : Int)] from rfl]
  have b0 : ∀ k : Nat, k ≤ 15 → 0 ≤ std.bits .and .i64 (R : Int) (k : Int) ∧ std.bits .and .i64 (R : Int) (k : Int) ≤ 15 := fun k hk => by
    rw [bits_and R k r1 hk]; have := @Nat.and_le_left R k; omega
  have u0 : ∀ k : Nat, k ≤ 15 → std.inR .u64 (std.bits .and .i64 (R : Int) (k : Int)) = true := fun k hk => by
    have := b0 k hk
    exact decide_eq_true ⟨by show (0 : Int) ≤ _; omega, by show _ ≤ (18446744073709551615 : Int); omega⟩
  have two : Ev C (f121h121_0a R [(p : Int), (q : Int)] 2 [outS R p, outS R q]) (f121h121_0am R [(p : Int), (q : Int)] 2 [outS R p, outS R q]) (FinQ 121 (.tup [.int .i64 ((R : Int) / 2), .agg (.ints .i64 [outS R p, outS R q])]) none) :=
    fin hC H1_ok (f121p2 std _ _ _ _) (by simp) (by simp [Int.fdiv_eq_ediv]) rfl
  have one : Ev C (f121h121_0a R [(p : Int), (q : Int)] 1 [outS R p, 0]) (f121h121_0am R [(p : Int), (q : Int)] 1 [outS R p, 0]) (FinQ 121 (.tup [.int .i64 ((R : Int) / 2), .agg (.ints .i64 [outS R p, outS R q])]) none) := by
    have e : std.nth [(p : Int), (q : Int)] (std.nat 1) = (q : Int) := rfl
    refine go hC H1_ok (f121p1 std R [(p : Int), (q : Int)] 1 [outS R p, 0]) ?_ ?_
    · rw [e]
      have := b0 q (by omega)
      simp [this, u0 q (by omega)]
    · rw [e, ho q (by omega)]; exact two
  have e : std.nth [(p : Int), (q : Int)] (std.nat 0) = (p : Int) := rfl
  refine go hC H1_ok (f121p1 std R [(p : Int), (q : Int)] 0 [0, 0]) ?_ ?_
  · rw [e]
    have := b0 p (by omega)
    simp [this, u0 p (by omega)]
  · rw [e, ho p (by omega)]; exact one
set_option maxRecDepth 20000 in
theorem step101_ok (c : List Int) (s b : Int) (h3 : c.length = 3) (hv : convE c = 0) (hs : 0 ≤ s ∧ s < 2 ^ (cM c).toNat) (hb : b = 0 ∨ b = 1) :
    Pure Try.prog 101 [.agg (.ints .i64 c), .int .i64 s, .int .i64 b] (.tup [.int .i64 (nxS c s b), .agg (.ints .i64 [o0S c s b, o1S c s b])]) none := by
  obtain ⟨m, p, q, rfl, m1, m2, p1, p2, q1, q2⟩ := conv_ok h3 hv
  obtain ⟨S, rfl⟩ := Int.eq_ofNat_of_zero_le hs.1
  obtain ⟨B, rfl, hB⟩ : ∃ B : Nat, b = (B : Int) ∧ B ≤ 1 := by
    rcases hb with rfl | rfl
    · exact ⟨0, rfl, by omega⟩
    · exact ⟨1, rfl, by omega⟩
  have hS : S < 2 ^ m := by
    have := hs.2
    simp [cM] at this
    exact_mod_cast this
  obtain ⟨r1, r2, r3, r4⟩ := reg_le m2 hB hS
  have hp15 : 2 * 2 ^ m ≤ 16 := by
    have : 2 ^ m ≤ 2 ^ 3 := Nat.pow_le_pow_right (by omega) m2
    omega
  rw [nxS, o0S, o1S, reg_nat]
  obtain ⟨P, hP⟩ : ∃ P, P = B * 2 ^ m := ⟨_, rfl⟩
  have es : std.shl (B : Int) (m : Int) = (P : Int) := by rw [hP]; simp
  rw [← hP] at r1 r3 r4 ⊢
  have hreg : std.add (P : Int) (S : Int) = ((P + S : Nat) : Int) := by simp
  refine start (f101e_at _ _ _) fun C hC => fin hC H1_ok (f101p0 std [(m : Int), (p : Int), (q : Int)] S B) ?_ ?_ rfl
  · simp only [show std.nth [(m : Int), (p : Int), (q : Int)] 0 = (m : Int) from rfl, show std.nth [(m : Int), (p : Int), (q : Int)] 1 = (p : Int) from rfl, show std.nth [(m : Int), (p : Int), (q : Int)] 2 = (q : Int) from rfl, es, hreg]
    generalize P + S = R at *
    simp
    have : ((R : Nat) : Int).tdiv 2 = ((R / 2 : Nat) : Int) := rfl
    omega
  · simp only [show std.nth [(m : Int), (p : Int), (q : Int)] 0 = (m : Int) from rfl, show std.nth [(m : Int), (p : Int), (q : Int)] 1 = (p : Int) from rfl, show std.nth [(m : Int), (p : Int), (q : Int)] 2 = (q : Int) from rfl, es, hreg]
    rfl
def rngS (c : List Int) (s : Int) : Bool := decide (0 ≤ s ∧ s < 2 ^ (cM c).toNat)
def sfE (c so : List Int) : Int := if so.length % 2 ≠ 0 ∨ (so.length : Int) < 2 * cM c then 10 else if 2 * (300 + cM c) < (so.length : Int) then 8 else rngE so (-7) 7
theorem soft60_ok (c so : List Int) (h3 : c.length = 3) (hv : convE c = 0) (h : so.length ≤ 1000000) : Pure Try.prog 60 [.agg (.ints .i64 c), .list (.ints .i64 so)] (.int .i64 (sfE c so)) none := by
  obtain ⟨m, p, q, rfl, m1, m2, p1, p2, q1, q2⟩ := conv_ok h3 hv
  have ht : ((so.length : Nat) : Int).tmod 2 = ((so.length % 2 : Nat) : Int) := rfl
  refine start (f60e_at _ _) fun C hC => ?_
  by_cases h1 : so.length % 2 = 0
  · by_cases h2 : (so.length : Int) < 2 * m
    · exact fin hC H1_ok (f60p1 std _ _) (by simp [ht, h1, h2]; omega) (by simp [sfE, cM, h2]) rfl
    · by_cases h4 : 2 * (300 + (m : Int)) < so.length
      · exact fin hC H1_ok (f60p2 std _ _) (by simp [ht, h1, h2, h4]; omega) (by simp [sfE, cM, h1, h2, h4]) rfl
      · exact fin hC H1_ok (f60p3 std _ _) (by simp [ht, h1, h2, h4, h]; omega) (by simp [sfE, cM, h1, h2, h4]) rfl
  · exact fin hC H1_ok (f60p0 std _ _) (by simp [ht]; omega) (by simp [sfE, h1]) rfl
def sfW (c so : List Int) : Int :=
  firstE [if so.length % 2 = 0 then unlessE (decide (IntKind.i64.wrap (2 * cM c) ≤ so.length)) 10 else 10, unlessE (decide ((so.length : Int) ≤ IntKind.i64.wrap (2 * IntKind.i64.wrap (300 + cM c)))) 8, rngE so (-7) 7]
theorem soft98_ok (c so : List Int) (h3 : c.length = 3) (h : so.length ≤ 1000000) : Pure Try.prog 98 [.agg (.ints .i64 c), .list (.ints .i64 so)] (.int .i64 (sfW c so)) none := by
  obtain ⟨a, b, d, rfl⟩ := three h3
  have ht : ((so.length : Nat) : Int).tmod 2 = ((so.length % 2 : Nat) : Int) := rfl
  refine start (f98e_at _ _) fun C hC => ?_
  by_cases h1 : so.length % 2 = 0
  · exact fin hC H1_ok (f98p0 std _ _) (by simp [ht, h1, h, AV.bx, flatLen]) (by simp [sfW, cM, h1]) rfl
  · exact fin hC H1_ok (f98p1 std _ _) (by simp [ht, h, AV.bx, flatLen]; omega) (by simp [sfW, cM, h1]) rfl
theorem sfW_ok {c so : List Int} (h3 : c.length = 3) (hv : convE c = 0) (h : so.length ≤ 1000000) : sfW c so = sfE c so := by
  obtain ⟨m, p, q, rfl, m1, m2, p1, p2, q1, q2⟩ := conv_ok h3 hv
  have w1 : IntKind.i64.wrap (2 * (m : Int)) = 2 * m := by rw [IntKind.wrap_i64]; omega
  have w2 : IntKind.i64.wrap (300 + (m : Int)) = 300 + m := by rw [IntKind.wrap_i64]; omega
  have w3 : IntKind.i64.wrap (2 * (300 + (m : Int))) = 2 * (300 + m) := by rw [IntKind.wrap_i64]; omega
  have hcm : cM [(m : Int), (p : Int), (q : Int)] = m := rfl
  rw [sfW, sfE, hcm, w1, w2, w3]
  by_cases h1 : so.length % 2 = 0
  · by_cases h2 : (so.length : Int) < 2 * m
    · have : ¬ (2 * (m : Int) ≤ so.length) := by omega
      simp [h1, h2, this, firstE, unlessE]
    · have h2' : 2 * (m : Int) ≤ so.length := by omega
      by_cases h4 : 2 * (300 + (m : Int)) < so.length
      · have : ¬ ((so.length : Int) ≤ 2 * (300 + (m : Int))) := by omega
        simp [h1, h2, h2', h4, this, firstE, unlessE]
      · have : (so.length : Int) ≤ 2 * (300 + (m : Int)) := by omega
        simp only [h1, h2, h2', h4, this, firstE, unlessE]
        simp
        exact fun e => e.symm
  · simp [h1, firstE]
def k121 : Ctr := ⟨121, 0, fun _ a => match a with | [.agg (.ints .i64 c), .int .i64 s, .int .i64 b] => some (decide ((c.length = 3 ∧ convE c = 0) ∧ rngS c s = true ∧ bitB b = true), .tup [.int .i64 (nxS c s b), .agg (.ints .i64 [o0S c s b, o1S c s b])], none) | _ => none⟩
theorem k121_ok : k121.OK Try.prog := fun pa args r fr h => by
  simp only [k121] at h
  split at h
  · simp only [Option.some.injEq, Prod.mk.injEq, decide_eq_true_eq] at h
    obtain ⟨h0, rfl, rfl⟩ := h
    exact step121_ok _ _ _ h0.1.1 h0.1.2 (of_decide_eq_true h0.2.1) (of_decide_eq_true h0.2.2)
  · cases h
def k101 : Ctr := ⟨101, 0, fun _ a => match a with | [.agg (.ints .i64 c), .int .i64 s, .int .i64 b] => some (decide ((c.length = 3 ∧ convE c = 0) ∧ rngS c s = true ∧ bitB b = true), .tup [.int .i64 (nxS c s b), .agg (.ints .i64 [o0S c s b, o1S c s b])], none) | _ => none⟩
theorem k101_ok : k101.OK Try.prog := fun pa args r fr h => by
  simp only [k101] at h
  split at h
  · simp only [Option.some.injEq, Prod.mk.injEq, decide_eq_true_eq] at h
    obtain ⟨h0, rfl, rfl⟩ := h
    exact step101_ok _ _ _ h0.1.1 h0.1.2 (of_decide_eq_true h0.2.1) (of_decide_eq_true h0.2.2)
  · cases h
def k60 : Ctr := ⟨60, 0, fun _ a => match a with | [.agg (.ints .i64 c), .list (.ints .i64 so)] => some (decide ((c.length = 3 ∧ convE c = 0) ∧ so.length ≤ 1000000), .int .i64 (sfE c so), none) | _ => none⟩
theorem k60_ok : k60.OK Try.prog := fun pa args r fr h => by
  simp only [k60] at h
  split at h
  · simp only [Option.some.injEq, Prod.mk.injEq, decide_eq_true_eq] at h
    obtain ⟨h0, rfl, rfl⟩ := h
    exact soft60_ok _ _ h0.1.1 h0.1.2 h0.2
  · cases h
def k98 : Ctr := ⟨98, 0, fun _ a => match a with | [.agg (.ints .i64 c), .list (.ints .i64 so)] => some (decide (c.length = 3 ∧ so.length ≤ 1000000), .int .i64 (sfW c so), none) | _ => none⟩
theorem k98_ok : k98.OK Try.prog := fun pa args r fr h => by
  simp only [k98] at h
  split at h
  · simp only [Option.some.injEq, Prod.mk.injEq, decide_eq_true_eq] at h
    obtain ⟨h0, rfl, rfl⟩ := h
    exact soft98_ok _ _ h0.1 h0.2
  · cases h
def H2 : List Ctr := [k121, k101, k60, k98] ++ H1
theorem H2_ok : CtrsOK Try.prog H2 := ⟨k121_ok, ⟨k101_ok, ⟨k60_ok, ⟨k98_ok, H1_ok⟩⟩⟩⟩
end Go.Proofs.Ytimmgjppippdiaa
