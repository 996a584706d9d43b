/- Contracts as a list. No condition. -/
import Derived.Test.YtimmgjppippdiaaRi
namespace Go.Proofs.Ytimmgjppippdiaa
/-! ### The bits of a number -/
def btJ (N c j : Nat) : Int := ((N / 2 ^ (c - 1 - j) % 2 : Nat) : Int)
def btS (N c : Nat) : List Int := vN c (btJ N c)
theorem l134 {C : Ctx} (hC : C.P = Try.prog) (N c : Nat) (hN : N ≤ 1000000) (hc : c ≤ 1000) : ∀ (d k : Nat), c - k = d → k ≤ c →
    Ev C (f134h134_0a ((c : Int) - 1 - k) (vN c fun j => if c - k ≤ j then btJ N c j else 0) ((N / 2 ^ k : Nat) : Int)) (f134h134_0am ((c : Int) - 1 - k) (vN c fun j => if c - k ≤ j then btJ N c j else 0) ((N / 2 ^ k : Nat) : Int)) (FinQ 134 (.row 0 0) (some ⟨3, 1, .ints .i64 (btS N c)⟩)) := by
  intro d
  induction d with
  | zero =>
    intro k hd hk
    refine fin hC F9_ok (f134p2 std _ _ _) (by simp; omega) rfl ?_
    rw [vN_congr (g := btJ N c) (fun j hj => by rw [if_pos (by omega)])]; rfl
  | succ d ih =>
    intro k hd hk
    have next := ih (k + 1) (by omega) (by omega)
    have e1 : ((c : Int) - 1 - k).toNat = c - 1 - k := by omega
    have hm : N / 2 ^ k ≤ N := Nat.div_le_self _ _
    have e2 : N / 2 ^ (k + 1) = N / 2 ^ k / 2 := by rw [Nat.pow_succ, Nat.div_div_eq_div_mul]
    have e3 : (vN c fun j => if c - (k + 1) ≤ j then btJ N c j else 0) = (vN c fun j => if c - k ≤ j then btJ N c j else 0).set (c - 1 - k) (((N / 2 ^ k % 2 : Nat) : Int)) := by
      rw [vN_set]
      refine vN_congr fun j hj => ?_
      by_cases e : j = c - 1 - k
      · rw [if_pos e, if_pos (by omega), btJ, show c - 1 - j = k by omega]
      · rw [if_neg e]
        by_cases h2 : c - k ≤ j
        · rw [if_pos h2, if_pos (by omega)]
        · rw [if_neg h2, if_neg (by omega)]
    rw [e2, e3] at next
    generalize N / 2 ^ k = m at hm next ⊢
    have t1 : ((m : Nat) : Int).tmod 2 = ((m % 2 : Nat) : Int) := rfl
    have t2 : ((m : Nat) : Int).tdiv 2 = ((m / 2 : Nat) : Int) := rfl
    refine go hC F9_ok (f134p1 std _ _ _) ?_ ?_
    · simp only [s_rem, s_quo, t1, t2, s_nat, e1]
      simp [vN_len]
      omega
    · simp only [s_sub, s_set, s_nat, s_rem, s_quo, e1, t1, t2]
      rw [show (c : Int) - 1 - k - 1 = (c : Int) - 1 - ((k + 1 : Nat) : Int) by omega]
      exact next
theorem bits_of_ok (N c : Nat) (hN : N ≤ 1000000) (hc : c ≤ 1000) : Pure Try.prog 134 [.int .i64 (N : Int), .int .i64 (c : Int)] (.list (.ints .i64 (btS N c))) newF := by
  refine new_row (e := 3) (sz := 0) (start (f134e_at N c) fun C hC => go hC F9_ok (f134p0 std N c) (by simp; omega) ?_) rfl rfl
  have := l134 hC N c hN hc c 0 (by omega) (by omega)
  have e : (vN c fun j => if c - 0 ≤ j then btJ N c j else 0) = List.replicate c 0 := by
    apply List.ext_getElem (by simp [vN])
    intro j h1 h2
    simp [vN] at h1 ⊢
    omega
  rw [e] at this
  simpa using this
theorem bits_of_ok' (n c : Int) (h : 0 ≤ n ∧ n ≤ 1000000 ∧ 0 ≤ c ∧ c ≤ 1000) : Pure Try.prog 134 [.int .i64 n, .int .i64 c] (.list (.ints .i64 (btS n.toNat c.toNat))) newF := by
  obtain ⟨N, rfl⟩ := Int.eq_ofNat_of_zero_le h.1
  obtain ⟨c, rfl⟩ := Int.eq_ofNat_of_zero_le h.2.2.1
  exact bits_of_ok N c (by omega) (by omega)
def k134 : Ctr := ⟨134, 0, fun _ a => match a with | [.int .i64 n, .int .i64 c] => some (decide (0 ≤ n ∧ n ≤ 1000000 ∧ 0 ≤ c ∧ c ≤ 1000), .list (.ints .i64 (btS n.toNat c.toNat)), newF) | _ => none⟩
theorem k134_ok : k134.OK Try.prog := fun pa args r fr h => by
  simp only [k134] at h
  split at h
  · simp only [Option.some.injEq, Prod.mk.injEq, decide_eq_true_eq] at h
    obtain ⟨h0, rfl, rfl⟩ := h
    exact bits_of_ok' _ _ h0
  · cases h
def G2 : List Ctr := [k134] ++ G1
theorem G2_ok : CtrsOK Try.prog G2 := ⟨k134_ok, G1_ok⟩
end Go.Proofs.Ytimmgjppippdiaa
