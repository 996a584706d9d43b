/- Contracts as a list. No condition. -/
import Derived.Test.YtjhdnpmojhkbjaaPJ
namespace Go.Proofs.Ytjhdnpmojhkbjaa
theorem errs96_ok (ps : List AV) (h : fewB ps = true) : Pure Try.prog 96 [.list (.big (.agg [.int .i64, .int .i64, .ints .i64]) ps)] (.int .i64 (packE ps)) none :=
  start (f96e_at ps) fun C hC => by
    refine fin hC BD2_ok (f96p0 std ps) (by simp [h, AV.bx, flatLen]) ?_ rfl
    unfold packE
    by_cases h2 : 20 < ps.length
    · have : std.le (std.int (std.lenA ps)) 20 = false := by simp; omega
      rw [this, if_pos h2]; simp [firstE]
    · have : std.le (std.int (std.lenA ps)) 20 = true := by simp; omega
      rw [this, if_neg h2]; simp [firstE]; exact fun h => h.symm
theorem clone130_ok (ps : List AV) (h : 0 < ps.length ∧ ps.length ≤ 1000000) : Pure Try.prog 130 [.list (.big (.agg [.int .i64, .int .i64, .ints .i64]) ps)] (.row 0 0) (some ⟨57, 3, .big (.agg [.int .i64, .int .i64, .ints .i64]) ps⟩) :=
  start (f130e_at ps) fun C hC => fin hC BD2_ok (f130p0 std ps) (by simp; omega) rfl rfl
/-! ### Binary search -/
def ascB (xs : List Int) : Bool := decide (xs.Pairwise (· < ·)) && decide (xs.length ≤ 1000000)
def loS (xs : List Int) (x : Int) : Nat := (xs.takeWhile fun y => decide (y < x)).length
theorem loS_eq {xs : List Int} {x : Int} {i : Nat} (hi : i ≤ xs.length) (h1 : ∀ k (h : k < xs.length), k < i → xs[k] < x) (h2 : ∀ k (h : k < xs.length), i ≤ k → x ≤ xs[k]) : loS xs x = i := by
  unfold loS
  induction xs generalizing i with
  | nil => simp at hi; simp [hi]
  | cons y ys ih =>
    cases i with
    | zero =>
      have := h2 0 (by simp) (by omega)
      rw [List.takeWhile_cons, if_neg (by simpa using this)]; rfl
    | succ i =>
      have := h1 0 (by simp) (by omega)
      rw [List.takeWhile_cons, if_pos (by simpa using this), List.length_cons, ih (i := i) (by simpa using hi) (fun k h hk => h1 (k + 1) (by simpa using h) (by omega)) (fun k h hk => h2 (k + 1) (by simpa using h) (by omega))]
theorem l103 {C : Ctx} (hC : C.P = Try.prog) (xs : List Int) (x : Int) (hlen : xs.length ≤ 1000000) (hs : ∀ i j (hi : i < xs.length) (hj : j < xs.length), i < j → xs[i] < xs[j]) : ∀ (d i j : Nat), j - i = d → i ≤ j → j ≤ xs.length → (∀ k (h : k < xs.length), k < i → xs[k] < x) → (∀ k (h : k < xs.length), j ≤ k → x ≤ xs[k]) →
    Ev C (f103h103_0a xs x xs.length j i) (f103h103_0am xs x xs.length j i) (FinQ 103 (.tup [.int .i64 (loS xs x), .bool (decide (x ∈ xs))]) none) := by
  intro d
  induction d using Nat.strongRecOn with
  | _ d ih =>
    intro i j hd hij hj h1 h2
    by_cases hlt : i < j
    · have hm : std.shr (std.add (i : Int) (j : Int)) 1 = (((i + j) / 2 : Nat) : Int) := by
        simp only [s_shr, s_add]
        rw [Int.fdiv_eq_ediv_of_nonneg _ (by decide)]
        simp
      have hml : (i + j) / 2 < xs.length := by omega
      have u : std.inR .u64 (std.add (i : Int) (j : Int)) = true := decide_eq_true ⟨show (0 : Int) ≤ (i : Int) + j by omega, show (i : Int) + j ≤ 18446744073709551615 by omega⟩
      obtain ⟨m, hme⟩ : ∃ m, (i + j) / 2 = m := ⟨_, rfl⟩
      rw [hme] at hm hml
      have e1 : std.nth xs (std.nat (m : Int)) = xs[m] := by simp [hml]
      have e5 : std.add (m : Int) 1 = ((m + 1 : Nat) : Int) := by simp
      by_cases hc : xs[m] < x
      · refine go hC BD2_ok (f103p4 std xs x xs.length j i) ?_ ?_
        · simp only [hm, e1, u]; simp [hml, hc]; omega
        · rw [hm, e5]
          refine ih (j - (m + 1)) (by omega) (m + 1) j rfl (by omega) hj (fun k h hk => ?_) h2
          by_cases hkm : k = m
          · subst hkm; exact hc
          · have := hs k m h hml (by omega); omega
      · refine go hC BD2_ok (f103p5 std xs x xs.length j i) ?_ ?_
        · simp only [hm, e1, u]; simp [hml]; omega
        · rw [hm]
          refine ih (m - i) (by omega) i m rfl (by omega) (by omega) h1 (fun k h hk => ?_)
          by_cases hkm : k = m
          · subst hkm; omega
          · have := hs m k hml h (by omega); omega
    · have hij2 : i = j := by omega
      subst hij2
      have hlo := loS_eq hj h1 h2
      by_cases hn : i < xs.length
      · have e1 : std.nth xs (std.nat (i : Int)) = xs[i] := by simp [hn]
        by_cases he : xs[i] = x
        · refine fin hC BD2_ok (f103p6 std xs x xs.length i i) ?_ ?_ rfl
          · simp only [e1, he]; simp [hn]
          · rw [hlo, decide_eq_true (he ▸ List.getElem_mem hn)]
        · refine fin hC BD2_ok (f103p8 std xs x xs.length i i) ?_ ?_ rfl
          · simp only [e1]; simp [hn, he]
          · have : ¬ x ∈ xs := fun hx => by
              obtain ⟨k, hk, hke⟩ := List.getElem_of_mem hx
              by_cases hki : k < i
              · have := h1 k hk hki; omega
              · by_cases hk2 : k = i
                · subst hk2; exact he hke
                · have a := hs i k hn hk (by omega)
                  have b := h2 i hn (by omega)
                  omega
            rw [hlo, decide_eq_false this]
      · refine fin hC BD2_ok (f103p9 std xs x xs.length i i) (by simp; omega) ?_ rfl
        have : ¬ x ∈ xs := fun hx => by
          obtain ⟨k, hk, hke⟩ := List.getElem_of_mem hx
          have := h1 k hk (by omega)
          omega
        rw [hlo, decide_eq_false this]
theorem bin103_ok (xs : List Int) (x : Int) (h : ascB xs = true) : Pure Try.prog 103 [.list (.ints .i64 xs), .int .i64 x] (.tup [.int .i64 (loS xs x), .bool (decide (x ∈ xs))]) none :=
  start (f103e_at xs x) fun C hC => by
    rw [ascB, Bool.and_eq_true, decide_eq_true_eq, decide_eq_true_eq] at h
    have hs := List.pairwise_iff_getElem.1 h.1
    exact go hC BD2_ok (f103p0 std xs x) (by simp) (l103 hC xs x h.2 hs xs.length 0 xs.length (by omega) (by omega) (by omega) (fun k h hk => by omega) (fun k h hk => by omega))
def k96 : Ctr := ⟨96, 0, fun _ a => match a with | [.list (.big (.agg [.int .i64, .int .i64, .ints .i64]) ps)] => some (decide (fewB ps = true), .int .i64 (packE ps), none) | _ => none⟩
theorem k96_ok : k96.OK Try.prog := fun pa args r fr h => by
  simp only [k96] at h
  split at h
  · simp only [Option.some.injEq, Prod.mk.injEq, decide_eq_true_eq] at h
    obtain ⟨h0, rfl, rfl⟩ := h
    exact errs96_ok _ h0
  · cases h
def k130 : Ctr := ⟨130, 0, fun _ a => match a with | [.list (.big (.agg [.int .i64, .int .i64, .ints .i64]) ps)] => some (decide (0 < ps.length ∧ ps.length ≤ 1000000), .row 0 0, some ⟨57, 3, .big (.agg [.int .i64, .int .i64, .ints .i64]) ps⟩) | _ => none⟩
theorem k130_ok : k130.OK Try.prog := fun pa args r fr h => by
  simp only [k130] at h
  split at h
  · simp only [Option.some.injEq, Prod.mk.injEq, decide_eq_true_eq] at h
    obtain ⟨h0, rfl, rfl⟩ := h
    exact clone130_ok _ h0
  · cases h
def k103 : Ctr := ⟨103, 0, fun _ a => match a with | [.list (.ints .i64 xs), .int .i64 x] => some (decide (ascB xs = true), .tup [.int .i64 (loS xs x), .bool (decide (x ∈ xs))], none) | _ => none⟩
theorem k103_ok : k103.OK Try.prog := fun pa args r fr h => by
  simp only [k103] at h
  split at h
  · simp only [Option.some.injEq, Prod.mk.injEq, decide_eq_true_eq] at h
    obtain ⟨h0, rfl, rfl⟩ := h
    exact bin103_ok _ _ h0
  · cases h
def BD3 : List Ctr := [k96, k130, k103] ++ BD2
theorem BD3_ok : CtrsOK Try.prog BD3 := ⟨k96_ok, ⟨k130_ok, ⟨k103_ok, BD2_ok⟩⟩⟩
end Go.Proofs.Ytjhdnpmojhkbjaa
