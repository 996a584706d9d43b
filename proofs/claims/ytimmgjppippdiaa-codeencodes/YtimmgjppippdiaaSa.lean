/- Contracts as a list. No condition. -/
import Derived.Test.YtimmgjppippdiaaQh
namespace Go.Proofs.Ytimmgjppippdiaa
/-! ### Convolutional codes: which are valid; their outputs -/
def cM (c : List Int) : Int := c.getD 0 0
def hiC (c : List Int) : Int := 2 * 2 ^ (cM c).toNat - 1
def convE (c : List Int) : Int := if ¬ (1 ≤ cM c ∧ cM c ≤ 3) then 2 else if (1 ≤ c.getD 1 0 ∧ c.getD 1 0 ≤ hiC c) ∧ (1 ≤ c.getD 2 0 ∧ c.getD 2 0 ≤ hiC c) then 0 else 2
theorem three {c : List Int} (h : c.length = 3) : ∃ a b d, c = [a, b, d] := by
  match c, h with
  | [a, b, d], _ => exact ⟨a, b, d, rfl⟩
theorem conv43_ok (c : List Int) (h : c.length = 3) : Pure Try.prog 43 [.agg (.ints .i64 c)] (.int .i64 (convE c)) none := by
  obtain ⟨a, b, d, rfl⟩ := three h
  refine start (f43e_at [a, b, d]) fun C hC => ?_
  by_cases h1 : 1 ≤ a ∧ a ≤ 3
  · have h4 : (2 : Int) ^ a.toNat ≤ 8 ∧ 2 ≤ (2 : Int) ^ a.toNat := by
      have : a = 1 ∨ a = 2 ∨ a = 3 := by omega
      rcases this with rfl | rfl | rfl <;> decide
    by_cases h2 : 1 ≤ b ∧ b ≤ 2 * 2 ^ a.toNat - 1
    · by_cases h3 : 1 ≤ d ∧ d ≤ 2 * 2 ^ a.toNat - 1
      · exact fin hC F2_ok (f43p3 std [a, b, d]) (by simp [h1, h2, h3]; omega) (by simp [convE, cM, hiC, h1, h2, h3]) rfl
      · exact fin hC F2_ok (f43p2 std [a, b, d]) (by simp [h1, h2, h3]; omega) (by simp [convE, cM, hiC, h1, h2, h3]) rfl
    · exact fin hC F2_ok (f43p1 std [a, b, d]) (by simp [h1, h2]; omega) (by simp [convE, cM, hiC, h1, h2]) rfl
  · exact fin hC F2_ok (f43p0 std [a, b, d]) (by simp [h1]) (by simp [convE, cM, h1]) rfl
theorem conv57_ok (c : List Int) (h : c.length = 3) : Pure Try.prog 57 [.agg (.ints .i64 c)] (.int .i64 (convE c)) none := by
  obtain ⟨a, b, d, rfl⟩ := three h
  refine start (f57e_at [a, b, d]) fun C hC => ?_
  by_cases h1 : 1 ≤ a ∧ a ≤ 3
  · have h5 : (a + 1).toNat = a.toNat + 1 := by omega
    have h4 : (2 : Int) ^ a.toNat ≤ 8 ∧ 2 ≤ (2 : Int) ^ a.toNat := by
      have : a = 1 ∨ a = 2 ∨ a = 3 := by omega
      rcases this with rfl | rfl | rfl <;> decide
    refine fin hC F2_ok (f57p1 std [a, b, d]) (by simp [h1, h5, Int.pow_succ]; omega) ?_ rfl
    simp [convE, cM, hiC, h1, rngE, h5, Int.pow_succ, Int.mul_comm]
  · exact fin hC F2_ok (f57p0 std [a, b, d]) (by simp [h1]) (by simp [convE, cM, h1]) rfl
def pop4 (x : Nat) : Nat := x % 2 + x / 2 % 2 + x / 4 % 2 + x / 8 % 2
def outS (r k : Int) : Int := ((pop4 (r.toNat &&& k.toNat) % 2 : Nat) : Int)
theorem bits_and (r k : Nat) (hr : r ≤ 15) (hk : k ≤ 15) : std.bits .and .i64 (r : Int) (k : Int) = ((r &&& k : Nat) : Int) := by
  have h1 : ∀ m : Nat, m ≤ 15 → (BitVec.ofInt 64 (m : Int)).toNat = m := fun m hm => by
    rw [BitVec.ofInt_natCast, BitVec.toNat_ofNat]; exact Nat.mod_eq_of_lt (by omega)
  show IntKind.i64.wrap ((BitVec.ofInt 64 (r : Int) &&& BitVec.ofInt 64 (k : Int)).toNat : Int) = _
  rw [BitVec.toNat_and, h1 r hr, h1 k hk]
  have := @Nat.and_le_left r k
  rw [IntKind.wrap_i64]
  omega
theorem l148 {C : Ctx} (hC : C.P = Try.prog) : ∀ (K n : Nat), K ≤ 15 → n + K ≤ 100 → Ev C (f148h148_0a K n) (f148h148_0am K n) (FinQ 148 (.int .i64 (((n + pop4 K) % 2 : Nat) : Int)) none) := by
  intro K
  induction K using Nat.strongRecOn with
  | _ K ih =>
    intro n hK hn
    by_cases h0 : K = 0
    · subst h0
      exact fin hC F2_ok (f148p2 std _ _) (by simp) (by
        have t1 : ((n : Nat) : Int).tmod 2 = ((n % 2 : Nat) : Int) := rfl
        simp only [s_rem, t1]; rfl) rfl
    · have next := ih (K / 2) (by omega) (n + K % 2) (by omega) (by omega)
      have e : n + K % 2 + pop4 (K / 2) = n + pop4 K := by unfold pop4; omega
      rw [e] at next
      have t1 : ((K : Nat) : Int).tmod 2 = ((K % 2 : Nat) : Int) := rfl
      have t2 : ((K : Nat) : Int).tdiv 2 = ((K / 2 : Nat) : Int) := rfl
      refine go hC F2_ok (f148p1 std _ _) ?_ ?_
      · simp only [s_rem, s_quo, t1, t2]
        simp
        omega
      · simp only [s_add, s_rem, s_quo, t1, t2]
        exact next
theorem out148_ok (r k : Int) (h : (0 ≤ r ∧ r ≤ 15) ∧ 0 ≤ k ∧ k ≤ 15) : Pure Try.prog 148 [.int .i64 r, .int .i64 k] (.int .i64 (outS r k)) none := by
  obtain ⟨R, rfl⟩ := Int.eq_ofNat_of_zero_le h.1.1
  obtain ⟨K, rfl⟩ := Int.eq_ofNat_of_zero_le h.2.1
  have := @Nat.and_le_left R K
  refine start (f148e_at R K) fun C hC => go hC F2_ok (f148p0 std R K) (by simp) ?_
  rw [bits_and R K (by omega) (by omega)]
  have := l148 hC (R &&& K) 0 (by omega) (by omega)
  rw [Nat.zero_add] at this
  exact this
theorem allT_of : ∀ {l : List Bool}, l.all (fun b => b) = true → AllT l
  | [], _ => trivial
  | b :: l, h => by
    simp only [List.all_cons, Bool.and_eq_true] at h
    exact ⟨h.1, allT_of h.2⟩
theorem ones153_ok (x : Int) (h : 0 ≤ x ∧ x ≤ 15) : Pure Try.prog 153 [.int .u64 x] (.int .i64 ((pop4 x.toNat : Nat) : Int)) none := by
  have : x = 0 ∨ x = 1 ∨ x = 2 ∨ x = 3 ∨ x = 4 ∨ x = 5 ∨ x = 6 ∨ x = 7 ∨ x = 8 ∨ x = 9 ∨ x = 10 ∨ x = 11 ∨ x = 12 ∨ x = 13 ∨ x = 14 ∨ x = 15 := by omega
  rcases this with rfl | rfl | rfl | rfl | rfl | rfl | rfl | rfl | rfl | rfl | rfl | rfl | rfl | rfl | rfl | rfl <;>
    exact start (f153e_at _) fun C hC => fin hC F2_ok (f153p0 std _) (allT_of (by kernel_rfl)) (by kernel_rfl) rfl
def cbtS (x s : Int) : Int := if x = 0 then s else -s
theorem con125_ok (x s : Int) (h : -100000 ≤ s ∧ s ≤ 100000) : Pure Try.prog 125 [.int .i64 x, .int .i64 s] (.int .i64 (cbtS x s)) none :=
  start (f125e_at x s) fun C hC => by
    by_cases h0 : x = 0
    · exact fin hC F2_ok (f125p0 std x s) (by simp [h0]) (by rw [cbtS, if_pos h0]) rfl
    · exact fin hC F2_ok (f125p1 std x s) (by simp [h0]; omega) (by rw [cbtS, if_neg h0]; rfl) rfl
theorem l91 {C : Ctx} (hC : C.P = Try.prog) (xs : List Int) (h : xs.length ≤ 1000000) : ∀ (d i : Nat), xs.length - i = d → i ≤ xs.length → Ev C (f91h91_0a xs i) (f91h91_0am xs i) (FinQ 91 (.int .i64 (rngE (xs.drop i) (-7) 7)) none) := by
  intro d
  induction d with
  | zero =>
    intro i hd hi
    rw [List.drop_of_length_le (by omega)]
    exact fin hC F2_ok (f91p3 std xs i) (by simp; omega) rfl rfl
  | succ d ih =>
    intro i hd hi
    have hlt : i < xs.length := by omega
    rw [List.drop_eq_getElem_cons hlt]
    by_cases hx : -7 ≤ xs[i] ∧ xs[i] ≤ 7
    · have e : rngE (xs[i] :: xs.drop (i + 1)) (-7) 7 = rngE (xs.drop (i + 1)) (-7) 7 := by unfold rngE; rw [List.all_cons, decide_eq_true hx, Bool.true_and]
      rw [e]
      exact go hC F2_ok (f91p2 std xs i) (by simp [hlt, hx]; omega) (ih (i + 1) (by omega) (by omega))
    · have e : rngE (xs[i] :: xs.drop (i + 1)) (-7) 7 = 2 := by unfold rngE; rw [List.all_cons, decide_eq_false hx, Bool.false_and]; rfl
      rw [e]
      exact fin hC F2_ok (f91p1 std xs i) (by simp [hlt, hx]) rfl rfl
theorem soft91_ok (xs : List Int) (h : xs.length ≤ 1000000) : Pure Try.prog 91 [.list (.ints .i64 xs)] (.int .i64 (rngE xs (-7) 7)) none :=
  start (f91e_at xs) fun C hC => go hC F2_ok (f91p0 std xs) (by simp) (l91 hC xs h xs.length 0 (by omega) (by omega))
def bsE (xs : List Int) : Int := if 300 < xs.length then 8 else bitE xs
theorem bits44_ok (xs : List Int) : Pure Try.prog 44 [.list (.ints .i64 xs)] (.int .i64 (bsE xs)) none :=
  start (f44e_at xs) fun C hC => by
    by_cases h : 300 < xs.length
    · exact fin hC F2_ok (f44p0 std xs) (by simp; omega) (by rw [bsE, if_pos h]) rfl
    · exact fin hC F2_ok (f44p1 std xs) (by simp; omega) (by rw [bsE, if_neg h]) rfl
theorem rng_bit1 (w : List Int) : rngE w 0 1 = bitE w := by
  have : (fun x : Int => decide (0 ≤ x ∧ x ≤ 1)) = bitB := by
    funext x; unfold bitB; rw [decide_eq_decide]; omega
  unfold rngE bitE; rw [this]
theorem bits118_ok (xs : List Int) (h : xs.length ≤ 1000000) : Pure Try.prog 118 [.list (.ints .i64 xs)] (.int .i64 (bsE xs)) none :=
  start (f118e_at xs) fun C hC => by
    refine fin hC F2_ok (f118p0 std xs) (by simp [h, AV.bx, flatLen]) ?_ rfl
    rw [rng_bit1]
    by_cases h3 : 300 < xs.length
    · have : ¬ ((xs.length : Int) ≤ 300) := by omega
      simp [bsE, h3, firstE, unlessE, this]
    · have : (xs.length : Int) ≤ 300 := by omega
      simp [bsE, h3, firstE, unlessE, this]
      exact fun e => e.symm
def k18e : Ctr := ⟨18, 0, fun _ a => match a with | [] => some (true, .bool true, none) | _ => none⟩
theorem k18e_ok : k18e.OK Try.prog := fun pa args r fr h => by
  simp only [k18e] at h
  split at h
  · cases h
    exact q181_ok
  · cases h
def k43 : Ctr := ⟨43, 0, fun _ a => match a with | [.agg (.ints .i64 c)] => some (decide (c.length = 3), .int .i64 (convE c), none) | _ => none⟩
theorem k43_ok : k43.OK Try.prog := fun pa args r fr h => by
  simp only [k43] at h
  split at h
  · simp only [Option.some.injEq, Prod.mk.injEq, decide_eq_true_eq] at h
    obtain ⟨h0, rfl, rfl⟩ := h
    exact conv43_ok _ h0
  · cases h
def k57 : Ctr := ⟨57, 0, fun _ a => match a with | [.agg (.ints .i64 c)] => some (decide (c.length = 3), .int .i64 (convE c), none) | _ => none⟩
theorem k57_ok : k57.OK Try.prog := fun pa args r fr h => by
  simp only [k57] at h
  split at h
  · simp only [Option.some.injEq, Prod.mk.injEq, decide_eq_true_eq] at h
    obtain ⟨h0, rfl, rfl⟩ := h
    exact conv57_ok _ h0
  · cases h
def k148 : Ctr := ⟨148, 0, fun _ a => match a with | [.int .i64 r, .int .i64 k] => some (decide ((0 ≤ r ∧ r ≤ 15) ∧ 0 ≤ k ∧ k ≤ 15), .int .i64 (outS r k), none) | _ => none⟩
theorem k148_ok : k148.OK Try.prog := fun pa args r fr h => by
  simp only [k148] at h
  split at h
  · simp only [Option.some.injEq, Prod.mk.injEq, decide_eq_true_eq] at h
    obtain ⟨h0, rfl, rfl⟩ := h
    exact out148_ok _ _ h0
  · cases h
def k153 : Ctr := ⟨153, 0, fun _ a => match a with | [.int .u64 x] => some (decide (0 ≤ x ∧ x ≤ 15), .int .i64 ((pop4 x.toNat : Nat) : Int), none) | _ => none⟩
theorem k153_ok : k153.OK Try.prog := fun pa args r fr h => by
  simp only [k153] at h
  split at h
  · simp only [Option.some.injEq, Prod.mk.injEq, decide_eq_true_eq] at h
    obtain ⟨h0, rfl, rfl⟩ := h
    exact ones153_ok _ h0
  · cases h
def k125 : Ctr := ⟨125, 0, fun _ a => match a with | [.int .i64 x, .int .i64 s] => some (decide (-100000 ≤ s ∧ s ≤ 100000), .int .i64 (cbtS x s), none) | _ => none⟩
theorem k125_ok : k125.OK Try.prog := fun pa args r fr h => by
  simp only [k125] at h
  split at h
  · simp only [Option.some.injEq, Prod.mk.injEq, decide_eq_true_eq] at h
    obtain ⟨h0, rfl, rfl⟩ := h
    exact con125_ok _ _ h0
  · cases h
def k91 : Ctr := ⟨91, 0, fun _ a => match a with | [.list (.ints .i64 xs)] => some (decide (xs.length ≤ 1000000), .int .i64 (rngE xs (-7) 7), none) | _ => none⟩
theorem k91_ok : k91.OK Try.prog := fun pa args r fr h => by
  simp only [k91] at h
  split at h
  · simp only [Option.some.injEq, Prod.mk.injEq, decide_eq_true_eq] at h
    obtain ⟨h0, rfl, rfl⟩ := h
    exact soft91_ok _ h0
  · cases h
def k44 : Ctr := ⟨44, 0, fun _ a => match a with | [.list (.ints .i64 xs)] => some (true, .int .i64 (bsE xs), none) | _ => none⟩
theorem k44_ok : k44.OK Try.prog := fun pa args r fr h => by
  simp only [k44] at h
  split at h
  · cases h
    exact bits44_ok _
  · cases h
def k118 : Ctr := ⟨118, 0, fun _ a => match a with | [.list (.ints .i64 xs)] => some (decide (xs.length ≤ 1000000), .int .i64 (bsE xs), none) | _ => none⟩
theorem k118_ok : k118.OK Try.prog := fun pa args r fr h => by
  simp only [k118] at h
  split at h
  · simp only [Option.some.injEq, Prod.mk.injEq, decide_eq_true_eq] at h
    obtain ⟨h0, rfl, rfl⟩ := h
    exact bits118_ok _ h0
  · cases h
def H1 : List Ctr := [k18e, k43, k57, k148, k153, k125, k91, k44, k118] ++ F2
theorem H1_ok : CtrsOK Try.prog H1 := ⟨k18e_ok, ⟨k43_ok, ⟨k57_ok, ⟨k148_ok, ⟨k153_ok, ⟨k125_ok, ⟨k91_ok, ⟨k44_ok, ⟨k118_ok, F2_ok⟩⟩⟩⟩⟩⟩⟩⟩⟩
end Go.Proofs.Ytimmgjppippdiaa
