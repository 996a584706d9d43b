/- Contracts as a list. No condition. -/
import Derived.Test.YtimmgjppippdiaaQd
namespace Go.Proofs.Ytimmgjppippdiaa
/-! ### Nearest and MinimumWeight, by exhaustion -/
def nearS (css : List (List Int)) (w : List Int) (N : Nat) : Nat → Nat → List Int → Int → List Int × Int
  | 0, _, b, m => (b, m)
  | f + 1, k, b, m => if unsS (btS k N) 0 css = [] ∧ distB (btS k N) 0 w < m then nearS css w N f (k + 1) (btS k N) (distB (btS k N) 0 w) else nearS css w N f (k + 1) b m
theorem btS_len (k N : Nat) : (btS k N).length = N := by simp [btS, vN_len]
theorem btS_bits (k N : Nat) : (btS k N).all bitB = true := by
  rw [List.all_eq_true]
  intro x hx
  simp only [btS, vN, List.mem_map] at hx
  obtain ⟨j, _, rfl⟩ := hx
  unfold btJ bitB
  rw [decide_eq_true_eq]
  generalize k / 2 ^ (N - 1 - j) = q
  omega
theorem nearS_ne (css : List (List Int)) (w : List Int) (N : Nat) (hN : 1 ≤ N) : ∀ (f k : Nat) (b : List Int) (m : Int), b ≠ [] → (nearS css w N f k b m).1 ≠ []
  | 0, _, _, _, h => h
  | f + 1, k, b, m, h => by
    rw [nearS]
    split
    · exact nearS_ne css w N hN f _ _ _ (fun e => by have := btS_len k N; rw [e] at this; simp at this; omega)
    · exact nearS_ne css w N hN f _ _ _ h
theorem parE_bt {n : Int} {cs : List AV} {w : List Int} (h : parE n (iss cs) w = 0) (k : Nat) : parE n (iss cs) (btS k n.toNat) = 0 := by
  unfold parE at h ⊢
  rw [btS_len]
  split at h
  · rename_i h3; exact absurd h h3
  · rename_i h3
    rw [if_neg h3]
    split at h
    · cases h
    · rename_i h4
      rw [if_neg (by omega), bitE, if_pos (btS_bits _ _)]
section
variable {C : Ctx} (hC : C.P = Try.prog)
include hC
theorem l71b (N : Nat) (cs : List AV) (w : List Int) (hf : cs.all few1 = true) (hp : parE (N : Int) (iss cs) w = 0) (hn : N ≤ 14) (T : List Int × Int) : ∀ (f k : Nat) (b : List Int) (m : Int), k + f = 2 ^ N → nearS (iss cs) w N f k b m = T →
    Ev C (f71h71_0b N cs w b m k) (f71h71_0bm N cs w b m k) (FinQ 71 (.tup [.list (.ints .i64 T.1), .int .i64 T.2]) none) := by
  have hw : w.length = N := by have := (parE_ok hp hf).1; omega
  have h2 : 2 ^ N ≤ 2 ^ 14 := Nat.pow_le_pow_right (by omega) hn
  have h2' : ((2 : Int)) ^ N ≤ 16384 := by have : ((2 ^ N : Nat) : Int) ≤ 16384 := by omega
                                           simpa using this
  have h0' : (1 : Int) ≤ 2 ^ N := by have : (1 : Int) ≤ ((2 ^ N : Nat) : Int) := by have := Nat.one_le_two_pow (n := N); omega
                                     simpa using this
  intro f
  induction f with
  | zero =>
    intro k b m hk e
    have hk' : ((k : Nat) : Int) = 2 ^ N := by rw [show k = 2 ^ N by omega]; simp
    rw [nearS] at e
    subst e
    exact fin hC G2_ok (f71p8 std N cs w b m k) (by simp [hk']; omega) rfl rfl
  | succ f ih =>
    intro k b m hk e
    have hlt : ((k : Nat) : Int) < 2 ^ N := by
      have : k < 2 ^ N := by omega
      exact_mod_cast this
    have hq := parE_bt hp k
    rw [Int.toNat_natCast] at hq
    have hl := btS_len k N
    have hk6 : (k : Int) ≤ 1000000 := by omega
    rw [nearS] at e
    by_cases h1 : unsS (btS k N) 0 (iss cs) = []
    · by_cases h3 : distB (btS k N) 0 w < m
      · rw [if_pos ⟨h1, h3⟩] at e
        exact go hC G2_ok (f71p6 std N cs w b m k) (by simp [hlt, hq, hf, h1, h3, hl, hw]; omega) (ih (k + 1) _ _ (by omega) e)
      · rw [if_neg (fun h => h3 h.2)] at e
        exact go hC G2_ok (f71p7 std N cs w b m k) (by simp [hlt, hq, hf, h1, h3, hl, hw]; omega) (ih (k + 1) _ _ (by omega) e)
    · rw [if_neg (fun h => h1 h.1)] at e
      have h1' := List.length_pos_iff.2 h1
      exact go hC G2_ok (f71p5 std N cs w b m k) (by simp [hlt, hq, hf, h1, hl, hw]; omega) (ih (k + 1) _ _ (by omega) e)
theorem l71a (N : Nat) (hN : 1 ≤ N) (cs : List AV) (w : List Int) (hf : cs.all few1 = true) (hp : parE (N : Int) (iss cs) w = 0) (hn : N ≤ 14) (T : List Int × Int) : ∀ (f k : Nat) (m : Int), k + f = 2 ^ N → nearS (iss cs) w N f k [] m = T →
    Ev C (f71h71_0a N cs w m k) (f71h71_0am N cs w m k) (FinQ 71 (if T.1 = [] then .tup [.nils, .int .i64 T.2] else .tup [.list (.ints .i64 T.1), .int .i64 T.2]) none) := by
  have hw : w.length = N := by have := (parE_ok hp hf).1; omega
  have h2 : 2 ^ N ≤ 2 ^ 14 := Nat.pow_le_pow_right (by omega) hn
  have h2' : ((2 : Int)) ^ N ≤ 16384 := by have : ((2 ^ N : Nat) : Int) ≤ 16384 := by omega
                                           simpa using this
  have h0' : (1 : Int) ≤ 2 ^ N := by have : (1 : Int) ≤ ((2 ^ N : Nat) : Int) := by have := Nat.one_le_two_pow (n := N); omega
                                     simpa using this
  intro f
  induction f with
  | zero =>
    intro k m hk e
    have hk' : ((k : Nat) : Int) = 2 ^ N := by rw [show k = 2 ^ N by omega]; simp
    rw [nearS] at e
    subst e
    exact fin hC G2_ok (f71p4 std N cs w m k) (by simp [hk']; omega) (by simp) rfl
  | succ f ih =>
    intro k m hk e
    have hlt : ((k : Nat) : Int) < 2 ^ N := by
      have : k < 2 ^ N := by omega
      exact_mod_cast this
    have hq := parE_bt hp k
    rw [Int.toNat_natCast] at hq
    have hl := btS_len k N
    have hk6 : (k : Int) ≤ 1000000 := by omega
    rw [nearS] at e
    by_cases h1 : unsS (btS k N) 0 (iss cs) = []
    · by_cases h3 : distB (btS k N) 0 w < m
      · rw [if_pos ⟨h1, h3⟩] at e
        have hne := nearS_ne (iss cs) w N hN f (k + 1) (btS k N) (distB (btS k N) 0 w) (fun e => by rw [e] at hl; simp at hl; omega)
        rw [e] at hne
        rw [if_neg hne]
        exact go hC G2_ok (f71p2 std N cs w m k) (by simp [hlt, hq, hf, h1, h3, hl, hw]; omega) (l71b hC N cs w hf hp hn T f (k + 1) _ _ (by omega) e)
      · rw [if_neg (fun h => h3 h.2)] at e
        exact go hC G2_ok (f71p3 std N cs w m k) (by simp [hlt, hq, hf, h1, h3, hl, hw]; omega) (ih (k + 1) _ (by omega) e)
    · rw [if_neg (fun h => h1 h.1)] at e
      have h1' := List.length_pos_iff.2 h1
      exact go hC G2_ok (f71p1 std N cs w m k) (by simp [hlt, hq, hf, h1]; omega) (ih (k + 1) _ (by omega) e)
end
theorem near71_ok (n : Int) (cs : List AV) (w : List Int) (hn : n ≤ 14) (hf : cs.all few1 = true) (hp : parE n (iss cs) w = 0) : Pure Try.prog 71 [.agg (.gen [.int .i64 n, .list (.big (.ints .i64) cs)]), .list (.ints .i64 w)]
    (.tup [.list (.ints .i64 (nearS (iss cs) w n.toNat (2 ^ n.toNat) 0 [] (n + 1)).1), .int .i64 (nearS (iss cs) w n.toNat (2 ^ n.toNat) 0 [] (n + 1)).2]) none := by
  obtain ⟨h1, h2, h3, h4, _⟩ := parE_ok hp hf
  obtain ⟨N, rfl⟩ := Int.eq_ofNat_of_zero_le (show 0 ≤ n by omega)
  rw [Int.toNat_natCast]
  have main := start (f71e_at N cs w) fun C hC => go hC G2_ok (f71p0 std N cs w) (by simp; omega) (l71a hC N (by omega) cs w hf hp (by omega) _ (2 ^ N) 0 ((N : Int) + 1) (by omega) rfl)
  by_cases he : (nearS (iss cs) w N (2 ^ N) 0 [] (N + 1)).1 = []
  · rw [if_pos he] at main
    exact wk_tup main ⟨.nil _ (by simp [Row.elems, he]), .same _, trivial⟩
  · rw [if_neg he] at main
    exact main
def minS (css : List (List Int)) (N : Nat) : Nat → Nat → Int → Int
  | 0, _, m => m
  | f + 1, k, m => if unsS (btS k N) 0 css = [] ∧ (m < 0 ∨ distB (btS k N) 0 (List.replicate N 0) < m) then minS css N f (k + 1) (distB (btS k N) 0 (List.replicate N 0)) else minS css N f (k + 1) m
theorem l70 {C : Ctx} (hC : C.P = Try.prog) (N : Nat) (cs : List AV) (hf : cs.all few1 = true) (hp : parE (N : Int) (iss cs) (btS 0 N) = 0) (hn : N ≤ 14) (T : Int) : ∀ (f k : Nat) (m : Int), k + f = 2 ^ N → minS (iss cs) N f k m = T →
    Ev C (f70h70_0a N cs (List.replicate N 0) k m) (f70h70_0am N cs (List.replicate N 0) k m) (FinQ 70 (.int .i64 T) none) := by
  have h2 : 2 ^ N ≤ 2 ^ 14 := Nat.pow_le_pow_right (by omega) hn
  have h2' : ((2 : Int)) ^ N ≤ 16384 := by have : ((2 ^ N : Nat) : Int) ≤ 16384 := by omega
                                           simpa using this
  have h0' : (1 : Int) ≤ 2 ^ N := by have : (1 : Int) ≤ ((2 ^ N : Nat) : Int) := by have := Nat.one_le_two_pow (n := N); omega
                                     simpa using this
  intro f
  induction f with
  | zero =>
    intro k m hk e
    have hk' : ((k : Nat) : Int) = 2 ^ N := by rw [show k = 2 ^ N by omega]; simp
    rw [minS] at e
    subst e
    exact fin hC G2_ok (f70p5 std N cs _ k m) (by simp [hk']; omega) rfl rfl
  | succ f ih =>
    intro k m hk e
    have hlt : ((k : Nat) : Int) < 2 ^ N := by
      have : k < 2 ^ N := by omega
      exact_mod_cast this
    have hq := parE_bt hp k
    rw [Int.toNat_natCast] at hq
    have hl := btS_len k N
    have hk6 : (k : Int) ≤ 1000000 := by omega
    rw [minS] at e
    by_cases h1 : unsS (btS k N) 0 (iss cs) = []
    · by_cases h3 : m < 0
      · rw [if_pos ⟨h1, .inl h3⟩] at e
        exact go hC G2_ok (f70p2 std N cs _ k m) (by simp [hlt, hq, hf, h1, h3, hl]; omega) (ih (k + 1) _ (by omega) e)
      · by_cases h4 : distB (btS k N) 0 (List.replicate N 0) < m
        · rw [if_pos ⟨h1, .inr h4⟩] at e
          exact go hC G2_ok (f70p3 std N cs _ k m) (by simp [hlt, hq, hf, h1, h3, h4, hl]; omega) (ih (k + 1) _ (by omega) e)
        · rw [if_neg (fun h => h.2.elim h3 h4)] at e
          exact go hC G2_ok (f70p4 std N cs _ k m) (by simp [hlt, hq, hf, h1, h3, h4, hl]; omega) (ih (k + 1) _ (by omega) e)
    · rw [if_neg (fun h => h1 h.1)] at e
      have h1' := List.length_pos_iff.2 h1
      exact go hC G2_ok (f70p1 std N cs _ k m) (by simp [hlt, hq, hf, h1]; omega) (ih (k + 1) _ (by omega) e)
theorem min70_ok (n : Int) (cs : List AV) (hn : n ≤ 14) (hf : cs.all few1 = true) (hp : parE n (iss cs) (btS 0 n.toNat) = 0) : Pure Try.prog 70 [.agg (.gen [.int .i64 n, .list (.big (.ints .i64) cs)])] (.int .i64 (minS (iss cs) n.toNat (2 ^ n.toNat - 1) 1 (-1))) none := by
  obtain ⟨h1, h2, h3, h4, _⟩ := parE_ok hp hf
  obtain ⟨N, rfl⟩ := Int.eq_ofNat_of_zero_le (show 0 ≤ n by omega)
  rw [Int.toNat_natCast] at hp ⊢
  exact start (f70e_at N cs) fun C hC => go hC G2_ok (f70p0 std N cs) (by simp; omega) (l70 hC N cs hf hp (by omega) _ (2 ^ N - 1) 1 (-1) (by have := Nat.one_le_two_pow (n := N); omega) rfl)
def nearR (n : Int) (css : List (List Int)) (w : List Int) : List Int × Int := nearS css w n.toNat (2 ^ n.toNat) 0 [] (n + 1)
def minR (n : Int) (css : List (List Int)) : Int := minS css n.toNat (2 ^ n.toNat - 1) 1 (-1)
def k71 : Ctr := ⟨71, 0, fun _ a => match a with | [.agg (.gen [.int .i64 n, .list (.big (.ints .i64) cs)]), .list (.ints .i64 w)] => some (decide (n ≤ 14 ∧ cs.all few1 = true ∧ parE n (iss cs) w = 0), .tup [.list (.ints .i64 (nearR n (iss cs) w).1), .int .i64 (nearR n (iss cs) w).2], none) | _ => none⟩
theorem k71_ok : k71.OK Try.prog := fun pa args r fr h => by
  simp only [k71] at h
  split at h
  · simp only [Option.some.injEq, Prod.mk.injEq, decide_eq_true_eq] at h
    obtain ⟨h0, rfl, rfl⟩ := h
    exact near71_ok _ _ _ h0.1 h0.2.1 h0.2.2
  · cases h
def k70 : Ctr := ⟨70, 0, fun _ a => match a with | [.agg (.gen [.int .i64 n, .list (.big (.ints .i64) cs)])] => some (decide (n ≤ 14 ∧ cs.all few1 = true ∧ parE n (iss cs) (btS 0 n.toNat) = 0), .int .i64 (minR n (iss cs)), none) | _ => none⟩
theorem k70_ok : k70.OK Try.prog := fun pa args r fr h => by
  simp only [k70] at h
  split at h
  · simp only [Option.some.injEq, Prod.mk.injEq, decide_eq_true_eq] at h
    obtain ⟨h0, rfl, rfl⟩ := h
    exact min70_ok _ _ h0.1 h0.2.1 h0.2.2
  · cases h
def G3 : List Ctr := [k71, k70] ++ G2
theorem G3_ok : CtrsOK Try.prog G3 := ⟨k71_ok, ⟨k70_ok, G2_ok⟩⟩
end Go.Proofs.Ytimmgjppippdiaa
