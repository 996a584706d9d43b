/- Nearest and MinimumWeight of the program. No condition. -/
import Derived.Test.YtimmgjppippdiaaQe
import Derived.Test.YtimmgjppippdiaaV1
namespace Go.Proofs.Ytimmgjppippdiaa
theorem std_and1 (m : Nat) (hm : m < 4294967296) : std.bits .and .i64 (m : Int) 1 = ((m % 2 : Nat) : Int) := by
  have h1 : (BitVec.ofInt 64 (m : Int)).toNat = m := by
    rw [BitVec.ofInt_natCast, BitVec.toNat_ofNat]; exact Nat.mod_eq_of_lt (by omega)
  show IntKind.i64.wrap ((BitVec.ofInt 64 (m : Int) &&& BitVec.ofInt 64 1).toNat : Int) = _
  rw [BitVec.toNat_and, h1, show (BitVec.ofInt 64 1).toNat = 1 from rfl, Nat.and_one_is_mod]
  generalize hq : m % 2 = q
  have : q < 2 := by omega
  have : q = 0 ∨ q = 1 := by omega
  rcases this with rfl | rfl <;> rfl
theorem std_shr (m p : Nat) : std.shr (m : Int) (p : Int) = ((m / 2 ^ p : Nat) : Int) := by
  rw [s_shr, Int.toNat_natCast, show ((2 : Int)) ^ p = ((2 ^ p : Nat) : Int) by simp]
  exact (Int.ofNat_fdiv _ _).symm
/-- the word filled bit by bit -/
def fillW (k N p : Nat) : List Int := vN N fun j => if j < p then btJ k N j else 0
theorem fill0 (k N : Nat) : List.replicate N 0 = fillW k N 0 := by
  apply List.ext_getElem (by simp [fillW, vN])
  intro j h1 h2
  simp [fillW, vN]
theorem fillN (k N : Nat) : fillW k N N = btS k N := vN_congr (fun j hj => by rw [if_pos hj])
theorem fill_set (k N p : Nat) (hk : k < 1000000) (hp : p < N) : (fillW k N p).set p (std.bits .and .i64 (std.shr (k : Int) (((N - 1 - p : Nat)) : Int)) 1) = fillW k N (p + 1) := by
  rw [std_shr, std_and1 _ (by have := Nat.div_le_self k (2 ^ (N - 1 - p)); omega), fillW, fillW, vN_set]
  refine vN_congr fun j hj => ?_
  by_cases e : j = p
  · rw [if_pos e, if_pos (by omega), btJ, e]
  · rw [if_neg e]
    by_cases h2 : j < p
    · rw [if_pos h2, if_pos (by omega)]
    · rw [if_neg h2, if_neg (by omega)]
section
variable {C : Ctx} (hC : C.P = Try.prog)
include hC
theorem fill68a {Q : List AFrame → AHeap → Prop} (N : Nat) (hN : N ≤ 14) (cs : List AV) (w : List Int) (n0 n1 n2 : Int) (b3 : Bool) (n4 n5 n6 n7 : Int) (b8 : Bool) (n9 : Int) (k : Nat) (hk : k < 1000000)
    (hq : Ev C (f68h156_1a N cs w n0 n1 n2 b3 n4 n5 n6 n7 b8 n9 k N (btS k N) N) (f68h156_1am N cs w n0 n1 n2 b3 n4 n5 n6 n7 b8 n9 k N (btS k N) N) Q) : ∀ (d p : Nat), p + d = N →
    Ev C (f68h156_1a N cs w n0 n1 n2 b3 n4 n5 n6 n7 b8 n9 k N (fillW k N p) p) (f68h156_1am N cs w n0 n1 n2 b3 n4 n5 n6 n7 b8 n9 k N (fillW k N p) p) Q := by
  intro d
  induction d with
  | zero =>
    intro p hp
    rw [show p = N by omega, fillN]
    exact hq
  | succ d ih =>
    intro p hp
    have next := ih (p + 1) (by omega)
    rw [← fill_set k N p hk (by omega)] at next
    have e1 : ((N : Int) - 1 - p) = ((N - 1 - p : Nat) : Int) := by omega
    refine go hC G3_ok (f68p4 std N cs w n0 n1 n2 b3 n4 n5 n6 n7 b8 n9 k N (fillW k N p) p) ?_ ?_
    · simp [fillW, vN_len]
      omega
    · simp only [s_sub, s_nat, s_set, s_add, e1, Int.toNat_natCast]
      exact next
theorem fill68b {Q : List AFrame → AHeap → Prop} (N : Nat) (hN : N ≤ 14) (cs : List AV) (w : List Int) (n0 n1 n2 : Int) (b3 : Bool) (n4 n6 n7 : Int) (b8 : Bool) (n9 : Int) (k : Nat) (hk : k < 1000000) (n15 : Int) (l16 : List Int)
    (hq : Ev C (f68h156_1b N cs w n0 n1 n2 b3 n4 n6 n7 b8 n9 k n15 l16 N (btS k N) N) (f68h156_1bm N cs w n0 n1 n2 b3 n4 n6 n7 b8 n9 k n15 l16 N (btS k N) N) Q) : ∀ (d p : Nat), p + d = N →
    Ev C (f68h156_1b N cs w n0 n1 n2 b3 n4 n6 n7 b8 n9 k n15 l16 N (fillW k N p) p) (f68h156_1bm N cs w n0 n1 n2 b3 n4 n6 n7 b8 n9 k n15 l16 N (fillW k N p) p) Q := by
  intro d
  induction d with
  | zero =>
    intro p hp
    rw [show p = N by omega, fillN]
    exact hq
  | succ d ih =>
    intro p hp
    have next := ih (p + 1) (by omega)
    rw [← fill_set k N p hk (by omega)] at next
    have e1 : ((N : Int) - 1 - p) = ((N - 1 - p : Nat) : Int) := by omega
    refine go hC G3_ok (f68p10 std N cs w n0 n1 n2 b3 n4 n6 n7 b8 n9 k n15 l16 N (fillW k N p) p) ?_ ?_
    · simp [fillW, vN_len]
      omega
    · simp only [s_sub, s_nat, s_set, s_add, e1, Int.toNat_natCast]
      exact next
theorem l68b (N : Nat) (hN : 1 ≤ N ∧ N ≤ 14) (cs : List AV) (w : List Int) (hf : cs.all few1 = true) (hp : parE (N : Int) (iss cs) w = 0) (n1 n2 : Int) (b3 : Bool) (n4 n6 n7 : Int) (b8 : Bool) (n9 : Int) (M : Nat) (hM : M ≤ 16384) (T : List Int × Int) : ∀ (f k : Nat) (b : List Int) (m : Int), k + f = M → nearS (iss cs) w N f k b m = T →
    Ev C (f68h156_0b N cs w M n1 n2 b3 n4 n6 n7 b8 n9 k m b) (f68h156_0bm N cs w M n1 n2 b3 n4 n6 n7 b8 n9 k m b) (FinQ 68 (.tup [.row 0 0, .int .i64 T.2, .int .i64 0]) (some ⟨3, 1, .ints .i64 T.1⟩)) := by
  obtain ⟨hw, hwb, _⟩ := parE_ok hp hf
  have hw : w.length = N := by omega
  intro f
  induction f with
  | zero =>
    intro k b m hk e
    rw [nearS] at e
    subst e
    exact fin hC G3_ok (f68p9 std N cs w M n1 n2 b3 n4 n6 n7 b8 n9 k m b) (by simp only [s_lt]; simp; omega) rfl rfl
  | succ f ih =>
    intro k b m hk e
    have hlt : k < M := by omega
    have hq := parE_bt hp k
    rw [Int.toNat_natCast] at hq
    have hl := btS_len k N
    have hb := btS_bits k N
    have hd : distB w 0 (btS k N) = distB (btS k N) 0 w := dist_comm (by omega)
    rw [nearS] at e
    refine go hC G3_ok (f68p8 std N cs w M n1 n2 b3 n4 n6 n7 b8 n9 k m b) (by simp only [s_lt]; simp; omega) ?_
    have main : Ev C (f68h156_1b N cs w M n1 n2 b3 n4 n6 n7 b8 n9 k m b N (btS k N) N) (f68h156_1bm N cs w M n1 n2 b3 n4 n6 n7 b8 n9 k m b N (btS k N) N) (FinQ 68 (.tup [.row 0 0, .int .i64 T.2, .int .i64 0]) (some ⟨3, 1, .ints .i64 T.1⟩)) := by
      by_cases h1 : unsS (btS k N) 0 (iss cs) = []
      · by_cases h3 : distB (btS k N) 0 w < m
        · rw [if_pos ⟨h1, h3⟩, ← hd] at e
          exact go hC G3_ok (f68p11 std N cs w M n1 n2 b3 n4 n6 n7 b8 n9 k m b N (btS k N) N) (by rw [hq, hf, hb, hwb, hd]; simp [h1, h3, hl, hw]; omega) (ih (k + 1) _ _ (by omega) e)
        · rw [if_neg (fun h => h3 h.2)] at e
          exact go hC G3_ok (f68p12 std N cs w M n1 n2 b3 n4 n6 n7 b8 n9 k m b N (btS k N) N) (by rw [hq, hf, hb, hwb, hd]; simp [h1, h3, hl, hw]; omega) (ih (k + 1) _ _ (by omega) e)
      · rw [if_neg (fun h => h1 h.1)] at e
        have h1' := List.length_pos_iff.2 h1
        exact go hC G3_ok (f68p13 std N cs w M n1 n2 b3 n4 n6 n7 b8 n9 k m b N (btS k N) N) (by rw [hq, hf]; simp [h1]; omega) (ih (k + 1) _ _ (by omega) e)
    have := fill68b hC N hN.2 cs w M n1 n2 b3 n4 n6 n7 b8 n9 k (by omega) m b main N 0 (by omega)
    rw [← fill0] at this
    simp only [s_rep, s_nat, s_len, s_int, Int.toNat_natCast, List.length_replicate]
    exact this
theorem l68a (N : Nat) (hN : 1 ≤ N ∧ N ≤ 14) (cs : List AV) (w : List Int) (hf : cs.all few1 = true) (hp : parE (N : Int) (iss cs) w = 0) (n1 n2 : Int) (b3 : Bool) (n4 n6 n7 : Int) (b8 : Bool) (n9 : Int) (M : Nat) (hM : M ≤ 16384) (T : List Int × Int) : ∀ (f k : Nat) (m : Int), k + f = M → nearS (iss cs) w N f k [] m = T →
    Ev C (f68h156_0a N cs w M n1 n2 b3 n4 m n6 n7 b8 n9 k) (f68h156_0am N cs w M n1 n2 b3 n4 m n6 n7 b8 n9 k) (if T.1 = [] then FinQ 68 (.tup [.nils, .int .i64 T.2, .int .i64 0]) none else FinQ 68 (.tup [.row 0 0, .int .i64 T.2, .int .i64 0]) (some ⟨3, 1, .ints .i64 T.1⟩)) := by
  obtain ⟨hw, hwb, _⟩ := parE_ok hp hf
  have hw : w.length = N := by omega
  intro f
  induction f with
  | zero =>
    intro k m hk e
    rw [nearS] at e
    subst e
    exact fin hC G3_ok (f68p3 std N cs w M n1 n2 b3 n4 m n6 n7 b8 n9 k) (by simp only [s_lt]; simp; omega) (by simp) rfl
  | succ f ih =>
    intro k m hk e
    have hlt : k < M := by omega
    have hq := parE_bt hp k
    rw [Int.toNat_natCast] at hq
    have hl := btS_len k N
    have hb := btS_bits k N
    have hd : distB w 0 (btS k N) = distB (btS k N) 0 w := dist_comm (by omega)
    rw [nearS] at e
    refine go hC G3_ok (f68p2 std N cs w M n1 n2 b3 n4 m n6 n7 b8 n9 k) (by simp only [s_lt]; simp; omega) ?_
    have main : Ev C (f68h156_1a N cs w M n1 n2 b3 n4 m n6 n7 b8 n9 k N (btS k N) N) (f68h156_1am N cs w M n1 n2 b3 n4 m n6 n7 b8 n9 k N (btS k N) N) (if T.1 = [] then FinQ 68 (.tup [.nils, .int .i64 T.2, .int .i64 0]) none else FinQ 68 (.tup [.row 0 0, .int .i64 T.2, .int .i64 0]) (some ⟨3, 1, .ints .i64 T.1⟩)) := by
      by_cases h1 : unsS (btS k N) 0 (iss cs) = []
      · by_cases h3 : distB (btS k N) 0 w < m
        · rw [if_pos ⟨h1, h3⟩] at e
          have hne := nearS_ne (iss cs) w N hN.1 f (k + 1) (btS k N) (distB (btS k N) 0 w) (fun e => by rw [e] at hl; simp at hl; omega)
          rw [e] at hne
          rw [if_neg hne]
          rw [← hd] at e
          exact go hC G3_ok (f68p5 std N cs w M n1 n2 b3 n4 m n6 n7 b8 n9 k N (btS k N) N) (by rw [hq, hf, hb, hwb, hd]; simp [h1, h3, hl, hw]; omega) (l68b hC N hN cs w hf hp n1 n2 b3 n4 n6 n7 b8 n9 M hM T f (k + 1) _ _ (by omega) e)
        · rw [if_neg (fun h => h3 h.2)] at e
          exact go hC G3_ok (f68p6 std N cs w M n1 n2 b3 n4 m n6 n7 b8 n9 k N (btS k N) N) (by rw [hq, hf, hb, hwb, hd]; simp [h1, h3, hl, hw]; omega) (ih (k + 1) _ (by omega) e)
      · rw [if_neg (fun h => h1 h.1)] at e
        have h1' := List.length_pos_iff.2 h1
        exact go hC G3_ok (f68p7 std N cs w M n1 n2 b3 n4 m n6 n7 b8 n9 k N (btS k N) N) (by rw [hq, hf]; simp [h1]; omega) (ih (k + 1) _ (by omega) e)
    have := fill68a hC N hN.2 cs w M n1 n2 b3 n4 m n6 n7 b8 n9 k (by omega) main N 0 (by omega)
    rw [← fill0] at this
    simp only [s_rep, s_nat, s_len, s_int, Int.toNat_natCast, List.length_replicate]
    exact this
end
/-- what Nearest hands back -/
def nr68 (n : Int) (css : List (List Int)) (w : List Int) : List Int × Int × Int :=
  if firstE [parE n css w, unlessE (decide (n ≤ 14)) 8] = 0 then ((nearS css w n.toNat (2 ^ n.toNat) 0 [] (n + 1)).1, (nearS css w n.toNat (2 ^ n.toNat) 0 [] (n + 1)).2, 0) else ([], 0, firstE [parE n css w, unlessE (decide (n ≤ 14)) 8])
theorem near68_ok (n : Int) (cs : List AV) (w : List Int) (hc : cs.length ≤ 1000000) (hf : cs.all few1 = true) (hw : w.length ≤ 1000000) : Pure Try.prog 68 [.agg (.gen [.int .i64 n, .list (.big (.ints .i64) cs)]), .list (.ints .i64 w)]
    (.tup [.list (.ints .i64 (nr68 n (iss cs) w).1), .int .i64 (nr68 n (iss cs) w).2.1, .int .i64 (nr68 n (iss cs) w).2.2]) none := by
  by_cases h0 : firstE [parE n (iss cs) w, unlessE (decide (n ≤ 14)) 8] = 0
  · have hp : parE n (iss cs) w = 0 := by
      by_cases h : parE n (iss cs) w = 0
      · exact h
      · simp [firstE, h] at h0
    have hn : n ≤ 14 := by
      by_cases h : n ≤ 14
      · exact h
      · simp [firstE, hp, unlessE, h] at h0
    obtain ⟨h1, h2, h3, h4, _⟩ := parE_ok hp hf
    obtain ⟨N, rfl⟩ := Int.eq_ofNat_of_zero_le (show 0 ≤ n by omega)
    have h2' : 2 ^ N ≤ 2 ^ 14 := Nat.pow_le_pow_right (by omega) (by omega)
    have e : nr68 (N : Int) (iss cs) w = ((nearS (iss cs) w N (2 ^ N) 0 [] ((N : Int) + 1)).1, (nearS (iss cs) w N (2 ^ N) 0 [] ((N : Int) + 1)).2, 0) := by
      unfold nr68; rw [if_pos h0]; rfl
    rw [e]
    obtain ⟨M, hM⟩ : ∃ M, M = 2 ^ N := ⟨_, rfl⟩
    have es : std.shl 1 (N : Int) = (M : Int) := by rw [s_shl, hM]; simp
    rw [← hM] at h2' ⊢
    have main := fun (C : Ctx) (hC : C.P = Try.prog) n1 n2 b3 n4 n6 n7 b8 n9 => l68a hC N (by omega) cs w hf hp n1 n2 b3 n4 n6 n7 b8 n9 M (by omega) _ M 0 ((N : Int) + 1) (by omega) rfl
    by_cases he : (nearS (iss cs) w N M 0 [] ((N : Int) + 1)).1 = []
    · rw [if_pos he] at main
      refine wk_tup (xs := [.nils, .int .i64 (nearS (iss cs) w N M 0 [] ((N : Int) + 1)).2, .int .i64 0]) (start (f68e_at N cs w) fun C hC => go hC G3_ok (f68p1 std N cs w) ?_ ?_) ⟨.nil _ (by simp [Row.elems, he]), .same _, .same _, trivial⟩
      · rw [h0, hf, es]; simp [hc, hw, AV.bx, flatLen]; omega
      · rw [es]; exact main C hC _ _ _ _ _ _ _ _
    · rw [if_neg he] at main
      refine frz_tup (e := 3) (sz := 0) (r := .ints .i64 (nearS (iss cs) w N M 0 [] ((N : Int) + 1)).1) (xs := [.row 0 0, .int .i64 (nearS (iss cs) w N M 0 [] ((N : Int) + 1)).2, .int .i64 0]) (start (f68e_at N cs w) fun C hC => go hC G3_ok (f68p1 std N cs w) ?_ ?_) rfl ⟨.row, .same _ rfl, .same _ rfl, trivial⟩
      · rw [h0, hf, es]; simp [hc, hw, AV.bx, flatLen]; omega
      · rw [es]; exact main C hC _ _ _ _ _ _ _ _
  · have e : nr68 n (iss cs) w = ([], 0, firstE [parE n (iss cs) w, unlessE (decide (n ≤ 14)) 8]) := by unfold nr68; rw [if_neg h0]
    rw [e]
    exact wk_tup (xs := [.nils, .int .i64 0, .int .i64 (firstE [parE n (iss cs) w, unlessE (decide (n ≤ 14)) 8])]) (start (f68e_at n cs w) fun C hC => fin hC G3_ok (f68p0 std n cs w) (by rw [hf]; simp [hc, hw, AV.bx, flatLen, h0]) rfl rfl) ⟨.nil _ rfl, .same _, .same _, trivial⟩
/-! ### The least weight -/
section
variable {C : Ctx} (hC : C.P = Try.prog)
include hC
theorem fill69 {Q : List AFrame → AHeap → Prop} (N : Nat) (hN : N ≤ 14) (cs : List AV) (n0 n1 n2 : Int) (b3 : Bool) (n4 n5 : Int) (l6 : List Int) (n7 n8 : Int) (b9 : Bool) (n10 : Int) (k : Nat) (hk : k < 1000000)
    (hq : Ev C (f69h156_1a N cs n0 n1 n2 b3 n4 n5 l6 n7 n8 b9 n10 k N (btS k N) N) (f69h156_1am N cs n0 n1 n2 b3 n4 n5 l6 n7 n8 b9 n10 k N (btS k N) N) Q) : ∀ (d p : Nat), p + d = N →
    Ev C (f69h156_1a N cs n0 n1 n2 b3 n4 n5 l6 n7 n8 b9 n10 k N (fillW k N p) p) (f69h156_1am N cs n0 n1 n2 b3 n4 n5 l6 n7 n8 b9 n10 k N (fillW k N p) p) Q := by
  intro d
  induction d with
  | zero =>
    intro p hp
    rw [show p = N by omega, fillN]
    exact hq
  | succ d ih =>
    intro p hp
    have next := ih (p + 1) (by omega)
    rw [← fill_set k N p hk (by omega)] at next
    have e1 : ((N : Int) - 1 - p) = ((N - 1 - p : Nat) : Int) := by omega
    refine go hC G3_ok (f69p5 std N cs n0 n1 n2 b3 n4 n5 l6 n7 n8 b9 n10 k N (fillW k N p) p) ?_ ?_
    · simp [fillW, vN_len]
      omega
    · simp only [s_sub, s_nat, s_set, s_add, e1, Int.toNat_natCast]
      exact next
def mwE (N : Nat) (m : Int) : AV := if (N : Int) < m then .tup [.int .i64 0, .int .i64 12] else .tup [.int .i64 m, .int .i64 0]
theorem l69 (N : Nat) (hN : 1 ≤ N ∧ N ≤ 14) (cs : List AV) (hf : cs.all few1 = true) (hp : ∀ k, parE (N : Int) (iss cs) (btS k N) = 0) (n1 n2 : Int) (b3 : Bool) (n4 n7 n8 : Int) (b9 : Bool) (n10 : Int) (M : Nat) (hM : M ≤ 16384) (T : Int) : ∀ (f k : Nat) (m : Int), k + f = M → minC (iss cs) N f k m = T →
    Ev C (f69h156_0a N cs M n1 n2 b3 n4 m (List.replicate N 0) n7 n8 b9 n10 k) (f69h156_0am N cs M n1 n2 b3 n4 m (List.replicate N 0) n7 n8 b9 n10 k) (FinQ 69 (mwE N T) none) := by
  intro f
  induction f with
  | zero =>
    intro k m hk e
    rw [minC] at e
    subst e
    by_cases h : (N : Int) < m
    · exact fin hC G3_ok (f69p3 std N cs M n1 n2 b3 n4 m (List.replicate N 0) n7 n8 b9 n10 k) (by simp only [s_lt]; simp [h]; omega) (by rw [mwE, if_pos h]) rfl
    · exact fin hC G3_ok (f69p4 std N cs M n1 n2 b3 n4 m (List.replicate N 0) n7 n8 b9 n10 k) (by simp only [s_lt]; simp; omega) (by rw [mwE, if_neg h]) rfl
  | succ f ih =>
    intro k m hk e
    have hlt : k < M := by omega
    have hq := hp k
    have hl := btS_len k N
    have hb := btS_bits k N
    have hz : (List.replicate N (0 : Int)).all bitB = true := by simp [bitB]
    rw [minC] at e
    refine go hC G3_ok (f69p2 std N cs M n1 n2 b3 n4 m (List.replicate N 0) n7 n8 b9 n10 k) (by simp only [s_lt]; simp; omega) ?_
    have main : Ev C (f69h156_1a N cs M n1 n2 b3 n4 m (List.replicate N 0) n7 n8 b9 n10 k N (btS k N) N) (f69h156_1am N cs M n1 n2 b3 n4 m (List.replicate N 0) n7 n8 b9 n10 k N (btS k N) N) (FinQ 69 (mwE N T) none) := by
      by_cases h1 : unsS (btS k N) 0 (iss cs) = []
      · by_cases h3 : 0 < distB (List.replicate N 0) 0 (btS k N)
        · rw [if_pos ⟨h1, h3⟩] at e
          exact go hC G3_ok (f69p6 std N cs M n1 n2 b3 n4 m (List.replicate N 0) n7 n8 b9 n10 k N (btS k N) N) (by rw [hq, hf, hb, hz]; simp [h1, h3, hl]; omega) (ih (k + 1) _ (by omega) e)
        · rw [if_neg (fun h => h3 h.2)] at e
          exact go hC G3_ok (f69p7 std N cs M n1 n2 b3 n4 m (List.replicate N 0) n7 n8 b9 n10 k N (btS k N) N) (by rw [hq, hf, hb, hz]; simp [h1, hl]; omega) (ih (k + 1) _ (by omega) e)
      · rw [if_neg (fun h => h1 h.1)] at e
        have h1' := List.length_pos_iff.2 h1
        exact go hC G3_ok (f69p8 std N cs M n1 n2 b3 n4 m (List.replicate N 0) n7 n8 b9 n10 k N (btS k N) N) (by rw [hq, hf]; simp [h1]; omega) (ih (k + 1) _ (by omega) e)
    have := fill69 hC N hN.2 cs M n1 n2 b3 n4 m (List.replicate N 0) n7 n8 b9 n10 k (by omega) main N 0 (by omega)
    rw [← fill0] at this
    simp only [s_rep, s_nat, s_len, s_int, Int.toNat_natCast, List.length_replicate]
    exact this
end
theorem parE_of {n : Int} {css : List (List Int)} (h : (chkE n css).2 = 0) (h0 : 0 ≤ n) (k : Nat) : parE n css (btS k n.toNat) = 0 := by
  unfold parE
  rw [if_neg (by simp [h]), btS_len, if_neg (by omega), bitE, if_pos (btS_bits _ _)]
theorem chkE_rng {n : Int} {css : List (List Int)} (h : (chkE n css).2 = 0) : 1 ≤ n ∧ n ≤ 24 := by
  unfold chkE at h
  split at h
  · cases h
  · rename_i h1; exact Decidable.not_not.1 h1
/-- what MinimumWeight hands back -/
def mw69 (n : Int) (css : List (List Int)) : Int × Int :=
  if firstE [(chkE n css).2, unlessE (decide (n ≤ 14)) 8] = 0 then (if n < minC css n.toNat (2 ^ n.toNat) 0 (n + 1) then (0, 12) else (minC css n.toNat (2 ^ n.toNat) 0 (n + 1), 0)) else (0, firstE [(chkE n css).2, unlessE (decide (n ≤ 14)) 8])
theorem min69_ok (n : Int) (cs : List AV) (hc : cs.length ≤ 1000000) (hf : cs.all few1 = true) : Pure Try.prog 69 [.agg (.gen [.int .i64 n, .list (.big (.ints .i64) cs)])]
    (.tup [.int .i64 (mw69 n (iss cs)).1, .int .i64 (mw69 n (iss cs)).2]) none := by
  by_cases h0 : firstE [(chkE n (iss cs)).2, unlessE (decide (n ≤ 14)) 8] = 0
  · have hp : (chkE n (iss cs)).2 = 0 := by
      by_cases h : (chkE n (iss cs)).2 = 0
      · exact h
      · simp [firstE, h] at h0
    have hn : n ≤ 14 := by
      by_cases h : n ≤ 14
      · exact h
      · simp [firstE, hp, unlessE, h] at h0
    have h3 := chkE_rng hp
    obtain ⟨N, rfl⟩ := Int.eq_ofNat_of_zero_le (show 0 ≤ n by omega)
    have h2' : 2 ^ N ≤ 2 ^ 14 := Nat.pow_le_pow_right (by omega) (by omega)
    have hpk : ∀ k, parE (N : Int) (iss cs) (btS k N) = 0 := fun k => by
      have := parE_of hp (by omega) k
      rwa [Int.toNat_natCast] at this
    obtain ⟨M, hM⟩ : ∃ M, M = 2 ^ N := ⟨_, rfl⟩
    have es : std.shl 1 (N : Int) = (M : Int) := by rw [s_shl, hM]; simp
    have e : (.tup [.int .i64 (mw69 (N : Int) (iss cs)).1, .int .i64 (mw69 (N : Int) (iss cs)).2] : AV) = mwE N (minC (iss cs) N M 0 ((N : Int) + 1)) := by
      unfold mw69 mwE; rw [if_pos h0, hM, Int.toNat_natCast]; split <;> rfl
    rw [e]
    rw [← hM] at h2'
    refine start (f69e_at N cs) fun C hC => go hC G3_ok (f69p1 std N cs) ?_ ?_
    · rw [h0, hf, es]; simp [hc, AV.bx, flatLen]; omega
    · rw [es]
      simp only [s_rep, s_nat, Int.toNat_natCast]
      exact l69 hC N (by omega) cs hf hpk _ _ _ _ _ _ _ _ M (by omega) _ M 0 ((N : Int) + 1) (by omega) rfl
  · have e : mw69 n (iss cs) = (0, firstE [(chkE n (iss cs)).2, unlessE (decide (n ≤ 14)) 8]) := by unfold mw69; rw [if_neg h0]
    rw [e]
    exact start (f69e_at n cs) fun C hC => fin hC G3_ok (f69p0 std n cs) (by rw [hf]; simp [hc, AV.bx, flatLen, h0]) rfl rfl
end Go.Proofs.Ytimmgjppippdiaa
