/- The merge proved by its size. No condition. -/
import Derived.Test.YtjhdnpmojhkbjaaMb
import Derived.KernelRfl
namespace Go.Proofs.Ytjhdnpmojhkbjaa
theorem seg_one (xs : List AV) (k : Nat) (h : k < xs.length) : (xs.take (k + 1)).drop k = [xs.getD k .top] := by
  have := seg_snoc xs k k (Nat.le_refl _) h
  rw [this]; simp
theorem merge140 {N : Nat} (hK : CtrsOK Try.prog (BO5 N)) (xs : List AV) (a m b : Nat) (h1 : a < m) (h2 : m < b) (h3 : b ≤ xs.length) (hL : xs.length < 1000000) (hN : b - a ≤ N) (hn : numsB xs = true) (hs1 : SortN ((xs.take m).drop a)) (hs2 : SortN ((xs.take b).drop m)) :
    Muts Try.prog 140 140 5 (.big shN xs) (.big shN (segN a b xs)) [.int .i64 a, .int .i64 m, .int .i64 b, .fn 119 []] (.tup []) :=
  startM (f140e_at xs a m b) fun C hC => by
    have hv : ∀ y ∈ xs, valN y = y := fun y hy => isN_val (List.all_eq_true.mp hn y hy)
    have hsub : ∀ {i j : Nat} {y : AV}, y ∈ (xs.take j).drop i → y ∈ xs := fun hy => List.mem_of_mem_take (List.mem_of_mem_drop hy)
    have hcut := cut4 xs a m b (by omega) (by omega)
    have lP : (xs.take a).length = a := by simp; omega
    have lS : (xs.drop b).length = xs.length - b := by simp
    by_cases c1 : m - a = 1
    · have hm : m = a + 1 := by omega
      subst hm
      refine go hC hK (f140p0 std N xs a (a + 1 : Nat) b) (by simp; omega) ?_
      refine s4_search hC hK xs a ((a + 1 : Nat) : Int) b hL (by omega) (by omega) (by omega) (by omega) (fun st q1 q2 q3 q4 => ?_) _ ((a + 1 : Nat) : Int) b (Nat.le_refl _) (Int.le_refl _) (by omega) (Int.le_refl _) (fun h => absurd h (Int.lt_irrefl _)) (fun h => absurd h (Int.lt_irrefl _))
      obtain ⟨s, rfl⟩ := Int.eq_ofNat_of_zero_le (by omega : 0 ≤ st)
      have lV := seg_len xs (a + 1) s (by omega)
      have e1 := seg_one xs a (by omega)
      have e2 := seg_app xs (a + 1) s b (by omega) (by omega)
      rw [e1, ← e2] at hcut
      have hR : xs.take a ++ (xs.take s).drop (a + 1) ++ [xs.getD a .top] ++ ((xs.take b).drop s ++ xs.drop b) = segN a b xs := by
        rw [segN_of (P := xs.take a) (Z := [] ++ [xs.getD a .top] ++ ((xs.take s).drop (a + 1) ++ (xs.take b).drop s)) (S := xs.drop b) (by rw [List.nil_append, ← List.append_assoc (xs.take a)]; exact hcut.symm) lP (by simp only [List.length_append, lP, seg_len xs (a + 1) s (by omega), seg_len xs s b (by omega)]; simp; omega)]
        have sV : SortN ((xs.take s).drop (a + 1)) := seg_sorted (by omega) fun k l r1 r2 r3 => seg_mono (by omega) hs2 r1 r2 (by omega)
        have sW : SortN ((xs.take b).drop s) := seg_sorted (by omega) fun k l r1 r2 r3 => seg_mono (by omega) hs2 (by omega) r2 (by omega)
        have hxW : ∀ w ∈ (xs.take b).drop s, keyN (xs.getD a .top) ≤ keyN w := by
          intro w hw
          obtain ⟨k, k1, k2, k3⟩ := seg_mem (by omega) hw
          have t1 := seg_mono (by omega) hs2 (show a + 1 ≤ s by omega) k1 k2
          have t2 := q4 (by omega)
          rw [k3]
          have : kAt xs (a : Int) = keyN (xs.getD a .top) := by rw [kAt, Int.toNat_natCast]
          omega
        have hVx : ∀ v ∈ (xs.take s).drop (a + 1), ∀ u ∈ [xs.getD a .top], keyN v < keyN u := by
          intro v hv u hu
          rw [List.mem_singleton] at hu
          subst hu
          obtain ⟨k, k1, k2, k3⟩ := seg_mem (by omega) hv
          have t1 := seg_mono (by omega) hs2 k1 (show k ≤ s - 1 by omega) (by omega)
          have t2 := q3 (by omega)
          rw [k3]
          have : kAt xs (a : Int) = keyN (xs.getD a .top) := by rw [kAt, Int.toNat_natCast]
          rw [show (s : Int) - 1 = ((s - 1 : Nat) : Int) by omega] at t2
          omega
        rw [merge_parts [] [xs.getD a .top] _ _ (by simp [SortN]) (by rw [e2]; exact hs2) hVx (by simp), List.nil_append, sortN_same sV, sortN_same (l := [xs.getD a .top] ++ (xs.take b).drop s) (List.pairwise_cons.mpr ⟨hxW, sW⟩)]
        simp
      have := right_loop hC hK (xs.getD a .top) ((xs.take b).drop s ++ xs.drop b) (segN a b xs) (numsB_get hn (by omega)) ((xs.take s).drop (a + 1)) (xs.take a) s (by rw [lP, lV]; omega) (by rw [lP, lV, List.length_append, seg_len xs s b (by omega), lS]; omega) (fun y hy => hv y (hsub hy)) hR
      rw [lP, show xs.take a ++ [xs.getD a .top] ++ (xs.take s).drop (a + 1) ++ ((xs.take b).drop s ++ xs.drop b) = xs by rw [← List.append_assoc]; rw [List.append_assoc (xs.take a ++ _)]; exact hcut] at this
      exact this
    · by_cases c2 : b - m = 1
      · have hb : b = m + 1 := by omega
        subst hb
        refine go hC hK (f140p1 std N xs a m (m + 1 : Nat)) (by simp; omega) ?_
        refine s2_search hC hK xs m a m hL (by omega) (by omega) (by omega) (by omega) (fun st q1 q2 q3 q4 => ?_) _ a m (Nat.le_refl _) (Int.le_refl _) (by omega) (Int.le_refl _) (fun h => absurd h (Int.lt_irrefl _)) (fun h => absurd h (Int.lt_irrefl _))
        obtain ⟨s, rfl⟩ := Int.eq_ofNat_of_zero_le (by omega : 0 ≤ st)
        have lX := seg_len xs a s (by omega)
        have lU := seg_len xs s m (by omega)
        have e1 := seg_one xs m (by omega)
        have e2 := seg_app xs a s m (by omega) (by omega)
        rw [e1, ← e2] at hcut
        have hR : (xs.take a ++ (xs.take s).drop a) ++ [xs.getD m .top] ++ (xs.take m).drop s ++ xs.drop (m + 1) = segN a (m + 1) xs := by
          rw [segN_of (P := xs.take a) (Z := (xs.take s).drop a ++ (xs.take m).drop s ++ ([xs.getD m .top] ++ [])) (S := xs.drop (m + 1)) (by rw [List.append_nil, ← List.append_assoc (xs.take a)]; exact hcut.symm) lP (by simp only [List.length_append, lP, lX, lU]; simp; omega)]
          have sX : SortN ((xs.take s).drop a) := seg_sorted (by omega) fun k l r1 r2 r3 => seg_mono (by omega) hs1 r1 r2 (by omega)
          have sU : SortN ((xs.take m).drop s) := seg_sorted (by omega) fun k l r1 r2 r3 => seg_mono (by omega) hs1 (by omega) r2 (by omega)
          have hm' : kAt xs (m : Int) = keyN (xs.getD m .top) := by rw [kAt, Int.toNat_natCast]
          have hXy : ∀ x ∈ (xs.take s).drop a, ∀ y ∈ [xs.getD m .top], keyN x ≤ keyN y := by
            intro x hx y hy
            rw [List.mem_singleton] at hy
            subst hy
            obtain ⟨k, k1, k2, k3⟩ := seg_mem (by omega) hx
            have t1 := seg_mono (by omega) hs1 k1 (show k ≤ s - 1 by omega) (by omega)
            have t2 := q3 (by omega)
            rw [show (s : Int) - 1 = ((s - 1 : Nat) : Int) by omega] at t2
            omega
          have hyU : ∀ v ∈ [xs.getD m .top], ∀ u ∈ (xs.take m).drop s, keyN v < keyN u := by
            intro v hv u hu
            rw [List.mem_singleton] at hv
            subst hv
            obtain ⟨k, k1, k2, k3⟩ := seg_mem (by omega) hu
            have t1 := seg_mono (by omega) hs1 (show a ≤ s by omega) k1 k2
            have t2 := q4 (by omega)
            omega
          rw [merge_parts _ _ [xs.getD m .top] [] (by rw [e2]; exact hs1) (by simp [SortN]) hyU (by simp), List.append_nil, sortN_same sU, sortN_same (List.pairwise_append.mpr ⟨sX, by simp, hXy⟩)]
          simp
        have := left_loop hC hK (xs.getD m .top) (xs.take a ++ (xs.take s).drop a) (segN a (m + 1) xs) (numsB_get hn (by omega)) _ ((xs.take m).drop s) (xs.drop (m + 1)) m rfl (by rw [List.length_append, lP, lX, lU]; omega) (by rw [List.length_append, lP, lX, lU, lS]; omega) (fun y hy => hv y (hsub hy)) hR
        rw [List.length_append, lP, lX, show a + (s - a) = s by omega, show xs.take a ++ (xs.take s).drop a ++ (xs.take m).drop s ++ [xs.getD m .top] ++ xs.drop (m + 1) = xs by rw [List.append_assoc (xs.take a)]; exact hcut] at this
        exact this
      · obtain ⟨mid, hmid⟩ : ∃ mid, mid = (a + b) / 2 := ⟨_, rfl⟩
        have hc : std.shr ((a : Int) + b) 1 = (mid : Int) := by rw [shr1]; omega
        have u : std.inR .u64 ((a : Int) + b) = true := decide_eq_true ⟨show (0 : Int) ≤ (a : Int) + b by omega, show (a : Int) + b ≤ 18446744073709551615 by omega⟩
        by_cases c3 : mid < m
        · have hw := f140p2 std N xs a m b
          simp only [s_add, s_sub, hc] at hw
          refine go hC hK hw (by simp only [u]; simp; omega) ?_
          refine sm_search hC hK xs a m b mid ((mid : Int) + m) ((mid : Int) + m - 1) ((mid : Int) + m - b) mid hL (by omega) (by omega) (by omega) (by omega) (fun st q1 q2 q3 q4 => ?_) _ ((mid : Int) + m - b) mid (Nat.le_refl _) (Int.le_refl _) (by omega) (Int.le_refl _) (fun h => absurd h (Int.lt_irrefl _)) (fun h => absurd h (Int.lt_irrefl _))
          obtain ⟨s, rfl⟩ := Int.eq_ofNat_of_zero_le (by omega : 0 ≤ st)
          refine sm_main hC hK xs a m b mid s (mid + m - s) _ (by omega) (by omega) (by omega) (by omega) h3 (by omega) (by omega) (by omega) hL hn hs1 hs2 hN (fun r1 r2 => ?_) (fun r1 r2 => ?_)
          · have := q4 (by omega)
            rw [show (mid : Int) + m - 1 - s = ((mid + m - s - 1 : Nat) : Int) by omega] at this
            exact this
          · have := q3 (by omega)
            rw [show (mid : Int) + m - 1 - ((s : Int) - 1) = ((mid + m - s : Nat) : Int) by omega, show (s : Int) - 1 = ((s - 1 : Nat) : Int) by omega] at this
            exact this
        · have hw := f140p3 std N xs a m b
          simp only [s_add, s_sub, hc] at hw
          refine go hC hK hw (by simp only [u]; simp; omega) ?_
          refine sm_search hC hK xs a m b mid ((mid : Int) + m) ((mid : Int) + m - 1) a m hL (by omega) (by omega) (by omega) (by omega) (fun st q1 q2 q3 q4 => ?_) _ a m (Nat.le_refl _) (Int.le_refl _) (by omega) (Int.le_refl _) (fun h => absurd h (Int.lt_irrefl _)) (fun h => absurd h (Int.lt_irrefl _))
          obtain ⟨s, rfl⟩ := Int.eq_ofNat_of_zero_le (by omega : 0 ≤ st)
          refine sm_main hC hK xs a m b mid s (mid + m - s) _ (by omega) (by omega) (by omega) (by omega) h3 (by omega) (by omega) (by omega) hL hn hs1 hs2 hN (fun r1 r2 => ?_) (fun r1 r2 => ?_)
          · have := q4 (by omega)
            rw [show (mid : Int) + m - 1 - s = ((mid + m - s - 1 : Nat) : Int) by omega] at this
            exact this
          · have := q3 (by omega)
            rw [show (mid : Int) + m - 1 - ((s : Int) - 1) = ((mid + m - s : Nat) : Int) by omega, show (s : Int) - 1 = ((s - 1 : Nat) : Int) by omega] at this
            exact this
theorem k140_ok : ∀ N, (k140 N).OK Try.prog := by
  intro N
  induction N with
  | zero =>
    intro pa args r fr h
    simp only [k140] at h
    split at h
    · simp only [Option.some.injEq, Prod.mk.injEq, decide_eq_true_eq] at h
      obtain ⟨h0, _, _⟩ := h
      unfold smB at h0
      simp only [Bool.and_eq_true, decide_eq_true_eq] at h0
      omega
    · cases h
  | succ N ih =>
    intro pa args r fr h
    simp only [k140] at h
    split at h
    · rename_i xs a m b
      simp only [Option.some.injEq, Prod.mk.injEq, decide_eq_true_eq] at h
      obtain ⟨h0, rfl, rfl⟩ := h
      unfold smB at h0
      simp only [Bool.and_eq_true, decide_eq_true_eq] at h0
      obtain ⟨⟨⟨⟨g1, g2, g3, g4, g5, g6⟩, g7⟩, g8⟩, g9⟩ := h0
      obtain ⟨a, rfl⟩ := Int.eq_ofNat_of_zero_le g1
      obtain ⟨m, rfl⟩ := Int.eq_ofNat_of_zero_le (by omega : 0 ≤ m)
      obtain ⟨b, rfl⟩ := Int.eq_ofNat_of_zero_le (by omega : 0 ≤ b)
      exact pureX_mut (f := 140) rfl (merge140 (N := N) ⟨ih, BO4_ok⟩ xs a m b (by omega) (by omega) (by omega) g5 (by omega) g7 (sortedB_iff.mp g8) (sortedB_iff.mp g9))
    · cases h
end Go.Proofs.Ytjhdnpmojhkbjaa
/- The contracts of sorting so far. No condition. -/
namespace Go.Proofs.Ytjhdnpmojhkbjaa
def BO6 : List Ctr := BO5 1000000
theorem BO6_ok : CtrsOK Try.prog BO6 := ⟨k140_ok _, BO4_ok⟩
end Go.Proofs.Ytjhdnpmojhkbjaa
/- Paths of functions, printed by the explorer (Gx). No condition. -/
namespace Go.Proofs.Ytjhdnpmojhkbjaa
set_option maxRecDepth 100000
set_option linter.unusedVariables false
def f137e (xs : List AV) (n : Int) : List AFrame := [{ fn := 137, N := 63, env := [(0, AV.row 0 0), (1, AV.int .i64 n), (2, AV.fn 119 [])], todo := [.code a137.code], defs := [], rnd := none, ret := false, res := [] }]
theorem f137e_at (xs : List AV) (n : Int) : enterA tab 137 [AV.row 0 0, AV.int .i64 n, AV.fn 119 []] = some { fn := 137, N := 63, env := [(0, AV.row 0 0), (1, AV.int .i64 n), (2, AV.fn 119 [])], todo := [.code a137.code], defs := [], rnd := none, ret := false, res := [] } := rfl
def f137em (xs : List AV) (n : Int) : AHeap := [(0, { base := 0, blks := [Blk.row 140 5 (Row.big (Sh.agg [Sh.int .i64, Sh.int .i64, Sh.int .i64, Sh.ints .i64, Sh.int .i64]) xs)] })]
def f137h137_2a (n : Int) (n0 : Int) (n1 : Int) (x2 : List AV) : List AFrame := [{ fn := 137, N := 63, env := [(0, AV.row 0 0), (1, AV.int .i64 n), (2, AV.fn 119 []), (6, AV.int .i64 20), (7, AV.int .i64 n0), (8, AV.int .i64 n1)], todo := .code (ACode.gh [] l137_2) :: k137_2, defs := [], rnd := none, ret := false, res := [] }]
def f137h137_2am (n : Int) (n0 : Int) (n1 : Int) (x2 : List AV) : AHeap := [(0, { base := 0, blks := [Blk.row 140 5 (Row.big (Sh.agg [Sh.int .i64, Sh.int .i64, Sh.int .i64, Sh.ints .i64, Sh.int .i64]) x2)] })]
def f137h137_0a (n : Int) (x3 : List AV) (n4 : Int) : List AFrame := [{ fn := 137, N := 63, env := [(0, AV.row 0 0), (1, AV.int .i64 n), (2, AV.fn 119 []), (6, AV.int .i64 n4)], todo := .code (ACode.gh [] l137_0) :: k137_0, defs := [], rnd := none, ret := false, res := [] }]
def f137h137_0am (n : Int) (x3 : List AV) (n4 : Int) : AHeap := [(0, { base := 0, blks := [Blk.row 140 5 (Row.big (Sh.agg [Sh.int .i64, Sh.int .i64, Sh.int .i64, Sh.ints .i64, Sh.int .i64]) x3)] })]
def f137h137_1a (n : Int) (n4 : Int) (n5 : Int) (n6 : Int) (x7 : List AV) : List AFrame := [{ fn := 137, N := 63, env := [(0, AV.row 0 0), (1, AV.int .i64 n), (2, AV.fn 119 []), (6, AV.int .i64 n4), (7, AV.int .i64 n6), (8, AV.int .i64 n5)], todo := .code (ACode.gh [] l137_1) :: k137_1, defs := [], rnd := none, ret := false, res := [] }]
def f137h137_1am (n : Int) (n4 : Int) (n5 : Int) (n6 : Int) (x7 : List AV) : AHeap := [(0, { base := 0, blks := [Blk.row 140 5 (Row.big (Sh.agg [Sh.int .i64, Sh.int .i64, Sh.int .i64, Sh.ints .i64, Sh.int .i64]) x7)] })]
theorem f137p0 (A : Ar) (xs : List AV) (n : Int) : gwalkL A tab BO6 14 [] (f137e xs n) (f137em xs n) =
  some ([true, true, true, true],
   f137h137_2a (n) (0) (20) (xs), f137h137_2am (n) (0) (20) (xs)) := by kernel_rfl
theorem f137p1 (A : Ar) (n : Int) (n0 : Int) (n1 : Int) (x2 : List AV) : gwalkL A tab BO6 33 [true] (f137h137_2a n n0 n1 x2) (f137h137_2am n n0 n1 x2) =
  some ([true, A.inR .i64 (A.add n1 20), true, true, true, true, A.and (decide (sgB x2 n0 n1 = true)) (A.and (A.eqN 140 140) (A.eqN 5 5)), true, true, true, true, A.le n1 n, true, true, true],
   f137h137_2a (n) (n1) (A.add n1 20) (segN (Int.toNat n0) (Int.toNat n1) x2), f137h137_2am (n) (n1) (A.add n1 20) (segN (Int.toNat n0) (Int.toNat n1) x2)) := by kernel_rfl
theorem f137p2 (A : Ar) (n : Int) (n0 : Int) (n1 : Int) (x2 : List AV) : gwalkL A tab BO6 21 [false] (f137h137_2a n n0 n1 x2) (f137h137_2am n n0 n1 x2) =
  some ([A.and (decide (sgB x2 n0 n = true)) (A.and (A.eqN 140 140) (A.eqN 5 5)), true, true, true, true, !A.le n1 n, true, true, true],
   f137h137_0a (n) (segN (Int.toNat n0) (Int.toNat n) x2) (20), f137h137_0am (n) (segN (Int.toNat n0) (Int.toNat n) x2) (20)) := by kernel_rfl
theorem f137p3 (A : Ar) (n : Int) (x3 : List AV) (n4 : Int) : gwalkL A tab BO6 22 [true] (f137h137_0a n x3 n4) (f137h137_0am n x3 n4) =
  some ([true, true, A.inR .i64 (A.mul 2 n4), true, A.lt n4 n, true, true, true],
   f137h137_1a (n) (n4) (A.mul 2 n4) (0) (x3), f137h137_1am (n) (n4) (A.mul 2 n4) (0) (x3)) := by kernel_rfl
theorem f137p4 (A : Ar) (n : Int) (x3 : List AV) (n4 : Int) : gfinM A tab BO6 11 [false] 137 (f137h137_0a n x3 n4) (f137h137_0am n x3 n4) =
  some ([true, !A.lt n4 n, true, true, true],
   AV.tup [], 140, 5, Row.big (.agg [.int .i64, .int .i64, .int .i64, .ints .i64, .int .i64]) x3) := by kernel_rfl
theorem f137p5 (A : Ar) (n : Int) (n4 : Int) (n5 : Int) (n6 : Int) (x7 : List AV) : gwalkL A tab BO6 38 [true] (f137h137_1a n n4 n5 n6 x7) (f137h137_1am n n4 n5 n6 x7) =
  some ([true, A.inR .i64 (A.add n5 (A.mul 2 n4)), A.inR .i64 (A.mul 2 n4), true, true, true, true, A.and (decide (smB 1000000 x7 n6 (A.add n6 n4) n5 = true)) (A.and (A.eqN 140 140) (A.eqN 5 5)), true, true, A.inR .i64 (A.add n6 n4), true, true, true, true, A.le n5 n, true, true, true],
   f137h137_1a (n) (n4) (A.add n5 (A.mul 2 n4)) (n5) (segN (Int.toNat n6) (Int.toNat n5) x7), f137h137_1am (n) (n4) (A.add n5 (A.mul 2 n4)) (n5) (segN (Int.toNat n6) (Int.toNat n5) x7)) := by kernel_rfl
theorem f137p6 (A : Ar) (n : Int) (n4 : Int) (n5 : Int) (n6 : Int) (x7 : List AV) : gwalkL A tab BO6 41 [false, true] (f137h137_1a n n4 n5 n6 x7) (f137h137_1am n n4 n5 n6 x7) =
  some ([true, A.inR .i64 (A.mul n4 2), true, A.and (decide (smB 1000000 x7 n6 (A.add n6 n4) n = true)) (A.and (A.eqN 140 140) (A.eqN 5 5)), true, true, true, true, true, A.lt (A.add n6 n4) n, true, true, true, true, A.inR .i64 (A.add n6 n4), true, true, !A.le n5 n, true, true, true],
   f137h137_0a (n) (segN (Int.toNat n6) (Int.toNat n) x7) (A.mul n4 2), f137h137_0am (n) (segN (Int.toNat n6) (Int.toNat n) x7) (A.mul n4 2)) := by kernel_rfl
theorem f137p7 (A : Ar) (n : Int) (n4 : Int) (n5 : Int) (n6 : Int) (x7 : List AV) : gwalkL A tab BO6 34 [false, false] (f137h137_1a n n4 n5 n6 x7) (f137h137_1am n n4 n5 n6 x7) =
  some ([true, A.inR .i64 (A.mul n4 2), true, !A.lt (A.add n6 n4) n, true, true, true, true, A.inR .i64 (A.add n6 n4), true, true, !A.le n5 n, true, true, true],
   f137h137_0a (n) (x7) (A.mul n4 2), f137h137_0am (n) (x7) (A.mul n4 2)) := by kernel_rfl
end Go.Proofs.Ytjhdnpmojhkbjaa
/- Blocks that are sorted. No condition. -/
namespace Go.Proofs.Ytjhdnpmojhkbjaa
theorem cut3 (ys : List AV) (a b : Nat) (h : a ≤ b) : ys.take a ++ (ys.take b).drop a ++ ys.drop b = ys := by
  have := List.take_append_drop a (ys.take b)
  rw [List.take_take, Nat.min_eq_left h] at this
  rw [this, List.take_append_drop]
theorem segN_eq (a b : Nat) (ys : List AV) : segN a b ys = ys.take a ++ sortN ((ys.take b).drop a) ++ ys.drop b := by unfold segN; rfl
theorem seg_fk (k : Int) (a b : Nat) (ys : List AV) (h : a ≤ b) : fkN k (segN a b ys) = fkN k ys := by
  conv => rhs; rw [← cut3 ys a b h]
  rw [segN_eq, fkN_app, fkN_app, fkN_app, fkN_app, (sortN_ok _).2]
theorem sort_seg (a b : Nat) (ys : List AV) (h : a ≤ b) : sortN (segN a b ys) = sortN ys :=
  sortN_of (sortN_ok ys).1 fun k => by rw [(sortN_ok ys).2, seg_fk k a b ys h]
theorem seg_length (a b : Nat) (ys : List AV) (h : a ≤ b) (hb : b ≤ ys.length) : (segN a b ys).length = ys.length := by
  rw [segN_eq]; simp only [List.length_append, sortN_len, seg_len ys a b hb, List.length_take, List.length_drop]; omega
theorem seg_nums (a b : Nat) (ys : List AV) (h : a ≤ b) (hn : numsB ys = true) : numsB (segN a b ys) = true := by
  rw [← cut3 ys a b h] at hn
  rw [segN_eq]
  simp only [numsB_app, Bool.and_eq_true] at hn ⊢
  exact ⟨⟨hn.1.1, numsB_mem.mpr fun x hx => numsB_mem.mp hn.1.2 x (mem_sort.mp hx)⟩, hn.2⟩
theorem seg_out (a b : Nat) (ys : List AV) (h : a ≤ b) (hb : b ≤ ys.length) (k : Nat) (hk : k < a ∨ b ≤ k) : kAt (segN a b ys) (k : Int) = kAt ys (k : Int) := by
  unfold kAt
  rw [Int.toNat_natCast, List.getD_eq_getElem?_getD, List.getD_eq_getElem?_getD, segN_eq]
  conv => rhs; rw [← cut3 ys a b h]
  have l1 : (ys.take a).length = a := by simp; omega
  have l2 := seg_len ys a b hb
  have l3 : (sortN ((ys.take b).drop a)).length = b - a := by rw [sortN_len, l2]
  rw [List.append_assoc, List.append_assoc]
  rcases hk with hk | hk
  · rw [List.getElem?_append_left (by omega), List.getElem?_append_left (by omega)]
  · rw [List.getElem?_append_right (by omega), List.getElem?_append_right (by omega), List.getElem?_append_right (by omega), List.getElem?_append_right (by omega), l3, l2]
theorem seg_in (a b : Nat) (ys : List AV) (h : a ≤ b) (hb : b ≤ ys.length) : SortN (((segN a b ys).take b).drop a) := by
  rw [seg_of (segN_eq a b ys) (by simp; omega) (by simp only [sortN_len, seg_len ys a b hb, List.length_take]; omega)]
  exact (sortN_ok _).1
def BlkS (w : Nat) (ys : List AV) (a : Nat) : Prop := ∀ q k l : Nat, q * w ≤ k → k ≤ l → l < q * w + w → l < a → kAt ys k ≤ kAt ys l
def RstS (w : Nat) (ys : List AV) (a : Nat) : Prop := ∀ q k l : Nat, q * w ≤ k → k ≤ l → l < q * w + w → a ≤ k → l < ys.length → kAt ys k ≤ kAt ys l
theorem blk_eq {q p w l : Nat} (h1 : q * w ≤ l) (h2 : l < q * w + w) (h3 : p * w ≤ l) (h4 : l < p * w + w) : q = p := by
  rcases Nat.lt_trichotomy q p with h | h | h
  · have := Nat.mul_le_mul_right w (show q + 1 ≤ p from h)
    rw [Nat.succ_mul] at this; omega
  · exact h
  · have := Nat.mul_le_mul_right w (show p + 1 ≤ q from h)
    rw [Nat.succ_mul] at this; omega
theorem blk_step {w : Nat} {ys : List AV} {a b p : Nat} (hB : BlkS w ys a) (ha : a = p * w) (h1 : a ≤ b) (h2 : b ≤ a + w) (h3 : b ≤ ys.length) : BlkS w (segN a b ys) b := by
  intro q k l q1 q2 q3 q4
  by_cases hl : l < a
  · rw [seg_out a b ys h1 h3 k (.inl (by omega)), seg_out a b ys h1 h3 l (.inl hl)]
    exact hB q k l q1 q2 q3 hl
  · have : q = p := blk_eq (l := l) (by omega) q3 (by omega) (by omega)
    subst this
    exact seg_mono (by rw [seg_length a b ys h1 h3]; exact h3) (seg_in a b ys h1 h3) (by omega) q2 q4
theorem rst_step {w : Nat} {ys : List AV} {a b : Nat} (hR : RstS w ys a) (h1 : a ≤ b) (h3 : b ≤ ys.length) : RstS w (segN a b ys) b := by
  intro q k l q1 q2 q3 q4 q5
  rw [seg_length a b ys h1 h3] at q5
  rw [seg_out a b ys h1 h3 k (.inr q4), seg_out a b ys h1 h3 l (.inr (by omega))]
  exact hR q k l q1 q2 q3 (by omega) q5
theorem rst_seg {w : Nat} {ys : List AV} {a i j p : Nat} (hR : RstS w ys a) (hi : i = p * w) (h1 : a ≤ i) (h2 : j ≤ i + w) (h3 : j ≤ ys.length) : SortN ((ys.take j).drop i) :=
  seg_sorted h3 fun k l r1 r2 r3 => hR p k l (by omega) r2 (by omega) (by omega) (by omega)
end Go.Proofs.Ytjhdnpmojhkbjaa
/- The stable sort. No condition. -/
namespace Go.Proofs.Ytjhdnpmojhkbjaa
section
variable {C : Ctx} (hC : C.P = Try.prog) (xs : List AV) (n : Nat) (hL : n < 900000)
include hC hL
theorem st_inner (w : Nat) (hw0 : 20 ≤ w) (hw1 : w < n)
    (hq : ∀ ys : List AV, ys.length = n → numsB ys = true → sortN ys = sortN xs → BlkS (2 * w) ys n → Ev C (f137h137_0a n [] ((w : Int) * 2)) (f137h137_0am n ys ((w : Int) * 2)) (FinM 137 140 5 (.big shN (sortN xs)) (.tup []))) :
    ∀ (d q a : Nat) (ys : List AV), a = q * (2 * w) → n - a ≤ d → a ≤ n → ys.length = n → numsB ys = true → sortN ys = sortN xs → BlkS (2 * w) ys a → RstS w ys a →
      Ev C (f137h137_1a n w ((a : Int) + 2 * w) a []) (f137h137_1am n w ((a : Int) + 2 * w) a ys) (FinM 137 140 5 (.big shN (sortN xs)) (.tup [])) := by
  intro d
  induction d with
  | zero =>
    intro q a ys ha hd h1 h2 h3 h4 h5 h6
    refine go hC BO6_ok (f137p7 std n w ((a : Int) + 2 * w) a ys) (by simp; omega) (hq ys h2 h3 h4 ?_)
    have : a = n := by omega
    rw [← this]; exact h5
  | succ d ih =>
    intro q a ys ha hd h1 h2 h3 h4 h5 h6
    have e1 : (2 * q) * w = a := by rw [ha, Nat.mul_comm 2 q, Nat.mul_assoc]
    have e2 : (2 * q + 1) * w = a + w := by rw [Nat.succ_mul, e1]
    by_cases c1 : a + 2 * w ≤ n
    · have hb : smB 1000000 ys (a : Int) ((a : Int) + w) ((a : Int) + 2 * w) = true := by
        unfold smB
        rw [h3, show ((a : Int) + w).toNat = a + w by omega, show ((a : Int) + 2 * w).toNat = a + 2 * w by omega, Int.toNat_natCast,
          sortedB_iff.mpr (rst_seg h6 e1.symm (by omega) (by omega) (by omega)), sortedB_iff.mpr (rst_seg h6 e2.symm (by omega) (by omega) (by omega))]
        simp only [Bool.and_true, decide_eq_true_eq]
        omega
      have hw := f137p5 std n w ((a : Int) + 2 * w) a ys
      simp only [s_add, hb, show ((a : Int) + 2 * w).toNat = a + 2 * w by omega, Int.toNat_natCast] at hw
      refine go hC BO6_ok hw (by simp; omega) ?_
      have := ih (q + 1) (a + 2 * w) (segN a (a + 2 * w) ys) (by rw [ha, Nat.add_mul, Nat.one_mul]) (by omega) c1 (by rw [seg_length _ _ _ (by omega) (by omega), h2]) (seg_nums _ _ _ (by omega) h3) (by rw [sort_seg _ _ _ (by omega), h4]) (blk_step h5 ha (by omega) (by omega) (by omega)) (rst_step h6 (by omega) (by omega))
      rw [show ((a + 2 * w : Nat) : Int) = (a : Int) + 2 * w by omega] at this
      exact this
    · by_cases c2 : a + w < n
      · have hb : smB 1000000 ys (a : Int) ((a : Int) + w) (n : Int) = true := by
          unfold smB
          rw [h3, show ((a : Int) + w).toNat = a + w by omega, Int.toNat_natCast, Int.toNat_natCast,
            sortedB_iff.mpr (rst_seg h6 e1.symm (by omega) (by omega) (by omega)), sortedB_iff.mpr (rst_seg h6 e2.symm (by omega) (by omega) (by omega))]
          simp only [Bool.and_true, decide_eq_true_eq]
          omega
        have hw := f137p6 std n w ((a : Int) + 2 * w) a ys
        simp only [s_add, hb, Int.toNat_natCast] at hw
        refine go hC BO6_ok hw (by simp; omega) ?_
        exact hq (segN a n ys) (by rw [seg_length _ _ _ (by omega) (by omega), h2]) (seg_nums _ _ _ (by omega) h3) (by rw [sort_seg _ _ _ (by omega), h4]) (blk_step h5 ha (by omega) (by omega) (by omega))
      · refine go hC BO6_ok (f137p7 std n w ((a : Int) + 2 * w) a ys) (by simp; omega) (hq ys h2 h3 h4 ?_)
        intro p k l q1 q2 q3 q4
        by_cases hl : l < a
        · exact h5 p k l q1 q2 q3 hl
        · have : p = q := blk_eq (l := l) (by omega) q3 (by omega) (by omega)
          subst this
          exact h6 (2 * p) k l (by omega) q2 (by omega) (by omega) (by omega)
theorem st_outer : ∀ (d w : Nat) (ys : List AV), n - w ≤ d → 20 ≤ w → w < 2000000 → ys.length = n → numsB ys = true → sortN ys = sortN xs → BlkS w ys n →
    Ev C (f137h137_0a n [] w) (f137h137_0am n ys w) (FinM 137 140 5 (.big shN (sortN xs)) (.tup [])) := by
  have hend : ∀ (w : Nat) (ys : List AV), n ≤ w → w < 2000000 → ys.length = n → sortN ys = sortN xs → BlkS w ys n → Ev C (f137h137_0a n [] w) (f137h137_0am n ys w) (FinM 137 140 5 (.big shN (sortN xs)) (.tup [])) := by
    intro w ys hnw _ h2 h4 h5
    have hs : sortN xs = ys := by
      rw [← h4]
      refine sortN_same ?_
      have := seg_sorted (xs := ys) (i := 0) (j := n) (by omega) fun k l r1 r2 r3 => h5 0 k l (by omega) r2 (by omega) r3
      rwa [← h2, List.take_length, List.drop_zero] at this
    rw [hs]
    exact finM hC BO6_ok (f137p4 std n ys w) (by simp; omega) rfl rfl rfl rfl
  intro d
  induction d with
  | zero => intro w ys hd h0 hw2 h2 h3 h4 h5; exact hend w ys (by omega) hw2 h2 h4 h5
  | succ d ih =>
    intro w ys hd h0 hw2 h2 h3 h4 h5
    by_cases c : w < n
    · refine go hC BO6_ok (f137p3 std n ys w) (by simp; omega) ?_
      have := st_inner hC xs n hL w h0 c (fun zs z1 z2 z3 z4 => by
        have := ih (2 * w) zs (by omega) (by omega) (by omega) z1 z2 z3 z4
        rw [show ((2 * w : Nat) : Int) = (w : Int) * 2 by omega] at this
        exact this) n 0 0 ys (by omega) (by omega) (by omega) h2 h3 h4 (fun _ _ _ _ _ _ h => absurd h (by omega)) (fun q k l q1 q2 q3 _ q5 => h5 q k l q1 q2 q3 (by omega))
      have e : ((0 : Nat) : Int) + 2 * (w : Int) = std.mul 2 (w : Int) := by simp
      rw [e] at this
      exact this
    · exact hend w ys (by omega) hw2 h2 h4 h5
theorem st_first : ∀ (d q : Nat) (ys : List AV), n - q * 20 ≤ d → q * 20 ≤ n → ys.length = n → numsB ys = true → sortN ys = sortN xs → BlkS 20 ys (q * 20) →
    Ev C (f137h137_2a n ((q * 20 : Nat) : Int) ((q * 20 : Nat) + 20) []) (f137h137_2am n ((q * 20 : Nat) : Int) ((q * 20 : Nat) + 20) ys) (FinM 137 140 5 (.big shN (sortN xs)) (.tup [])) := by
  have hend : ∀ (q : Nat) (ys : List AV), q * 20 ≤ n → n < q * 20 + 20 → ys.length = n → numsB ys = true → sortN ys = sortN xs → BlkS 20 ys (q * 20) → Ev C (f137h137_2a n ((q * 20 : Nat) : Int) ((q * 20 : Nat) + 20) []) (f137h137_2am n ((q * 20 : Nat) : Int) ((q * 20 : Nat) + 20) ys) (FinM 137 140 5 (.big shN (sortN xs)) (.tup [])) := by
    intro q ys h1 h1' h2 h3 h4 h5
    have hb : sgB ys ((q * 20 : Nat) : Int) n = true := by
      unfold sgB
      rw [h3]
      simp only [Bool.and_true, decide_eq_true_eq]
      omega
    have hw := f137p2 std n ((q * 20 : Nat) : Int) (((q * 20 : Nat) : Int) + 20) ys
    simp only [hb, Int.toNat_natCast] at hw
    refine go hC BO6_ok hw (by simp; omega) ?_
    exact st_outer hC xs n hL n 20 (segN (q * 20) n ys) (by omega) (by omega) (by omega) (by rw [seg_length _ _ _ (by omega) (by omega), h2]) (seg_nums _ _ _ (by omega) h3) (by rw [sort_seg _ _ _ (by omega), h4]) (blk_step h5 rfl (by omega) (by omega) (by omega))
  intro d
  induction d with
  | zero => intro q ys hd h1 h2 h3 h4 h5; exact hend q ys h1 (by omega) h2 h3 h4 h5
  | succ d ih =>
    intro q ys hd h1 h2 h3 h4 h5
    by_cases c : q * 20 + 20 ≤ n
    · have hb : sgB ys ((q * 20 : Nat) : Int) (((q * 20 : Nat) : Int) + 20) = true := by
        unfold sgB
        rw [h3]
        simp only [Bool.and_true, decide_eq_true_eq]
        omega
      have hw := f137p1 std n ((q * 20 : Nat) : Int) (((q * 20 : Nat) : Int) + 20) ys
      simp only [hb, Int.toNat_natCast, show (((q * 20 : Nat) : Int) + 20).toNat = q * 20 + 20 by omega] at hw
      refine go hC BO6_ok hw (by simp; omega) ?_
      have := ih (q + 1) (segN (q * 20) (q * 20 + 20) ys) (by omega) (by omega) (by rw [seg_length _ _ _ (by omega) (by omega), h2]) (seg_nums _ _ _ (by omega) h3) (by rw [sort_seg _ _ _ (by omega), h4]) (by rw [Nat.succ_mul]; exact blk_step h5 rfl (by omega) (by omega) (by omega))
      rw [show ((((q + 1) * 20 : Nat)) : Int) = ((q * 20 : Nat) : Int) + 20 by omega] at this
      exact this
    · exact hend q ys h1 (by omega) h2 h3 h4 h5
end
theorem stable137 (xs : List AV) (hL : xs.length < 900000) (hn : numsB xs = true) : Muts Try.prog 137 140 5 (.big shN xs) (.big shN (sortN xs)) [.int .i64 xs.length, .fn 119 []] (.tup []) :=
  startM (f137e_at xs xs.length) fun C hC => by
    refine go hC BO6_ok (f137p0 std xs xs.length) (by simp) ?_
    exact st_first hC xs xs.length hL xs.length 0 xs (by omega) (by omega) rfl hn rfl (fun _ _ _ _ _ _ h => absurd h (by omega))
end Go.Proofs.Ytjhdnpmojhkbjaa
/- Contracts as a list. No condition. -/
namespace Go.Proofs.Ytjhdnpmojhkbjaa
def stB (xs : List AV) (n : Int) : Bool := decide (n = xs.length ∧ n < 900000) && numsB xs
theorem stable_ct (xs : List AV) (n : Int) (h : stB xs n = true) : PureX Try.prog 1000137 [.list (.big shN xs), .int .i64 n, .fn 119 []] (.tup []) (some ⟨140, 5, .big shN (sortN xs)⟩) := by
  unfold stB at h
  simp only [Bool.and_eq_true, decide_eq_true_eq] at h
  obtain ⟨⟨h1, h2⟩, h5⟩ := h
  subst h1
  exact pureX_mut (f := 137) rfl (stable137 xs (by omega) h5)
def k137 : Ctr := ⟨1000137, 0, fun _ a => match a with | [.list (.big (.agg [.int .i64, .int .i64, .int .i64, .ints .i64, .int .i64]) xs), .int .i64 n, .fn 119 []] => some (decide (stB xs n = true), .tup [], some ⟨140, 5, .big shN (sortN xs)⟩) | _ => none⟩
theorem k137_ok : k137.OK Try.prog := fun pa args r fr h => by
  simp only [k137] at h
  split at h
  · simp only [Option.some.injEq, Prod.mk.injEq, decide_eq_true_eq] at h
    obtain ⟨h0, rfl, rfl⟩ := h
    exact stable_ct _ _ h0
  · cases h
def BO7 : List Ctr := [k137] ++ BO6
theorem BO7_ok : CtrsOK Try.prog BO7 := ⟨k137_ok, BO6_ok⟩
end Go.Proofs.Ytjhdnpmojhkbjaa
/- Paths of functions, printed by the explorer (Gx). No condition. -/
namespace Go.Proofs.Ytjhdnpmojhkbjaa
set_option maxRecDepth 100000
set_option linter.unusedVariables false
def f118e (xs : List AV) : List AFrame := [{ fn := 118, N := 9, env := [(0, AV.row 0 0), (1, AV.fn 119 [])], todo := [.code a118.code], defs := [], rnd := none, ret := false, res := [] }]
theorem f118e_at (xs : List AV) : enterA tab 118 [AV.row 0 0, AV.fn 119 []] = some { fn := 118, N := 9, env := [(0, AV.row 0 0), (1, AV.fn 119 [])], todo := [.code a118.code], defs := [], rnd := none, ret := false, res := [] } := rfl
def f118em (xs : List AV) : AHeap := [(0, { base := 0, blks := [Blk.row 140 5 (Row.big (Sh.agg [Sh.int .i64, Sh.int .i64, Sh.int .i64, Sh.ints .i64, Sh.int .i64]) xs)] })]
theorem f118p0 (A : Ar) (xs : List AV) : gfinM A tab BO7 8 [] 118 (f118e xs) (f118em xs) =
  some ([true, A.and (decide (stB xs (A.int (A.lenA xs)) = true)) (A.and (A.eqN 140 140) (A.eqN 5 5)), true, true, true, true],
   AV.tup [], 140, 5, Row.big (.agg [.int .i64, .int .i64, .int .i64, .ints .i64, .int .i64]) (List.foldl insN [] xs)) := by kernel_rfl
end Go.Proofs.Ytjhdnpmojhkbjaa
/- Contracts as a list. No condition. -/
namespace Go.Proofs.Ytjhdnpmojhkbjaa
theorem stable118 (xs : List AV) (hL : xs.length < 900000) (hn : numsB xs = true) : Muts Try.prog 118 140 5 (.big shN xs) (.big shN (sortN xs)) [.fn 119 []] (.tup []) :=
  startM (f118e_at xs) fun C hC => by
    have hb : stB xs xs.length = true := by
      unfold stB
      rw [hn]
      simp only [Bool.and_true, decide_eq_true_eq]
      exact ⟨trivial, by omega⟩
    have hw := f118p0 std xs
    simp only [s_int, s_lenA, hb] at hw
    exact finM hC BO7_ok hw (by simp) rfl rfl rfl rfl
def soB (xs : List AV) : Bool := decide (xs.length < 900000) && numsB xs
theorem sort118_ct (xs : List AV) (h : soB xs = true) : PureX Try.prog 1000118 [.list (.big shN xs), .fn 119 []] (.tup []) (some ⟨140, 5, .big shN (sortN xs)⟩) := by
  unfold soB at h
  simp only [Bool.and_eq_true, decide_eq_true_eq] at h
  exact pureX_mut (f := 118) rfl (stable118 xs h.1 h.2)
def k118 : Ctr := ⟨1000118, 0, fun _ a => match a with | [.list (.big (.agg [.int .i64, .int .i64, .int .i64, .ints .i64, .int .i64]) xs), .fn 119 []] => some (decide (soB xs = true), .tup [], some ⟨140, 5, .big shN (sortN xs)⟩) | _ => none⟩
theorem k118_ok : k118.OK Try.prog := fun pa args r fr h => by
  simp only [k118] at h
  split at h
  · simp only [Option.some.injEq, Prod.mk.injEq, decide_eq_true_eq] at h
    obtain ⟨h0, rfl, rfl⟩ := h
    exact sort118_ct _ h0
  · cases h
def BO8 : List Ctr := [k118] ++ BO7
theorem BO8_ok : CtrsOK Try.prog BO8 := ⟨k118_ok, BO7_ok⟩
end Go.Proofs.Ytjhdnpmojhkbjaa
/- Paths of functions, printed by the explorer (Gx). No condition. -/
namespace Go.Proofs.Ytjhdnpmojhkbjaa
set_option maxRecDepth 100000
set_option linter.unusedVariables false
def f115e (n : Int) (c : Int) : List AFrame := [{ fn := 115, N := 34, env := [(0, AV.int .i64 n), (1, AV.int .i64 c)], todo := [.code a115.code], defs := [], rnd := none, ret := false, res := [ARes.tmp 4] }]
theorem f115e_at (n : Int) (c : Int) : enterA tab 115 [AV.int .i64 n, AV.int .i64 c] = some { fn := 115, N := 34, env := [(0, AV.int .i64 n), (1, AV.int .i64 c)], todo := [.code a115.code], defs := [], rnd := none, ret := false, res := [ARes.tmp 4] } := rfl
def f115h115_0a (n : Int) (c : Int) (n0 : Int) (n1 : Int) : List AFrame := [{ fn := 115, N := 34, env := [(0, AV.int .i64 n), (1, AV.int .i64 c), (5, AV.int .i64 n1), (6, AV.int .i64 n0)], todo := .code (ACode.gh [] l115_0) :: k115_0, defs := [], rnd := none, ret := false, res := [ARes.tmp 4] }]
def f115h115_0am (n : Int) (c : Int) (n0 : Int) (n1 : Int) : AHeap := []
theorem f115p0 (A : Ar) (n : Int) (c : Int) : gwalkL A tab BO8 19 [] (f115e n c) [] =
  some ([true, A.inR .i64 (A.sub n 64), true, true, true, true],
   f115h115_0a (n) (c) (A.sub n 64) (c), f115h115_0am (n) (c) (A.sub n 64) (c)) := by kernel_rfl
theorem f115p1 (A : Ar) (n : Int) (c : Int) (n0 : Int) (n1 : Int) : gwalkL A tab BO8 46 [true, true, true, true, true, true, true, true, true, true, true, true] (f115h115_0a n c n0 n1) (f115h115_0am n c n0 n1) =
  some ([true, A.inR .i64 (A.add n0 1), true, true, true, A.le (sizeI (A.sub n0 n)) (sizeI (A.sub n1 n)), true, true, true, true, A.and true (decide (smallB (A.sub n1 n) = true)), true, A.inR .i64 (A.sub n1 n), true, true, true, true, true, A.and true (decide (smallB (A.sub n0 n) = true)), true, A.inR .i64 (A.sub n0 n), true, true, true, true, A.eq (modI (A.sub n0 c) 64) 0, true, true, A.and true true, A.inR .i64 (A.sub n0 c), true, true, A.le n0 (A.add n 64), true, A.inR .i64 (A.add n 64), true, true],
   f115h115_0a (n) (c) (A.add n0 1) (n0), f115h115_0am (n) (c) (A.add n0 1) (n0)) := by kernel_rfl
theorem f115p2 (A : Ar) (n : Int) (c : Int) (n0 : Int) (n1 : Int) : gwalkL A tab BO8 43 [true, true, true, true, true, true, true, true, true, true, true, false] (f115h115_0a n c n0 n1) (f115h115_0am n c n0 n1) =
  some ([true, A.inR .i64 (A.add n0 1), true, !A.le (sizeI (A.sub n0 n)) (sizeI (A.sub n1 n)), true, true, true, true, A.and true (decide (smallB (A.sub n1 n) = true)), true, A.inR .i64 (A.sub n1 n), true, true, true, true, true, A.and true (decide (smallB (A.sub n0 n) = true)), true, A.inR .i64 (A.sub n0 n), true, true, true, true, A.eq (modI (A.sub n0 c) 64) 0, true, true, A.and true true, A.inR .i64 (A.sub n0 c), true, true, A.le n0 (A.add n 64), true, A.inR .i64 (A.add n 64), true, true],
   f115h115_0a (n) (c) (A.add n0 1) (n1), f115h115_0am (n) (c) (A.add n0 1) (n1)) := by kernel_rfl
theorem f115p3 (A : Ar) (n : Int) (c : Int) (n0 : Int) (n1 : Int) : gwalkL A tab BO8 43 [true, false, false, false, false, false, false, false, false, false, false, false] (f115h115_0a n c n0 n1) (f115h115_0am n c n0 n1) =
  some ([true, A.inR .i64 (A.add n0 1), true, true, true, true, true, true, true, true, true, true, true, true, true, true, true, true, true, true, true, true, true, !A.eq (modI (A.sub n0 c) 64) 0, true, true, A.and true true, A.inR .i64 (A.sub n0 c), true, true, A.le n0 (A.add n 64), true, A.inR .i64 (A.add n 64), true, true],
   f115h115_0a (n) (c) (A.add n0 1) (n1), f115h115_0am (n) (c) (A.add n0 1) (n1)) := by kernel_rfl
theorem f115p4 (A : Ar) (n : Int) (c : Int) (n0 : Int) (n1 : Int) : gfin A tab BO8 17 [false] 115 (f115h115_0a n c n0 n1) (f115h115_0am n c n0 n1) =
  some ([A.and true (A.and true true), true, true, !A.le n0 (A.add n 64), true, A.inR .i64 (A.add n 64), true, true],
   AV.int .i64 n1, none) := by kernel_rfl
def f116e (xs : List Int) (v : Int) : List AFrame := [{ fn := 116, N := 18, env := [(0, AV.list (.ints .i64 xs)), (1, AV.int .i64 v)], todo := [.code a116.code], defs := [], rnd := none, ret := false, res := [ARes.tmp 4] }]
theorem f116e_at (xs : List Int) (v : Int) : enterA tab 116 [AV.list (.ints .i64 xs), AV.int .i64 v] = some { fn := 116, N := 18, env := [(0, AV.list (.ints .i64 xs)), (1, AV.int .i64 v)], todo := [.code a116.code], defs := [], rnd := none, ret := false, res := [ARes.tmp 4] } := rfl
def f116h116_0a (xs : List Int) (v : Int) (n0 : Int) : List AFrame := [{ fn := 116, N := 18, env := [(0, AV.list (.ints .i64 xs)), (1, AV.int .i64 v), (5, AV.int .i64 n0)], todo := .code (ACode.gh [] l116_0) :: k116_0, defs := [], rnd := none, ret := false, res := [ARes.tmp 4] }]
def f116h116_0am (xs : List Int) (v : Int) (n0 : Int) : AHeap := []
theorem f116p0 (A : Ar) (xs : List Int) (v : Int) : gwalkL A tab BO8 12 [] (f116e xs v) [] =
  some ([true, true],
   f116h116_0a (xs) (v) (0), f116h116_0am (xs) (v) (0)) := by kernel_rfl
theorem f116p1 (A : Ar) (xs : List Int) (v : Int) (n0 : Int) : gfin A tab BO8 28 [true, true] 116 (f116h116_0a xs v n0) (f116h116_0am xs v n0) =
  some ([A.and true (A.and true true), true, A.eq (A.nth xs (A.nat n0)) v, true, true, A.eqN 0 0, A.and (A.and (A.le 0 n0) (A.ltN (A.nat n0) (A.len xs))) (A.eqN 1 1), true, true, A.lt n0 (A.int (A.len xs)), true, true, true, true],
   AV.bool true, none) := by kernel_rfl
theorem f116p2 (A : Ar) (xs : List Int) (v : Int) (n0 : Int) : gwalkL A tab BO8 32 [true, false] (f116h116_0a xs v n0) (f116h116_0am xs v n0) =
  some ([true, A.inR .i64 (A.add n0 1), true, !A.eq (A.nth xs (A.nat n0)) v, true, true, A.eqN 0 0, A.and (A.and (A.le 0 n0) (A.ltN (A.nat n0) (A.len xs))) (A.eqN 1 1), true, true, A.lt n0 (A.int (A.len xs)), true, true, true, true],
   f116h116_0a (xs) (v) (A.add n0 1), f116h116_0am (xs) (v) (A.add n0 1)) := by kernel_rfl
theorem f116p3 (A : Ar) (xs : List Int) (v : Int) (n0 : Int) : gfin A tab BO8 16 [false] 116 (f116h116_0a xs v n0) (f116h116_0am xs v n0) =
  some ([A.and true (A.and true true), true, !A.lt n0 (A.int (A.len xs)), true, true, true, true],
   AV.bool false, none) := by kernel_rfl
end Go.Proofs.Ytjhdnpmojhkbjaa
/- Contracts as a list. No condition. -/
namespace Go.Proofs.Ytjhdnpmojhkbjaa
theorem modI_emod (x : Int) : modI x 64 = x % 64 := by
  unfold modI
  rcases Int.le_total 0 x with h | h
  · rw [Int.tmod_eq_emod_of_nonneg h]
    omega
  · obtain ⟨y, rfl⟩ : ∃ y, x = -y := ⟨-x, by omega⟩
    rw [Int.neg_tmod, Int.tmod_eq_emod_of_nonneg (by omega : (0 : Int) ≤ y)]
    omega
def nearI (n c : Int) : Int := if modI (c - n) 64 ≤ 32 then n + modI (c - n) 64 else n + modI (c - n) 64 - 64
theorem near_loop {C : Ctx} (hC : C.P = Try.prog) (n c : Int) (hn : -400000 ≤ n ∧ n ≤ 400000) (hc : -400000 ≤ c ∧ c ≤ 400000) : ∀ (d : Nat) (k best : Int), (n + 65 - k).toNat = d → n - 64 ≤ k → k ≤ n + 65 → -800064 ≤ best - n → best - n ≤ 800064 → (best - c) % 64 = 0 → (∀ t, n - 64 ≤ t → t < k → (t - c) % 64 = 0 → sizeI (best - n) < sizeI (t - n) ∨ sizeI (best - n) = sizeI (t - n) ∧ t ≤ best) →
    Ev C (f115h115_0a n c k best) (f115h115_0am n c k best) (FinQ 115 (.int .i64 (nearI n c)) none) := by
  intro d
  induction d with
  | zero =>
    intro k best hd h1 h2 h3 h3' h4 h5
    have hres : best = nearI n c := by
      have ht := h5 (nearI n c) (by unfold nearI; rw [modI_emod]; split <;> omega) (by unfold nearI; rw [modI_emod]; split <;> omega) (by unfold nearI; rw [modI_emod]; split <;> omega)
      clear h5
      unfold sizeI at ht
      unfold nearI at ht ⊢
      rw [modI_emod] at ht ⊢
      split at ht <;> rename_i hh
      · rw [if_pos hh]; omega
      · rw [if_neg hh]; omega
    exact fin hC BO8_ok (f115p4 std n c k best) (by simp; omega) (by rw [hres]) rfl
  | succ d ih =>
    intro k best hd h1 h2 h3 h3' h4 h5
    have b1 : smallB (k - n) = true := decide_eq_true ⟨by omega, by omega⟩
    have b2 : smallB (best - n) = true := decide_eq_true ⟨by omega, by omega⟩
    by_cases hm : modI (k - c) 64 = 0
    · by_cases hs : sizeI (k - n) ≤ sizeI (best - n)
      · refine go hC BO8_ok (f115p1 std n c k best) (by simp [b1, b2, hm, hs]; omega) (ih (k + 1) k (by omega) (by omega) (by omega) (by omega) (by omega) (by rw [← modI_emod]; exact hm) fun t t1 t2 t3 => ?_)
        rcases Int.lt_or_le t k with h | h
        · have := h5 t t1 h t3
          clear h5 ih
          unfold sizeI at *
          omega
        · have : t = k := by omega
          subst this
          exact .inr ⟨rfl, Int.le_refl _⟩
      · refine go hC BO8_ok (f115p2 std n c k best) (by simp [b1, b2, hm, hs]; omega) (ih (k + 1) best (by omega) (by omega) (by omega) h3 h3' h4 fun t t1 t2 t3 => ?_)
        rcases Int.lt_or_le t k with h | h
        · exact h5 t t1 h t3
        · have : t = k := by omega
          subst this
          exact .inl (by omega)
    · refine go hC BO8_ok (f115p3 std n c k best) (by simp [hm]; omega) (ih (k + 1) best (by omega) (by omega) (by omega) h3 h3' h4 fun t t1 t2 t3 => ?_)
      rcases Int.lt_or_le t k with h | h
      · exact h5 t t1 h t3
      · have : t = k := by omega
        subst this
        exact absurd (by rw [modI_emod]; exact t3) hm
def nearB (n c : Int) : Bool := decide ((-400000 ≤ n ∧ n ≤ 400000) ∧ (-400000 ≤ c ∧ c ≤ 400000))
theorem near115 (n c : Int) (h : nearB n c = true) : Pure Try.prog 115 [.int .i64 n, .int .i64 c] (.int .i64 (nearI n c)) none :=
  start (f115e_at n c) fun C hC => by
    obtain ⟨h1, h2⟩ := of_decide_eq_true h
    refine go hC BO8_ok (f115p0 std n c) (by simp; omega) ?_
    exact near_loop hC n c h1 h2 _ (n - 64) c rfl (by omega) (by omega) (by omega) (by omega) (by omega) (fun t t1 t2 _ => absurd t2 (by omega))
def hasN (xs : List Int) (v : Int) : Bool := xs.any fun x => decide (x = v)
theorem has_loop {C : Ctx} (hC : C.P = Try.prog) (xs : List Int) (v : Int) (hl : xs.length ≤ 1000000) : ∀ (d i : Nat), xs.length - i = d → i ≤ xs.length → Ev C (f116h116_0a xs v i) (f116h116_0am xs v i) (FinQ 116 (.bool (hasN (xs.drop i) v)) none) := by
  intro d
  induction d with
  | zero =>
    intro i hd hi
    exact fin hC BO8_ok (f116p3 std xs v i) (by simp; omega) (by rw [List.drop_of_length_le (by omega)]; rfl) rfl
  | succ d ih =>
    intro i hd hi
    have hlt : i < xs.length := by omega
    have hget : xs.getD i 0 = xs[i] := by simp [hlt]
    unfold hasN
    rw [List.drop_eq_getElem_cons hlt, List.any_cons]
    by_cases h : xs[i] = v
    · exact fin hC BO8_ok (f116p1 std xs v i) (by simp [hlt, h]) (by simp [h]) rfl
    · have := ih (i + 1) (by omega) (by omega)
      rw [decide_eq_false h, Bool.false_or]
      exact go hC BO8_ok (f116p2 std xs v i) (by simp [hlt, h]; omega) this
theorem has116 (xs : List Int) (v : Int) (hl : xs.length ≤ 1000000) : Pure Try.prog 116 [.list (.ints .i64 xs), .int .i64 v] (.bool (hasN xs v)) none :=
  start (f116e_at xs v) fun C hC => go hC BO8_ok (f116p0 std xs v) (by simp) (has_loop hC xs v hl xs.length 0 (by omega) (by omega))
def k115 : Ctr := ⟨115, 0, fun _ a => match a with | [.int .i64 n, .int .i64 c] => some (decide (nearB n c = true), .int .i64 (nearI n c), none) | _ => none⟩
theorem k115_ok : k115.OK Try.prog := fun pa args r fr h => by
  simp only [k115] at h
  split at h
  · simp only [Option.some.injEq, Prod.mk.injEq, decide_eq_true_eq] at h
    obtain ⟨h0, rfl, rfl⟩ := h
    exact near115 _ _ h0
  · cases h
def k116 : Ctr := ⟨116, 0, fun _ a => match a with | [.list (.ints .i64 xs), .int .i64 v] => some (decide (xs.length ≤ 1000000), .bool (hasN xs v), none) | _ => none⟩
theorem k116_ok : k116.OK Try.prog := fun pa args r fr h => by
  simp only [k116] at h
  split at h
  · simp only [Option.some.injEq, Prod.mk.injEq, decide_eq_true_eq] at h
    obtain ⟨h0, rfl, rfl⟩ := h
    exact has116 _ _ h0
  · cases h
def BO9 : List Ctr := [k115, k116] ++ BO8
theorem BO9_ok : CtrsOK Try.prog BO9 := ⟨k115_ok, ⟨k116_ok, BO8_ok⟩⟩
end Go.Proofs.Ytjhdnpmojhkbjaa
/- Paths of functions, printed by the explorer (Gx). No condition. -/
namespace Go.Proofs.Ytjhdnpmojhkbjaa
set_option maxRecDepth 100000
set_option linter.unusedVariables false
def f72e (c : Int) (fs : List AV) : List AFrame := [{ fn := 72, N := 107, env := [(0, AV.int .i64 c), (1, AV.list (Row.big (Sh.agg [Sh.int .i64, Sh.int .i64, Sh.int .i64, Sh.ints .i64]) fs))], todo := [.code a72.code], defs := [], rnd := none, ret := false, res := [ARes.tmp 4, ARes.tmp 5] }]
theorem f72e_at (c : Int) (fs : List AV) : enterA tab 72 [AV.int .i64 c, AV.list (Row.big (Sh.agg [Sh.int .i64, Sh.int .i64, Sh.int .i64, Sh.ints .i64]) fs)] = some { fn := 72, N := 107, env := [(0, AV.int .i64 c), (1, AV.list (Row.big (Sh.agg [Sh.int .i64, Sh.int .i64, Sh.int .i64, Sh.ints .i64]) fs))], todo := [.code a72.code], defs := [], rnd := none, ret := false, res := [ARes.tmp 4, ARes.tmp 5] } := rfl
def f72h72_0a (c : Int) (fs : List AV) (n0 : Int) : List AFrame := [{ fn := 72, N := 107, env := [(0, AV.int .i64 c), (1, AV.list (Row.big (Sh.agg [Sh.int .i64, Sh.int .i64, Sh.int .i64, Sh.ints .i64]) fs)), (6, AV.nils), (7, AV.nils), (8, AV.int .i64 0), (9, AV.bool false), (10, AV.int .i64 n0)], todo := .code (ACode.gh [] l72_0) :: k72_0, defs := [], rnd := none, ret := false, res := [ARes.tmp 4, ARes.tmp 5] }]
def f72h72_0am (c : Int) (fs : List AV) (n0 : Int) : AHeap := []
def f72h116_0a (c : Int) (fs : List AV) (n0 : Int) (n1 : Int) (n2 : Int) (n3 : Int) (n4 : Int) (n5 : Int) : List AFrame := [{ fn := 116, N := 18, env := [(0, AV.nils), (1, AV.int .i64 n1), (5, AV.int .i64 0)], todo := .code (ACode.gh [] l116_0) :: k116_0, defs := [], rnd := none, ret := false, res := [ARes.tmp 4] }, { fn := 72, N := 107, env := [(0, AV.int .i64 c), (1, AV.list (Row.big (Sh.agg [Sh.int .i64, Sh.int .i64, Sh.int .i64, Sh.ints .i64]) fs)), (6, AV.nils), (7, AV.nils), (8, AV.int .i64 n2), (9, AV.bool true), (10, AV.int .i64 n0), (11, AV.int .i64 n3), (33, AV.bool false), (41, AV.int .i64 n4), (42, AV.nils), (43, AV.int .i64 n5)], todo := AItem.inReg [oN 44 (OpK.ncall true 0 116 [Opd.t 42, Opd.t 43])] :: .code (ACode.cond (Opd.t 44) (ACode.exit 1) ACode.skip) :: .code (ACode.seq (ACode.reg none [oN 12 (OpK.mov (Opd.c (AV.int .i64 0)))]) (ACode.seq (ACode.block 2 (ACode.loop b72_2)) s72_3)) :: AItem.inBlock 1 :: .code s72_1 :: k72_0, defs := [], rnd := none, ret := false, res := [ARes.tmp 4, ARes.tmp 5] }]
def f72h116_0am (c : Int) (fs : List AV) (n0 : Int) (n1 : Int) (n2 : Int) (n3 : Int) (n4 : Int) (n5 : Int) : AHeap := []
def f72h72_2a (c : Int) (fs : List AV) (n0 : Int) (n2 : Int) (n3 : Int) : List AFrame := [{ fn := 72, N := 107, env := [(0, AV.int .i64 c), (1, AV.list (Row.big (Sh.agg [Sh.int .i64, Sh.int .i64, Sh.int .i64, Sh.ints .i64]) fs)), (6, AV.nils), (7, AV.nils), (8, AV.int .i64 n2), (9, AV.bool true), (10, AV.int .i64 n0), (11, AV.int .i64 n3), (12, AV.int .i64 0)], todo := .code (ACode.gh [] l72_2) :: k72_2, defs := [], rnd := none, ret := false, res := [ARes.tmp 4, ARes.tmp 5] }]
def f72h72_2am (c : Int) (fs : List AV) (n0 : Int) (n2 : Int) (n3 : Int) : AHeap := []
def f72h72_1a (c : Int) (fs : List AV) (n6 : Int) (x7 : List AV) (l8 : List Int) (n9 : Int) (n10 : Int) (n11 : Int) (n12 : Int) : List AFrame := [{ fn := 72, N := 107, env := [(0, AV.int .i64 c), (1, AV.list (Row.big (Sh.agg [Sh.int .i64, Sh.int .i64, Sh.int .i64, Sh.ints .i64]) fs)), (6, AV.row 72066 0), (7, AV.row 72070 0), (8, AV.int .i64 n9), (9, AV.bool true), (10, AV.int .i64 n10), (11, AV.int .i64 n11), (12, AV.int .i64 n12), (13, AV.int .i64 n6)], todo := .code (ACode.gh [] l72_1) :: k72_1, defs := [], rnd := none, ret := false, res := [ARes.tmp 4, ARes.tmp 5] }]
def f72h72_1am (c : Int) (fs : List AV) (n6 : Int) (x7 : List AV) (l8 : List Int) (n9 : Int) (n10 : Int) (n11 : Int) (n12 : Int) : AHeap := [(72066, { base := 0, blks := [Blk.row 74 4 (Row.big (Sh.agg [Sh.int .i64, Sh.int .i64, Sh.int .i64, Sh.ints .i64]) x7)] }), (72070, { base := 0, blks := [Blk.row 3 1 (.ints .i64 l8)] })]
def f72h72_0b (c : Int) (fs : List AV) (n13 : Int) (x14 : List AV) (l15 : List Int) (n16 : Int) : List AFrame := [{ fn := 72, N := 107, env := [(0, AV.int .i64 c), (1, AV.list (Row.big (Sh.agg [Sh.int .i64, Sh.int .i64, Sh.int .i64, Sh.ints .i64]) fs)), (6, AV.row 72066 0), (7, AV.row 72070 0), (8, AV.int .i64 n16), (9, AV.bool true), (10, AV.int .i64 n13)], todo := .code (ACode.gh [] l72_0) :: k72_0, defs := [], rnd := none, ret := false, res := [ARes.tmp 4, ARes.tmp 5] }]
def f72h72_0bm (c : Int) (fs : List AV) (n13 : Int) (x14 : List AV) (l15 : List Int) (n16 : Int) : AHeap := [(72066, { base := 0, blks := [Blk.row 74 4 (Row.big (Sh.agg [Sh.int .i64, Sh.int .i64, Sh.int .i64, Sh.ints .i64]) x14)] }), (72070, { base := 0, blks := [Blk.row 3 1 (.ints .i64 l15)] })]
def f72h72_2b (c : Int) (fs : List AV) (n13 : Int) (x14 : List AV) (l15 : List Int) (n17 : Int) (n18 : Int) (n19 : Int) : List AFrame := [{ fn := 72, N := 107, env := [(0, AV.int .i64 c), (1, AV.list (Row.big (Sh.agg [Sh.int .i64, Sh.int .i64, Sh.int .i64, Sh.ints .i64]) fs)), (6, AV.row 72066 0), (7, AV.row 72070 0), (8, AV.int .i64 n17), (9, AV.bool true), (10, AV.int .i64 n13), (11, AV.int .i64 n18), (12, AV.int .i64 n19)], todo := .code (ACode.gh [] l72_2) :: k72_2, defs := [], rnd := none, ret := false, res := [ARes.tmp 4, ARes.tmp 5] }]
def f72h72_2bm (c : Int) (fs : List AV) (n13 : Int) (x14 : List AV) (l15 : List Int) (n17 : Int) (n18 : Int) (n19 : Int) : AHeap := [(72066, { base := 0, blks := [Blk.row 74 4 (Row.big (Sh.agg [Sh.int .i64, Sh.int .i64, Sh.int .i64, Sh.ints .i64]) x14)] }), (72070, { base := 0, blks := [Blk.row 3 1 (.ints .i64 l15)] })]
theorem f72p0 (A : Ar) (c : Int) (fs : List AV) : gwalkL A tab BO9 26 [] (f72e c fs) [] =
  some ([true, true, true, true, true, true, true],
   f72h72_0a (c) (fs) (0), f72h72_0am (c) (fs) (0)) := by kernel_rfl
theorem f72p1 (A : Ar) (c : Int) (fs : List AV) (n0 : Int) : gwalkL A tab BO9 34 [true, true] (f72h72_0a c fs n0) (f72h72_0am c fs n0) =
  some ([true, A.inR .i64 (A.add n0 1), true, A.not (A.eq ((A.nthA fs (A.nat n0)).cellAt 0).toI c), true, true, A.ltN 0 4, true, A.and (A.and (A.le 0 n0) (A.ltN (A.nat n0) (A.lenA fs))) (A.eqN 4 4), true, true, A.lt n0 (A.int (A.lenA fs)), true, true, true, true],
   f72h72_0a (c) (fs) (A.add n0 1), f72h72_0am (c) (fs) (A.add n0 1)) := by kernel_rfl
theorem f72p2 (A : Ar) (c : Int) (fs : List AV) (n0 : Int) : gwalkL A tab BO9 69 [true, false, false] (f72h72_0a c fs n0) (f72h72_0am c fs n0) =
  some ([true, true, true, true, true, true, true, true, true, true, A.inR .i64 (A.add ((A.nthA fs (A.nat n0)).cellAt 1).toI 64), A.ltN 1 4, true, A.and (A.and (A.le 0 n0) (A.ltN (A.nat n0) (A.lenA fs))) (A.eqN 4 4), true, true, !A.not (A.eq ((A.nthA fs (A.nat n0)).cellAt 0).toI c), true, true, A.ltN 0 4, true, A.and (A.and (A.le 0 n0) (A.ltN (A.nat n0) (A.lenA fs))) (A.eqN 4 4), true, true, A.lt n0 (A.int (A.lenA fs)), true, true, true, true],
   f72h116_0a (c) (fs) (n0) (A.add ((A.nthA fs (A.nat n0)).cellAt 1).toI 64) (A.add ((A.nthA fs (A.nat n0)).cellAt 1).toI 64) (A.add ((A.nthA fs (A.nat n0)).cellAt 1).toI 64) (A.add ((A.nthA fs (A.nat n0)).cellAt 1).toI 64) (A.add ((A.nthA fs (A.nat n0)).cellAt 1).toI 64), f72h116_0am (c) (fs) (n0) (A.add ((A.nthA fs (A.nat n0)).cellAt 1).toI 64) (A.add ((A.nthA fs (A.nat n0)).cellAt 1).toI 64) (A.add ((A.nthA fs (A.nat n0)).cellAt 1).toI 64) (A.add ((A.nthA fs (A.nat n0)).cellAt 1).toI 64) (A.add ((A.nthA fs (A.nat n0)).cellAt 1).toI 64)) := by kernel_rfl
theorem f72p3 (A : Ar) (c : Int) (fs : List AV) (n0 : Int) : gfin A tab BO9 19 [false] 72 (f72h72_0a c fs n0) (f72h72_0am c fs n0) =
  some ([A.and true (A.and true (A.and true true)), true, true, true, true, !A.lt n0 (A.int (A.lenA fs)), true, true, true, true],
   AV.tup [AV.nils, AV.nils], none) := by kernel_rfl
theorem f72p4 (A : Ar) (c : Int) (fs : List AV) (n0 : Int) (n1 : Int) (n2 : Int) (n3 : Int) (n4 : Int) (n5 : Int) : gwalkL A tab BO9 28 [false, false] (f72h116_0a c fs n0 n1 n2 n3 n4 n5) (f72h116_0am c fs n0 n1 n2 n3 n4 n5) =
  some ([true, true, true, true, !A.lt 0 (A.int 0), true, true, true, true],
   f72h72_2a (c) (fs) (n0) (n2) (n3), f72h72_2am (c) (fs) (n0) (n2) (n3)) := by kernel_rfl
theorem f72p5 (A : Ar) (c : Int) (fs : List AV) (n0 : Int) (n2 : Int) (n3 : Int) : gwalkL A tab BO9 51 [false, false, false, false, false, false, false, false] (f72h72_2a c fs n0 n2 n3) (f72h72_2am c fs n0 n2 n3) =
  some ([true, A.inR .i64 (A.sub (A.int (A.len [n3])) 1), true, true, true, A.and (A.and true (A.eqN 1 1)) (A.and (A.leN (A.len [n3]) 4294967296) (A.ltN 0 (A.len [n3]))), List.all [AV.int .i64 n3] fun x => AV.bx x && Nat.beq (flatLen A x) 1, true, true, true, A.and (A.and true (A.eqN 4 4)) (A.and (A.leN (A.lenA [AV.agg (Row.gen [.int .i64 ((A.nthA fs (A.nat n0)).cellAt 0).toI, .int .i64 ((A.nthA fs (A.nat n0)).cellAt 1).toI, .int .i64 ((A.nthA fs (A.nat n0)).cellAt 2).toI, .list (.ints .i64 ((A.nthA fs (A.nat n0)).cellAt 3).toIs)])]) 4294967296) (A.ltN 0 (A.lenA [AV.agg (Row.gen [.int .i64 ((A.nthA fs (A.nat n0)).cellAt 0).toI, .int .i64 ((A.nthA fs (A.nat n0)).cellAt 1).toI, .int .i64 ((A.nthA fs (A.nat n0)).cellAt 2).toI, .list (.ints .i64 ((A.nthA fs (A.nat n0)).cellAt 3).toIs)])]))), List.all [AV.agg (Row.gen [.int .i64 ((A.nthA fs (A.nat n0)).cellAt 0).toI, .int .i64 ((A.nthA fs (A.nat n0)).cellAt 1).toI, .int .i64 ((A.nthA fs (A.nat n0)).cellAt 2).toI, .list (.ints .i64 ((A.nthA fs (A.nat n0)).cellAt 3).toIs)])] fun x => AV.bx x && Nat.beq (flatLen A x) 4, A.leN (A.addN 0 4) 4, A.and (A.and (A.le 0 n0) (A.ltN (A.nat n0) (A.lenA fs))) (A.eqN 4 4), true, true, true, true, true, true, true, true, true, true, true, true, true, true, true, true, true, !A.lt 0 (A.int 0), true, true, true, true, true],
   f72h72_1a (c) (fs) (A.sub (A.int (A.len [n3])) 1) ([AV.agg (Row.gen [.int .i64 ((A.nthA fs (A.nat n0)).cellAt 0).toI, .int .i64 ((A.nthA fs (A.nat n0)).cellAt 1).toI, .int .i64 ((A.nthA fs (A.nat n0)).cellAt 2).toI, .list (.ints .i64 ((A.nthA fs (A.nat n0)).cellAt 3).toIs)])]) ([n3]) (n2) (n0) (n3) (0), f72h72_1am (c) (fs) (A.sub (A.int (A.len [n3])) 1) ([AV.agg (Row.gen [.int .i64 ((A.nthA fs (A.nat n0)).cellAt 0).toI, .int .i64 ((A.nthA fs (A.nat n0)).cellAt 1).toI, .int .i64 ((A.nthA fs (A.nat n0)).cellAt 2).toI, .list (.ints .i64 ((A.nthA fs (A.nat n0)).cellAt 3).toIs)])]) ([n3]) (n2) (n0) (n3) (0)) := by kernel_rfl
theorem f72p6 (A : Ar) (c : Int) (fs : List AV) (n6 : Int) (x7 : List AV) (l8 : List Int) (n9 : Int) (n10 : Int) (n11 : Int) (n12 : Int) : gwalkL A tab BO9 21 [true] (f72h72_1a c fs n6 x7 l8 n9 n10 n11 n12) (f72h72_1am c fs n6 x7 l8 n9 n10 n11 n12) =
  some ([true, A.inR .i64 (A.sub n6 1), true, A.and (A.ltN (A.nat n6) (A.len l8)) (A.and (A.and true (A.eqN 0 0)) (A.and (A.eqN 1 1) (A.eqN 1 1))), A.and (A.eqN 1 1) (A.and (A.le 0 n6) (A.ltN (A.nat n6) (A.len l8))), A.and (A.ltN (A.nat n6) (A.lenA x7)) (A.eqN 4 4), A.and (A.eqN 4 4) (A.and (A.le 0 n6) (A.ltN (A.nat n6) (A.lenA x7))), A.and (A.ltN (A.nat (A.sub n6 1)) (A.len l8)) (A.eqN 0 0), A.and (A.eqN 1 1) (A.and (A.le 0 (A.sub n6 1)) (A.ltN (A.nat (A.sub n6 1)) (A.len l8))), A.inR .i64 (A.sub n6 1), true, true, A.and (A.ltN (A.nat (A.sub n6 1)) (A.lenA x7)) (A.leN (A.addN 0 4) 4), A.and (A.eqN 4 4) (A.and (A.le 0 (A.sub n6 1)) (A.ltN (A.nat (A.sub n6 1)) (A.lenA x7))), A.inR .i64 (A.sub n6 1), true, true, true, true, true, true, A.lt n12 n6, true, true, true],
   f72h72_1a (c) (fs) (A.sub n6 1) (A.setA x7 (A.nat n6) (AV.agg (Row.gen [.int .i64 ((A.nthA x7 (A.nat (A.sub n6 1))).cellAt 0).toI, .int .i64 ((A.nthA x7 (A.nat (A.sub n6 1))).cellAt 1).toI, .int .i64 ((A.nthA x7 (A.nat (A.sub n6 1))).cellAt 2).toI, .list (.ints .i64 ((A.nthA x7 (A.nat (A.sub n6 1))).cellAt 3).toIs)]))) (A.set l8 (A.nat n6) (A.nth l8 (A.nat (A.sub n6 1)))) (n9) (n10) (n11) (n12), f72h72_1am (c) (fs) (A.sub n6 1) (A.setA x7 (A.nat n6) (AV.agg (Row.gen [.int .i64 ((A.nthA x7 (A.nat (A.sub n6 1))).cellAt 0).toI, .int .i64 ((A.nthA x7 (A.nat (A.sub n6 1))).cellAt 1).toI, .int .i64 ((A.nthA x7 (A.nat (A.sub n6 1))).cellAt 2).toI, .list (.ints .i64 ((A.nthA x7 (A.nat (A.sub n6 1))).cellAt 3).toIs)]))) (A.set l8 (A.nat n6) (A.nth l8 (A.nat (A.sub n6 1)))) (n9) (n10) (n11) (n12)) := by kernel_rfl
theorem f72p7 (A : Ar) (c : Int) (fs : List AV) (n6 : Int) (x7 : List AV) (l8 : List Int) (n9 : Int) (n10 : Int) (n11 : Int) (n12 : Int) : gwalkL A tab BO9 33 [false] (f72h72_1a c fs n6 x7 l8 n9 n10 n11 n12) (f72h72_1am c fs n6 x7 l8 n9 n10 n11 n12) =
  some ([true, A.inR .i64 (A.add n10 1), true, A.and (A.ltN (A.nat n12) (A.len l8)) (A.and (A.and true (A.eqN 0 0)) (A.and (A.eqN 1 1) (A.eqN 1 1))), A.and (A.eqN 1 1) (A.and (A.le 0 n12) (A.ltN (A.nat n12) (A.len l8))), A.and (A.ltN (A.nat n12) (A.lenA x7)) (A.eqN 4 4), A.and (A.eqN 4 4) (A.and (A.le 0 n12) (A.ltN (A.nat n12) (A.lenA x7))), true, A.leN (A.addN 0 4) 4, A.and (A.and (A.le 0 n10) (A.ltN (A.nat n10) (A.lenA fs))) (A.eqN 4 4), true, true, true, true, true, true, !A.lt n12 n6, true, true, true],
   f72h72_0b (c) (fs) (A.add n10 1) (A.setA x7 (A.nat n12) (AV.agg (Row.gen [.int .i64 ((A.nthA fs (A.nat n10)).cellAt 0).toI, .int .i64 ((A.nthA fs (A.nat n10)).cellAt 1).toI, .int .i64 ((A.nthA fs (A.nat n10)).cellAt 2).toI, .list (.ints .i64 ((A.nthA fs (A.nat n10)).cellAt 3).toIs)]))) (A.set l8 (A.nat n12) n11) (n9), f72h72_0bm (c) (fs) (A.add n10 1) (A.setA x7 (A.nat n12) (AV.agg (Row.gen [.int .i64 ((A.nthA fs (A.nat n10)).cellAt 0).toI, .int .i64 ((A.nthA fs (A.nat n10)).cellAt 1).toI, .int .i64 ((A.nthA fs (A.nat n10)).cellAt 2).toI, .list (.ints .i64 ((A.nthA fs (A.nat n10)).cellAt 3).toIs)]))) (A.set l8 (A.nat n12) n11) (n9)) := by kernel_rfl
theorem f72p8 (A : Ar) (c : Int) (fs : List AV) (n13 : Int) (x14 : List AV) (l15 : List Int) (n16 : Int) : gwalkL A tab BO9 34 [true, true] (f72h72_0b c fs n13 x14 l15 n16) (f72h72_0bm c fs n13 x14 l15 n16) =
  some ([true, A.inR .i64 (A.add n13 1), true, A.not (A.eq ((A.nthA fs (A.nat n13)).cellAt 0).toI c), true, true, A.ltN 0 4, true, A.and (A.and (A.le 0 n13) (A.ltN (A.nat n13) (A.lenA fs))) (A.eqN 4 4), true, true, A.lt n13 (A.int (A.lenA fs)), true, true, true, true],
   f72h72_0b (c) (fs) (A.add n13 1) (x14) (l15) (n16), f72h72_0bm (c) (fs) (A.add n13 1) (x14) (l15) (n16)) := by kernel_rfl
theorem f72p9 (A : Ar) (c : Int) (fs : List AV) (n13 : Int) (x14 : List AV) (l15 : List Int) (n16 : Int) : gwalkL A tab BO9 76 [true, false, true, true] (f72h72_0b c fs n13 x14 l15 n16) (f72h72_0bm c fs n13 x14 l15 n16) =
  some ([true, A.inR .i64 (A.add n13 1), true, hasN l15 (nearI n16 ((A.nthA fs (A.nat n13)).cellAt 1).toI), A.and (A.and true (A.and true true)) (decide (List.length l15 ≤ 1000000)), true, true, true, true, true, true, A.and true (decide (nearB n16 ((A.nthA fs (A.nat n13)).cellAt 1).toI = true)), A.ltN 1 4, true, A.and (A.and (A.le 0 n13) (A.ltN (A.nat n13) (A.lenA fs))) (A.eqN 4 4), true, true, true, true, true, true, A.inR .i64 (A.add ((A.nthA fs (A.nat n13)).cellAt 1).toI 64), A.ltN 1 4, true, A.and (A.and (A.le 0 n13) (A.ltN (A.nat n13) (A.lenA fs))) (A.eqN 4 4), true, true, !A.not (A.eq ((A.nthA fs (A.nat n13)).cellAt 0).toI c), true, true, A.ltN 0 4, true, A.and (A.and (A.le 0 n13) (A.ltN (A.nat n13) (A.lenA fs))) (A.eqN 4 4), true, true, A.lt n13 (A.int (A.lenA fs)), true, true, true, true],
   f72h72_0b (c) (fs) (A.add n13 1) (x14) (l15) (nearI n16 ((A.nthA fs (A.nat n13)).cellAt 1).toI), f72h72_0bm (c) (fs) (A.add n13 1) (x14) (l15) (nearI n16 ((A.nthA fs (A.nat n13)).cellAt 1).toI)) := by kernel_rfl
theorem f72p10 (A : Ar) (c : Int) (fs : List AV) (n13 : Int) (x14 : List AV) (l15 : List Int) (n16 : Int) : gwalkL A tab BO9 77 [true, false, true, false] (f72h72_0b c fs n13 x14 l15 n16) (f72h72_0bm c fs n13 x14 l15 n16) =
  some ([true, !hasN l15 (nearI n16 ((A.nthA fs (A.nat n13)).cellAt 1).toI), A.and (A.and true (A.and true true)) (decide (List.length l15 ≤ 1000000)), true, true, true, true, true, true, A.and true (decide (nearB n16 ((A.nthA fs (A.nat n13)).cellAt 1).toI = true)), A.ltN 1 4, true, A.and (A.and (A.le 0 n13) (A.ltN (A.nat n13) (A.lenA fs))) (A.eqN 4 4), true, true, true, true, true, true, A.inR .i64 (A.add ((A.nthA fs (A.nat n13)).cellAt 1).toI 64), A.ltN 1 4, true, A.and (A.and (A.le 0 n13) (A.ltN (A.nat n13) (A.lenA fs))) (A.eqN 4 4), true, true, !A.not (A.eq ((A.nthA fs (A.nat n13)).cellAt 0).toI c), true, true, A.ltN 0 4, true, A.and (A.and (A.le 0 n13) (A.ltN (A.nat n13) (A.lenA fs))) (A.eqN 4 4), true, true, A.lt n13 (A.int (A.lenA fs)), true, true, true, true],
   f72h72_2b (c) (fs) (n13) (x14) (l15) (nearI n16 ((A.nthA fs (A.nat n13)).cellAt 1).toI) (nearI n16 ((A.nthA fs (A.nat n13)).cellAt 1).toI) (0), f72h72_2bm (c) (fs) (n13) (x14) (l15) (nearI n16 ((A.nthA fs (A.nat n13)).cellAt 1).toI) (nearI n16 ((A.nthA fs (A.nat n13)).cellAt 1).toI) (0)) := by kernel_rfl
theorem f72p11 (A : Ar) (c : Int) (fs : List AV) (n13 : Int) (x14 : List AV) (l15 : List Int) (n16 : Int) : gfin A tab BO9 19 [false] 72 (f72h72_0b c fs n13 x14 l15 n16) (f72h72_0bm c fs n13 x14 l15 n16) =
  some ([A.and true (A.and true (A.and true true)), true, true, true, true, !A.lt n13 (A.int (A.lenA fs)), true, true, true, true],
   AV.tup [AV.list (Row.big (.agg [.int .i64, .int .i64, .int .i64, .ints .i64]) x14), AV.list (.ints .i64 l15)], none) := by kernel_rfl
theorem f72p12 (A : Ar) (c : Int) (fs : List AV) (n13 : Int) (x14 : List AV) (l15 : List Int) (n17 : Int) (n18 : Int) (n19 : Int) : gwalkL A tab BO9 29 [true, true, true, true, true, true, true, true] (f72h72_2b c fs n13 x14 l15 n17 n18 n19) (f72h72_2bm c fs n13 x14 l15 n17 n18 n19) =
  some ([true, A.inR .i64 (A.add n19 1), true, A.lt (A.nth l15 (A.nat n19)) n18, true, true, true, true, true, true, A.and (A.ltN (A.nat n19) (A.len l15)) (A.eqN 0 0), true, A.and (A.eqN 1 1) (A.and (A.le 0 n19) (A.ltN (A.nat n19) (A.len l15))), true, true, true, true, A.lt n19 (A.int (A.len l15)), true, true, true, true, true],
   f72h72_2b (c) (fs) (n13) (x14) (l15) (n17) (n18) (A.add n19 1), f72h72_2bm (c) (fs) (n13) (x14) (l15) (n17) (n18) (A.add n19 1)) := by kernel_rfl
theorem f72p13 (A : Ar) (c : Int) (fs : List AV) (n13 : Int) (x14 : List AV) (l15 : List Int) (n17 : Int) (n18 : Int) (n19 : Int) : gwalkL A tab BO9 51 [true, true, true, true, true, true, true, false] (f72h72_2b c fs n13 x14 l15 n17 n18 n19) (f72h72_2bm c fs n13 x14 l15 n17 n18 n19) =
  some ([true, A.inR .i64 (A.sub (A.int (A.len (A.app l15 [n18]))) 1), true, true, true, A.and (A.and true (A.eqN 1 1)) (A.and (A.eqN 3 3) (A.and (A.eqN 1 1) (A.leN (A.addN (A.len l15) (A.len [n18])) 4294967296))), List.all [AV.int .i64 n18] fun x => AV.bx x && Nat.beq (flatLen A x) 1, true, true, true, A.and (A.and true (A.eqN 4 4)) (A.and (A.eqN 74 74) (A.and (A.eqN 4 4) (A.leN (A.addN (A.lenA x14) (A.lenA [AV.agg (Row.gen [.int .i64 ((A.nthA fs (A.nat n13)).cellAt 0).toI, .int .i64 ((A.nthA fs (A.nat n13)).cellAt 1).toI, .int .i64 ((A.nthA fs (A.nat n13)).cellAt 2).toI, .list (.ints .i64 ((A.nthA fs (A.nat n13)).cellAt 3).toIs)])])) 4294967296))), List.all [AV.agg (Row.gen [.int .i64 ((A.nthA fs (A.nat n13)).cellAt 0).toI, .int .i64 ((A.nthA fs (A.nat n13)).cellAt 1).toI, .int .i64 ((A.nthA fs (A.nat n13)).cellAt 2).toI, .list (.ints .i64 ((A.nthA fs (A.nat n13)).cellAt 3).toIs)])] fun x => AV.bx x && Nat.beq (flatLen A x) 4, A.leN (A.addN 0 4) 4, A.and (A.and (A.le 0 n13) (A.ltN (A.nat n13) (A.lenA fs))) (A.eqN 4 4), true, true, true, !A.lt (A.nth l15 (A.nat n19)) n18, true, true, true, true, true, true, A.and (A.ltN (A.nat n19) (A.len l15)) (A.eqN 0 0), true, A.and (A.eqN 1 1) (A.and (A.le 0 n19) (A.ltN (A.nat n19) (A.len l15))), true, true, true, true, A.lt n19 (A.int (A.len l15)), true, true, true, true, true],
   f72h72_1a (c) (fs) (A.sub (A.int (A.len (A.app l15 [n18]))) 1) (A.appA x14 [AV.agg (Row.gen [.int .i64 ((A.nthA fs (A.nat n13)).cellAt 0).toI, .int .i64 ((A.nthA fs (A.nat n13)).cellAt 1).toI, .int .i64 ((A.nthA fs (A.nat n13)).cellAt 2).toI, .list (.ints .i64 ((A.nthA fs (A.nat n13)).cellAt 3).toIs)])]) (A.app l15 [n18]) (n17) (n13) (n18) (n19), f72h72_1am (c) (fs) (A.sub (A.int (A.len (A.app l15 [n18]))) 1) (A.appA x14 [AV.agg (Row.gen [.int .i64 ((A.nthA fs (A.nat n13)).cellAt 0).toI, .int .i64 ((A.nthA fs (A.nat n13)).cellAt 1).toI, .int .i64 ((A.nthA fs (A.nat n13)).cellAt 2).toI, .list (.ints .i64 ((A.nthA fs (A.nat n13)).cellAt 3).toIs)])]) (A.app l15 [n18]) (n17) (n13) (n18) (n19)) := by kernel_rfl
theorem f72p14 (A : Ar) (c : Int) (fs : List AV) (n13 : Int) (x14 : List AV) (l15 : List Int) (n17 : Int) (n18 : Int) (n19 : Int) : gwalkL A tab BO9 51 [false, false, false, false, false, false, false, false] (f72h72_2b c fs n13 x14 l15 n17 n18 n19) (f72h72_2bm c fs n13 x14 l15 n17 n18 n19) =
  some ([true, A.inR .i64 (A.sub (A.int (A.len (A.app l15 [n18]))) 1), true, true, true, A.and (A.and true (A.eqN 1 1)) (A.and (A.eqN 3 3) (A.and (A.eqN 1 1) (A.leN (A.addN (A.len l15) (A.len [n18])) 4294967296))), List.all [AV.int .i64 n18] fun x => AV.bx x && Nat.beq (flatLen A x) 1, true, true, true, A.and (A.and true (A.eqN 4 4)) (A.and (A.eqN 74 74) (A.and (A.eqN 4 4) (A.leN (A.addN (A.lenA x14) (A.lenA [AV.agg (Row.gen [.int .i64 ((A.nthA fs (A.nat n13)).cellAt 0).toI, .int .i64 ((A.nthA fs (A.nat n13)).cellAt 1).toI, .int .i64 ((A.nthA fs (A.nat n13)).cellAt 2).toI, .list (.ints .i64 ((A.nthA fs (A.nat n13)).cellAt 3).toIs)])])) 4294967296))), List.all [AV.agg (Row.gen [.int .i64 ((A.nthA fs (A.nat n13)).cellAt 0).toI, .int .i64 ((A.nthA fs (A.nat n13)).cellAt 1).toI, .int .i64 ((A.nthA fs (A.nat n13)).cellAt 2).toI, .list (.ints .i64 ((A.nthA fs (A.nat n13)).cellAt 3).toIs)])] fun x => AV.bx x && Nat.beq (flatLen A x) 4, A.leN (A.addN 0 4) 4, A.and (A.and (A.le 0 n13) (A.ltN (A.nat n13) (A.lenA fs))) (A.eqN 4 4), true, true, true, true, true, true, true, true, true, true, true, true, true, true, true, true, true, !A.lt n19 (A.int (A.len l15)), true, true, true, true, true],
   f72h72_1a (c) (fs) (A.sub (A.int (A.len (A.app l15 [n18]))) 1) (A.appA x14 [AV.agg (Row.gen [.int .i64 ((A.nthA fs (A.nat n13)).cellAt 0).toI, .int .i64 ((A.nthA fs (A.nat n13)).cellAt 1).toI, .int .i64 ((A.nthA fs (A.nat n13)).cellAt 2).toI, .list (.ints .i64 ((A.nthA fs (A.nat n13)).cellAt 3).toIs)])]) (A.app l15 [n18]) (n17) (n13) (n18) (n19), f72h72_1am (c) (fs) (A.sub (A.int (A.len (A.app l15 [n18]))) 1) (A.appA x14 [AV.agg (Row.gen [.int .i64 ((A.nthA fs (A.nat n13)).cellAt 0).toI, .int .i64 ((A.nthA fs (A.nat n13)).cellAt 1).toI, .int .i64 ((A.nthA fs (A.nat n13)).cellAt 2).toI, .list (.ints .i64 ((A.nthA fs (A.nat n13)).cellAt 3).toIs)])]) (A.app l15 [n18]) (n17) (n13) (n18) (n19)) := by kernel_rfl
end Go.Proofs.Ytjhdnpmojhkbjaa
/- Contracts as a list. No condition. -/
namespace Go.Proofs.Ytjhdnpmojhkbjaa
def valF (x : AV) : AV := AV.agg (Row.gen [AV.int .i64 (AV.toI (AV.cellAt x 0)), AV.int .i64 (AV.toI (AV.cellAt x 1)), AV.int .i64 (AV.toI (AV.cellAt x 2)), AV.list (.ints .i64 (AV.toIs (AV.cellAt x 3)))])
abbrev shFr : Sh := .agg [.int .i64, .int .i64, .int .i64, .ints .i64]
def chF (x : AV) : Int := (AV.cellAt x 0).toI
def ctF (x : AV) : Int := (AV.cellAt x 1).toI
def posN (n : Int) : List Int → Nat
  | [] => 0
  | c :: l => if c < n then posN n l + 1 else 0
theorem posN_le (n : Int) : ∀ l, posN n l ≤ l.length
  | [] => Nat.le_refl _
  | c :: l => by
    unfold posN
    have := posN_le n l
    split <;> simp <;> omega
theorem posN_drop (n : Int) (l : List Int) (j : Nat) (hj : j < l.length) : posN n (l.drop j) = if l[j] < n then posN n (l.drop (j + 1)) + 1 else 0 := by
  rw [List.drop_eq_getElem_cons hj, posN]
def insAt {α : Type} (p : Nat) (x : α) (l : List α) : List α := l.take p ++ [x] ++ l.drop p
def refN (c : Int) : List AV → List AV → List Int → Int → List AV × List Int
  | [], X, K, _ => (X, K)
  | f :: fs, X, K, last => if chF f = c then
      (if hasN K (nearI last (ctF f)) = true then refN c fs X K (nearI last (ctF f))
       else refN c fs (insAt (posN (nearI last (ctF f)) K) (valF f) X) (insAt (posN (nearI last (ctF f)) K) (nearI last (ctF f)) K) (nearI last (ctF f)))
    else refN c fs X K last
def refN0 (c : Int) : List AV → List AV × List Int
  | [] => ([], [])
  | f :: fs => if chF f = c then refN c fs [valF f] [ctF f + 64] (ctF f + 64) else refN0 c fs
def ctB (fs : List AV) : Bool := fs.all fun f => decide (0 ≤ ctF f ∧ ctF f ≤ 63)
theorem nearI_ge (n c : Int) : n - 31 ≤ nearI n c ∧ nearI n c ≤ n + 32 := by
  unfold nearI; rw [modI_emod]; split <;> omega
section
variable {C : Ctx} (hC : C.P = Try.prog) {Q : List AFrame → AHeap → Prop} (c : Int) (fs : List AV)
include hC
theorem shift72 (last i n : Int) (at' : Nat) (X1 : List AV) (K1 : List Int) (hX1 : X1.length = at') (hK1 : K1.length = at')
    : ∀ (d : Nat) (T : List AV) (D : List Int) (w : AV) (e : Int) (S : List AV) (S2 : List Int), T.length = d → D.length = d → at' + d + S.length < 900000 → at' + d + S2.length < 900000 → (∀ x ∈ T, valF x = x) →
      (∀ w' e', Ev C (f72h72_1a c fs at' (X1 ++ [w'] ++ (T ++ S)) (K1 ++ [e'] ++ (D ++ S2)) last i n at') (f72h72_1am c fs at' (X1 ++ [w'] ++ (T ++ S)) (K1 ++ [e'] ++ (D ++ S2)) last i n at') Q) →
      Ev C (f72h72_1a c fs ((at' + d : Nat) : Int) (X1 ++ T ++ [w] ++ S) (K1 ++ D ++ [e] ++ S2) last i n at') (f72h72_1am c fs ((at' + d : Nat) : Int) (X1 ++ T ++ [w] ++ S) (K1 ++ D ++ [e] ++ S2) last i n at') Q := by
  intro d
  induction d with
  | zero =>
    intro T D w e S S2 hT hD _ _ _ hq
    have : T = [] := List.eq_nil_of_length_eq_zero hT
    have : D = [] := List.eq_nil_of_length_eq_zero hD
    subst T; subst D
    have := hq w e
    simpa using this
  | succ d ih =>
    intro T D w e S S2 hT hD hl hl2 hv hq
    rcases List.eq_nil_or_concat T with rfl | ⟨T, u, rfl⟩
    · simp at hT
    rcases List.eq_nil_or_concat D with rfl | ⟨D, v, rfl⟩
    · simp at hD
    rw [List.concat_eq_append] at *
    rw [List.concat_eq_append] at *
    have hu : valF u = u := hv u (by simp)
    have hT' : T.length = d := by simpa using hT
    have hD' : D.length = d := by simpa using hD
    have e0 : X1 ++ (T ++ [u]) ++ [w] ++ S = (X1 ++ T) ++ u :: w :: S := by simp
    have e0' : K1 ++ (D ++ [v]) ++ [e] ++ S2 = (K1 ++ D) ++ v :: e :: S2 := by simp
    have hw := f72p6 std c fs ((at' + (d + 1) : Nat) : Int) (X1 ++ (T ++ [u]) ++ [w] ++ S) (K1 ++ (D ++ [v]) ++ [e] ++ S2) last i n at'
    rw [e0, e0'] at hw ⊢
    have e1 : ((at' + (d + 1) : Nat) : Int) - 1 = ((at' + d : Nat) : Int) := by omega
    have g1 : ((X1 ++ T) ++ u :: w :: S).getD (at' + d) .top = u := getD_mid _ _ _ _ (by simp; omega)
    have g2 : ((K1 ++ D) ++ v :: e :: S2).getD (at' + d) 0 = v := by
      have : at' + d = (K1 ++ D).length := by simp; omega
      rw [this]; simp [List.getD_eq_getElem?_getD]
    have s1 : ((X1 ++ T) ++ u :: w :: S).set (at' + (d + 1)) u = (X1 ++ T) ++ u :: u :: S := by
      rw [List.set_append_right _ _ (by simp; omega)]
      have : at' + (d + 1) - (X1 ++ T).length = 1 := by simp; omega
      rw [this]; rfl
    have s2 : ((K1 ++ D) ++ v :: e :: S2).set (at' + (d + 1)) v = (K1 ++ D) ++ v :: v :: S2 := by
      rw [List.set_append_right _ _ (by simp; omega)]
      have : at' + (d + 1) - (K1 ++ D).length = 1 := by simp; omega
      rw [this]; rfl
    simp only [s_nat, s_nthA, s_nth, s_setA, s_set, s_sub, e1, g1, g2, Int.toNat_natCast] at hw
    rw [show (AV.agg (Row.gen [AV.int .i64 (AV.toI (AV.cellAt u 0)), AV.int .i64 (AV.toI (AV.cellAt u 1)), AV.int .i64 (AV.toI (AV.cellAt u 2)), AV.list (.ints .i64 (AV.toIs (AV.cellAt u 3)))])) = u from hu, s1, s2] at hw
    have L1 : ((X1 ++ T) ++ u :: w :: S).length = at' + d + 2 + S.length := by simp; omega
    have L2 : ((K1 ++ D) ++ v :: e :: S2).length = at' + d + 2 + S2.length := by simp; omega
    refine go hC BO9_ok hw (by simp only [s_lenA, s_len, L1, L2]; simp; omega) ?_
    have := ih T D u v (u :: S) (v :: S2) hT' hD' (by simp; omega) (by simp; omega) (fun x hx => hv x (by simp [hx])) (fun w' e' => by
      have := hq w' e'
      rw [show T ++ [u] ++ S = T ++ u :: S by simp, show D ++ [v] ++ S2 = D ++ v :: S2 by simp] at this
      exact this)
    rw [show X1 ++ T ++ [u] ++ u :: S = (X1 ++ T) ++ u :: u :: S by simp, show K1 ++ D ++ [v] ++ v :: S2 = (K1 ++ D) ++ v :: v :: S2 by simp] at this
    exact this
theorem ins72 (last i n : Int) (hi0 : 0 ≤ i) (hi : i < fs.length) (hfl : fs.length < 900000) (X : List AV) (K : List Int) (p : Nat) (hp : p ≤ X.length) (hXK : X.length = K.length) (hl : X.length < 800000) (hv : ∀ x ∈ X, valF x = x)
    (hq : Ev C (f72h72_0b c fs (i + 1) (insAt p (valF (fs.getD i.toNat .top)) X) (insAt p n K) last) (f72h72_0bm c fs (i + 1) (insAt p (valF (fs.getD i.toNat .top)) X) (insAt p n K) last) Q) :
    Ev C (f72h72_1a c fs (X.length : Int) (X ++ [valF (fs.getD i.toNat .top)]) (K ++ [n]) last i n p) (f72h72_1am c fs (X.length : Int) (X ++ [valF (fs.getD i.toNat .top)]) (K ++ [n]) last i n p) Q := by
  have l1 : (X.take p).length = p := by simp; omega
  have l2 : (K.take p).length = p := by simp; omega
  have l3 : (X.drop p).length = X.length - p := by simp
  have l4 : (K.drop p).length = X.length - p := by simp; omega
  have := shift72 hC (Q := Q) c fs last i n p (X.take p) (K.take p) l1 l2 (X.length - p) (X.drop p) (K.drop p) (valF (fs.getD i.toNat .top)) n [] [] l3 l4 (by simp; omega) (by simp; omega) (fun x hx => hv x (List.mem_of_mem_drop hx)) (fun w' e' => by
    have hw := f72p7 std c fs (p : Int) (X.take p ++ [w'] ++ (X.drop p ++ [])) (K.take p ++ [e'] ++ (K.drop p ++ [])) last i n p
    have s1 : (X.take p ++ [w'] ++ (X.drop p ++ [])).set p (valF (fs.getD i.toNat .top)) = insAt p (valF (fs.getD i.toNat .top)) X := by
      rw [List.append_assoc, List.set_append_right _ _ (by omega), l1, Nat.sub_self]; simp [insAt]
    have s2 : (K.take p ++ [e'] ++ (K.drop p ++ [])).set p n = insAt p n K := by
      rw [List.append_assoc, List.set_append_right _ _ (by omega), l2, Nat.sub_self]; simp [insAt]
    have L1 : (X.take p ++ [w'] ++ (X.drop p ++ [])).length = X.length + 1 := by simp; omega
    have L2 : (K.take p ++ [e'] ++ (K.drop p ++ [])).length = X.length + 1 := by simp; omega
    simp only [s_nat, s_nthA, s_setA, s_set, Int.toNat_natCast] at hw
    rw [show (AV.agg (Row.gen [AV.int .i64 (AV.toI (AV.cellAt (fs.getD i.toNat .top) 0)), AV.int .i64 (AV.toI (AV.cellAt (fs.getD i.toNat .top) 1)), AV.int .i64 (AV.toI (AV.cellAt (fs.getD i.toNat .top) 2)), AV.list (.ints .i64 (AV.toIs (AV.cellAt (fs.getD i.toNat .top) 3)))])) = valF (fs.getD i.toNat .top) from rfl, s1, s2] at hw
    exact go hC BO9_ok hw (by simp only [s_lenA, s_len, L1, L2]; simp; omega) hq)
  rw [show p + (X.length - p) = X.length by omega, List.take_append_drop, List.take_append_drop] at this
  simpa using this
theorem step72 (last i n : Int) (hi0 : 0 ≤ i) (hi : i < fs.length) (hfl : fs.length < 900000) (X : List AV) (K : List Int) (hXK : X.length = K.length) (hl : X.length < 800000) (hv : ∀ x ∈ X, valF x = x)
    (hq : Ev C (f72h72_0b c fs (i + 1) (insAt (posN n K) (valF (fs.getD i.toNat .top)) X) (insAt (posN n K) n K) last) (f72h72_0bm c fs (i + 1) (insAt (posN n K) (valF (fs.getD i.toNat .top)) X) (insAt (posN n K) n K) last) Q) :
    ∀ (d j : Nat), K.length - j = d → j ≤ K.length → j + posN n (K.drop j) = posN n K → Ev C (f72h72_2b c fs i X K last n j) (f72h72_2bm c fs i X K last n j) Q := by
  have hins : ∀ j : Nat, j = posN n K → j ≤ K.length → Ev C (f72h72_1a c fs (X.length : Int) (X ++ [valF (fs.getD i.toNat .top)]) (K ++ [n]) last i n j) (f72h72_1am c fs (X.length : Int) (X ++ [valF (fs.getD i.toNat .top)]) (K ++ [n]) last i n j) Q := fun j hj hjl =>
    ins72 hC c fs last i n hi0 hi hfl X K j (by omega) hXK hl hv (by rw [hj]; exact hq)
  have hlen : std.sub (std.int (std.len (std.app K [n]))) 1 = (X.length : Int) := by simp; omega
  intro d
  induction d with
  | zero =>
    intro j hd hj hp
    have hjn : j = posN n K := by
      rw [List.drop_of_length_le (by omega)] at hp; exact hp
    have hw := f72p14 std c fs i X K last n j
    rw [hlen] at hw
    refine go hC BO9_ok hw ?_ (hins j hjn hj)
    simp [AV.bx, flatLen, Row.len]
    omega
  | succ d ih =>
    intro j hd hj hp
    have hlt : j < K.length := by omega
    rw [posN_drop n K j hlt] at hp
    have hg : K.getD j 0 = K[j] := by simp [hlt]
    by_cases hc : K[j] < n
    · rw [if_pos hc] at hp
      exact go hC BO9_ok (f72p12 std c fs i X K last n j) (by simp [hlt, hc]; omega) (ih (j + 1) (by omega) (by omega) (by omega))
    · rw [if_neg hc] at hp
      have hw := f72p13 std c fs i X K last n j
      rw [hlen] at hw
      refine go hC BO9_ok hw ?_ (hins j hp hj)
      simp [AV.bx, flatLen, Row.len, hlt, hc]
      omega
theorem main72 (hfl : fs.length < 10000) (hct : ctB fs = true) : ∀ (d i : Nat) (X : List AV) (K : List Int) (last : Int), fs.length - i = d → i ≤ fs.length → X.length = K.length → X.length ≤ i → (∀ x ∈ X, valF x = x) → (-32 * (i : Int) ≤ last ∧ last ≤ 200 + 32 * i) →
    Ev C (f72h72_0b c fs i X K last) (f72h72_0bm c fs i X K last) (FinQ 72 (.tup [.list (.big shFr (refN c (fs.drop i) X K last).1), .list (.ints .i64 (refN c (fs.drop i) X K last).2)]) none) := by
  intro d
  induction d with
  | zero =>
    intro i X K last hd hi hXK hXi hv hb
    exact fin hC BO9_ok (f72p11 std c fs i X K last) (by simp; omega) (by rw [List.drop_of_length_le (by omega)]; rfl) rfl
  | succ d ih =>
    intro i X K last hd hi hXK hXi hv hb
    have hlt : i < fs.length := by omega
    have hg : fs.getD i .top = fs[i] := by simp [hlt]
    have hcti : 0 ≤ ctF fs[i] ∧ ctF fs[i] ≤ 63 := of_decide_eq_true (List.all_eq_true.mp hct _ (List.getElem_mem hlt))
    have hnr := nearI_ge last (ctF fs[i])
    rw [List.drop_eq_getElem_cons hlt, refN]
    by_cases hch : chF fs[i] = c
    · rw [if_pos hch]
      have hnb : nearB last (ctF fs[i]) = true := decide_eq_true ⟨⟨by omega, by omega⟩, by omega, by omega⟩
      have hch' : AV.toI (AV.cellAt fs[i] 0) = c := hch
      by_cases hh : hasN K (nearI last (ctF fs[i])) = true
      · rw [if_pos hh]
        have hw := f72p9 std c fs i X K last
        simp only [s_nat, s_nthA, Int.toNat_natCast, hg, hch', show AV.toI (AV.cellAt fs[i] 1) = ctF fs[i] from rfl, hnb, hh] at hw
        refine go hC BO9_ok hw (by simp [hlt]; omega) ?_
        exact ih (i + 1) X K _ (by omega) (by omega) hXK (by omega) hv (by omega)
      · rw [if_neg hh]
        have hw := f72p10 std c fs i X K last
        simp only [s_nat, s_nthA, Int.toNat_natCast, hg, hch', show AV.toI (AV.cellAt fs[i] 1) = ctF fs[i] from rfl, hnb, Bool.not_eq_true _ ▸ hh] at hw
        refine go hC BO9_ok hw (by simp [hlt]; omega) ?_
        have := step72 hC (Q := FinQ 72 (.tup [.list (.big shFr (refN c (fs.drop (i + 1)) (insAt (posN (nearI last (ctF fs[i])) K) (valF fs[i]) X) (insAt (posN (nearI last (ctF fs[i])) K) (nearI last (ctF fs[i])) K) (nearI last (ctF fs[i]))).1), .list (.ints .i64 (refN c (fs.drop (i + 1)) (insAt (posN (nearI last (ctF fs[i])) K) (valF fs[i]) X) (insAt (posN (nearI last (ctF fs[i])) K) (nearI last (ctF fs[i])) K) (nearI last (ctF fs[i]))).2)]) none) c fs (nearI last (ctF fs[i])) i (nearI last (ctF fs[i])) (by omega) (by omega) (by omega) X K hXK (by omega) hv (by
          rw [Int.toNat_natCast, hg]
          have pl := posN_le (nearI last (ctF fs[i])) K
          exact ih (i + 1) _ _ _ (by omega) (by omega) (by simp [insAt]; omega) (by simp [insAt]; omega) (fun x hx => by
            simp only [insAt, List.mem_append, List.mem_singleton] at hx
            rcases hx with (hx | hx) | hx
            · exact hv x (List.mem_of_mem_take hx)
            · rw [hx]; rfl
            · exact hv x (List.mem_of_mem_drop hx)) (by omega)) K.length 0 (by omega) (by omega) (by simp)
        exact this
    · rw [if_neg hch]
      have hw := f72p8 std c fs i X K last
      simp only [s_nat, s_nthA, Int.toNat_natCast, hg] at hw
      refine go hC BO9_ok hw ?_ (ih (i + 1) X K last (by omega) (by omega) hXK (by omega) hv (by omega))
      have hch' : ¬ AV.toI (AV.cellAt fs[i] 0) = c := hch
      simp [hlt, hch']
      omega
theorem none72 (hfl : fs.length < 10000) : ∀ (d i : Nat), fs.length - i = d → i ≤ fs.length → (∀ f ∈ fs.drop i, chF f ≠ c) → Ev C (f72h72_0a c fs i) (f72h72_0am c fs i) (FinQ 72 (.tup [.nils, .nils]) none) := by
  intro d
  induction d with
  | zero =>
    intro i hd hi _
    exact fin hC BO9_ok (f72p3 std c fs i) (by simp; omega) rfl rfl
  | succ d ih =>
    intro i hd hi hall
    have hlt : i < fs.length := by omega
    have hg : fs.getD i .top = fs[i] := by simp [hlt]
    rw [List.drop_eq_getElem_cons hlt] at hall
    have hch : ¬ AV.toI (AV.cellAt fs[i] 0) = c := hall fs[i] (List.mem_cons_self ..)
    have hw := f72p1 std c fs i
    simp only [s_nat, s_nthA, Int.toNat_natCast, hg] at hw
    exact go hC BO9_ok hw (by simp [hlt, hch]; omega) (ih (i + 1) (by omega) (by omega) fun f hf => hall f (List.mem_cons_of_mem _ hf))
theorem first72 (hfl : fs.length < 10000) (hct : ctB fs = true) : ∀ (d i : Nat), fs.length - i = d → i ≤ fs.length → (∃ f ∈ fs.drop i, chF f = c) →
    Ev C (f72h72_0a c fs i) (f72h72_0am c fs i) (FinQ 72 (.tup [.list (.big shFr (refN0 c (fs.drop i)).1), .list (.ints .i64 (refN0 c (fs.drop i)).2)]) none) := by
  intro d
  induction d with
  | zero =>
    intro i hd hi h
    rw [List.drop_of_length_le (by omega)] at h
    obtain ⟨f, hf, _⟩ := h
    cases hf
  | succ d ih =>
    intro i hd hi h
    have hlt : i < fs.length := by omega
    have hg : fs.getD i .top = fs[i] := by simp [hlt]
    have hcti : 0 ≤ ctF fs[i] ∧ ctF fs[i] ≤ 63 := of_decide_eq_true (List.all_eq_true.mp hct _ (List.getElem_mem hlt))
    rw [List.drop_eq_getElem_cons hlt] at h ⊢
    rw [refN0]
    by_cases hch : chF fs[i] = c
    · rw [if_pos hch]
      have hch' : AV.toI (AV.cellAt fs[i] 0) = c := hch
      have hw := f72p2 std c fs i
      simp only [s_nat, s_nthA, s_add, Int.toNat_natCast, hg, hch', show AV.toI (AV.cellAt fs[i] 1) = ctF fs[i] from rfl] at hw
      refine go hC BO9_ok hw (by simp [hlt]; omega) ?_
      refine go hC BO9_ok (f72p4 std c fs i _ _ _ _ _) (by simp) ?_
      have hw5 := f72p5 std c fs i (ctF fs[i] + 64) (ctF fs[i] + 64)
      simp only [s_nat, s_nthA, Int.toNat_natCast, hg] at hw5
      rw [show (AV.agg (Row.gen [AV.int .i64 (AV.toI (AV.cellAt fs[i] 0)), AV.int .i64 (AV.toI (AV.cellAt fs[i] 1)), AV.int .i64 (AV.toI (AV.cellAt fs[i] 2)), AV.list (.ints .i64 (AV.toIs (AV.cellAt fs[i] 3)))])) = valF fs[i] from rfl] at hw5
      refine go hC BO9_ok hw5 (by simp [AV.bx, flatLen, Row.len, valF, hlt]) ?_
      have := ins72 hC (Q := FinQ 72 (.tup [.list (.big shFr (refN c (fs.drop (i + 1)) [valF fs[i]] [ctF fs[i] + 64] (ctF fs[i] + 64)).1), .list (.ints .i64 (refN c (fs.drop (i + 1)) [valF fs[i]] [ctF fs[i] + 64] (ctF fs[i] + 64)).2)]) none) c fs (ctF fs[i] + 64) i (ctF fs[i] + 64) (by omega) (by omega) (by omega) [] [] 0 (by simp) rfl (by simp) (by simp) (by
        rw [Int.toNat_natCast, hg]
        exact main72 hC c fs hfl hct _ (i + 1) [valF fs[i]] [ctF fs[i] + 64] (ctF fs[i] + 64) rfl (by omega) rfl (by simp) (by intro x hx; rw [List.mem_singleton] at hx; rw [hx]; rfl) (by omega))
      rw [Int.toNat_natCast, hg] at this
      exact this
    · rw [if_neg hch]
      have hch' : ¬ AV.toI (AV.cellAt fs[i] 0) = c := hch
      have hw := f72p1 std c fs i
      simp only [s_nat, s_nthA, Int.toNat_natCast, hg] at hw
      refine go hC BO9_ok hw (by simp [hlt, hch']; omega) (ih (i + 1) (by omega) (by omega) ?_)
      obtain ⟨f, hf, h2⟩ := h
      rcases List.mem_cons.mp hf with e | e
      · exact absurd (by rw [← e]; exact h2) hch
      · exact ⟨f, e, h2⟩
end
theorem refN0_none (c : Int) : ∀ fs : List AV, (∀ f ∈ fs, chF f ≠ c) → refN0 c fs = ([], [])
  | [], _ => rfl
  | f :: fs, h => by
    rw [refN0, if_neg (h f (by simp))]
    exact refN0_none c fs fun g hg => h g (by simp [hg])
theorem ref72 (c : Int) (fs : List AV) (hfl : fs.length < 10000) (hct : ctB fs = true) : Pure Try.prog 72 [.int .i64 c, .list (.big shFr fs)] (.tup [.list (.big shFr (refN0 c fs).1), .list (.ints .i64 (refN0 c fs).2)]) none := by
  by_cases h : ∃ f ∈ fs, chF f = c
  · refine start (f72e_at c fs) fun C hC => go hC BO9_ok (f72p0 std c fs) (by simp) ?_
    exact first72 hC c fs hfl hct fs.length 0 (by omega) (by omega) h
  · have hno : ∀ f ∈ fs, chF f ≠ c := fun f hf e => h ⟨f, hf, e⟩
    rw [refN0_none c fs hno]
    have : Pure Try.prog 72 [.int .i64 c, .list (.big shFr fs)] (.tup [.nils, .nils]) none :=
      start (f72e_at c fs) fun C hC => go hC BO9_ok (f72p0 std c fs) (by simp) (none72 hC c fs hfl fs.length 0 (by omega) (by omega) hno)
    exact wk_tup this ⟨.nil _ rfl, .nil _ rfl, trivial⟩
def nmB (fs : List AV) : Bool := decide (fs.length < 10000) && ctB fs
theorem ref72' (c : Int) (fs : List AV) (h : nmB fs = true) : Pure Try.prog 72 [.int .i64 c, .list (.big shFr fs)] (.tup [.list (.big shFr (refN0 c fs).1), .list (.ints .i64 (refN0 c fs).2)]) none := by
  unfold nmB at h
  simp only [Bool.and_eq_true, decide_eq_true_eq] at h
  exact ref72 c fs h.1 h.2
def k72 : Ctr := ⟨72, 0, fun _ a => match a with | [.int .i64 c, .list (.big (.agg [.int .i64, .int .i64, .int .i64, .ints .i64]) fs)] => some (decide (nmB fs = true), .tup [.list (.big shFr (refN0 c fs).1), .list (.ints .i64 (refN0 c fs).2)], none) | _ => none⟩
theorem k72_ok : k72.OK Try.prog := fun pa args r fr h => by
  simp only [k72] at h
  split at h
  · simp only [Option.some.injEq, Prod.mk.injEq, decide_eq_true_eq] at h
    obtain ⟨h0, rfl, rfl⟩ := h
    exact ref72' _ _ h0
  · cases h
def BOa : List Ctr := [k72] ++ BO9
theorem BOa_ok : CtrsOK Try.prog BOa := ⟨k72_ok, BO9_ok⟩
end Go.Proofs.Ytjhdnpmojhkbjaa
