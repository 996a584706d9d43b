/- The end of a merge: the two halves. No condition. -/
import Derived.Test.YtjhdnpmojhkbjaaPf
import Derived.KernelRfl
namespace Go.Proofs.Ytjhdnpmojhkbjaa
theorem ZC9 {C : Ctx} (hC : C.P = Try.prog) {N : Nat} (hK : Zas Try.prog (BO5 N)) (xs Z1 Z2 Z3 : List AV) (a m b mid n st r p : Int) (hst : ¬ st < r) (hin : -1000000 ≤ n - st ∧ n - st ≤ 1000000)
    (hrot : if st < m ∧ m < n - st then Zmp xs st m (n - st) = true ∧ Zhd st.toNat m.toNat (n - st).toNat xs = Z1 else xs = Z1)
    (hle : if a < st ∧ st < mid then smB N Z1 a st mid = true ∧ Zbu a.toNat mid.toNat Z1 = Z2 else Z1 = Z2)
    (hri : if mid < n - st ∧ n - st < b then smB N Z2 mid (n - st) b = true ∧ Zbu mid.toNat b.toNat Z2 = Z3 else Z2 = Z3) :
    Ev C (Zag xs a m b mid n st r p) (Zaf xs a m b mid n st r p) (Zg8 140 140 5 (.big shN Z3) (.tup [])) := by
  have hi : std.inR .i64 (std.sub n st) = true := by
    simp; omega
  have hi' : std.inR .i64 (n - st) = true := hi
  by_cases h1 : st < m
  · by_cases h2 : m < n - st
    · rw [if_pos ⟨h1, h2⟩] at hrot
      obtain ⟨g1, e1⟩ := hrot
      subst e1
      by_cases h3 : a < st
      · by_cases h4 : st < mid
        · rw [if_pos ⟨h3, h4⟩] at hle
          obtain ⟨g2, e2⟩ := hle
          subst e2
          by_cases h5 : mid < n - st
          · by_cases h6 : n - st < b
            · rw [if_pos ⟨h5, h6⟩] at hri
              obtain ⟨g3, e3⟩ := hri
              subst e3
              exact ZdU hC hK (ZvA std N xs a m b mid n st r p) (by simp only [Zax, ZeW, g1, g2, g3, h1, h2, h3, h4, h5, h6, hst, hi']; simp) rfl rfl rfl rfl
            · rw [if_neg (fun h => h6 h.2)] at hri
              subst hri
              exact ZdU hC hK (Zwd std N xs a m b mid n st r p) (by simp only [Zax, ZeW, g1, g2, h1, h2, h3, h4, h5, h6, hst, hi']; simp) rfl rfl rfl rfl
          · rw [if_neg (fun h => h5 h.1)] at hri
            subst hri
            exact ZdU hC hK (ZxY std N xs a m b mid n st r p) (by simp only [Zax, ZeW, g1, g2, h1, h2, h3, h4, h5, hst, hi']; simp) rfl rfl rfl rfl
        · rw [if_neg (fun h => h4 h.2)] at hle
          subst hle
          by_cases h5 : mid < n - st
          · by_cases h6 : n - st < b
            · rw [if_pos ⟨h5, h6⟩] at hri
              obtain ⟨g3, e3⟩ := hri
              subst e3
              exact ZdU hC hK (Zxl std N xs a m b mid n st r p) (by simp only [Zax, ZeW, g1, g3, h1, h2, h3, h4, h5, h6, hst, hi']; simp) rfl rfl rfl rfl
            · rw [if_neg (fun h => h6 h.2)] at hri
              subst hri
              exact ZdU hC hK (ZyF std N xs a m b mid n st r p) (by simp only [Zax, ZeW, g1, h1, h2, h3, h4, h5, h6, hst, hi']; simp) rfl rfl rfl rfl
          · rw [if_neg (fun h => h5 h.1)] at hri
            subst hri
            exact ZdU hC hK (Zy4 std N xs a m b mid n st r p) (by simp only [Zax, ZeW, g1, h1, h2, h3, h4, h5, hst, hi']; simp) rfl rfl rfl rfl
      · rw [if_neg (fun h => h3 h.1)] at hle
        subst hle
        by_cases h5 : mid < n - st
        · by_cases h6 : n - st < b
          · rw [if_pos ⟨h5, h6⟩] at hri
            obtain ⟨g3, e3⟩ := hri
            subst e3
            exact ZdU hC hK (Zwk std N xs a m b mid n st r p) (by simp only [Zax, ZeW, g1, g3, h1, h2, h3, h5, h6, hst, hi']; simp) rfl rfl rfl rfl
          · rw [if_neg (fun h => h6 h.2)] at hri
            subst hri
            exact ZdU hC hK (Zvc std N xs a m b mid n st r p) (by simp only [Zax, ZeW, g1, h1, h2, h3, h5, h6, hst, hi']; simp) rfl rfl rfl rfl
        · rw [if_neg (fun h => h5 h.1)] at hri
          subst hri
          exact ZdU hC hK (ZyD std N xs a m b mid n st r p) (by simp only [Zax, ZeW, g1, h1, h2, h3, h5, hst, hi']; simp) rfl rfl rfl rfl
    · rw [if_neg (fun h => h2 h.2)] at hrot
      subst hrot
      by_cases h3 : a < st
      · by_cases h4 : st < mid
        · rw [if_pos ⟨h3, h4⟩] at hle
          obtain ⟨g2, e2⟩ := hle
          subst e2
          by_cases h5 : mid < n - st
          · by_cases h6 : n - st < b
            · rw [if_pos ⟨h5, h6⟩] at hri
              obtain ⟨g3, e3⟩ := hri
              subst e3
              exact ZdU hC hK (Zxv std N xs a m b mid n st r p) (by simp only [Zax, ZeW, g2, g3, h1, h2, h3, h4, h5, h6, hst, hi']; simp) rfl rfl rfl rfl
            · rw [if_neg (fun h => h6 h.2)] at hri
              subst hri
              exact ZdU hC hK (Zzj std N xs a m b mid n st r p) (by simp only [Zax, ZeW, g2, h1, h2, h3, h4, h5, h6, hst, hi']; simp) rfl rfl rfl rfl
          · rw [if_neg (fun h => h5 h.1)] at hri
            subst hri
            exact ZdU hC hK (Zvq std N xs a m b mid n st r p) (by simp only [Zax, ZeW, g2, h1, h2, h3, h4, h5, hst, hi']; simp) rfl rfl rfl rfl
        · rw [if_neg (fun h => h4 h.2)] at hle
          subst hle
          by_cases h5 : mid < n - st
          · by_cases h6 : n - st < b
            · rw [if_pos ⟨h5, h6⟩] at hri
              obtain ⟨g3, e3⟩ := hri
              subst e3
              exact ZdU hC hK (Zyz std N xs a m b mid n st r p) (by simp only [Zax, ZeW, g3, h1, h2, h3, h4, h5, h6, hst, hi']; simp) rfl rfl rfl rfl
            · rw [if_neg (fun h => h6 h.2)] at hri
              subst hri
              exact ZdU hC hK (ZwD std N xs a m b mid n st r p) (by simp only [Zax, ZeW, h1, h2, h3, h4, h5, h6, hst, hi']; simp) rfl rfl rfl rfl
          · rw [if_neg (fun h => h5 h.1)] at hri
            subst hri
            exact ZdU hC hK (Zyd std N xs a m b mid n st r p) (by simp only [Zax, ZeW, h1, h2, h3, h4, h5, hst, hi']; simp) rfl rfl rfl rfl
      · rw [if_neg (fun h => h3 h.1)] at hle
        subst hle
        by_cases h5 : mid < n - st
        · by_cases h6 : n - st < b
          · rw [if_pos ⟨h5, h6⟩] at hri
            obtain ⟨g3, e3⟩ := hri
            subst e3
            exact ZdU hC hK (Zye std N xs a m b mid n st r p) (by simp only [Zax, ZeW, g3, h1, h2, h3, h5, h6, hst, hi']; simp) rfl rfl rfl rfl
          · rw [if_neg (fun h => h6 h.2)] at hri
            subst hri
            exact ZdU hC hK (Zxd std N xs a m b mid n st r p) (by simp only [Zax, ZeW, h1, h2, h3, h5, h6, hst, hi']; simp) rfl rfl rfl rfl
        · rw [if_neg (fun h => h5 h.1)] at hri
          subst hri
          exact ZdU hC hK (Zw9 std N xs a m b mid n st r p) (by simp only [Zax, ZeW, h1, h2, h3, h5, hst, hi']; simp) rfl rfl rfl rfl
  · rw [if_neg (fun h => h1 h.1)] at hrot
    subst hrot
    by_cases h3 : a < st
    · by_cases h4 : st < mid
      · rw [if_pos ⟨h3, h4⟩] at hle
        obtain ⟨g2, e2⟩ := hle
        subst e2
        by_cases h5 : mid < n - st
        · by_cases h6 : n - st < b
          · rw [if_pos ⟨h5, h6⟩] at hri
            obtain ⟨g3, e3⟩ := hri
            subst e3
            exact ZdU hC hK (Zv2 std N xs a m b mid n st r p) (by simp only [Zax, ZeW, g2, g3, h1, h3, h4, h5, h6, hst, hi']; simp) rfl rfl rfl rfl
          · rw [if_neg (fun h => h6 h.2)] at hri
            subst hri
            exact ZdU hC hK (ZyU std N xs a m b mid n st r p) (by simp only [Zax, ZeW, g2, h1, h3, h4, h5, h6, hst, hi']; simp) rfl rfl rfl rfl
        · rw [if_neg (fun h => h5 h.1)] at hri
          subst hri
          exact ZdU hC hK (Zys std N xs a m b mid n st r p) (by simp only [Zax, ZeW, g2, h1, h3, h4, h5, hst, hi']; simp) rfl rfl rfl rfl
      · rw [if_neg (fun h => h4 h.2)] at hle
        subst hle
        by_cases h5 : mid < n - st
        · by_cases h6 : n - st < b
          · rw [if_pos ⟨h5, h6⟩] at hri
            obtain ⟨g3, e3⟩ := hri
            subst e3
            exact ZdU hC hK (Zwc std N xs a m b mid n st r p) (by simp only [Zax, ZeW, g3, h1, h3, h4, h5, h6, hst, hi']; simp) rfl rfl rfl rfl
          · rw [if_neg (fun h => h6 h.2)] at hri
            subst hri
            exact ZdU hC hK (ZyG std N xs a m b mid n st r p) (by simp only [Zax, ZeW, h1, h3, h4, h5, h6, hst, hi']; simp) rfl rfl rfl rfl
        · rw [if_neg (fun h => h5 h.1)] at hri
          subst hri
          exact ZdU hC hK (Zzg std N xs a m b mid n st r p) (by simp only [Zax, ZeW, h1, h3, h4, h5, hst, hi']; simp) rfl rfl rfl rfl
    · rw [if_neg (fun h => h3 h.1)] at hle
      subst hle
      by_cases h5 : mid < n - st
      · by_cases h6 : n - st < b
        · rw [if_pos ⟨h5, h6⟩] at hri
          obtain ⟨g3, e3⟩ := hri
          subst e3
          exact ZdU hC hK (Zyf std N xs a m b mid n st r p) (by simp only [Zax, ZeW, g3, h1, h3, h5, h6, hst, hi']; simp) rfl rfl rfl rfl
        · rw [if_neg (fun h => h6 h.2)] at hri
          subst hri
          exact ZdU hC hK (ZxG std N xs a m b mid n st r p) (by simp only [Zax, ZeW, h1, h3, h5, h6, hst, hi']; simp) rfl rfl rfl rfl
      · rw [if_neg (fun h => h5 h.1)] at hri
        subst hri
        exact ZdU hC hK (ZyC std N xs a m b mid n st r p) (by simp only [Zax, ZeW, h1, h3, h5, hst, hi']; simp) rfl rfl rfl rfl
end Go.Proofs.Ytjhdnpmojhkbjaa
/- The search of a merge. No condition. -/
namespace Go.Proofs.Ytjhdnpmojhkbjaa
theorem ZGC (x : Int) : std.shr x 1 = x / 2 := by
  rw [ZHJ]
  show x.fdiv 2 = x / 2
  rw [Int.fdiv_eq_ediv_of_nonneg _ (by omega)]
def kAt (xs : List AV) (i : Int) : Int := Zah (xs.getD i.toNat .top)
theorem ZkU {C : Ctx} (hC : C.P = Try.prog) {N : Nat} (hK : Zas Try.prog (BO5 N)) {Q : List AFrame → Zaa → Prop} (xs : List AV) (a m b mid n p lo hi : Int) (hL : xs.length < 1000000) (h0 : 0 ≤ lo) (hhi : hi ≤ xs.length) (hp0 : 0 ≤ p - hi + 1) (hp1 : p - lo < xs.length)
    (hq : ∀ st : Int, lo ≤ st → st ≤ hi → (lo < st → kAt xs (st - 1) ≤ kAt xs (p - (st - 1))) → (st < hi → kAt xs (p - st) < kAt xs st) → Ev C (Zag xs a m b mid n st st p) (Zaf xs a m b mid n st st p) Q) :
    ∀ (d : Nat) (s r : Int), (r - s).toNat ≤ d → lo ≤ s → s ≤ r → r ≤ hi → (lo < s → kAt xs (s - 1) ≤ kAt xs (p - (s - 1))) → (r < hi → kAt xs (p - r) < kAt xs r) → Ev C (Zag xs a m b mid n s r p) (Zaf xs a m b mid n s r p) Q := by
  intro d
  induction d with
  | zero =>
    intro s r hd h1 h2 h3 h4 h5
    have : s = r := by omega
    subst this
    exact hq s h1 h3 h4 h5
  | succ d ih =>
    intro s r hd h1 h2 h3 h4 h5
    by_cases he : s = r
    · subst he
      exact hq s h1 h3 h4 h5
    · have hc : std.shr (std.add s r) 1 = (s + r) / 2 := ZGC _
      obtain ⟨c, hcd⟩ : ∃ c, c = (s + r) / 2 := ⟨_, rfl⟩
      rw [← hcd] at hc
      have hc1 : s ≤ c := by omega
      have hc2 : c < r := by omega
      have u : std.inR .u64 (std.add s r) = true := decide_eq_true ⟨show (0 : Int) ≤ s + r by omega, show s + r ≤ 18446744073709551615 by omega⟩
      have hk : decide (ZhG (AV.toI (AV.cellAt (xs.getD (p - c).toNat .top) 4)) (AV.toI (AV.cellAt (xs.getD c.toNat .top) 4)) < 0) = decide (kAt xs (p - c) < kAt xs c) := Zfz _ _
      by_cases hlt : kAt xs (p - c) < kAt xs c
      · have hw := ZyH std N xs a m b mid n s r p
        simp only [hc, Zam, Zai, Zax, ZeW, hk] at hw
        refine go hC hK hw ?_ (ih s c (by omega) h1 hc1 (by omega) h4 fun _ => hlt)
        simp only [u]
        simp [hlt]
        omega
      · have hw := ZwK std N xs a m b mid n s r p
        simp only [hc, Zam, Zai, Zax, ZeW, hk] at hw
        refine go hC hK hw ?_ (ih (c + 1) r (by omega) (by omega) (by omega) h3 (fun _ => by rw [show c + 1 - 1 = c by omega]; omega) h5)
        simp only [u]
        simp [hlt]
        omega
end Go.Proofs.Ytjhdnpmojhkbjaa
/- Segments by their indices. No condition. -/
namespace Go.Proofs.Ytjhdnpmojhkbjaa
theorem sortedB_iff : ∀ {l : List AV}, Zgd l = true ↔ Za5 l
  | [] => by simp [Zgd, Za5]
  | x :: l => by
    unfold Zgd Za5
    rw [List.pairwise_cons, Bool.and_eq_true, sortedB_iff, List.all_eq_true]
    simp [Za5]
theorem ZAJ (xs : List AV) (i j k : Nat) (h1 : i + k < j) (h2 : j ≤ xs.length) : ((xs.take j).drop i)[k]? = some (xs.getD (i + k) .top) := by
  rw [List.getElem?_drop, List.getElem?_take_of_lt h1, List.getD_eq_getElem?_getD, List.getElem?_eq_getElem (by omega)]; rfl
theorem Zbv (xs : List AV) (i j : Nat) (h : j ≤ xs.length) : ((xs.take j).drop i).length = j - i := by simp; omega
theorem Zhf (xs : List AV) (i j k : Nat) (h1 : i + k < j) (h2 : j ≤ xs.length) (h3 : k < ((xs.take j).drop i).length) : Zah ((xs.take j).drop i)[k] = kAt xs ((i + k : Nat) : Int) := by
  have := ZAJ xs i j k h1 h2
  rw [List.getElem?_eq_getElem h3] at this
  rw [Option.some.inj this, kAt, Int.toNat_natCast]
theorem ZaR {xs : List AV} {i j : Nat} (h2 : j ≤ xs.length) (hs : Za5 ((xs.take j).drop i)) {k l : Nat} (h3 : i ≤ k) (h4 : k ≤ l) (h5 : l < j) : kAt xs k ≤ kAt xs l := by
  by_cases e : k = l
  · subst e; exact Int.le_refl _
  · have hl := Zbv xs i j h2
    have := List.pairwise_iff_getElem.mp hs (k - i) (l - i) (by omega) (by omega) (by omega)
    rw [Zhf xs i j (k - i) (by omega) h2, Zhf xs i j (l - i) (by omega) h2] at this
    rw [show i + (k - i) = k by omega, show i + (l - i) = l by omega] at this
    exact this
theorem Za8 {xs : List AV} {i j : Nat} (h2 : j ≤ xs.length) (h : ∀ k l : Nat, i ≤ k → k ≤ l → l < j → kAt xs k ≤ kAt xs l) : Za5 ((xs.take j).drop i) := by
  have hl := Zbv xs i j h2
  refine List.pairwise_iff_getElem.mpr fun p q hp hq hpq => ?_
  rw [Zhf xs i j p (by omega) h2, Zhf xs i j q (by omega) h2]
  exact h _ _ (by omega) (by omega) (by omega)
theorem Zd9 {xs : List AV} {i j : Nat} (h2 : j ≤ xs.length) {y : AV} (hy : y ∈ (xs.take j).drop i) : ∃ k : Nat, i ≤ k ∧ k < j ∧ Zah y = kAt xs k := by
  have hl := Zbv xs i j h2
  obtain ⟨p, hp, rfl⟩ := List.mem_iff_getElem.mp hy
  exact ⟨i + p, by omega, by omega, Zhf xs i j p (by omega) h2 hp⟩
theorem Zi7 (xs : List AV) (a m b : Nat) (h1 : a ≤ m) (h2 : m ≤ b) : (xs.take m).drop a ++ (xs.take b).drop m = (xs.take b).drop a := by
  have e : (xs.take b).take m = xs.take m := by rw [List.take_take, Nat.min_eq_left h2]
  have := List.take_append_drop m (xs.take b)
  rw [e] at this
  conv => rhs; rw [← this]
  by_cases hm : (xs.take m).length = m
  · rw [List.drop_append_of_le_length (by omega)]
  · have : xs.length < m := by simp at hm; omega
    have e1 : (xs.take b).drop m = [] := by rw [List.drop_eq_nil_iff]; simp; omega
    rw [e1]; simp
theorem ZhB {xs P Z S : List AV} {a b : Nat} (h : xs = P ++ Z ++ S) (ha : P.length = a) (hb : P.length + Z.length = b) : Zbu a b xs = P ++ Zau Z ++ S := by
  subst h; subst ha; subst hb
  unfold Zbu
  rw [List.append_assoc P Z S, List.take_append_of_le_length (Nat.le_refl _), List.take_length, ← List.append_assoc]
  have e1 : (P ++ Z ++ S).take (P.length + Z.length) = P ++ Z := by
    rw [List.take_append_of_le_length (by simp), ← List.length_append, List.take_length]
  have e2 : (P ++ Z ++ S).drop (P.length + Z.length) = S := by
    rw [← List.length_append, List.drop_left]
  rw [e1, e2, List.drop_left]
theorem Zv4 {xs P U V S : List AV} {a m b : Nat} (h : xs = P ++ U ++ V ++ S) (ha : P.length = a) (hm : P.length + U.length = m) (hb : P.length + U.length + V.length = b) : Zhd a m b xs = P ++ V ++ U ++ S := by
  subst h; subst ha; subst hm; subst hb
  unfold Zhd
  have e1 : (P ++ U ++ V ++ S).take P.length = P := by simp [List.append_assoc]
  have e2 : (P ++ U ++ V ++ S).take (P.length + U.length) = P ++ U := by
    rw [List.append_assoc (P ++ U), ← List.length_append, List.take_left]
  have e3 : (P ++ U ++ V ++ S).take (P.length + U.length + V.length) = P ++ U ++ V := by
    rw [← List.length_append, ← List.length_append, List.take_left]
  have e4 : (P ++ U ++ V ++ S).drop (P.length + U.length + V.length) = S := by
    rw [← List.length_append, ← List.length_append, List.drop_left]
  have e5 : (P ++ U ++ V).drop (P.length + U.length) = V := by
    rw [← List.length_append, List.drop_left]
  rw [e1, e2, e3, e4, e5, List.drop_left]
end Go.Proofs.Ytjhdnpmojhkbjaa
/- A merge from the place that its search finds. No condition. -/
namespace Go.Proofs.Ytjhdnpmojhkbjaa
theorem ZqC {xs P Z S : List AV} {a b : Nat} (h : xs = P ++ Z ++ S) (ha : P.length = a) (hb : P.length + Z.length = b) : (xs.take b).drop a = Z := by
  subst h; subst ha; subst hb
  rw [← List.length_append, List.take_left, List.drop_left]
theorem Zt7 {N : Nat} {xs P X V S : List AV} {a m b : Nat} (h : xs = P ++ X ++ V ++ S) (ha : P.length = a) (hm : P.length + X.length = m) (hb : P.length + X.length + V.length = b) (hX : 0 < X.length) (hV : 0 < V.length) (hL : xs.length < 1000000) (hn : ZaF xs = true) (sX : Za5 X) (sV : Za5 V) (hN : b - a < N) : smB N xs a m b = true := by
  have hl : xs.length = P.length + X.length + V.length + S.length := by rw [h]; simp [Nat.add_assoc]
  unfold smB
  rw [hn, ZqC (xs := xs) (P := P) (Z := X) (S := V ++ S) (by rw [h]; simp) (by simp; omega) (by simp; omega), ZqC (xs := xs) (P := P ++ X) (Z := V) (S := S) h (by simp; omega) (by simp; omega), sortedB_iff.mpr sX, sortedB_iff.mpr sV]
  simp only [Bool.and_true, decide_eq_true_eq]
  omega
theorem Zqo {C : Ctx} (hC : C.P = Try.prog) {N : Nat} (hK : Zas Try.prog (BO5 N)) (xs : List AV) (a m b mid s e : Nat) (p : Int) (h1 : a ≤ s) (h2 : s ≤ m) (h3 : m ≤ e) (h4 : e ≤ b) (h5 : b ≤ xs.length) (hmid : mid + m = s + e) (ham : a < mid) (hmb : mid < b) (hL : xs.length < 1000000) (hn : ZaF xs = true) (hs1 : Za5 ((xs.take m).drop a)) (hs2 : Za5 ((xs.take b).drop m)) (hN : b - a ≤ N)
    (q1 : m < e → s < m → kAt xs ((e - 1 : Nat) : Int) < kAt xs s) (q2 : a < s → e < b → kAt xs ((s - 1 : Nat) : Int) ≤ kAt xs e) :
    Ev C (Zag xs a m b mid (mid + m) s s p) (Zaf xs a m b mid (mid + m) s s p) (Zg8 140 140 5 (.big shN (Zbu a b xs)) (.tup [])) := by
  obtain ⟨P, hP⟩ : ∃ P, P = xs.take a := ⟨_, rfl⟩
  obtain ⟨X, hX⟩ : ∃ X, X = (xs.take s).drop a := ⟨_, rfl⟩
  obtain ⟨U, hU⟩ : ∃ U, U = (xs.take m).drop s := ⟨_, rfl⟩
  obtain ⟨V, hV⟩ : ∃ V, V = (xs.take e).drop m := ⟨_, rfl⟩
  obtain ⟨Y, hY⟩ : ∃ Y, Y = (xs.take b).drop e := ⟨_, rfl⟩
  obtain ⟨S, hS⟩ : ∃ S, S = xs.drop b := ⟨_, rfl⟩
  have lP : P.length = a := by rw [hP]; simp; omega
  have lX : X.length = s - a := by rw [hX]; exact Zbv _ _ _ (by omega)
  have lU : U.length = m - s := by rw [hU]; exact Zbv _ _ _ (by omega)
  have lV : V.length = e - m := by rw [hV]; exact Zbv _ _ _ (by omega)
  have lY : Y.length = b - e := by rw [hY]; exact Zbv _ _ _ (by omega)
  have lS : S.length = xs.length - b := by rw [hS]; simp
  have eL : (xs.take m).drop a = X ++ U := by rw [hX, hU]; exact (Zi7 xs a s m h1 h2).symm
  have eR : (xs.take b).drop m = V ++ Y := by rw [hV, hY]; exact (Zi7 xs m e b h3 h4).symm
  have hxs : xs = P ++ (X ++ U) ++ (V ++ Y) ++ S := by
    rw [← eL, ← eR, hP, hS]; exact (ZHD xs a m b (by omega) (by omega)).symm
  have sX : Za5 X := by rw [hX]; exact Za8 (by omega) fun k l r1 r2 r3 => ZaR (by omega) hs1 r1 r2 (by omega)
  have sU : Za5 U := by rw [hU]; exact Za8 (by omega) fun k l r1 r2 r3 => ZaR (by omega) hs1 (by omega) r2 (by omega)
  have sV : Za5 V := by rw [hV]; exact Za8 (by omega) fun k l r1 r2 r3 => ZaR (by omega) hs2 r1 r2 (by omega)
  have sY : Za5 Y := by rw [hY]; exact Za8 (by omega) fun k l r1 r2 r3 => ZaR (by omega) hs2 (by omega) r2 (by omega)
  have cVU : ∀ v ∈ V, ∀ u ∈ U, Zah v < Zah u := by
    intro v hv u hu
    rw [hV] at hv; rw [hU] at hu
    obtain ⟨k, k1, k2, k3⟩ := Zd9 (by omega) hv
    obtain ⟨l, l1, l2, l3⟩ := Zd9 (by omega) hu
    have t1 := ZaR (by omega) hs2 k1 (show k ≤ e - 1 by omega) (by omega)
    have t2 := ZaR (by omega) hs1 (show a ≤ s by omega) l1 l2
    have t3 := q1 (by omega) (by omega)
    omega
  have cXY : ∀ x ∈ X, ∀ y ∈ Y, Zah x ≤ Zah y := by
    intro x hx y hy
    rw [hX] at hx; rw [hY] at hy
    obtain ⟨k, k1, k2, k3⟩ := Zd9 (by omega) hx
    obtain ⟨l, l1, l2, l3⟩ := Zd9 (by omega) hy
    have t1 := ZaR (by omega) hs1 k1 (show k ≤ s - 1 by omega) (by omega)
    have t2 := ZaR (by omega) hs2 (show m ≤ e by omega) l1 l2
    have t3 := q2 (by omega) (by omega)
    omega
  have n4 : ZaF P = true ∧ ZaF X = true ∧ ZaF U = true ∧ ZaF V = true ∧ ZaF Y = true ∧ ZaF S = true := by
    rw [hxs] at hn
    simp only [Zbi, Bool.and_eq_true] at hn
    exact ⟨hn.1.1.1, hn.1.1.2.1, hn.1.1.2.2, hn.1.2.1, hn.1.2.2, hn.2⟩
  have nS : ∀ {l : List AV}, ZaF l = true → ZaF (Zau l) = true := fun hl => numsB_mem.mpr fun x hx => numsB_mem.mp hl x (mem_sort.mp hx)
  have e3 : Zbu a b xs = P ++ Zau (X ++ V) ++ Zau (U ++ Y) ++ S := by
    rw [ZhB (P := P) (Z := X ++ U ++ (V ++ Y)) (S := S) (by rw [hxs]; simp) lP (by simp; omega), Ze4 X U V Y (by rw [← eL]; exact hs1) (by rw [← eR]; exact hs2) cVU cXY]
    simp
  have i1 : ((mid : Int) + m) - s = (e : Int) := by omega
  rw [e3]
  refine ZC9 hC hK xs (P ++ X ++ V ++ U ++ Y ++ S) (P ++ Zau (X ++ V) ++ U ++ Y ++ S) _ a m b mid (mid + m) s s p (by omega) (by omega) ?_ ?_ ?_
  · rw [i1]
    split
    · rename_i hc
      refine ⟨?_, ?_⟩
      · unfold Zmp
        rw [hn]
        simp only [Bool.and_true, decide_eq_true_eq]
        omega
      · rw [Int.toNat_natCast, Int.toNat_natCast, Int.toNat_natCast, Zv4 (P := P ++ X) (U := U) (V := V) (S := Y ++ S) (by rw [hxs]; simp) (by simp; omega) (by simp; omega) (by simp; omega)]
        simp
    · rename_i hc
      rcases Nat.lt_or_ge s m with hsm | hsm
      · have : V = [] := List.eq_nil_of_length_eq_zero (by omega)
        rw [hxs, this]; simp
      · have : U = [] := List.eq_nil_of_length_eq_zero (by omega)
        rw [hxs, this]; simp
  · split
    · rename_i hc
      refine ⟨Zt7 (P := P) (X := X) (V := V) (S := U ++ Y ++ S) (by simp) lP (by omega) (by omega) (by omega) (by omega) (by simp; omega) ?_ sX sV (by omega), ?_⟩
      · simp only [Zbi, n4, Bool.and_self]
      · rw [Int.toNat_natCast, Int.toNat_natCast, ZhB (P := P) (Z := X ++ V) (S := U ++ Y ++ S) (by simp) lP (by simp; omega)]
        simp
    · rename_i hc
      have : Zau (X ++ V) = X ++ V := by
        rcases Nat.lt_or_ge a s with hsm | hsm
        · have : V = [] := List.eq_nil_of_length_eq_zero (by omega)
          rw [this, List.append_nil, Zbr sX]
        · have : X = [] := List.eq_nil_of_length_eq_zero (by omega)
          rw [this, List.nil_append, Zbr sV]
      rw [this]; simp
  · rw [i1]
    have lZ : (Zau (X ++ V)).length = X.length + V.length := by rw [Zcc]; simp
    split
    · rename_i hc
      refine ⟨Zt7 (P := P ++ Zau (X ++ V)) (X := U) (V := Y) (S := S) (by simp) (by simp; omega) (by simp; omega) (by simp; omega) (by omega) (by omega) (by simp; omega) ?_ sU sY (by omega), ?_⟩
      · have := nS (l := X ++ V) (by simp only [Zbi, n4, Bool.and_self])
        simp only [Zbi, n4, this, Bool.and_self]
      · rw [Int.toNat_natCast, Int.toNat_natCast, ZhB (P := P ++ Zau (X ++ V)) (Z := U ++ Y) (S := S) (by simp) (by simp; omega) (by simp; omega)]
    · rename_i hc
      have : Zau (U ++ Y) = U ++ Y := by
        rcases Nat.lt_or_ge mid e with hsm | hsm
        · have : Y = [] := List.eq_nil_of_length_eq_zero (by omega)
          rw [this, List.append_nil, Zbr sU]
        · have : U = [] := List.eq_nil_of_length_eq_zero (by omega)
          rw [this, List.nil_append, Zbr sY]
      rw [this]; simp
end Go.Proofs.Ytjhdnpmojhkbjaa
/- A merge with one element on a side. No condition. -/
namespace Go.Proofs.Ytjhdnpmojhkbjaa
theorem ZoD {C : Ctx} (hC : C.P = Try.prog) {N : Nat} (hK : Zas Try.prog (BO5 N)) {Q : List AFrame → Zaa → Prop} (xs : List AV) (a lo hi : Int) (hL : xs.length < 1000000) (h0 : 0 ≤ lo) (hhi : hi ≤ xs.length) (ha : 0 ≤ a) (ha2 : a < xs.length)
    (hq : ∀ st : Int, lo ≤ st → st ≤ hi → (lo < st → kAt xs (st - 1) < kAt xs a) → (st < hi → kAt xs a ≤ kAt xs st) → Ev C (ZcW st a []) (Zci st a xs) Q) :
    ∀ (d : Nat) (s r : Int), (r - s).toNat ≤ d → lo ≤ s → s ≤ r → r ≤ hi → (lo < s → kAt xs (s - 1) < kAt xs a) → (r < hi → kAt xs a ≤ kAt xs r) → Ev C (Zb3 xs a s r) (ZbF xs a s r) Q := by
  intro d
  have hfin : ∀ s : Int, lo ≤ s → s ≤ hi → (lo < s → kAt xs (s - 1) < kAt xs a) → (s < hi → kAt xs a ≤ kAt xs s) → Ev C (Zb3 xs a s s) (ZbF xs a s s) Q := fun s h1 h3 h4 h5 =>
    go hC hK (Zzx std N xs a s s) (by simp) (hq s h1 h3 h4 h5)
  induction d with
  | zero =>
    intro s r hd h1 h2 h3 h4 h5
    have : s = r := by omega
    subst this
    exact hfin s h1 h3 h4 h5
  | succ d ih =>
    intro s r hd h1 h2 h3 h4 h5
    by_cases he : s = r
    · subst he
      exact hfin s h1 h3 h4 h5
    · have hc : std.shr (std.add s r) 1 = (s + r) / 2 := ZGC _
      obtain ⟨c, hcd⟩ : ∃ c, c = (s + r) / 2 := ⟨_, rfl⟩
      rw [← hcd] at hc
      have hc1 : s ≤ c := by omega
      have hc2 : c < r := by omega
      have u : std.inR .u64 (std.add s r) = true := decide_eq_true ⟨show (0 : Int) ≤ s + r by omega, show s + r ≤ 18446744073709551615 by omega⟩
      have hk : decide (ZhG (AV.toI (AV.cellAt (xs.getD c.toNat .top) 4)) (AV.toI (AV.cellAt (xs.getD a.toNat .top) 4)) < 0) = decide (kAt xs c < kAt xs a) := Zfz _ _
      by_cases hlt : kAt xs c < kAt xs a
      · have hw := ZC1 std N xs a s r
        simp only [hc, Zam, Zai, ZeW, hk] at hw
        refine go hC hK hw ?_ (ih (c + 1) r (by omega) (by omega) (by omega) h3 (fun _ => by rw [show c + 1 - 1 = c by omega]; exact hlt) h5)
        simp only [u]
        simp [hlt]
        omega
      · have hw := ZAR std N xs a s r
        simp only [hc, Zam, Zai, ZeW, hk] at hw
        refine go hC hK hw ?_ (ih s c (by omega) h1 hc1 (by omega) h4 fun _ => by omega)
        simp only [u]
        simp [hlt]
        omega
theorem Zo0 {C : Ctx} (hC : C.P = Try.prog) {N : Nat} (hK : Zas Try.prog (BO5 N)) {Q : List AFrame → Zaa → Prop} (xs : List AV) (m lo hi : Int) (hL : xs.length < 1000000) (h0 : 0 ≤ lo) (hhi : hi ≤ xs.length) (ha : 0 ≤ m) (ha2 : m < xs.length)
    (hq : ∀ st : Int, lo ≤ st → st ≤ hi → (lo < st → kAt xs (st - 1) ≤ kAt xs m) → (st < hi → kAt xs m < kAt xs st) → Ev C (ZcQ st m []) (Zcd st m xs) Q) :
    ∀ (d : Nat) (s r : Int), (r - s).toNat ≤ d → lo ≤ s → s ≤ r → r ≤ hi → (lo < s → kAt xs (s - 1) ≤ kAt xs m) → (r < hi → kAt xs m < kAt xs r) → Ev C (ZbV xs m s r) (ZbN xs m s r) Q := by
  intro d
  have hfin : ∀ s : Int, lo ≤ s → s ≤ hi → (lo < s → kAt xs (s - 1) ≤ kAt xs m) → (s < hi → kAt xs m < kAt xs s) → Ev C (ZbV xs m s s) (ZbN xs m s s) Q := fun s h1 h3 h4 h5 =>
    go hC hK (ZE3 std N xs m s s) (by simp) (hq s h1 h3 h4 h5)
  induction d with
  | zero =>
    intro s r hd h1 h2 h3 h4 h5
    have : s = r := by omega
    subst this
    exact hfin s h1 h3 h4 h5
  | succ d ih =>
    intro s r hd h1 h2 h3 h4 h5
    by_cases he : s = r
    · subst he
      exact hfin s h1 h3 h4 h5
    · have hc : std.shr (std.add s r) 1 = (s + r) / 2 := ZGC _
      obtain ⟨c, hcd⟩ : ∃ c, c = (s + r) / 2 := ⟨_, rfl⟩
      rw [← hcd] at hc
      have hc1 : s ≤ c := by omega
      have hc2 : c < r := by omega
      have u : std.inR .u64 (std.add s r) = true := decide_eq_true ⟨show (0 : Int) ≤ s + r by omega, show s + r ≤ 18446744073709551615 by omega⟩
      have hk : decide (ZhG (AV.toI (AV.cellAt (xs.getD m.toNat .top) 4)) (AV.toI (AV.cellAt (xs.getD c.toNat .top) 4)) < 0) = decide (kAt xs m < kAt xs c) := Zfz _ _
      by_cases hlt : kAt xs m < kAt xs c
      · have hw := ZEN std N xs m s r
        simp only [hc, Zam, Zai, ZeW, hk] at hw
        refine go hC hK hw ?_ (ih s c (by omega) h1 hc1 (by omega) h4 fun _ => hlt)
        simp only [u]
        simp [hlt]
        omega
      · have hw := ZBP std N xs m s r
        simp only [hc, Zam, Zai, ZeW, hk] at hw
        refine go hC hK hw ?_ (ih (c + 1) r (by omega) (by omega) (by omega) h3 (fun _ => by rw [show c + 1 - 1 = c by omega]; omega) h5)
        simp only [u]
        simp [hlt]
        omega
theorem Zxc (T q : List AV) (x y : AV) (j : Nat) (hj : j = T.length) : ((T ++ x :: y :: q).set j y).set (j + 1) x = T ++ y :: x :: q := by
  subst hj
  rw [List.set_append_right _ _ (Nat.le_refl _), List.set_append_right _ _ (by omega), Nat.sub_self, Nat.add_sub_cancel_left]; rfl
theorem ZsM (T q : List AV) (x y : AV) (j : Nat) (hj : j = T.length) : ((T ++ x :: y :: q).set (j + 1) x).set j y = T ++ y :: x :: q := by
  subst hj
  rw [List.set_append_right _ _ (by omega), List.set_append_right _ _ (by omega), Nat.sub_self, Nat.add_sub_cancel_left]; rfl
theorem Zoc {C : Ctx} (hC : C.P = Try.prog) {N : Nat} (hK : Zas Try.prog (BO5 N)) (x : AV) (S R : List AV) (hx : Zmb x = x) : ∀ (V P : List AV) (i : Int), i = (P.length : Int) + V.length + 1 → P.length + V.length + S.length + 1 < 1000000 → (∀ y ∈ V, Zmb y = y) → P ++ V ++ [x] ++ S = R →
    Ev C (ZcW i (P.length : Int) []) (Zci i (P.length : Int) (P ++ [x] ++ V ++ S)) (Zg8 140 140 5 (.big shN R) (.tup [])) := by
  intro V
  induction V with
  | nil =>
    intro P i hi hl _ hR
    subst hi
    have hw := Zyp std N ((P.length : Int) + ([] : List AV).length + 1) P.length (P ++ [x] ++ [] ++ S)
    rw [show P ++ [x] ++ [] ++ S = R by rw [← hR]; simp] at hw ⊢
    exact ZdU hC hK hw (by simp; omega) rfl rfl rfl rfl
  | cons y V ih =>
    intro P i hi hl hv hR
    have hy : Zmb y = y := hv y (by simp)
    have hw := ZvU std N i P.length (P ++ [x] ++ (y :: V) ++ S)
    have e0 : P ++ [x] ++ (y :: V) ++ S = P ++ x :: y :: (V ++ S) := by simp
    rw [e0] at hw ⊢
    have g1 : (P ++ x :: y :: (V ++ S)).getD P.length .top = x := ZdO _ _ _ _ rfl
    have g2 : (P ++ x :: y :: (V ++ S)).getD (P.length + 1) .top = y := by
      rw [show P ++ x :: y :: (V ++ S) = (P ++ [x]) ++ y :: (V ++ S) by simp]
      exact ZdO _ _ _ _ (by simp)
    have e1 : ((P.length : Int) + 1).toNat = P.length + 1 := by omega
    simp only [Zam, Zai, Zho, ZaV, e1, g1, g2, Int.toNat_natCast] at hw
    rw [show (AV.agg (Row.gen [AV.int .i64 (AV.toI (AV.cellAt x 0)), AV.int .i64 (AV.toI (AV.cellAt x 1)), AV.int .i64 (AV.toI (AV.cellAt x 2)), AV.list (.ints .i64 (AV.toIs (AV.cellAt x 3))), AV.int .i64 (AV.toI (AV.cellAt x 4))])) = x from hx, show (AV.agg (Row.gen [AV.int .i64 (AV.toI (AV.cellAt y 0)), AV.int .i64 (AV.toI (AV.cellAt y 1)), AV.int .i64 (AV.toI (AV.cellAt y 2)), AV.list (.ints .i64 (AV.toIs (AV.cellAt y 3))), AV.int .i64 (AV.toI (AV.cellAt y 4))])) = y from hy, Zxc P (V ++ S) x y P.length rfl] at hw
    refine go hC hK hw ?_ ?_
    · simp only [List.length_cons] at hi hl
      simp
      omega
    · have := ih (P ++ [y]) i (by rw [hi]; simp; omega) (by simp at hl ⊢; omega) (fun z hz => hv z (by simp [hz])) (by rw [← hR]; simp)
      have e2 : ((P ++ [y]).length : Int) = (P.length : Int) + 1 := by simp
      rw [e2, show P ++ [y] ++ [x] ++ V ++ S = P ++ y :: x :: (V ++ S) by simp] at this
      exact this
theorem Zqn {C : Ctx} (hC : C.P = Try.prog) {N : Nat} (hK : Zas Try.prog (BO5 N)) (y : AV) (P R : List AV) (hy : Zmb y = y) : ∀ (n : Nat) (U S : List AV) (k : Int), U.length = n → k = (P.length : Int) + U.length → P.length + U.length + S.length + 1 < 1000000 → (∀ z ∈ U, Zmb z = z) → P ++ [y] ++ U ++ S = R →
    Ev C (ZcQ (P.length : Int) k []) (Zcd (P.length : Int) k (P ++ U ++ [y] ++ S)) (Zg8 140 140 5 (.big shN R) (.tup [])) := by
  intro n
  induction n with
  | zero =>
    intro U S k hU hk hl _ hR
    have : U = [] := List.eq_nil_of_length_eq_zero hU
    subst this; subst hk
    have hw := ZxM std N P.length ((P.length : Int) + ([] : List AV).length) (P ++ [] ++ [y] ++ S)
    rw [show P ++ [] ++ [y] ++ S = R by rw [← hR]; simp] at hw ⊢
    exact ZdU hC hK hw (by simp) rfl rfl rfl rfl
  | succ n ih =>
    intro U S k hU hk hl hv hR
    rcases List.eq_nil_or_concat U with rfl | ⟨T, x, rfl⟩
    · simp at hU
    · rw [List.concat_eq_append] at *
      have hx : Zmb x = x := hv x (by simp)
      have hT : T.length = n := by simpa using hU
      have e0 : P ++ (T ++ [x]) ++ [y] ++ S = (P ++ T) ++ x :: y :: S := by simp
      have hk' : k = ((P ++ T).length : Int) + 1 := by rw [hk]; simp; omega
      subst hk'
      have hw := Zxy std N P.length (((P ++ T).length : Int) + 1) (P ++ (T ++ [x]) ++ [y] ++ S)
      rw [e0] at hw ⊢
      have g1 : ((P ++ T) ++ x :: y :: S).getD (P ++ T).length .top = x := ZdO _ _ _ _ rfl
      have g2 : ((P ++ T) ++ x :: y :: S).getD ((P ++ T).length + 1) .top = y := by
        rw [show (P ++ T) ++ x :: y :: S = (P ++ T ++ [x]) ++ y :: S by simp]
        exact ZdO _ _ _ _ (by rw [List.length_append (bs := [x])]; rfl)
      have e1 : (((P ++ T).length : Int) + 1).toNat = (P ++ T).length + 1 := by omega
      have e2 : (((P ++ T).length : Int) + 1) - 1 = (P ++ T).length := by omega
      simp only [Zam, Zai, Zho, Zax, e1, e2, g1, g2, Int.toNat_natCast] at hw
      rw [show (AV.agg (Row.gen [AV.int .i64 (AV.toI (AV.cellAt x 0)), AV.int .i64 (AV.toI (AV.cellAt x 1)), AV.int .i64 (AV.toI (AV.cellAt x 2)), AV.list (.ints .i64 (AV.toIs (AV.cellAt x 3))), AV.int .i64 (AV.toI (AV.cellAt x 4))])) = x from hx, show (AV.agg (Row.gen [AV.int .i64 (AV.toI (AV.cellAt y 0)), AV.int .i64 (AV.toI (AV.cellAt y 1)), AV.int .i64 (AV.toI (AV.cellAt y 2)), AV.list (.ints .i64 (AV.toIs (AV.cellAt y 3))), AV.int .i64 (AV.toI (AV.cellAt y 4))])) = y from hy, ZsM (P ++ T) S x y (P ++ T).length rfl] at hw
      refine go hC hK hw ?_ ?_
      · simp at hl
        simp
        omega
      · have := ih T ([x] ++ S) ((P ++ T).length : Int) hT (by simp) (by simp at hl ⊢; omega) (fun z hz => hv z (by simp [hz])) (by rw [← hR]; simp)
        rw [show P ++ T ++ [y] ++ ([x] ++ S) = (P ++ T) ++ y :: x :: S by simp] at this
        exact this
end Go.Proofs.Ytjhdnpmojhkbjaa
/- The merge proved by its size. No condition. -/
namespace Go.Proofs.Ytjhdnpmojhkbjaa
theorem Zqi (xs : List AV) (k : Nat) (h : k < xs.length) : (xs.take (k + 1)).drop k = [xs.getD k .top] := by
  have := ZjO xs k k (Nat.le_refl _) h
  rw [this]; simp
theorem ZsQ {N : Nat} (hK : Zas Try.prog (BO5 N)) (xs : List AV) (a m b : Nat) (h1 : a < m) (h2 : m < b) (h3 : b ≤ xs.length) (hL : xs.length < 1000000) (hN : b - a ≤ N) (hn : ZaF xs = true) (hs1 : Za5 ((xs.take m).drop a)) (hs2 : Za5 ((xs.take b).drop m)) :
    Zk6 Try.prog 140 140 5 (.big shN xs) (.big shN (Zbu a b xs)) [.int .i64 a, .int .i64 m, .int .i64 b, .fn 119 []] (.tup []) :=
  Zgy (Zsx xs a m b) fun C hC => by
    have hv : ∀ y ∈ xs, Zmb y = y := fun y hy => ZlX (List.all_eq_true.mp hn y hy)
    have hsub : ∀ {i j : Nat} {y : AV}, y ∈ (xs.take j).drop i → y ∈ xs := fun hy => List.mem_of_mem_take (List.mem_of_mem_drop hy)
    have hcut := ZHD xs a m b (by omega) (by omega)
    have lP : (xs.take a).length = a := by simp; omega
    have lS : (xs.drop b).length = xs.length - b := by simp
    by_cases c1 : m - a = 1
    · have hm : m = a + 1 := by omega
      subst hm
      refine go hC hK (ZA6 std N xs a (a + 1 : Nat) b) (by simp; omega) ?_
      refine ZoD hC hK xs a ((a + 1 : Nat) : Int) b hL (by omega) (by omega) (by omega) (by omega) (fun st q1 q2 q3 q4 => ?_) _ ((a + 1 : Nat) : Int) b (Nat.le_refl _) (Int.le_refl _) (by omega) (Int.le_refl _) (fun h => absurd h (Int.lt_irrefl _)) (fun h => absurd h (Int.lt_irrefl _))
      obtain ⟨s, rfl⟩ := Int.eq_ofNat_of_zero_le (by omega : 0 ≤ st)
      have lV := Zbv xs (a + 1) s (by omega)
      have e1 := Zqi xs a (by omega)
      have e2 := Zi7 xs (a + 1) s b (by omega) (by omega)
      rw [e1, ← e2] at hcut
      have hR : xs.take a ++ (xs.take s).drop (a + 1) ++ [xs.getD a .top] ++ ((xs.take b).drop s ++ xs.drop b) = Zbu a b xs := by
        rw [ZhB (P := xs.take a) (Z := [] ++ [xs.getD a .top] ++ ((xs.take s).drop (a + 1) ++ (xs.take b).drop s)) (S := xs.drop b) (by rw [List.nil_append, ← List.append_assoc (xs.take a)]; exact hcut.symm) lP (by simp only [List.length_append, lP, Zbv xs (a + 1) s (by omega), Zbv xs s b (by omega)]; simp; omega)]
        have sV : Za5 ((xs.take s).drop (a + 1)) := Za8 (by omega) fun k l r1 r2 r3 => ZaR (by omega) hs2 r1 r2 (by omega)
        have sW : Za5 ((xs.take b).drop s) := Za8 (by omega) fun k l r1 r2 r3 => ZaR (by omega) hs2 (by omega) r2 (by omega)
        have hxW : ∀ w ∈ (xs.take b).drop s, Zah (xs.getD a .top) ≤ Zah w := by
          intro w hw
          obtain ⟨k, k1, k2, k3⟩ := Zd9 (by omega) hw
          have t1 := ZaR (by omega) hs2 (show a + 1 ≤ s by omega) k1 k2
          have t2 := q4 (by omega)
          rw [k3]
          have : kAt xs (a : Int) = Zah (xs.getD a .top) := by rw [kAt, Int.toNat_natCast]
          omega
        have hVx : ∀ v ∈ (xs.take s).drop (a + 1), ∀ u ∈ [xs.getD a .top], Zah v < Zah u := by
          intro v hv u hu
          rw [List.mem_singleton] at hu
          subst hu
          obtain ⟨k, k1, k2, k3⟩ := Zd9 (by omega) hv
          have t1 := ZaR (by omega) hs2 k1 (show k ≤ s - 1 by omega) (by omega)
          have t2 := q3 (by omega)
          rw [k3]
          have : kAt xs (a : Int) = Zah (xs.getD a .top) := by rw [kAt, Int.toNat_natCast]
          rw [show (s : Int) - 1 = ((s - 1 : Nat) : Int) by omega] at t2
          omega
        rw [Ze4 [] [xs.getD a .top] _ _ (by simp [Za5]) (by rw [e2]; exact hs2) hVx (by simp), List.nil_append, Zbr sV, Zbr (l := [xs.getD a .top] ++ (xs.take b).drop s) (List.pairwise_cons.mpr ⟨hxW, sW⟩)]
        simp
      have := Zoc hC hK (xs.getD a .top) ((xs.take b).drop s ++ xs.drop b) (Zbu a b xs) (ZdC hn (by omega)) ((xs.take s).drop (a + 1)) (xs.take a) s (by rw [lP, lV]; omega) (by rw [lP, lV, List.length_append, Zbv xs s b (by omega), lS]; omega) (fun y hy => hv y (hsub hy)) hR
      rw [lP, show xs.take a ++ [xs.getD a .top] ++ (xs.take s).drop (a + 1) ++ ((xs.take b).drop s ++ xs.drop b) = xs by rw [← List.append_assoc]; rw [List.append_assoc (xs.take a ++ _)]; exact hcut] at this
      exact this
    · by_cases c2 : b - m = 1
      · have hb : b = m + 1 := by omega
        subst hb
        refine go hC hK (ZDv std N xs a m (m + 1 : Nat)) (by simp; omega) ?_
        refine Zo0 hC hK xs m a m hL (by omega) (by omega) (by omega) (by omega) (fun st q1 q2 q3 q4 => ?_) _ a m (Nat.le_refl _) (Int.le_refl _) (by omega) (Int.le_refl _) (fun h => absurd h (Int.lt_irrefl _)) (fun h => absurd h (Int.lt_irrefl _))
        obtain ⟨s, rfl⟩ := Int.eq_ofNat_of_zero_le (by omega : 0 ≤ st)
        have lX := Zbv xs a s (by omega)
        have lU := Zbv xs s m (by omega)
        have e1 := Zqi xs m (by omega)
        have e2 := Zi7 xs a s m (by omega) (by omega)
        rw [e1, ← e2] at hcut
        have hR : (xs.take a ++ (xs.take s).drop a) ++ [xs.getD m .top] ++ (xs.take m).drop s ++ xs.drop (m + 1) = Zbu a (m + 1) xs := by
          rw [ZhB (P := xs.take a) (Z := (xs.take s).drop a ++ (xs.take m).drop s ++ ([xs.getD m .top] ++ [])) (S := xs.drop (m + 1)) (by rw [List.append_nil, ← List.append_assoc (xs.take a)]; exact hcut.symm) lP (by simp only [List.length_append, lP, lX, lU]; simp; omega)]
          have sX : Za5 ((xs.take s).drop a) := Za8 (by omega) fun k l r1 r2 r3 => ZaR (by omega) hs1 r1 r2 (by omega)
          have sU : Za5 ((xs.take m).drop s) := Za8 (by omega) fun k l r1 r2 r3 => ZaR (by omega) hs1 (by omega) r2 (by omega)
          have hm' : kAt xs (m : Int) = Zah (xs.getD m .top) := by rw [kAt, Int.toNat_natCast]
          have hXy : ∀ x ∈ (xs.take s).drop a, ∀ y ∈ [xs.getD m .top], Zah x ≤ Zah y := by
            intro x hx y hy
            rw [List.mem_singleton] at hy
            subst hy
            obtain ⟨k, k1, k2, k3⟩ := Zd9 (by omega) hx
            have t1 := ZaR (by omega) hs1 k1 (show k ≤ s - 1 by omega) (by omega)
            have t2 := q3 (by omega)
            rw [show (s : Int) - 1 = ((s - 1 : Nat) : Int) by omega] at t2
            omega
          have hyU : ∀ v ∈ [xs.getD m .top], ∀ u ∈ (xs.take m).drop s, Zah v < Zah u := by
            intro v hv u hu
            rw [List.mem_singleton] at hv
            subst hv
            obtain ⟨k, k1, k2, k3⟩ := Zd9 (by omega) hu
            have t1 := ZaR (by omega) hs1 (show a ≤ s by omega) k1 k2
            have t2 := q4 (by omega)
            omega
          rw [Ze4 _ _ [xs.getD m .top] [] (by rw [e2]; exact hs1) (by simp [Za5]) hyU (by simp), List.append_nil, Zbr sU, Zbr (List.pairwise_append.mpr ⟨sX, by simp, hXy⟩)]
          simp
        have := Zqn hC hK (xs.getD m .top) (xs.take a ++ (xs.take s).drop a) (Zbu a (m + 1) xs) (ZdC hn (by omega)) _ ((xs.take m).drop s) (xs.drop (m + 1)) m rfl (by rw [List.length_append, lP, lX, lU]; omega) (by rw [List.length_append, lP, lX, lU, lS]; omega) (fun y hy => hv y (hsub hy)) hR
        rw [List.length_append, lP, lX, show a + (s - a) = s by omega, show xs.take a ++ (xs.take s).drop a ++ (xs.take m).drop s ++ [xs.getD m .top] ++ xs.drop (m + 1) = xs by rw [List.append_assoc (xs.take a)]; exact hcut] at this
        exact this
      · obtain ⟨mid, hmid⟩ : ∃ mid, mid = (a + b) / 2 := ⟨_, rfl⟩
        have hc : std.shr ((a : Int) + b) 1 = (mid : Int) := by rw [ZGC]; omega
        have u : std.inR .u64 ((a : Int) + b) = true := decide_eq_true ⟨show (0 : Int) ≤ (a : Int) + b by omega, show (a : Int) + b ≤ 18446744073709551615 by omega⟩
        by_cases c3 : mid < m
        · have hw := ZFo std N xs a m b
          simp only [ZaV, Zax, hc] at hw
          refine go hC hK hw (by simp only [u]; simp; omega) ?_
          refine ZkU hC hK xs a m b mid ((mid : Int) + m) ((mid : Int) + m - 1) ((mid : Int) + m - b) mid hL (by omega) (by omega) (by omega) (by omega) (fun st q1 q2 q3 q4 => ?_) _ ((mid : Int) + m - b) mid (Nat.le_refl _) (Int.le_refl _) (by omega) (Int.le_refl _) (fun h => absurd h (Int.lt_irrefl _)) (fun h => absurd h (Int.lt_irrefl _))
          obtain ⟨s, rfl⟩ := Int.eq_ofNat_of_zero_le (by omega : 0 ≤ st)
          refine Zqo hC hK xs a m b mid s (mid + m - s) _ (by omega) (by omega) (by omega) (by omega) h3 (by omega) (by omega) (by omega) hL hn hs1 hs2 hN (fun r1 r2 => ?_) (fun r1 r2 => ?_)
          · have := q4 (by omega)
            rw [show (mid : Int) + m - 1 - s = ((mid + m - s - 1 : Nat) : Int) by omega] at this
            exact this
          · have := q3 (by omega)
            rw [show (mid : Int) + m - 1 - ((s : Int) - 1) = ((mid + m - s : Nat) : Int) by omega, show (s : Int) - 1 = ((s - 1 : Nat) : Int) by omega] at this
            exact this
        · have hw := ZzM std N xs a m b
          simp only [ZaV, Zax, hc] at hw
          refine go hC hK hw (by simp only [u]; simp; omega) ?_
          refine ZkU hC hK xs a m b mid ((mid : Int) + m) ((mid : Int) + m - 1) a m hL (by omega) (by omega) (by omega) (by omega) (fun st q1 q2 q3 q4 => ?_) _ a m (Nat.le_refl _) (Int.le_refl _) (by omega) (Int.le_refl _) (fun h => absurd h (Int.lt_irrefl _)) (fun h => absurd h (Int.lt_irrefl _))
          obtain ⟨s, rfl⟩ := Int.eq_ofNat_of_zero_le (by omega : 0 ≤ st)
          refine Zqo hC hK xs a m b mid s (mid + m - s) _ (by omega) (by omega) (by omega) (by omega) h3 (by omega) (by omega) (by omega) hL hn hs1 hs2 hN (fun r1 r2 => ?_) (fun r1 r2 => ?_)
          · have := q4 (by omega)
            rw [show (mid : Int) + m - 1 - s = ((mid + m - s - 1 : Nat) : Int) by omega] at this
            exact this
          · have := q3 (by omega)
            rw [show (mid : Int) + m - 1 - ((s : Int) - 1) = ((mid + m - s : Nat) : Int) by omega, show (s : Int) - 1 = ((s - 1 : Nat) : Int) by omega] at this
            exact this
theorem Zxm : ∀ N, (ZGx N).OK Try.prog := by
  intro N
  induction N with
  | zero =>
    intro pa args r fr h
    simp only [ZGx] at h
    split at h
    · simp only [Option.some.injEq, Prod.mk.injEq, decide_eq_true_eq] at h
      obtain ⟨h0, _, _⟩ := h
      unfold smB at h0
      simp only [Bool.and_eq_true, decide_eq_true_eq] at h0
      omega
    · cases h
  | succ N ih =>
    intro pa args r fr h
    simp only [ZGx] at h
    split at h
    · rename_i xs a m b
      simp only [Option.some.injEq, Prod.mk.injEq, decide_eq_true_eq] at h
      obtain ⟨h0, rfl, rfl⟩ := h
      unfold smB at h0
      simp only [Bool.and_eq_true, decide_eq_true_eq] at h0
      obtain ⟨⟨⟨⟨g1, g2, g3, g4, g5, g6⟩, g7⟩, g8⟩, g9⟩ := h0
      obtain ⟨a, rfl⟩ := Int.eq_ofNat_of_zero_le g1
      obtain ⟨m, rfl⟩ := Int.eq_ofNat_of_zero_le (by omega : 0 ≤ m)
      obtain ⟨b, rfl⟩ := Int.eq_ofNat_of_zero_le (by omega : 0 ≤ b)
      exact Zc2 (f := 140) rfl (ZsQ (N := N) ⟨ih, Ztt⟩ xs a m b (by omega) (by omega) (by omega) g5 (by omega) g7 (sortedB_iff.mp g8) (sortedB_iff.mp g9))
    · cases h
end Go.Proofs.Ytjhdnpmojhkbjaa
/- The contracts of sorting so far. No condition. -/
namespace Go.Proofs.Ytjhdnpmojhkbjaa
def BO6 : List Ctr := BO5 1000000
theorem Ze2 : Zas Try.prog BO6 := ⟨Zxm _, Ztt⟩
end Go.Proofs.Ytjhdnpmojhkbjaa
/- Paths of functions, printed by the explorer (Gx). No condition. -/
namespace Go.Proofs.Ytjhdnpmojhkbjaa
set_option maxRecDepth 100000
set_option linter.unusedVariables false
def Zt4 (xs : List AV) (n : Int) : AFrame := { fn := 137, N := 63, env := [(0, AV.row 0 0), (1, AV.int .i64 n), (2, AV.fn 119 [])], todo := [.code a137.code], defs := [], rnd := none, ret := false, res := [] }
def ZHz (xs : List AV) (n : Int) : List AFrame := [(Zt4 xs n)]
theorem ZsJ (xs : List AV) (n : Int) : Zal tab 137 [AV.row 0 0, AV.int .i64 n, AV.fn 119 []] = some (Zt4 xs n) := rfl
def ZAa (xs : List AV) (n : Int) : Zaa := [(0, { base := 0, blks := [Blk.row 140 5 (Row.big (Sh.agg [Sh.int .i64, Sh.int .i64, Sh.int .i64, Sh.ints .i64, Sh.int .i64]) xs)] })]
def ZcV (n n0 n1 : Int) (x2 : List AV) : List AFrame := [{ fn := 137, N := 63, env := [(0, AV.row 0 0), (1, AV.int .i64 n), (2, AV.fn 119 []), (6, AV.int .i64 20), (7, AV.int .i64 n0), (8, AV.int .i64 n1)], todo := .code (ACode.gh [] Zq4) :: ZsW, defs := [], rnd := none, ret := false, res := [] }]
def Zcn (n : Int) (n0 : Int) (n1 : Int) (x2 : List AV) : Zaa := [(0, { base := 0, blks := [Blk.row 140 5 (Row.big (Sh.agg [Sh.int .i64, Sh.int .i64, Sh.int .i64, Sh.ints .i64, Sh.int .i64]) x2)] })]
abbrev ZgJ (n : Int) (n0 : Int) (n1 : Int) (x2 : List AV) : List AFrame × Zaa := (ZcV n n0 n1 x2, Zcn n n0 n1 x2)
def ZbU (n : Int) (x3 : List AV) (n4 : Int) : List AFrame := [{ fn := 137, N := 63, env := [(0, AV.row 0 0), (1, AV.int .i64 n), (2, AV.fn 119 []), (6, AV.int .i64 n4)], todo := .code (ACode.gh [] Zps) :: Zs5, defs := [], rnd := none, ret := false, res := [] }]
def ZbI (n : Int) (x3 : List AV) (n4 : Int) : Zaa := [(0, { base := 0, blks := [Blk.row 140 5 (Row.big (Sh.agg [Sh.int .i64, Sh.int .i64, Sh.int .i64, Sh.ints .i64, Sh.int .i64]) x3)] })]
abbrev Zed (n : Int) (x3 : List AV) (n4 : Int) : List AFrame × Zaa := (ZbU n x3 n4, ZbI n x3 n4)
def Zc4 (n n4 n5 n6 : Int) (x7 : List AV) : List AFrame := [{ fn := 137, N := 63, env := [(0, AV.row 0 0), (1, AV.int .i64 n), (2, AV.fn 119 []), (6, AV.int .i64 n4), (7, AV.int .i64 n6), (8, AV.int .i64 n5)], todo := .code (ACode.gh [] Zs6) :: ZCc, defs := [], rnd := none, ret := false, res := [] }]
def Zcr (n : Int) (n4 : Int) (n5 : Int) (n6 : Int) (x7 : List AV) : Zaa := [(0, { base := 0, blks := [Blk.row 140 5 (Row.big (Sh.agg [Sh.int .i64, Sh.int .i64, Sh.int .i64, Sh.ints .i64, Sh.int .i64]) x7)] })]
abbrev ZgH (n : Int) (n4 : Int) (n5 : Int) (n6 : Int) (x7 : List AV) : List AFrame × Zaa := (Zc4 n n4 n5 n6 x7, Zcr n n4 n5 n6 x7)
theorem ZEk (A : Ar) (xs : List AV) (n : Int) : Zac A tab BO6 14 [] (ZHz xs n) (ZAa xs n) =
  some (tr [4] [],
   ZgJ (n) (0) (20) (xs)) := by kernel_rfl
theorem ZDW (A : Ar) (n n0 n1 : Int) (x2 : List AV) : Zac A tab BO6 33 [true] (ZcV n n0 n1 x2) (Zcn n n0 n1 x2) =
  some (tr [1, 4, 4, 3] [A.inR .i64 (A.add n1 20), Zab (decide (sgB x2 n0 n1 = true)) true, A.le n1 n],
   ZgJ (n) (n1) (A.add n1 20) (Zbu (Int.toNat n0) (Int.toNat n1) x2)) := by kernel_rfl
theorem Zz2 (A : Ar) (n n0 n1 : Int) (x2 : List AV) : Zac A tab BO6 21 [false] (ZcV n n0 n1 x2) (Zcn n n0 n1 x2) =
  some (tr [0, 4, 3] [Zab (decide (sgB x2 n0 n = true)) true, !A.le n1 n],
   Zed (n) (Zbu (Int.toNat n0) (Int.toNat n) x2) (20)) := by kernel_rfl
theorem ZE4 (A : Ar) (n : Int) (x3 : List AV) (n4 : Int) : Zac A tab BO6 22 [true] (ZbU n x3 n4) (ZbI n x3 n4) =
  some (tr [2, 1, 3] [A.inR .i64 (A.mul 2 n4), A.lt n4 n],
   ZgH (n) (n4) (A.mul 2 n4) (0) (x3)) := by kernel_rfl
theorem ZAs (A : Ar) (n : Int) (x3 : List AV) (n4 : Int) : Za2 A tab BO6 11 [false] 137 (ZbU n x3 n4) (ZbI n x3 n4) =
  some (tr [1, 3] [!A.lt n4 n],
   AV.tup [], 140, 5, Row.big (.agg [.int .i64, .int .i64, .int .i64, .ints .i64, .int .i64]) x3) := by kernel_rfl
theorem ZBZ (A : Ar) (n n4 n5 n6 : Int) (x7 : List AV) : Zac A tab BO6 38 [true] (Zc4 n n4 n5 n6 x7) (Zcr n n4 n5 n6 x7) =
  some (tr [1, 0, 4, 2, 4, 3] [A.inR .i64 (A.add n5 (A.mul 2 n4)), A.inR .i64 (A.mul 2 n4), Zab (decide (smB 1000000 x7 n6 (A.add n6 n4) n5 = true)) true, A.inR .i64 (A.add n6 n4), A.le n5 n],
   ZgH (n) (n4) (A.add n5 (A.mul 2 n4)) (n5) (Zbu (Int.toNat n6) (Int.toNat n5) x7)) := by kernel_rfl
theorem ZEw (A : Ar) (n n4 n5 n6 : Int) (x7 : List AV) : Zac A tab BO6 41 [false, true] (Zc4 n n4 n5 n6 x7) (Zcr n n4 n5 n6 x7) =
  some (tr [1, 1, 5, 4, 2, 3] [A.inR .i64 (A.mul n4 2), Zab (decide (smB 1000000 x7 n6 (A.add n6 n4) n = true)) true, A.lt (A.add n6 n4) n, A.inR .i64 (A.add n6 n4), !A.le n5 n],
   Zed (n) (Zbu (Int.toNat n6) (Int.toNat n) x7) (A.mul n4 2)) := by kernel_rfl
theorem Zus (A : Ar) (n n4 n5 n6 : Int) (x7 : List AV) : Zac A tab BO6 34 [false, false] (Zc4 n n4 n5 n6 x7) (Zcr n n4 n5 n6 x7) =
  some (tr [1, 1, 4, 2, 3] [A.inR .i64 (A.mul n4 2), !A.lt (A.add n6 n4) n, A.inR .i64 (A.add n6 n4), !A.le n5 n],
   Zed (n) (x7) (A.mul n4 2)) := by kernel_rfl
end Go.Proofs.Ytjhdnpmojhkbjaa
/- Blocks that are sorted. No condition. -/
namespace Go.Proofs.Ytjhdnpmojhkbjaa
theorem ZIV (ys : List AV) (a b : Nat) (h : a ≤ b) : ys.take a ++ (ys.take b).drop a ++ ys.drop b = ys := by
  have := List.take_append_drop a (ys.take b)
  rw [List.take_take, Nat.min_eq_left h] at this
  rw [this, List.take_append_drop]
theorem ZhA (a b : Nat) (ys : List AV) : Zbu a b ys = ys.take a ++ Zau ((ys.take b).drop a) ++ ys.drop b := by unfold Zbu; rfl
theorem ZzF (k : Int) (a b : Nat) (ys : List AV) (h : a ≤ b) : fkN k (Zbu a b ys) = fkN k ys := by
  conv => rhs; rw [← ZIV ys a b h]
  rw [ZhA, Zbk, Zbk, Zbk, Zbk, (Zbp _).2]
theorem Zg5 (a b : Nat) (ys : List AV) (h : a ≤ b) : Zau (Zbu a b ys) = Zau ys :=
  ZjI (Zbp ys).1 fun k => by rw [(Zbp ys).2, ZzF k a b ys h]
theorem ZcF (a b : Nat) (ys : List AV) (h : a ≤ b) (hb : b ≤ ys.length) : (Zbu a b ys).length = ys.length := by
  rw [ZhA]; simp only [List.length_append, Zcc, Zbv ys a b hb, List.length_take, List.length_drop]; omega
theorem Zg0 (a b : Nat) (ys : List AV) (h : a ≤ b) (hn : ZaF ys = true) : ZaF (Zbu a b ys) = true := by
  rw [← ZIV ys a b h] at hn
  rw [ZhA]
  simp only [Zbi, Bool.and_eq_true] at hn ⊢
  exact ⟨⟨hn.1.1, numsB_mem.mpr fun x hx => numsB_mem.mp hn.1.2 x (mem_sort.mp hx)⟩, hn.2⟩
theorem Zji (a b : Nat) (ys : List AV) (h : a ≤ b) (hb : b ≤ ys.length) (k : Nat) (hk : k < a ∨ b ≤ k) : kAt (Zbu a b ys) (k : Int) = kAt ys (k : Int) := by
  unfold kAt
  rw [Int.toNat_natCast, List.getD_eq_getElem?_getD, List.getD_eq_getElem?_getD, ZhA]
  conv => rhs; rw [← ZIV ys a b h]
  have l1 : (ys.take a).length = a := by simp; omega
  have l2 := Zbv ys a b hb
  have l3 : (Zau ((ys.take b).drop a)).length = b - a := by rw [Zcc, l2]
  rw [List.append_assoc, List.append_assoc]
  rcases hk with hk | hk
  · rw [List.getElem?_append_left (by omega), List.getElem?_append_left (by omega)]
  · rw [List.getElem?_append_right (by omega), List.getElem?_append_right (by omega), List.getElem?_append_right (by omega), List.getElem?_append_right (by omega), l3, l2]
theorem ZEy (a b : Nat) (ys : List AV) (h : a ≤ b) (hb : b ≤ ys.length) : Za5 (((Zbu a b ys).take b).drop a) := by
  rw [ZqC (ZhA a b ys) (by simp; omega) (by simp only [Zcc, Zbv ys a b hb, List.length_take]; omega)]
  exact (Zbp _).1
def Ztu (w : Nat) (ys : List AV) (a : Nat) : Prop := ∀ q k l : Nat, q * w ≤ k → k ≤ l → l < q * w + w → l < a → kAt ys k ≤ kAt ys l
def ZGz (w : Nat) (ys : List AV) (a : Nat) : Prop := ∀ q k l : Nat, q * w ≤ k → k ≤ l → l < q * w + w → a ≤ k → l < ys.length → kAt ys k ≤ kAt ys l
theorem ZtZ {q p w l : Nat} (h1 : q * w ≤ l) (h2 : l < q * w + w) (h3 : p * w ≤ l) (h4 : l < p * w + w) : q = p := by
  rcases Nat.lt_trichotomy q p with h | h | h
  · have := Nat.mul_le_mul_right w (show q + 1 ≤ p from h)
    rw [Nat.succ_mul] at this; omega
  · exact h
  · have := Nat.mul_le_mul_right w (show p + 1 ≤ q from h)
    rw [Nat.succ_mul] at this; omega
theorem Zg3 {w : Nat} {ys : List AV} {a b p : Nat} (hB : Ztu w ys a) (ha : a = p * w) (h1 : a ≤ b) (h2 : b ≤ a + w) (h3 : b ≤ ys.length) : Ztu w (Zbu a b ys) b := by
  intro q k l q1 q2 q3 q4
  by_cases hl : l < a
  · rw [Zji a b ys h1 h3 k (.inl (by omega)), Zji a b ys h1 h3 l (.inl hl)]
    exact hB q k l q1 q2 q3 hl
  · have : q = p := ZtZ (l := l) (by omega) q3 (by omega) (by omega)
    subst this
    exact ZaR (by rw [ZcF a b ys h1 h3]; exact h3) (ZEy a b ys h1 h3) (by omega) q2 q4
theorem ZsN {w : Nat} {ys : List AV} {a b : Nat} (hR : ZGz w ys a) (h1 : a ≤ b) (h3 : b ≤ ys.length) : ZGz w (Zbu a b ys) b := by
  intro q k l q1 q2 q3 q4 q5
  rw [ZcF a b ys h1 h3] at q5
  rw [Zji a b ys h1 h3 k (.inr q4), Zji a b ys h1 h3 l (.inr (by omega))]
  exact hR q k l q1 q2 q3 (by omega) q5
theorem Zjv {w : Nat} {ys : List AV} {a i j p : Nat} (hR : ZGz w ys a) (hi : i = p * w) (h1 : a ≤ i) (h2 : j ≤ i + w) (h3 : j ≤ ys.length) : Za5 ((ys.take j).drop i) :=
  Za8 h3 fun k l r1 r2 r3 => hR p k l (by omega) r2 (by omega) (by omega) (by omega)
end Go.Proofs.Ytjhdnpmojhkbjaa
/- The stable sort. No condition. -/
namespace Go.Proofs.Ytjhdnpmojhkbjaa
section
variable {C : Ctx} (hC : C.P = Try.prog) (xs : List AV) (n : Nat) (hL : n < 900000)
include hC hL
theorem ZsH (w : Nat) (hw0 : 20 ≤ w) (hw1 : w < n)
    (hq : ∀ ys : List AV, ys.length = n → ZaF ys = true → Zau ys = Zau xs → Ztu (2 * w) ys n → Ev C (ZbU n [] ((w : Int) * 2)) (ZbI n ys ((w : Int) * 2)) (Zg8 137 140 5 (.big shN (Zau xs)) (.tup []))) :
    ∀ (d q a : Nat) (ys : List AV), a = q * (2 * w) → n - a ≤ d → a ≤ n → ys.length = n → ZaF ys = true → Zau ys = Zau xs → Ztu (2 * w) ys a → ZGz w ys a →
      Ev C (Zc4 n w ((a : Int) + 2 * w) a []) (Zcr n w ((a : Int) + 2 * w) a ys) (Zg8 137 140 5 (.big shN (Zau xs)) (.tup [])) := by
  intro d
  induction d with
  | zero =>
    intro q a ys ha hd h1 h2 h3 h4 h5 h6
    refine go hC Ze2 (Zus std n w ((a : Int) + 2 * w) a ys) (by simp; omega) (hq ys h2 h3 h4 ?_)
    have : a = n := by omega
    rw [← this]; exact h5
  | succ d ih =>
    intro q a ys ha hd h1 h2 h3 h4 h5 h6
    have e1 : (2 * q) * w = a := by rw [ha, Nat.mul_comm 2 q, Nat.mul_assoc]
    have e2 : (2 * q + 1) * w = a + w := by rw [Nat.succ_mul, e1]
    by_cases c1 : a + 2 * w ≤ n
    · have hb : smB 1000000 ys (a : Int) ((a : Int) + w) ((a : Int) + 2 * w) = true := by
        unfold smB
        rw [h3, show ((a : Int) + w).toNat = a + w by omega, show ((a : Int) + 2 * w).toNat = a + 2 * w by omega, Int.toNat_natCast,
          sortedB_iff.mpr (Zjv h6 e1.symm (by omega) (by omega) (by omega)), sortedB_iff.mpr (Zjv h6 e2.symm (by omega) (by omega) (by omega))]
        simp only [Bool.and_true, decide_eq_true_eq]
        omega
      have hw := ZBZ std n w ((a : Int) + 2 * w) a ys
      simp only [ZaV, hb, show ((a : Int) + 2 * w).toNat = a + 2 * w by omega, Int.toNat_natCast] at hw
      refine go hC Ze2 hw (by simp; omega) ?_
      have := ih (q + 1) (a + 2 * w) (Zbu a (a + 2 * w) ys) (by rw [ha, Nat.add_mul, Nat.one_mul]) (by omega) c1 (by rw [ZcF _ _ _ (by omega) (by omega), h2]) (Zg0 _ _ _ (by omega) h3) (by rw [Zg5 _ _ _ (by omega), h4]) (Zg3 h5 ha (by omega) (by omega) (by omega)) (ZsN h6 (by omega) (by omega))
      rw [show ((a + 2 * w : Nat) : Int) = (a : Int) + 2 * w by omega] at this
      exact this
    · by_cases c2 : a + w < n
      · have hb : smB 1000000 ys (a : Int) ((a : Int) + w) (n : Int) = true := by
          unfold smB
          rw [h3, show ((a : Int) + w).toNat = a + w by omega, Int.toNat_natCast, Int.toNat_natCast,
            sortedB_iff.mpr (Zjv h6 e1.symm (by omega) (by omega) (by omega)), sortedB_iff.mpr (Zjv h6 e2.symm (by omega) (by omega) (by omega))]
          simp only [Bool.and_true, decide_eq_true_eq]
          omega
        have hw := ZEw std n w ((a : Int) + 2 * w) a ys
        simp only [ZaV, hb, Int.toNat_natCast] at hw
        refine go hC Ze2 hw (by simp; omega) ?_
        exact hq (Zbu a n ys) (by rw [ZcF _ _ _ (by omega) (by omega), h2]) (Zg0 _ _ _ (by omega) h3) (by rw [Zg5 _ _ _ (by omega), h4]) (Zg3 h5 ha (by omega) (by omega) (by omega))
      · refine go hC Ze2 (Zus std n w ((a : Int) + 2 * w) a ys) (by simp; omega) (hq ys h2 h3 h4 ?_)
        intro p k l q1 q2 q3 q4
        by_cases hl : l < a
        · exact h5 p k l q1 q2 q3 hl
        · have : p = q := ZtZ (l := l) (by omega) q3 (by omega) (by omega)
          subst this
          exact h6 (2 * p) k l (by omega) q2 (by omega) (by omega) (by omega)
theorem ZrJ : ∀ (d w : Nat) (ys : List AV), n - w ≤ d → 20 ≤ w → w < 2000000 → ys.length = n → ZaF ys = true → Zau ys = Zau xs → Ztu w ys n →
    Ev C (ZbU n [] w) (ZbI n ys w) (Zg8 137 140 5 (.big shN (Zau xs)) (.tup [])) := by
  have hend : ∀ (w : Nat) (ys : List AV), n ≤ w → w < 2000000 → ys.length = n → Zau ys = Zau xs → Ztu w ys n → Ev C (ZbU n [] w) (ZbI n ys w) (Zg8 137 140 5 (.big shN (Zau xs)) (.tup [])) := by
    intro w ys hnw _ h2 h4 h5
    have hs : Zau xs = ys := by
      rw [← h4]
      refine Zbr ?_
      have := Za8 (xs := ys) (i := 0) (j := n) (by omega) fun k l r1 r2 r3 => h5 0 k l (by omega) r2 (by omega) r3
      rwa [← h2, List.take_length, List.drop_zero] at this
    rw [hs]
    exact ZdU hC Ze2 (ZAs std n ys w) (by simp; omega) rfl rfl rfl rfl
  intro d
  induction d with
  | zero => intro w ys hd h0 hw2 h2 h3 h4 h5; exact hend w ys (by omega) hw2 h2 h4 h5
  | succ d ih =>
    intro w ys hd h0 hw2 h2 h3 h4 h5
    by_cases c : w < n
    · refine go hC Ze2 (ZE4 std n ys w) (by simp; omega) ?_
      have := ZsH hC xs n hL w h0 c (fun zs z1 z2 z3 z4 => by
        have := ih (2 * w) zs (by omega) (by omega) (by omega) z1 z2 z3 z4
        rw [show ((2 * w : Nat) : Int) = (w : Int) * 2 by omega] at this
        exact this) n 0 0 ys (by omega) (by omega) (by omega) h2 h3 h4 (fun _ _ _ _ _ _ h => absurd h (by omega)) (fun q k l q1 q2 q3 _ q5 => h5 q k l q1 q2 q3 (by omega))
      have e : ((0 : Nat) : Int) + 2 * (w : Int) = std.mul 2 (w : Int) := by simp
      rw [e] at this
      exact this
    · exact hend w ys (by omega) hw2 h2 h4 h5
theorem Zri : ∀ (d q : Nat) (ys : List AV), n - q * 20 ≤ d → q * 20 ≤ n → ys.length = n → ZaF ys = true → Zau ys = Zau xs → Ztu 20 ys (q * 20) →
    Ev C (ZcV n ((q * 20 : Nat) : Int) ((q * 20 : Nat) + 20) []) (Zcn n ((q * 20 : Nat) : Int) ((q * 20 : Nat) + 20) ys) (Zg8 137 140 5 (.big shN (Zau xs)) (.tup [])) := by
  have hend : ∀ (q : Nat) (ys : List AV), q * 20 ≤ n → n < q * 20 + 20 → ys.length = n → ZaF ys = true → Zau ys = Zau xs → Ztu 20 ys (q * 20) → Ev C (ZcV n ((q * 20 : Nat) : Int) ((q * 20 : Nat) + 20) []) (Zcn n ((q * 20 : Nat) : Int) ((q * 20 : Nat) + 20) ys) (Zg8 137 140 5 (.big shN (Zau xs)) (.tup [])) := by
    intro q ys h1 h1' h2 h3 h4 h5
    have hb : sgB ys ((q * 20 : Nat) : Int) n = true := by
      unfold sgB
      rw [h3]
      simp only [Bool.and_true, decide_eq_true_eq]
      omega
    have hw := Zz2 std n ((q * 20 : Nat) : Int) (((q * 20 : Nat) : Int) + 20) ys
    simp only [hb, Int.toNat_natCast] at hw
    refine go hC Ze2 hw (by simp; omega) ?_
    exact ZrJ hC xs n hL n 20 (Zbu (q * 20) n ys) (by omega) (by omega) (by omega) (by rw [ZcF _ _ _ (by omega) (by omega), h2]) (Zg0 _ _ _ (by omega) h3) (by rw [Zg5 _ _ _ (by omega), h4]) (Zg3 h5 rfl (by omega) (by omega) (by omega))
  intro d
  induction d with
  | zero => intro q ys hd h1 h2 h3 h4 h5; exact hend q ys h1 (by omega) h2 h3 h4 h5
  | succ d ih =>
    intro q ys hd h1 h2 h3 h4 h5
    by_cases c : q * 20 + 20 ≤ n
    · have hb : sgB ys ((q * 20 : Nat) : Int) (((q * 20 : Nat) : Int) + 20) = true := by
        unfold sgB
        rw [h3]
        simp only [Bool.and_true, decide_eq_true_eq]
        omega
      have hw := ZDW std n ((q * 20 : Nat) : Int) (((q * 20 : Nat) : Int) + 20) ys
      simp only [hb, Int.toNat_natCast, show (((q * 20 : Nat) : Int) + 20).toNat = q * 20 + 20 by omega] at hw
      refine go hC Ze2 hw (by simp; omega) ?_
      have := ih (q + 1) (Zbu (q * 20) (q * 20 + 20) ys) (by omega) (by omega) (by rw [ZcF _ _ _ (by omega) (by omega), h2]) (Zg0 _ _ _ (by omega) h3) (by rw [Zg5 _ _ _ (by omega), h4]) (by rw [Nat.succ_mul]; exact Zg3 h5 rfl (by omega) (by omega) (by omega))
      rw [show ((((q + 1) * 20 : Nat)) : Int) = ((q * 20 : Nat) : Int) + 20 by omega] at this
      exact this
    · exact hend q ys h1 (by omega) h2 h3 h4 h5
end
theorem ZoQ (xs : List AV) (hL : xs.length < 900000) (hn : ZaF xs = true) : Zk6 Try.prog 137 140 5 (.big shN xs) (.big shN (Zau xs)) [.int .i64 xs.length, .fn 119 []] (.tup []) :=
  Zgy (ZsJ xs xs.length) fun C hC => by
    refine go hC Ze2 (ZEk std xs xs.length) (by simp) ?_
    exact Zri hC xs xs.length hL xs.length 0 xs (by omega) (by omega) rfl hn rfl (fun _ _ _ _ _ _ h => absurd h (by omega))
end Go.Proofs.Ytjhdnpmojhkbjaa
/- Contracts as a list. No condition. -/
namespace Go.Proofs.Ytjhdnpmojhkbjaa
def stB (xs : List AV) (n : Int) : Bool := decide (n = xs.length ∧ n < 900000) && ZaF xs
theorem ZqK (xs : List AV) (n : Int) (h : stB xs n = true) : Zhc Try.prog 1000137 [.list (.big shN xs), .int .i64 n, .fn 119 []] (.tup []) (some ⟨140, 5, .big shN (Zau xs)⟩) := by
  unfold stB at h
  simp only [Bool.and_eq_true, decide_eq_true_eq] at h
  obtain ⟨⟨h1, h2⟩, h5⟩ := h
  subst h1
  exact Zc2 (f := 137) rfl (ZoQ xs (by omega) h5)
def k137 : Ctr := ⟨1000137, 0, fun _ a => match a with | [.list (.big (.agg [.int .i64, .int .i64, .int .i64, .ints .i64, .int .i64]) xs), .int .i64 n, .fn 119 []] => some (decide (stB xs n = true), .tup [], some ⟨140, 5, .big shN (Zau xs)⟩) | _ => none⟩
theorem Zzb : k137.OK Try.prog := fun pa args r fr h => by
  simp only [k137] at h
  split at h
  · simp only [Option.some.injEq, Prod.mk.injEq, decide_eq_true_eq] at h
    obtain ⟨h0, rfl, rfl⟩ := h
    exact ZqK _ _ h0
  · cases h
def BO7 : List Ctr := [k137] ++ BO6
theorem Zud : Zas Try.prog BO7 := ⟨Zzb, Ze2⟩
end Go.Proofs.Ytjhdnpmojhkbjaa
/- Paths of functions, printed by the explorer (Gx). No condition. -/
namespace Go.Proofs.Ytjhdnpmojhkbjaa
set_option maxRecDepth 100000
set_option linter.unusedVariables false
def Zur (xs : List AV) : AFrame := { fn := 118, N := 9, env := [(0, AV.row 0 0), (1, AV.fn 119 [])], todo := [.code a118.code], defs := [], rnd := none, ret := false, res := [] }
def ZIj (xs : List AV) : List AFrame := [(Zur xs)]
theorem Zrz (xs : List AV) : Zal tab 118 [AV.row 0 0, AV.fn 119 []] = some (Zur xs) := rfl
def ZEB (xs : List AV) : Zaa := [(0, { base := 0, blks := [Blk.row 140 5 (Row.big (Sh.agg [Sh.int .i64, Sh.int .i64, Sh.int .i64, Sh.ints .i64, Sh.int .i64]) xs)] })]
theorem ZAw (A : Ar) (xs : List AV) : Za2 A tab BO7 8 [] 118 (ZIj xs) (ZEB xs) =
  some (tr [1, 4] [Zab (decide (stB xs (A.int (A.lenA xs)) = true)) true],
   AV.tup [], 140, 5, Row.big (.agg [.int .i64, .int .i64, .int .i64, .ints .i64, .int .i64]) (List.foldl ZgQ [] xs)) := by kernel_rfl
end Go.Proofs.Ytjhdnpmojhkbjaa
/- Contracts as a list. No condition. -/
namespace Go.Proofs.Ytjhdnpmojhkbjaa
theorem Zpx (xs : List AV) (hL : xs.length < 900000) (hn : ZaF xs = true) : Zk6 Try.prog 118 140 5 (.big shN xs) (.big shN (Zau xs)) [.fn 119 []] (.tup []) :=
  Zgy (Zrz xs) fun C hC => by
    have hb : stB xs xs.length = true := by
      unfold stB
      rw [hn]
      simp only [Bool.and_true, decide_eq_true_eq]
      exact ⟨trivial, by omega⟩
    have hw := ZAw std xs
    simp only [Zdt, ZaJ, hb] at hw
    exact ZdU hC Zud hw (by simp) rfl rfl rfl rfl
def soB (xs : List AV) : Bool := decide (xs.length < 900000) && ZaF xs
theorem Zop (xs : List AV) (h : soB xs = true) : Zhc Try.prog 1000118 [.list (.big shN xs), .fn 119 []] (.tup []) (some ⟨140, 5, .big shN (Zau xs)⟩) := by
  unfold soB at h
  simp only [Bool.and_eq_true, decide_eq_true_eq] at h
  exact Zc2 (f := 118) rfl (Zpx xs h.1 h.2)
def k118 : Ctr := ⟨1000118, 0, fun _ a => match a with | [.list (.big (.agg [.int .i64, .int .i64, .int .i64, .ints .i64, .int .i64]) xs), .fn 119 []] => some (decide (soB xs = true), .tup [], some ⟨140, 5, .big shN (Zau xs)⟩) | _ => none⟩
theorem Zx8 : k118.OK Try.prog := fun pa args r fr h => by
  simp only [k118] at h
  split at h
  · simp only [Option.some.injEq, Prod.mk.injEq, decide_eq_true_eq] at h
    obtain ⟨h0, rfl, rfl⟩ := h
    exact Zop _ h0
  · cases h
def BO8 : List Ctr := [k118] ++ BO7
theorem Ze0 : Zas Try.prog BO8 := ⟨Zx8, Zud⟩
end Go.Proofs.Ytjhdnpmojhkbjaa
/- Paths of functions, printed by the explorer (Gx). No condition. -/
namespace Go.Proofs.Ytjhdnpmojhkbjaa
set_option maxRecDepth 100000
set_option linter.unusedVariables false
def ZtK (n : Int) (c : Int) : AFrame := { fn := 115, N := 34, env := [(0, AV.int .i64 n), (1, AV.int .i64 c)], todo := [.code a115.code], defs := [], rnd := none, ret := false, res := [ARes.tmp 4] }
def ZIG (n : Int) (c : Int) : List AFrame := [(ZtK n c)]
theorem Zr1 (n : Int) (c : Int) : Zal tab 115 [AV.int .i64 n, AV.int .i64 c] = some (ZtK n c) := rfl
def ZbX (n c n0 n1 : Int) : List AFrame := [{ fn := 115, N := 34, env := [(0, AV.int .i64 n), (1, AV.int .i64 c), (5, AV.int .i64 n1), (6, AV.int .i64 n0)], todo := .code (ACode.gh [] ZtH) :: ZAK, defs := [], rnd := none, ret := false, res := [ARes.tmp 4] }]
def ZbE (n : Int) (c : Int) (n0 : Int) (n1 : Int) : Zaa := []
abbrev Zdb (n : Int) (c : Int) (n0 : Int) (n1 : Int) : List AFrame × Zaa := (ZbX n c n0 n1, ZbE n c n0 n1)
theorem ZEV (A : Ar) (n c : Int) : Zac A tab BO8 19 [] (ZIG n c) [] =
  some (tr [1, 4] [A.inR .i64 (A.sub n 64)],
   Zdb (n) (c) (A.sub n 64) (c)) := by kernel_rfl
theorem Zz5 (A : Ar) (n c n0 n1 : Int) : Zac A tab BO8 46 [true, true, true, true, true, true, true, true, true, true, true, true] (ZbX n c n0 n1) (ZbE n c n0 n1) =
  some (tr [1, 3, 4, 1, 5, 1, 4, 3, 2, 1, 2] [A.inR .i64 (A.add n0 1), A.le (ZfI (A.sub n0 n)) (ZfI (A.sub n1 n)), decide (Zfi (A.sub n1 n) = true), A.inR .i64 (A.sub n1 n), decide (Zfi (A.sub n0 n) = true), A.inR .i64 (A.sub n0 n), A.eq (ZjQ (A.sub n0 c) 64) 0, A.inR .i64 (A.sub n0 c), A.le n0 (A.add n 64), A.inR .i64 (A.add n 64)],
   Zdb (n) (c) (A.add n0 1) (n0)) := by kernel_rfl
theorem ZAq (A : Ar) (n c n0 n1 : Int) : Zac A tab BO8 43 [true, true, true, true, true, true, true, true, true, true, true, false] (ZbX n c n0 n1) (ZbE n c n0 n1) =
  some (tr [1, 1, 4, 1, 5, 1, 4, 3, 2, 1, 2] [A.inR .i64 (A.add n0 1), !A.le (ZfI (A.sub n0 n)) (ZfI (A.sub n1 n)), decide (Zfi (A.sub n1 n) = true), A.inR .i64 (A.sub n1 n), decide (Zfi (A.sub n0 n) = true), A.inR .i64 (A.sub n0 n), A.eq (ZjQ (A.sub n0 c) 64) 0, A.inR .i64 (A.sub n0 c), A.le n0 (A.add n 64), A.inR .i64 (A.add n 64)],
   Zdb (n) (c) (A.add n0 1) (n1)) := by kernel_rfl
theorem ZCt (A : Ar) (n c n0 n1 : Int) : Zac A tab BO8 43 [true, false, false, false, false, false, false, false, false, false, false, false] (ZbX n c n0 n1) (ZbE n c n0 n1) =
  some (tr [1, 21, 3, 2, 1, 2] [A.inR .i64 (A.add n0 1), !A.eq (ZjQ (A.sub n0 c) 64) 0, A.inR .i64 (A.sub n0 c), A.le n0 (A.add n 64), A.inR .i64 (A.add n 64)],
   Zdb (n) (c) (A.add n0 1) (n1)) := by kernel_rfl
theorem ZBx (A : Ar) (n c n0 n1 : Int) : ZaD A tab BO8 17 [false] 115 (ZbX n c n0 n1) (ZbE n c n0 n1) =
  some (tr [3, 1, 2] [!A.le n0 (A.add n 64), A.inR .i64 (A.add n 64)],
   AV.int .i64 n1, none) := by kernel_rfl
def ZtO (xs : List Int) (v : Int) : AFrame := { fn := 116, N := 18, env := [(0, AV.list (.ints .i64 xs)), (1, AV.int .i64 v)], todo := [.code a116.code], defs := [], rnd := none, ret := false, res := [ARes.tmp 4] }
def ZJi (xs : List Int) (v : Int) : List AFrame := [(ZtO xs v)]
theorem ZsO (xs : List Int) (v : Int) : Zal tab 116 [AV.list (.ints .i64 xs), AV.int .i64 v] = some (ZtO xs v) := rfl
def ZcP (xs : List Int) (v n0 : Int) : List AFrame := [{ fn := 116, N := 18, env := [(0, AV.list (.ints .i64 xs)), (1, AV.int .i64 v), (5, AV.int .i64 n0)], todo := .code (ACode.gh [] ZpE) :: Zuy, defs := [], rnd := none, ret := false, res := [ARes.tmp 4] }]
def Zcf (xs : List Int) (v : Int) (n0 : Int) : Zaa := []
abbrev ZgE (xs : List Int) (v : Int) (n0 : Int) : List AFrame × Zaa := (ZcP xs v n0, Zcf xs v n0)
theorem ZA0 (A : Ar) (xs : List Int) (v : Int) : Zac A tab BO8 12 [] (ZJi xs v) [] =
  some (tr [2] [],
   ZgE (xs) (v) (0)) := by kernel_rfl
theorem ZAM (A : Ar) (xs : List Int) (v n0 : Int) : ZaD A tab BO8 28 [true, true] 116 (ZcP xs v n0) (Zcf xs v n0) =
  some (tr [2, 3, 2, 4] [A.eq (A.nth xs (A.nat n0)) v, Zab (Zab (A.le 0 n0) (Nat.blt (A.nat n0) (A.len xs))) true, A.lt n0 (A.int (A.len xs))],
   AV.bool true, none) := by kernel_rfl
theorem ZED (A : Ar) (xs : List Int) (v n0 : Int) : Zac A tab BO8 32 [true, false] (ZcP xs v n0) (Zcf xs v n0) =
  some (tr [1, 1, 3, 2, 4] [A.inR .i64 (A.add n0 1), !A.eq (A.nth xs (A.nat n0)) v, Zab (Zab (A.le 0 n0) (Nat.blt (A.nat n0) (A.len xs))) true, A.lt n0 (A.int (A.len xs))],
   ZgE (xs) (v) (A.add n0 1)) := by kernel_rfl
theorem ZB5 (A : Ar) (xs : List Int) (v n0 : Int) : ZaD A tab BO8 16 [false] 116 (ZcP xs v n0) (Zcf xs v n0) =
  some (tr [2, 4] [!A.lt n0 (A.int (A.len xs))],
   AV.bool false, none) := by kernel_rfl
end Go.Proofs.Ytjhdnpmojhkbjaa
/- Contracts as a list. No condition. -/
namespace Go.Proofs.Ytjhdnpmojhkbjaa
theorem ZbQ (x : Int) : ZjQ x 64 = x % 64 := by
  unfold ZjQ
  rcases Int.le_total 0 x with h | h
  · rw [Int.tmod_eq_emod_of_nonneg h]
    omega
  · obtain ⟨y, rfl⟩ : ∃ y, x = -y := ⟨-x, by omega⟩
    rw [Int.neg_tmod, Int.tmod_eq_emod_of_nonneg (by omega : (0 : Int) ≤ y)]
    omega
def ZaH (n c : Int) : Int := if ZjQ (c - n) 64 ≤ 32 then n + ZjQ (c - n) 64 else n + ZjQ (c - n) 64 - 64
theorem Zqd {C : Ctx} (hC : C.P = Try.prog) (n c : Int) (hn : -400000 ≤ n ∧ n ≤ 400000) (hc : -400000 ≤ c ∧ c ≤ 400000) : ∀ (d : Nat) (k best : Int), (n + 65 - k).toNat = d → n - 64 ≤ k → k ≤ n + 65 → -800064 ≤ best - n → best - n ≤ 800064 → (best - c) % 64 = 0 → (∀ t, n - 64 ≤ t → t < k → (t - c) % 64 = 0 → ZfI (best - n) < ZfI (t - n) ∨ ZfI (best - n) = ZfI (t - n) ∧ t ≤ best) →
    Ev C (ZbX n c k best) (ZbE n c k best) (ZfK 115 (.int .i64 (ZaH n c)) none) := by
  intro d
  induction d with
  | zero =>
    intro k best hd h1 h2 h3 h3' h4 h5
    have hres : best = ZaH n c := by
      have ht := h5 (ZaH n c) (by unfold ZaH; rw [ZbQ]; split <;> omega) (by unfold ZaH; rw [ZbQ]; split <;> omega) (by unfold ZaH; rw [ZbQ]; split <;> omega)
      clear h5
      unfold ZfI at ht
      unfold ZaH at ht ⊢
      rw [ZbQ] at ht ⊢
      split at ht <;> rename_i hh
      · rw [if_pos hh]; omega
      · rw [if_neg hh]; omega
    exact fin hC Ze0 (ZBx std n c k best) (by simp; omega) (by rw [hres]) rfl
  | succ d ih =>
    intro k best hd h1 h2 h3 h3' h4 h5
    have b1 : Zfi (k - n) = true := decide_eq_true ⟨by omega, by omega⟩
    have b2 : Zfi (best - n) = true := decide_eq_true ⟨by omega, by omega⟩
    by_cases hm : ZjQ (k - c) 64 = 0
    · by_cases hs : ZfI (k - n) ≤ ZfI (best - n)
      · refine go hC Ze0 (Zz5 std n c k best) (by simp [b1, b2, hm, hs]; omega) (ih (k + 1) k (by omega) (by omega) (by omega) (by omega) (by omega) (by rw [← ZbQ]; exact hm) fun t t1 t2 t3 => ?_)
        rcases Int.lt_or_le t k with h | h
        · have := h5 t t1 h t3
          clear h5 ih
          unfold ZfI at *
          omega
        · have : t = k := by omega
          subst this
          exact .inr ⟨rfl, Int.le_refl _⟩
      · refine go hC Ze0 (ZAq std n c k best) (by simp [b1, b2, hm, hs]; omega) (ih (k + 1) best (by omega) (by omega) (by omega) h3 h3' h4 fun t t1 t2 t3 => ?_)
        rcases Int.lt_or_le t k with h | h
        · exact h5 t t1 h t3
        · have : t = k := by omega
          subst this
          exact .inl (by omega)
    · refine go hC Ze0 (ZCt std n c k best) (by simp [hm]; omega) (ih (k + 1) best (by omega) (by omega) (by omega) h3 h3' h4 fun t t1 t2 t3 => ?_)
      rcases Int.lt_or_le t k with h | h
      · exact h5 t t1 h t3
      · have : t = k := by omega
        subst this
        exact absurd (by rw [ZbQ]; exact t3) hm
def ZqR (n c : Int) : Bool := decide ((-400000 ≤ n ∧ n ≤ 400000) ∧ (-400000 ≤ c ∧ c ≤ 400000))
theorem ZvT (n c : Int) (h : ZqR n c = true) : ZaI Try.prog 115 [.int .i64 n, .int .i64 c] (.int .i64 (ZaH n c)) none :=
  start (Zr1 n c) fun C hC => by
    obtain ⟨h1, h2⟩ := of_decide_eq_true h
    refine go hC Ze0 (ZEV std n c) (by simp; omega) ?_
    exact Zqd hC n c h1 h2 _ (n - 64) c rfl (by omega) (by omega) (by omega) (by omega) (by omega) (fun t t1 t2 _ => absurd t2 (by omega))
def ZoI (xs : List Int) (v : Int) : Bool := xs.any fun x => decide (x = v)
theorem ZrK {C : Ctx} (hC : C.P = Try.prog) (xs : List Int) (v : Int) (hl : xs.length ≤ 1000000) : ∀ (d i : Nat), xs.length - i = d → i ≤ xs.length → Ev C (ZcP xs v i) (Zcf xs v i) (ZfK 116 (.bool (ZoI (xs.drop i) v)) none) := by
  intro d
  induction d with
  | zero =>
    intro i hd hi
    exact fin hC Ze0 (ZB5 std xs v i) (by simp; omega) (by rw [List.drop_of_length_le (by omega)]; rfl) rfl
  | succ d ih =>
    intro i hd hi
    have hlt : i < xs.length := by omega
    have hget : xs.getD i 0 = xs[i] := by simp [hlt]
    unfold ZoI
    rw [List.drop_eq_getElem_cons hlt, List.any_cons]
    by_cases h : xs[i] = v
    · exact fin hC Ze0 (ZAM std xs v i) (by simp [hlt, h]) (by simp [h]) rfl
    · have := ih (i + 1) (by omega) (by omega)
      rw [decide_eq_false h, Bool.false_or]
      exact go hC Ze0 (ZED std xs v i) (by simp [hlt, h]; omega) this
theorem ZAN (xs : List Int) (v : Int) (hl : xs.length ≤ 1000000) : ZaI Try.prog 116 [.list (.ints .i64 xs), .int .i64 v] (.bool (ZoI xs v)) none :=
  start (ZsO xs v) fun C hC => go hC Ze0 (ZA0 std xs v) (by simp) (ZrK hC xs v hl xs.length 0 (by omega) (by omega))
def k115 : Ctr := ⟨115, 0, fun _ a => match a with | [.int .i64 n, .int .i64 c] => some (decide (ZqR n c = true), .int .i64 (ZaH n c), none) | _ => none⟩
theorem Zwp : k115.OK Try.prog := fun pa args r fr h => by
  simp only [k115] at h
  split at h
  · simp only [Option.some.injEq, Prod.mk.injEq, decide_eq_true_eq] at h
    obtain ⟨h0, rfl, rfl⟩ := h
    exact ZvT _ _ h0
  · cases h
def k116 : Ctr := ⟨116, 0, fun _ a => match a with | [.list (.ints .i64 xs), .int .i64 v] => some (decide (xs.length ≤ 1000000), .bool (ZoI xs v), none) | _ => none⟩
theorem ZvP : k116.OK Try.prog := fun pa args r fr h => by
  simp only [k116] at h
  split at h
  · simp only [Option.some.injEq, Prod.mk.injEq, decide_eq_true_eq] at h
    obtain ⟨h0, rfl, rfl⟩ := h
    exact ZAN _ _ h0
  · cases h
def BO9 : List Ctr := [k115, k116] ++ BO8
theorem ZbT : Zas Try.prog BO9 := ⟨Zwp, ⟨ZvP, Ze0⟩⟩
end Go.Proofs.Ytjhdnpmojhkbjaa
