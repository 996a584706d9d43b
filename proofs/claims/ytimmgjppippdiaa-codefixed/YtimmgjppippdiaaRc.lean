/- Paths of functions, printed by the explorer (Gx). No condition. -/
import Derived.Test.YtimmgjppippdiaaRb
import Derived.KernelRfl
namespace Go.Proofs.Ytimmgjppippdiaa
set_option maxRecDepth 100000
set_option linter.unusedVariables false
def f114e (n : Int) (cs : List AV) (w : List Int) : List AFrame := [{ fn := 114, N := 17, env := [(0, AV.agg (Row.gen [AV.int .i64 n, AV.list (Row.big (Sh.ints .i64) cs)])), (1, AV.list (.ints .i64 w))], todo := [.code a114.code], defs := [], rnd := none, ret := false, res := [ARes.tmp 4] }]
theorem f114e_at (n : Int) (cs : List AV) (w : List Int) : enterA tab 114 [AV.agg (Row.gen [AV.int .i64 n, AV.list (Row.big (Sh.ints .i64) cs)]), AV.list (.ints .i64 w)] = some { fn := 114, N := 17, env := [(0, AV.agg (Row.gen [AV.int .i64 n, AV.list (Row.big (Sh.ints .i64) cs)])), (1, AV.list (.ints .i64 w))], todo := [.code a114.code], defs := [], rnd := none, ret := false, res := [ARes.tmp 4] } := rfl
theorem f114p0 (A : Ar) (n : Int) (cs : List AV) (w : List Int) : gfin A tab F4 9 [] 114 (f114e n cs w) [] =
  some ([true, true, A.and (A.and true true) (Decidable.decide (List.length [(chkE n (iss cs)).2, unlessE (A.eq (A.int (A.len w)) n) 10, rngE w 0 1] ≤ 1000000)), List.all [AV.int .i64 (chkE n (iss cs)).2, AV.int .i64 (unlessE (A.eq (A.int (A.len w)) n) 10), AV.int .i64 (rngE w 0 1)] fun x => AV.bx x && Nat.beq (flatLen A x) 1, A.and true (Decidable.decide (List.length w ≤ 1000000)), true, A.and true true, true, A.and (A.ltN 0 1) (A.ltN 0 2), true, true, true, A.and true (Decidable.decide (List.length cs ≤ 1000000 ∧ List.all cs few1 = true)), A.and (A.ltN 0 1) (A.leN (A.addN 0 2) 2), true, A.and true (A.ltN 0 2)],
   AV.int .i64 (firstE [(chkE n (iss cs)).2, unlessE (A.eq (A.int (A.len w)) n) 10, rngE w 0 1]), none) := by kernel_rfl
end Go.Proofs.Ytimmgjppippdiaa

/- Contracts as a list. No condition. -/
namespace Go.Proofs.Ytimmgjppippdiaa
theorem rng_bit (w : List Int) : rngE w 0 1 = bitE w := by
  have : (fun x : Int => decide (0 ≤ x ∧ x ≤ 1)) = bitB := by
    funext x; unfold bitB; rw [decide_eq_decide]; omega
  unfold rngE bitE; rw [this]
theorem word_ok (n : Int) (cs : List AV) (w : List Int) (h : cs.length ≤ 1000000) (hf : cs.all few1 = true) (hw : w.length ≤ 1000000) : Pure Try.prog 114 [.agg (.gen [.int .i64 n, .list (.big (.ints .i64) cs)]), .list (.ints .i64 w)] (.int .i64 (parE n (iss cs) w)) none :=
  start (f114e_at n cs w) fun C hC => fin hC F4_ok (f114p0 std n cs w) (by rw [hf]; simp [h, hw, AV.bx, flatLen]) (by
    by_cases h1 : (chkE n (iss cs)).2 = 0
    · by_cases h2 : (w.length : Int) = n
      · simp [parE, h1, h2, firstE, unlessE, rng_bit]; omega
      · simp [parE, h1, h2, firstE, unlessE]
    · simp [parE, h1, firstE]) rfl
/-! ### The checks that a word does not satisfy -/
def sumL (w : List Int) : List Int → Int
  | [] => 0
  | p :: l => w.getD p.toNat 0 + sumL w l
def unsS (w : List Int) : Nat → List (List Int) → List Int
  | _, [] => []
  | i, l :: cs => if sumL w l % 2 = 1 then (i : Int) :: unsS w (i + 1) cs else unsS w (i + 1) cs
theorem bit_get {w : List Int} (h : w.all bitB = true) (j : Nat) : w.getD j 0 = 0 ∨ w.getD j 0 = 1 := by
  by_cases hj : j < w.length
  · have := List.all_eq_true.1 h w[j] (List.getElem_mem hj)
    simp [List.getD_eq_getElem?_getD, hj]
    simpa [bitB] using this
  · left; simp [List.getD_eq_getElem?_getD, List.getElem?_eq_none (by omega : w.length ≤ j)]
theorem sumL_nonneg {w : List Int} (h : w.all bitB = true) : ∀ l : List Int, 0 ≤ sumL w l
  | [] => by simp [sumL]
  | p :: l => by
    have := sumL_nonneg h l
    rcases bit_get h p.toNat with e | e <;> simp only [sumL, e] <;> omega
/-- all places are within a word -/
def okL1 (m : Nat) (l : List Int) : Prop := l.length ≤ 26 ∧ ∀ p ∈ l, 0 ≤ p ∧ p.toNat < m
theorem okL1_get {m : Nat} {l : List Int} (h : okL1 m l) {k : Nat} (hk : k < l.length) : 0 ≤ l[k] ∧ l[k].toNat < m := h.2 _ (List.getElem_mem hk)
theorem xor_bits {a b : Int} (ha : a = 0 ∨ a = 1) (hb : b = 0 ∨ b = 1) : std.bits .xor .i64 a b = (a + b) % 2 := by
  rcases ha with rfl | rfl <;> rcases hb with rfl | rfl <;> rfl
section
variable {C : Ctx} (hC : C.P = Try.prog) {Q : List AFrame → AHeap → Prop}
include hC
theorem l41b (n : Int) (cs : List AV) (w : List Int) (hw : w.all bitB = true) (h : cs.length ≤ 1000000) (i : Nat) (hi : i < cs.length) (ho : okL1 w.length (cs[i].toIs)) (out : List Int) (hout : out.length ≤ i)
    (hk : Ev C (f41h41_0b n cs w (i + 1 : Nat) (if sumL w (cs[i].toIs) % 2 = 1 then out ++ [(i : Int)] else out)) (f41h41_0bm n cs w (i + 1 : Nat) (if sumL w (cs[i].toIs) % 2 = 1 then out ++ [(i : Int)] else out)) Q) : ∀ (d k : Nat) (acc : Int), (cs[i].toIs).length - k = d → k ≤ (cs[i].toIs).length →
    0 ≤ acc → acc ≤ k → acc + sumL w ((cs[i].toIs).drop k) = sumL w (cs[i].toIs) → Ev C (f41h41_1b n cs w i out acc k) (f41h41_1bm n cs w i out acc k) Q := by
  intro d
  induction d with
  | zero =>
    intro k acc hd hkl h0 h1 he
    rw [List.drop_of_length_le (by omega)] at he
    have he : acc = sumL w (cs[i].toIs) := by simpa [sumL] using he
    have hm : (sumL w (cs[i].toIs)).tmod 2 = sumL w (cs[i].toIs) % 2 := Int.tmod_eq_emod_of_nonneg (he ▸ h0)
    by_cases h2 : sumL w (cs[i].toIs) % 2 = 1
    · rw [if_pos h2] at hk
      refine go hC F1_ok (f41p9 std n cs w i out acc k) ?_ hk
      simp [hi, hm, he, h2, AV.bx, flatLen]
      have := ho.1
      omega
    · rw [if_neg h2] at hk
      refine go hC F1_ok (f41p10 std n cs w i out acc k) ?_ hk
      simp [hi, hm, he, h2]
      omega
  | succ d ih =>
    intro k acc hd hkl h0 h1 he
    have hlt : k < (cs[i].toIs).length := by omega
    obtain ⟨p0, p1⟩ := okL1_get ho hlt
    rw [List.drop_eq_getElem_cons hlt, sumL] at he
    have hb := bit_get hw ((cs[i].toIs)[k]).toNat
    have hg : w.getD ((cs[i].toIs)[k]).toNat 0 = w[((cs[i].toIs)[k]).toNat] := by simp [List.getD_eq_getElem?_getD, p1]
    rw [hg] at hb he
    have h26 := ho.1
    refine go hC F1_ok (f41p8 std n cs w i out acc k) ?_ ?_
    · simp [hi, hlt, p0, p1]
      omega
    · have := ih (k + 1) (acc + w[((cs[i].toIs)[k]).toNat]) (by omega) (by omega) (by omega) (by omega) (by omega)
      simpa [hi, hlt, p1] using this
theorem l41a (n : Int) (cs : List AV) (w : List Int) (hw : w.all bitB = true) (h : cs.length ≤ 1000000) (i : Nat) (hi : i < cs.length) (ho : okL1 w.length (cs[i].toIs))
    (hk1 : sumL w (cs[i].toIs) % 2 = 1 → Ev C (f41h41_0b n cs w (i + 1 : Nat) [(i : Int)]) (f41h41_0bm n cs w (i + 1 : Nat) [(i : Int)]) Q)
    (hk0 : sumL w (cs[i].toIs) % 2 ≠ 1 → Ev C (f41h41_0a n cs w (i + 1 : Nat)) (f41h41_0am n cs w (i + 1 : Nat)) Q) : ∀ (d k : Nat) (acc : Int), (cs[i].toIs).length - k = d → k ≤ (cs[i].toIs).length →
    0 ≤ acc → acc ≤ k → acc + sumL w ((cs[i].toIs).drop k) = sumL w (cs[i].toIs) → Ev C (f41h41_1a n cs w i acc k) (f41h41_1am n cs w i acc k) Q := by
  intro d
  induction d with
  | zero =>
    intro k acc hd hkl h0 h1 he
    rw [List.drop_of_length_le (by omega)] at he
    have he : acc = sumL w (cs[i].toIs) := by simpa [sumL] using he
    have hm : (sumL w (cs[i].toIs)).tmod 2 = sumL w (cs[i].toIs) % 2 := Int.tmod_eq_emod_of_nonneg (he ▸ h0)
    by_cases h2 : sumL w (cs[i].toIs) % 2 = 1
    · refine go hC F1_ok (f41p4 std n cs w i acc k) ?_ (hk1 h2)
      simp [hi, hm, he, h2, AV.bx, flatLen]
      omega
    · refine go hC F1_ok (f41p5 std n cs w i acc k) ?_ (hk0 h2)
      simp [hi, hm, he, h2]
      omega
  | succ d ih =>
    intro k acc hd hkl h0 h1 he
    have hlt : k < (cs[i].toIs).length := by omega
    obtain ⟨p0, p1⟩ := okL1_get ho hlt
    rw [List.drop_eq_getElem_cons hlt, sumL] at he
    have hb := bit_get hw ((cs[i].toIs)[k]).toNat
    have hg : w.getD ((cs[i].toIs)[k]).toNat 0 = w[((cs[i].toIs)[k]).toNat] := by simp [List.getD_eq_getElem?_getD, p1]
    rw [hg] at hb he
    have h26 := ho.1
    refine go hC F1_ok (f41p3 std n cs w i acc k) ?_ ?_
    · simp [hi, hlt, p0, p1]
      omega
    · have := ih (k + 1) (acc + w[((cs[i].toIs)[k]).toNat]) (by omega) (by omega) (by omega) (by omega) (by omega)
      simpa [hi, hlt, p1] using this
theorem l41B (n : Int) (cs : List AV) (w : List Int) (hw : w.all bitB = true) (h : cs.length ≤ 1000000) (ho : ∀ (i : Nat) (hi : i < cs.length), okL1 w.length (cs[i].toIs)) (T : List Int) : ∀ (d i : Nat) (out : List Int), cs.length - i = d → i ≤ cs.length → out.length ≤ i → out ≠ [] → out ++ unsS w i ((iss cs).drop i) = T →
    Ev C (f41h41_0b n cs w i out) (f41h41_0bm n cs w i out) (FinQ 41 (rvN T) (rfN T)) := by
  intro d
  induction d with
  | zero =>
    intro i out hd hi hl hne he
    rw [List.drop_of_length_le (by rw [iss_len]; omega), unsS, List.append_nil] at he
    subst he
    obtain ⟨e1, e2⟩ := rvN_ne hne
    exact fin hC F1_ok (f41p7 std n cs w i out) (by simp; omega) e1.symm e2.symm
  | succ d ih =>
    intro i out hd hi hl hne he
    have hlt : i < cs.length := by omega
    have hlt2 : i < (iss cs).length := by rw [iss_len]; exact hlt
    have hg : (iss cs)[i] = cs[i].toIs := by simp [iss]
    rw [List.drop_eq_getElem_cons hlt2, unsS, hg] at he
    refine go hC F1_ok (f41p6 std n cs w i out) (by simp; omega) ?_
    refine l41b hC n cs w hw h i hlt (ho i hlt) out hl ?_ (cs[i].toIs).length 0 0 (by omega) (by omega) (by omega) (by omega) (by simp)
    split
    · rename_i h2
      rw [if_pos h2] at he
      exact ih (i + 1) _ (by omega) (by omega) (by simp; omega) (by simp) (by rw [List.append_assoc]; exact he)
    · rename_i h2
      rw [if_neg h2] at he
      exact ih (i + 1) _ (by omega) (by omega) (by omega) hne he
theorem l41A (n : Int) (cs : List AV) (w : List Int) (hw : w.all bitB = true) (h : cs.length ≤ 1000000) (ho : ∀ (i : Nat) (hi : i < cs.length), okL1 w.length (cs[i].toIs)) (T : List Int) : ∀ (d i : Nat), cs.length - i = d → i ≤ cs.length → unsS w i ((iss cs).drop i) = T →
    Ev C (f41h41_0a n cs w i) (f41h41_0am n cs w i) (FinQ 41 (rvN T) (rfN T)) := by
  intro d
  induction d with
  | zero =>
    intro i hd hi he
    rw [List.drop_of_length_le (by rw [iss_len]; omega), unsS] at he
    subst he
    exact fin hC F1_ok (f41p2 std n cs w i) (by simp; omega) rfl rfl
  | succ d ih =>
    intro i hd hi he
    have hlt : i < cs.length := by omega
    have hlt2 : i < (iss cs).length := by rw [iss_len]; exact hlt
    have hg : (iss cs)[i] = cs[i].toIs := by simp [iss]
    rw [List.drop_eq_getElem_cons hlt2, unsS, hg] at he
    refine go hC F1_ok (f41p1 std n cs w i) (by simp; omega) ?_
    refine l41a hC n cs w hw h i hlt (ho i hlt) (fun h2 => ?_) (fun h2 => ?_) (cs[i].toIs).length 0 0 (by omega) (by omega) (by omega) (by omega) (by simp)
    · rw [if_pos h2] at he
      exact l41B hC n cs w hw h ho T d (i + 1) _ (by omega) (by omega) (by simp) (by simp) he
    · rw [if_neg h2] at he
      exact ih (i + 1) (by omega) (by omega) he
theorem l115b (cs : List AV) (w : List Int) (hw : w.all bitB = true) (h : cs.length ≤ 1000000) (i : Nat) (hi : i < cs.length) (l : List Int) (ho : okL1 w.length l) (out : List Int) (hout : out.length ≤ i)
    (hk : Ev C (f115h115_0b cs w cs.length (i + 1 : Nat) (if sumL w l % 2 = 1 then out ++ [(i : Int)] else out)) (f115h115_0bm cs w cs.length (i + 1 : Nat) (if sumL w l % 2 = 1 then out ++ [(i : Int)] else out)) Q) : ∀ (d k : Nat) (acc : Int), l.length - k = d → k ≤ l.length →
    (acc = 0 ∨ acc = 1) → (acc + sumL w (l.drop k)) % 2 = sumL w l % 2 → Ev C (f115h115_1b cs w cs.length i out l l.length acc k) (f115h115_1bm cs w cs.length i out l l.length acc k) Q := by
  intro d
  induction d with
  | zero =>
    intro k acc hd hkl h0 he
    rw [List.drop_of_length_le (by omega)] at he
    simp only [sumL, Int.add_zero] at he
    by_cases h2 : sumL w l % 2 = 1
    · rw [if_pos h2] at hk
      have h3 : acc = 1 := by omega
      refine go hC F1_ok (f115p9 std cs w cs.length i out l l.length acc k) ?_ hk
      simp [h3, AV.bx, flatLen]
      omega
    · rw [if_neg h2] at hk
      have h3 : acc = 0 := by omega
      refine go hC F1_ok (f115p10 std cs w cs.length i out l l.length acc k) ?_ hk
      simp [h3]
      omega
  | succ d ih =>
    intro k acc hd hkl h0 he
    have hlt : k < l.length := by omega
    obtain ⟨p0, p1⟩ := okL1_get ho hlt
    rw [List.drop_eq_getElem_cons hlt, sumL] at he
    have hb := bit_get hw (l[k]).toNat
    have hx := xor_bits h0 hb
    have h26 := ho.1
    refine go hC F1_ok (f115p8 std cs w cs.length i out l l.length acc k) ?_ ?_
    · simp [hlt, p0, p1]
      omega
    · have := ih (k + 1) (std.bits .xor .i64 acc (w.getD (l[k]).toNat 0)) (by omega) (by omega) (by rw [hx]; omega) (by rw [hx]; omega)
      simpa [hlt, p1] using this
theorem l115a (cs : List AV) (w : List Int) (hw : w.all bitB = true) (h : cs.length ≤ 1000000) (i : Nat) (hi : i < cs.length) (l : List Int) (ho : okL1 w.length l)
    (hk1 : sumL w l % 2 = 1 → Ev C (f115h115_0b cs w cs.length (i + 1 : Nat) [(i : Int)]) (f115h115_0bm cs w cs.length (i + 1 : Nat) [(i : Int)]) Q)
    (hk0 : sumL w l % 2 ≠ 1 → Ev C (f115h115_0a cs w cs.length (i + 1 : Nat)) (f115h115_0am cs w cs.length (i + 1 : Nat)) Q) : ∀ (d k : Nat) (acc : Int), l.length - k = d → k ≤ l.length →
    (acc = 0 ∨ acc = 1) → (acc + sumL w (l.drop k)) % 2 = sumL w l % 2 → Ev C (f115h115_1a cs w cs.length i l l.length acc k) (f115h115_1am cs w cs.length i l l.length acc k) Q := by
  intro d
  induction d with
  | zero =>
    intro k acc hd hkl h0 he
    rw [List.drop_of_length_le (by omega)] at he
    simp only [sumL, Int.add_zero] at he
    by_cases h2 : sumL w l % 2 = 1
    · have h3 : acc = 1 := by omega
      refine go hC F1_ok (f115p4 std cs w cs.length i l l.length acc k) ?_ (hk1 h2)
      simp [h3, AV.bx, flatLen]
      omega
    · have h3 : acc = 0 := by omega
      refine go hC F1_ok (f115p5 std cs w cs.length i l l.length acc k) ?_ (hk0 h2)
      simp [h3]
      omega
  | succ d ih =>
    intro k acc hd hkl h0 he
    have hlt : k < l.length := by omega
    obtain ⟨p0, p1⟩ := okL1_get ho hlt
    rw [List.drop_eq_getElem_cons hlt, sumL] at he
    have hb := bit_get hw (l[k]).toNat
    have hx := xor_bits h0 hb
    have h26 := ho.1
    refine go hC F1_ok (f115p3 std cs w cs.length i l l.length acc k) ?_ ?_
    · simp [hlt, p0, p1]
      omega
    · have := ih (k + 1) (std.bits .xor .i64 acc (w.getD (l[k]).toNat 0)) (by omega) (by omega) (by rw [hx]; omega) (by rw [hx]; omega)
      simpa [hlt, p1] using this
theorem l115B (cs : List AV) (w : List Int) (hw : w.all bitB = true) (h : cs.length ≤ 1000000) (ho : ∀ (i : Nat) (hi : i < cs.length), okL1 w.length (cs[i].toIs)) (T : List Int) : ∀ (d i : Nat) (out : List Int), cs.length - i = d → i ≤ cs.length → out.length ≤ i → out ≠ [] → out ++ unsS w i ((iss cs).drop i) = T →
    Ev C (f115h115_0b cs w cs.length i out) (f115h115_0bm cs w cs.length i out) (FinQ 115 (rvN T) (rfN T)) := by
  intro d
  induction d with
  | zero =>
    intro i out hd hi hl hne he
    rw [List.drop_of_length_le (by rw [iss_len]; omega), unsS, List.append_nil] at he
    subst he
    obtain ⟨e1, e2⟩ := rvN_ne hne
    exact fin hC F1_ok (f115p7 std cs w cs.length i out) (by simp; omega) e1.symm e2.symm
  | succ d ih =>
    intro i out hd hi hl hne he
    have hlt : i < cs.length := by omega
    have hlt2 : i < (iss cs).length := by rw [iss_len]; exact hlt
    have hg : (iss cs)[i] = cs[i].toIs := by simp [iss]
    rw [List.drop_eq_getElem_cons hlt2, unsS, hg] at he
    refine go hC F1_ok (f115p6 std cs w cs.length i out) (by simp; omega) ?_
    have := l115b hC cs w hw h i hlt (cs[i].toIs) (ho i hlt) out hl (by
      split
      · rename_i h2
        rw [if_pos h2] at he
        exact ih (i + 1) _ (by omega) (by omega) (by simp; omega) (by simp) (by rw [List.append_assoc]; exact he)
      · rename_i h2
        rw [if_neg h2] at he
        exact ih (i + 1) _ (by omega) (by omega) (by omega) hne he) (cs[i].toIs).length 0 0 (by omega) (by omega) (by omega) (by simp)
    simpa [hlt] using this
theorem l115A (cs : List AV) (w : List Int) (hw : w.all bitB = true) (h : cs.length ≤ 1000000) (ho : ∀ (i : Nat) (hi : i < cs.length), okL1 w.length (cs[i].toIs)) (T : List Int) : ∀ (d i : Nat), cs.length - i = d → i ≤ cs.length → unsS w i ((iss cs).drop i) = T →
    Ev C (f115h115_0a cs w cs.length i) (f115h115_0am cs w cs.length i) (FinQ 115 (rvN T) (rfN T)) := by
  intro d
  induction d with
  | zero =>
    intro i hd hi he
    rw [List.drop_of_length_le (by rw [iss_len]; omega), unsS] at he
    subst he
    exact fin hC F1_ok (f115p2 std cs w cs.length i) (by simp; omega) rfl rfl
  | succ d ih =>
    intro i hd hi he
    have hlt : i < cs.length := by omega
    have hlt2 : i < (iss cs).length := by rw [iss_len]; exact hlt
    have hg : (iss cs)[i] = cs[i].toIs := by simp [iss]
    rw [List.drop_eq_getElem_cons hlt2, unsS, hg] at he
    refine go hC F1_ok (f115p1 std cs w cs.length i) (by simp; omega) ?_
    have := l115a hC cs w hw h i hlt (cs[i].toIs) (ho i hlt) (fun h2 => by
      rw [if_pos h2] at he
      exact l115B hC cs w hw h ho T d (i + 1) _ (by omega) (by omega) (by simp) (by simp) he) (fun h2 => by
      rw [if_neg h2] at he
      exact ih (i + 1) (by omega) (by omega) he) (cs[i].toIs).length 0 0 (by omega) (by omega) (by omega) (by simp)
    simpa [hlt] using this
end
theorem uns115_ok (n : Int) (cs : List AV) (w : List Int) (hw : w.all bitB = true) (h : cs.length ≤ 1000000) (ho : ∀ (i : Nat) (hi : i < cs.length), okL1 w.length (cs[i].toIs)) : Pure Try.prog 115 [.agg (.gen [.int .i64 n, .list (.big (.ints .i64) cs)]), .list (.ints .i64 w)] (.list (.ints .i64 (unsS w 0 (iss cs)))) newF :=
  pureN (start (f115e_at n cs w) fun C hC => go hC F1_ok (f115p0 std n cs w) (by simp) (l115A hC cs w hw h ho _ cs.length 0 (by omega) (by omega) rfl))
/-- what the errors say of a code and a word -/
theorem lineE_ok {n : Int} : ∀ {l : List Int} {prev : Int}, lineE n prev l = 0 → ∀ p ∈ l, 0 ≤ p ∧ p ≤ n - 1
  | [], _, _, p, hp => by cases hp
  | q :: l, prev, h, p, hp => by
    simp only [lineE] at h
    split at h
    · cases h
    · rename_i h1
      split at h
      · cases h
      · rcases List.mem_cons.1 hp with e | e
        · rw [e]; exact Decidable.not_not.1 h1
        · exact lineE_ok h p e
theorem scanE_ok {n : Int} : ∀ {cs : List (List Int)} {i : Nat}, (scanE n i cs).2 = 0 → ∀ l ∈ cs, ∀ p ∈ l, 0 ≤ p ∧ p ≤ n - 1
  | [], _, _, l, hl => by cases hl
  | c :: cs, i, h, l, hl => by
    simp only [scanE] at h
    split at h
    · cases h
    · split at h
      · rename_i h1
        rcases List.mem_cons.1 hl with e | e
        · rw [e]; exact lineE_ok h1
        · exact scanE_ok h l e
      · rename_i h1; exact absurd h h1
theorem parE_ok {n : Int} {cs : List AV} {w : List Int} (h : parE n (iss cs) w = 0) (hf : cs.all few1 = true) : (w.length : Int) = n ∧ w.all bitB = true ∧ 1 ≤ n ∧ n ≤ 24 ∧ cs.length ≤ 16 ∧ ∀ (i : Nat) (hi : i < cs.length), okL1 w.length (cs[i].toIs) := by
  unfold parE at h
  split at h
  · rename_i h1; exact absurd h h1
  · rename_i h1
    have h1 := Decidable.not_not.1 h1
    split at h
    · cases h
    · rename_i h2
      have h2 := Decidable.not_not.1 h2
      unfold bitE at h
      split at h
      · rename_i h3
        unfold chkE at h1
        split at h1
        · cases h1
        · rename_i h4
          have h4 := Decidable.not_not.1 h4
          split at h1
          · cases h1
          · rename_i h5
            rw [iss_len] at h5
            refine ⟨h2, h3, h4.1, h4.2, by omega, fun i hi => ⟨few_get hf hi, fun p hp => ?_⟩⟩
            have := scanE_ok h1 (cs[i].toIs) (by simp only [iss, List.mem_map]; exact ⟨_, List.getElem_mem hi, rfl⟩) p hp
            omega
      · cases h
theorem uns41_ok (n : Int) (cs : List AV) (w : List Int) (hw : w.all bitB = true) (h : cs.length ≤ 1000000) (ho : ∀ (i : Nat) (hi : i < cs.length), okL1 w.length (cs[i].toIs)) : Pure Try.prog 41 [.agg (.gen [.int .i64 n, .list (.big (.ints .i64) cs)]), .list (.ints .i64 w)] (.list (.ints .i64 (unsS w 0 (iss cs)))) newF :=
  pureN (start (f41e_at n cs w) fun C hC => go hC F1_ok (f41p0 std n cs w) (by simp) (l41A hC n cs w hw h ho _ cs.length 0 (by omega) (by omega) rfl))
theorem uns41_ok' (n : Int) (cs : List AV) (w : List Int) (h : parE n (iss cs) w = 0) (hf : cs.all few1 = true) : Pure Try.prog 41 [.agg (.gen [.int .i64 n, .list (.big (.ints .i64) cs)]), .list (.ints .i64 w)] (.list (.ints .i64 (unsS w 0 (iss cs)))) newF := by
  obtain ⟨h1, h2, h3, h4, h5, h6⟩ := parE_ok h hf
  exact uns41_ok n cs w h2 (by omega) h6
theorem uns115_ok' (n : Int) (cs : List AV) (w : List Int) (h : parE n (iss cs) w = 0) (hf : cs.all few1 = true) : Pure Try.prog 115 [.agg (.gen [.int .i64 n, .list (.big (.ints .i64) cs)]), .list (.ints .i64 w)] (.list (.ints .i64 (unsS w 0 (iss cs)))) newF := by
  obtain ⟨h1, h2, h3, h4, h5, h6⟩ := parE_ok h hf
  exact uns115_ok n cs w h2 (by omega) h6
def k114 : Ctr := ⟨114, 0, fun _ a => match a with | [.agg (.gen [.int .i64 n, .list (.big (.ints .i64) cs)]), .list (.ints .i64 w)] => some (decide (cs.length ≤ 1000000 ∧ cs.all few1 = true ∧ w.length ≤ 1000000), .int .i64 (parE n (iss cs) w), none) | _ => none⟩
theorem k114_ok : k114.OK Try.prog := fun pa args r fr h => by
  simp only [k114] at h
  split at h
  · simp only [Option.some.injEq, Prod.mk.injEq, decide_eq_true_eq] at h
    obtain ⟨h0, rfl, rfl⟩ := h
    exact word_ok _ _ _ h0.1 h0.2.1 h0.2.2
  · cases h
def k41 : Ctr := ⟨41, 0, fun _ a => match a with | [.agg (.gen [.int .i64 n, .list (.big (.ints .i64) cs)]), .list (.ints .i64 w)] => some (decide (parE n (iss cs) w = 0 ∧ cs.all few1 = true), .list (.ints .i64 (unsS w 0 (iss cs))), newF) | _ => none⟩
theorem k41_ok : k41.OK Try.prog := fun pa args r fr h => by
  simp only [k41] at h
  split at h
  · simp only [Option.some.injEq, Prod.mk.injEq, decide_eq_true_eq] at h
    obtain ⟨h0, rfl, rfl⟩ := h
    exact uns41_ok' _ _ _ h0.1 h0.2
  · cases h
def k115 : Ctr := ⟨115, 0, fun _ a => match a with | [.agg (.gen [.int .i64 n, .list (.big (.ints .i64) cs)]), .list (.ints .i64 w)] => some (decide (parE n (iss cs) w = 0 ∧ cs.all few1 = true), .list (.ints .i64 (unsS w 0 (iss cs))), newF) | _ => none⟩
theorem k115_ok : k115.OK Try.prog := fun pa args r fr h => by
  simp only [k115] at h
  split at h
  · simp only [Option.some.injEq, Prod.mk.injEq, decide_eq_true_eq] at h
    obtain ⟨h0, rfl, rfl⟩ := h
    exact uns115_ok' _ _ _ h0.1 h0.2
  · cases h
def F5 : List Ctr := [k114, k41, k115] ++ F4
theorem F5_ok : CtrsOK Try.prog F5 := ⟨k114_ok, ⟨k41_ok, ⟨k115_ok, F4_ok⟩⟩⟩
end Go.Proofs.Ytimmgjppippdiaa
