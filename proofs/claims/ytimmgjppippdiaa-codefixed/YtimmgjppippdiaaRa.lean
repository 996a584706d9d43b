/- Contracts as a list. No condition. -/
import Derived.Test.YtimmgjppippdiaaR9
namespace Go.Proofs.Ytimmgjppippdiaa
/-! ### Parity-check codes that are valid -/
def lineE (n : Int) : Int → List Int → Int
  | _, [] => 0
  | prev, p :: l => if ¬ (0 ≤ p ∧ p ≤ n - 1) then 6 else if ¬ prev < p then 9 else lineE n p l
def scanE (n : Int) : Nat → List (List Int) → Int × Int
  | _, [] => (0, 0)
  | i, l :: cs => if l.length = 0 then (i, 10) else if lineE n (-1) l = 0 then scanE n (i + 1) cs else (i, lineE n (-1) l)
def chkE (n : Int) (cs : List (List Int)) : Int × Int := if ¬ (1 ≤ n ∧ n ≤ 24) then (0, 2) else if 16 < cs.length then (0, 8) else scanE n 0 cs
abbrev finP (f : FuncId) (r : Int × Int) := FinQ f (.tup [.int .i64 r.1, .int .i64 r.2]) none
theorem iss_len (cs : List AV) : (iss cs).length = cs.length := by simp [iss]
section
variable {C : Ctx} (hC : C.P = Try.prog)
include hC
/-- the reference's inner loop: what stands ahead of k is the element before -/
theorem l39_in (n : Int) (cs : List AV) (hn : 1 ≤ n ∧ n ≤ 24) (h : cs.length ≤ 1000000) (i : Nat) (hi : i < cs.length) (hl : (cs[i].toIs).length ≤ 26) (r : Int × Int)
    (hk : lineE n (-1) (cs[i].toIs) = 0 → Ev C (f39h39_0a n cs (i + 1 : Nat)) (f39h39_0am n cs (i + 1 : Nat)) (finP 39 r)) (hr : lineE n (-1) (cs[i].toIs) ≠ 0 → r = ((i : Int), lineE n (-1) (cs[i].toIs))) : ∀ (d k : Nat) (prev : Int), (cs[i].toIs).length - k = d → k ≤ (cs[i].toIs).length →
    (k = 0 → prev = -1) → (∀ hk : 0 < k, prev = (cs[i].toIs).getD (k - 1) 0 ∧ 0 ≤ prev) → lineE n (-1) (cs[i].toIs) = lineE n prev ((cs[i].toIs).drop k) →
    Ev C (f39h39_1a n cs i k) (f39h39_1am n cs i k) (finP 39 r) := by
  intro d
  induction d with
  | zero =>
    intro k prev hd hkl _ _ he
    refine go hC F1_ok (f39p10 std n cs i k) (by simp [hi]; omega) (hk ?_)
    rw [he, List.drop_of_length_le (by omega)]; rfl
  | succ d ih =>
    intro k prev hd hkl hp0 hp1 he
    have hlt : k < (cs[i].toIs).length := by omega
    rw [List.drop_eq_getElem_cons hlt, lineE] at he
    by_cases h1 : 0 ≤ (cs[i].toIs)[k] ∧ (cs[i].toIs)[k] ≤ n - 1
    · rw [if_neg (by simpa using h1)] at he
      by_cases h2 : prev < (cs[i].toIs)[k]
      · rw [if_neg (by simpa using h2)] at he
        have next := ih (k + 1) _ (by omega) (by omega) (by omega) (fun _ => ⟨by simp [hlt], h1.1⟩) he
        by_cases hk0 : 0 < k
        · obtain ⟨e1, e2⟩ := hp1 hk0
          have hkm : ((k : Int) - 1).toNat = k - 1 := by omega
          have hkl1 : k - 1 < (cs[i].toIs).length := by omega
          have e3 : (cs[i].toIs)[k - 1] = prev := by rw [e1]; simp [hkl1]
          refine go hC F1_ok (f39p8 std n cs i k) ?_ next
          simp [hi, hlt, h1, hkm, hkl1, e3]
          omega
        · exact go hC F1_ok (f39p9 std n cs i k) (by simp [hi, hlt, h1]; omega) next
      · rw [if_pos (by simpa using h2)] at he
        have hk0 : 0 < k := by
          rcases Nat.eq_zero_or_pos k with h0 | h0
          · have := hp0 h0; omega
          · exact h0
        obtain ⟨e1, e2⟩ := hp1 hk0
        have hkm : ((k : Int) - 1).toNat = k - 1 := by omega
        have hkl1 : k - 1 < (cs[i].toIs).length := by omega
        have e3 : (cs[i].toIs)[k - 1] = prev := by rw [e1]; simp [hkl1]
        refine fin hC F1_ok (f39p7 std n cs i k) ?_ (by rw [hr (by rw [he]; decide), he]) rfl
        simp [hi, hlt, h1, hkm, hkl1, e3]
        omega
    · rw [if_pos (by simpa using h1)] at he
      refine fin hC F1_ok (f39p6 std n cs i k) ?_ (by rw [hr (by rw [he]; decide), he]) rfl
      simp [hi, hlt]
      omega
theorem l39_out (n : Int) (cs : List AV) (hn : 1 ≤ n ∧ n ≤ 24) (h : cs.length ≤ 1000000) (hf : cs.all few1 = true) : ∀ (d i : Nat), cs.length - i = d → i ≤ cs.length →
    Ev C (f39h39_0a n cs i) (f39h39_0am n cs i) (finP 39 (scanE n i ((iss cs).drop i))) := by
  intro d
  induction d with
  | zero =>
    intro i hd hi
    exact fin hC F1_ok (f39p5 std n cs i) (by simp; omega) (by rw [List.drop_of_length_le (by rw [iss_len]; omega)]; rfl) rfl
  | succ d ih =>
    intro i hd hi
    have hlt : i < cs.length := by omega
    have hlt2 : i < (iss cs).length := by rw [iss_len]; exact hlt
    have hl := few_get hf hlt
    have hg : (iss cs)[i] = cs[i].toIs := by simp [iss]
    rw [List.drop_eq_getElem_cons hlt2, scanE, hg]
    by_cases h0 : (cs[i].toIs).length = 0
    · rw [if_pos h0]
      exact fin hC F1_ok (f39p3 std n cs i) (by simp [hlt, h0]) rfl rfl
    · rw [if_neg h0]
      have h0' : cs[i].toIs ≠ [] := fun e => h0 (by rw [e]; rfl)
      refine go hC F1_ok (f39p4 std n cs i) (by simp [hlt, h0']) ?_
      refine l39_in hC n cs hn h i hlt hl _ (fun e => ?_) (fun e => by rw [if_neg e]) (cs[i].toIs).length 0 (-1) (by omega) (by omega) (fun _ => rfl) (fun hk => by omega) rfl
      rw [if_pos e]
      exact ih (i + 1) (by omega) (by omega)
/-- the program's inner loop -/
theorem l35_in (n : Int) (cs : List AV) (hn : 1 ≤ n ∧ n ≤ 24) (i : Nat) (hi : i < cs.length) (h : cs.length ≤ 1000000) (l : List Int) (hl : l.length ≤ 26) (r : Int × Int)
    (hk : lineE n (-1) l = 0 → Ev C (f35h35_0a n cs cs.length (i + 1 : Nat)) (f35h35_0am n cs cs.length (i + 1 : Nat)) (finP 35 r)) (hr : lineE n (-1) l ≠ 0 → r = ((i : Int), lineE n (-1) l)) : ∀ (d k : Nat) (prev : Int), l.length - k = d → k ≤ l.length →
    lineE n (-1) l = lineE n prev (l.drop k) → Ev C (f35h35_1a n cs cs.length i l l.length prev k) (f35h35_1am n cs cs.length i l l.length prev k) (finP 35 r) := by
  intro d
  induction d with
  | zero =>
    intro k prev hd hkl he
    refine go hC F1_ok (f35p7 std n cs cs.length i l l.length prev k) (by simp; omega) (hk ?_)
    rw [he, List.drop_of_length_le (by omega)]; rfl
  | succ d ih =>
    intro k prev hd hkl he
    have hlt : k < l.length := by omega
    rw [List.drop_eq_getElem_cons hlt, lineE] at he
    by_cases h1 : 0 ≤ l[k] ∧ l[k] ≤ n - 1
    · rw [if_neg (by simpa using h1)] at he
      by_cases h2 : prev < l[k]
      · rw [if_neg (by simpa using h2)] at he
        refine go hC F1_ok (f35p6 std n cs cs.length i l l.length prev k) (by simp [hlt, h1, h2, firstE, unlessE, AV.bx, flatLen]; omega) ?_
        have := ih (k + 1) _ (by omega) (by omega) he
        simpa [hlt] using this
      · rw [if_pos (by simpa using h2)] at he
        exact fin hC F1_ok (f35p5 std n cs cs.length i l l.length prev k) (by simp [hlt, h1, h2, firstE, unlessE, AV.bx, flatLen]; omega) (by rw [hr (by rw [he]; decide), he]; simp [hlt, h1, h2, firstE, unlessE]) rfl
    · rw [if_pos (by simpa using h1)] at he
      exact fin hC F1_ok (f35p5 std n cs cs.length i l l.length prev k) (by simp [hlt, h1, firstE, unlessE, AV.bx, flatLen]; omega) (by rw [hr (by rw [he]; decide), he]; simp [hlt, h1, firstE, unlessE]) rfl
theorem l35_out (n : Int) (cs : List AV) (hn : 1 ≤ n ∧ n ≤ 24) (h : cs.length ≤ 1000000) (hf : cs.all few1 = true) : ∀ (d i : Nat), cs.length - i = d → i ≤ cs.length →
    Ev C (f35h35_0a n cs cs.length i) (f35h35_0am n cs cs.length i) (finP 35 (scanE n i ((iss cs).drop i))) := by
  intro d
  induction d with
  | zero =>
    intro i hd hi
    exact fin hC F1_ok (f35p4 std n cs cs.length i) (by simp; omega) (by rw [List.drop_of_length_le (by rw [iss_len]; omega)]; rfl) rfl
  | succ d ih =>
    intro i hd hi
    have hlt : i < cs.length := by omega
    have hlt2 : i < (iss cs).length := by rw [iss_len]; exact hlt
    have hl := few_get hf hlt
    have hg : (iss cs)[i] = cs[i].toIs := by simp [iss]
    rw [List.drop_eq_getElem_cons hlt2, scanE, hg]
    by_cases h0 : (cs[i].toIs).length = 0
    · rw [if_pos h0]
      exact fin hC F1_ok (f35p2 std n cs cs.length i) (by simp [hlt, h0]) rfl rfl
    · rw [if_neg h0]
      have h0' : cs[i].toIs ≠ [] := fun e => h0 (by rw [e]; rfl)
      refine go hC F1_ok (f35p3 std n cs cs.length i) (by simp [hlt, h0']) ?_
      have := l35_in hC n cs hn i hlt h (cs[i].toIs) hl (if lineE n (-1) (cs[i].toIs) = 0 then scanE n (i + 1) ((iss cs).drop (i + 1)) else ((i : Int), lineE n (-1) (cs[i].toIs))) (fun e => by rw [if_pos e]; exact ih (i + 1) (by omega) (by omega)) (fun e => by rw [if_neg e]) (cs[i].toIs).length 0 (-1) (by omega) (by omega) rfl
      simpa [hlt] using this
end
theorem chk39_ok (n : Int) (cs : List AV) (h : cs.length ≤ 1000000) (hf : cs.all few1 = true) : Pure Try.prog 39 [.agg (.gen [.int .i64 n, .list (.big (.ints .i64) cs)])] (.tup [.int .i64 (chkE n (iss cs)).1, .int .i64 (chkE n (iss cs)).2]) none :=
  start (f39e_at n cs) fun C hC => by
    by_cases hn : 1 ≤ n ∧ n ≤ 24
    · by_cases h16 : 16 < cs.length
      · exact fin hC F1_ok (f39p1 std n cs) (by simp [hn]; omega) (by simp [chkE, hn, h16, iss_len]) rfl
      · refine go hC F1_ok (f39p2 std n cs) (by simp [hn]; omega) ?_
        have := l39_out hC n cs hn h hf cs.length 0 (by omega) (by omega)
        simpa [chkE, hn, h16, iss_len] using this
    · exact fin hC F1_ok (f39p0 std n cs) (by simp only [hn]; simp) (by simp only [chkE, hn]; rfl) rfl
theorem chk35_ok (n : Int) (cs : List AV) (h : cs.length ≤ 1000000) (hf : cs.all few1 = true) : Pure Try.prog 35 [.agg (.gen [.int .i64 n, .list (.big (.ints .i64) cs)])] (.tup [.int .i64 (chkE n (iss cs)).1, .int .i64 (chkE n (iss cs)).2]) none :=
  start (f35e_at n cs) fun C hC => by
    by_cases hn : 1 ≤ n ∧ n ≤ 24
    · by_cases h16 : 16 < cs.length
      · have h16' : ¬ cs.length ≤ 16 := by omega
        exact fin hC F1_ok (f35p0 std n cs) (by simp [hn, h16', firstE, unlessE, AV.bx, flatLen, Row.len]; omega) (by simp [chkE, hn, h16, h16', iss_len, firstE, unlessE]; omega) rfl
      · have h16' : cs.length ≤ 16 := by omega
        refine go hC F1_ok (f35p1 std n cs) (by simp [hn, h16', firstE, unlessE, AV.bx, flatLen, Row.len]; omega) ?_
        have := l35_out hC n cs hn h hf cs.length 0 (by omega) (by omega)
        simpa [chkE, hn, h16, iss_len] using this
    · exact fin hC F1_ok (f35p0 std n cs) (by simp [hn, firstE, unlessE, AV.bx, flatLen, Row.len]) (by simp [chkE, hn, firstE, unlessE]) rfl
def k39 : Ctr := ⟨39, 0, fun _ a => match a with | [.agg (.gen [.int .i64 n, .list (.big (.ints .i64) cs)])] => some (decide (cs.length ≤ 1000000 ∧ cs.all few1 = true), .tup [.int .i64 (chkE n (iss cs)).1, .int .i64 (chkE n (iss cs)).2], none) | _ => none⟩
theorem k39_ok : k39.OK Try.prog := fun pa args r fr h => by
  simp only [k39] at h
  split at h
  · simp only [Option.some.injEq, Prod.mk.injEq, decide_eq_true_eq] at h
    obtain ⟨h0, rfl, rfl⟩ := h
    exact chk39_ok _ _ h0.1 h0.2
  · cases h
def k35 : Ctr := ⟨35, 0, fun _ a => match a with | [.agg (.gen [.int .i64 n, .list (.big (.ints .i64) cs)])] => some (decide (cs.length ≤ 1000000 ∧ cs.all few1 = true), .tup [.int .i64 (chkE n (iss cs)).1, .int .i64 (chkE n (iss cs)).2], none) | _ => none⟩
theorem k35_ok : k35.OK Try.prog := fun pa args r fr h => by
  simp only [k35] at h
  split at h
  · simp only [Option.some.injEq, Prod.mk.injEq, decide_eq_true_eq] at h
    obtain ⟨h0, rfl, rfl⟩ := h
    exact chk35_ok _ _ h0.1 h0.2
  · cases h
def F3 : List Ctr := [k39, k35] ++ F2
theorem F3_ok : CtrsOK Try.prog F3 := ⟨k39_ok, ⟨k35_ok, F2_ok⟩⟩
end Go.Proofs.Ytimmgjppippdiaa
