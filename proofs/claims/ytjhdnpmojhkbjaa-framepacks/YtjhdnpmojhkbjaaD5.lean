/- Contracts as a list. No condition. -/
import Derived.Test.YtjhdnpmojhkbjaaPL
namespace Go.Proofs.Ytjhdnpmojhkbjaa
/-! ### The stream of packets, with where packets begin -/
def begK (k n : Nat) : List AV := (List.range' k n).map fun j => AV.bool (decide (j = 0))
def begP : List AV → List AV
  | [] => []
  | p :: ps => begK 0 (pkB p).length ++ begP ps
theorem begK_succ (k n : Nat) : begK k (n + 1) = AV.bool (decide (k = 0)) :: begK (k + 1) n := by simp [begK, List.range'_succ]
theorem begK_len (k n : Nat) : (begK k n).length = n := by simp [begK]
theorem begP_len : ∀ ps : List AV, (begP ps).length = (bytesP ps).length
  | [] => rfl
  | p :: ps => by simp [begP, bytesP, begK_len, begP_len ps]
theorem pkB_len (p : AV) : (pkB p).length = (kD p).length + 3 := by simp [pkB]
theorem bytesP_le : ∀ {ps : List AV} {m : Nat}, (∀ p ∈ ps, (kD p).length ≤ m) → (bytesP ps).length ≤ (m + 3) * ps.length
  | [], m, _ => by simp [bytesP]
  | p :: ps, m, h => by
    have h1 := bytesP_le (ps := ps) (m := m) (fun q hq => h q (by simp [hq]))
    have h2 := h p (by simp)
    simp only [bytesP, List.length_append, pkB_len, List.length_cons, Nat.mul_add, Nat.mul_one]
    omega
theorem n104X {C : Ctx} (hC : C.P = Try.prog) (xs : List AV) (i : Nat) (code : List Int) (B0 : List Int) (S0 : List AV) (R : List AFrame → AHeap → Prop) (hi : i ≤ 1000000) (hcl : code.length ≤ 1000000) (hB0 : B0.length + code.length ≤ 4000000000) (hS0 : S0.length = B0.length)
    (hnext : Ev C (f104h104_0c xs (B0 ++ code) (S0 ++ begK 0 code.length) ((i + 1 : Nat) : Int)) (f104h104_0cm xs (B0 ++ code) (S0 ++ begK 0 code.length) ((i + 1 : Nat) : Int)) R) :
    ∀ (d k : Nat), k + d = code.length → Ev C (f104h104_1c xs k (B0 ++ code.take k) (S0 ++ begK 0 k) i code) (f104h104_1cm xs k (B0 ++ code.take k) (S0 ++ begK 0 k) i code) R := by
  intro d
  induction d with
  | zero =>
    intro k hk
    have : k = code.length := by omega
    subst this
    rw [List.take_length]
    exact go hC BD4_ok (f104p14 std xs _ _ _ _ _) (by simp; omega) (by simpa using hnext)
  | succ d ih =>
    intro k hk
    have hlt : k < code.length := by omega
    have e1 : std.nth code (std.nat (k : Int)) = code[k] := by simp [hlt]
    have ih' := ih (k + 1) (by omega)
    have e2 : begK 0 (k + 1) = begK 0 k ++ [AV.bool (decide (k = 0))] := by simp [begK, List.range'_concat]
    rw [e2, List.take_succ_eq_append_getElem hlt, ← List.append_assoc, ← List.append_assoc] at ih'
    have l1 : (B0 ++ code.take k).length ≤ 4000000000 := by rw [List.length_append, List.length_take]; omega
    have l2 : (S0 ++ begK 0 k).length ≤ 4000000000 := by rw [List.length_append, begK_len]; omega
    generalize B0 ++ code.take k = b at *
    generalize S0 ++ begK 0 k = g at *
    refine go hC BD4_ok (f104p13 std xs k b g i code) ?_ ?_
    · simp only [e1]; simp [hlt, AV.bx, flatLen]; omega
    · simp only [e1]; simpa using ih'
theorem o104X {C : Ctx} (hC : C.P = Try.prog) (xs : List AV) (hlen : xs.length ≤ 1000) (hk : ∀ p ∈ xs, (kD p).length ≤ 1000) (B : List Int) (S : List AV) : ∀ (d i : Nat) (b : List Int) (g : List AV), i + d = xs.length → b.length ≤ 1003 * i → g.length = b.length → b ++ bytesP (xs.drop i) = B → g ++ begP (xs.drop i) = S →
    Ev C (f104h104_0c xs b g i) (f104h104_0cm xs b g i) (FinQ 104 (.tup [.list (.ints .i64 B), .list (.big .bool S)]) none) := by
  intro d
  induction d with
  | zero =>
    intro i b g hd hb hg hB hS
    rw [List.drop_of_length_le (by omega), bytesP, List.append_nil] at hB
    rw [List.drop_of_length_le (by omega), begP, List.append_nil] at hS
    exact fin hC BD4_ok (f104p18 std xs b g i) (by simp; omega) (by rw [hB, hS]) rfl
  | succ d ih =>
    intro i b g hd hb hg hB hS
    have hlt : i < xs.length := by omega
    have e1 : std.nthA xs (std.nat (i : Int)) = xs[i] := by simp [hlt]
    have g0 : (xs[i].cellAt 0).toI = kI xs[i] := rfl
    have g1 : (xs[i].cellAt 1).toI = kC xs[i] := rfl
    have g2 : (xs[i].cellAt 2).toIs = kD xs[i] := rfl
    have hk' := hk xs[i] (by simp)
    have hpl := pkB_len xs[i]
    rw [List.drop_eq_getElem_cons hlt, bytesP, ← List.append_assoc] at hB
    rw [List.drop_eq_getElem_cons hlt, begP, ← List.append_assoc] at hS
    have ih' := ih (i + 1) (b ++ pkB xs[i]) (g ++ begK 0 (pkB xs[i]).length) (by omega) (by rw [List.length_append, hpl]; omega) (by simp [begK_len, hg]) hB hS
    have h2 := n104X hC xs i (pkB xs[i]) b g _ (by omega) (by omega) (by omega) hg ih' (pkB xs[i]).length 0 (by omega)
    refine go hC BD4_ok (f104p17 std xs b g i) ?_ ?_
    · simp only [e1, g0, g1, g2]; simp [hlt, AV.bx, flatLen]; omega
    · simp only [e1, g0, g1, g2]
      simpa [pkB, begK] using h2
theorem s104X {C : Ctx} (hC : C.P = Try.prog) (x : AV) (xs : List AV) (hlen : (x :: xs).length ≤ 1000) (hk : ∀ p ∈ x :: xs, (kD p).length ≤ 1000) :
    Ev C (f104h104_0a (x :: xs) 0) (f104h104_0am (x :: xs) 0) (FinQ 104 (.tup [.list (.ints .i64 (bytesP (x :: xs))), .list (.big .bool (begP (x :: xs)))]) none) := by
  have e1 : std.nthA (x :: xs) (std.nat 0) = x := by simp
  have g0 : (x.cellAt 0).toI = kI x := rfl
  have g1 : (x.cellAt 1).toI = kC x := rfl
  have g2 : (x.cellAt 2).toIs = kD x := rfl
  have hk' := hk x (by simp)
  have hpl := pkB_len x
  have h1 := o104X hC (x :: xs) hlen hk (bytesP (x :: xs)) (begP (x :: xs)) xs.length 1 (pkB x) (begK 0 (pkB x).length) (by simp; omega) (by omega) (begK_len _ _) rfl rfl
  have h2 := n104X hC (x :: xs) 0 (pkB x) [] [] _ (by omega) (by omega) (by simp; omega) rfl (by simpa using h1) ((kD x).length + 2) 1 (by omega)
  refine go hC BD4_ok (f104p5 std (x :: xs) 0) ?_ ?_
  · simp only [e1, g0, g1, g2]; simp [AV.bx, flatLen]; omega
  · simp only [e1, g0, g1, g2]
    refine go hC BD4_ok (f104p9 std (x :: xs) 0 _) (by simp [AV.bx, flatLen]; omega) ?_
    simpa [pkB, begK, List.range'] using h2
theorem n104Y {C : Ctx} (hC : C.P = Try.prog) (xs : List AV) (i : Nat) (code : List Int) (B0 : List Int) (S0 : List AV) (R : List AFrame → AHeap → Prop) (hi : i ≤ 1000000) (hcl : code.length ≤ 1000000) (hB0 : B0.length + code.length ≤ 4000000000) (hS0 : S0.length = B0.length)
    (hnext : Ev C (f104h104_0d xs (B0 ++ code) (S0 ++ begK 0 code.length) ((i + 1 : Nat) : Int)) (f104h104_0dm xs (B0 ++ code) (S0 ++ begK 0 code.length) ((i + 1 : Nat) : Int)) R) :
    ∀ (d k : Nat), k + d = code.length → Ev C (f104h104_1d xs k (B0 ++ code.take k) (S0 ++ begK 0 k) i code) (f104h104_1dm xs k (B0 ++ code.take k) (S0 ++ begK 0 k) i code) R := by
  intro d
  induction d with
  | zero =>
    intro k hk
    have : k = code.length := by omega
    subst this
    rw [List.take_length]
    exact go hC BD4_ok (f104p16 std xs _ _ _ _ _) (by simp; omega) (by simpa using hnext)
  | succ d ih =>
    intro k hk
    have hlt : k < code.length := by omega
    have e1 : std.nth code (std.nat (k : Int)) = code[k] := by simp [hlt]
    have ih' := ih (k + 1) (by omega)
    have e2 : begK 0 (k + 1) = begK 0 k ++ [AV.bool (decide (k = 0))] := by simp [begK, List.range'_concat]
    rw [e2, List.take_succ_eq_append_getElem hlt, ← List.append_assoc, ← List.append_assoc] at ih'
    have l1 : (B0 ++ code.take k).length ≤ 4000000000 := by rw [List.length_append, List.length_take]; omega
    have l2 : (S0 ++ begK 0 k).length ≤ 4000000000 := by rw [List.length_append, begK_len]; omega
    generalize B0 ++ code.take k = b at *
    generalize S0 ++ begK 0 k = g at *
    refine go hC BD4_ok (f104p15 std xs k b g i code) ?_ ?_
    · simp only [e1]; simp [hlt, AV.bx, flatLen]; omega
    · simp only [e1]; simpa using ih'
theorem o104Y {C : Ctx} (hC : C.P = Try.prog) (xs : List AV) (hlen : xs.length ≤ 1000) (hk : ∀ p ∈ xs, (kD p).length ≤ 1000) (B : List Int) (S : List AV) : ∀ (d i : Nat) (b : List Int) (g : List AV), i + d = xs.length → b.length ≤ 1003 * i → g.length = b.length → b ++ bytesP (xs.drop i) = B → g ++ begP (xs.drop i) = S →
    Ev C (f104h104_0d xs b g i) (f104h104_0dm xs b g i) (FinQ 104 (.tup [.list (.ints .i64 B), .list (.big .bool S)]) none) := by
  intro d
  induction d with
  | zero =>
    intro i b g hd hb hg hB hS
    rw [List.drop_of_length_le (by omega), bytesP, List.append_nil] at hB
    rw [List.drop_of_length_le (by omega), begP, List.append_nil] at hS
    exact fin hC BD4_ok (f104p20 std xs b g i) (by simp; omega) (by rw [hB, hS]) rfl
  | succ d ih =>
    intro i b g hd hb hg hB hS
    have hlt : i < xs.length := by omega
    have e1 : std.nthA xs (std.nat (i : Int)) = xs[i] := by simp [hlt]
    have g0 : (xs[i].cellAt 0).toI = kI xs[i] := rfl
    have g1 : (xs[i].cellAt 1).toI = kC xs[i] := rfl
    have g2 : (xs[i].cellAt 2).toIs = kD xs[i] := rfl
    have hk' := hk xs[i] (by simp)
    have hpl := pkB_len xs[i]
    rw [List.drop_eq_getElem_cons hlt, bytesP, ← List.append_assoc] at hB
    rw [List.drop_eq_getElem_cons hlt, begP, ← List.append_assoc] at hS
    have ih' := ih (i + 1) (b ++ pkB xs[i]) (g ++ begK 0 (pkB xs[i]).length) (by omega) (by rw [List.length_append, hpl]; omega) (by simp [begK_len, hg]) hB hS
    have h2 := n104Y hC xs i (pkB xs[i]) b g _ (by omega) (by omega) (by omega) hg ih' (pkB xs[i]).length 0 (by omega)
    refine go hC BD4_ok (f104p19 std xs b g i) ?_ ?_
    · simp only [e1, g0, g1, g2]; simp [hlt, AV.bx, flatLen]; omega
    · simp only [e1, g0, g1, g2]
      simpa [pkB, begK] using h2
theorem s104Y {C : Ctx} (hC : C.P = Try.prog) (x : AV) (xs : List AV) (hlen : (x :: xs).length ≤ 1000) (hk : ∀ p ∈ x :: xs, (kD p).length ≤ 1000) :
    Ev C (f104h104_0b (x :: xs) 0) (f104h104_0bm (x :: xs) 0) (FinQ 104 (.tup [.list (.ints .i64 (bytesP (x :: xs))), .list (.big .bool (begP (x :: xs)))]) none) := by
  have e1 : std.nthA (x :: xs) (std.nat 0) = x := by simp
  have g0 : (x.cellAt 0).toI = kI x := rfl
  have g1 : (x.cellAt 1).toI = kC x := rfl
  have g2 : (x.cellAt 2).toIs = kD x := rfl
  have hk' := hk x (by simp)
  have hpl := pkB_len x
  have h1 := o104Y hC (x :: xs) hlen hk (bytesP (x :: xs)) (begP (x :: xs)) xs.length 1 (pkB x) (begK 0 (pkB x).length) (by simp; omega) (by omega) (begK_len _ _) rfl rfl
  have h2 := n104Y hC (x :: xs) 0 (pkB x) [] [] _ (by omega) (by omega) (by simp; omega) rfl (by simpa using h1) ((kD x).length + 2) 1 (by omega)
  refine go hC BD4_ok (f104p7 std (x :: xs) 0) ?_ ?_
  · simp only [e1, g0, g1, g2]; simp [AV.bx, flatLen]; omega
  · simp only [e1, g0, g1, g2]
    refine go hC BD4_ok (f104p11 std (x :: xs) 0 _) (by simp [AV.bx, flatLen]; omega) ?_
    simpa [pkB, begK, List.range'] using h2
theorem modI_neg {s n : Int} (hs : 0 ≤ s) (hn : 0 < n) : modI (-s) n = if s.tmod n = 0 then 0 else n - s.tmod n := by
  have h1 := Int.tmod_nonneg n hs
  have h2 := Int.tmod_lt_of_pos s hn
  unfold modI
  rw [Int.neg_tmod]
  by_cases h : s.tmod n = 0
  · simp [h]
  · rw [if_pos (by omega), if_neg h]; omega
theorem l104z {C : Ctx} (hC : C.P = Try.prog) (n c : Int) (ps : List AV) (hlen : ps.length ≤ 22) (hk : ∀ p ∈ ps, (kD p).length ≤ 42) (R : List AFrame → AHeap → Prop) (hend : Ev C (f104h104_2a n c ps (sizeP ps) ps.length) (f104h104_2am n c ps (sizeP ps) ps.length) R) : ∀ (d i s : Nat), i + d = ps.length → s + sizeP (ps.drop i) = sizeP ps →
    Ev C (f104h104_2a n c ps s i) (f104h104_2am n c ps s i) R := by
  have hsz := sizeP_le hk
  intro d
  induction d with
  | zero =>
    intro i s hd hs
    rw [List.drop_of_length_le (by omega), sizeP] at hs
    have h1 : i = ps.length := by omega
    have h2 : s = sizeP ps := by omega
    rw [h1, h2]; exact hend
  | succ d ih =>
    intro i s hd hs
    have hlt : i < ps.length := by omega
    have e1 : std.nthA ps (std.nat (i : Int)) = ps[i] := by simp [hlt]
    have g2 : (ps[i].cellAt 2).toIs = kD ps[i] := rfl
    have hk' := hk ps[i] (by simp)
    rw [List.drop_eq_getElem_cons hlt, sizeP] at hs
    have ih' := ih (i + 1) (s + (3 + (kD ps[i]).length)) (by omega) (by omega)
    refine go hC BD4_ok (f104p1 std n c ps s i) ?_ ?_
    · simp only [e1, g2]; simp [hlt]; omega
    · simp only [e1, g2]; simpa [Int.add_assoc] using ih'
theorem filP_len (n : Int) (ps : List AV) : ps.length ≤ (filP n ps).length ∧ (filP n ps).length ≤ ps.length + 1 := by
  unfold filP
  split
  · omega
  · split <;> simp
theorem filP_data {n : Int} {ps : List AV} (hn : 3 < n ∧ n ≤ 500) (hk : ∀ p ∈ ps, (kD p).length ≤ 42) : ∀ p ∈ filP n ps, (kD p).length ≤ 1000 := by
  have h2 := Int.tmod_lt_of_pos (sizeP ps : Int) (show 0 < n by omega)
  have h1 := Int.tmod_nonneg n (show 0 ≤ (sizeP ps : Int) by omega)
  have hi : ∀ k : Int, k ≤ 1000 → (kD (idleP k)).length ≤ 1000 := fun k hk => by
    have : kD (idleP k) = List.replicate k.toNat 0 := rfl
    rw [this, List.length_replicate]; omega
  unfold filP
  intro p
  split
  · intro hp; have := hk p hp; omega
  · split
    · intro hp
      rcases List.mem_append.1 hp with hp | hp
      · have := hk p hp; omega
      · rw [List.mem_singleton] at hp; subst hp; exact hi _ (by omega)
    · intro hp
      rcases List.mem_append.1 hp with hp | hp
      · have := hk p hp; omega
      · rw [List.mem_singleton] at hp; subst hp; exact hi _ (by omega)
theorem filP_G {n : Int} {ps : List AV} (hn : 3 < n ∧ n ≤ 500) (hf : fewB ps = true) : strG (filP n ps) = true := by
  obtain ⟨hlen, hk⟩ := few_ok hf
  have h1 := (filP_len n ps).2
  have h2 := filP_data hn hk
  rw [strG, Bool.and_eq_true, decide_eq_true_eq]
  refine ⟨by omega, ?_⟩
  generalize filP n ps = qs at *
  clear h1
  induction qs with
  | nil => rfl
  | cons q qs ih => rw [lenK, Bool.and_eq_true, decide_eq_true_eq]; exact ⟨h2 q (by simp), ih fun p hp => h2 p (by simp [hp])⟩
theorem strm104_ok (n c : Int) (ps : List AV) (h : (3 < n ∧ n ≤ 500) ∧ fewB ps = true) : Pure Try.prog 104 [.agg (.gen [.int .i64 n, .int .i64 c]), .list (.big (.agg [.int .i64, .int .i64, .ints .i64]) ps)] (.tup [.list (.ints .i64 (bytesP (filP n ps))), .list (.big .bool (begP (filP n ps)))]) none := by
  obtain ⟨hn, hf⟩ := h
  obtain ⟨hlen, hk⟩ := few_ok hf
  have hsz := sizeP_le hk
  have hr0 := Int.tmod_nonneg n (show 0 ≤ (sizeP ps : Int) by omega)
  have hr1 := Int.tmod_lt_of_pos (sizeP ps : Int) (show 0 < n by omega)
  have hmod := modI_neg (s := (sizeP ps : Int)) (n := n) (by omega) (by omega)
  have hfd := filP_data hn hk
  have hfl := filP_len n ps
  have main : ∀ (Q : AV), (∀ C : Ctx, C.P = Try.prog → Ev C (f104h104_2a n c ps (sizeP ps) ps.length) (f104h104_2am n c ps (sizeP ps) ps.length) (FinQ 104 Q none)) → Pure Try.prog 104 [.agg (.gen [.int .i64 n, .int .i64 c]), .list (.big (.agg [.int .i64, .int .i64, .ints .i64]) ps)] Q none := fun Q hQ =>
    start (f104e_at n c ps) fun C hC => go hC BD4_ok (f104p0 std n c ps) (by simp; omega) (l104z hC n c ps hlen hk _ (hQ C hC) ps.length 0 0 (by omega) (by simp))
  have hn1 : 1 ≤ n ∧ n ≤ 1000000000000 := by omega
  by_cases h0 : (sizeP ps : Int).tmod n = 0
  · have hF : filP n ps = ps := by rw [filP, if_pos h0]
    rw [if_pos h0] at hmod
    rw [hF]
    cases ps with
    | nil => exact wk_tup (xs := [.nils, .nils]) (main _ fun C hC => go hC BD4_ok (f104p4 std n c [] _ _) (by rw [s_neg, hmod]; simp [hn1]; try omega) (fin hC BD4_ok (f104p8 std [] 0) (by simp) rfl rfl)) ⟨.nil _ rfl, .nil _ rfl, trivial⟩
    | cons p qs => exact main _ fun C hC => go hC BD4_ok (f104p4 std n c (p :: qs) _ _) (by rw [s_neg, hmod]; simp [hn1]; try omega) (s104Y hC p qs (by omega) (fun q hq => by have := hk q hq; omega))
  · rw [if_neg h0] at hmod
    cases hF : filP n ps with
    | nil =>
      have : ps.length = 0 := by rw [hF] at hfl; simpa using hfl.1
      have : ps = [] := List.length_eq_zero_iff.1 this
      subst this; simp [sizeP] at h0
    | cons p qs =>
      rw [hF] at hfd hfl
      have key := fun (C : Ctx) (hC : C.P = Try.prog) => s104X hC p qs (by omega) hfd
      generalize hR : (sizeP ps : Int).tmod n = R at *
      by_cases h3 : n - R < 3
      · have hF2 : ps ++ [idleP (n - R + n - 3)] = p :: qs := by rw [← hF, filP, hR, if_neg h0, if_pos h3]
        exact main _ fun C hC => go hC BD4_ok (f104p2 std n c ps _ _) (by rw [s_neg, hmod]; simp [hn1, h3, AV.bx, flatLen, Row.len]; omega) (by rw [s_neg, hmod, ← hF2]; have := key C hC; rw [← hF2] at this; simpa [idleP] using this)
      · have hF2 : ps ++ [idleP (n - R - 3)] = p :: qs := by rw [← hF, filP, hR, if_neg h0, if_neg h3]
        exact main _ fun C hC => go hC BD4_ok (f104p3 std n c ps _ _) (by rw [s_neg, hmod]; simp [hn1, h3, AV.bx, flatLen, Row.len]; omega) (by rw [s_neg, hmod, ← hF2]; have := key C hC; rw [← hF2] at this; simpa [idleP] using this)
def k104 : Ctr := ⟨104, 0, fun _ a => match a with | [.agg (.gen [.int .i64 n, .int .i64 c]), .list (.big (.agg [.int .i64, .int .i64, .ints .i64]) ps)] => some (decide ((3 < n ∧ n ≤ 500) ∧ fewB ps = true), .tup [.list (.ints .i64 (bytesP (filP n ps))), .list (.big .bool (begP (filP n ps)))], none) | _ => none⟩
theorem k104_ok : k104.OK Try.prog := fun pa args r fr h => by
  simp only [k104] at h
  split at h
  · simp only [Option.some.injEq, Prod.mk.injEq, decide_eq_true_eq] at h
    obtain ⟨h0, rfl, rfl⟩ := h
    exact strm104_ok _ _ _ h0
  · cases h
def BD5 : List Ctr := [k104] ++ BD4
theorem BD5_ok : CtrsOK Try.prog BD5 := ⟨k104_ok, BD4_ok⟩
end Go.Proofs.Ytjhdnpmojhkbjaa
