/- Encoding by a convolutional code: the program's and the reference's. No condition. -/
import Derived.Test.YtimmgjppippdiaaQk
namespace Go.Proofs.Ytimmgjppippdiaa
theorem bit_of {w : List Int} (h : w.all bitB = true) (j : Nat) (hj : j < w.length) : w[j] = 0 ∨ w[j] = 1 := by
  have := List.all_eq_true.1 h w[j] (List.getElem_mem hj)
  simpa [bitB] using this
def encS (c : List Int) : Int → List Int → List Int
  | _, [] => []
  | s, b :: bs => o0S c s b :: o1S c s b :: encS c (nxS c s b) bs
def enc (c bs : List Int) : List Int := encS c 0 (bs ++ List.replicate (cM c).toNat 0)
theorem sub3_all {c : List Int} (h : c.length = 3) : std.sub3 c 0 3 = c := by
  obtain ⟨a, b, d, rfl⟩ := three h
  rfl
theorem nx_rng {c : List Int} (h3 : c.length = 3) (hv : convE c = 0) {s b : Int} (hs : 0 ≤ s ∧ s < 2 ^ (cM c).toNat) (hb : b = 0 ∨ b = 1) : 0 ≤ nxS c s b ∧ nxS c s b < 2 ^ (cM c).toNat := by
  obtain ⟨m, p, q, rfl, m1, m2, p1, p2, q1, q2⟩ := conv_ok h3 hv
  obtain ⟨S, rfl⟩ := Int.eq_ofNat_of_zero_le hs.1
  obtain ⟨B, rfl, hB⟩ : ∃ B : Nat, b = (B : Int) ∧ B ≤ 1 := by
    rcases hb with rfl | rfl
    · exact ⟨0, rfl, by omega⟩
    · exact ⟨1, rfl, by omega⟩
  have hc : cM [(m : Int), (p : Int), (q : Int)] = m := rfl
  have hS : S < 2 ^ m := by
    have := hs.2
    rw [hc, Int.toNat_natCast] at this
    exact_mod_cast this
  obtain ⟨r1, r2, r3, r4⟩ := reg_le m2 hB hS
  rw [nxS, reg_nat, hc, Int.toNat_natCast]
  have e : (((B * 2 ^ m + S : Nat) : Int) / 2) = (((B * 2 ^ m + S) / 2 : Nat) : Int) := rfl
  rw [e]
  refine ⟨by omega, ?_⟩
  exact_mod_cast r4
theorem o0_bit (c : List Int) (s b : Int) : o0S c s b = 0 ∨ o0S c s b = 1 := by
  unfold o0S outS; generalize pop4 _ = x; omega
theorem o1_bit (c : List Int) (s b : Int) : o1S c s b = 0 ∨ o1S c s b = 1 := by
  unfold o1S outS; generalize pop4 _ = x; omega
theorem enc_len (c : List Int) : ∀ (bs : List Int) (s : Int), (encS c s bs).length = 2 * bs.length
  | [], _ => rfl
  | b :: bs, s => by simp only [encS, List.length_cons, enc_len c bs]; omega
theorem enc_bits (c : List Int) : ∀ (bs : List Int) (s : Int), (encS c s bs).all bitB = true
  | [], _ => rfl
  | b :: bs, s => by
    simp only [encS, List.all_cons, enc_bits c bs, Bool.and_true, Bool.and_eq_true, bitB, decide_eq_true_eq]
    exact ⟨o0_bit c s b, o1_bit c s b⟩
theorem pow_pos' {c : List Int} (h3 : c.length = 3) (hv : convE c = 0) : (1 : Int) ≤ 2 ^ (cM c).toNat := by
  obtain ⟨m, p, q, rfl, _⟩ := conv_ok h3 hv
  have := Nat.one_le_two_pow (n := (cM [(m : Int), (p : Int), (q : Int)]).toNat)
  exact_mod_cast this
section
variable {C : Ctx} (hC : C.P = Try.prog)
include hC
theorem l119b (c : List Int) (h3 : c.length = 3) (hv : convE c = 0) (l : List Int) (hl : l.all bitB = true) (hn : l.length ≤ 1000) : ∀ (d i : Nat) (s : Int) (out : List Int), i + d = l.length → (0 ≤ s ∧ s < 2 ^ (cM c).toNat) → out.length = 2 * i →
    Ev C (f119h119_0b c std l.length l s i out) (f119h119_0bm c std l.length l s i out) (FinQ 119 (.row 0 0) (some ⟨3, 1, .ints .i64 (out ++ encS c s (l.drop i))⟩)) := by
  intro d
  induction d with
  | zero =>
    intro i s out hi hs ho
    rw [List.drop_of_length_le (by omega), encS, List.append_nil]
    exact fin hC H3_ok (f119p4 std c l.length l s i out) (by simp; omega) rfl rfl
  | succ d ih =>
    intro i s out hi hs ho
    have hlt : i < l.length := by omega
    have hb := bit_of hl i hlt
    have e : std.nth l (std.nat (i : Int)) = l[i] := by simp [hlt]
    have next := ih (i + 1) (nxS c s l[i]) (out ++ [o0S c s l[i], o1S c s l[i]]) (by omega) (nx_rng h3 hv hs hb) (by simp; omega)
    rw [List.drop_eq_getElem_cons hlt, encS]
    rw [List.append_assoc] at next
    refine go hC H3_ok (f119p3 std c l.length l s i out) ?_ ?_
    · rw [sub3_all h3, e]
      simp [h3, hv, rngS, bitB, hs, hb, ho, hlt]
      omega
    · rw [sub3_all h3, e]
      exact next
theorem l119a (c : List Int) (h3 : c.length = 3) (hv : convE c = 0) (l : List Int) (hl : l.all bitB = true) (hn : l.length ≤ 1000) (h0 : 0 < l.length) :
    Ev C (f119h119_0a c std l.length l) (f119h119_0am c std l.length l) (FinQ 119 (.row 0 0) (some ⟨3, 1, .ints .i64 (encS c 0 l)⟩)) := by
  have hp := pow_pos' h3 hv
  have hb := bit_of hl 0 h0
  have e : std.nth l (std.nat 0) = l[0] := by simp [h0]
  have next := l119b hC c h3 hv l hl hn (l.length - 1) 1 (nxS c 0 l[0]) [o0S c 0 l[0], o1S c 0 l[0]] (by omega) (nx_rng h3 hv ⟨by omega, by omega⟩ hb) (by simp)
  have el : encS c 0 l = [o0S c 0 l[0], o1S c 0 l[0]] ++ encS c (nxS c 0 l[0]) (l.drop 1) := by
    conv => lhs; rw [← List.drop_zero (l := l), List.drop_eq_getElem_cons h0, encS]
    rfl
  rw [el]
  refine go hC H3_ok (f119p1 std c l.length l) ?_ ?_
  · rw [sub3_all h3, e]
    simp [h3, hv, rngS, bitB, hb]
    omega
  · rw [sub3_all h3, e]
    exact next
theorem l59b (c : List Int) (h3 : c.length = 3) (hv : convE c = 0) (l : List Int) (hl : l.all bitB = true) (hn : l.length ≤ 1000) : ∀ (d i : Nat) (s : Int) (out : List Int), i + d = l.length → (0 ≤ s ∧ s < 2 ^ (cM c).toNat) → out.length = 2 * i →
    Ev C (f59h59_0b c std l s i out) (f59h59_0bm c std l s i out) (FinQ 59 (.row 0 0) (some ⟨3, 1, .ints .i64 (out ++ encS c s (l.drop i))⟩)) := by
  intro d
  induction d with
  | zero =>
    intro i s out hi hs ho
    rw [List.drop_of_length_le (by omega), encS, List.append_nil]
    exact fin hC H3_ok (f59p4 std c l s i out) (by simp; omega) rfl rfl
  | succ d ih =>
    intro i s out hi hs ho
    have hlt : i < l.length := by omega
    have hb := bit_of hl i hlt
    have e : std.nth l (std.nat (i : Int)) = l[i] := by simp [hlt]
    have next := ih (i + 1) (nxS c s l[i]) (out ++ [o0S c s l[i], o1S c s l[i]]) (by omega) (nx_rng h3 hv hs hb) (by simp; omega)
    rw [List.drop_eq_getElem_cons hlt, encS]
    rw [List.append_assoc] at next
    refine go hC H3_ok (f59p3 std c l s i out) ?_ ?_
    · rw [sub3_all h3, e]
      simp [h3, hv, rngS, bitB, hs, hb, ho, hlt, AV.bx, flatLen]
      omega
    · rw [sub3_all h3, e]
      exact next
theorem l59a (c : List Int) (h3 : c.length = 3) (hv : convE c = 0) (l : List Int) (hl : l.all bitB = true) (hn : l.length ≤ 1000) (h0 : 0 < l.length) :
    Ev C (f59h59_0a c std l) (f59h59_0am c std l) (FinQ 59 (.row 0 0) (some ⟨3, 1, .ints .i64 (encS c 0 l)⟩)) := by
  have hp := pow_pos' h3 hv
  have hb := bit_of hl 0 h0
  have e : std.nth l (std.nat 0) = l[0] := by simp [h0]
  have next := l59b hC c h3 hv l hl hn (l.length - 1) 1 (nxS c 0 l[0]) [o0S c 0 l[0], o1S c 0 l[0]] (by omega) (nx_rng h3 hv ⟨by omega, by omega⟩ hb) (by simp)
  have el : encS c 0 l = [o0S c 0 l[0], o1S c 0 l[0]] ++ encS c (nxS c 0 l[0]) (l.drop 1) := by
    conv => lhs; rw [← List.drop_zero (l := l), List.drop_eq_getElem_cons h0, encS]
    rfl
  rw [el]
  refine go hC H3_ok (f59p1 std c l) ?_ ?_
  · rw [sub3_all h3, e]
    simp [h3, hv, rngS, bitB, hb, h0, AV.bx, flatLen]
    omega
  · rw [sub3_all h3, e]
    exact next
end
theorem cm_rng {c : List Int} (h3 : c.length = 3) (hv : convE c = 0) : ∃ m : Nat, cM c = m ∧ 1 ≤ m ∧ m ≤ 3 := by
  obtain ⟨m, p, q, rfl, m1, m2, _⟩ := conv_ok h3 hv
  exact ⟨m, rfl, m1, m2⟩
theorem app_bits {bs : List Int} (hb : bs.all bitB = true) (m : Nat) : (bs ++ List.replicate m 0).all bitB = true := by
  rw [List.all_append, hb, Bool.true_and]
  simp [bitB]
theorem enc119_row (c bs : List Int) (h3 : c.length = 3) (hv : convE c = 0) (hb : bs.all bitB = true) (h0 : bs ≠ []) (hl : bs.length ≤ 300) :
    Pure Try.prog 119 [.agg (.ints .i64 c), .list (.ints .i64 bs)] (.row 0 0) (some ⟨3, 1, .ints .i64 (enc c bs)⟩) := by
  obtain ⟨m, hm, m1, m2⟩ := cm_rng h3 hv
  have hpos := List.length_pos_iff.2 h0
  have main := fun (C : Ctx) (hC : C.P = Try.prog) => l119a hC c h3 hv (bs ++ List.replicate m 0) (app_bits hb m) (by simp; omega) (by simp; omega)
  have e : std.app bs (std.rep (std.nat (std.nth c 0)) 0) = bs ++ List.replicate m 0 := by
    have : std.nth c 0 = (m : Int) := hm
    rw [this]; rfl
  refine start (f119e_at c bs) fun C hC => go hC H3_ok (f119p0 std c bs) ?_ ?_
  · rw [show std.nth c 0 = (m : Int) from hm]
    simp [h3, hpos]
    omega
  · rw [e]
    unfold enc
    rw [hm]
    exact main C hC
theorem enc119_val (c : List Int) (ad : Option Addr) (cap : Nat) (h3 : c.length = 3) (hv : convE c = 0) :
    Pure Try.prog 119 [.agg (.ints .i64 c), .val (.slice ad 0 cap)] (.row 0 0) (some ⟨3, 1, .ints .i64 (enc c [])⟩) := by
  obtain ⟨m, hm, m1, m2⟩ := cm_rng h3 hv
  have main := fun (C : Ctx) (hC : C.P = Try.prog) => l119a hC c h3 hv (List.replicate m 0) (app_bits (bs := []) rfl m) (by simp; omega) (by simp; omega)
  have e : std.rep (std.nat (std.nth c 0)) 0 = List.replicate m 0 := by
    have : std.nth c 0 = (m : Int) := hm
    rw [this]; rfl
  have e2 : enc c [] = encS c 0 (List.replicate m 0) := by
    unfold enc; rw [hm]; rfl
  rw [e2]
  cases ad with
  | none =>
    refine start (f119we_at c cap) fun C hC => go hC H3_ok (f119wp0 std c cap) ?_ ?_
    · rw [show std.nth c 0 = (m : Int) from hm]
      simp [h3]
      omega
    · rw [e]
      exact main C hC
  | some ad =>
    refine start (f119ve_at c ad cap) fun C hC => go hC H3_ok (f119vp0 std c ad cap) ?_ ?_
    · rw [show std.nth c 0 = (m : Int) from hm]
      simp [h3]
      omega
    · rw [e]
      exact main C hC
theorem enc119_ok (c bs : List Int) (h3 : c.length = 3) (hv : convE c = 0) (hb : bs.all bitB = true) (hl : bs.length ≤ 300) :
    Pure Try.prog 119 [.agg (.ints .i64 c), .list (.ints .i64 bs)] (.row 0 0) (some ⟨3, 1, .ints .i64 (enc c bs)⟩) := by
  by_cases h0 : bs = []
  · subst h0
    intro w okA L vs hargs hok
    obtain ⟨h1, h2⟩ := hargs
    obtain ⟨l⟩ := vs
    match l, h1 with
    | [v0, v1], _ =>
      have r0 := h2 0 _ _ rfl rfl
      have r1 := h2 1 _ _ rfl rfl
      obtain ⟨ad, cap, rfl⟩ : ∃ ad cap, v1 = .slice ad 0 cap := by
        cases r1 with
        | nil _ a c _ => exact ⟨a, c, rfl⟩
        | list _ xs hx ad n cap sz cs hbb hok hn => subst hx; exact ⟨some ad, cap, by rw [hn]; rfl⟩
      exact enc119_val c ad cap h3 hv w okA L _ (RelL.cons r0 (RelL.cons (.val _) RelL.nil)) hok
  · exact enc119_row c bs h3 hv hb h0 hl
theorem enc59_ok (c bs : List Int) (h3 : c.length = 3) (hv : convE c = 0) (hb : bs.all bitB = true) (hl : bs.length ≤ 300) :
    Pure Try.prog 59 [.agg (.ints .i64 c), .list (.ints .i64 bs)] (.row 0 0) (some ⟨3, 1, .ints .i64 (enc c bs)⟩) := by
  obtain ⟨m, hm, m1, m2⟩ := cm_rng h3 hv
  have main := fun (C : Ctx) (hC : C.P = Try.prog) => l59a hC c h3 hv (bs ++ List.replicate m 0) (app_bits hb m) (by simp; omega) (by simp; omega)
  have e : std.app bs (std.rep (std.nat (std.nth c 0)) 0) = bs ++ List.replicate m 0 := by
    have : std.nth c 0 = (m : Int) := hm
    rw [this]; rfl
  refine start (f59e_at c bs) fun C hC => go hC H3_ok (f59p0 std c bs) ?_ ?_
  · rw [show std.nth c 0 = (m : Int) from hm]
    simp [h3]
    omega
  · rw [e]
    unfold enc
    rw [hm]
    exact main C hC
end Go.Proofs.Ytimmgjppippdiaa
