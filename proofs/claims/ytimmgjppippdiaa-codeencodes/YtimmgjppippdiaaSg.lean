/- The free distance: the program's rounds, and the reference's. No condition. -/
import Derived.Test.YtimmgjppippdiaaSf
namespace Go.Proofs.Ytimmgjppippdiaa
/-! ### The free distance -/
def wtS (c : List Int) (s b : Int) : Int := o0S c s b + o1S c s b
def ddfB (c : List Int) (s b : Int) (x : Int × List Int) : Int × List Int :=
  if nxS c s b = 0 then (min x.1 (x.2.getD s.toNat 0 + wtS c s b), x.2)
  else (x.1, x.2.set (nxS c s b).toNat (min (x.2.getD (nxS c s b).toNat 0) (x.2.getD s.toNat 0 + wtS c s b)))
def ddfL (c : List Int) : Nat → Nat → Int × List Int → Int × List Int
  | 0, _, x => x
  | d + 1, s, x => ddfL c d (s + 1) (ddfB c s 1 (ddfB c s 0 x))
def ddfT (c : List Int) (M : Nat) : Nat → Int × List Int → Int × List Int
  | 0, x => x
  | r + 1, x => ddfT c M r (ddfL c (M - 1) 1 x)
def freeS (c : List Int) : Int := (ddfT c (2 ^ (cM c).toNat) (2 ^ (cM c).toNat + 1) (100000, (List.replicate (2 ^ (cM c).toNat) 100000).set (nxS c 0 1).toNat (wtS c 0 1))).1
def ddgB (c : List Int) (s b : Int) (x : Bool × List Int) : Bool × List Int :=
  if x.2.getD s.toNat 0 + o0S c s b + o1S c s b < x.2.getD (nxS c s b).toNat 0 then (true, x.2.set (nxS c s b).toNat (x.2.getD s.toNat 0 + o0S c s b + o1S c s b)) else x
def ddgL (c : List Int) : Nat → Nat → Bool × List Int → Bool × List Int
  | 0, _, x => x
  | d + 1, s, x => ddgL c d (s + 1) (ddgB c s 1 (ddgB c s 0 x))
def ddgT (c : List Int) (M : Nat) : Nat → List Int → Option (List Int)
  | 0, _ => none
  | f + 1, W => match (ddgL c (M - 1) 1 (false, W)).1 with
    | true => ddgT c M f (ddgL c (M - 1) 1 (false, W)).2
    | false => some (ddgL c (M - 1) 1 (false, W)).2
def chkF (c : List Int) : Bool := match ddgT c (2 ^ (cM c).toNat) 30 ((List.replicate (2 ^ (cM c).toNat) 1000).set (nxS c 0 1).toNat (o0S c 0 1 + o1S c 0 1)) with
  | some W => decide (W.getD 0 0 = freeS c)
  | none => false
def chkA : Nat → Bool := fun m => (List.range (2 * 2 ^ m - 1)).all fun p => (List.range (2 * 2 ^ m - 1)).all fun q => chkF [(m : Int), ((p + 1 : Nat) : Int), ((q + 1 : Nat) : Int)]
def inW (M : Nat) (W : List Int) : Prop := W.length = M ∧ ∀ j, 0 ≤ W.getD j 0 ∧ W.getD j 0 ≤ 100000
theorem inW_set {M : Nat} {W : List Int} (h : inW M W) (i : Nat) {v : Int} (hv : 0 ≤ v ∧ v ≤ 100000) : inW M (W.set i v) := by
  refine ⟨by rw [List.length_set]; exact h.1, fun j => ?_⟩
  have := h.2 j
  rw [List.getD_eq_getElem?_getD, List.getElem?_set]
  rw [List.getD_eq_getElem?_getD] at this
  split
  · split
    · exact hv
    · simp
  · exact this
theorem wt_rng (c : List Int) (s b : Int) : 0 ≤ wtS c s b ∧ wtS c s b ≤ 2 := by
  have h0 := o0_bit c s b
  have h1 := o1_bit c s b
  unfold wtS; omega
def inX (M : Nat) (x : Int × List Int) : Prop := (0 ≤ x.1 ∧ x.1 ≤ 100000) ∧ inW M x.2
theorem ddfB_in {M : Nat} {x : Int × List Int} (h : inX M x) (c : List Int) (s b : Int) : inX M (ddfB c s b x) := by
  obtain ⟨h1, h2⟩ := h
  have hw := wt_rng c s b
  have hs := h2.2 s.toNat
  have hn := h2.2 (nxS c s b).toNat
  unfold ddfB
  split
  · exact ⟨by simp only; omega, h2⟩
  · exact ⟨h1, inW_set h2 _ (by omega)⟩
theorem ddfL_in {M : Nat} (c : List Int) : ∀ (d s : Nat) {x : Int × List Int}, inX M x → inX M (ddfL c d s x)
  | 0, _, _, h => h
  | d + 1, s, _, h => ddfL_in c d (s + 1) (ddfB_in (ddfB_in h c s 0) c s 1)
theorem nx_nat {c : List Int} (h3 : c.length = 3) (hv : convE c = 0) {M : Nat} (hM : M = 2 ^ (cM c).toNat) {s b : Nat} (hs : s < M) (hb : b ≤ 1) : ∃ N : Nat, nxS c s b = (N : Int) ∧ N < M := by
  have hs' : (s : Int) < 2 ^ (cM c).toNat := by rw [hM] at hs; exact_mod_cast hs
  have := nx_rng h3 hv (s := s) (b := b) ⟨by omega, hs'⟩ (by omega)
  obtain ⟨N, hN⟩ := Int.eq_ofNat_of_zero_le this.1
  refine ⟨N, hN, ?_⟩
  have h2 := this.2
  rw [hN] at h2
  rw [hM]
  exact_mod_cast h2
theorem rng_in {c : List Int} {M : Nat} (hM : M = 2 ^ (cM c).toNat) {s : Nat} (hs : s < M) : rngS c s = true := by
  have hs' : (s : Int) < 2 ^ (cM c).toNat := by rw [hM] at hs; exact_mod_cast hs
  exact decide_eq_true ⟨by omega, hs'⟩
theorem bit_in {b : Nat} (hb : b ≤ 1) : bitB (b : Int) = true := decide_eq_true (by omega)
section
variable {C : Ctx} (hC : C.P = Try.prog)
include hC
theorem l47b {Q : List AFrame → AHeap → Prop} (c : List Int) (h3 : c.length = 3) (hv : convE c = 0) (M : Nat) (hM : M = 2 ^ (cM c).toNat) (_hM8 : M ≤ 8) (n1 n3 : Int) (s b : Nat) (hs : s < M) (hb : b ≤ 1) (x : Int × List Int) (hx : inX M x)
    (hq : Ev C (f47h47_2a c std M n1 n3 s (ddfB c s b x).1 (b + 1 : Nat) (ddfB c s b x).2) (f47h47_2am c std M n1 n3 s (ddfB c s b x).1 (b + 1 : Nat) (ddfB c s b x).2) Q) :
    Ev C (f47h47_2a c std M n1 n3 s x.1 b x.2) (f47h47_2am c std M n1 n3 s x.1 b x.2) Q := by
  obtain ⟨best, W⟩ := x
  obtain ⟨⟨h1, h2⟩, h4, h5⟩ := hx
  simp only at h1 h2 h4 h5 hq ⊢
  have es := sub3_all h3
  obtain ⟨N, hN, hNM⟩ := nx_nat h3 hv hM hs hb
  have r1 := rng_in hM hs
  have r2 := bit_in hb
  have b0 := o0_bit c s b
  have b1 := o1_bit c s b
  have w1 := h5 s
  have w2 := h5 N
  have hsl : s < W.length := by omega
  have hnl : N < W.length := by omega
  by_cases h0 : N = 0
  · have e : ddfB c s b (best, W) = (min best (W.getD s 0 + wtS c s b), W) := by
      unfold ddfB; rw [if_pos (by rw [hN, h0]; rfl)]; rfl
    rw [e] at hq
    refine go hC H4_ok (f47p6 std c M n1 n3 s best b W) ?_ ?_
    · rw [es, hN]
      generalize o0S c s b = p at *
      generalize o1S c s b = q at *
      rw [List.getD_eq_getElem?_getD, List.getElem?_eq_getElem hsl, Option.getD_some] at w1
      simp [h3, hv, r1, r2, h0, h4, hs]
      omega
    · rw [es]; exact hq
  · have e : ddfB c s b (best, W) = (best, W.set N (min (W.getD N 0) (W.getD s 0 + wtS c s b))) := by
      unfold ddfB; rw [if_neg (by rw [hN]; omega), hN]; rfl
    rw [e] at hq
    refine go hC H4_ok (f47p7 std c M n1 n3 s best b W) ?_ ?_
    · rw [es, hN]
      generalize o0S c s b = p at *
      generalize o1S c s b = q at *
      rw [List.getD_eq_getElem?_getD, List.getElem?_eq_getElem hsl, Option.getD_some] at w1
      rw [List.getD_eq_getElem?_getD, List.getElem?_eq_getElem hnl, Option.getD_some] at w2
      simp [h3, hv, r1, r2, h0, h4, hs, hNM]
      omega
    · rw [es, hN]; exact hq
theorem l47s {Q : List AFrame → AHeap → Prop} (c : List Int) (h3 : c.length = 3) (hv : convE c = 0) (M : Nat) (hM : M = 2 ^ (cM c).toNat) (hM8 : M ≤ 8) (n1 n3 : Int) : ∀ (d s : Nat) (x : Int × List Int), s + d = M → inX M x →
    Ev C (f47h47_1a c std M n1 n3 (ddfL c d s x).1 M (ddfL c d s x).2) (f47h47_1am c std M n1 n3 (ddfL c d s x).1 M (ddfL c d s x).2) Q →
    Ev C (f47h47_1a c std M n1 n3 x.1 s x.2) (f47h47_1am c std M n1 n3 x.1 s x.2) Q := by
  intro d
  induction d with
  | zero =>
    intro s x hs hx hq
    rw [show s = M by omega]
    exact hq
  | succ d ih =>
    intro s x hs hx hq
    have next := ih (s + 1) (ddfB c s 1 (ddfB c s 0 x)) (by omega) (ddfB_in (ddfB_in hx c s 0) c s 1) hq
    refine go hC H4_ok (f47p4 std c M n1 n3 x.1 s x.2) (by simp; omega) ?_
    refine l47b hC c h3 hv M hM hM8 n1 n3 s 0 (by omega) (by omega) x hx ?_
    refine l47b hC c h3 hv M hM hM8 n1 n3 s 1 (by omega) (by omega) (ddfB c s 0 x) (ddfB_in hx c s 0) ?_
    refine go hC H4_ok (f47p8 std c M n1 n3 s (ddfB c s 1 (ddfB c s 0 x)).1 ((1 + 1 : Nat) : Int) (ddfB c s 1 (ddfB c s 0 x)).2) (by simp; omega) ?_
    exact next
theorem l47r (c : List Int) (h3 : c.length = 3) (hv : convE c = 0) (M : Nat) (hM : M = 2 ^ (cM c).toNat) (hM8 : M ≤ 8) (hM1 : 1 ≤ M) (T : Int × List Int) : ∀ (d r : Nat) (x : Int × List Int), r + d = M + 1 → inX M x → ddfT c M d x = T →
    Ev C (f47h47_0a c std M ((M : Int) + 1) x.2 r x.1) (f47h47_0am c std M ((M : Int) + 1) x.2 r x.1) (FinQ 47 (.tup [.int .i64 T.1, .int .i64 0]) none) := by
  intro d
  induction d with
  | zero =>
    intro r x hr hx e
    rw [ddfT] at e
    subst e
    exact fin hC H4_ok (f47p3 std c M ((M : Int) + 1) x.2 r x.1) (by simp; omega) rfl rfl
  | succ d ih =>
    intro r x hr hx e
    rw [ddfT] at e
    have next := ih (r + 1) _ (by omega) (ddfL_in c (M - 1) 1 hx) e
    refine go hC H4_ok (f47p2 std c M ((M : Int) + 1) x.2 r x.1) (by simp; omega) ?_
    refine l47s hC c h3 hv M hM hM8 ((M : Int) + 1) r (M - 1) 1 x (by omega) hx ?_
    refine go hC H4_ok (f47p5 std c M ((M : Int) + 1) r (ddfL c (M - 1) 1 x).1 M (ddfL c (M - 1) 1 x).2) (by simp; omega) ?_
    exact next
end
theorem pow_m {c : List Int} (h3 : c.length = 3) (hv : convE c = 0) : ∃ M : Nat, M = 2 ^ (cM c).toNat ∧ (M = 2 ∨ M = 4 ∨ M = 8) := by
  obtain ⟨m, hm, m1, m2⟩ := cm_rng h3 hv
  refine ⟨_, rfl, ?_⟩
  rw [hm, Int.toNat_natCast]
  have : m = 1 ∨ m = 2 ∨ m = 3 := by omega
  rcases this with rfl | rfl | rfl <;> simp
theorem rep_in (M : Nat) {v : Int} (hv : 0 ≤ v ∧ v ≤ 100000) : inW M (List.replicate M v) := by
  refine ⟨by simp, fun j => ?_⟩
  rw [List.getD_eq_getElem?_getD, List.getElem?_replicate]
  split
  · exact hv
  · simp
theorem free47_ok (c : List Int) (h3 : c.length = 3) : Pure Try.prog 47 [.agg (.ints .i64 c)] (.tup [.int .i64 (if convE c = 0 then freeS c else 0), .int .i64 (convE c)]) none := by
  have es := sub3_all h3
  refine start (f47e_at c) fun C hC => ?_
  by_cases hv : convE c = 0
  · rw [if_pos hv, hv]
    obtain ⟨m, hm, m1, m2⟩ := cm_rng h3 hv
    obtain ⟨M, hM, hM8⟩ := pow_m h3 hv
    have esh : std.shl 1 (std.nth c 0) = (M : Int) := by
      rw [show std.nth c 0 = cM c from rfl, s_shl, hM]; simp
    obtain ⟨N, hN, hNM⟩ := nx_nat h3 hv hM (s := 0) (b := 1) (by omega) (by omega)
    have hN : nxS c 0 1 = (N : Int) := hN
    have hw := wt_rng c 0 1
    have b0 := o0_bit c 0 1
    have b1 := o1_bit c 0 1
    have hin : inX M (100000, (List.replicate M (100000 : Int)).set N (wtS c 0 1)) := ⟨by simp, inW_set (rep_in M (by omega)) _ (by omega)⟩
    have main := l47r hC c h3 hv M hM (by omega) (by omega) _ (M + 1) 0 _ (by omega) hin rfl
    have ef : freeS c = (ddfT c M (M + 1) (100000, (List.replicate M (100000 : Int)).set N (wtS c 0 1))).1 := by
      unfold freeS; rw [← hM, hN]; rfl
    rw [ef]
    have hst : stsB (M : Int) = true := decide_eq_true (by omega)
    have hrg : rngS c 0 = true := rng_in hM (s := 0) (by omega)
    refine go hC H4_ok (f47p1 std c) ?_ ?_
    · rw [es, esh, hN, show std.nth c 0 = (m : Int) from hm]
      generalize o0S c 0 1 = p at *
      generalize o1S c 0 1 = q at *
      simp [h3, hv, hst, hrg, hNM, bitB, AV.bx, flatLen]
      omega
    · rw [es, esh, hN]; exact main
  · rw [if_neg hv]
    exact fin hC H4_ok (f47p0 std c) (by rw [es]; simp [h3, hv]) (by rw [es]) rfl
/-! ### The reference's rounds -/
def inU (M : Nat) (W : List Int) : Prop := W.length = M ∧ ∀ j, 0 ≤ W.getD j 0 ∧ W.getD j 0 ≤ 1000
theorem inU_set {M : Nat} {W : List Int} (h : inU M W) (i : Nat) {v : Int} (hv : 0 ≤ v ∧ v ≤ 1000) : inU M (W.set i v) := by
  refine ⟨by rw [List.length_set]; exact h.1, fun j => ?_⟩
  have := h.2 j
  rw [List.getD_eq_getElem?_getD, List.getElem?_set]
  rw [List.getD_eq_getElem?_getD] at this
  split
  · split
    · exact hv
    · simp
  · exact this
theorem ddgB_in {M : Nat} {x : Bool × List Int} (h : inU M x.2) (c : List Int) (s b : Int) : inU M (ddgB c s b x).2 := by
  have b0 := o0_bit c s b
  have b1 := o1_bit c s b
  have hs := h.2 s.toNat
  have hn := h.2 (nxS c s b).toNat
  unfold ddgB
  split
  · rename_i hlt
    exact inU_set h _ (by omega)
  · exact h
theorem ddgL_in {M : Nat} (c : List Int) : ∀ (d s : Nat) {x : Bool × List Int}, inU M x.2 → inU M (ddgL c d s x).2
  | 0, _, _, h => h
  | d + 1, s, _, h => ddgL_in c d (s + 1) (ddgB_in (ddgB_in h c s 0) c s 1)
theorem sh58 (c : List Int) (h3 : c.length = 3) (M : Nat) (hM : M = 2 ^ (cM c).toNat) : std.shl 1 (std.nth (std.sub3 c 0 3) 0) = (M : Int) := by
  rw [sub3_all h3, show std.nth c 0 = cM c from rfl, s_shl, hM]; simp
section
variable {C : Ctx} (hC : C.P = Try.prog)
include hC
theorem l58b {Q : List AFrame → AHeap → Prop} (c : List Int) (h3 : c.length = 3) (hv : convE c = 0) (M : Nat) (hM : M = 2 ^ (cM c).toNat) (_hM8 : M ≤ 8) (s b : Nat) (hs : s < M) (hb : b ≤ 1) (x : Bool × List Int) (hx : inU M x.2)
    (hq : Ev C (f58h58_2a c std s (ddgB c s b x).1 (b + 1 : Nat) (ddgB c s b x).2) (f58h58_2am c std s (ddgB c s b x).1 (b + 1 : Nat) (ddgB c s b x).2) Q) :
    Ev C (f58h58_2a c std s x.1 b x.2) (f58h58_2am c std s x.1 b x.2) Q := by
  obtain ⟨ch, W⟩ := x
  obtain ⟨h4, h5⟩ := hx
  simp only at h4 h5 hq ⊢
  have es := sub3_all h3
  obtain ⟨N, hN, hNM⟩ := nx_nat h3 hv hM hs hb
  have r1 := rng_in hM hs
  have r2 := bit_in hb
  have b0 := o0_bit c s b
  have b1 := o1_bit c s b
  have w1 := h5 s
  have w2 := h5 N
  have hsl : s < W.length := by omega
  have hnl : N < W.length := by omega
  by_cases h0 : W.getD s 0 + o0S c s b + o1S c s b < W.getD N 0
  · have e : ddgB c s b (ch, W) = (true, W.set N (W.getD s 0 + o0S c s b + o1S c s b)) := by
      unfold ddgB; rw [if_pos (by rw [hN]; exact h0), hN]; rfl
    rw [e] at hq
    refine go hC H4_ok (f58p7 std c s ch b W) ?_ ?_
    · rw [es, hN]
      generalize o0S c s b = p at *
      generalize o1S c s b = q at *
      rw [List.getD_eq_getElem?_getD, List.getElem?_eq_getElem hsl, Option.getD_some] at w1
      rw [List.getD_eq_getElem?_getD, List.getElem?_eq_getElem hnl, Option.getD_some] at w2
      rw [List.getD_eq_getElem?_getD, List.getD_eq_getElem?_getD, List.getElem?_eq_getElem hsl, List.getElem?_eq_getElem hnl, Option.getD_some, Option.getD_some] at h0
      simp [h3, hv, r1, r2, h0, h4, hs, hNM]
      omega
    · rw [es, hN]; exact hq
  · have e : ddgB c s b (ch, W) = (ch, W) := by
      unfold ddgB; rw [if_neg (by rw [hN]; exact h0)]
    rw [e] at hq
    refine go hC H4_ok (f58p8 std c s ch b W) ?_ ?_
    · rw [es, hN]
      generalize o0S c s b = p at *
      generalize o1S c s b = q at *
      rw [List.getD_eq_getElem?_getD, List.getElem?_eq_getElem hsl, Option.getD_some] at w1
      rw [List.getD_eq_getElem?_getD, List.getElem?_eq_getElem hnl, Option.getD_some] at w2
      rw [List.getD_eq_getElem?_getD, List.getD_eq_getElem?_getD, List.getElem?_eq_getElem hsl, List.getElem?_eq_getElem hnl, Option.getD_some, Option.getD_some] at h0
      simp [h3, hv, r1, r2, h0, h4, hs, hNM]
      omega
    · exact hq
theorem l58s {Q : List AFrame → AHeap → Prop} (c : List Int) (h3 : c.length = 3) (hv : convE c = 0) (M : Nat) (hM : M = 2 ^ (cM c).toNat) (hM8 : M ≤ 8) : ∀ (d s : Nat) (x : Bool × List Int), s + d = M → inU M x.2 →
    Ev C (f58h58_1a c std (ddgL c d s x).1 M (ddgL c d s x).2) (f58h58_1am c std (ddgL c d s x).1 M (ddgL c d s x).2) Q →
    Ev C (f58h58_1a c std x.1 s x.2) (f58h58_1am c std x.1 s x.2) Q := by
  intro d
  induction d with
  | zero =>
    intro s x hs hx hq
    rw [show s = M by omega]
    exact hq
  | succ d ih =>
    intro s x hs hx hq
    obtain ⟨m, hm, m1, m2⟩ := cm_rng h3 hv
    have next := ih (s + 1) (ddgB c s 1 (ddgB c s 0 x)) (by omega) (ddgB_in (ddgB_in hx c s 0) c s 1) hq
    refine go hC H4_ok (f58p5 std c x.1 s x.2) ?_ ?_
    · rw [sh58 c h3 M hM, sub3_all h3, show std.nth c 0 = (m : Int) from hm]
      simp [h3]
      omega
    refine l58b hC c h3 hv M hM hM8 s 0 (by omega) (by omega) x hx ?_
    refine l58b hC c h3 hv M hM hM8 s 1 (by omega) (by omega) (ddgB c s 0 x) (ddgB_in hx c s 0) ?_
    refine go hC H4_ok (f58p9 std c s (ddgB c s 1 (ddgB c s 0 x)).1 ((1 + 1 : Nat) : Int) (ddgB c s 1 (ddgB c s 0 x)).2) (by simp; omega) ?_
    exact next
theorem l58r (c : List Int) (h3 : c.length = 3) (hv : convE c = 0) (M : Nat) (hM : M = 2 ^ (cM c).toNat) (hM8 : M ≤ 8) (hM1 : 1 ≤ M) (T : List Int) : ∀ (f : Nat) (W : List Int), inU M W → ddgT c M f W = some T →
    Ev C (f58h58_0a c std W true) (f58h58_0am c std W true) (FinQ 58 (.int .i64 (T.getD 0 0)) none) := by
  intro f
  induction f with
  | zero => intro W _ e; cases e
  | succ f ih =>
    intro W hW e
    obtain ⟨m, hm, m1, m2⟩ := cm_rng h3 hv
    rw [ddgT] at e
    refine go hC H4_ok (f58p3 std c W true) (by simp) ?_
    refine l58s hC c h3 hv M hM hM8 (M - 1) 1 (false, W) (by omega) hW ?_
    have hin := ddgL_in c (M - 1) 1 (x := (false, W)) hW
    refine go hC H4_ok (f58p6 std c (ddgL c (M - 1) 1 (false, W)).1 M (ddgL c (M - 1) 1 (false, W)).2) ?_ ?_
    · rw [sh58 c h3 M hM, sub3_all h3, show std.nth c 0 = (m : Int) from hm]
      simp [h3]
      omega
    generalize ddgL c (M - 1) 1 (false, W) = x at *
    obtain ⟨ch, W'⟩ := x
    cases ch with
    | true => exact ih W' hin e
    | false =>
      simp only [Option.some.injEq] at e
      subst e
      have h0 := hin.1
      simp only at h0
      exact fin hC H4_ok (f58p4 std c W' false) (by simp; omega) rfl rfl
theorem l58f {Q : List AFrame → AHeap → Prop} (c : List Int) (h3 : c.length = 3) (hv : convE c = 0) (M : Nat) (hM : M = 2 ^ (cM c).toNat) (hM8 : M ≤ 8)
    (hq : Ev C (f58h58_3a c std (List.replicate M 1000) M) (f58h58_3am c std (List.replicate M 1000) M) Q) : ∀ (d s : Nat), s + d = M →
    Ev C (f58h58_3a c std (List.replicate s 1000 ++ List.replicate d 0) s) (f58h58_3am c std (List.replicate s 1000 ++ List.replicate d 0) s) Q := by
  intro d
  induction d with
  | zero =>
    intro s hs
    rw [List.replicate_zero, List.append_nil, show s = M by omega]
    exact hq
  | succ d ih =>
    intro s hs
    obtain ⟨m, hm, m1, m2⟩ := cm_rng h3 hv
    have next := ih (s + 1) (by omega)
    have e : (List.replicate s (1000 : Int) ++ List.replicate (d + 1) 0).set s 1000 = List.replicate (s + 1) 1000 ++ List.replicate d 0 := by
      rw [List.set_append_right _ _ (by simp), List.length_replicate, Nat.sub_self, List.replicate_succ, List.set_cons_zero, List.replicate_succ' (n := s), List.append_assoc]
      rfl
    rw [← e] at next
    refine go hC H4_ok (f58p1 std c _ s) ?_ next
    rw [sh58 c h3 M hM, sub3_all h3, show std.nth c 0 = (m : Int) from hm]
    simp [h3]
    omega
end
theorem chk1 : chkA 1 = true := by kernel_rfl
theorem chk2 : chkA 2 = true := by kernel_rfl
theorem chk3 : chkA 3 = true := by kernel_rfl
theorem chk_ok {c : List Int} (h3 : c.length = 3) (hv : convE c = 0) : chkF c = true := by
  obtain ⟨m, p, q, rfl, m1, m2, p1, p2, q1, q2⟩ := conv_ok h3 hv
  have h : chkA m = true := by
    have : m = 1 ∨ m = 2 ∨ m = 3 := by omega
    rcases this with rfl | rfl | rfl
    · exact chk1
    · exact chk2
    · exact chk3
  unfold chkA at h
  rw [List.all_eq_true] at h
  have h := h (p - 1) (List.mem_range.2 (by omega))
  rw [List.all_eq_true] at h
  have h := h (q - 1) (List.mem_range.2 (by omega))
  rw [show p - 1 + 1 = p by omega, show q - 1 + 1 = q by omega] at h
  exact h
theorem free58_ok (c : List Int) (h3 : c.length = 3) (hv : convE c = 0) : Pure Try.prog 58 [.agg (.ints .i64 c)] (.int .i64 (freeS c)) none := by
  have es := sub3_all h3
  obtain ⟨m, hm, m1, m2⟩ := cm_rng h3 hv
  obtain ⟨M, hM, hM8⟩ := pow_m h3 hv
  obtain ⟨N, hN, hNM⟩ := nx_nat h3 hv hM (s := 0) (b := 1) (by omega) (by omega)
  have hN : nxS c 0 1 = (N : Int) := hN
  have b0 := o0_bit c 0 1
  have b1 := o1_bit c 0 1
  have hrg : rngS c 0 = true := rng_in hM (s := 0) (by omega)
  have hk := chk_ok h3 hv
  unfold chkF at hk
  rw [← hM, hN, Int.toNat_natCast] at hk
  split at hk
  · rename_i T hT
    have hT0 := of_decide_eq_true hk
    refine start (f58e_at c) fun C hC => go hC H4_ok (f58p0 std c) ?_ ?_
    · rw [sh58 c h3 M hM, es, show std.nth c 0 = (m : Int) from hm]
      simp [h3]
      omega
    rw [sh58 c h3 M hM]
    have hin : inU M ((List.replicate M (1000 : Int)).set N (o0S c 0 1 + o1S c 0 1)) := by
      refine inU_set ⟨by simp, fun j => ?_⟩ _ (by omega)
      rw [List.getD_eq_getElem?_getD, List.getElem?_replicate]
      split <;> simp
    have main := l58r hC c h3 hv M hM (by omega) (by omega) T 30 _ hin hT
    rw [hT0] at main
    have fill := l58f hC c h3 hv M hM (by omega) (Q := FinQ 58 (.int .i64 (freeS c)) none) (by
      refine go hC H4_ok (f58p2 std c _ M) ?_ ?_
      · rw [sh58 c h3 M hM, es, hN, show std.nth c 0 = (m : Int) from hm]
        generalize o0S c 0 1 = p at *
        generalize o1S c 0 1 = q at *
        simp [h3, hv, hrg, hNM, bitB]
        omega
      · rw [es, hN]; exact main) M 0 (by omega)
    exact fill
  · cases hk
end Go.Proofs.Ytimmgjppippdiaa
