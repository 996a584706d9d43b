/- Contracts as a list. No condition. -/
import Derived.Test.YtjhdnpmojhkbjaaPM
import Derived.Test.YtjhdnpmojhkbjaaRz
namespace Go.Proofs.Ytjhdnpmojhkbjaa
/-! ### How long the stream is -/
theorem bytesP_sz : ∀ ps : List AV, (bytesP ps).length = sizeP ps
  | [] => rfl
  | p :: ps => by rw [bytesP, sizeP, List.length_append, pkB_len, bytesP_sz ps]; omega
theorem sizeP_app : ∀ ps qs : List AV, sizeP (ps ++ qs) = sizeP ps + sizeP qs
  | [], qs => by simp [sizeP]
  | p :: ps, qs => by rw [List.cons_append, sizeP, sizeP, sizeP_app ps qs]; omega
theorem sizeP_idle {k : Int} (h : 0 ≤ k) : ((sizeP [idleP k] : Nat) : Int) = 3 + k := by
  have : kD (idleP k) = List.replicate k.toNat 0 := rfl
  simp only [sizeP, this, List.length_replicate]
  omega
theorem filP_mul {n : Int} (ps : List AV) (hn : 3 < n) : ∃ K : Nat, ((sizeP (filP n ps) : Nat) : Int) = K * n ∧ ((sizeP (filP n ps) : Nat) : Int) ≤ sizeP ps + 2 * n := by
  have h1 := Int.tmod_nonneg n (show 0 ≤ (sizeP ps : Int) by omega)
  have h2 := Int.tmod_lt_of_pos (sizeP ps : Int) (show 0 < n by omega)
  have h3 := Int.mul_tdiv_add_tmod (sizeP ps : Int) n
  have h4 : 0 ≤ (sizeP ps : Int).tdiv n := Int.tdiv_nonneg (by omega) (by omega)
  obtain ⟨q, hq⟩ : ∃ q : Nat, (sizeP ps : Int).tdiv n = q := ⟨_, (Int.toNat_of_nonneg h4).symm⟩
  rw [hq] at h3
  unfold filP
  generalize (sizeP ps : Int).tmod n = R at *
  have hm : n * (q : Int) = (q : Int) * n := Int.mul_comm _ _
  split
  · exact ⟨q, by omega, by omega⟩
  · split
    · refine ⟨q + 2, ?_, ?_⟩
      · rw [sizeP_app, Int.natCast_add, sizeP_idle (by omega), Int.natCast_add, Int.add_mul]; omega
      · rw [sizeP_app, Int.natCast_add, sizeP_idle (by omega)]; omega
    · refine ⟨q + 1, ?_, ?_⟩
      · rw [sizeP_app, Int.natCast_add, sizeP_idle (by omega), Int.natCast_add, Int.add_mul]; omega
      · rw [sizeP_app, Int.natCast_add, sizeP_idle (by omega)]; omega
def framesN (n : Int) (ps : List AV) : Int := ((bytesP (filP n ps)).length : Int).tdiv n
theorem rulesE_ok {a b : Int} (h : rulesE a b = 0) : 4 ≤ a ∧ a ≤ 24 ∧ 1 ≤ b ∧ b ≤ 8 := by
  unfold rulesE rulesB at h
  split at h
  · rename_i h1
    simp only [Bool.and_eq_true, decide_eq_true_eq] at h1
    omega
  · omega
/-- how many fields there are -/
theorem fil_len {n : Int} {ps : List AV} (hn : 4 ≤ n ∧ n ≤ 24) (hf : fewB ps = true) : ∃ N K : Nat, n = N ∧ (bytesP (filP n ps)).length = K * N ∧ K * N ≤ 1100 ∧ framesN n ps = K ∧ K ≤ 1100 := by
  obtain ⟨hlen, hk⟩ := few_ok hf
  have hsz := sizeP_le hk
  obtain ⟨K, hK, hb⟩ := filP_mul ps (show 3 < n by omega)
  obtain ⟨N, rfl⟩ : ∃ N : Nat, n = N := ⟨n.toNat, by omega⟩
  have hl := bytesP_sz (filP N ps)
  have e : sizeP (filP N ps) = K * N := by
    have : ((sizeP (filP N ps) : Nat) : Int) = ((K * N : Nat) : Int) := by rw [hK, Int.natCast_mul]
    exact Int.ofNat_inj.1 this
  have hKN : K ≤ K * N := Nat.le_mul_of_pos_right K (by omega)
  refine ⟨N, K, rfl, by rw [hl, e], by omega, ?_, by omega⟩
  rw [framesN, hl, hK]
  exact Int.mul_tdiv_cancel _ (by omega)
theorem errs2 (a b : Int) : firstE [a, b] = if a = 0 then b else a := by
  simp only [firstE]
  by_cases h : b = 0 <;> simp [h]
def ffE (a b : Int) (ps : List AV) : Int := firstE [rulesE a b, packE ps]
def ffN (a b : Int) (ps : List AV) : Int := if ffE a b ps = 0 then framesN a ps else 0
theorem for33_ok (a b : Int) (ps : List AV) (h : fewB ps = true) : Pure Try.prog 33 [.agg (.gen [.int .i64 a, .int .i64 b]), .list (.big (.agg [.int .i64, .int .i64, .ints .i64]) ps)] (.tup [.int .i64 (ffN a b ps), .int .i64 (ffE a b ps)]) none :=
  start (f33e_at a b ps) fun C hC => by
    by_cases h1 : firstE [rulesE a b, packE ps] = 0
    · have h2 : rulesE a b = 0 := by rw [errs2] at h1; split at h1 <;> assumption
      obtain ⟨r1, r2, r3, r4⟩ := rulesE_ok h2
      have hg : (3 < a ∧ a ≤ 1000) ∧ fewB ps = true := ⟨by omega, h⟩
      have hs := filP_G (n := a) (ps := ps) (by omega) h
      obtain ⟨N, K, e1, e2, e3, e4, e6⟩ := fil_len ⟨r1, r2⟩ h
      refine fin hC BD5_ok (f33p1 std a b ps) ?_ ?_ rfl
      · simp only [h1]
        simp only [framesN] at e4
        simp [h, hg, hs, AV.bx, flatLen, e4]
        omega
      · have e5 : ffE a b ps = 0 := h1
        simp [ffN, e5, framesN]
    · refine fin hC BD5_ok (f33p0 std a b ps) (by simp [h, h1, AV.bx, flatLen]) ?_ rfl
      have e5 : ¬ ffE a b ps = 0 := h1
      rw [ffN, if_neg e5, ffE]
theorem for37_ok (a b : Int) (ps : List AV) (h : (4 ≤ a ∧ a ≤ 24) ∧ fewB ps = true) : Pure Try.prog 37 [.agg (.gen [.int .i64 a, .int .i64 b]), .list (.big (.agg [.int .i64, .int .i64, .ints .i64]) ps)] (.int .i64 (framesN a ps)) none :=
  start (f37e_at a b ps) fun C hC => by
    obtain ⟨N, K, e1, e2, e3, e4, e6⟩ := fil_len h.1 h.2
    have hg : (3 < a ∧ a ≤ 500) ∧ fewB ps = true := ⟨by omega, h.2⟩
    refine fin hC BD5_ok (f37p0 std a b ps) ?_ ?_ rfl
    · simp only [framesN] at e4
      simp [hg, e4]; omega
    · simp [framesN]
/-! ### Where the first packet of a field begins -/
def firstP (S : List Int) (x N : Int) : Int := if loS S x < S.length ∧ S.getD (loS S x) 0 < x + N then S.getD (loS S x) 0 - x else 255
def frB (X : List AV) (M : Nat) : Nat → Nat → Int
  | _, 0 => 255
  | k, t + 1 => if (X.getD (M + k) .top).toB = true then (k : Int) else frB X M (k + 1) t
theorem startsP_len : ∀ (n : Nat) (ps : List AV), (startsP n ps).length = ps.length
  | _, [] => rfl
  | n, p :: ps => by simp [startsP, startsP_len _ ps]
theorem startsP_ge : ∀ (n : Nat) (ps : List AV), ∀ x ∈ startsP n ps, (n : Int) ≤ x
  | n, [], x, h => by simp [startsP] at h
  | n, p :: ps, x, h => by
    rw [startsP, List.mem_cons] at h
    rcases h with rfl | h
    · omega
    · have := startsP_ge _ ps x h; omega
theorem startsP_asc : ∀ (n : Nat) (ps : List AV), (startsP n ps).Pairwise (· < ·)
  | n, [] => by simp [startsP]
  | n, p :: ps => by
    rw [startsP, List.pairwise_cons]
    refine ⟨fun x hx => ?_, startsP_asc _ ps⟩
    have := startsP_ge _ ps x hx
    rw [pkB_len] at this
    omega
theorem begP_at : ∀ (ps : List AV) (n k : Nat), k < (begP ps).length → (((begP ps).getD k .top).toB = true ↔ ((n + k : Nat) : Int) ∈ startsP n ps)
  | [], n, k, h => by simp [begP] at h
  | p :: ps, n, k, h => by
    have hl : (begK 0 (pkB p).length).length = (pkB p).length := begK_len _ _
    have hp : 0 < (pkB p).length := by rw [pkB_len]; omega
    rw [begP, startsP, List.mem_cons, List.getD_eq_getElem?_getD]
    by_cases h1 : k < (pkB p).length
    · rw [List.getElem?_append_left (by omega)]
      have h2 : (begK 0 (pkB p).length)[k]? = some (AV.bool (decide (k = 0))) := by
        simp [begK, h1]
      rw [h2]
      constructor
      · intro h3
        have h4 : k = 0 := by simpa [AV.toB] using h3
        left; omega
      · rintro (h3 | h3)
        · have : k = 0 := by omega
          simp [AV.toB, this]
        · have := startsP_ge _ ps _ h3
          omega
    · rw [List.getElem?_append_right (by omega), hl]
      have ih := begP_at ps (n + (pkB p).length) (k - (pkB p).length) (by rw [begP, List.length_append, hl] at h; omega)
      rw [List.getD_eq_getElem?_getD] at ih
      rw [ih]
      have e : n + (pkB p).length + (k - (pkB p).length) = n + k := by omega
      rw [e]
      constructor
      · intro h3; exact .inr h3
      · rintro (h3 | h3)
        · omega
        · exact h3
theorem loS_split (S : List Int) (x : Int) : (∀ y ∈ S.take (loS S x), y < x) ∧ (∀ h : loS S x < S.length, x ≤ S[loS S x]) := by
  induction S with
  | nil => simp [loS]
  | cons y ys ih =>
    unfold loS at ih ⊢
    rw [List.takeWhile_cons]
    by_cases h : y < x
    · rw [if_pos (by simpa using h), List.length_cons]
      refine ⟨fun z hz => ?_, fun hl => ?_⟩
      · rw [List.take_succ_cons, List.mem_cons] at hz
        rcases hz with rfl | hz
        · exact h
        · exact ih.1 z hz
      · simpa using ih.2 (by simpa using hl)
    · rw [if_neg (by simpa using h)]
      exact ⟨fun z hz => by simp at hz, fun hl => by simpa using h⟩
/-- the first start from x on is y -/
theorem loS_at {S : List Int} (hs : S.Pairwise (· < ·)) {x y : Int} (hy : y ∈ S) (hxy : x ≤ y) (hno : ∀ z ∈ S, x ≤ z → y ≤ z) : loS S x < S.length ∧ S.getD (loS S x) 0 = y := by
  obtain ⟨h1, h2⟩ := loS_split S x
  obtain ⟨j, hj, rfl⟩ := List.getElem_of_mem hy
  have hlj : loS S x ≤ j := by
    rcases Nat.lt_or_ge j (loS S x) with h | h
    · have := h1 S[j] (List.mem_take_iff_getElem.2 ⟨j, by omega, rfl⟩)
      omega
    · exact h
  have hlt : loS S x < S.length := by omega
  refine ⟨hlt, ?_⟩
  have h3 := h2 hlt
  have h4 := hno _ (List.getElem_mem hlt) h3
  rw [List.getD_eq_getElem?_getD, List.getElem?_eq_getElem hlt, Option.getD_some]
  rcases Nat.lt_or_ge (loS S x) j with h | h
  · have := List.pairwise_iff_getElem.1 hs _ _ hlt hj h; omega
  · have : loS S x = j := by omega
    simp only [this]
theorem frB_first {S : List Int} {X : List AV} (hs : S.Pairwise (· < ·)) (hX : ∀ k, k < X.length → ((X.getD k .top).toB = true ↔ ((k : Nat) : Int) ∈ S)) (M N : Nat) (hM : M + N ≤ X.length) : ∀ (t k : Nat), k + t = N → (∀ z ∈ S, (M : Int) ≤ z → ((M + k : Nat) : Int) ≤ z) → frB X M k t = firstP S M N := by
  intro t
  induction t with
  | zero =>
    intro k hk hno
    rw [frB, firstP, if_neg]
    rintro ⟨h1, h2⟩
    have h3 := (loS_split S (M : Int)).2 h1
    rw [List.getD_eq_getElem?_getD, List.getElem?_eq_getElem h1, Option.getD_some] at h2
    have := hno _ (List.getElem_mem h1) h3
    omega
  | succ t ih =>
    intro k hk hno
    have hb := hX (M + k) (by omega)
    rw [frB]
    by_cases h : (X.getD (M + k) .top).toB = true
    · rw [if_pos h]
      obtain ⟨h1, h2⟩ := loS_at hs (hb.1 h) (x := (M : Int)) (by omega) (fun z hz hxz => hno z hz hxz)
      rw [firstP, if_pos ⟨h1, by rw [h2]; omega⟩, h2]
      omega
    · rw [if_neg h]
      refine ih (k + 1) (by omega) fun z hz hMz => ?_
      have h1 := hno z hz hMz
      rcases Int.lt_or_eq_of_le h1 with h2 | h2
      · omega
      · rw [← h2] at hz; exact absurd (hb.2 hz) h
/-! ### The frames -/
def frmS (c d : Int) (N : Nat) (B S : List Int) (i : Nat) : AV := .agg (.gen [.int .i64 c, .int .i64 ((d + i).tmod 64), .int .i64 (firstP S ((i * N : Nat) : Int) N), .list (.ints .i64 ((B.drop (i * N)).take N))])
def frmL (c d : Int) (N : Nat) (B S : List Int) (K : Nat) : List AV := (List.range K).map (frmS c d N B S)
theorem frmL_succ (c d : Int) (N : Nat) (B S : List Int) (K : Nat) : frmL c d N B S (K + 1) = frmL c d N B S K ++ [frmS c d N B S K] := by simp [frmL, List.range_succ]
theorem frmL_len (c d : Int) (N : Nat) (B S : List Int) (K : Nat) : (frmL c d N B S K).length = K := by simp [frmL]
theorem modI64 {x : Int} (h : 0 ≤ x) : modI x 64 = x.tmod 64 := by
  unfold modI; rw [if_neg]; have := Int.tmod_nonneg 64 h; omega
def FRr (l : List AV) : Row := .big (.agg [.int .i64, .int .i64, .int .i64, .ints .i64]) l
theorem r35b {C : Ctx} (hC : C.P = Try.prog) (N i M : Nat) (b c d : Int) (B S l0 l2 l4 l6 : List Int) (b1 b5 : Bool) (hN : 4 ≤ N ∧ N ≤ 24) (hM : M = i * N) (hMB : M + N ≤ B.length) (hBl : B.length ≤ 2000) (hd : 0 ≤ d ∧ d ≤ 63) (hi : i ≤ 1000) (hS : ascB S = true) (hS2 : ∀ x ∈ S, 0 ≤ x ∧ x ≤ 100000) (X : List AV) (hX : X.length = i) (R : List AFrame → AHeap → Prop)
    (hn : Ev C (f35h132_0b N b c d l0 b1 l2 S l4 b5 l6 B ((M + N : Nat) : Int) (X ++ [frmS c d N B S i])) (f35h132_0bm N b c d l0 b1 l2 S l4 b5 l6 B ((M + N : Nat) : Int) (X ++ [frmS c d N B S i])) R) :
    Ev C (f35h132_0b N b c d l0 b1 l2 S l4 b5 l6 B M X) (f35h132_0bm N b c d l0 b1 l2 S l4 b5 l6 B M X) R := by
  have hm : std.min (N : Int) ((std.len (std.sub3 B M (std.subN (std.len B) M)) : Nat) : Int) = N := by simp; omega
  have hmm : std.mul (i : Int) (N : Int) = (M : Int) := by rw [hM]; simp
  have hx2 : std.lenA X = i := hX
  rw [frmS, ← hM, firstP] at hn
  have hl1 : loS S (M : Int) < S.length → 0 ≤ S.getD (loS S M) 0 ∧ S.getD (loS S M) 0 ≤ 100000 := fun h => by
    rw [List.getD_eq_getElem?_getD, List.getElem?_eq_getElem h, Option.getD_some]; exact hS2 _ (List.getElem_mem h)
  have hnth : ∀ k : Nat, std.nth S k = S.getD k 0 := fun _ => rfl
  have hnat : ∀ k : Nat, std.nat (k : Int) = k := fun _ => rfl
  have e1 : ((M : Int) + N).toNat - M = N := by omega
  have e2 : ((M + N : Nat) : Int) = (M : Int) + N := by simp
  rw [e2] at hn
  by_cases c1 : loS S (M : Int) < S.length
  · have hl2 := hl1 c1
    generalize hv : S.getD (loS S M) 0 = v at *
    by_cases c2 : v < (M : Int) + N
    · rw [if_pos ⟨c1, c2⟩] at hn
      refine go hC BD5_ok (f35p7 std N b c d l0 b1 l2 S l4 b5 l6 B M X) ?_ (by simp only [hmm, hm, hnth, hnat, hv, hx2, s_int]; simpa [e1] using hn)
      simp only [hmm, hm, hnth, hnat, hv, hx2, s_int]
      simp [hS, c1, c2, AV.bx, flatLen, Row.len, e1]
      omega
    · rw [if_neg (fun h => c2 h.2)] at hn
      refine go hC BD5_ok (f35p8 std N b c d l0 b1 l2 S l4 b5 l6 B M X) ?_ (by simp only [hmm, hm, hnth, hnat, hv, hx2, s_int]; simpa [e1] using hn)
      simp only [hmm, hm, hnth, hnat, hv, hx2, s_int]
      simp [hS, c1, AV.bx, flatLen, Row.len, e1]
      omega
  · rw [if_neg (fun h => c1 h.1)] at hn
    refine go hC BD5_ok (f35p9 std N b c d l0 b1 l2 S l4 b5 l6 B M X) ?_ (by simp only [hmm, hm, hnth, hnat, hx2, s_int]; simpa [e1] using hn)
    simp only [hmm, hm, hnth, hnat, hx2, s_int]
    simp [hS, AV.bx, flatLen, Row.len, e1]
    omega
theorem r35a {C : Ctx} (hC : C.P = Try.prog) (N : Nat) (b c d : Int) (B S l0 l2 l4 l6 : List Int) (b1 b5 : Bool) (hN : 4 ≤ N ∧ N ≤ 24) (hMB : N ≤ B.length) (hBl : B.length ≤ 2000) (hd : 0 ≤ d ∧ d ≤ 63) (hS : ascB S = true) (hS2 : ∀ x ∈ S, 0 ≤ x ∧ x ≤ 100000) (R : List AFrame → AHeap → Prop)
    (hn : Ev C (f35h132_0b N b c d l0 b1 l2 S l4 b5 l6 B ((N : Nat) : Int) [frmS c d N B S 0]) (f35h132_0bm N b c d l0 b1 l2 S l4 b5 l6 B ((N : Nat) : Int) [frmS c d N B S 0]) R) :
    Ev C (f35h132_0a N b c d l0 b1 l2 S l4 b5 l6 B) (f35h132_0am N b c d l0 b1 l2 S l4 b5 l6 B) R := by
  have hm : std.min (N : Int) ((std.len (std.sub3 B 0 (std.subN (std.len B) 0)) : Nat) : Int) = N := by simp; omega
  have hmm : std.mul ((0 : Nat) : Int) (N : Int) = 0 := by simp
  have hf : frmS c d N B S 0 = .agg (.gen [.int .i64 c, .int .i64 (d.tmod 64), .int .i64 (firstP S 0 N), .list (.ints .i64 (B.take N))]) := by simp [frmS]
  rw [hf, firstP] at hn
  have hl1 : loS S 0 < S.length → 0 ≤ S.getD (loS S 0) 0 ∧ S.getD (loS S 0) 0 ≤ 100000 := fun h => by
    rw [List.getD_eq_getElem?_getD, List.getElem?_eq_getElem h, Option.getD_some]; exact hS2 _ (List.getElem_mem h)
  have hnth : ∀ k : Nat, std.nth S k = S.getD k 0 := fun _ => rfl
  have hnat : ∀ k : Nat, std.nat (k : Int) = k := fun _ => rfl
  have hnat0 : std.nat 0 = 0 := rfl
  have e1 : ((N : Int)).toNat = N := by omega
  by_cases c1 : loS S 0 < S.length
  · have hl2 := hl1 c1
    generalize hv : S.getD (loS S 0) 0 = v at *
    by_cases c2 : v < 0 + (N : Int)
    · rw [if_pos ⟨c1, c2⟩] at hn
      refine go hC BD5_ok (f35p3 std N b c d l0 b1 l2 S l4 b5 l6 B) ?_ (by simp only [hmm, hm, hnth, hnat, hnat0, hv, s_int]; simpa [e1] using hn)
      simp only [hmm, hm, hnth, hnat, hnat0, hv, s_int]
      simp [hS, c1, AV.bx, flatLen, Row.len, e1]
      omega
    · rw [if_neg (fun h => c2 h.2)] at hn
      refine go hC BD5_ok (f35p4 std N b c d l0 b1 l2 S l4 b5 l6 B) ?_ (by simp only [hmm, hm, hnth, hnat, hnat0, hv, s_int]; simpa [e1] using hn)
      simp only [hmm, hm, hnth, hnat, hnat0, hv, s_int]
      simp [hS, c1, AV.bx, flatLen, Row.len, e1]
      omega
  · rw [if_neg (fun h => c1 h.1)] at hn
    refine go hC BD5_ok (f35p5 std N b c d l0 b1 l2 S l4 b5 l6 B) ?_ (by simp only [hmm, hm, hnth, hnat, hnat0, s_int]; simpa [e1] using hn)
    simp only [hmm, hm, hnth, hnat, hnat0, s_int]
    simp [hS, AV.bx, flatLen, Row.len, e1]
    omega
theorem l35 {C : Ctx} (hC : C.P = Try.prog) (N K : Nat) (b c d : Int) (B S l0 l2 l4 l6 : List Int) (b1 b5 : Bool) (hN : 4 ≤ N ∧ N ≤ 24) (hB : B.length = K * N) (hBl : B.length ≤ 2000) (hd : 0 ≤ d ∧ d ≤ 63) (hK : K ≤ 1000) (hS : ascB S = true) (hS2 : ∀ x ∈ S, 0 ≤ x ∧ x ≤ 100000) : ∀ (t i : Nat), i + t = K →
    Ev C (f35h132_0b N b c d l0 b1 l2 S l4 b5 l6 B ((i * N : Nat) : Int) (frmL c d N B S i)) (f35h132_0bm N b c d l0 b1 l2 S l4 b5 l6 B ((i * N : Nat) : Int) (frmL c d N B S i)) (FinQ 35 (.tup [.row 0 0, .int .i64 0]) (some ⟨74, 4, FRr (frmL c d N B S K)⟩)) := by
  intro t
  induction t with
  | zero =>
    intro i hi
    have : i = K := by omega
    subst this
    rw [← hB]
    exact fin hC BD5_ok (f35p10 std N b c d l0 b1 l2 S l4 b5 l6 B _ _) (by simp) rfl rfl
  | succ t ih =>
    intro i hi
    have h1 : (i + 1) * N ≤ K * N := Nat.mul_le_mul_right N (by omega)
    have h2 : (i + 1) * N = i * N + N := by rw [Nat.add_mul, Nat.one_mul]
    have ih' := ih (i + 1) (by omega)
    rw [frmL_succ, h2] at ih'
    exact r35b hC N i (i * N) b c d B S l0 l2 l4 l6 b1 b5 hN rfl (by omega) hBl hd (by omega) hS hS2 _ (frmL_len _ _ _ _ _ _) _ ih'
theorem s35 {C : Ctx} (hC : C.P = Try.prog) (N K : Nat) (b c d : Int) (B S l0 l2 l4 l6 : List Int) (b1 b5 : Bool) (hN : 4 ≤ N ∧ N ≤ 24) (hB : B.length = (K + 1) * N) (hBl : B.length ≤ 2000) (hd : 0 ≤ d ∧ d ≤ 63) (hK : K + 1 ≤ 1000) (hS : ascB S = true) (hS2 : ∀ x ∈ S, 0 ≤ x ∧ x ≤ 100000) :
    Ev C (f35h132_0a N b c d l0 b1 l2 S l4 b5 l6 B) (f35h132_0am N b c d l0 b1 l2 S l4 b5 l6 B) (FinQ 35 (.tup [.row 0 0, .int .i64 0]) (some ⟨74, 4, FRr (frmL c d N B S (K + 1))⟩)) := by
  have h1 : 1 * N ≤ (K + 1) * N := Nat.mul_le_mul_right N (by omega)
  have h := l35 hC N (K + 1) b c d B S l0 l2 l4 l6 b1 b5 hN hB hBl hd hK hS hS2 K 1 (by omega)
  rw [frmL_succ, Nat.one_mul] at h
  exact r35a hC N b c d B S l0 l2 l4 l6 b1 b5 hN (by omega) hBl hd hS hS2 _ h
theorem i39X {C : Ctx} (hC : C.P = Try.prog) (N M : Nat) (b c d : Int) (l0 : List Int) (x1 : List AV) (n6 : Int) (x7 : List AV) (n9 : Int) (l10 : List Int) (hN : 4 ≤ N ∧ N ≤ 24) (h6 : n6 = M) (hMB : M + N ≤ x1.length) (hBl : x1.length ≤ 2000) (R : List AFrame → AHeap → Prop)
    (hn : Ev C (f39h39_1b N b c d l0 x1 n6 x7 (-1) n9 l10 (frB x1 M 0 N)) (f39h39_1bm N b c d l0 x1 n6 x7 (-1) n9 l10 (frB x1 M 0 N)) R) : ∀ (k t : Nat), k + t = N →
    Ev C (f39h39_1b N b c d l0 x1 n6 x7 ((k : Int) - 1) n9 l10 (frB x1 M k t)) (f39h39_1bm N b c d l0 x1 n6 x7 ((k : Int) - 1) n9 l10 (frB x1 M k t)) R := by
  subst h6
  intro k
  induction k with
  | zero => intro t ht; have : t = N := by omega
            subst this; simpa using hn
  | succ k ih =>
    intro t ht
    have ih' := ih (t + 1) (by omega)
    have e1 : std.nat (std.add (M : Int) (((k + 1 : Nat) : Int) - 1)) = M + k := by simp; omega
    have e2 : std.nthA x1 (M + k) = x1.getD (M + k) .top := rfl
    have e3 : ((k + 1 : Nat) : Int) - 1 = (k : Int) := by omega
    rw [frB] at ih'
    by_cases h : (x1.getD (M + k) .top).toB = true
    · rw [if_pos h] at ih'
      refine go hC BD5_ok (f39p8 std N b c d l0 x1 M x7 _ n9 l10 _) ?_ ?_
      · simp only [e1, e2, h]; simp; omega
      · rw [e3]; simpa using ih'
    · rw [if_neg h] at ih'
      refine go hC BD5_ok (f39p9 std N b c d l0 x1 M x7 _ n9 l10 _) ?_ ?_
      · simp only [e1, e2]; simp only [Bool.not_eq_true] at h; rw [h]; simp; omega
      · rw [e3]; simpa using ih'
theorem i39Y {C : Ctx} (hC : C.P = Try.prog) (N : Nat) (b c d : Int) (l0 : List Int) (x1 : List AV) (n9 : Int) (l10 : List Int) (hN : 4 ≤ N ∧ N ≤ 24) (hMB : N ≤ x1.length) (hBl : x1.length ≤ 2000) (R : List AFrame → AHeap → Prop)
    (hn : Ev C (f39h39_1a N b c d l0 x1 (-1) n9 l10 (frB x1 0 0 N)) (f39h39_1am N b c d l0 x1 (-1) n9 l10 (frB x1 0 0 N)) R) : ∀ (k t : Nat), k + t = N →
    Ev C (f39h39_1a N b c d l0 x1 ((k : Int) - 1) n9 l10 (frB x1 0 k t)) (f39h39_1am N b c d l0 x1 ((k : Int) - 1) n9 l10 (frB x1 0 k t)) R := by
  intro k
  induction k with
  | zero => intro t ht; have : t = N := by omega
            subst this; simpa using hn
  | succ k ih =>
    intro t ht
    have ih' := ih (t + 1) (by omega)
    have e1 : std.nat (std.add 0 (((k + 1 : Nat) : Int) - 1)) = k := by simp
    have e2 : std.nthA x1 k = x1.getD (0 + k) .top := by simp
    have e3 : ((k + 1 : Nat) : Int) - 1 = (k : Int) := by omega
    rw [frB] at ih'
    by_cases h : (x1.getD (0 + k) .top).toB = true
    · rw [if_pos h] at ih'
      refine go hC BD5_ok (f39p3 std N b c d l0 x1 _ n9 l10 _) ?_ ?_
      · simp only [e1, e2, h]; simp; omega
      · rw [e3]; simpa using ih'
    · rw [if_neg h] at ih'
      refine go hC BD5_ok (f39p4 std N b c d l0 x1 _ n9 l10 _) ?_ ?_
      · simp only [e1, e2]; simp only [Bool.not_eq_true] at h; rw [h]; simp; omega
      · rw [e3]; simpa using ih'
theorem l39 {C : Ctx} (hC : C.P = Try.prog) (N K : Nat) (b c d : Int) (B S : List Int) (X : List AV) (hN : 4 ≤ N ∧ N ≤ 24) (hB : B.length = K * N) (hBl : B.length ≤ 2000) (hXl : X.length = B.length) (hd : 0 ≤ d ∧ d ≤ 63) (hK : K ≤ 1100) (hs : S.Pairwise (· < ·)) (hS0 : ∀ x ∈ S, 0 ≤ x) (hX : ∀ k, k < X.length → ((X.getD k .top).toB = true ↔ ((k : Nat) : Int) ∈ S)) : ∀ (t i : Nat), i + t = K →
    Ev C (f39h39_0b N b c d B X ((i * N : Nat) : Int) (frmL c d N B S i)) (f39h39_0bm N b c d B X ((i * N : Nat) : Int) (frmL c d N B S i)) (FinQ 39 (.row 0 0) (some ⟨74, 4, FRr (frmL c d N B S K)⟩)) := by
  intro t
  induction t with
  | zero =>
    intro i hi
    have : i = K := by omega
    subst this
    rw [← hB]
    exact fin hC BD5_ok (f39p7 std N b c d B X _ _) (by simp) rfl rfl
  | succ t ih =>
    intro i hi
    have h1 : (i + 1) * N ≤ K * N := Nat.mul_le_mul_right N (by omega)
    have h2 : (i + 1) * N = i * N + N := by rw [Nat.add_mul, Nat.one_mul]
    have ih' := ih (i + 1) (by omega)
    rw [frmL_succ, h2, frmS] at ih'
    have hf := frB_first hs hX (i * N) N (by omega) N 0 (by omega) (fun z hz h => by simpa using h)
    rw [← hf] at ih'
    have hlen := frmL_len c d N B S i
    generalize frmL c d N B S i = Y at *
    generalize hM : i * N = M at *
    have e0 : std.lenA Y = i := hlen
    have e1 : ((M : Int) + N).toNat - M = N := by omega
    have e2 : modI (d + (i : Int)) 64 = (d + i).tmod 64 := modI64 (by omega)
    have e3 : ((N : Nat) : Int) - 1 = std.sub (N : Int) 1 := rfl
    have e4 : std.nat (M : Int) = M := rfl
    refine go hC BD5_ok (f39p6 std N b c d B X M Y) ?_ ?_
    · simp only [e0, e4, s_int]
      simp [AV.bx, flatLen, Row.len, e1]
      omega
    · have h4 := i39X hC N M b c d B X M Y ((d + i).tmod 64) ((B.drop M).take N) hN rfl (by omega) (by omega) (FinQ 39 (.row 0 0) (some ⟨74, 4, FRr (frmL c d N B S K)⟩)) (by
        refine go hC BD5_ok (f39p10 std N b c d B X M Y _ _ _ _) (by simp [AV.bx, flatLen, Row.len, hlen]; omega) ?_
        simpa using ih') N 0 (by omega)
      rw [frB] at h4
      simp only [e0, e4, s_int]
      simp only [s_add, e2]
      simpa [e1] using h4
theorem s39 {C : Ctx} (hC : C.P = Try.prog) (N K : Nat) (b c d : Int) (B S : List Int) (X : List AV) (hN : 4 ≤ N ∧ N ≤ 24) (hB : B.length = (K + 1) * N) (hBl : B.length ≤ 2000) (hXl : X.length = B.length) (hd : 0 ≤ d ∧ d ≤ 63) (hK : K + 1 ≤ 1100) (hs : S.Pairwise (· < ·)) (hS0 : ∀ x ∈ S, 0 ≤ x) (hX : ∀ k, k < X.length → ((X.getD k .top).toB = true ↔ ((k : Nat) : Int) ∈ S)) :
    Ev C (f39h39_0a N b c d B X) (f39h39_0am N b c d B X) (FinQ 39 (.row 0 0) (some ⟨74, 4, FRr (frmL c d N B S (K + 1))⟩)) := by
  have h1 : 1 * N ≤ (K + 1) * N := Nat.mul_le_mul_right N (by omega)
  have h := l39 hC N (K + 1) b c d B S X hN hB hBl hXl hd hK hs hS0 hX K 1 (by omega)
  have hz : frmL c d N B S 0 = [] := rfl
  rw [frmL_succ, Nat.one_mul, hz, List.nil_append, frmS] at h
  have hf := frB_first hs hX 0 N (by omega) N 0 (by omega) (fun z hz h => by simpa using h)
  rw [Nat.zero_mul, ← hf] at h
  have e1 : ((N : Int)).toNat = N := by omega
  have e2 : modI d 64 = d.tmod 64 := modI64 (by omega)
  have e4 : std.nat (0 : Int) = 0 := rfl
  refine go hC BD5_ok (f39p1 std N b c d B X) ?_ ?_
  · simp only [e4, s_int]
    simp [AV.bx, flatLen, Row.len, e1]
    omega
  · have h4 := i39Y hC N b c d B X (d.tmod 64) (B.take N) hN (by omega) (by omega) (FinQ 39 (.row 0 0) (some ⟨74, 4, FRr (frmL c d N B S (K + 1))⟩)) (by
      refine go hC BD5_ok (f39p5 std N b c d B X _ _ _ _) (by simp [AV.bx, flatLen, Row.len]; omega) ?_
      simpa using h) N 0 (by omega)
    rw [frB] at h4
    simp only [e4, s_int]
    simp only [s_add, Int.natCast_zero, Int.add_zero, e2]
    simpa [e1] using h4
/-! ### What comes back -/
theorem startsP_le : ∀ (n : Nat) (ps : List AV), ∀ x ∈ startsP n ps, x ≤ n + (bytesP ps).length
  | n, [], x, h => by simp [startsP] at h
  | n, p :: ps, x, h => by
    rw [startsP, List.mem_cons] at h
    rcases h with rfl | h
    · omega
    · have := startsP_le _ ps x h
      rw [bytesP, List.length_append]; omega
def packL (a c d : Int) (ps : List AV) : List AV := frmL c d a.toNat (bytesP (filP a ps)) (startsP 0 (filP a ps)) (framesN a ps).toNat
theorem pack39_ok (a b c d : Int) (ps : List AV) (h : (4 ≤ a ∧ a ≤ 24) ∧ (0 ≤ d ∧ d ≤ 63) ∧ fewB ps = true) : Pure Try.prog 39 [.agg (.gen [.int .i64 a, .int .i64 b]), .agg (.gen [.int .i64 c, .int .i64 d]), .list (.big (.agg [.int .i64, .int .i64, .ints .i64]) ps)] (.list (FRr (packL a c d ps))) none := by
  obtain ⟨ha, hd, hf⟩ := h
  obtain ⟨N, K, rfl, h2, h3, h4, h5⟩ := fil_len ha hf
  have hg : (3 < (N : Int) ∧ (N : Int) ≤ 500) ∧ fewB ps = true := ⟨by omega, hf⟩
  have e1 : packL N c d ps = frmL c d N (bytesP (filP N ps)) (startsP 0 (filP N ps)) K := by rw [packL, h4]; rfl
  have hXl := begP_len (filP N ps)
  have hX := fun k hk => begP_at (filP N ps) 0 k hk
  simp only [Nat.zero_add] at hX
  have hs := startsP_asc 0 (filP N ps)
  have hS0 : ∀ x ∈ startsP 0 (filP N ps), 0 ≤ x := fun x hx => by have := startsP_ge 0 _ x hx; simpa using this
  rw [e1]
  generalize startsP 0 (filP N ps) = S at *
  cases K with
  | zero =>
    rw [Nat.zero_mul] at h2
    have hB : bytesP (filP N ps) = [] := List.length_eq_zero_iff.1 h2
    exact frz2_nil (start (f39e_at N b c d ps) fun C hC => go hC BD5_ok (f39p0 std N b c d ps) (by simp [hg]) (fin hC BD5_ok (f39p2 std N b c d _ _) (by rw [hB]; simp) rfl rfl)) rfl
  | succ K =>
    exact frz2_row (e := 74) (sz := 3) (start (f39e_at N b c d ps) fun C hC => go hC BD5_ok (f39p0 std N b c d ps) (by simp [hg])
      (s39 hC N K b c d _ S _ ⟨by omega, by omega⟩ h2 (by omega) hXl hd (by omega) hs hS0 hX)) rfl
def pkErr (a b c d : Int) (ps : List AV) : Int := firstE [firstE [rulesE a b, chanW b c], unlessE (decide (0 ≤ d ∧ d ≤ 63)) 2, packE ps]
def pkdE (a b c d : Int) (ps : List AV) : Int := if pkErr a b c d ps = 0 then (if 40 < framesN a ps then 8 else 0) else pkErr a b c d ps
def pkdL (a b c d : Int) (ps : List AV) : List AV := if pkdE a b c d ps = 0 then packL a c d ps else []
theorem errs3 (a b c : Int) : firstE [a, b, c] = if a = 0 then (if b = 0 then c else b) else a := by
  simp only [firstE]
  by_cases h : c = 0 <;> simp [h]
theorem pkErr_ok {a b c d : Int} {ps : List AV} (h : pkErr a b c d ps = 0) : rulesE a b = 0 ∧ chanW b c = 0 ∧ (0 ≤ d ∧ d ≤ 63) ∧ packE ps = 0 := by
  rw [pkErr, errs3, errs2] at h
  by_cases h1 : rulesE a b = 0
  · rw [if_pos h1] at h
    by_cases h2 : chanW b c = 0
    · rw [if_pos h2] at h
      by_cases h3 : 0 ≤ d ∧ d ≤ 63
      · rw [decide_eq_true h3, unlessE_t, if_pos rfl] at h
        exact ⟨h1, h2, h3, h⟩
      · rw [decide_eq_false h3, unlessE_f, if_neg (by omega)] at h; omega
    · rw [if_neg h2] at h; exact absurd h h2
  · rw [if_neg h1, if_neg h1] at h; exact absurd h h1
theorem pack35_ok (a b c d : Int) (ps : List AV) (hf : fewB ps = true) : Pure Try.prog 35 [.agg (.gen [.int .i64 a, .int .i64 b]), .agg (.gen [.int .i64 c, .int .i64 d]), .list (.big (.agg [.int .i64, .int .i64, .ints .i64]) ps)] (.tup [.list (FRr (pkdL a b c d ps)), .int .i64 (pkdE a b c d ps)]) none := by
  by_cases h0 : pkErr a b c d ps = 0
  · obtain ⟨r1, r2, r3, r4⟩ := pkErr_ok h0
    obtain ⟨q1, q2, q3, q4⟩ := rulesE_ok r1
    obtain ⟨N, K, rfl, h2, h3, h4, h5⟩ := fil_len ⟨q1, q2⟩ hf
    have hg : (3 < (N : Int) ∧ (N : Int) ≤ 1000) ∧ fewB ps = true := ⟨by omega, hf⟩
    have hG := filP_G (n := (N : Int)) (ps := ps) (by omega) hf
    have h0' : firstE [firstE [rulesE N b, chanW b c], unlessE (decide (0 ≤ d ∧ d ≤ 63)) 2, packE ps] = 0 := h0
    have hq : std.quo (std.int (std.len (bytesP (filP N ps)))) N = K := h4
    by_cases h40 : 40 < K
    · have e1 : pkdE N b c d ps = 8 := by rw [pkdE, if_pos h0, h4, if_pos (by omega)]
      have e2 : pkdL N b c d ps = [] := by rw [pkdL, e1]; rfl
      rw [e1, e2]
      refine wk_tup (xs := [.nils, .int .i64 8]) (start (f35e_at N b c d ps) fun C hC => fin hC BD5_ok (f35p1 std N b c d ps) ?_ rfl rfl) ⟨.nil _ rfl, .same _, trivial⟩
      simp only [h0', hq]
      simp [hf, hG, hg, AV.bx, flatLen]
      omega
    · have e1 : pkdE N b c d ps = 0 := by rw [pkdE, if_pos h0, h4, if_neg (by omega)]
      have e2 : pkdL N b c d ps = frmL c d N (bytesP (filP N ps)) (startsP 0 (filP N ps)) K := by rw [pkdL, if_pos e1, packL, h4]; rfl
      rw [e1, e2]
      have hs := startsP_asc 0 (filP N ps)
      have hsl := startsP_len 0 (filP N ps)
      have hfl := (filP_len (N : Int) ps).2
      have hlen := (few_ok hf).1
      have hS2 : ∀ x ∈ startsP 0 (filP N ps), 0 ≤ x ∧ x ≤ 100000 := fun x hx => by
        have h6 := startsP_ge 0 _ x hx
        have h7 := startsP_le 0 _ x hx
        omega
      have hS : ascB (startsP 0 (filP N ps)) = true := by rw [ascB, Bool.and_eq_true]; exact ⟨decide_eq_true hs, decide_eq_true (by omega)⟩
      have hbeg : ∀ C : Ctx, C.P = Try.prog → ∀ {R : List AFrame → AHeap → Prop}, (∀ (b1 b5 : Bool), Ev C (f35h132_0a N b c d (bytesP (filP N ps)) b1 (bytesP (filP N ps)) (startsP 0 (filP N ps)) (bytesP (filP N ps)) b5 (bytesP (filP N ps)) (bytesP (filP N ps))) (f35h132_0am N b c d (bytesP (filP N ps)) b1 (bytesP (filP N ps)) (startsP 0 (filP N ps)) (bytesP (filP N ps)) b5 (bytesP (filP N ps)) (bytesP (filP N ps))) R) → Ev C (f35e N b c d ps) [] R := fun C hC R hh => by
        refine go hC BD5_ok (f35p2 std N b c d ps) ?_ (hh _ _)
        simp only [h0', hq]
        simp [hf, hG, hg, AV.bx, flatLen]
        omega
      generalize startsP 0 (filP N ps) = S at *
      cases K with
      | zero =>
        rw [Nat.zero_mul] at h2
        have hB : bytesP (filP N ps) = [] := List.length_eq_zero_iff.1 h2
        exact wk_tup (xs := [.nils, .int .i64 0]) (start (f35e_at N b c d ps) fun C hC => hbeg C hC fun b1 b5 => fin hC BD5_ok (f35p6 std N b c d _ _ _ _ _ _ _ _) (by rw [hB]; simp) rfl rfl) ⟨.nil _ rfl, .same _, trivial⟩
      | succ K =>
        exact frz2_tup (e := 74) (sz := 3) (start (f35e_at N b c d ps) fun C hC => hbeg C hC fun b1 b5 => s35 hC N K b c d _ S _ _ _ _ b1 b5 ⟨by omega, by omega⟩ h2 (by omega) r3 (by omega) hS hS2) rfl ⟨.row, .same _ rfl, trivial⟩
  · have e1 : pkdE a b c d ps = pkErr a b c d ps := by rw [pkdE, if_neg h0]
    have e2 : pkdL a b c d ps = [] := by rw [pkdL, e1, if_neg h0]
    rw [e1, e2]
    refine wk_tup (xs := [.nils, .int .i64 (pkErr a b c d ps)]) (start (f35e_at a b c d ps) fun C hC => fin hC BD5_ok (f35p0 std a b c d ps) ?_ rfl rfl) ⟨.nil _ rfl, .same _, trivial⟩
    have h0' : ¬ firstE [firstE [rulesE a b, chanW b c], unlessE (decide (0 ≤ d ∧ d ≤ 63)) 2, packE ps] = 0 := h0
    simp [hf, AV.bx, flatLen]
    simpa using h0'
def k33 : Ctr := ⟨33, 0, fun _ a => match a with | [.agg (.gen [.int .i64 a, .int .i64 b]), .list (.big (.agg [.int .i64, .int .i64, .ints .i64]) ps)] => some (decide (fewB ps = true), .tup [.int .i64 (ffN a b ps), .int .i64 (ffE a b ps)], none) | _ => none⟩
theorem k33_ok : k33.OK Try.prog := fun pa args r fr h => by
  simp only [k33] at h
  split at h
  · simp only [Option.some.injEq, Prod.mk.injEq, decide_eq_true_eq] at h
    obtain ⟨h0, rfl, rfl⟩ := h
    exact for33_ok _ _ _ h0
  · cases h
def k37 : Ctr := ⟨37, 0, fun _ a => match a with | [.agg (.gen [.int .i64 a, .int .i64 b]), .list (.big (.agg [.int .i64, .int .i64, .ints .i64]) ps)] => some (decide ((4 ≤ a ∧ a ≤ 24) ∧ fewB ps = true), .int .i64 (framesN a ps), none) | _ => none⟩
theorem k37_ok : k37.OK Try.prog := fun pa args r fr h => by
  simp only [k37] at h
  split at h
  · simp only [Option.some.injEq, Prod.mk.injEq, decide_eq_true_eq] at h
    obtain ⟨h0, rfl, rfl⟩ := h
    exact for37_ok _ _ _ h0
  · cases h
def k39 : Ctr := ⟨39, 0, fun _ a => match a with | [.agg (.gen [.int .i64 a, .int .i64 b]), .agg (.gen [.int .i64 c, .int .i64 d]), .list (.big (.agg [.int .i64, .int .i64, .ints .i64]) ps)] => some (decide ((4 ≤ a ∧ a ≤ 24) ∧ (0 ≤ d ∧ d ≤ 63) ∧ fewB ps = true), .list (.big (.agg [.int .i64, .int .i64, .int .i64, .ints .i64]) (packL a c d ps)), none) | _ => none⟩
theorem k39_ok : k39.OK Try.prog := fun pa args r fr h => by
  simp only [k39] at h
  split at h
  · simp only [Option.some.injEq, Prod.mk.injEq, decide_eq_true_eq] at h
    obtain ⟨h0, rfl, rfl⟩ := h
    exact pack39_ok _ _ _ _ _ h0
  · cases h
def k35 : Ctr := ⟨35, 0, fun _ a => match a with | [.agg (.gen [.int .i64 a, .int .i64 b]), .agg (.gen [.int .i64 c, .int .i64 d]), .list (.big (.agg [.int .i64, .int .i64, .ints .i64]) ps)] => some (decide (fewB ps = true), .tup [.list (.big (.agg [.int .i64, .int .i64, .int .i64, .ints .i64]) (pkdL a b c d ps)), .int .i64 (pkdE a b c d ps)], none) | _ => none⟩
theorem k35_ok : k35.OK Try.prog := fun pa args r fr h => by
  simp only [k35] at h
  split at h
  · simp only [Option.some.injEq, Prod.mk.injEq, decide_eq_true_eq] at h
    obtain ⟨h0, rfl, rfl⟩ := h
    exact pack35_ok _ _ _ _ _ h0
  · cases h
def BD6 : List Ctr := [k33, k37, k39, k35] ++ BD5
theorem BD6_ok : CtrsOK Try.prog BD6 := ⟨k33_ok, ⟨k37_ok, ⟨k39_ok, ⟨k35_ok, BD5_ok⟩⟩⟩⟩
end Go.Proofs.Ytjhdnpmojhkbjaa
