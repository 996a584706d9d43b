/- Contracts as a list. No condition. -/
import Derived.Test.YtjhdnpmojhkbjaaP2
namespace Go.Proofs.Ytjhdnpmojhkbjaa
def wr (n : Int) : Int := Go.IntKind.wrap .i64 n
theorem wr_id {n : Int} (h : -9223372036854775808 ≤ n ∧ n ≤ 9223372036854775807) : wr n = n := wrap_inR (k := .i64) (by rw [s_inR64]; exact decide_eq_true h)
def rulesB (a b : Int) : Bool := decide ((4 ≤ a ∧ a ≤ 24) ∧ 1 ≤ b ∧ b ≤ 4)
def rulesE (a b : Int) : Int := if rulesB a b = true then 0 else 2
def chanE (b n : Int) : Int := if 0 ≤ n ∧ n ≤ b - 1 then 0 else 6
def chanW (b n : Int) : Int := if 0 ≤ n ∧ n ≤ wr (b - 1) then 0 else 6
theorem rules18_ok (a b : Int) : Pure Try.prog 18 [.agg (.gen [.int .i64 a, .int .i64 b])] (.int .i64 (rulesE a b)) none :=
  start (f18e_at a b) fun C hC => by
    by_cases h1 : 4 ≤ a ∧ a ≤ 24
    · by_cases h2 : 1 ≤ b ∧ b ≤ 4
      · exact fin hC B1_ok (f18p2 std a b) (by simp [h1, h2]) (by simp [rulesE, rulesB, h1, h2]) rfl
      · exact fin hC B1_ok (f18p1 std a b) (by simp [h1]; omega) (by simp [rulesE, rulesB, h2]) rfl
    · exact fin hC B1_ok (f18p0 std a b) (by simp; omega) (by simp [rulesE, rulesB, h1]) rfl
theorem rules63_ok (a b : Int) : Pure Try.prog 63 [.agg (.gen [.int .i64 a, .int .i64 b])] (.int .i64 (rulesE a b)) none :=
  start (f63e_at a b) fun C hC => by
    by_cases h1 : 4 ≤ a ∧ a ≤ 24
    · exact fin hC B1_ok (f63p0 std a b) (by simp [h1]) (by by_cases h2 : 1 ≤ b ∧ b ≤ 4 <;> simp [rulesE, rulesB, h1, h2, unlessE]) rfl
    · exact fin hC B1_ok (f63p1 std a b) (by simp; omega) (by simp [rulesE, rulesB, h1]) rfl
theorem chan19_ok (a b n : Int) (h : -1000000 ≤ b ∧ b ≤ 1000000) : Pure Try.prog 19 [.agg (.gen [.int .i64 a, .int .i64 b]), .int .i64 n] (.int .i64 (chanE b n)) none :=
  start (f19e_at a b n) fun C hC => by
    by_cases h1 : 0 ≤ n ∧ n ≤ b - 1
    · exact fin hC B1_ok (f19p1 std a b n) (by simp [h1.1]; omega) (by rw [chanE, if_pos h1]) rfl
    · exact fin hC B1_ok (f19p0 std a b n) (by simp; exact ⟨decide_eq_false h1, by omega, by omega⟩) (by rw [chanE, if_neg h1]) rfl
theorem chan131_ok (a b n : Int) : Pure Try.prog 131 [.agg (.gen [.int .i64 a, .int .i64 b]), .int .i64 n] (.int .i64 (chanW b n)) none :=
  start (f131e_at a b n) fun C hC => fin hC B1_ok (f131p0 std a b n) (by simp) (by
    show AV.int .i64 (unlessE (decide (0 ≤ n ∧ n ≤ wr (b - 1))) 6) = _
    by_cases h : 0 ≤ n ∧ n ≤ wr (b - 1) <;> simp [chanW, unlessE, h]) rfl
theorem bytes94_ok (xs : List Int) (h : xs.length ≤ 1000000) : Pure Try.prog 94 [.list (.ints .i64 xs)] (.int .i64 (bytesE xs)) none :=
  start (f94e_at xs) fun C hC => fin hC B1_ok (f94p0 std xs) (by simp [h]) rfl rfl
theorem concat_row (x y : AV) (a b : List Int) (hx : x.toIs = a) (hy : y.toIs = b) (h : 0 < a.length + b.length ∧ a.length + b.length ≤ 1000000) : Pure Try.prog 113 [.list (.big (.ints .i64) [x, y])] (.row 0 0) (some ⟨3, 1, .ints .i64 (a ++ b)⟩) :=
  start (f113e_at [x, y]) fun C hC => by
    refine go hC B1_ok (f113p0 std [x, y]) (by simp) ?_
    refine go hC B1_ok (f113p1 std [x, y] _ _ _) (by simp [hx]; omega) ?_
    refine go hC B1_ok (f113p1 std [x, y] _ _ _) (by simp [hx, hy]; omega) ?_
    refine go hC B1_ok (f113p2 std [x, y] _ _ _) (by simp [hx, hy]; omega) ?_
    refine go hC B1_ok (f113p4 std [x, y] _ _ _ _) (by simp [hx, hy]; omega) ?_
    refine go hC B1_ok (f113p4 std [x, y] _ _ _ _) (by simp [hx, hy]; omega) ?_
    refine fin hC B1_ok (f113p5 std [x, y] _ _ _ _) (by simp [hx, hy]; omega) rfl ?_
    simp [hx, hy]
    omega
theorem concat_ok (a b : List Int) (h : 0 < a.length + b.length ∧ a.length + b.length ≤ 1000000) : Pure Try.prog 113 [.list (.gen [.list (.ints .i64 a), .list (.ints .i64 b)])] (.list (.ints .i64 (a ++ b))) newF := by
  have := new_row (concat_row (.list (.ints .i64 a)) (.list (.ints .i64 b)) a b rfl rfl h) rfl rfl
  exact pure_arg (xs := []) (ys := []) this rfl
theorem same57_ok (c n f c2 n2 f2 : Int) (ds es : List Int) (h : ds.length ≤ 1000000) : Pure Try.prog 57 [.agg (.gen [.int .i64 c, .int .i64 n, .int .i64 f, .list (.ints .i64 ds)]), .agg (.gen [.int .i64 c2, .int .i64 n2, .int .i64 f2, .list (.ints .i64 es)])]
    (.bool (decide (c = c2 ∧ n = n2 ∧ f = f2 ∧ ds = es))) none :=
  start (f57e_at c n f c2 n2 f2 ds es) fun C hC => by
    by_cases h1 : c = c2
    · by_cases h2 : n = n2
      · by_cases h3 : f = f2
        · exact fin hC B1_ok (f57p0 std c n f c2 n2 f2 ds es) (by simp [h1, h2, h3, h]) (by simp [h1, h2, h3]) rfl
        · exact fin hC B1_ok (f57p1 std c n f c2 n2 f2 ds es) (by simp [h1, h2, h3]) (by simp [h3]) rfl
      · exact fin hC B1_ok (f57p2 std c n f c2 n2 f2 ds es) (by simp [h1, h2]) (by simp [h2]) rfl
    · exact fin hC B1_ok (f57p3 std c n f c2 n2 f2 ds es) (by simp [h1]) (by simp [h1]) rfl
theorem copy40_ok (c n f : Int) (ds : List Int) (h : ds.length ≤ 4294967296) : Pure Try.prog 40 [.agg (.gen [.int .i64 c, .int .i64 n, .int .i64 f, .list (.ints .i64 ds)])] (.agg (.gen [.int .i64 c, .int .i64 n, .int .i64 f, .list (.ints .i64 ds)])) none :=
  start (f40e_at c n f ds) fun C hC => fin hC B1_ok (f40p0 std c n f ds) (by simp [h]) rfl rfl
def sumE (xs : List Int) : Int := if xs.length = 0 then 10 else if 29 < xs.length then 8 else bytesE xs
def sumN (xs : List Int) : Int := 256 * (sumsS xs 1 0).getD 0 0 + (sumsS xs 1 0).getD 1 0
def sumR (xs : List Int) : Int := if sumE xs = 0 then sumN xs else 0
theorem sumsS_spec : ∀ (xs : List Int) (a b : Int), -251 < a ∧ a < 251 → -251 < b ∧ b < 251 → ∃ p q, sumsS xs a b = [p, q] ∧ (-251 < p ∧ p < 251) ∧ -251 < q ∧ q < 251
  | [], a, b, ha, hb => ⟨a, b, rfl, ha, hb⟩
  | _ :: xs, _, _, _, _ => sumsS_spec xs _ _ (tmod251 _) (tmod251 _)
theorem bytes_small {xs : List Int} (h : bytesE xs = 0) : xs.all smallB = true := by
  unfold bytesE at h
  split at h
  · rename_i hb
    rw [List.all_eq_true] at hb ⊢
    intro x hx
    have := hb x hx
    simp only [byteB, decide_eq_true_eq] at this
    simp only [smallB, decide_eq_true_eq]
    omega
  · cases h
theorem sumE_first (xs : List Int) : firstE [unlessE (decide (0 < (xs.length : Int))) 10, unlessE (decide ((xs.length : Int) ≤ 29)) 8, bytesE xs] = sumE xs := by
  unfold sumE
  by_cases h1 : xs.length = 0
  · simp [h1, firstE]
  · have h1' : 0 < xs.length := by omega
    by_cases h2 : 29 < xs.length
    · have : ¬ xs.length ≤ 29 := by omega
      have h3 : ¬ (xs.length : Int) ≤ 29 := by omega
      rw [if_neg h1, if_pos h2, decide_eq_true (show (0 : Int) < (xs.length : Int) by omega), decide_eq_false h3]
      simp [firstE]
    · rw [if_neg h1, if_neg h2, decide_eq_true (show (0 : Int) < (xs.length : Int) by omega), decide_eq_true (show (xs.length : Int) ≤ 29 by omega)]
      simp only [unlessE_t, firstE, if_true]
      split
      · rename_i h; exact h.symm
      · rfl
theorem sum60_ok (xs : List Int) (h : xs.length ≤ 1000000) : Pure Try.prog 60 [.list (.ints .i64 xs)] (.tup [.int .i64 (sumR xs), .int .i64 (sumE xs)]) none :=
  start (f60e_at xs) fun C hC => by
    have he := sumE_first xs
    by_cases h0 : sumE xs = 0
    · obtain ⟨p, q, e, hp, hq⟩ := sumsS_spec xs 1 0 (by omega) (by omega)
      have hs : xs.all smallB = true := by
        unfold sumE at h0
        split at h0
        · cases h0
        · split at h0
          · cases h0
          · exact bytes_small h0
      refine fin hC B1_ok (f60p1 std xs) ?_ ?_ rfl
      · simp only [s_lt, s_le, s_int, s_len, he, h0, e]
        simp [hs, h, AV.bx, flatLen]
        omega
      · simp [sumR, h0, sumN, e]
    · refine fin hC B1_ok (f60p0 std xs) ?_ ?_ rfl
      · simp only [s_lt, s_le, s_int, s_len, he]
        simp [h0, h, AV.bx, flatLen]
      · simp only [s_lt, s_le, s_int, s_len, he, sumR, if_neg h0]
theorem sumErr61_ok (xs : List Int) (h : xs.length ≤ 1000000) : Pure Try.prog 61 [.list (.ints .i64 xs)] (.int .i64 (sumE xs)) none :=
  start (f61e_at xs) fun C hC => by
    by_cases h1 : xs.length = 0
    · exact fin hC B1_ok (f61p0 std xs) (by simp [h1]) (by simp [sumE, h1]) rfl
    · have hne : xs ≠ [] := fun e => h1 (by rw [e]; rfl)
      by_cases h2 : 29 < xs.length
      · exact fin hC B1_ok (f61p1 std xs) (by simp [hne]; omega) (by rw [sumE, if_neg h1, if_pos h2]) rfl
      · exact fin hC B1_ok (f61p2 std xs) (by simp [h, hne]; omega) (by rw [sumE, if_neg h1, if_neg h2]) rfl
theorem sum62_ok (xs : List Int) (h : xs.all smallB = true ∧ xs.length ≤ 1000000) : Pure Try.prog 62 [.list (.ints .i64 xs)] (.int .i64 (sumN xs)) none :=
  start (f62e_at xs) fun C hC => by
    obtain ⟨p, q, e, hp, hq⟩ := sumsS_spec xs 1 0 (by omega) (by omega)
    exact fin hC B1_ok (f62p0 std xs) (by simp [h.1, h.2, e]; omega) (by simp [sumN]) rfl
def encS (c n f : Int) (ds : List Int) : List Int := ([c, n, f] ++ ds) ++ sumsS ([c, n, f] ++ ds) 1 0
theorem enc68_ok (c n f : Int) (ds : List Int) (h : ([c, n, f] ++ ds).all smallB = true ∧ ds.length ≤ 1000) : Pure Try.prog 68 [.agg (.gen [.int .i64 c, .int .i64 n, .int .i64 f, .list (.ints .i64 ds)])] (.list (.ints .i64 (encS c n f ds))) newF := by
  obtain ⟨p, q, e, hp, hq⟩ := sumsS_spec ([c, n, f] ++ ds) 1 0 (by omega) (by omega)
  have key : Pure Try.prog 68 [.agg (.gen [.int .i64 c, .int .i64 n, .int .i64 f, .list (.ints .i64 ds)])] (.row 0 0) (some ⟨3, 1, .ints .i64 (encS c n f ds)⟩) := by
   refine (start (f68e_at c n f ds) fun C hC => fin hC B1_ok (f68p0 std c n f ds) (by
    have e' : sumsS (std.app [c, n, f] ds) 1 0 = [p, q] := e
    have h' : (std.app [c, n, f] ds).all smallB = true := h.1
    simp only [e']
    simp only [h']
    simp [AV.bx, flatLen]
    omega) rfl ?_)
   have e' : sumsS (std.app [c, n, f] ds) 1 0 = [p, q] := e
   have e2 : sumsS (c :: n :: f :: ds) 1 0 = [p, q] := e
   simp only [e']
   simp [encS, e2]
  exact new_row key rfl rfl
theorem count100_ok (n : Int) : Pure Try.prog 100 [.int .i64 n] (.bool (decide (0 ≤ n ∧ n ≤ 63))) none :=
  start (f100e_at n) fun C hC => fin hC B1_ok (f100p0 std n) (by simp) rfl rfl
theorem byte93_ok (n : Int) : Pure Try.prog 93 [.int .i64 n] (.bool (byteB n)) none :=
  start (f93e_at n) fun C hC => fin hC B1_ok (f93p0 std n) (by simp) rfl rfl
def k100 : Ctr := ⟨100, 0, fun _ a => match a with | [.int .i64 n] => some (true, .bool (decide (0 ≤ n ∧ n ≤ 63)), none) | _ => none⟩
theorem k100_ok : k100.OK Try.prog := fun pa args r fr h => by
  simp only [k100] at h
  split at h
  · cases h
    exact count100_ok _
  · cases h
def k93 : Ctr := ⟨93, 0, fun _ a => match a with | [.int .i64 n] => some (true, .bool (byteB n), none) | _ => none⟩
theorem k93_ok : k93.OK Try.prog := fun pa args r fr h => by
  simp only [k93] at h
  split at h
  · cases h
    exact byte93_ok _
  · cases h
def k18 : Ctr := ⟨18, 0, fun _ a => match a with | [.agg (.gen [.int .i64 a, .int .i64 b])] => some (true, .int .i64 (rulesE a b), none) | _ => none⟩
theorem k18_ok : k18.OK Try.prog := fun pa args r fr h => by
  simp only [k18] at h
  split at h
  · cases h
    exact rules18_ok _ _
  · cases h
def k63 : Ctr := ⟨63, 0, fun _ a => match a with | [.agg (.gen [.int .i64 a, .int .i64 b])] => some (true, .int .i64 (rulesE a b), none) | _ => none⟩
theorem k63_ok : k63.OK Try.prog := fun pa args r fr h => by
  simp only [k63] at h
  split at h
  · cases h
    exact rules63_ok _ _
  · cases h
def k19 : Ctr := ⟨19, 0, fun _ a => match a with | [.agg (.gen [.int .i64 a, .int .i64 b]), .int .i64 n] => some (decide (-1000000 ≤ b ∧ b ≤ 1000000), .int .i64 (chanE b n), none) | _ => none⟩
theorem k19_ok : k19.OK Try.prog := fun pa args r fr h => by
  simp only [k19] at h
  split at h
  · simp only [Option.some.injEq, Prod.mk.injEq, decide_eq_true_eq] at h
    obtain ⟨h0, rfl, rfl⟩ := h
    exact chan19_ok _ _ _ h0
  · cases h
def k131 : Ctr := ⟨131, 0, fun _ a => match a with | [.agg (.gen [.int .i64 a, .int .i64 b]), .int .i64 n] => some (true, .int .i64 (chanW b n), none) | _ => none⟩
theorem k131_ok : k131.OK Try.prog := fun pa args r fr h => by
  simp only [k131] at h
  split at h
  · cases h
    exact chan131_ok _ _ _
  · cases h
def k94 : Ctr := ⟨94, 0, fun _ a => match a with | [.list (.ints .i64 xs)] => some (decide (xs.length ≤ 1000000), .int .i64 (bytesE xs), none) | _ => none⟩
theorem k94_ok : k94.OK Try.prog := fun pa args r fr h => by
  simp only [k94] at h
  split at h
  · simp only [Option.some.injEq, Prod.mk.injEq, decide_eq_true_eq] at h
    obtain ⟨h0, rfl, rfl⟩ := h
    exact bytes94_ok _ h0
  · cases h
def k113 : Ctr := ⟨113, 0, fun _ a => match a with | [.list (.gen [.list (.ints .i64 a), .list (.ints .i64 b)])] => some (decide (0 < a.length + b.length ∧ a.length + b.length ≤ 1000000), .list (.ints .i64 (a ++ b)), newF) | _ => none⟩
theorem k113_ok : k113.OK Try.prog := fun pa args r fr h => by
  simp only [k113] at h
  split at h
  · simp only [Option.some.injEq, Prod.mk.injEq, decide_eq_true_eq] at h
    obtain ⟨h0, rfl, rfl⟩ := h
    exact concat_ok _ _ h0
  · cases h
def k57 : Ctr := ⟨57, 0, fun _ a => match a with | [.agg (.gen [.int .i64 c, .int .i64 n, .int .i64 f, .list (.ints .i64 ds)]), .agg (.gen [.int .i64 c2, .int .i64 n2, .int .i64 f2, .list (.ints .i64 es)])] => some (decide (ds.length ≤ 1000000), .bool (decide (c = c2 ∧ n = n2 ∧ f = f2 ∧ ds = es)), none) | _ => none⟩
theorem k57_ok : k57.OK Try.prog := fun pa args r fr h => by
  simp only [k57] at h
  split at h
  · simp only [Option.some.injEq, Prod.mk.injEq, decide_eq_true_eq] at h
    obtain ⟨h0, rfl, rfl⟩ := h
    exact same57_ok _ _ _ _ _ _ _ _ h0
  · cases h
def k40 : Ctr := ⟨40, 0, fun _ a => match a with | [.agg (.gen [.int .i64 c, .int .i64 n, .int .i64 f, .list (.ints .i64 ds)])] => some (decide (ds.length ≤ 4294967296), .agg (.gen [.int .i64 c, .int .i64 n, .int .i64 f, .list (.ints .i64 ds)]), none) | _ => none⟩
theorem k40_ok : k40.OK Try.prog := fun pa args r fr h => by
  simp only [k40] at h
  split at h
  · simp only [Option.some.injEq, Prod.mk.injEq, decide_eq_true_eq] at h
    obtain ⟨h0, rfl, rfl⟩ := h
    exact copy40_ok _ _ _ _ h0
  · cases h
def k60 : Ctr := ⟨60, 0, fun _ a => match a with | [.list (.ints .i64 xs)] => some (decide (xs.length ≤ 1000000), .tup [.int .i64 (sumR xs), .int .i64 (sumE xs)], none) | _ => none⟩
theorem k60_ok : k60.OK Try.prog := fun pa args r fr h => by
  simp only [k60] at h
  split at h
  · simp only [Option.some.injEq, Prod.mk.injEq, decide_eq_true_eq] at h
    obtain ⟨h0, rfl, rfl⟩ := h
    exact sum60_ok _ h0
  · cases h
def k61 : Ctr := ⟨61, 0, fun _ a => match a with | [.list (.ints .i64 xs)] => some (decide (xs.length ≤ 1000000), .int .i64 (sumE xs), none) | _ => none⟩
theorem k61_ok : k61.OK Try.prog := fun pa args r fr h => by
  simp only [k61] at h
  split at h
  · simp only [Option.some.injEq, Prod.mk.injEq, decide_eq_true_eq] at h
    obtain ⟨h0, rfl, rfl⟩ := h
    exact sumErr61_ok _ h0
  · cases h
def k62 : Ctr := ⟨62, 0, fun _ a => match a with | [.list (.ints .i64 xs)] => some (decide (xs.all smallB = true ∧ xs.length ≤ 1000000), .int .i64 (sumN xs), none) | _ => none⟩
theorem k62_ok : k62.OK Try.prog := fun pa args r fr h => by
  simp only [k62] at h
  split at h
  · simp only [Option.some.injEq, Prod.mk.injEq, decide_eq_true_eq] at h
    obtain ⟨h0, rfl, rfl⟩ := h
    exact sum62_ok _ h0
  · cases h
def k68 : Ctr := ⟨68, 0, fun _ a => match a with | [.agg (.gen [.int .i64 c, .int .i64 n, .int .i64 f, .list (.ints .i64 ds)])] => some (decide (([c, n, f] ++ ds).all smallB = true ∧ ds.length ≤ 1000), .list (.ints .i64 (encS c n f ds)), newF) | _ => none⟩
theorem k68_ok : k68.OK Try.prog := fun pa args r fr h => by
  simp only [k68] at h
  split at h
  · simp only [Option.some.injEq, Prod.mk.injEq, decide_eq_true_eq] at h
    obtain ⟨h0, rfl, rfl⟩ := h
    exact enc68_ok _ _ _ _ h0
  · cases h
def B2 : List Ctr := [k100, k93, k18, k63, k19, k131, k94, k113, k57, k40, k60, k61, k62, k68] ++ B1
theorem B2_ok : CtrsOK Try.prog B2 := ⟨k100_ok, ⟨k93_ok, ⟨k18_ok, ⟨k63_ok, ⟨k19_ok, ⟨k131_ok, ⟨k94_ok, ⟨k113_ok, ⟨k57_ok, ⟨k40_ok, ⟨k60_ok, ⟨k61_ok, ⟨k62_ok, ⟨k68_ok, B1_ok⟩⟩⟩⟩⟩⟩⟩⟩⟩⟩⟩⟩⟩⟩
end Go.Proofs.Ytjhdnpmojhkbjaa
