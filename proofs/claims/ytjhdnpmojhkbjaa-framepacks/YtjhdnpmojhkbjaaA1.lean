/- Contracts as a list. No condition. -/
import Derived.Test.YtjhdnpmojhkbjaaP1
namespace Go.Proofs.Ytjhdnpmojhkbjaa
@[simp] theorem s_lenA (l : List AV) : std.lenA l = l.length := rfl
@[simp] theorem s_nthA (l : List AV) (j : Nat) : std.nthA l j = l.getD j .top := rfl
@[simp] theorem s_appA (a b : List AV) : std.appA a b = a ++ b := rfl
@[simp] theorem s_setA (l : List AV) (j : Nat) (x : AV) : std.setA l j x = l.set j x := rfl
@[simp] theorem s_subA (l : List AV) (k n : Nat) : std.subA l k n = (l.drop k).take n := rfl
theorem ints_loop {C : Ctx} (hC : C.P = Try.prog) (xs ys : List Int) (hl : xs.length = ys.length) (hlen : xs.length ≤ 1000000) : ∀ (d i : Nat), xs.length - i = d → i ≤ xs.length → xs.take i = ys.take i →
    Ev C (f67h67_0a xs ys i) (f67h67_0am xs ys i) (FinQ 67 (.bool (decide (xs = ys))) none) := by
  intro d
  induction d with
  | zero =>
    intro i hd hi ht
    have hi : i = xs.length := by omega
    have he : xs = ys := by rw [hi] at ht; rw [List.take_length, hl, List.take_length] at ht; exact ht
    exact fin hC E0_ok (f67p4 std xs ys i) (by simp; omega) (by simp [he]) rfl
  | succ d ih =>
    intro i hd hi ht
    have hlt : i < xs.length := by omega
    by_cases hx : xs[i]? = ys[i]?
    · refine go hC E0_ok (f67p3 std xs ys i) (by simp [hx]; omega) ?_
      exact ih (i + 1) (by omega) (by omega) (by
        have h3 : xs[i]'hlt = ys[i]'(by omega) := by
          rw [List.getElem?_eq_getElem hlt, List.getElem?_eq_getElem (show i < ys.length by omega)] at hx
          exact Option.some.inj hx
        rw [List.take_succ_eq_append_getElem hlt, List.take_succ_eq_append_getElem (show i < ys.length by omega), ht, h3])
    · have h3 : xs[i]'hlt ≠ ys[i]'(by omega) := by
        rw [List.getElem?_eq_getElem hlt, List.getElem?_eq_getElem (show i < ys.length by omega)] at hx
        exact fun e => hx (by rw [e])
      exact fin hC E0_ok (f67p2 std xs ys i) (by simp [hlt, show i < ys.length by omega, h3]) (by
        have : xs ≠ ys := fun e => hx (by rw [e])
        simp [this]) rfl
theorem ints_ok (xs ys : List Int) (hlen : xs.length ≤ 1000000) : Pure Try.prog 67 [.list (.ints .i64 xs), .list (.ints .i64 ys)] (.bool (decide (xs = ys))) none :=
  start (f67e_at xs ys) fun C hC => by
    by_cases hl : xs.length = ys.length
    · exact go hC E0_ok (f67p1 std xs ys) (by simp; omega) (ints_loop hC xs ys hl hlen xs.length 0 (by omega) (by omega) rfl)
    · refine fin hC E0_ok (f67p0 std xs ys) (by simp; omega) ?_ rfl
      have : xs ≠ ys := fun e => hl (by rw [e])
      simp [this]
theorem copy_row (xs : List Int) (hx : xs.length ≤ 4294967296) : Pure Try.prog 55 [.list (.ints .i64 xs)] (.row 0 0) (some ⟨3, 1, .ints .i64 xs⟩) :=
  start (f55e_at xs) fun C hC => fin hC E0_ok (f55p0 std xs) (by simp; omega) rfl rfl
theorem copy_new (xs : List Int) (hx : xs.length ≤ 4294967296) : Pure Try.prog 55 [.list (.ints .i64 xs)] (.list (.ints .i64 xs)) newF := new_row (copy_row xs hx) rfl rfl
def firstE : List Int → Int
  | [] => 0
  | x :: xs => if x = 0 then firstE xs else x
theorem first_loop {C : Ctx} (hC : C.P = Try.prog) (xs : List Int) (hlen : xs.length ≤ 1000000) : ∀ (d i : Nat), xs.length - i = d → i ≤ xs.length →
    Ev C (f84h84_0a xs xs.length i) (f84h84_0am xs xs.length i) (FinQ 84 (.int .i64 (firstE (xs.drop i))) none) := by
  intro d
  induction d with
  | zero =>
    intro i hd hi
    exact fin hC E0_ok (f84p3 std xs xs.length i) (by simp; omega) (by rw [List.drop_of_length_le (by omega)]; rfl) rfl
  | succ d ih =>
    intro i hd hi
    have hlt : i < xs.length := by omega
    by_cases hx : xs[i]'hlt = 0
    · refine go hC E0_ok (f84p2 std xs xs.length i) (by simp [hlt, hx]; omega) ?_
      have := ih (i + 1) (by omega) (by omega)
      rw [List.drop_eq_getElem_cons hlt, firstE, if_pos hx]
      exact this
    · exact fin hC E0_ok (f84p1 std xs xs.length i) (by simp [hlt, hx]) (by rw [List.drop_eq_getElem_cons hlt, firstE, if_neg hx]; simp [hlt]) rfl
theorem first_ok (xs : List Int) (hlen : xs.length ≤ 1000000) : Pure Try.prog 84 [.list (.ints .i64 xs)] (.int .i64 (firstE xs)) none :=
  start (f84e_at xs) fun C hC => go hC E0_ok (f84p0 std xs) (by simp) (first_loop hC xs hlen xs.length 0 (by omega) (by omega))
theorem within27_ok (n a b : Int) : Pure Try.prog 27 [.int .i64 n, .int .i64 a, .int .i64 b] (.bool (decide (a ≤ n ∧ n ≤ b))) none :=
  start (f27e_at n a b) fun C hC => by
    by_cases h1 : a ≤ n
    · exact fin hC E0_ok (f27p0 std n a b) (by simp [h1]) (by simp [h1]) rfl
    · exact fin hC E0_ok (f27p1 std n a b) (by simp; omega) (by simp [h1]) rfl
theorem within87_ok (n a b : Int) : Pure Try.prog 87 [.int .i64 n, .int .i64 a, .int .i64 b] (.bool (decide (a ≤ n ∧ n ≤ b))) none :=
  start (f87e_at n a b) fun C hC => by
    by_cases h1 : a ≤ n
    · exact fin hC E0_ok (f87p0 std n a b) (by simp [h1]) (by simp [h1]) rfl
    · exact fin hC E0_ok (f87p1 std n a b) (by simp; omega) (by simp [h1]) rfl
def unlessE (b : Bool) (e : Int) : Int := if b = true then 0 else e
@[simp] theorem unlessE_t (e : Int) : unlessE true e = 0 := rfl
@[simp] theorem unlessE_f (e : Int) : unlessE false e = e := rfl
theorem unless_ok (b : Bool) (e : Int) : Pure Try.prog 86 [.bool b, .int .i64 e] (.int .i64 (unlessE b e)) none :=
  start (f86e_at b e) fun C hC => by
    cases b with
    | true => exact fin hC E0_ok (f86p0 std true e) (by simp) rfl rfl
    | false => exact fin hC E0_ok (f86p1 std false e) (by simp) rfl rfl
def byteB (x : Int) : Bool := decide (0 ≤ x ∧ x ≤ 255)
def bytesE (xs : List Int) : Int := if xs.all byteB = true then 0 else 2
theorem bytesE_nil : bytesE [] = 0 := rfl
theorem bytesE_cons {x : Int} {xs : List Int} (h : 0 ≤ x ∧ x ≤ 255) : bytesE (x :: xs) = bytesE xs := by simp [bytesE, byteB, h]
theorem bytesE_bad {x : Int} {xs : List Int} (h : ¬ (0 ≤ x ∧ x ≤ 255)) : bytesE (x :: xs) = 2 := by simp [bytesE, byteB, h]
theorem l69 {C : Ctx} (hC : C.P = Try.prog) (xs : List Int) (hlen : xs.length ≤ 1000000) : ∀ (d i : Nat), xs.length - i = d → i ≤ xs.length →
    Ev C (f69h69_0a xs i) (f69h69_0am xs i) (FinQ 69 (.int .i64 (bytesE (xs.drop i))) none) := by
  intro d
  induction d with
  | zero =>
    intro i hd hi
    exact fin hC E0_ok (f69p4 std xs i) (by simp; omega) (by rw [List.drop_of_length_le (by omega)]; rfl) rfl
  | succ d ih =>
    intro i hd hi
    have hlt : i < xs.length := by omega
    rw [List.drop_eq_getElem_cons hlt]
    by_cases h1 : 0 ≤ xs[i]
    · by_cases h2 : xs[i] ≤ 255
      · rw [bytesE_cons ⟨h1, h2⟩]
        exact go hC E0_ok (f69p2 std xs i) (by simp [hlt, h1, h2]; omega) (ih (i + 1) (by omega) (by omega))
      · rw [bytesE_bad (fun h => h2 h.2)]
        exact fin hC E0_ok (f69p1 std xs i) (by simp [hlt, h1]; omega) rfl rfl
    · rw [bytesE_bad (fun h => h1 h.1)]
      exact fin hC E0_ok (f69p3 std xs i) (by simp [hlt]; omega) rfl rfl
theorem bytes69_ok (xs : List Int) (hlen : xs.length ≤ 1000000) : Pure Try.prog 69 [.list (.ints .i64 xs)] (.int .i64 (bytesE xs)) none :=
  start (f69e_at xs) fun C hC => go hC E0_ok (f69p0 std xs) (by simp) (l69 hC xs hlen xs.length 0 (by omega) (by omega))
theorem l127 {C : Ctx} (hC : C.P = Try.prog) (xs : List Int) (hlen : xs.length ≤ 1000000) : ∀ (d i : Nat), xs.length - i = d → i ≤ xs.length →
    Ev C (f127h127_0a xs xs.length i) (f127h127_0am xs xs.length i) (FinQ 127 (.int .i64 (bytesE (xs.drop i))) none) := by
  intro d
  induction d with
  | zero =>
    intro i hd hi
    exact fin hC E0_ok (f127p4 std xs xs.length i) (by simp; omega) (by rw [List.drop_of_length_le (by omega)]; rfl) rfl
  | succ d ih =>
    intro i hd hi
    have hlt : i < xs.length := by omega
    rw [List.drop_eq_getElem_cons hlt]
    by_cases h1 : 0 ≤ xs[i]
    · by_cases h2 : xs[i] ≤ 255
      · rw [bytesE_cons ⟨h1, h2⟩]
        exact go hC E0_ok (f127p1 std xs xs.length i) (by simp [hlt, h1, h2]; omega) (ih (i + 1) (by omega) (by omega))
      · rw [bytesE_bad (fun h => h2 h.2)]
        exact fin hC E0_ok (f127p2 std xs xs.length i) (by simp [hlt, h1]; omega) rfl rfl
    · rw [bytesE_bad (fun h => h1 h.1)]
      exact fin hC E0_ok (f127p3 std xs xs.length i) (by simp [hlt]; omega) rfl rfl
theorem each127_ok (xs : List Int) (hlen : xs.length ≤ 1000000) : Pure Try.prog 127 [.list (.ints .i64 xs), .fn 128 []] (.int .i64 (bytesE xs)) none :=
  start (f127e_at xs) fun C hC => go hC E0_ok (f127p0 std xs) (by simp) (l127 hC xs hlen xs.length 0 (by omega) (by omega))
/-! ### Sums of bytes -/
def sumsS : List Int → Int → Int → List Int
  | [], a, b => [a, b]
  | x :: xs, a, b => sumsS xs ((a + x).tmod 251) ((b + (a + x).tmod 251).tmod 251)
def smallB (x : Int) : Bool := decide (-1000000 ≤ x ∧ x ≤ 1000000)
theorem tmodR (a : Int) {m : Int} (h : 0 < m) : -m < a.tmod m ∧ a.tmod m < m := ⟨by have := Int.lt_tmod_of_pos a h; omega, Int.tmod_lt_of_pos a h⟩
theorem tmod251 (a : Int) : -251 < a.tmod 251 ∧ a.tmod 251 < 251 := tmodR a (by omega)
theorem l109 {C : Ctx} (hC : C.P = Try.prog) (xs : List Int) (hb : xs.all smallB = true) (hlen : xs.length ≤ 1000000) : ∀ (d i : Nat) (a b : Int), xs.length - i = d → i ≤ xs.length → -251 < a ∧ a < 251 → -251 < b ∧ b < 251 →
    Ev C (f109h109_0a xs xs.length [a, b] i) (f109h109_0am xs xs.length [a, b] i) (FinQ 109 (.agg (.ints .i64 (sumsS (xs.drop i) a b))) none) := by
  intro d
  induction d with
  | zero =>
    intro i a b hd hi ha hbb
    exact fin hC E0_ok (f109p2 std xs xs.length [a, b] i) (by simp; omega) (by rw [List.drop_of_length_le (by omega)]; rfl) rfl
  | succ d ih =>
    intro i a b hd hi ha hbb
    have hlt : i < xs.length := by omega
    have hx : smallB xs[i] = true := List.all_eq_true.1 hb _ (List.getElem_mem hlt)
    simp only [smallB, decide_eq_true_eq] at hx
    have h1 := tmod251 (a + xs[i])
    have h2 := tmod251 (b + (a + xs[i]).tmod 251)
    rw [List.drop_eq_getElem_cons hlt, sumsS]
    exact go hC E0_ok (f109p1 std xs xs.length [a, b] i) (by simp [hlt]; omega) (by simpa [hlt] using ih (i + 1) _ _ (by omega) (by omega) h1 h2)
theorem sums109_ok (xs : List Int) (hb : xs.all smallB = true ∧ xs.length ≤ 1000000) : Pure Try.prog 109 [.list (.ints .i64 xs)] (.agg (.ints .i64 (sumsS xs 1 0))) none :=
  start (f109e_at xs) fun C hC => go hC E0_ok (f109p0 std xs) (by simp) (l109 hC xs hb.1 hb.2 xs.length 0 1 0 (by omega) (by omega) (by omega) (by omega))
theorem l111 {C : Ctx} (hC : C.P = Try.prog) (xs : List Int) (hb : xs.all smallB = true) (hlen : xs.length ≤ 1000000) : ∀ (d i : Nat) (a b : Int), xs.length - i = d → i ≤ xs.length → -251 < a ∧ a < 251 → -251 < b ∧ b < 251 →
    Ev C (f111h111_0a xs [a, b] i) (f111h111_0am xs [a, b] i) (FinQ 111 (.agg (.ints .i64 (sumsS (xs.drop i) a b))) none) := by
  intro d
  induction d with
  | zero =>
    intro i a b hd hi ha hbb
    exact fin hC E0_ok (f111p2 std xs [a, b] i) (by simp; omega) (by rw [List.drop_of_length_le (by omega)]; rfl) rfl
  | succ d ih =>
    intro i a b hd hi ha hbb
    have hlt : i < xs.length := by omega
    have hx : smallB xs[i] = true := List.all_eq_true.1 hb _ (List.getElem_mem hlt)
    simp only [smallB, decide_eq_true_eq] at hx
    have h1 := tmod251 (a + xs[i])
    have h2 := tmod251 (b + (a + xs[i]).tmod 251)
    rw [List.drop_eq_getElem_cons hlt, sumsS]
    exact go hC E0_ok (f111p1 std xs [a, b] i) (by simp [hlt]; omega) (by simpa [hlt] using ih (i + 1) _ _ (by omega) (by omega) h1 h2)
theorem sums111_ok (xs : List Int) (hb : xs.all smallB = true ∧ xs.length ≤ 1000000) : Pure Try.prog 111 [.list (.ints .i64 xs)] (.agg (.ints .i64 (sumsS xs 1 0))) none :=
  start (f111e_at xs) fun C hC => go hC E0_ok (f111p0 std xs) (by simp) (l111 hC xs hb.1 hb.2 xs.length 0 1 0 (by omega) (by omega) (by omega) (by omega))
/-! ### Copies that are nil or not -/
theorem clone_val (ad : Option Addr) (cap : Nat) : Pure Try.prog 102 [.val (.slice ad 0 cap)] (.list (.ints .i64 [])) newF := by
  cases ad with
  | none => exact new_nil (start (f102we_at cap) fun C hC => fin hC E0_ok (f102wp0 std cap) (by simp) rfl rfl) rfl
  | some ad =>
    have := start (f102ve_at ad cap) fun C hC => fin hC E0_ok (f102vp0 std ad cap) (by simp) rfl rfl
    exact pure_same (new_row this rfl rfl) rfl
theorem clone_row (xs : List Int) (h : 0 < xs.length ∧ xs.length ≤ 4294967296) : Pure Try.prog 102 [.list (.ints .i64 xs)] (.row 0 0) (some ⟨3, 1, .ints .i64 xs⟩) :=
  start (f102e_at xs) fun C hC => fin hC E0_ok (f102p0 std xs) (by simp; omega) rfl rfl
theorem clone_ok (xs : List Int) (h : xs.length ≤ 4294967296) : Pure Try.prog 102 [.list (.ints .i64 xs)] (.list (.ints .i64 xs)) newF := by
  by_cases h0 : 0 < xs.length
  · exact new_row (clone_row xs ⟨h0, h⟩) rfl rfl
  · have : xs = [] := List.eq_nil_of_length_eq_zero (by omega)
    subst this
    exact pure_empty rfl (fun ad cap => clone_val ad cap)
def modI (n m : Int) : Int := if n.tmod m < 0 then n.tmod m + m else n.tmod m
theorem mod53_ok (n m : Int) (h : 1 ≤ m ∧ m ≤ 1000000000000) : Pure Try.prog 53 [.int .i64 n, .int .i64 m] (.int .i64 (modI n m)) none :=
  start (f53e_at n m) fun C hC => by
    have hm : m ≠ 0 := by omega
    have hlt := Int.tmod_lt_of_pos n (show 0 < m by omega)
    by_cases h1 : n.tmod m < 0
    · have h2 : -m < n.tmod m := by exact (tmodR n (show 0 < m by omega)).1
      exact fin hC E0_ok (f53p0 std n m) (by simp [hm, h1]; omega) (by simp [modI, h1]) rfl
    · exact fin hC E0_ok (f53p1 std n m) (by simp [hm]; omega) (by simp [modI, h1]) rfl
def sizeI (n : Int) : Int := max n (-n)
theorem size70_ok (n : Int) (h : smallB n = true) : Pure Try.prog 70 [.int .i64 n] (.int .i64 (sizeI n)) none :=
  start (f70e_at n) fun C hC => fin hC E0_ok (f70p0 std n) (by simp [smallB] at h ⊢; omega) rfl rfl
def k27 : Ctr := ⟨27, 0, fun _ a => match a with | [.int .i64 n, .int .i64 a, .int .i64 b] => some (true, .bool (decide (a ≤ n ∧ n ≤ b)), none) | _ => none⟩
theorem k27_ok : k27.OK Try.prog := fun pa args r fr h => by
  simp only [k27] at h
  split at h
  · cases h
    exact within27_ok _ _ _
  · cases h
def k87 : Ctr := ⟨87, 0, fun _ a => match a with | [.int .i64 n, .int .i64 a, .int .i64 b] => some (true, .bool (decide (a ≤ n ∧ n ≤ b)), none) | _ => none⟩
theorem k87_ok : k87.OK Try.prog := fun pa args r fr h => by
  simp only [k87] at h
  split at h
  · cases h
    exact within87_ok _ _ _
  · cases h
def k86 : Ctr := ⟨86, 0, fun _ a => match a with | [.bool b, .int .i64 e] => some (true, .int .i64 (unlessE b e), none) | _ => none⟩
theorem k86_ok : k86.OK Try.prog := fun pa args r fr h => by
  simp only [k86] at h
  split at h
  · cases h
    exact unless_ok _ _
  · cases h
def k84 : Ctr := ⟨84, 0, fun _ a => match a with | [.list (.ints .i64 xs)] => some (decide (xs.length ≤ 1000000), .int .i64 (firstE xs), none) | _ => none⟩
theorem k84_ok : k84.OK Try.prog := fun pa args r fr h => by
  simp only [k84] at h
  split at h
  · simp only [Option.some.injEq, Prod.mk.injEq, decide_eq_true_eq] at h
    obtain ⟨h0, rfl, rfl⟩ := h
    exact first_ok _ h0
  · cases h
def k55 : Ctr := ⟨55, 0, fun _ a => match a with | [.list (.ints .i64 xs)] => some (decide (xs.length ≤ 4294967296), .list (.ints .i64 xs), newF) | _ => none⟩
theorem k55_ok : k55.OK Try.prog := fun pa args r fr h => by
  simp only [k55] at h
  split at h
  · simp only [Option.some.injEq, Prod.mk.injEq, decide_eq_true_eq] at h
    obtain ⟨h0, rfl, rfl⟩ := h
    exact copy_new _ h0
  · cases h
def k67 : Ctr := ⟨67, 0, fun _ a => match a with | [.list (.ints .i64 xs), .list (.ints .i64 ys)] => some (decide (xs.length ≤ 1000000), .bool (decide (xs = ys)), none) | _ => none⟩
theorem k67_ok : k67.OK Try.prog := fun pa args r fr h => by
  simp only [k67] at h
  split at h
  · simp only [Option.some.injEq, Prod.mk.injEq, decide_eq_true_eq] at h
    obtain ⟨h0, rfl, rfl⟩ := h
    exact ints_ok _ _ h0
  · cases h
def k69 : Ctr := ⟨69, 0, fun _ a => match a with | [.list (.ints .i64 xs)] => some (decide (xs.length ≤ 1000000), .int .i64 (bytesE xs), none) | _ => none⟩
theorem k69_ok : k69.OK Try.prog := fun pa args r fr h => by
  simp only [k69] at h
  split at h
  · simp only [Option.some.injEq, Prod.mk.injEq, decide_eq_true_eq] at h
    obtain ⟨h0, rfl, rfl⟩ := h
    exact bytes69_ok _ h0
  · cases h
def k127 : Ctr := ⟨127, 0, fun _ a => match a with | [.list (.ints .i64 xs), .fn 128 []] => some (decide (xs.length ≤ 1000000), .int .i64 (bytesE xs), none) | _ => none⟩
theorem k127_ok : k127.OK Try.prog := fun pa args r fr h => by
  simp only [k127] at h
  split at h
  · simp only [Option.some.injEq, Prod.mk.injEq, decide_eq_true_eq] at h
    obtain ⟨h0, rfl, rfl⟩ := h
    exact each127_ok _ h0
  · cases h
def k109 : Ctr := ⟨109, 0, fun _ a => match a with | [.list (.ints .i64 xs)] => some (decide (xs.all smallB = true ∧ xs.length ≤ 1000000), .agg (.ints .i64 (sumsS xs 1 0)), none) | _ => none⟩
theorem k109_ok : k109.OK Try.prog := fun pa args r fr h => by
  simp only [k109] at h
  split at h
  · simp only [Option.some.injEq, Prod.mk.injEq, decide_eq_true_eq] at h
    obtain ⟨h0, rfl, rfl⟩ := h
    exact sums109_ok _ h0
  · cases h
def k111 : Ctr := ⟨111, 0, fun _ a => match a with | [.list (.ints .i64 xs)] => some (decide (xs.all smallB = true ∧ xs.length ≤ 1000000), .agg (.ints .i64 (sumsS xs 1 0)), none) | _ => none⟩
theorem k111_ok : k111.OK Try.prog := fun pa args r fr h => by
  simp only [k111] at h
  split at h
  · simp only [Option.some.injEq, Prod.mk.injEq, decide_eq_true_eq] at h
    obtain ⟨h0, rfl, rfl⟩ := h
    exact sums111_ok _ h0
  · cases h
def k102 : Ctr := ⟨102, 0, fun _ a => match a with | [.list (.ints .i64 xs)] => some (decide (xs.length ≤ 4294967296), .list (.ints .i64 xs), newF) | _ => none⟩
theorem k102_ok : k102.OK Try.prog := fun pa args r fr h => by
  simp only [k102] at h
  split at h
  · simp only [Option.some.injEq, Prod.mk.injEq, decide_eq_true_eq] at h
    obtain ⟨h0, rfl, rfl⟩ := h
    exact clone_ok _ h0
  · cases h
def k53 : Ctr := ⟨53, 0, fun _ a => match a with | [.int .i64 n, .int .i64 m] => some (decide (1 ≤ m ∧ m ≤ 1000000000000), .int .i64 (modI n m), none) | _ => none⟩
theorem k53_ok : k53.OK Try.prog := fun pa args r fr h => by
  simp only [k53] at h
  split at h
  · simp only [Option.some.injEq, Prod.mk.injEq, decide_eq_true_eq] at h
    obtain ⟨h0, rfl, rfl⟩ := h
    exact mod53_ok _ _ h0
  · cases h
def k70 : Ctr := ⟨70, 0, fun _ a => match a with | [.int .i64 n] => some (decide (smallB n = true), .int .i64 (sizeI n), none) | _ => none⟩
theorem k70_ok : k70.OK Try.prog := fun pa args r fr h => by
  simp only [k70] at h
  split at h
  · simp only [Option.some.injEq, Prod.mk.injEq, decide_eq_true_eq] at h
    obtain ⟨h0, rfl, rfl⟩ := h
    exact size70_ok _ h0
  · cases h
def B1 : List Ctr := [k27, k87, k86, k84, k55, k67, k69, k127, k109, k111, k102, k53, k70]
theorem B1_ok : CtrsOK Try.prog B1 := ⟨k27_ok, ⟨k87_ok, ⟨k86_ok, ⟨k84_ok, ⟨k55_ok, ⟨k67_ok, ⟨k69_ok, ⟨k127_ok, ⟨k109_ok, ⟨k111_ok, ⟨k102_ok, ⟨k53_ok, ⟨k70_ok, trivial⟩⟩⟩⟩⟩⟩⟩⟩⟩⟩⟩⟩⟩
end Go.Proofs.Ytjhdnpmojhkbjaa
