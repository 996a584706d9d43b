/- Contracts as a list. No condition. -/
import Derived.Test.YtimmgjppippdiaaQc
namespace Go.Proofs.Ytimmgjppippdiaa
/-! ### Distances -/
def distB (ys : List Int) : Nat → List Int → Int
  | _, [] => 0
  | i, x :: xs => (if x = ys.getD i 0 then 0 else 1) + distB ys (i + 1) xs
section
variable {C : Ctx} (hC : C.P = Try.prog)
include hC
theorem l77 (xs ys : List Int) (hl : xs.length ≤ ys.length) (h : xs.length ≤ 1000000) (T : Int) : ∀ (d i : Nat) (m : Int), xs.length - i = d → i ≤ xs.length → 0 ≤ m → m ≤ i → m + distB ys i (xs.drop i) = T →
    Ev C (f77h77_0a xs ys m i) (f77h77_0am xs ys m i) (FinQ 77 (.int .i64 T) none) := by
  intro d
  induction d with
  | zero =>
    intro i m hd hi h0 h1 he
    rw [List.drop_of_length_le (by omega)] at he
    have he : m = T := by simpa [distB] using he
    exact fin hC F9_ok (f77p3 std xs ys m i) (by simp; omega) (by rw [he]) rfl
  | succ d ih =>
    intro i m hd hi h0 h1 he
    have hlt : i < xs.length := by omega
    have hlt2 : i < ys.length := by omega
    rw [List.drop_eq_getElem_cons hlt, distB] at he
    have hg : ys.getD i 0 = ys[i] := by simp [List.getD_eq_getElem?_getD, hlt2]
    rw [hg] at he
    by_cases hx : xs[i] = ys[i]
    · rw [if_pos hx] at he
      exact go hC F9_ok (f77p2 std xs ys m i) (by simp [hlt, hlt2, hx]; omega) (ih (i + 1) m (by omega) (by omega) h0 (by omega) (by omega))
    · rw [if_neg hx] at he
      exact go hC F9_ok (f77p1 std xs ys m i) (by simp [hlt, hlt2, hx]; omega) (ih (i + 1) (m + 1) (by omega) (by omega) (by omega) (by omega) (by omega))
theorem l132 (xs ys : List Int) (hx : xs.all bitB = true) (hy : ys.all bitB = true) (hl : xs.length ≤ ys.length) (h : xs.length ≤ 1000000) (T : Int) : ∀ (d i : Nat) (m : Int), xs.length - i = d → i ≤ xs.length → 0 ≤ m → m ≤ i → m + distB ys i (xs.drop i) = T →
    Ev C (f132h132_0a xs ys xs.length m i) (f132h132_0am xs ys xs.length m i) (FinQ 132 (.int .i64 T) none) := by
  intro d
  induction d with
  | zero =>
    intro i m hd hi h0 h1 he
    rw [List.drop_of_length_le (by omega)] at he
    have he : m = T := by simpa [distB] using he
    exact fin hC F9_ok (f132p2 std xs ys xs.length m i) (by simp; omega) (by rw [he]) rfl
  | succ d ih =>
    intro i m hd hi h0 h1 he
    have hlt : i < xs.length := by omega
    have hlt2 : i < ys.length := by omega
    rw [List.drop_eq_getElem_cons hlt, distB] at he
    have b1 := bit_get hx i
    have b2 := bit_get hy i
    have hg1 : xs.getD i 0 = xs[i] := by simp [List.getD_eq_getElem?_getD, hlt]
    have e : std.bits .xor .i64 (xs.getD i 0) (ys.getD i 0) = if xs[i] = ys.getD i 0 then 0 else 1 := by
      rw [xor_bits b1 b2, ← hg1]
      split <;> omega
    have next := ih (i + 1) (m + std.bits .xor .i64 (xs.getD i 0) (ys.getD i 0)) (by omega) (by omega) (by rw [e]; split <;> omega) (by rw [e]; split <;> omega) (by rw [e]; omega)
    refine go hC F9_ok (f132p1 std xs ys xs.length m i) ?_ next
    simp only [s_nth, s_nat, Int.toNat_natCast, s_add, e]
    simp [hlt, hlt2]
    split <;> omega
end
theorem dist77_ok (xs ys : List Int) (hl : xs.length ≤ ys.length) (h : xs.length ≤ 1000000) : Pure Try.prog 77 [.list (.ints .i64 xs), .list (.ints .i64 ys)] (.int .i64 (distB ys 0 xs)) none :=
  start (f77e_at xs ys) fun C hC => go hC F9_ok (f77p0 std xs ys) (by simp) (l77 hC xs ys hl h _ xs.length 0 0 (by omega) (by omega) (by omega) (by omega) (by simp))
theorem dist132_ok (xs ys : List Int) (hx : xs.all bitB = true) (hy : ys.all bitB = true) (hl : xs.length ≤ ys.length) (h : xs.length ≤ 1000000) : Pure Try.prog 132 [.list (.ints .i64 xs), .list (.ints .i64 ys)] (.int .i64 (distB ys 0 xs)) none :=
  start (f132e_at xs ys) fun C hC => go hC F9_ok (f132p0 std xs ys) (by simp) (l132 hC xs ys hx hy hl h _ xs.length 0 0 (by omega) (by omega) (by omega) (by omega) (by simp))
theorem search_ok (n : Int) (cs : List AV) : Pure Try.prog 130 [.agg (.gen [.int .i64 n, .list (.big (.ints .i64) cs)])] (.int .i64 (unlessE (decide (n ≤ 14)) 8)) none :=
  start (f130e_at n cs) fun C hC => fin hC F9_ok (f130p0 std n cs) (by simp) rfl rfl
/-! ### Rounds until all checks are satisfied -/
theorem flipS_len (w : List Int) (css : List (List Int)) : (flipS w css).length = w.length := by simp [flipS, vN]
theorem flipS_bits {w : List Int} (hw : w.all bitB = true) (css : List (List Int)) : (flipS w css).all bitB = true := by
  rw [List.all_eq_true]
  intro x hx
  simp only [flipS, vN, List.mem_map, List.mem_range] at hx
  obtain ⟨b, hb, rfl⟩ := hx
  have := bit_get hw b
  unfold flipG bitB
  split <;> simp only [decide_eq_true_eq] <;> omega
theorem parE_flip {n : Int} {cs : List AV} {w : List Int} (h : parE n (iss cs) w = 0) (hf : cs.all few1 = true) : parE n (iss cs) (flipS w (iss cs)) = 0 := by
  obtain ⟨h1, h2, _⟩ := parE_ok h hf
  have hb := flipS_bits h2 (iss cs)
  unfold parE at h ⊢
  rw [flipS_len]
  split at h
  · rename_i h3; exact absurd h h3
  · rename_i h3
    rw [if_neg h3]
    split at h
    · cases h
    · rename_i h4
      rw [if_neg h4, bitE, if_pos hb]
def decP (css : List (List Int)) : Nat → Int → List Int → List Int × Int × Bool
  | 0, _, _ => ([], 0, false)
  | f + 1, k, now => if (unsS now 0 css).length = 0 then (now, k, true) else decP css f (k + 1) (flipS now css)
def decA (r : List Int × Int × Bool) : AV := if r.2.2 = true then .tup [.list (.ints .i64 r.1), .int .i64 r.2.1, .bool true] else .tup [.nils, .int .i64 0, .bool false]
theorem decP_false (css : List (List Int)) : ∀ (f : Nat) (k : Int) (now : List Int), (decP css f k now).2.2 = false → decP css f k now = ([], 0, false)
  | 0, _, _, _ => rfl
  | f + 1, k, now, h => by
    simp only [decP] at h ⊢
    split at h
    · cases h
    · rename_i h0; rw [if_neg h0]; exact decP_false css f _ _ h
theorem l72 {C : Ctx} (hC : C.P = Try.prog) (n : Int) (cs : List AV) (hf : cs.all few1 = true) (r : Nat) (hr : r ≤ 1000) (T : List Int × Int × Bool) : ∀ (f k : Nat) (now : List Int), k + f = r + 1 → parE n (iss cs) now = 0 → decP (iss cs) f k now = T →
    Ev C (f72h72_0a n cs r now k) (f72h72_0am n cs r now k) (FinQ 72 (decA T) none) := by
  intro f
  induction f with
  | zero =>
    intro k now hk hp he
    subst he
    exact fin hC F9_ok (f72p3 std n cs r now k) (by simp; omega) rfl rfl
  | succ f ih =>
    intro k now hk hp he
    rw [decP] at he
    by_cases h0 : (unsS now 0 (iss cs)).length = 0
    · rw [if_pos h0] at he
      subst he
      exact fin hC F9_ok (f72p1 std n cs r now k) (by rw [hp, hf]; simp [h0]; omega) rfl rfl
    · rw [if_neg h0] at he
      have h0' : unsS now 0 (iss cs) ≠ [] := fun e => h0 (by rw [e]; rfl)
      exact go hC F9_ok (f72p2 std n cs r now k) (by rw [hp, hf]; simp [h0']; omega) (ih (k + 1) _ (by omega) (parE_flip hp hf) he)
theorem dec72_ok (n : Int) (cs : List AV) (w : List Int) (r : Int) (hr : 0 ≤ r ∧ r ≤ 1000) (hf : cs.all few1 = true) (hp : parE n (iss cs) w = 0) : Pure Try.prog 72 [.agg (.gen [.int .i64 n, .list (.big (.ints .i64) cs)]), .list (.ints .i64 w), .int .i64 r]
    (.tup [.list (.ints .i64 (decP (iss cs) (r.toNat + 1) 0 w).1), .int .i64 (decP (iss cs) (r.toNat + 1) 0 w).2.1, .bool (decP (iss cs) (r.toNat + 1) 0 w).2.2]) none := by
  obtain ⟨R, rfl⟩ := Int.eq_ofNat_of_zero_le hr.1
  obtain ⟨h1, h2, h3, h4, _⟩ := parE_ok hp hf
  have main : Pure Try.prog 72 [.agg (.gen [.int .i64 n, .list (.big (.ints .i64) cs)]), .list (.ints .i64 w), .int .i64 (R : Int)] (decA (decP (iss cs) (R + 1) 0 w)) none :=
    start (f72e_at n cs w R) fun C hC => go hC F9_ok (f72p0 std n cs w R) (by simp; omega) (l72 hC n cs hf R (by omega) _ (R + 1) 0 w (by omega) hp rfl)
  rw [show ((R : Int)).toNat = R from rfl]
  cases hb : (decP (iss cs) (R + 1) 0 w).2.2 with
  | true =>
    unfold decA at main
    rw [if_pos hb] at main
    exact main
  | false =>
    have e := decP_false _ _ _ _ hb
    rw [e] at main ⊢
    exact wk_tup main ⟨.nil _ rfl, .same _, .same _, trivial⟩
/-! ### The program's rounds -/
inductive FrzN (r : Row) : AV → AV → Prop
  | row : FrzN r (.row 0 0) (.list r)
  | same (v : AV) (hp : v.pure = true) : FrzN r v v
def FrzNL (r : Row) : List AV → List AV → Prop
  | [], [] => True
  | x :: xs, y :: ys => FrzN r x y ∧ FrzNL r xs ys
  | _, _ => False
theorem FrzNL.spec {r : Row} : ∀ {xs ys : List AV}, FrzNL r xs ys → xs.length = ys.length ∧ ∀ (j : Nat) (y : AV), ys[j]? = some y → ∃ x, xs[j]? = some x ∧ FrzN r x y
  | [], [], _ => ⟨rfl, fun j y h => by simp at h⟩
  | x :: xs, y :: ys, h => by
    obtain ⟨h1, h2⟩ := h
    obtain ⟨e1, e2⟩ := FrzNL.spec h2
    refine ⟨by simp [e1], fun j z hz => ?_⟩
    cases j with
    | zero => simp at hz; subst hz; exact ⟨x, rfl, h1⟩
    | succ j => obtain ⟨q, q1, q2⟩ := e2 j z (by simpa using hz); exact ⟨q, by simpa using q1, q2⟩
theorem frz_tup {f : FuncId} {args xs ys : List AV} {e sz : Nat} {r : Row} (h : Pure Try.prog f args (.tup xs) (some ⟨e, sz + 1, r⟩)) (hp : r.pure = true) (hs : FrzNL r xs ys) : Pure Try.prog f args (.tup ys) none := by
  intro w okA L vs hargs hok
  refine (h w okA L vs hargs hok).mono ?_
  rintro e' w' ⟨x, L', rfl, hb, hpo⟩
  obtain ⟨H, hr⟩ : HRel ⟨Try.prog, w, okA, []⟩ (frHeap (some ⟨e, sz + 1, r⟩)) L' w' ∧ RelC ⟨Try.prog, w, okA, []⟩ (frHeap (some ⟨e, sz + 1, r⟩)) L' w' (.tup xs) x := hpo
  refine ⟨x, L', rfl, hb, ?_⟩
  show HRel _ (frHeap none) L' w' ∧ RelC _ (frHeap none) L' w' (.tup ys) x
  refine ⟨H.nil, ?_⟩
  have hbk : blk (frHeap (some ⟨e, sz + 1, r⟩)) 0 0 = .row e (sz + 1) r := rfl
  obtain ⟨ht, h0, h1, h2, h3, cur, h4, h5, h6, h7, h8⟩ := H.rowAt hbk
  have hl := H.live 0 0 (by rw [ht]; simp)
  have hpa := pureL_flatAll hp
  obtain ⟨e1, e2⟩ := hs.spec
  cases hr with
  | tup _ vs hlen hrr =>
    refine .tup _ vs (by rw [← e1]; exact hlen) (fun j u v hu hv => ?_)
    obtain ⟨q, q1, q2⟩ := e2 j u hu
    have hqv := hrr j q v q1 hv
    cases q2 with
    | same _ hpu => exact (hqv.okmono (fun g _ ho => okOf_nil ho)).pure hpu
    | row =>
      cases hqv with
      | row _ _ g o n c hn hlv =>
        obtain ⟨rfl, rfl, rfl, rfl⟩ := hlv.2 _ ht
        exact .list r _ rfl ⟨L'.loc 0 0, 0, none⟩ _ _ (sz + 1) _ hl.2 (.inr ⟨hl.1, fun a i ht => absurd rfl ht⟩) rfl hn h3 h6.1.symm h7 (fun j v hj => h8 j v hj) hpa
          (fun j u v hu hv => ((h6.2 j u v hu hv).okmono (fun g _ ho => okOf_nil ho)).pure (AV.pureL_mem hpa hu))
def decB (r : List Int × Int × Bool) : AV := if r.2.2 = true then .tup [.list (.ints .i64 r.1), .int .i64 r.2.1, .int .i64 0] else .tup [.nils, .int .i64 0, .int .i64 27]
theorem l67 {C : Ctx} (hC : C.P = Try.prog) (n : Int) (cs : List AV) (hf : cs.all few1 = true) (r : Nat) (hr : r ≤ 1000) (T : List Int × Int × Bool) : ∀ (f k : Nat) (now : List Int), k + f = r + 1 → parE n (iss cs) now = 0 → decP (iss cs) f k now = T →
    Ev C (f67h67_0b n cs (r + 1 : Nat) now k) (f67h67_0bm n cs (r + 1 : Nat) now k) (FinQ 67 (decB T) none) := by
  intro f
  induction f with
  | zero =>
    intro k now hk hp he
    subst he
    exact fin hC F9_ok (f67p7 std n cs (r + 1 : Nat) now k) (by simp; omega) rfl rfl
  | succ f ih =>
    intro k now hk hp he
    rw [decP] at he
    by_cases h0 : (unsS now 0 (iss cs)).length = 0
    · rw [if_pos h0] at he
      subst he
      exact fin hC F9_ok (f67p5 std n cs (r + 1 : Nat) now k) (by rw [hp, hf]; simp [h0]; omega) rfl rfl
    · rw [if_neg h0] at he
      have h0' : unsS now 0 (iss cs) ≠ [] := fun e => h0 (by rw [e]; rfl)
      exact go hC F9_ok (f67p6 std n cs (r + 1 : Nat) now k) (by rw [hp, hf]; simp [h0']; omega) (ih (k + 1) _ (by omega) (parE_flip hp hf) he)
/-- what DecodeParity hands back -/
def dp67 (n : Int) (css : List (List Int)) (w : List Int) (r : Int) : List Int × Int × Int :=
  if parE n css w ≠ 0 then ([], 0, parE n css w) else if ¬ (0 ≤ r ∧ r ≤ 30) then ([], 0, 2) else if (decP css (r.toNat + 1) 0 w).2.2 = true then ((decP css (r.toNat + 1) 0 w).1, (decP css (r.toNat + 1) 0 w).2.1, 0) else ([], 0, 27)
theorem dec67_ok (n : Int) (cs : List AV) (w : List Int) (r : Int) (hc : cs.length ≤ 1000000) (hf : cs.all few1 = true) (hw : w.length ≤ 1000000) : Pure Try.prog 67 [.agg (.gen [.int .i64 n, .list (.big (.ints .i64) cs)]), .list (.ints .i64 w), .int .i64 r]
    (.tup [.list (.ints .i64 (dp67 n (iss cs) w r).1), .int .i64 (dp67 n (iss cs) w r).2.1, .int .i64 (dp67 n (iss cs) w r).2.2]) none := by
  by_cases hp : parE n (iss cs) w = 0
  · by_cases hr : 0 ≤ r ∧ r ≤ 30
    · obtain ⟨h1, h2, h3, h4, _⟩ := parE_ok hp hf
      obtain ⟨R, rfl⟩ := Int.eq_ofNat_of_zero_le hr.1
      have hfirst : firstE [parE n (iss cs) w, unlessE (decide (0 ≤ (R : Int) ∧ (R : Int) ≤ 30)) 2] = 0 := by rw [hp]; simp [firstE, unlessE]; omega
      have hside : AllT [true, true, true, true, true] := by simp
      by_cases h0 : (unsS w 0 (iss cs)).length = 0
      · have hd : decP (iss cs) (R + 1) 0 w = (w, 0, true) := by rw [decP, if_pos h0]
        have e : dp67 n (iss cs) w (R : Int) = (w, 0, 0) := by
          unfold dp67
          rw [if_neg (by simpa using hp), if_neg (by simpa using hr), show ((R : Int)).toNat = R from rfl, hd]; rfl
        rw [e]
        refine frz_tup (e := 3) (sz := 0) (r := .ints .i64 w) (start (f67e_at n cs w R) fun C hC => go hC F9_ok (f67p1 std n cs w R) ?_ (fin hC F9_ok (f67p2 std n cs w (R + 1 : Nat)) ?_ rfl rfl)) rfl ⟨.row, .same _ rfl, .same _ rfl, trivial⟩
        · rw [hfirst, hf]; simp [hc, hw, AV.bx, flatLen]; omega
        · rw [hp, hf]; simp [h0]
      · have h0' : unsS w 0 (iss cs) ≠ [] := fun e => h0 (by rw [e]; rfl)
        have main : Pure Try.prog 67 [.agg (.gen [.int .i64 n, .list (.big (.ints .i64) cs)]), .list (.ints .i64 w), .int .i64 (R : Int)] (decB (decP (iss cs) (R + 1) 0 w)) none :=
          start (f67e_at n cs w R) fun C hC => go hC F9_ok (f67p1 std n cs w R) (by rw [hfirst, hf]; simp [hc, hw, AV.bx, flatLen]; omega)
            (go hC F9_ok (f67p3 std n cs w (R + 1 : Nat)) (by rw [hp, hf]; simp [h0']) (l67 hC n cs hf R (by omega) _ R 1 _ (by omega) (parE_flip hp hf) (by rw [decP, if_neg h0]; rfl)))
        unfold dp67
        rw [if_neg (by simpa using hp), if_neg (by simpa using hr), show ((R : Int)).toNat = R from rfl]
        cases hb : (decP (iss cs) (R + 1) 0 w).2.2 with
        | true =>
          unfold decB at main
          rw [if_pos hb] at main
          exact main
        | false =>
          have e := decP_false _ _ _ _ hb
          rw [e] at main
          exact wk_tup main ⟨.nil _ rfl, .same _, .same _, trivial⟩
    · have hfirst : firstE [parE n (iss cs) w, unlessE (decide (0 ≤ r ∧ r ≤ 30)) 2] = 2 := by rw [hp]; simp [firstE, unlessE, hr]
      have e : dp67 n (iss cs) w r = ([], 0, 2) := by unfold dp67; rw [if_neg (by simpa using hp), if_pos hr]
      rw [e]
      exact wk_tup (xs := [.nils, .int .i64 0, .int .i64 2]) (start (f67e_at n cs w r) fun C hC => fin hC F9_ok (f67p0 std n cs w r) (by rw [hfirst, hf]; simp [hc, hw, AV.bx, flatLen]) (by rw [hfirst]) rfl) ⟨.nil _ rfl, .same _, .same _, trivial⟩
  · have hfirst : firstE [parE n (iss cs) w, unlessE (decide (0 ≤ r ∧ r ≤ 30)) 2] = parE n (iss cs) w := by simp [firstE, hp]
    have e : dp67 n (iss cs) w r = ([], 0, parE n (iss cs) w) := by unfold dp67; rw [if_pos hp]
    rw [e]
    exact wk_tup (xs := [.nils, .int .i64 0, .int .i64 (parE n (iss cs) w)]) (start (f67e_at n cs w r) fun C hC => fin hC F9_ok (f67p0 std n cs w r) (by rw [hfirst, hf]; simp [hc, hw, AV.bx, flatLen, hp]) (by rw [hfirst]) rfl) ⟨.nil _ rfl, .same _, .same _, trivial⟩
def k67 : Ctr := ⟨67, 0, fun _ a => match a with | [.agg (.gen [.int .i64 n, .list (.big (.ints .i64) cs)]), .list (.ints .i64 w), .int .i64 r] => some (decide (cs.length ≤ 1000000 ∧ cs.all few1 = true ∧ w.length ≤ 1000000), .tup [.list (.ints .i64 (dp67 n (iss cs) w r).1), .int .i64 (dp67 n (iss cs) w r).2.1, .int .i64 (dp67 n (iss cs) w r).2.2], none) | _ => none⟩
theorem k67_ok : k67.OK Try.prog := fun pa args r fr h => by
  simp only [k67] at h
  split at h
  · simp only [Option.some.injEq, Prod.mk.injEq, decide_eq_true_eq] at h
    obtain ⟨h0, rfl, rfl⟩ := h
    exact dec67_ok _ _ _ _ h0.1 h0.2.1 h0.2.2
  · cases h
def k77 : Ctr := ⟨77, 0, fun _ a => match a with | [.list (.ints .i64 xs), .list (.ints .i64 ys)] => some (decide (xs.length ≤ ys.length ∧ xs.length ≤ 1000000), .int .i64 (distB ys 0 xs), none) | _ => none⟩
theorem k77_ok : k77.OK Try.prog := fun pa args r fr h => by
  simp only [k77] at h
  split at h
  · simp only [Option.some.injEq, Prod.mk.injEq, decide_eq_true_eq] at h
    obtain ⟨h0, rfl, rfl⟩ := h
    exact dist77_ok _ _ h0.1 h0.2
  · cases h
def k132 : Ctr := ⟨132, 0, fun _ a => match a with | [.list (.ints .i64 xs), .list (.ints .i64 ys)] => some (decide (xs.all bitB = true ∧ ys.all bitB = true ∧ xs.length ≤ ys.length ∧ xs.length ≤ 1000000), .int .i64 (distB ys 0 xs), none) | _ => none⟩
theorem k132_ok : k132.OK Try.prog := fun pa args r fr h => by
  simp only [k132] at h
  split at h
  · simp only [Option.some.injEq, Prod.mk.injEq, decide_eq_true_eq] at h
    obtain ⟨h0, rfl, rfl⟩ := h
    exact dist132_ok _ _ h0.1 h0.2.1 h0.2.2.1 h0.2.2.2
  · cases h
def k130 : Ctr := ⟨130, 0, fun _ a => match a with | [.agg (.gen [.int .i64 n, .list (.big (.ints .i64) cs)])] => some (true, .int .i64 (unlessE (decide (n ≤ 14)) 8), none) | _ => none⟩
theorem k130_ok : k130.OK Try.prog := fun pa args r fr h => by
  simp only [k130] at h
  split at h
  · cases h
    exact search_ok _ _
  · cases h
def k72 : Ctr := ⟨72, 0, fun _ a => match a with | [.agg (.gen [.int .i64 n, .list (.big (.ints .i64) cs)]), .list (.ints .i64 w), .int .i64 r] => some (decide ((0 ≤ r ∧ r ≤ 1000) ∧ cs.all few1 = true ∧ parE n (iss cs) w = 0), .tup [.list (.ints .i64 (decP (iss cs) (r.toNat + 1) 0 w).1), .int .i64 (decP (iss cs) (r.toNat + 1) 0 w).2.1, .bool (decP (iss cs) (r.toNat + 1) 0 w).2.2], none) | _ => none⟩
theorem k72_ok : k72.OK Try.prog := fun pa args r fr h => by
  simp only [k72] at h
  split at h
  · simp only [Option.some.injEq, Prod.mk.injEq, decide_eq_true_eq] at h
    obtain ⟨h0, rfl, rfl⟩ := h
    exact dec72_ok _ _ _ _ h0.1 h0.2.1 h0.2.2
  · cases h
def G1 : List Ctr := [k67, k77, k132, k130, k72] ++ F9
theorem G1_ok : CtrsOK Try.prog G1 := ⟨k67_ok, ⟨k77_ok, ⟨k132_ok, ⟨k130_ok, ⟨k72_ok, F9_ok⟩⟩⟩⟩⟩
end Go.Proofs.Ytimmgjppippdiaa
