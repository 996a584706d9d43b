/- The program's symbols and metrics, and the reference's. No condition. -/
import Derived.Test.YtimmgjppippdiaaQl
namespace Go.Proofs.Ytimmgjppippdiaa
inductive FrzM (r : Row) : AV → AV → Prop
  | row : FrzM r (.row 0 0) (.list r)
  | same (v : AV) (hp : v.pure = true) : FrzM r v v
def FrzML (r : Row) : List AV → List AV → Prop
  | [], [] => True
  | x :: xs, y :: ys => FrzM r x y ∧ FrzML r xs ys
  | _, _ => False
theorem FrzML.spec {r : Row} : ∀ {xs ys : List AV}, FrzML r xs ys → xs.length = ys.length ∧ ∀ (j : Nat) (y : AV), ys[j]? = some y → ∃ x, xs[j]? = some x ∧ FrzM r x y
  | [], [], _ => ⟨rfl, fun j y h => by simp at h⟩
  | x :: xs, y :: ys, h => by
    obtain ⟨h1, h2⟩ := h
    obtain ⟨e1, e2⟩ := FrzML.spec h2
    refine ⟨by simp [e1], fun j z hz => ?_⟩
    cases j with
    | zero => simp at hz; subst hz; exact ⟨x, rfl, h1⟩
    | succ j => obtain ⟨q, q1, q2⟩ := e2 j z (by simpa using hz); exact ⟨q, by simpa using q1, q2⟩
theorem frzm_tup {f : FuncId} {args xs ys : List AV} {e sz : Nat} {r : Row} (h : Pure Try.prog f args (.tup xs) (some ⟨e, sz + 1, r⟩)) (hp : r.pure = true) (hs : FrzML r xs ys) : Pure Try.prog f args (.tup ys) none := by
  intro w okA L vs hargs hok
  refine (h w okA L vs hargs hok).mono ?_
  rintro e' w' ⟨x, L', rfl, hb, hpo⟩
  obtain ⟨H, hr⟩ : HRel ⟨Try.prog, w, okA, []⟩ (frHeap (some ⟨e, sz + 1, r⟩)) L' w' ∧ RelC ⟨Try.prog, w, okA, []⟩ (frHeap (some ⟨e, sz + 1, r⟩)) L' w' (.tup xs) x := hpo
  refine ⟨x, L', rfl, hb, ?_⟩
  show HRel _ (frHeap none) L' w' ∧ RelC _ (frHeap none) L' w' (.tup ys) x
  refine ⟨H.nil, ?_⟩
  have hbk : blk (frHeap (some ⟨e, sz + 1, r⟩)) 0 0 = .row e (sz + 1) r := rfl
  obtain ⟨ht, h0, h1, h2, h3, cur, h4, h5, h6, h7, h8⟩ := H.rowAt hbk
  have hl := H.live 0 0 (by rw [ht]; simp)
  have hpa := pureL_flatAll hp
  obtain ⟨e1, e2⟩ := hs.spec
  cases hr with
  | tup _ vs hlen hrr =>
    refine .tup _ vs (by rw [← e1]; exact hlen) (fun j u v hu hv => ?_)
    obtain ⟨q, q1, q2⟩ := e2 j u hu
    have hqv := hrr j q v q1 hv
    cases q2 with
    | same _ hpu => exact (hqv.okmono (fun g _ ho => okOf_nil ho)).pure hpu
    | row =>
      cases hqv with
      | row _ _ g o n c hn hlv =>
        obtain ⟨rfl, rfl, rfl, rfl⟩ := hlv.2 _ ht
        exact .list r _ rfl ⟨L'.loc 0 0, 0, none⟩ _ _ (sz + 1) _ hl.2 (.inr ⟨hl.1, fun a i ht => absurd rfl ht⟩) rfl hn h3 h6.1.symm h7 (fun j v hj => h8 j v hj) hpa
          (fun j u v hu hv => ((h6.2 j u v hu hv).okmono (fun g _ ho => okOf_nil ho)).pure (AV.pureL_mem hpa hu))
/-! ### What the metric is -/
def metI (so : List Int) : Nat → List Int → Int
  | _, [] => 0
  | i, x :: l => cbtS x (so.getD i 0) + metI so (i + 1) l
theorem cbt_abs {x s : Int} (h : -7 ≤ s ∧ s ≤ 7) : -7 ≤ cbtS x s ∧ cbtS x s ≤ 7 := by unfold cbtS; split <;> omega
theorem rng_get {so : List Int} (h : rngE so (-7) 7 = 0) (j : Nat) : -7 ≤ so.getD j 0 ∧ so.getD j 0 ≤ 7 := by
  unfold rngE at h
  split at h
  · rename_i ha
    by_cases hj : j < so.length
    · have := List.all_eq_true.1 ha so[j] (List.getElem_mem hj)
      simpa [List.getD_eq_getElem?_getD, hj] using this
    · simp [List.getD_eq_getElem?_getD, hj]
  · cases h
section
variable {C : Ctx} (hC : C.P = Try.prog)
include hC
theorem l56 (so l : List Int) (hl : l.length ≤ so.length) (hn : l.length ≤ 1000) (hso : rngE so (-7) 7 = 0) (T : Int) : ∀ (d i : Nat) (n : Int), i + d = l.length → -7 * (i : Int) ≤ n → n ≤ 7 * (i : Int) → n + metI so i (l.drop i) = T →
    Ev C (f56h56_0a so l.length l n i) (f56h56_0am so l.length l n i) (FinQ 56 (.tup [.int .i64 T, .int .i64 0]) none) := by
  intro d
  induction d with
  | zero =>
    intro i n hi h1 h2 e
    rw [List.drop_of_length_le (by omega), metI] at e
    have e : n = T := by omega
    subst e
    exact fin hC H4_ok (f56p3 std so l.length l n i) (by simp; omega) rfl rfl
  | succ d ih =>
    intro i n hi h1 h2 e
    have hlt : i < l.length := by omega
    rw [List.drop_eq_getElem_cons hlt, metI] at e
    have hs := rng_get hso i
    have ha := cbt_abs (x := l[i]) hs
    have e1 : std.nth l (std.nat (i : Int)) = l[i] := by simp [hlt]
    have e2 : std.nth so (std.nat (i : Int)) = so.getD i 0 := rfl
    have next := ih (i + 1) (n + cbtS l[i] (so.getD i 0)) (by omega) (by omega) (by omega) (by omega)
    refine go hC H4_ok (f56p2 std so l.length l n i) ?_ ?_
    · rw [e1, e2]
      generalize so.getD i 0 = s at *
      simp [hlt]
      omega
    · rw [e1, e2]; exact next
theorem l61 (so l : List Int) (hl : l.length ≤ so.length) (hn : l.length ≤ 1000) (hb : l.all bitB = true) (hso : rngE so (-7) 7 = 0) (T : Int) : ∀ (d i : Nat) (n : Int), i + d = l.length → -7 * (i : Int) ≤ n → n ≤ 7 * (i : Int) → n + metI so i (l.drop i) = T →
    Ev C (f61h61_0a so l n i) (f61h61_0am so l n i) (FinQ 61 (.int .i64 T) none) := by
  intro d
  induction d with
  | zero =>
    intro i n hi h1 h2 e
    rw [List.drop_of_length_le (by omega), metI] at e
    have e : n = T := by omega
    subst e
    exact fin hC H4_ok (f61p2 std so l n i) (by simp; omega) rfl rfl
  | succ d ih =>
    intro i n hi h1 h2 e
    have hlt : i < l.length := by omega
    rw [List.drop_eq_getElem_cons hlt, metI] at e
    have hs := rng_get hso i
    have ha := cbt_abs (x := l[i]) hs
    have hbt := bit_of hb i hlt
    have e1 : std.nth l (std.nat (i : Int)) = l[i] := by simp [hlt]
    have e2 : std.nth so (std.nat (i : Int)) = so.getD i 0 := rfl
    have e3 : so.getD i 0 * (1 - 2 * l[i]) = cbtS l[i] (so.getD i 0) := by
      unfold cbtS
      rcases hbt with h | h <;> rw [h] <;> simp <;> omega
    have next := ih (i + 1) (n + cbtS l[i] (so.getD i 0)) (by omega) (by omega) (by omega) (by omega)
    refine go hC H4_ok (f61p1 std so l n i) ?_ ?_
    · rw [e1, e2]
      simp only [s_sub, s_mul, e3]
      generalize so.getD i 0 = s at *
      simp [hlt]
      omega
    · rw [e1, e2]
      simp only [s_sub, s_mul, e3]
      exact next
end
def meF (c bs so : List Int) : Int := firstE [convE c, bsE bs, sfW c so, unlessE (decide ((so.length : Int) = IntKind.i64.wrap (2 * IntKind.i64.wrap (bs.length + cM c)))) 13]
theorem meF_ok {c bs so : List Int} (h3 : c.length = 3) (hs : so.length ≤ 1000000) (h : meF c bs so = 0) : convE c = 0 ∧ bs.all bitB = true ∧ bs.length ≤ 300 ∧ rngE so (-7) 7 = 0 ∧ (so.length : Int) = 2 * (bs.length + cM c) := by
  unfold meF at h
  simp only [firstE] at h
  by_cases h1 : convE c = 0
  · rw [if_pos h1] at h
    by_cases h2 : bsE bs = 0
    · rw [if_pos h2, sfW_ok h3 h1 hs] at h
      obtain ⟨m, hm, m1, m2⟩ := cm_rng h3 h1
      have hb : bs.all bitB = true ∧ bs.length ≤ 300 := by
        unfold bsE at h2
        split at h2
        · cases h2
        · refine ⟨?_, by omega⟩
          unfold bitE at h2
          split at h2
          · assumption
          · cases h2
      by_cases h5 : sfE c so = 0
      · rw [if_pos h5] at h
        have hr : rngE so (-7) 7 = 0 := by
          unfold sfE at h5
          split at h5
          · cases h5
          · split at h5
            · cases h5
            · exact h5
        have w1 : IntKind.i64.wrap (bs.length + cM c) = bs.length + cM c := by rw [IntKind.wrap_i64, hm]; omega
        have w2 : IntKind.i64.wrap (2 * (bs.length + cM c)) = 2 * (bs.length + cM c) := by rw [IntKind.wrap_i64, hm]; omega
        rw [w1, w2] at h
        by_cases h6 : (so.length : Int) = 2 * (bs.length + cM c)
        · exact ⟨h1, hb.1, hb.2, hr, h6⟩
        · simp [unlessE, h6] at h
      · rw [if_neg h5] at h; exact absurd h h5
    · rw [if_neg h2] at h; exact absurd h h2
  · rw [if_neg h1] at h; exact absurd h h1
theorem met56_ok (c bs so : List Int) (h3 : c.length = 3) (hs : so.length ≤ 1000000) (hbl : bs.length ≤ 1000000) : Pure Try.prog 56 [.agg (.ints .i64 c), .list (.ints .i64 bs), .list (.ints .i64 so)]
    (.tup [.int .i64 (if meF c bs so = 0 then metI so 0 (enc c bs) else 0), .int .i64 (meF c bs so)]) none := by
  have es := sub3_all h3
  have ecm : std.nth c 0 = cM c := rfl
  refine start (f56e_at c bs so) fun C hC => ?_
  by_cases h : meF c bs so = 0
  · rw [if_pos h, h]
    obtain ⟨h1, h2, h4, h5, h6⟩ := meF_ok h3 hs h
    obtain ⟨m, hm, m1, m2⟩ := cm_rng h3 h1
    have hel : (enc c bs).length = so.length := by
      unfold enc; rw [enc_len, List.length_append, List.length_replicate, hm]; omega
    have main := l56 hC so (enc c bs) (by omega) (by omega) h5 _ (enc c bs).length 0 0 (by omega) (by omega) (by omega) rfl
    rw [List.drop_zero, Int.zero_add] at main
    refine go hC H4_ok (f56p1 std c bs so) ?_ (by rw [es]; exact main)
    rw [es, ecm]
    have h' := h
    unfold meF at h'
    simp only [s_eq, s_mul, s_add, s_int, s_len, h']
    simp [h3, h1, h2, h4, hs, hbl, AV.bx, flatLen]
  · rw [if_neg h]
    refine fin hC H4_ok (f56p0 std c bs so) ?_ (by rw [es, ecm]; rfl) rfl
    rw [es, ecm]
    have h' := h
    unfold meF at h'
    simp only [s_eq, s_mul, s_add, s_int, s_len, s_not]
    simp [h3, hs, hbl, AV.bx, flatLen, h']
theorem met61_ok (c bs so : List Int) (h3 : c.length = 3) (hs : so.length ≤ 1000000) (h : meF c bs so = 0) : Pure Try.prog 61 [.agg (.ints .i64 c), .list (.ints .i64 bs), .list (.ints .i64 so)] (.int .i64 (metI so 0 (enc c bs))) none := by
  have es := sub3_all h3
  obtain ⟨h1, h2, h4, h5, h6⟩ := meF_ok h3 hs h
  obtain ⟨m, hm, m1, m2⟩ := cm_rng h3 h1
  have hel : (enc c bs).length = so.length := by
    unfold enc; rw [enc_len, List.length_append, List.length_replicate, hm]; omega
  refine start (f61e_at c bs so) fun C hC => ?_
  have main := l61 hC so (enc c bs) (by omega) (by omega) (enc_bits c _ 0) h5 _ (enc c bs).length 0 0 (by omega) (by omega) (by omega) rfl
  rw [List.drop_zero, Int.zero_add] at main
  refine go hC H4_ok (f61p0 std c bs so) ?_ (by rw [es]; exact main)
  rw [es]
  simp [h3, h1, h2, h4]
def ebF (c bs : List Int) : Int := firstE [convE c, bsE bs]
def ebL (c bs : List Int) : List Int := if ebF c bs = 0 then enc c bs else []
theorem enc46_ok (c bs : List Int) (h3 : c.length = 3) (hbl : bs.length ≤ 1000000) : Pure Try.prog 46 [.agg (.ints .i64 c), .list (.ints .i64 bs)] (.tup [.list (.ints .i64 (ebL c bs)), .int .i64 (ebF c bs)]) none := by
  have es := sub3_all h3
  by_cases h : ebF c bs = 0
  · have h1 : convE c = 0 := by
      by_cases h1 : convE c = 0
      · exact h1
      · unfold ebF at h; simp [firstE, h1] at h
    have h2 : bsE bs = 0 := by
      by_cases h2 : bsE bs = 0
      · exact h2
      · unfold ebF at h; simp [firstE, h1, h2] at h
    have hb : bs.all bitB = true ∧ bs.length ≤ 300 := by
      unfold bsE at h2
      split at h2
      · cases h2
      · refine ⟨?_, by omega⟩
        unfold bitE at h2
        split at h2
        · assumption
        · cases h2
    rw [h]
    have hl : ebL c bs = enc c bs := by unfold ebL; rw [if_pos h]
    rw [hl]
    refine frzm_tup (e := 3) (sz := 0) (r := .ints .i64 (enc c bs)) (xs := [.row 0 0, .int .i64 0]) (start (f46e_at c bs) fun C hC => fin hC H4_ok (f46p1 std c bs) ?_ rfl (by rw [es])) rfl ⟨.row, .same _ rfl, trivial⟩
    rw [es]
    unfold ebF at h
    simp only [h]
    simp [h3, h1, hb, hbl, AV.bx, flatLen]
  · have hl : ebL c bs = [] := by unfold ebL; rw [if_neg h]
    rw [hl]
    refine wk_tup (xs := [.nils, .int .i64 (ebF c bs)]) (start (f46e_at c bs) fun C hC => fin hC H4_ok (f46p0 std c bs) ?_ (by rw [es]; rfl) rfl) ⟨.nil _ rfl, .same _, trivial⟩
    rw [es]
    unfold ebF at h
    simp only [s_not, s_eq]
    simp [h3, hbl, AV.bx, flatLen, h]
end Go.Proofs.Ytimmgjppippdiaa
