/- Contracts as a list. No condition. -/
import Derived.Test.YtjhdnpmojhkbjaaPE
namespace Go.Proofs.Ytjhdnpmojhkbjaa
/-- a row that comes back, read as a list -/
theorem frz_row {f : FuncId} {args : List AV} {e sz : Nat} {r : Row} (h : Pure Try.prog f args (.row 0 0) (some ⟨e, sz + 1, r⟩)) (hp : r.pure = true) : Pure Try.prog f args (.list r) none := by
  intro w okA L vs hargs hok
  refine (h w okA L vs hargs hok).mono ?_
  rintro e' w' ⟨x, L', rfl, hb, hpo⟩
  obtain ⟨H, hr⟩ : HRel ⟨Try.prog, w, okA, []⟩ (frHeap (some ⟨e, sz + 1, r⟩)) L' w' ∧ RelC ⟨Try.prog, w, okA, []⟩ (frHeap (some ⟨e, sz + 1, r⟩)) L' w' (.row 0 0) x := hpo
  refine ⟨x, L', rfl, hb, ?_⟩
  show HRel _ (frHeap none) L' w' ∧ RelC _ (frHeap none) L' w' (.list r) x
  refine ⟨H.nil, ?_⟩
  have hbk : blk (frHeap (some ⟨e, sz + 1, r⟩)) 0 0 = .row e (sz + 1) r := rfl
  obtain ⟨ht, h0, h1, h2, h3, cur, h4, h5, h6, h7, h8⟩ := H.rowAt hbk
  have hl := H.live 0 0 (by rw [ht]; simp)
  cases hr with
  | row _ _ g o n c hn hlv =>
    obtain ⟨rfl, rfl, rfl, rfl⟩ := hlv.2 _ ht
    have hpa := pureL_flatAll hp
    exact .list r _ rfl ⟨L'.loc 0 0, 0, none⟩ _ _ (sz + 1) _ hl.2 (.inr ⟨hl.1, fun a i ht => absurd rfl ht⟩) rfl hn h3 h6.1.symm h7 (fun j v hj => h8 j v hj) hpa
      (fun j u v hu hv => ((h6.2 j u v hu hv).okmono (fun g _ ho => okOf_nil ho)).pure (AV.pureL_mem hpa hu))
theorem frz_nil {f : FuncId} {args : List AV} {r : Row} (h : Pure Try.prog f args .nils none) (hr : r.elems = []) : Pure Try.prog f args (.list r) none := by
  intro w okA L vs hargs hok
  refine (h w okA L vs hargs hok).mono ?_
  rintro e' w' ⟨x, L', rfl, hb, hpo⟩
  have hpo : HRel ⟨Try.prog, w, okA, []⟩ (frHeap none) L' w' ∧ RelC ⟨Try.prog, w, okA, []⟩ (frHeap none) L' w' .nils x := hpo
  exact ⟨x, L', rfl, hb, ⟨hpo.1, (Wk1.nil r hr).rel hpo.2⟩⟩
inductive FrzN (r : Row) : AV → AV → Prop
  | row : FrzN r (.row 0 0) (.list r)
  | same (v : AV) (hp : v.pure = true) : FrzN r v v
def FrzNL (r : Row) : List AV → List AV → Prop
  | [], [] => True
  | x :: xs, y :: ys => FrzN r x y ∧ FrzNL r xs ys
  | _, _ => False
theorem FrzNL.spec {r : Row} : ∀ {xs ys : List AV}, FrzNL r xs ys → xs.length = ys.length ∧ ∀ (j : Nat) (y : AV), ys[j]? = some y → ∃ x, xs[j]? = some x ∧ FrzN r x y
  | [], [], _ => ⟨rfl, fun j y h => by simp at h⟩
  | x :: xs, y :: ys, h => by
    obtain ⟨h1, h2⟩ := h
    obtain ⟨e1, e2⟩ := FrzNL.spec h2
    refine ⟨by simp [e1], fun j z hz => ?_⟩
    cases j with
    | zero => simp at hz; subst hz; exact ⟨x, rfl, h1⟩
    | succ j => obtain ⟨q, q1, q2⟩ := e2 j z (by simpa using hz); exact ⟨q, by simpa using q1, q2⟩
theorem frz_tup {f : FuncId} {args xs ys : List AV} {e sz : Nat} {r : Row} (h : Pure Try.prog f args (.tup xs) (some ⟨e, sz + 1, r⟩)) (hp : r.pure = true) (hs : FrzNL r xs ys) : Pure Try.prog f args (.tup ys) none := by
  intro w okA L vs hargs hok
  refine (h w okA L vs hargs hok).mono ?_
  rintro e' w' ⟨x, L', rfl, hb, hpo⟩
  obtain ⟨H, hr⟩ : HRel ⟨Try.prog, w, okA, []⟩ (frHeap (some ⟨e, sz + 1, r⟩)) L' w' ∧ RelC ⟨Try.prog, w, okA, []⟩ (frHeap (some ⟨e, sz + 1, r⟩)) L' w' (.tup xs) x := hpo
  refine ⟨x, L', rfl, hb, ?_⟩
  show HRel _ (frHeap none) L' w' ∧ RelC _ (frHeap none) L' w' (.tup ys) x
  refine ⟨H.nil, ?_⟩
  have hbk : blk (frHeap (some ⟨e, sz + 1, r⟩)) 0 0 = .row e (sz + 1) r := rfl
  obtain ⟨ht, h0, h1, h2, h3, cur, h4, h5, h6, h7, h8⟩ := H.rowAt hbk
  have hl := H.live 0 0 (by rw [ht]; simp)
  have hpa := pureL_flatAll hp
  obtain ⟨e1, e2⟩ := hs.spec
  cases hr with
  | tup _ vs hlen hrr =>
    refine .tup _ vs (by rw [← e1]; exact hlen) (fun j u v hu hv => ?_)
    obtain ⟨q, q1, q2⟩ := e2 j u hu
    have hqv := hrr j q v q1 hv
    cases q2 with
    | same _ hpu => exact (hqv.okmono (fun g _ ho => okOf_nil ho)).pure hpu
    | row =>
      cases hqv with
      | row _ _ g o n c hn hlv =>
        obtain ⟨rfl, rfl, rfl, rfl⟩ := hlv.2 _ ht
        exact .list r _ rfl ⟨L'.loc 0 0, 0, none⟩ _ _ (sz + 1) _ hl.2 (.inr ⟨hl.1, fun a i ht => absurd rfl ht⟩) rfl hn h3 h6.1.symm h7 (fun j v hj => h8 j v hj) hpa
          (fun j u v hu hv => ((h6.2 j u v hu hv).okmono (fun g _ ho => okOf_nil ho)).pure (AV.pureL_mem hpa hu))
theorem has26_ok (ps : List AV) (h : lineG ps = true) : Pure Try.prog 26 [.list (.big (.agg [.int .i64, .int .i64, .int .i64]) ps)] (.bool (lineB ps)) none :=
  start (f26e_at ps) fun C hC => by
    by_cases h2 : ps.length < 2
    · exact fin hC BC4_ok (f26p0 std ps) (by simp; omega) (by simp [lineB, h2]) rfl
    · have hg : goodB ps = true := by simpa [lineG, h2] using h
      exact fin hC BC4_ok (f26p1 std ps) (by simp [hg]; omega) (by simp [lineB, h2, lineS]) rfl
/-! ### Valid pairs -/
theorem chkL_ok : ∀ {ps : List AV} {last : Int} {i : Nat}, (chkL last i ps).2 = 0 → (∀ p ∈ ps, okP (pC p) (pL p) (pH p) = true ∧ last < pC p) ∧ ps.Pairwise (fun p q => pC p < pC q)
  | [], _, _, _ => ⟨fun _ h => absurd h List.not_mem_nil, List.Pairwise.nil⟩
  | p :: ps, last, i, h => by
    rw [chkL] at h
    split at h
    · rename_i h1
      split at h
      · rename_i h2
        obtain ⟨h3, h4⟩ := chkL_ok h
        refine ⟨fun q hq => ?_, List.pairwise_cons.2 ⟨fun q hq => (h3 q hq).2, h4⟩⟩
        rcases List.mem_cons.1 hq with rfl | hq
        · exact ⟨h1, h2.2⟩
        · have := h3 q hq
          exact ⟨this.1, by omega⟩
      · simp at h
    · simp at h
def allQ (ps : List AV) : Prop := ∀ i k, i < ps.length → k < i → okQ (ps.getD i (.int .i64 0)) (ps.getD k (.int .i64 0))
theorem chkP_ok {ps : List AV} (h : (chkP ps).2 = 0) : 0 < ps.length ∧ ps.length ≤ 20 ∧ allQ ps := by
  unfold chkP at h
  split at h
  · simp at h
  · split at h
    · simp at h
    · obtain ⟨h1, h2⟩ := chkL_ok h
      refine ⟨by omega, by omega, fun i k hi hk => ?_⟩
      have hk' : k < ps.length := by omega
      have e1 : ps.getD i (.int .i64 0) = ps[i] := by simp [hi]
      have e2 : ps.getD k (.int .i64 0) = ps[k] := by simp [hk']
      rw [e1, e2]
      have a := (h1 ps[i] (by simp)).1
      have b := (h1 ps[k] (by simp)).1
      have c := List.pairwise_iff_getElem.1 h2 k i hk' hi hk
      simp only [okP, decide_eq_true_eq] at a b
      unfold okQ
      omega
theorem allQ_good {ps : List AV} (h : allQ ps) (h2 : 2 ≤ ps.length) (hl : ps.length ≤ 1000000) : goodB ps = true := by
  rw [goodB, Bool.and_eq_true, decide_eq_true_eq, List.all_eq_true]
  refine ⟨⟨h2, hl⟩, fun i hi => ?_⟩
  rw [List.all_eq_true]
  intro k hk
  exact decide_eq_true (h i k (List.mem_range.1 hi) (List.mem_range.1 hk))
theorem allQ_line {ps : List AV} (h : allQ ps) (hl : ps.length ≤ 1000000) (a n : Nat) : lineG ((ps.drop a).take n) = true := by
  rw [lineG, Bool.or_eq_true]
  by_cases h2 : ((ps.drop a).take n).length < 2
  · exact .inl (decide_eq_true h2)
  · refine .inr (allQ_good (fun i k hi hk => ?_) (by omega) (by rw [List.length_take, List.length_drop]; omega))
    rw [List.length_take, List.length_drop] at hi
    have e : ∀ j, j < n → a + j < ps.length → ((ps.drop a).take n).getD j (.int .i64 0) = ps.getD (a + j) (.int .i64 0) := fun j h1 h2 => by
      simp [List.getElem?_drop, h1, h2]
    rw [e i (by omega) (by omega), e k (by omega) (by omega)]
    exact h (a + i) (a + k) (by omega) (by omega)
def k26 : Ctr := ⟨26, 0, fun _ a => match a with | [.list (.big (.agg [.int .i64, .int .i64, .int .i64]) ps)] => some (decide (lineG ps = true), .bool (lineB ps), none) | _ => none⟩
theorem k26_ok : k26.OK Try.prog := fun pa args r fr h => by
  simp only [k26] at h
  split at h
  · simp only [Option.some.injEq, Prod.mk.injEq, decide_eq_true_eq] at h
    obtain ⟨h0, rfl, rfl⟩ := h
    exact has26_ok _ h0
  · cases h
def BC5 : List Ctr := [k26] ++ BC4
theorem BC5_ok : CtrsOK Try.prog BC5 := ⟨k26_ok, BC4_ok⟩
end Go.Proofs.Ytjhdnpmojhkbjaa
