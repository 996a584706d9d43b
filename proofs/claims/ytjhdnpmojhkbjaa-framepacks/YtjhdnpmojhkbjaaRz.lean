/- Owned rows that come back are read as lists. No condition. -/
import Derived.Test.YtjhdnpmojhkbjaaR0
namespace Go.Proofs.Ytjhdnpmojhkbjaa
theorem frz2_row {f : FuncId} {args : List AV} {e sz : Nat} {r : Row} (h : Pure Try.prog f args (.row 0 0) (some ⟨e, sz + 1, r⟩)) (hp : r.pure = true) : Pure Try.prog f args (.list r) none := by
  intro w okA L vs hargs hok
  refine (h w okA L vs hargs hok).mono ?_
  rintro e' w' ⟨x, L', rfl, hb, hpo⟩
  obtain ⟨H, hr⟩ : HRel ⟨Try.prog, w, okA, []⟩ (frHeap (some ⟨e, sz + 1, r⟩)) L' w' ∧ RelC ⟨Try.prog, w, okA, []⟩ (frHeap (some ⟨e, sz + 1, r⟩)) L' w' (.row 0 0) x := hpo
  refine ⟨x, L', rfl, hb, ?_⟩
  show HRel _ (frHeap none) L' w' ∧ RelC _ (frHeap none) L' w' (.list r) x
  refine ⟨H.nil, ?_⟩
  have hbk : blk (frHeap (some ⟨e, sz + 1, r⟩)) 0 0 = .row e (sz + 1) r := rfl
  obtain ⟨ht, h0, h1, h2, h3, cur, h4, h5, h6, h7, h8⟩ := H.rowAt hbk
  have hl := H.live 0 0 (by rw [ht]; simp)
  cases hr with
  | row _ _ g o n c hn hlv =>
    obtain ⟨rfl, rfl, rfl, rfl⟩ := hlv.2 _ ht
    have hpa := pureL_flatAll hp
    exact .list r _ rfl ⟨L'.loc 0 0, 0, none⟩ _ _ (sz + 1) _ hl.2 (.inr ⟨hl.1, fun a i ht => absurd rfl ht⟩) rfl hn h3 h6.1.symm h7 (fun j v hj => h8 j v hj) hpa
      (fun j u v hu hv => ((h6.2 j u v hu hv).okmono (fun g _ ho => okOf_nil ho)).pure (AV.pureL_mem hpa hu))
theorem frz2_nil {f : FuncId} {args : List AV} {r : Row} (h : Pure Try.prog f args .nils none) (hr : r.elems = []) : Pure Try.prog f args (.list r) none := by
  intro w okA L vs hargs hok
  refine (h w okA L vs hargs hok).mono ?_
  rintro e' w' ⟨x, L', rfl, hb, hpo⟩
  have hpo : HRel ⟨Try.prog, w, okA, []⟩ (frHeap none) L' w' ∧ RelC ⟨Try.prog, w, okA, []⟩ (frHeap none) L' w' .nils x := hpo
  exact ⟨x, L', rfl, hb, ⟨hpo.1, (Wk1.nil r hr).rel hpo.2⟩⟩
inductive Frz2N (r : Row) : AV → AV → Prop
  | row : Frz2N r (.row 0 0) (.list r)
  | same (v : AV) (hp : v.pure = true) : Frz2N r v v
def Frz2NL (r : Row) : List AV → List AV → Prop
  | [], [] => True
  | x :: xs, y :: ys => Frz2N r x y ∧ Frz2NL r xs ys
  | _, _ => False
theorem Frz2NL.spec {r : Row} : ∀ {xs ys : List AV}, Frz2NL r xs ys → xs.length = ys.length ∧ ∀ (j : Nat) (y : AV), ys[j]? = some y → ∃ x, xs[j]? = some x ∧ Frz2N r x y
  | [], [], _ => ⟨rfl, fun j y h => by simp at h⟩
  | x :: xs, y :: ys, h => by
    obtain ⟨h1, h2⟩ := h
    obtain ⟨e1, e2⟩ := Frz2NL.spec h2
    refine ⟨by simp [e1], fun j z hz => ?_⟩
    cases j with
    | zero => simp at hz; subst hz; exact ⟨x, rfl, h1⟩
    | succ j => obtain ⟨q, q1, q2⟩ := e2 j z (by simpa using hz); exact ⟨q, by simpa using q1, q2⟩
theorem frz2_tup {f : FuncId} {args xs ys : List AV} {e sz : Nat} {r : Row} (h : Pure Try.prog f args (.tup xs) (some ⟨e, sz + 1, r⟩)) (hp : r.pure = true) (hs : Frz2NL r xs ys) : Pure Try.prog f args (.tup ys) none := by
  intro w okA L vs hargs hok
  refine (h w okA L vs hargs hok).mono ?_
  rintro e' w' ⟨x, L', rfl, hb, hpo⟩
  obtain ⟨H, hr⟩ : HRel ⟨Try.prog, w, okA, []⟩ (frHeap (some ⟨e, sz + 1, r⟩)) L' w' ∧ RelC ⟨Try.prog, w, okA, []⟩ (frHeap (some ⟨e, sz + 1, r⟩)) L' w' (.tup xs) x := hpo
  refine ⟨x, L', rfl, hb, ?_⟩
  show HRel _ (frHeap none) L' w' ∧ RelC _ (frHeap none) L' w' (.tup ys) x
  refine ⟨H.nil, ?_⟩
  have hbk : blk (frHeap (some ⟨e, sz + 1, r⟩)) 0 0 = .row e (sz + 1) r := rfl
  obtain ⟨ht, h0, h1, h2, h3, cur, h4, h5, h6, h7, h8⟩ := H.rowAt hbk
  have hl := H.live 0 0 (by rw [ht]; simp)
  have hpa := pureL_flatAll hp
  obtain ⟨e1, e2⟩ := hs.spec
  cases hr with
  | tup _ vs hlen hrr =>
    refine .tup _ vs (by rw [← e1]; exact hlen) (fun j u v hu hv => ?_)
    obtain ⟨q, q1, q2⟩ := e2 j u hu
    have hqv := hrr j q v q1 hv
    cases q2 with
    | same _ hpu => exact (hqv.okmono (fun g _ ho => okOf_nil ho)).pure hpu
    | row =>
      cases hqv with
      | row _ _ g o n c hn hlv =>
        obtain ⟨rfl, rfl, rfl, rfl⟩ := hlv.2 _ ht
        exact .list r _ rfl ⟨L'.loc 0 0, 0, none⟩ _ _ (sz + 1) _ hl.2 (.inr ⟨hl.1, fun a i ht => absurd rfl ht⟩) rfl hn h3 h6.1.symm h7 (fun j v hj => h8 j v hj) hpa
          (fun j u v hu hv => ((h6.2 j u v hu hv).okmono (fun g _ ho => okOf_nil ho)).pure (AV.pureL_mem hpa hu))
end Go.Proofs.Ytjhdnpmojhkbjaa
