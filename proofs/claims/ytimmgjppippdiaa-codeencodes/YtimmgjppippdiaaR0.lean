/- How contracts are closed for the program. No condition. -/
import Derived.Test.YtimmgjppippdiaaTb
import Derived.Test.YtimmgjppippdiaaYc
namespace Go.Proofs.Ytimmgjppippdiaa
def E0 : List Ctr := []
theorem E0_ok : CtrsOK Try.prog E0 := trivial
section
variable {C : Ctx} {K : List Ctr} {n : Nat} {pa acc : List Bool} {fs gs : List AFrame} {h h' : AHeap} {Q : List AFrame → AHeap → Prop}
theorem go (hC : C.P = Try.prog) (hK : CtrsOK Try.prog K) (hw : gwalkL std tab K n pa fs h = some (acc, gs, h')) (hb : AllT acc) (hq : Ev C gs h' Q) : Ev C fs h Q := ev_go (by rw [hC]; exact follows) (by rw [hC]; exact tab_ok) (by rw [hC]; exact hK) hw hb hq
theorem fin (hC : C.P = Try.prog) (hK : CtrsOK Try.prog K) {fn : FuncId} {r r' : AV} {fr fr' : Option Fresh} (hw : gfin std tab K n pa fn fs h = some (acc, r', fr')) (hb : AllT acc) (hr : r' = r) (hfr : fr' = fr) : Ev C fs h (FinQ fn r fr) := ev_end (by rw [hC]; exact follows) (by rw [hC]; exact tab_ok) (by rw [hC]; exact hK) hw hb hr hfr
theorem start {fn : FuncId} {args : List AV} {af : AFrame} {r : AV} {fr : Option Fresh} (he : enterA tab fn args = some af) (hq : ∀ C : Ctx, C.P = Try.prog → Ev C [af] [] (FinQ fn r fr)) : Pure Try.prog fn args r fr := pure_of_ev tab_ok he fun _ _ _ => hq _ rfl
end
theorem new_row {f : FuncId} {args : List AV} {e sz : Nat} {r : Row} (h : Pure Try.prog f args (.row 0 0) (some ⟨e, sz + 1, r⟩)) (hp : r.pure = true) (hs : r.solid = true) : Pure Try.prog f args (.list r) newF :=
  pure_new h rfl (.one (.row _ rfl hp hs))
theorem new_nil {f : FuncId} {args : List AV} {r : Row} (h : Pure Try.prog f args .nils none) (hr : r.elems = []) : Pure Try.prog f args (.list r) newF :=
  pure_new h rfl (.one (.nil r hr))
/-- nil, read as an empty list -/
inductive Wk1 : AV → AV → Prop
  | nil (r : Row) (h : r.elems = []) : Wk1 .nils (.list r)
  | same (v : AV) : Wk1 v v
def WkL : List AV → List AV → Prop
  | [], [] => True
  | x :: xs, y :: ys => Wk1 x y ∧ WkL xs ys
  | _, _ => False
theorem WkL.spec : ∀ {xs ys : List AV}, WkL xs ys → xs.length = ys.length ∧ ∀ (j : Nat) (y : AV), ys[j]? = some y → ∃ x, xs[j]? = some x ∧ Wk1 x y
  | [], [], _ => ⟨rfl, fun j y h => by simp at h⟩
  | x :: xs, y :: ys, h => by
    obtain ⟨h1, h2⟩ := h
    obtain ⟨e1, e2⟩ := WkL.spec h2
    refine ⟨by simp [e1], fun j z hz => ?_⟩
    cases j with
    | zero => simp at hz; subst hz; exact ⟨x, rfl, h1⟩
    | succ j => obtain ⟨q, q1, q2⟩ := e2 j z (by simpa using hz); exact ⟨q, by simpa using q1, q2⟩
theorem Wk1.rel {w : World} {ok : Nat → Prop} {h : AHeap} {L : Lay} {v v' : AV} {x : Value} (hw : Wk1 v v') (hr : Rel w ok h L v x) : Rel w ok h L v' x := by
  cases hw with
  | nil r h => cases hr with | nils => exact .nil r none 0 h
  | same => exact hr
theorem wk_tup {f : FuncId} {args xs ys : List AV} {fr : Option Fresh} (h : Pure Try.prog f args (.tup xs) fr) (hw : WkL xs ys) : Pure Try.prog f args (.tup ys) fr := by
  intro w okA L vs hargs hok
  refine (h w okA L vs hargs hok).mono ?_
  rintro e w' ⟨x, L', rfl, hb, hp⟩
  obtain ⟨e1, e2⟩ := hw.spec
  have key : ∀ {ok : Nat → Prop} {hh : AHeap}, Rel w' ok hh L' (.tup xs) x → Rel w' ok hh L' (.tup ys) x := fun hr => by
    cases hr with
    | tup _ vs hl hrr =>
      refine .tup _ vs (by rw [← e1]; exact hl) (fun j u v hu hv => ?_)
      obtain ⟨q, q1, q2⟩ := e2 j u hu
      exact q2.rel (hrr j q v q1 hv)
  refine ⟨x, L', rfl, hb, ?_⟩
  unfold PostC at hp ⊢
  split
  · rename_i hn; rw [hn] at hp; exact key hp
  · rename_i hn; rw [hn] at hp; exact ⟨hp.1, key hp.2⟩
end Go.Proofs.Ytimmgjppippdiaa
