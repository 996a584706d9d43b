/- How contracts are closed for the program. No condition. -/
import Derived.Test.YtjhdnpmojhkbjaaTb
import Derived.Test.YtjhdnpmojhkbjaaYc
namespace Go.Proofs.Ytjhdnpmojhkbjaa
def E0 : List Ctr := []
theorem E0_ok : CtrsOK Try.prog E0 := trivial
section
variable {C : Ctx} {K : List Ctr} {n : Nat} {pa acc : List Bool} {fs gs : List AFrame} {h h' : AHeap} {Q : List AFrame → AHeap → Prop}
theorem go (hC : C.P = Try.prog) (hK : CtrsOK Try.prog K) (hw : gwalkL std tab K n pa fs h = some (acc, gs, h')) (hb : AllT acc) (hq : Ev C gs h' Q) : Ev C fs h Q := ev_go (by rw [hC]; exact follows) (by rw [hC]; exact tab_ok) (by rw [hC]; exact hK) hw hb hq
theorem fin (hC : C.P = Try.prog) (hK : CtrsOK Try.prog K) {fn : FuncId} {r r' : AV} {fr fr' : Option Fresh} (hw : gfin std tab K n pa fn fs h = some (acc, r', fr')) (hb : AllT acc) (hr : r' = r) (hfr : fr' = fr) : Ev C fs h (FinQ fn r fr) := ev_end (by rw [hC]; exact follows) (by rw [hC]; exact tab_ok) (by rw [hC]; exact hK) hw hb hr hfr
theorem start {fn : FuncId} {args : List AV} {af : AFrame} {r : AV} {fr : Option Fresh} (he : enterA tab fn args = some af) (hq : ∀ C : Ctx, C.P = Try.prog → Ev C [af] [] (FinQ fn r fr)) : Pure Try.prog fn args r fr := pure_of_ev tab_ok he fun _ _ _ => hq _ rfl
end
theorem new_row {f : FuncId} {args : List AV} {e sz : Nat} {r : Row} (h : Pure Try.prog f args (.row 0 0) (some ⟨e, sz + 1, r⟩)) (hp : r.pure = true) (hs : r.solid = true) : Pure Try.prog f args (.list r) newF :=
  pure_new h rfl (.one (.row _ rfl hp hs))
theorem new_nil {f : FuncId} {args : List AV} {r : Row} (h : Pure Try.prog f args .nils none) (hr : r.elems = []) : Pure Try.prog f args (.list r) newF :=
  pure_new h rfl (.one (.nil r hr))
theorem Rel.same {w : World} {ok : Nat → Prop} {h : AHeap} {L : Lay} {r r' : Row} {v : Value} (he : r.elems = r'.elems) (hr : Rel w ok h L (.list r) v) : Rel w ok h L (.list r') v := by
  cases hr with
  | nil _ a c h0 => exact .nil _ a c (he ▸ h0)
  | list _ xs hx ad n cap sz cs hb hok hn hcap hsz hl h1 hc hp hrr => exact .list r' xs (hx.trans he) ad n cap sz cs hb hok hn hcap hsz hl h1 hc hp hrr
/-- the same elements, otherwise said -/
theorem pure_same {f : FuncId} {args : List AV} {r r' : Row} {fr : Option Fresh} (h : Pure Try.prog f args (.list r) fr) (he : r.elems = r'.elems) : Pure Try.prog f args (.list r') fr := by
  intro w okA L vs hargs hok
  refine (h w okA L vs hargs hok).mono ?_
  rintro e w' ⟨x, L', rfl, hb, hp⟩
  refine ⟨x, L', rfl, hb, ?_⟩
  unfold PostC at hp ⊢
  split
  · rename_i hn; rw [hn] at hp; exact Rel.same he hp
  · rename_i hn; rw [hn] at hp; exact ⟨hp.1, Rel.same he hp.2⟩
/-- an argument that is the same elements, otherwise said -/
theorem pure_arg {f : FuncId} {xs ys : List AV} {r r' : Row} {x : AV} {fr : Option Fresh} (h : Pure Try.prog f (xs ++ .list r :: ys) x fr) (he : r'.elems = r.elems) : Pure Try.prog f (xs ++ .list r' :: ys) x fr := by
  intro w okA L vs hargs hok
  refine h w okA L vs ⟨by have := hargs.1; simpa using this, fun j u v hu hv => ?_⟩ hok
  rcases Nat.lt_trichotomy j xs.length with hj | hj | hj
  · rw [List.getElem?_append_left hj] at hu
    exact hargs.2 j u v (by rw [List.getElem?_append_left hj]; exact hu) hv
  · subst hj
    rw [List.getElem?_append_right (Nat.le_refl _)] at hu
    simp only [Nat.sub_self, List.getElem?_cons_zero, Option.some.injEq] at hu
    subst hu
    exact Rel.same he (hargs.2 _ _ v (by rw [List.getElem?_append_right (Nat.le_refl _)]; simp) hv)
  · rw [List.getElem?_append_right (by omega), show j - xs.length = (j - xs.length - 1) + 1 by omega, List.getElem?_cons_succ] at hu
    exact hargs.2 j u v (by rw [List.getElem?_append_right (by omega), show j - xs.length = (j - xs.length - 1) + 1 by omega, List.getElem?_cons_succ]; exact hu) hv
/-- an empty slice, nil or not -/
theorem pure_empty {f : FuncId} {r : Row} {x : AV} {fr : Option Fresh} (he : r.elems = []) (h : ∀ ad cap, Pure Try.prog f [.val (.slice ad 0 cap)] x fr) : Pure Try.prog f [.list r] x fr := by
  intro w okA L vs hargs hok
  obtain ⟨h1, h2⟩ := hargs
  obtain ⟨l⟩ := vs
  match l, h1 with
  | [v0], _ =>
    have r0 := h2 0 _ _ rfl rfl
    obtain ⟨ad, cap, rfl⟩ : ∃ ad cap, v0 = .slice ad 0 cap := by
      cases r0 with
      | nil _ a c _ => exact ⟨a, c, rfl⟩
      | list _ xs hx ad n cap sz cs hbb hok hn => rw [he] at hx; subst hx; exact ⟨some ad, cap, by rw [hn]; rfl⟩
    exact h ad cap w okA L _ (RelL.cons (.val _) RelL.nil) hok
/-- nil, read as an empty list -/
inductive Wk1 : AV → AV → Prop
  | nil (r : Row) (h : r.elems = []) : Wk1 .nils (.list r)
  | same (v : AV) : Wk1 v v
def WkL : List AV → List AV → Prop
  | [], [] => True
  | x :: xs, y :: ys => Wk1 x y ∧ WkL xs ys
  | _, _ => False
theorem WkL.spec : ∀ {xs ys : List AV}, WkL xs ys → xs.length = ys.length ∧ ∀ (j : Nat) (y : AV), ys[j]? = some y → ∃ x, xs[j]? = some x ∧ Wk1 x y
  | [], [], _ => ⟨rfl, fun j y h => by simp at h⟩
  | x :: xs, y :: ys, h => by
    obtain ⟨h1, h2⟩ := h
    obtain ⟨e1, e2⟩ := WkL.spec h2
    refine ⟨by simp [e1], fun j z hz => ?_⟩
    cases j with
    | zero => simp at hz; subst hz; exact ⟨x, rfl, h1⟩
    | succ j => obtain ⟨q, q1, q2⟩ := e2 j z (by simpa using hz); exact ⟨q, by simpa using q1, q2⟩
theorem Wk1.rel {w : World} {ok : Nat → Prop} {h : AHeap} {L : Lay} {v v' : AV} {x : Value} (hw : Wk1 v v') (hr : Rel w ok h L v x) : Rel w ok h L v' x := by
  cases hw with
  | nil r h => cases hr with | nils => exact .nil r none 0 h
  | same => exact hr
theorem wk_tup {f : FuncId} {args xs ys : List AV} {fr : Option Fresh} (h : Pure Try.prog f args (.tup xs) fr) (hw : WkL xs ys) : Pure Try.prog f args (.tup ys) fr := by
  intro w okA L vs hargs hok
  refine (h w okA L vs hargs hok).mono ?_
  rintro e w' ⟨x, L', rfl, hb, hp⟩
  obtain ⟨e1, e2⟩ := hw.spec
  have key : ∀ {ok : Nat → Prop} {hh : AHeap}, Rel w' ok hh L' (.tup xs) x → Rel w' ok hh L' (.tup ys) x := fun hr => by
    cases hr with
    | tup _ vs hl hrr =>
      refine .tup _ vs (by rw [← e1]; exact hl) (fun j u v hu hv => ?_)
      obtain ⟨q, q1, q2⟩ := e2 j u hu
      exact q2.rel (hrr j q v q1 hv)
  refine ⟨x, L', rfl, hb, ?_⟩
  unfold PostC at hp ⊢
  split
  · rename_i hn; rw [hn] at hp; exact key hp
  · rename_i hn; rw [hn] at hp; exact ⟨hp.1, key hp.2⟩
end Go.Proofs.Ytjhdnpmojhkbjaa
