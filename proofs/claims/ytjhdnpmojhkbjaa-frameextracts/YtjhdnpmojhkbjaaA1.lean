/- Every code of the table stands for the program's. Printed by gentab.py. -/
import Derived.Test.YtjhdnpmojhkbjaaTa
import Derived.Test.YtjhdnpmojhkbjaaChecked
import Derived.KernelRfl
namespace Go.Proofs.Ytjhdnpmojhkbjaa
set_option maxRecDepth 100000
theorem m3 : mfunc Try.prog 3 a3 = true := by kernel_rfl
theorem m14 : mfunc Try.prog 14 a14 = true := by kernel_rfl
theorem m15 : mfunc Try.prog 15 a15 = true := by kernel_rfl
theorem m16 : mfunc Try.prog 16 a16 = true := by kernel_rfl
theorem m17 : mfunc Try.prog 17 a17 = true := by kernel_rfl
theorem m18 : mfunc Try.prog 18 a18 = true := by kernel_rfl
theorem m19 : mfunc Try.prog 19 a19 = true := by kernel_rfl
theorem m20 : mfunc Try.prog 20 a20 = true := by kernel_rfl
theorem m21 : mfunc Try.prog 21 a21 = true := by kernel_rfl
theorem m22 : mfunc Try.prog 22 a22 = true := by kernel_rfl
theorem m23 : mfunc Try.prog 23 a23 = true := by kernel_rfl
theorem m27 : mfunc Try.prog 27 a27 = true := by kernel_rfl
theorem m30 : mfunc Try.prog 30 a30 = true := by kernel_rfl
theorem m35 : mfunc Try.prog 35 a35 = true := by kernel_rfl
theorem m40 : mfunc Try.prog 40 a40 = true := by kernel_rfl
theorem m41 : mfunc Try.prog 41 a41 = true := by kernel_rfl
theorem m42 : mfunc Try.prog 42 a42 = true := by kernel_rfl
theorem m53 : mfunc Try.prog 53 a53 = true := by kernel_rfl
theorem m55 : mfunc Try.prog 55 a55 = true := by kernel_rfl
theorem m60 : mfunc Try.prog 60 a60 = true := by kernel_rfl
theorem m63 : mfunc Try.prog 63 a63 = true := by kernel_rfl
theorem m64 : mfunc Try.prog 64 a64 = true := by kernel_rfl
theorem m67 : mfunc Try.prog 67 a67 = true := by kernel_rfl
theorem m69 : mfunc Try.prog 69 a69 = true := by kernel_rfl
theorem m70 : mfunc Try.prog 70 a70 = true := by kernel_rfl
theorem m72 : mfunc Try.prog 72 a72 = true := by kernel_rfl
theorem m75 : mfunc Try.prog 75 a75 = true := by kernel_rfl
theorem m76 : mfunc Try.prog 76 a76 = true := by kernel_rfl
theorem m77 : mfunc Try.prog 77 a77 = true := by kernel_rfl
theorem m78 : mfunc Try.prog 78 a78 = true := by kernel_rfl
theorem m79 : mfunc Try.prog 79 a79 = true := by kernel_rfl
theorem m80 : mfunc Try.prog 80 a80 = true := by kernel_rfl
theorem m81 : mfunc Try.prog 81 a81 = true := by kernel_rfl
theorem m82 : mfunc Try.prog 82 a82 = true := by kernel_rfl
theorem m83 : mfunc Try.prog 83 a83 = true := by kernel_rfl
theorem m84 : mfunc Try.prog 84 a84 = true := by kernel_rfl
theorem m85 : mfunc Try.prog 85 a85 = true := by kernel_rfl
theorem m86 : mfunc Try.prog 86 a86 = true := by kernel_rfl
theorem m87 : mfunc Try.prog 87 a87 = true := by kernel_rfl
theorem m88 : mfunc Try.prog 88 a88 = true := by kernel_rfl
theorem m89 : mfunc Try.prog 89 a89 = true := by kernel_rfl
theorem m90 : mfunc Try.prog 90 a90 = true := by kernel_rfl
theorem m91 : mfunc Try.prog 91 a91 = true := by kernel_rfl
theorem m93 : mfunc Try.prog 93 a93 = true := by kernel_rfl
theorem m94 : mfunc Try.prog 94 a94 = true := by kernel_rfl
theorem m95 : mfunc Try.prog 95 a95 = true := by kernel_rfl
theorem m96 : mfunc Try.prog 96 a96 = true := by kernel_rfl
theorem m97 : mfunc Try.prog 97 a97 = true := by kernel_rfl
theorem m98 : mfunc Try.prog 98 a98 = true := by kernel_rfl
theorem m99 : mfunc Try.prog 99 a99 = true := by kernel_rfl
theorem m100 : mfunc Try.prog 100 a100 = true := by kernel_rfl
theorem m101 : mfunc Try.prog 101 a101 = true := by kernel_rfl
theorem m102 : mfunc Try.prog 102 a102 = true := by kernel_rfl
theorem m103 : mfunc Try.prog 103 a103 = true := by kernel_rfl
theorem m105 : mfunc Try.prog 105 a105 = true := by kernel_rfl
theorem m106 : mfunc Try.prog 106 a106 = true := by kernel_rfl
theorem m107 : mfunc Try.prog 107 a107 = true := by kernel_rfl
theorem m109 : mfunc Try.prog 109 a109 = true := by kernel_rfl
theorem m110 : mfunc Try.prog 110 a110 = true := by kernel_rfl
theorem m113 : mfunc Try.prog 113 a113 = true := by kernel_rfl
theorem m114 : mfunc Try.prog 114 a114 = true := by kernel_rfl
theorem m115 : mfunc Try.prog 115 a115 = true := by kernel_rfl
theorem m116 : mfunc Try.prog 116 a116 = true := by kernel_rfl
theorem m117 : mfunc Try.prog 117 a117 = true := by kernel_rfl
theorem m118 : mfunc Try.prog 118 a118 = true := by kernel_rfl
theorem m119 : mfunc Try.prog 119 a119 = true := by kernel_rfl
theorem m120 : mfunc Try.prog 120 a120 = true := by kernel_rfl
theorem m121 : mfunc Try.prog 121 a121 = true := by kernel_rfl
theorem m122 : mfunc Try.prog 122 a122 = true := by kernel_rfl
theorem m123 : mfunc Try.prog 123 a123 = true := by kernel_rfl
theorem m124 : mfunc Try.prog 124 a124 = true := by kernel_rfl
theorem m125 : mfunc Try.prog 125 a125 = true := by kernel_rfl
theorem m126 : mfunc Try.prog 126 a126 = true := by kernel_rfl
theorem m127 : mfunc Try.prog 127 a127 = true := by kernel_rfl
theorem m128 : mfunc Try.prog 128 a128 = true := by kernel_rfl
theorem m129 : mfunc Try.prog 129 a129 = true := by kernel_rfl
theorem m130 : mfunc Try.prog 130 a130 = true := by kernel_rfl
theorem m131 : mfunc Try.prog 131 a131 = true := by kernel_rfl
theorem m132 : mfunc Try.prog 132 a132 = true := by kernel_rfl
theorem m133 : mfunc Try.prog 133 a133 = true := by kernel_rfl
theorem m134 : mfunc Try.prog 134 a134 = true := by kernel_rfl
theorem m135 : mfunc Try.prog 135 a135 = true := by kernel_rfl
theorem m136 : mfunc Try.prog 136 a136 = true := by kernel_rfl
theorem m137 : mfunc Try.prog 137 a137 = true := by kernel_rfl
theorem m138 : mfunc Try.prog 138 a138 = true := by kernel_rfl
theorem m139 : mfunc Try.prog 139 a139 = true := by kernel_rfl
theorem m140 : mfunc Try.prog 140 a140 = true := by kernel_rfl
theorem m141 : mfunc Try.prog 141 a141 = true := by kernel_rfl
theorem m142 : mfunc Try.prog 142 a142 = true := by kernel_rfl
theorem tab_ok : TabOK Try.prog tab := FTree.ok (t := tree) ⟨⟨⟨⟨⟨⟨⟨trivial, m3, trivial⟩, m14, trivial⟩, m15, ⟨⟨trivial, m16, trivial⟩, m17, trivial⟩⟩, m18, ⟨⟨⟨trivial, m19, trivial⟩, m20, trivial⟩, m21, ⟨⟨trivial, m22, trivial⟩, m23, trivial⟩⟩⟩, m27, ⟨⟨⟨⟨trivial, m30, trivial⟩, m35, trivial⟩, m40, ⟨⟨trivial, m41, trivial⟩, m42, trivial⟩⟩, m53, ⟨⟨⟨trivial, m55, trivial⟩, m60, trivial⟩, m63, ⟨trivial, m64, trivial⟩⟩⟩⟩, m67, ⟨⟨⟨⟨⟨trivial, m69, trivial⟩, m70, trivial⟩, m72, ⟨⟨trivial, m75, trivial⟩, m76, trivial⟩⟩, m77, ⟨⟨⟨trivial, m78, trivial⟩, m79, trivial⟩, m80, ⟨trivial, m81, trivial⟩⟩⟩, m82, ⟨⟨⟨⟨trivial, m83, trivial⟩, m84, trivial⟩, m85, ⟨⟨trivial, m86, trivial⟩, m87, trivial⟩⟩, m88, ⟨⟨⟨trivial, m89, trivial⟩, m90, trivial⟩, m91, ⟨trivial, m93, trivial⟩⟩⟩⟩⟩, m94, ⟨⟨⟨⟨⟨⟨trivial, m95, trivial⟩, m96, trivial⟩, m97, ⟨⟨trivial, m98, trivial⟩, m99, trivial⟩⟩, m100, ⟨⟨⟨trivial, m101, trivial⟩, m102, trivial⟩, m103, ⟨⟨trivial, m105, trivial⟩, m106, trivial⟩⟩⟩, m107, ⟨⟨⟨⟨trivial, m109, trivial⟩, m110, trivial⟩, m113, ⟨⟨trivial, m114, trivial⟩, m115, trivial⟩⟩, m116, ⟨⟨⟨trivial, m117, trivial⟩, m118, trivial⟩, m119, ⟨trivial, m120, trivial⟩⟩⟩⟩, m121, ⟨⟨⟨⟨⟨trivial, m122, trivial⟩, m123, trivial⟩, m124, ⟨⟨trivial, m125, trivial⟩, m126, trivial⟩⟩, m127, ⟨⟨⟨trivial, m128, trivial⟩, m129, trivial⟩, m130, ⟨trivial, m131, trivial⟩⟩⟩, m132, ⟨⟨⟨⟨trivial, m133, trivial⟩, m134, trivial⟩, m135, ⟨⟨trivial, m136, trivial⟩, m137, trivial⟩⟩, m138, ⟨⟨⟨trivial, m139, trivial⟩, m140, trivial⟩, m141, ⟨trivial, m142, trivial⟩⟩⟩⟩⟩⟩
theorem follows : Try.prog.follows .mixedOrders = true := by kernel_rfl
end Go.Proofs.Ytjhdnpmojhkbjaa
/- How contracts are closed for the program. No condition. -/
namespace Go.Proofs.Ytjhdnpmojhkbjaa
def E0 : List Ctr := []
theorem E0_ok : CtrsOK Try.prog E0 := trivial
section
variable {C : Ctx} {K : List Ctr} {n : Nat} {pa acc : List Bool} {fs gs : List AFrame} {h h' : AHeap} {Q : List AFrame → AHeap → Prop}
theorem go (hC : C.P = Try.prog) (hK : CtrsOK Try.prog K) (hw : gwalkL std tab K n pa fs h = some (acc, gs, h')) (hb : AllT acc) (hq : Ev C gs h' Q) : Ev C fs h Q := ev_go (by rw [hC]; exact follows) (by rw [hC]; exact tab_ok) (by rw [hC]; exact hK) hw hb hq
theorem fin (hC : C.P = Try.prog) (hK : CtrsOK Try.prog K) {fn : FuncId} {r r' : AV} {fr fr' : Option Fresh} (hw : gfin std tab K n pa fn fs h = some (acc, r', fr')) (hb : AllT acc) (hr : r' = r) (hfr : fr' = fr) : Ev C fs h (FinQ fn r fr) := ev_end (by rw [hC]; exact follows) (by rw [hC]; exact tab_ok) (by rw [hC]; exact hK) hw hb hr hfr
theorem start {fn : FuncId} {args : List AV} {af : AFrame} {r : AV} {fr : Option Fresh} (he : enterA tab fn args = some af) (hq : ∀ C : Ctx, C.P = Try.prog → Ev C [af] [] (FinQ fn r fr)) : Pure Try.prog fn args r fr := pure_of_ev tab_ok he fun _ _ _ => hq _ rfl
theorem finM (hC : C.P = Try.prog) (hK : CtrsOK Try.prog K) {fn : FuncId} {r r' : AV} {e sz e' sz' : Nat} {y y' : Row} (hw : gfinM std tab K n pa fn fs h = some (acc, r', e', sz', y')) (hb : AllT acc) (hr : r' = r) (he : e' = e) (hs : sz' = sz) (hy : y' = y) : Ev C fs h (FinM fn e sz y r) := ev_endM (by rw [hC]; exact follows) (by rw [hC]; exact tab_ok) (by rw [hC]; exact hK) hw hb hr he hs hy
theorem startM {f : FuncId} {e : TypeId} {sz : Nat} {x y : Row} {args : List AV} {af : AFrame} {r : AV} (he : enterA tab f (.row 0 0 :: args) = some af) (hq : ∀ C : Ctx, C.P = Try.prog → Ev C [af] (frHeap (some ⟨e, sz, x⟩)) (FinM f e sz y r)) : Muts Try.prog f e sz x y args r := mut_of_ev tab_ok he hq
end
theorem new_row {f : FuncId} {args : List AV} {e sz : Nat} {r : Row} (h : Pure Try.prog f args (.row 0 0) (some ⟨e, sz + 1, r⟩)) (hp : r.pure = true) (hs : r.solid = true) : Pure Try.prog f args (.list r) newF :=
  pure_new h rfl (.one (.row _ rfl hp hs))
theorem new_nil {f : FuncId} {args : List AV} {r : Row} (h : Pure Try.prog f args .nils none) (hr : r.elems = []) : Pure Try.prog f args (.list r) newF :=
  pure_new h rfl (.one (.nil r hr))
theorem Rel.same {w : World} {ok : Nat → Prop} {h : AHeap} {L : Lay} {r r' : Row} {v : Value} (he : r.elems = r'.elems) (hr : Rel w ok h L (.list r) v) : Rel w ok h L (.list r') v := by
  cases hr with
  | nil _ a c h0 => exact .nil _ a c (he ▸ h0)
  | list _ xs hx ad n cap sz cs hb hok hn hcap hsz hl h1 hc hp hrr => exact .list r' xs (hx.trans he) ad n cap sz cs hb hok hn hcap hsz hl h1 hc hp hrr
theorem pure_same {f : FuncId} {args : List AV} {r r' : Row} {fr : Option Fresh} (h : Pure Try.prog f args (.list r) fr) (he : r.elems = r'.elems) : Pure Try.prog f args (.list r') fr := by
  intro w okA L vs hargs hok
  refine (h w okA L vs hargs hok).mono ?_
  rintro e w' ⟨x, L', rfl, hb, hp⟩
  refine ⟨x, L', rfl, hb, ?_⟩
  unfold PostC at hp ⊢
  split
  · rename_i hn; rw [hn] at hp; exact Rel.same he hp
  · rename_i hn; rw [hn] at hp; exact ⟨hp.1, Rel.same he hp.2⟩
theorem pure_arg {f : FuncId} {xs ys : List AV} {r r' : Row} {x : AV} {fr : Option Fresh} (h : Pure Try.prog f (xs ++ .list r :: ys) x fr) (he : r'.elems = r.elems) : Pure Try.prog f (xs ++ .list r' :: ys) x fr := by
  intro w okA L vs hargs hok
  refine h w okA L vs ⟨by have := hargs.1; simpa using this, fun j u v hu hv => ?_⟩ hok
  rcases Nat.lt_trichotomy j xs.length with hj | hj | hj
  · rw [List.getElem?_append_left hj] at hu
    exact hargs.2 j u v (by rw [List.getElem?_append_left hj]; exact hu) hv
  · subst hj
    rw [List.getElem?_append_right (Nat.le_refl _)] at hu
    simp only [Nat.sub_self, List.getElem?_cons_zero, Option.some.injEq] at hu
    subst hu
    exact Rel.same he (hargs.2 _ _ v (by rw [List.getElem?_append_right (Nat.le_refl _)]; simp) hv)
  · rw [List.getElem?_append_right (by omega), show j - xs.length = (j - xs.length - 1) + 1 by omega, List.getElem?_cons_succ] at hu
    exact hargs.2 j u v (by rw [List.getElem?_append_right (by omega), show j - xs.length = (j - xs.length - 1) + 1 by omega, List.getElem?_cons_succ]; exact hu) hv
theorem pure_empty {f : FuncId} {r : Row} {x : AV} {fr : Option Fresh} (he : r.elems = []) (h : ∀ ad cap, Pure Try.prog f [.val (.slice ad 0 cap)] x fr) : Pure Try.prog f [.list r] x fr := by
  intro w okA L vs hargs hok
  obtain ⟨h1, h2⟩ := hargs
  obtain ⟨l⟩ := vs
  match l, h1 with
  | [v0], _ =>
    have r0 := h2 0 _ _ rfl rfl
    obtain ⟨ad, cap, rfl⟩ : ∃ ad cap, v0 = .slice ad 0 cap := by
      cases r0 with
      | nil _ a c _ => exact ⟨a, c, rfl⟩
      | list _ xs hx ad n cap sz cs hbb hok hn => rw [he] at hx; subst hx; exact ⟨some ad, cap, by rw [hn]; rfl⟩
    exact h ad cap w okA L _ (RelL.cons (.val _) RelL.nil) hok
inductive Wk1 : AV → AV → Prop
  | nil (r : Row) (h : r.elems = []) : Wk1 .nils (.list r)
  | same (v : AV) : Wk1 v v
def WkL : List AV → List AV → Prop
  | [], [] => True
  | x :: xs, y :: ys => Wk1 x y ∧ WkL xs ys
  | _, _ => False
theorem WkL.spec : ∀ {xs ys : List AV}, WkL xs ys → xs.length = ys.length ∧ ∀ (j : Nat) (y : AV), ys[j]? = some y → ∃ x, xs[j]? = some x ∧ Wk1 x y
  | [], [], _ => ⟨rfl, fun j y h => by simp at h⟩
  | x :: xs, y :: ys, h => by
    obtain ⟨h1, h2⟩ := h
    obtain ⟨e1, e2⟩ := WkL.spec h2
    refine ⟨by simp [e1], fun j z hz => ?_⟩
    cases j with
    | zero => simp at hz; subst hz; exact ⟨x, rfl, h1⟩
    | succ j => obtain ⟨q, q1, q2⟩ := e2 j z (by simpa using hz); exact ⟨q, by simpa using q1, q2⟩
theorem Wk1.rel {w : World} {ok : Nat → Prop} {h : AHeap} {L : Lay} {v v' : AV} {x : Value} (hw : Wk1 v v') (hr : Rel w ok h L v x) : Rel w ok h L v' x := by
  cases hw with
  | nil r h => cases hr with | nils => exact .nil r none 0 h
  | same => exact hr
theorem wk_tup {f : FuncId} {args xs ys : List AV} {fr : Option Fresh} (h : Pure Try.prog f args (.tup xs) fr) (hw : WkL xs ys) : Pure Try.prog f args (.tup ys) fr := by
  intro w okA L vs hargs hok
  refine (h w okA L vs hargs hok).mono ?_
  rintro e w' ⟨x, L', rfl, hb, hp⟩
  obtain ⟨e1, e2⟩ := hw.spec
  have key : ∀ {ok : Nat → Prop} {hh : AHeap}, Rel w' ok hh L' (.tup xs) x → Rel w' ok hh L' (.tup ys) x := fun hr => by
    cases hr with
    | tup _ vs hl hrr =>
      refine .tup _ vs (by rw [← e1]; exact hl) (fun j u v hu hv => ?_)
      obtain ⟨q, q1, q2⟩ := e2 j u hu
      exact q2.rel (hrr j q v q1 hv)
  refine ⟨x, L', rfl, hb, ?_⟩
  unfold PostC at hp ⊢
  split
  · rename_i hn; rw [hn] at hp; exact key hp
  · rename_i hn; rw [hn] at hp; exact ⟨hp.1, key hp.2⟩
end Go.Proofs.Ytjhdnpmojhkbjaa
/- Paths of functions, printed by the explorer (Gx). No condition. -/
namespace Go.Proofs.Ytjhdnpmojhkbjaa
set_option maxRecDepth 100000
set_option linter.unusedVariables false
def f27e (n : Int) (a : Int) (b : Int) : List AFrame := [{ fn := 27, N := 15, env := [(0, AV.int .i64 n), (1, AV.int .i64 a), (2, AV.int .i64 b)], todo := [.code a27.code], defs := [], rnd := none, ret := false, res := [ARes.tmp 6] }]
theorem f27e_at (n : Int) (a : Int) (b : Int) : enterA tab 27 [AV.int .i64 n, AV.int .i64 a, AV.int .i64 b] = some { fn := 27, N := 15, env := [(0, AV.int .i64 n), (1, AV.int .i64 a), (2, AV.int .i64 b)], todo := [.code a27.code], defs := [], rnd := none, ret := false, res := [ARes.tmp 6] } := rfl
theorem f27p0 (A : Ar) (n : Int) (a : Int) (b : Int) : gfin A tab E0 18 [true, true, true, true] 27 (f27e n a b) [] =
  some ([A.and true (A.and true true), true, true, true, true, true, true, true, true, A.le a n, true, true, true, true, true],
   AV.bool (A.le n b), none) := by kernel_rfl
theorem f27p1 (A : Ar) (n : Int) (a : Int) (b : Int) : gfin A tab E0 18 [false, false, false, false] 27 (f27e n a b) [] =
  some ([A.and true (A.and true true), true, true, true, true, true, true, true, true, !A.le a n, true, true, true, true, true],
   AV.bool false, none) := by kernel_rfl
def f87e (n : Int) (a : Int) (b : Int) : List AFrame := [{ fn := 87, N := 15, env := [(0, AV.int .i64 n), (1, AV.int .i64 a), (2, AV.int .i64 b)], todo := [.code a87.code], defs := [], rnd := none, ret := false, res := [ARes.tmp 6] }]
theorem f87e_at (n : Int) (a : Int) (b : Int) : enterA tab 87 [AV.int .i64 n, AV.int .i64 a, AV.int .i64 b] = some { fn := 87, N := 15, env := [(0, AV.int .i64 n), (1, AV.int .i64 a), (2, AV.int .i64 b)], todo := [.code a87.code], defs := [], rnd := none, ret := false, res := [ARes.tmp 6] } := rfl
theorem f87p0 (A : Ar) (n : Int) (a : Int) (b : Int) : gfin A tab E0 18 [true, true, true, true] 87 (f87e n a b) [] =
  some ([A.and true (A.and true true), true, true, true, true, true, true, true, true, A.le a n, true, true, true, true, true],
   AV.bool (A.le n b), none) := by kernel_rfl
theorem f87p1 (A : Ar) (n : Int) (a : Int) (b : Int) : gfin A tab E0 18 [false, false, false, false] 87 (f87e n a b) [] =
  some ([A.and true (A.and true true), true, true, true, true, true, true, true, true, !A.le a n, true, true, true, true, true],
   AV.bool false, none) := by kernel_rfl
def f86e (b : Bool) (e : Int) : List AFrame := [{ fn := 86, N := 7, env := [(0, AV.bool b), (1, AV.int .i64 e)], todo := [.code a86.code], defs := [], rnd := none, ret := false, res := [ARes.tmp 4] }]
theorem f86e_at (b : Bool) (e : Int) : enterA tab 86 [AV.bool b, AV.int .i64 e] = some { fn := 86, N := 7, env := [(0, AV.bool b), (1, AV.int .i64 e)], todo := [.code a86.code], defs := [], rnd := none, ret := false, res := [ARes.tmp 4] } := rfl
theorem f86p0 (A : Ar) (b : Bool) (e : Int) : gfin A tab E0 15 [true] 86 (f86e b e) [] =
  some ([A.and true (A.and true true), true, b, true, true],
   AV.int .i64 0, none) := by kernel_rfl
theorem f86p1 (A : Ar) (b : Bool) (e : Int) : gfin A tab E0 17 [false] 86 (f86e b e) [] =
  some ([A.and true (A.and true true), true, true, !b, true, true],
   AV.int .i64 e, none) := by kernel_rfl
def f84e (xs : List Int) : List AFrame := [{ fn := 84, N := 15, env := [(0, AV.list (.ints .i64 xs))], todo := [.code a84.code], defs := [], rnd := none, ret := false, res := [ARes.tmp 2] }]
theorem f84e_at (xs : List Int) : enterA tab 84 [AV.list (.ints .i64 xs)] = some { fn := 84, N := 15, env := [(0, AV.list (.ints .i64 xs))], todo := [.code a84.code], defs := [], rnd := none, ret := false, res := [ARes.tmp 2] } := rfl
def f84h84_0a (xs : List Int) (n0 : Int) (n1 : Int) : List AFrame := [{ fn := 84, N := 15, env := [(5, AV.list (.ints .i64 xs)), (6, AV.int .i64 n0), (7, AV.int .i64 n1)], todo := .code (ACode.gh [] l84_0) :: k84_0, defs := [], rnd := none, ret := false, res := [ARes.tmp 2] }]
def f84h84_0am (xs : List Int) (n0 : Int) (n1 : Int) : AHeap := []
theorem f84p0 (A : Ar) (xs : List Int) : gwalkL A tab E0 14 [] (f84e xs) [] =
  some ([true, true, true, true],
   f84h84_0a (xs) (A.int (A.len xs)) (0), f84h84_0am (xs) (A.int (A.len xs)) (0)) := by kernel_rfl
theorem f84p1 (A : Ar) (xs : List Int) (n0 : Int) (n1 : Int) : gfin A tab E0 28 [true, true] 84 (f84h84_0a xs n0 n1) (f84h84_0am xs n0 n1) =
  some ([A.and true (A.and true true), true, true, A.not (A.eq (A.nth xs (A.nat n1)) 0), true, true, true, A.eqN 0 0, A.and (A.and (A.le 0 n1) (A.ltN (A.nat n1) (A.len xs))) (A.eqN 1 1), A.lt n1 n0, true],
   AV.int .i64 (A.nth xs (A.nat n1)), none) := by kernel_rfl
theorem f84p2 (A : Ar) (xs : List Int) (n0 : Int) (n1 : Int) : gwalkL A tab E0 30 [true, false] (f84h84_0a xs n0 n1) (f84h84_0am xs n0 n1) =
  some ([true, A.inR .i64 (A.add n1 1), !A.not (A.eq (A.nth xs (A.nat n1)) 0), true, true, true, A.eqN 0 0, A.and (A.and (A.le 0 n1) (A.ltN (A.nat n1) (A.len xs))) (A.eqN 1 1), A.lt n1 n0, true],
   f84h84_0a (xs) (n0) (A.add n1 1), f84h84_0am (xs) (n0) (A.add n1 1)) := by kernel_rfl
theorem f84p3 (A : Ar) (xs : List Int) (n0 : Int) (n1 : Int) : gfin A tab E0 13 [false] 84 (f84h84_0a xs n0 n1) (f84h84_0am xs n0 n1) =
  some ([A.and true (A.and true true), true, !A.lt n1 n0, true],
   AV.int .i64 0, none) := by kernel_rfl
def f55e (xs : List Int) : List AFrame := [{ fn := 55, N := 6, env := [(0, AV.list (.ints .i64 xs))], todo := [.code a55.code], defs := [], rnd := none, ret := false, res := [ARes.tmp 2] }]
theorem f55e_at (xs : List Int) : enterA tab 55 [AV.list (.ints .i64 xs)] = some { fn := 55, N := 6, env := [(0, AV.list (.ints .i64 xs))], todo := [.code a55.code], defs := [], rnd := none, ret := false, res := [ARes.tmp 2] } := rfl
theorem f55p0 (A : Ar) (xs : List Int) : gfin A tab E0 12 [] 55 (f55e xs) [] =
  some ([A.and true (A.and true true), true, A.and (A.and true (A.eqN 1 1)) (A.and (A.eqN 3 3) (A.and (A.eqN 1 1) (A.leN (A.addN 0 (A.len xs)) 4294967296))), true, List.all [] fun x => AV.bx x && Nat.beq (flatLen A x) 1, true],
   AV.row 0 0, some { e := 3, sz := 1, r := .ints .i64 xs }) := by kernel_rfl
def f67e (xs : List Int) (ys : List Int) : List AFrame := [{ fn := 67, N := 26, env := [(0, AV.list (.ints .i64 xs)), (1, AV.list (.ints .i64 ys))], todo := [.code a67.code], defs := [], rnd := none, ret := false, res := [ARes.tmp 4] }]
theorem f67e_at (xs : List Int) (ys : List Int) : enterA tab 67 [AV.list (.ints .i64 xs), AV.list (.ints .i64 ys)] = some { fn := 67, N := 26, env := [(0, AV.list (.ints .i64 xs)), (1, AV.list (.ints .i64 ys))], todo := [.code a67.code], defs := [], rnd := none, ret := false, res := [ARes.tmp 4] } := rfl
def f67h67_0a (xs : List Int) (ys : List Int) (n0 : Int) : List AFrame := [{ fn := 67, N := 26, env := [(0, AV.list (.ints .i64 xs)), (1, AV.list (.ints .i64 ys)), (5, AV.int .i64 n0)], todo := .code (ACode.gh [] l67_0) :: k67_0, defs := [], rnd := none, ret := false, res := [ARes.tmp 4] }]
def f67h67_0am (xs : List Int) (ys : List Int) (n0 : Int) : AHeap := []
theorem f67p0 (A : Ar) (xs : List Int) (ys : List Int) : gfin A tab E0 19 [true] 67 (f67e xs ys) [] =
  some ([A.and true (A.and true true), true, A.not (A.eq (A.int (A.len xs)) (A.int (A.len ys))), true, true, true, true, true, true],
   AV.bool false, none) := by kernel_rfl
theorem f67p1 (A : Ar) (xs : List Int) (ys : List Int) : gwalkL A tab E0 23 [false] (f67e xs ys) [] =
  some ([true, !A.not (A.eq (A.int (A.len xs)) (A.int (A.len ys))), true, true, true, true, true, true],
   f67h67_0a (xs) (ys) (0), f67h67_0am (xs) (ys) (0)) := by kernel_rfl
theorem f67p2 (A : Ar) (xs : List Int) (ys : List Int) (n0 : Int) : gfin A tab E0 22 [true, true] 67 (f67h67_0a xs ys n0) (f67h67_0am xs ys n0) =
  some ([A.and true (A.and true true), true, A.not (A.eq (A.nth xs (A.nat n0)) (A.nth ys (A.nat n0))), true, A.eqN 0 0, A.and (A.and (A.le 0 n0) (A.ltN (A.nat n0) (A.len ys))) (A.eqN 1 1), true, true, A.eqN 0 0, A.and (A.and (A.le 0 n0) (A.ltN (A.nat n0) (A.len xs))) (A.eqN 1 1), true, true, A.lt n0 (A.int (A.len xs)), true, true, true, true],
   AV.bool false, none) := by kernel_rfl
theorem f67p3 (A : Ar) (xs : List Int) (ys : List Int) (n0 : Int) : gwalkL A tab E0 26 [true, false] (f67h67_0a xs ys n0) (f67h67_0am xs ys n0) =
  some ([true, A.inR .i64 (A.add n0 1), true, !A.not (A.eq (A.nth xs (A.nat n0)) (A.nth ys (A.nat n0))), true, A.eqN 0 0, A.and (A.and (A.le 0 n0) (A.ltN (A.nat n0) (A.len ys))) (A.eqN 1 1), true, true, A.eqN 0 0, A.and (A.and (A.le 0 n0) (A.ltN (A.nat n0) (A.len xs))) (A.eqN 1 1), true, true, A.lt n0 (A.int (A.len xs)), true, true, true, true],
   f67h67_0a (xs) (ys) (A.add n0 1), f67h67_0am (xs) (ys) (A.add n0 1)) := by kernel_rfl
theorem f67p4 (A : Ar) (xs : List Int) (ys : List Int) (n0 : Int) : gfin A tab E0 16 [false] 67 (f67h67_0a xs ys n0) (f67h67_0am xs ys n0) =
  some ([A.and true (A.and true true), true, !A.lt n0 (A.int (A.len xs)), true, true, true, true],
   AV.bool true, none) := by kernel_rfl
def f102e (xs : List Int) : List AFrame := [{ fn := 102, N := 8, env := [(0, AV.list (.ints .i64 xs))], todo := [.code a102.code], defs := [], rnd := none, ret := false, res := [ARes.tmp 2] }]
theorem f102e_at (xs : List Int) : enterA tab 102 [AV.list (.ints .i64 xs)] = some { fn := 102, N := 8, env := [(0, AV.list (.ints .i64 xs))], todo := [.code a102.code], defs := [], rnd := none, ret := false, res := [ARes.tmp 2] } := rfl
theorem f102p0 (A : Ar) (xs : List Int) : gfin A tab E0 20 [false] 102 (f102e xs) [] =
  some ([A.and true (A.and true true), true, A.and (A.and true (A.eqN 1 1)) (A.and (A.eqN 3 3) (A.and (A.eqN 1 1) (A.leN (A.addN 0 (A.len xs)) 4294967296))), true, List.all [] fun x => AV.bx x && Nat.beq (flatLen A x) 1, true, A.ltN 0 (A.len xs), true, true],
   AV.row 0 0, some { e := 3, sz := 1, r := .ints .i64 xs }) := by kernel_rfl
def f102ve (ad : Go.Addr) (cap : Nat) : List AFrame := [{ fn := 102, N := 8, env := [(0, AV.val (Go.Value.slice (some ad) 0 cap))], todo := [.code a102.code], defs := [], rnd := none, ret := false, res := [ARes.tmp 2] }]
theorem f102ve_at (ad : Go.Addr) (cap : Nat) : enterA tab 102 [AV.val (Go.Value.slice (some ad) 0 cap)] = some { fn := 102, N := 8, env := [(0, AV.val (Go.Value.slice (some ad) 0 cap))], todo := [.code a102.code], defs := [], rnd := none, ret := false, res := [ARes.tmp 2] } := rfl
theorem f102vp0 (A : Ar) (ad : Go.Addr) (cap : Nat) : gfin A tab E0 20 [false] 102 (f102ve ad cap) [] =
  some ([A.and true (A.and true true), true, A.and (A.and true true) (A.and (A.eqN 3 3) (A.and (A.eqN 1 1) (A.leN (A.addN 0 0) 4294967296))), true, List.all [] fun x => AV.bx x && Nat.beq (flatLen A x) 1, true, true, true, true],
   AV.row 0 0, some { e := 3, sz := 1, r := Row.gen [] }) := by kernel_rfl
def f102we (cap : Nat) : List AFrame := [{ fn := 102, N := 8, env := [(0, AV.val (Go.Value.slice none 0 cap))], todo := [.code a102.code], defs := [], rnd := none, ret := false, res := [ARes.tmp 2] }]
theorem f102we_at (cap : Nat) : enterA tab 102 [AV.val (Go.Value.slice none 0 cap)] = some { fn := 102, N := 8, env := [(0, AV.val (Go.Value.slice none 0 cap))], todo := [.code a102.code], defs := [], rnd := none, ret := false, res := [ARes.tmp 2] } := rfl
theorem f102wp0 (A : Ar) (cap : Nat) : gfin A tab E0 16 [true] 102 (f102we cap) [] =
  some ([A.and true (A.and true true), true, true, true, true, true],
   AV.nils, none) := by kernel_rfl
def f69e (xs : List Int) : List AFrame := [{ fn := 69, N := 16, env := [(0, AV.list (.ints .i64 xs))], todo := [.code a69.code], defs := [], rnd := none, ret := false, res := [ARes.tmp 2] }]
theorem f69e_at (xs : List Int) : enterA tab 69 [AV.list (.ints .i64 xs)] = some { fn := 69, N := 16, env := [(0, AV.list (.ints .i64 xs))], todo := [.code a69.code], defs := [], rnd := none, ret := false, res := [ARes.tmp 2] } := rfl
def f69h69_0a (xs : List Int) (n0 : Int) : List AFrame := [{ fn := 69, N := 16, env := [(0, AV.list (.ints .i64 xs)), (3, AV.int .i64 n0)], todo := .code (ACode.gh [] l69_0) :: k69_0, defs := [], rnd := none, ret := false, res := [ARes.tmp 2] }]
def f69h69_0am (xs : List Int) (n0 : Int) : AHeap := []
theorem f69p0 (A : Ar) (xs : List Int) : gwalkL A tab E0 12 [] (f69e xs) [] =
  some ([true, true],
   f69h69_0a (xs) (0), f69h69_0am (xs) (0)) := by kernel_rfl
theorem f69p1 (A : Ar) (xs : List Int) (n0 : Int) : gfin A tab E0 47 [true, true, true, true, true, true] 69 (f69h69_0a xs n0) (f69h69_0am xs n0) =
  some ([A.and true (A.and true true), true, A.not (A.le (A.nth xs (A.nat n0)) 255), true, true, true, true, true, true, true, true, true, true, A.le 0 (A.nth xs (A.nat n0)), true, true, true, true, true, A.eqN 0 0, A.and (A.and (A.le 0 n0) (A.ltN (A.nat n0) (A.len xs))) (A.eqN 1 1), true, true, A.lt n0 (A.int (A.len xs)), true, true, true, true],
   AV.int .i64 2, none) := by kernel_rfl
theorem f69p2 (A : Ar) (xs : List Int) (n0 : Int) : gwalkL A tab E0 51 [true, true, true, true, true, false] (f69h69_0a xs n0) (f69h69_0am xs n0) =
  some ([true, A.inR .i64 (A.add n0 1), true, !A.not (A.le (A.nth xs (A.nat n0)) 255), true, true, true, true, true, true, true, true, true, true, A.le 0 (A.nth xs (A.nat n0)), true, true, true, true, true, A.eqN 0 0, A.and (A.and (A.le 0 n0) (A.ltN (A.nat n0) (A.len xs))) (A.eqN 1 1), true, true, A.lt n0 (A.int (A.len xs)), true, true, true, true],
   f69h69_0a (xs) (A.add n0 1), f69h69_0am (xs) (A.add n0 1)) := by kernel_rfl
theorem f69p3 (A : Ar) (xs : List Int) (n0 : Int) : gfin A tab E0 47 [true, false, false, false, false, true] 69 (f69h69_0a xs n0) (f69h69_0am xs n0) =
  some ([A.and true (A.and true true), true, A.not false, true, true, true, true, true, true, true, true, true, true, !A.le 0 (A.nth xs (A.nat n0)), true, true, true, true, true, A.eqN 0 0, A.and (A.and (A.le 0 n0) (A.ltN (A.nat n0) (A.len xs))) (A.eqN 1 1), true, true, A.lt n0 (A.int (A.len xs)), true, true, true, true],
   AV.int .i64 2, none) := by kernel_rfl
theorem f69p4 (A : Ar) (xs : List Int) (n0 : Int) : gfin A tab E0 16 [false] 69 (f69h69_0a xs n0) (f69h69_0am xs n0) =
  some ([A.and true (A.and true true), true, !A.lt n0 (A.int (A.len xs)), true, true, true, true],
   AV.int .i64 0, none) := by kernel_rfl
def f127e (xs : List Int) : List AFrame := [{ fn := 127, N := 21, env := [(0, AV.list (.ints .i64 xs)), (1, AV.fn 128 [])], todo := [.code a127.code], defs := [], rnd := none, ret := false, res := [ARes.tmp 4] }]
theorem f127e_at (xs : List Int) : enterA tab 127 [AV.list (.ints .i64 xs), AV.fn 128 []] = some { fn := 127, N := 21, env := [(0, AV.list (.ints .i64 xs)), (1, AV.fn 128 [])], todo := [.code a127.code], defs := [], rnd := none, ret := false, res := [ARes.tmp 4] } := rfl
def f127h127_0a (xs : List Int) (n0 : Int) (n1 : Int) : List AFrame := [{ fn := 127, N := 21, env := [(1, AV.fn 128 []), (8, AV.list (.ints .i64 xs)), (9, AV.int .i64 n0), (10, AV.int .i64 n1)], todo := .code (ACode.gh [] l127_0) :: k127_0, defs := [], rnd := none, ret := false, res := [ARes.tmp 4] }]
def f127h127_0am (xs : List Int) (n0 : Int) (n1 : Int) : AHeap := []
theorem f127p0 (A : Ar) (xs : List Int) : gwalkL A tab E0 14 [] (f127e xs) [] =
  some ([true, true, true, true],
   f127h127_0a (xs) (A.int (A.len xs)) (0), f127h127_0am (xs) (A.int (A.len xs)) (0)) := by kernel_rfl
theorem f127p1 (A : Ar) (xs : List Int) (n0 : Int) (n1 : Int) : gwalkL A tab E0 97 [true, true, true, true, true, true, false] (f127h127_0a xs n0 n1) (f127h127_0am xs n0 n1) =
  some ([true, A.inR .i64 (A.add n1 1), !A.not (A.eq 0 0), true, true, true, true, true, true, true, A.le (A.nth xs (A.nat n1)) 255, true, true, true, true, true, true, true, true, true, true, true, true, true, A.le 0 (A.nth xs (A.nat n1)), true, true, true, true, true, true, true, true, true, true, true, true, A.eqN 0 0, A.and (A.and (A.le 0 n1) (A.ltN (A.nat n1) (A.len xs))) (A.eqN 1 1), A.lt n1 n0, true],
   f127h127_0a (xs) (n0) (A.add n1 1), f127h127_0am (xs) (n0) (A.add n1 1)) := by kernel_rfl
theorem f127p2 (A : Ar) (xs : List Int) (n0 : Int) (n1 : Int) : gfin A tab E0 97 [true, true, true, true, true, false, true] 127 (f127h127_0a xs n0 n1) (f127h127_0am xs n0 n1) =
  some ([A.and true (A.and true true), true, true, A.not (A.eq 2 0), true, true, true, true, true, true, true, true, !A.le (A.nth xs (A.nat n1)) 255, true, true, true, true, true, true, true, true, true, true, true, true, true, A.le 0 (A.nth xs (A.nat n1)), true, true, true, true, true, true, true, true, true, true, true, true, A.eqN 0 0, A.and (A.and (A.le 0 n1) (A.ltN (A.nat n1) (A.len xs))) (A.eqN 1 1), A.lt n1 n0, true],
   AV.int .i64 2, none) := by kernel_rfl
theorem f127p3 (A : Ar) (xs : List Int) (n0 : Int) (n1 : Int) : gfin A tab E0 97 [true, false, false, false, false, false, true] 127 (f127h127_0a xs n0 n1) (f127h127_0am xs n0 n1) =
  some ([A.and true (A.and true true), true, true, A.not (A.eq 2 0), true, true, true, true, true, true, true, true, true, true, true, true, true, true, true, true, true, true, true, true, true, true, !A.le 0 (A.nth xs (A.nat n1)), true, true, true, true, true, true, true, true, true, true, true, true, A.eqN 0 0, A.and (A.and (A.le 0 n1) (A.ltN (A.nat n1) (A.len xs))) (A.eqN 1 1), A.lt n1 n0, true],
   AV.int .i64 2, none) := by kernel_rfl
theorem f127p4 (A : Ar) (xs : List Int) (n0 : Int) (n1 : Int) : gfin A tab E0 13 [false] 127 (f127h127_0a xs n0 n1) (f127h127_0am xs n0 n1) =
  some ([A.and true (A.and true true), true, !A.lt n1 n0, true],
   AV.int .i64 0, none) := by kernel_rfl
def f53e (n : Int) (m : Int) : List AFrame := [{ fn := 53, N := 14, env := [(0, AV.int .i64 n), (1, AV.int .i64 m)], todo := [.code a53.code], defs := [], rnd := none, ret := false, res := [ARes.tmp 4] }]
theorem f53e_at (n : Int) (m : Int) : enterA tab 53 [AV.int .i64 n, AV.int .i64 m] = some { fn := 53, N := 14, env := [(0, AV.int .i64 n), (1, AV.int .i64 m)], todo := [.code a53.code], defs := [], rnd := none, ret := false, res := [ARes.tmp 4] } := rfl
theorem f53p0 (A : Ar) (n : Int) (m : Int) : gfin A tab E0 30 [true] 53 (f53e n m) [] =
  some ([A.and true (A.and true true), true, true, true, A.inR .i64 (A.add (A.rem n m) m), true, true, A.lt (A.rem n m) 0, true, true, true, A.not (A.eq m 0), true, true, true],
   AV.int .i64 (A.add (A.rem n m) m), none) := by kernel_rfl
theorem f53p1 (A : Ar) (n : Int) (m : Int) : gfin A tab E0 25 [false] 53 (f53e n m) [] =
  some ([A.and true (A.and true true), true, true, !A.lt (A.rem n m) 0, true, true, true, A.not (A.eq m 0), true, true, true],
   AV.int .i64 (A.rem n m), none) := by kernel_rfl
def f70e (n : Int) : List AFrame := [{ fn := 70, N := 7, env := [(0, AV.int .i64 n)], todo := [.code a70.code], defs := [], rnd := none, ret := false, res := [ARes.tmp 2] }]
theorem f70e_at (n : Int) : enterA tab 70 [AV.int .i64 n] = some { fn := 70, N := 7, env := [(0, AV.int .i64 n)], todo := [.code a70.code], defs := [], rnd := none, ret := false, res := [ARes.tmp 2] } := rfl
theorem f70p0 (A : Ar) (n : Int) : gfin A tab E0 13 [] 70 (f70e n) [] =
  some ([A.and true (A.and true true), true, true, A.inR .i64 (A.neg n), true, true, true],
   AV.int .i64 (A.max n (A.neg n)), none) := by kernel_rfl
end Go.Proofs.Ytjhdnpmojhkbjaa
/- Contracts as a list. No condition. -/
namespace Go.Proofs.Ytjhdnpmojhkbjaa
@[simp] theorem s_lenA (l : List AV) : std.lenA l = l.length := rfl
@[simp] theorem s_nthA (l : List AV) (j : Nat) : std.nthA l j = l.getD j .top := rfl
@[simp] theorem s_appA (a b : List AV) : std.appA a b = a ++ b := rfl
@[simp] theorem s_setA (l : List AV) (j : Nat) (x : AV) : std.setA l j x = l.set j x := rfl
@[simp] theorem s_subA (l : List AV) (k n : Nat) : std.subA l k n = (l.drop k).take n := rfl
theorem ints_loop {C : Ctx} (hC : C.P = Try.prog) (xs ys : List Int) (hl : xs.length = ys.length) (hlen : xs.length ≤ 1000000) : ∀ (d i : Nat), xs.length - i = d → i ≤ xs.length → xs.take i = ys.take i →
    Ev C (f67h67_0a xs ys i) (f67h67_0am xs ys i) (FinQ 67 (.bool (decide (xs = ys))) none) := by
  intro d
  induction d with
  | zero =>
    intro i hd hi ht
    have hi : i = xs.length := by omega
    have he : xs = ys := by rw [hi] at ht; rw [List.take_length, hl, List.take_length] at ht; exact ht
    exact fin hC E0_ok (f67p4 std xs ys i) (by simp; omega) (by simp [he]) rfl
  | succ d ih =>
    intro i hd hi ht
    have hlt : i < xs.length := by omega
    by_cases hx : xs[i]? = ys[i]?
    · refine go hC E0_ok (f67p3 std xs ys i) (by simp [hx]; omega) ?_
      exact ih (i + 1) (by omega) (by omega) (by
        have h3 : xs[i]'hlt = ys[i]'(by omega) := by
          rw [List.getElem?_eq_getElem hlt, List.getElem?_eq_getElem (show i < ys.length by omega)] at hx
          exact Option.some.inj hx
        rw [List.take_succ_eq_append_getElem hlt, List.take_succ_eq_append_getElem (show i < ys.length by omega), ht, h3])
    · have h3 : xs[i]'hlt ≠ ys[i]'(by omega) := by
        rw [List.getElem?_eq_getElem hlt, List.getElem?_eq_getElem (show i < ys.length by omega)] at hx
        exact fun e => hx (by rw [e])
      exact fin hC E0_ok (f67p2 std xs ys i) (by simp [hlt, show i < ys.length by omega, h3]) (by
        have : xs ≠ ys := fun e => hx (by rw [e])
        simp [this]) rfl
theorem ints_ok (xs ys : List Int) (hlen : xs.length ≤ 1000000) : Pure Try.prog 67 [.list (.ints .i64 xs), .list (.ints .i64 ys)] (.bool (decide (xs = ys))) none :=
  start (f67e_at xs ys) fun C hC => by
    by_cases hl : xs.length = ys.length
    · exact go hC E0_ok (f67p1 std xs ys) (by simp; omega) (ints_loop hC xs ys hl hlen xs.length 0 (by omega) (by omega) rfl)
    · refine fin hC E0_ok (f67p0 std xs ys) (by simp; omega) ?_ rfl
      have : xs ≠ ys := fun e => hl (by rw [e])
      simp [this]
theorem copy_row (xs : List Int) (hx : xs.length ≤ 4294967296) : Pure Try.prog 55 [.list (.ints .i64 xs)] (.row 0 0) (some ⟨3, 1, .ints .i64 xs⟩) :=
  start (f55e_at xs) fun C hC => fin hC E0_ok (f55p0 std xs) (by simp; omega) rfl rfl
theorem copy_new (xs : List Int) (hx : xs.length ≤ 4294967296) : Pure Try.prog 55 [.list (.ints .i64 xs)] (.list (.ints .i64 xs)) newF := new_row (copy_row xs hx) rfl rfl
def firstE : List Int → Int
  | [] => 0
  | x :: xs => if x = 0 then firstE xs else x
theorem first_loop {C : Ctx} (hC : C.P = Try.prog) (xs : List Int) (hlen : xs.length ≤ 1000000) : ∀ (d i : Nat), xs.length - i = d → i ≤ xs.length →
    Ev C (f84h84_0a xs xs.length i) (f84h84_0am xs xs.length i) (FinQ 84 (.int .i64 (firstE (xs.drop i))) none) := by
  intro d
  induction d with
  | zero =>
    intro i hd hi
    exact fin hC E0_ok (f84p3 std xs xs.length i) (by simp; omega) (by rw [List.drop_of_length_le (by omega)]; rfl) rfl
  | succ d ih =>
    intro i hd hi
    have hlt : i < xs.length := by omega
    by_cases hx : xs[i]'hlt = 0
    · refine go hC E0_ok (f84p2 std xs xs.length i) (by simp [hlt, hx]; omega) ?_
      have := ih (i + 1) (by omega) (by omega)
      rw [List.drop_eq_getElem_cons hlt, firstE, if_pos hx]
      exact this
    · exact fin hC E0_ok (f84p1 std xs xs.length i) (by simp [hlt, hx]) (by rw [List.drop_eq_getElem_cons hlt, firstE, if_neg hx]; simp [hlt]) rfl
theorem first_ok (xs : List Int) (hlen : xs.length ≤ 1000000) : Pure Try.prog 84 [.list (.ints .i64 xs)] (.int .i64 (firstE xs)) none :=
  start (f84e_at xs) fun C hC => go hC E0_ok (f84p0 std xs) (by simp) (first_loop hC xs hlen xs.length 0 (by omega) (by omega))
theorem within27_ok (n a b : Int) : Pure Try.prog 27 [.int .i64 n, .int .i64 a, .int .i64 b] (.bool (decide (a ≤ n ∧ n ≤ b))) none :=
  start (f27e_at n a b) fun C hC => by
    by_cases h1 : a ≤ n
    · exact fin hC E0_ok (f27p0 std n a b) (by simp [h1]) (by simp [h1]) rfl
    · exact fin hC E0_ok (f27p1 std n a b) (by simp; omega) (by simp [h1]) rfl
theorem within87_ok (n a b : Int) : Pure Try.prog 87 [.int .i64 n, .int .i64 a, .int .i64 b] (.bool (decide (a ≤ n ∧ n ≤ b))) none :=
  start (f87e_at n a b) fun C hC => by
    by_cases h1 : a ≤ n
    · exact fin hC E0_ok (f87p0 std n a b) (by simp [h1]) (by simp [h1]) rfl
    · exact fin hC E0_ok (f87p1 std n a b) (by simp; omega) (by simp [h1]) rfl
def unlessE (b : Bool) (e : Int) : Int := if b = true then 0 else e
@[simp] theorem unlessE_t (e : Int) : unlessE true e = 0 := rfl
@[simp] theorem unlessE_f (e : Int) : unlessE false e = e := rfl
theorem unless_ok (b : Bool) (e : Int) : Pure Try.prog 86 [.bool b, .int .i64 e] (.int .i64 (unlessE b e)) none :=
  start (f86e_at b e) fun C hC => by
    cases b with
    | true => exact fin hC E0_ok (f86p0 std true e) (by simp) rfl rfl
    | false => exact fin hC E0_ok (f86p1 std false e) (by simp) rfl rfl
def byteB (x : Int) : Bool := decide (0 ≤ x ∧ x ≤ 255)
def bytesE (xs : List Int) : Int := if xs.all byteB = true then 0 else 2
theorem bytesE_cons {x : Int} {xs : List Int} (h : 0 ≤ x ∧ x ≤ 255) : bytesE (x :: xs) = bytesE xs := by simp [bytesE, byteB, h]
theorem bytesE_bad {x : Int} {xs : List Int} (h : ¬ (0 ≤ x ∧ x ≤ 255)) : bytesE (x :: xs) = 2 := by simp [bytesE, byteB, h]
theorem l69 {C : Ctx} (hC : C.P = Try.prog) (xs : List Int) (hlen : xs.length ≤ 1000000) : ∀ (d i : Nat), xs.length - i = d → i ≤ xs.length →
    Ev C (f69h69_0a xs i) (f69h69_0am xs i) (FinQ 69 (.int .i64 (bytesE (xs.drop i))) none) := by
  intro d
  induction d with
  | zero =>
    intro i hd hi
    exact fin hC E0_ok (f69p4 std xs i) (by simp; omega) (by rw [List.drop_of_length_le (by omega)]; rfl) rfl
  | succ d ih =>
    intro i hd hi
    have hlt : i < xs.length := by omega
    rw [List.drop_eq_getElem_cons hlt]
    by_cases h1 : 0 ≤ xs[i]
    · by_cases h2 : xs[i] ≤ 255
      · rw [bytesE_cons ⟨h1, h2⟩]
        exact go hC E0_ok (f69p2 std xs i) (by simp [hlt, h1, h2]; omega) (ih (i + 1) (by omega) (by omega))
      · rw [bytesE_bad (fun h => h2 h.2)]
        exact fin hC E0_ok (f69p1 std xs i) (by simp [hlt, h1]; omega) rfl rfl
    · rw [bytesE_bad (fun h => h1 h.1)]
      exact fin hC E0_ok (f69p3 std xs i) (by simp [hlt]; omega) rfl rfl
theorem bytes69_ok (xs : List Int) (hlen : xs.length ≤ 1000000) : Pure Try.prog 69 [.list (.ints .i64 xs)] (.int .i64 (bytesE xs)) none :=
  start (f69e_at xs) fun C hC => go hC E0_ok (f69p0 std xs) (by simp) (l69 hC xs hlen xs.length 0 (by omega) (by omega))
theorem l127 {C : Ctx} (hC : C.P = Try.prog) (xs : List Int) (hlen : xs.length ≤ 1000000) : ∀ (d i : Nat), xs.length - i = d → i ≤ xs.length →
    Ev C (f127h127_0a xs xs.length i) (f127h127_0am xs xs.length i) (FinQ 127 (.int .i64 (bytesE (xs.drop i))) none) := by
  intro d
  induction d with
  | zero =>
    intro i hd hi
    exact fin hC E0_ok (f127p4 std xs xs.length i) (by simp; omega) (by rw [List.drop_of_length_le (by omega)]; rfl) rfl
  | succ d ih =>
    intro i hd hi
    have hlt : i < xs.length := by omega
    rw [List.drop_eq_getElem_cons hlt]
    by_cases h1 : 0 ≤ xs[i]
    · by_cases h2 : xs[i] ≤ 255
      · rw [bytesE_cons ⟨h1, h2⟩]
        exact go hC E0_ok (f127p1 std xs xs.length i) (by simp [hlt, h1, h2]; omega) (ih (i + 1) (by omega) (by omega))
      · rw [bytesE_bad (fun h => h2 h.2)]
        exact fin hC E0_ok (f127p2 std xs xs.length i) (by simp [hlt, h1]; omega) rfl rfl
    · rw [bytesE_bad (fun h => h1 h.1)]
      exact fin hC E0_ok (f127p3 std xs xs.length i) (by simp [hlt]; omega) rfl rfl
theorem each127_ok (xs : List Int) (hlen : xs.length ≤ 1000000) : Pure Try.prog 127 [.list (.ints .i64 xs), .fn 128 []] (.int .i64 (bytesE xs)) none :=
  start (f127e_at xs) fun C hC => go hC E0_ok (f127p0 std xs) (by simp) (l127 hC xs hlen xs.length 0 (by omega) (by omega))
def smallB (x : Int) : Bool := decide (-1000000 ≤ x ∧ x ≤ 1000000)
theorem tmodR (a : Int) {m : Int} (h : 0 < m) : -m < a.tmod m ∧ a.tmod m < m := ⟨by have := Int.lt_tmod_of_pos a h; omega, Int.tmod_lt_of_pos a h⟩
theorem clone_val (ad : Option Addr) (cap : Nat) : Pure Try.prog 102 [.val (.slice ad 0 cap)] (.list (.ints .i64 [])) newF := by
  cases ad with
  | none => exact new_nil (start (f102we_at cap) fun C hC => fin hC E0_ok (f102wp0 std cap) (by simp) rfl rfl) rfl
  | some ad =>
    have := start (f102ve_at ad cap) fun C hC => fin hC E0_ok (f102vp0 std ad cap) (by simp) rfl rfl
    exact pure_same (new_row this rfl rfl) rfl
theorem clone_row (xs : List Int) (h : 0 < xs.length ∧ xs.length ≤ 4294967296) : Pure Try.prog 102 [.list (.ints .i64 xs)] (.row 0 0) (some ⟨3, 1, .ints .i64 xs⟩) :=
  start (f102e_at xs) fun C hC => fin hC E0_ok (f102p0 std xs) (by simp; omega) rfl rfl
theorem clone_ok (xs : List Int) (h : xs.length ≤ 4294967296) : Pure Try.prog 102 [.list (.ints .i64 xs)] (.list (.ints .i64 xs)) newF := by
  by_cases h0 : 0 < xs.length
  · exact new_row (clone_row xs ⟨h0, h⟩) rfl rfl
  · have : xs = [] := List.eq_nil_of_length_eq_zero (by omega)
    subst this
    exact pure_empty rfl (fun ad cap => clone_val ad cap)
def modI (n m : Int) : Int := if n.tmod m < 0 then n.tmod m + m else n.tmod m
theorem mod53_ok (n m : Int) (h : 1 ≤ m ∧ m ≤ 1000000000000) : Pure Try.prog 53 [.int .i64 n, .int .i64 m] (.int .i64 (modI n m)) none :=
  start (f53e_at n m) fun C hC => by
    have hm : m ≠ 0 := by omega
    have hlt := Int.tmod_lt_of_pos n (show 0 < m by omega)
    by_cases h1 : n.tmod m < 0
    · have h2 : -m < n.tmod m := by exact (tmodR n (show 0 < m by omega)).1
      exact fin hC E0_ok (f53p0 std n m) (by simp [hm, h1]; omega) (by simp [modI, h1]) rfl
    · exact fin hC E0_ok (f53p1 std n m) (by simp [hm]; omega) (by simp [modI, h1]) rfl
def sizeI (n : Int) : Int := max n (-n)
theorem size70_ok (n : Int) (h : smallB n = true) : Pure Try.prog 70 [.int .i64 n] (.int .i64 (sizeI n)) none :=
  start (f70e_at n) fun C hC => fin hC E0_ok (f70p0 std n) (by simp [smallB] at h ⊢; omega) rfl rfl
def k27 : Ctr := ⟨27, 0, fun _ a => match a with | [.int .i64 n, .int .i64 a, .int .i64 b] => some (true, .bool (decide (a ≤ n ∧ n ≤ b)), none) | _ => none⟩
theorem k27_ok : k27.OK Try.prog := fun pa args r fr h => by
  simp only [k27] at h
  split at h
  · cases h
    exact within27_ok _ _ _
  · cases h
def k87 : Ctr := ⟨87, 0, fun _ a => match a with | [.int .i64 n, .int .i64 a, .int .i64 b] => some (true, .bool (decide (a ≤ n ∧ n ≤ b)), none) | _ => none⟩
theorem k87_ok : k87.OK Try.prog := fun pa args r fr h => by
  simp only [k87] at h
  split at h
  · cases h
    exact within87_ok _ _ _
  · cases h
def k86 : Ctr := ⟨86, 0, fun _ a => match a with | [.bool b, .int .i64 e] => some (true, .int .i64 (unlessE b e), none) | _ => none⟩
theorem k86_ok : k86.OK Try.prog := fun pa args r fr h => by
  simp only [k86] at h
  split at h
  · cases h
    exact unless_ok _ _
  · cases h
def k84 : Ctr := ⟨84, 0, fun _ a => match a with | [.list (.ints .i64 xs)] => some (decide (xs.length ≤ 1000000), .int .i64 (firstE xs), none) | _ => none⟩
theorem k84_ok : k84.OK Try.prog := fun pa args r fr h => by
  simp only [k84] at h
  split at h
  · simp only [Option.some.injEq, Prod.mk.injEq, decide_eq_true_eq] at h
    obtain ⟨h0, rfl, rfl⟩ := h
    exact first_ok _ h0
  · cases h
def k55 : Ctr := ⟨55, 0, fun _ a => match a with | [.list (.ints .i64 xs)] => some (decide (xs.length ≤ 4294967296), .list (.ints .i64 xs), newF) | _ => none⟩
theorem k55_ok : k55.OK Try.prog := fun pa args r fr h => by
  simp only [k55] at h
  split at h
  · simp only [Option.some.injEq, Prod.mk.injEq, decide_eq_true_eq] at h
    obtain ⟨h0, rfl, rfl⟩ := h
    exact copy_new _ h0
  · cases h
def k67 : Ctr := ⟨67, 0, fun _ a => match a with | [.list (.ints .i64 xs), .list (.ints .i64 ys)] => some (decide (xs.length ≤ 1000000), .bool (decide (xs = ys)), none) | _ => none⟩
theorem k67_ok : k67.OK Try.prog := fun pa args r fr h => by
  simp only [k67] at h
  split at h
  · simp only [Option.some.injEq, Prod.mk.injEq, decide_eq_true_eq] at h
    obtain ⟨h0, rfl, rfl⟩ := h
    exact ints_ok _ _ h0
  · cases h
def k69 : Ctr := ⟨69, 0, fun _ a => match a with | [.list (.ints .i64 xs)] => some (decide (xs.length ≤ 1000000), .int .i64 (bytesE xs), none) | _ => none⟩
theorem k69_ok : k69.OK Try.prog := fun pa args r fr h => by
  simp only [k69] at h
  split at h
  · simp only [Option.some.injEq, Prod.mk.injEq, decide_eq_true_eq] at h
    obtain ⟨h0, rfl, rfl⟩ := h
    exact bytes69_ok _ h0
  · cases h
def k127 : Ctr := ⟨127, 0, fun _ a => match a with | [.list (.ints .i64 xs), .fn 128 []] => some (decide (xs.length ≤ 1000000), .int .i64 (bytesE xs), none) | _ => none⟩
theorem k127_ok : k127.OK Try.prog := fun pa args r fr h => by
  simp only [k127] at h
  split at h
  · simp only [Option.some.injEq, Prod.mk.injEq, decide_eq_true_eq] at h
    obtain ⟨h0, rfl, rfl⟩ := h
    exact each127_ok _ h0
  · cases h
def k102 : Ctr := ⟨102, 0, fun _ a => match a with | [.list (.ints .i64 xs)] => some (decide (xs.length ≤ 4294967296), .list (.ints .i64 xs), newF) | _ => none⟩
theorem k102_ok : k102.OK Try.prog := fun pa args r fr h => by
  simp only [k102] at h
  split at h
  · simp only [Option.some.injEq, Prod.mk.injEq, decide_eq_true_eq] at h
    obtain ⟨h0, rfl, rfl⟩ := h
    exact clone_ok _ h0
  · cases h
def k53 : Ctr := ⟨53, 0, fun _ a => match a with | [.int .i64 n, .int .i64 m] => some (decide (1 ≤ m ∧ m ≤ 1000000000000), .int .i64 (modI n m), none) | _ => none⟩
theorem k53_ok : k53.OK Try.prog := fun pa args r fr h => by
  simp only [k53] at h
  split at h
  · simp only [Option.some.injEq, Prod.mk.injEq, decide_eq_true_eq] at h
    obtain ⟨h0, rfl, rfl⟩ := h
    exact mod53_ok _ _ h0
  · cases h
def k70 : Ctr := ⟨70, 0, fun _ a => match a with | [.int .i64 n] => some (decide (smallB n = true), .int .i64 (sizeI n), none) | _ => none⟩
theorem k70_ok : k70.OK Try.prog := fun pa args r fr h => by
  simp only [k70] at h
  split at h
  · simp only [Option.some.injEq, Prod.mk.injEq, decide_eq_true_eq] at h
    obtain ⟨h0, rfl, rfl⟩ := h
    exact size70_ok _ h0
  · cases h
def B1 : List Ctr := [k27, k87, k86, k84, k55, k67, k69, k127, k102, k53, k70]
theorem B1_ok : CtrsOK Try.prog B1 := ⟨k27_ok, ⟨k87_ok, ⟨k86_ok, ⟨k84_ok, ⟨k55_ok, ⟨k67_ok, ⟨k69_ok, ⟨k127_ok, ⟨k102_ok, ⟨k53_ok, ⟨k70_ok, trivial⟩⟩⟩⟩⟩⟩⟩⟩⟩⟩⟩
end Go.Proofs.Ytjhdnpmojhkbjaa
