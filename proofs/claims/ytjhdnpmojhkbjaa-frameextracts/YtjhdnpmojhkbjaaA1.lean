/- Every code of the table stands for the program's. Printed by gentab.py. -/
import Derived.Test.YtjhdnpmojhkbjaaTa
import Derived.Test.YtjhdnpmojhkbjaaChecked
import Derived.KernelRfl
namespace Go.Proofs.Ytjhdnpmojhkbjaa
set_option maxRecDepth 100000
theorem m3 : Zao Try.prog 3 a3 = true := by kernel_rfl
theorem m14 : Zao Try.prog 14 a14 = true := by kernel_rfl
theorem m15 : Zao Try.prog 15 a15 = true := by kernel_rfl
theorem m16 : Zao Try.prog 16 a16 = true := by kernel_rfl
theorem m17 : Zao Try.prog 17 a17 = true := by kernel_rfl
theorem m18 : Zao Try.prog 18 a18 = true := by kernel_rfl
theorem m19 : Zao Try.prog 19 a19 = true := by kernel_rfl
theorem m20 : Zao Try.prog 20 a20 = true := by kernel_rfl
theorem m21 : Zao Try.prog 21 a21 = true := by kernel_rfl
theorem m22 : Zao Try.prog 22 a22 = true := by kernel_rfl
theorem m23 : Zao Try.prog 23 a23 = true := by kernel_rfl
theorem m27 : Zao Try.prog 27 a27 = true := by kernel_rfl
theorem m30 : Zao Try.prog 30 a30 = true := by kernel_rfl
theorem m35 : Zao Try.prog 35 a35 = true := by kernel_rfl
theorem m40 : Zao Try.prog 40 a40 = true := by kernel_rfl
theorem m41 : Zao Try.prog 41 a41 = true := by kernel_rfl
theorem m42 : Zao Try.prog 42 a42 = true := by kernel_rfl
theorem m53 : Zao Try.prog 53 a53 = true := by kernel_rfl
theorem m55 : Zao Try.prog 55 a55 = true := by kernel_rfl
theorem m60 : Zao Try.prog 60 a60 = true := by kernel_rfl
theorem m63 : Zao Try.prog 63 a63 = true := by kernel_rfl
theorem m64 : Zao Try.prog 64 a64 = true := by kernel_rfl
theorem m67 : Zao Try.prog 67 a67 = true := by kernel_rfl
theorem m69 : Zao Try.prog 69 a69 = true := by kernel_rfl
theorem m70 : Zao Try.prog 70 a70 = true := by kernel_rfl
theorem m72 : Zao Try.prog 72 a72 = true := by kernel_rfl
theorem m75 : Zao Try.prog 75 a75 = true := by kernel_rfl
theorem m76 : Zao Try.prog 76 a76 = true := by kernel_rfl
theorem m77 : Zao Try.prog 77 a77 = true := by kernel_rfl
theorem m78 : Zao Try.prog 78 a78 = true := by kernel_rfl
theorem m79 : Zao Try.prog 79 a79 = true := by kernel_rfl
theorem m80 : Zao Try.prog 80 a80 = true := by kernel_rfl
theorem m81 : Zao Try.prog 81 a81 = true := by kernel_rfl
theorem m82 : Zao Try.prog 82 a82 = true := by kernel_rfl
theorem m83 : Zao Try.prog 83 a83 = true := by kernel_rfl
theorem m84 : Zao Try.prog 84 a84 = true := by kernel_rfl
theorem m85 : Zao Try.prog 85 a85 = true := by kernel_rfl
theorem m86 : Zao Try.prog 86 a86 = true := by kernel_rfl
theorem m87 : Zao Try.prog 87 a87 = true := by kernel_rfl
theorem m88 : Zao Try.prog 88 a88 = true := by kernel_rfl
theorem m89 : Zao Try.prog 89 a89 = true := by kernel_rfl
theorem m90 : Zao Try.prog 90 a90 = true := by kernel_rfl
theorem m91 : Zao Try.prog 91 a91 = true := by kernel_rfl
theorem m93 : Zao Try.prog 93 a93 = true := by kernel_rfl
theorem m94 : Zao Try.prog 94 a94 = true := by kernel_rfl
theorem m95 : Zao Try.prog 95 a95 = true := by kernel_rfl
theorem m96 : Zao Try.prog 96 a96 = true := by kernel_rfl
theorem m97 : Zao Try.prog 97 a97 = true := by kernel_rfl
theorem m98 : Zao Try.prog 98 a98 = true := by kernel_rfl
theorem m99 : Zao Try.prog 99 a99 = true := by kernel_rfl
theorem ZMk : Zao Try.prog 100 a100 = true := by kernel_rfl
theorem ZMe : Zao Try.prog 101 ZKp = true := by kernel_rfl
theorem ZLE : Zao Try.prog 102 a102 = true := by kernel_rfl
theorem ZKF : Zao Try.prog 103 ZKg = true := by kernel_rfl
theorem ZMj : Zao Try.prog 105 ZKc = true := by kernel_rfl
theorem ZL6 : Zao Try.prog 106 ZKB = true := by kernel_rfl
theorem ZMb : Zao Try.prog 107 ZKy = true := by kernel_rfl
theorem ZKU : Zao Try.prog 109 ZKs = true := by kernel_rfl
theorem ZLg : Zao Try.prog 110 a110 = true := by kernel_rfl
theorem ZK7 : Zao Try.prog 113 a113 = true := by kernel_rfl
theorem ZLA : Zao Try.prog 114 ZKn = true := by kernel_rfl
theorem ZMu : Zao Try.prog 115 a115 = true := by kernel_rfl
theorem ZLb : Zao Try.prog 116 a116 = true := by kernel_rfl
theorem ZLU : Zao Try.prog 117 a117 = true := by kernel_rfl
theorem ZLu : Zao Try.prog 118 a118 = true := by kernel_rfl
theorem ZLB : Zao Try.prog 119 a119 = true := by kernel_rfl
theorem ZLv : Zao Try.prog 120 a120 = true := by kernel_rfl
theorem ZLX : Zao Try.prog 121 a121 = true := by kernel_rfl
theorem ZMg : Zao Try.prog 122 a122 = true := by kernel_rfl
theorem ZLd : Zao Try.prog 123 a123 = true := by kernel_rfl
theorem ZK5 : Zao Try.prog 124 ZKD = true := by kernel_rfl
theorem ZMz : Zao Try.prog 125 ZKt = true := by kernel_rfl
theorem ZLR : Zao Try.prog 126 ZJY = true := by kernel_rfl
theorem ZLa : Zao Try.prog 127 a127 = true := by kernel_rfl
theorem ZKE : Zao Try.prog 128 ZKo = true := by kernel_rfl
theorem ZLk : Zao Try.prog 129 ZJ8 = true := by kernel_rfl
theorem ZMl : Zao Try.prog 130 ZJ3 = true := by kernel_rfl
theorem ZLD : Zao Try.prog 131 a131 = true := by kernel_rfl
theorem ZMn : Zao Try.prog 132 ZKC = true := by kernel_rfl
theorem ZK8 : Zao Try.prog 133 ZKa = true := by kernel_rfl
theorem ZMy : Zao Try.prog 134 ZKb = true := by kernel_rfl
theorem ZKT : Zao Try.prog 135 ZKe = true := by kernel_rfl
theorem ZKW : Zao Try.prog 136 ZKk = true := by kernel_rfl
theorem ZKP : Zao Try.prog 137 a137 = true := by kernel_rfl
theorem ZLi : Zao Try.prog 138 ZKh = true := by kernel_rfl
theorem ZLx : Zao Try.prog 139 a139 = true := by kernel_rfl
theorem ZKJ : Zao Try.prog 140 a140 = true := by kernel_rfl
theorem ZLM : Zao Try.prog 141 a141 = true := by kernel_rfl
theorem ZL5 : Zao Try.prog 142 a142 = true := by kernel_rfl
theorem Ziv : Zcg Try.prog tab := FTree.ok (t := tree) ⟨⟨⟨⟨⟨⟨⟨trivial, m3, trivial⟩, m14, trivial⟩, m15, ⟨⟨trivial, m16, trivial⟩, m17, trivial⟩⟩, m18, ⟨⟨⟨trivial, m19, trivial⟩, m20, trivial⟩, m21, ⟨⟨trivial, m22, trivial⟩, m23, trivial⟩⟩⟩, m27, ⟨⟨⟨⟨trivial, m30, trivial⟩, m35, trivial⟩, m40, ⟨⟨trivial, m41, trivial⟩, m42, trivial⟩⟩, m53, ⟨⟨⟨trivial, m55, trivial⟩, m60, trivial⟩, m63, ⟨trivial, m64, trivial⟩⟩⟩⟩, m67, ⟨⟨⟨⟨⟨trivial, m69, trivial⟩, m70, trivial⟩, m72, ⟨⟨trivial, m75, trivial⟩, m76, trivial⟩⟩, m77, ⟨⟨⟨trivial, m78, trivial⟩, m79, trivial⟩, m80, ⟨trivial, m81, trivial⟩⟩⟩, m82, ⟨⟨⟨⟨trivial, m83, trivial⟩, m84, trivial⟩, m85, ⟨⟨trivial, m86, trivial⟩, m87, trivial⟩⟩, m88, ⟨⟨⟨trivial, m89, trivial⟩, m90, trivial⟩, m91, ⟨trivial, m93, trivial⟩⟩⟩⟩⟩, m94, ⟨⟨⟨⟨⟨⟨trivial, m95, trivial⟩, m96, trivial⟩, m97, ⟨⟨trivial, m98, trivial⟩, m99, trivial⟩⟩, ZMk, ⟨⟨⟨trivial, ZMe, trivial⟩, ZLE, trivial⟩, ZKF, ⟨⟨trivial, ZMj, trivial⟩, ZL6, trivial⟩⟩⟩, ZMb, ⟨⟨⟨⟨trivial, ZKU, trivial⟩, ZLg, trivial⟩, ZK7, ⟨⟨trivial, ZLA, trivial⟩, ZMu, trivial⟩⟩, ZLb, ⟨⟨⟨trivial, ZLU, trivial⟩, ZLu, trivial⟩, ZLB, ⟨trivial, ZLv, trivial⟩⟩⟩⟩, ZLX, ⟨⟨⟨⟨⟨trivial, ZMg, trivial⟩, ZLd, trivial⟩, ZK5, ⟨⟨trivial, ZMz, trivial⟩, ZLR, trivial⟩⟩, ZLa, ⟨⟨⟨trivial, ZKE, trivial⟩, ZLk, trivial⟩, ZMl, ⟨trivial, ZLD, trivial⟩⟩⟩, ZMn, ⟨⟨⟨⟨trivial, ZK8, trivial⟩, ZMy, trivial⟩, ZKT, ⟨⟨trivial, ZKW, trivial⟩, ZKP, trivial⟩⟩, ZLi, ⟨⟨⟨trivial, ZLx, trivial⟩, ZKJ, trivial⟩, ZLM, ⟨trivial, ZL5, trivial⟩⟩⟩⟩⟩⟩
theorem follows : Try.prog.follows .mixedOrders = true := by kernel_rfl
end Go.Proofs.Ytjhdnpmojhkbjaa
/- How contracts are closed for the program. No condition. -/
namespace Go.Proofs.Ytjhdnpmojhkbjaa
def E0 : List Ctr := []
theorem Zbx : Zas Try.prog E0 := trivial
section
variable {C : Ctx} {K : List Ctr} {n : Nat} {pa acc : List Bool} {fs gs : List AFrame} {h h' : Zaa} {Q : List AFrame → Zaa → Prop}
theorem go (hC : C.P = Try.prog) (hK : Zas Try.prog K) (hw : Zac std tab K n pa fs h = some (acc, gs, h')) (hb : AllT acc) (hq : Ev C gs h' Q) : Ev C fs h Q := ZJQ (by rw [hC]; exact follows) (by rw [hC]; exact Ziv) (by rw [hC]; exact hK) hw hb hq
theorem fin (hC : C.P = Try.prog) (hK : Zas Try.prog K) {fn : FuncId} {r r' : AV} {fr fr' : Option Fresh} (hw : ZaD std tab K n pa fn fs h = some (acc, r', fr')) (hb : AllT acc) (hr : r' = r) (hfr : fr' = fr) : Ev C fs h (ZfK fn r fr) := ZGj (by rw [hC]; exact follows) (by rw [hC]; exact Ziv) (by rw [hC]; exact hK) hw hb hr hfr
theorem start {fn : FuncId} {args : List AV} {af : AFrame} {r : AV} {fr : Option Fresh} (he : Zal tab fn args = some af) (hq : ∀ C : Ctx, C.P = Try.prog → Ev C [af] [] (ZfK fn r fr)) : ZaI Try.prog fn args r fr := ZiR Ziv he fun _ _ _ => hq _ rfl
theorem ZdU (hC : C.P = Try.prog) (hK : Zas Try.prog K) {fn : FuncId} {r r' : AV} {e sz e' sz' : Nat} {y y' : Row} (hw : Za2 std tab K n pa fn fs h = some (acc, r', e', sz', y')) (hb : AllT acc) (hr : r' = r) (he : e' = e) (hs : sz' = sz) (hy : y' = y) : Ev C fs h (Zg8 fn e sz y r) := Zxz (by rw [hC]; exact follows) (by rw [hC]; exact Ziv) (by rw [hC]; exact hK) hw hb hr he hs hy
theorem Zgy {f : FuncId} {e : TypeId} {sz : Nat} {x y : Row} {args : List AV} {af : AFrame} {r : AV} (he : Zal tab f (.row 0 0 :: args) = some af) (hq : ∀ C : Ctx, C.P = Try.prog → Ev C [af] (Zaj (some ⟨e, sz, x⟩)) (Zg8 f e sz y r)) : Zk6 Try.prog f e sz x y args r := Zq3 Ziv he hq
end
theorem Zi5 {f : FuncId} {args : List AV} {e sz : Nat} {r : Row} (h : ZaI Try.prog f args (.row 0 0) (some ⟨e, sz + 1, r⟩)) (hp : r.pure = true) (hs : r.solid = true) : ZaI Try.prog f args (.list r) Zko :=
  ZmA h rfl (.one (.row _ rfl hp hs))
theorem Zyo {f : FuncId} {args : List AV} {r : Row} (h : ZaI Try.prog f args .nils none) (hr : r.elems = []) : ZaI Try.prog f args (.list r) Zko :=
  ZmA h rfl (.one (.nil r hr))
theorem Rel.same {w : World} {ok : Nat → Prop} {h : Zaa} {L : Lay} {r r' : Row} {v : Value} (he : r.elems = r'.elems) (hr : Rel w ok h L (.list r) v) : Rel w ok h L (.list r') v := by
  cases hr with
  | nil _ a c h0 => exact .nil _ a c (he ▸ h0)
  | list _ xs hx ad n cap sz cs hb hok hn hcap hsz hl h1 hc hp hrr => exact .list r' xs (hx.trans he) ad n cap sz cs hb hok hn hcap hsz hl h1 hc hp hrr
theorem ZkF {f : FuncId} {args : List AV} {r r' : Row} {fr : Option Fresh} (h : ZaI Try.prog f args (.list r) fr) (he : r.elems = r'.elems) : ZaI Try.prog f args (.list r') fr := by
  intro w okA L vs hargs hok
  refine (h w okA L vs hargs hok).mono ?_
  rintro e w' ⟨x, L', rfl, hb, hp⟩
  refine ⟨x, L', rfl, hb, ?_⟩
  unfold ZkT at hp ⊢
  split
  · rename_i hn; rw [hn] at hp; exact Rel.same he hp
  · rename_i hn; rw [hn] at hp; exact ⟨hp.1, Rel.same he hp.2⟩
theorem Zm1 {f : FuncId} {xs ys : List AV} {r r' : Row} {x : AV} {fr : Option Fresh} (h : ZaI Try.prog f (xs ++ .list r :: ys) x fr) (he : r'.elems = r.elems) : ZaI Try.prog f (xs ++ .list r' :: ys) x fr := by
  intro w okA L vs hargs hok
  refine h w okA L vs ⟨by have := hargs.1; simpa using this, fun j u v hu hv => ?_⟩ hok
  rcases Nat.lt_trichotomy j xs.length with hj | hj | hj
  · rw [List.getElem?_append_left hj] at hu
    exact hargs.2 j u v (by rw [List.getElem?_append_left hj]; exact hu) hv
  · subst hj
    rw [List.getElem?_append_right (Nat.le_refl _)] at hu
    simp only [Nat.sub_self, List.getElem?_cons_zero, Option.some.injEq] at hu
    subst hu
    exact Rel.same he (hargs.2 _ _ v (by rw [List.getElem?_append_right (Nat.le_refl _)]; simp) hv)
  · rw [List.getElem?_append_right (by omega), show j - xs.length = (j - xs.length - 1) + 1 by omega, List.getElem?_cons_succ] at hu
    exact hargs.2 j u v (by rw [List.getElem?_append_right (by omega), show j - xs.length = (j - xs.length - 1) + 1 by omega, List.getElem?_cons_succ]; exact hu) hv
theorem Zn7 {f : FuncId} {r : Row} {x : AV} {fr : Option Fresh} (he : r.elems = []) (h : ∀ ad cap, ZaI Try.prog f [.val (.slice ad 0 cap)] x fr) : ZaI Try.prog f [.list r] x fr := by
  intro w okA L vs hargs hok
  obtain ⟨h1, h2⟩ := hargs
  obtain ⟨l⟩ := vs
  match l, h1 with
  | [v0], _ =>
    have r0 := h2 0 _ _ rfl rfl
    obtain ⟨ad, cap, rfl⟩ : ∃ ad cap, v0 = .slice ad 0 cap := by
      cases r0 with
      | nil _ a c _ => exact ⟨a, c, rfl⟩
      | list _ xs hx ad n cap sz cs hbb hok hn => rw [he] at hx; subst hx; exact ⟨some ad, cap, by rw [hn]; rfl⟩
    exact h ad cap w okA L _ (RelL.cons (.val _) RelL.nil) hok
inductive Wk1 : AV → AV → Prop
  | nil (r : Row) (h : r.elems = []) : Wk1 .nils (.list r)
  | same (v : AV) : Wk1 v v
def WkL : List AV → List AV → Prop
  | [], [] => True
  | x :: xs, y :: ys => Wk1 x y ∧ WkL xs ys
  | _, _ => False
theorem WkL.spec : ∀ {xs ys : List AV}, WkL xs ys → xs.length = ys.length ∧ ∀ (j : Nat) (y : AV), ys[j]? = some y → ∃ x, xs[j]? = some x ∧ Wk1 x y
  | [], [], _ => ⟨rfl, fun j y h => by simp at h⟩
  | x :: xs, y :: ys, h => by
    obtain ⟨h1, h2⟩ := h
    obtain ⟨e1, e2⟩ := WkL.spec h2
    refine ⟨by simp [e1], fun j z hz => ?_⟩
    cases j with
    | zero => simp at hz; subst hz; exact ⟨x, rfl, h1⟩
    | succ j => obtain ⟨q, q1, q2⟩ := e2 j z (by simpa using hz); exact ⟨q, by simpa using q1, q2⟩
theorem Wk1.rel {w : World} {ok : Nat → Prop} {h : Zaa} {L : Lay} {v v' : AV} {x : Value} (hw : Wk1 v v') (hr : Rel w ok h L v x) : Rel w ok h L v' x := by
  cases hw with
  | nil r h => cases hr with | nils => exact .nil r none 0 h
  | same => exact hr
theorem ZE7 {f : FuncId} {args xs ys : List AV} {fr : Option Fresh} (h : ZaI Try.prog f args (.tup xs) fr) (hw : WkL xs ys) : ZaI Try.prog f args (.tup ys) fr := by
  intro w okA L vs hargs hok
  refine (h w okA L vs hargs hok).mono ?_
  rintro e w' ⟨x, L', rfl, hb, hp⟩
  obtain ⟨e1, e2⟩ := hw.spec
  have key : ∀ {ok : Nat → Prop} {hh : Zaa}, Rel w' ok hh L' (.tup xs) x → Rel w' ok hh L' (.tup ys) x := fun hr => by
    cases hr with
    | tup _ vs hl hrr =>
      refine .tup _ vs (by rw [← e1]; exact hl) (fun j u v hu hv => ?_)
      obtain ⟨q, q1, q2⟩ := e2 j u hu
      exact q2.rel (hrr j q v q1 hv)
  refine ⟨x, L', rfl, hb, ?_⟩
  unfold ZkT at hp ⊢
  split
  · rename_i hn; rw [hn] at hp; exact key hp
  · rename_i hn; rw [hn] at hp; exact ⟨hp.1, key hp.2⟩
end Go.Proofs.Ytjhdnpmojhkbjaa
/- Paths of functions, printed by the explorer (Gx). No condition. -/
namespace Go.Proofs.Ytjhdnpmojhkbjaa
set_option maxRecDepth 100000
set_option linter.unusedVariables false
def ZF1 (n : Int) (a : Int) (b : Int) : AFrame := { fn := 27, N := 15, env := [(0, AV.int .i64 n), (1, AV.int .i64 a), (2, AV.int .i64 b)], todo := [.code a27.code], defs := [], rnd := none, ret := false, res := [ARes.tmp 6] }
def ZKi (n : Int) (a : Int) (b : Int) : List AFrame := [(ZF1 n a b)]
theorem ZuX (n : Int) (a : Int) (b : Int) : Zal tab 27 [AV.int .i64 n, AV.int .i64 a, AV.int .i64 b] = some (ZF1 n a b) := rfl
theorem ZIB (A : Ar) (n a b : Int) : ZaD A tab E0 18 [true, true, true, true] 27 (ZKi n a b) [] =
  some (tr [9, 5] [A.le a n],
   AV.bool (A.le n b), none) := by kernel_rfl
theorem ZHj (A : Ar) (n a b : Int) : ZaD A tab E0 18 [false, false, false, false] 27 (ZKi n a b) [] =
  some (tr [9, 5] [!A.le a n],
   AV.bool false, none) := by kernel_rfl
def ZzI (n : Int) (a : Int) (b : Int) : AFrame := { fn := 87, N := 15, env := [(0, AV.int .i64 n), (1, AV.int .i64 a), (2, AV.int .i64 b)], todo := [.code a87.code], defs := [], rnd := none, ret := false, res := [ARes.tmp 6] }
def ZJ1 (n : Int) (a : Int) (b : Int) : List AFrame := [(ZzI n a b)]
theorem Zwe (n : Int) (a : Int) (b : Int) : Zal tab 87 [AV.int .i64 n, AV.int .i64 a, AV.int .i64 b] = some (ZzI n a b) := rfl
theorem ZJU (A : Ar) (n a b : Int) : ZaD A tab E0 18 [true, true, true, true] 87 (ZJ1 n a b) [] =
  some (tr [9, 5] [A.le a n],
   AV.bool (A.le n b), none) := by kernel_rfl
theorem ZJv (A : Ar) (n a b : Int) : ZaD A tab E0 18 [false, false, false, false] 87 (ZJ1 n a b) [] =
  some (tr [9, 5] [!A.le a n],
   AV.bool false, none) := by kernel_rfl
def ZDX (b : Bool) (e : Int) : AFrame := { fn := 86, N := 7, env := [(0, AV.bool b), (1, AV.int .i64 e)], todo := [.code a86.code], defs := [], rnd := none, ret := false, res := [ARes.tmp 4] }
def ZJ5 (b : Bool) (e : Int) : List AFrame := [(ZDX b e)]
theorem Zwv (b : Bool) (e : Int) : Zal tab 86 [AV.bool b, AV.int .i64 e] = some (ZDX b e) := rfl
theorem ZIu (A : Ar) (b : Bool) (e : Int) : ZaD A tab E0 15 [true] 86 (ZJ5 b e) [] =
  some (tr [2, 2] [b],
   AV.int .i64 0, none) := by kernel_rfl
theorem ZHc (A : Ar) (b : Bool) (e : Int) : ZaD A tab E0 17 [false] 86 (ZJ5 b e) [] =
  some (tr [3, 2] [!b],
   AV.int .i64 e, none) := by kernel_rfl
def ZEs (xs : List Int) : AFrame := { fn := 84, N := 15, env := [(0, AV.list (.ints .i64 xs))], todo := [.code a84.code], defs := [], rnd := none, ret := false, res := [ARes.tmp 2] }
def ZK1 (xs : List Int) : List AFrame := [(ZEs xs)]
theorem ZyI (xs : List Int) : Zal tab 84 [AV.list (.ints .i64 xs)] = some (ZEs xs) := rfl
def Zen (xs : List Int) (n0 n1 : Int) : List AFrame := [{ fn := 84, N := 15, env := [(5, AV.list (.ints .i64 xs)), (6, AV.int .i64 n0), (7, AV.int .i64 n1)], todo := .code (ACode.gh [] ZDx) :: ZH2, defs := [], rnd := none, ret := false, res := [ARes.tmp 2] }]
def Zdr (xs : List Int) (n0 : Int) (n1 : Int) : Zaa := []
abbrev ZiU (xs : List Int) (n0 : Int) (n1 : Int) : List AFrame × Zaa := (Zen xs n0 n1, Zdr xs n0 n1)
theorem ZG2 (A : Ar) (xs : List Int) : Zac A tab E0 14 [] (ZK1 xs) [] =
  some (tr [4] [],
   ZiU (xs) (A.int (A.len xs)) (0)) := by kernel_rfl
theorem ZJA (A : Ar) (xs : List Int) (n0 n1 : Int) : ZaD A tab E0 28 [true, true] 84 (Zen xs n0 n1) (Zdr xs n0 n1) =
  some (tr [3, 4, 0, 1] [A.not (A.eq (A.nth xs (A.nat n1)) 0), Zab (Zab (A.le 0 n1) (Nat.blt (A.nat n1) (A.len xs))) true, A.lt n1 n0],
   AV.int .i64 (A.nth xs (A.nat n1)), none) := by kernel_rfl
theorem ZIW (A : Ar) (xs : List Int) (n0 n1 : Int) : Zac A tab E0 30 [true, false] (Zen xs n0 n1) (Zdr xs n0 n1) =
  some (tr [1, 0, 4, 0, 1] [A.inR .i64 (A.add n1 1), !A.not (A.eq (A.nth xs (A.nat n1)) 0), Zab (Zab (A.le 0 n1) (Nat.blt (A.nat n1) (A.len xs))) true, A.lt n1 n0],
   ZiU (xs) (n0) (A.add n1 1)) := by kernel_rfl
theorem ZJd (A : Ar) (xs : List Int) (n0 n1 : Int) : ZaD A tab E0 13 [false] 84 (Zen xs n0 n1) (Zdr xs n0 n1) =
  some (tr [2, 1] [!A.lt n1 n0],
   AV.int .i64 0, none) := by kernel_rfl
def ZFF (xs : List Int) : AFrame := { fn := 55, N := 6, env := [(0, AV.list (.ints .i64 xs))], todo := [.code a55.code], defs := [], rnd := none, ret := false, res := [ARes.tmp 2] }
def ZMx (xs : List Int) : List AFrame := [(ZFF xs)]
theorem Zya (xs : List Int) : Zal tab 55 [AV.list (.ints .i64 xs)] = some (ZFF xs) := rfl
theorem ZHG (A : Ar) (xs : List Int) : ZaD A tab E0 12 [] 55 (ZMx xs) [] =
  some (tr [2, 1, 1] [Nat.ble (0 + A.len xs) 4294967296, List.all [] fun x => AV.bx x && Nat.beq (Zae A x) 1],
   AV.row 0 0, some { e := 3, sz := 1, r := .ints .i64 xs }) := by kernel_rfl
def ZDQ (xs : List Int) (ys : List Int) : AFrame := { fn := 67, N := 26, env := [(0, AV.list (.ints .i64 xs)), (1, AV.list (.ints .i64 ys))], todo := [.code a67.code], defs := [], rnd := none, ret := false, res := [ARes.tmp 4] }
def ZJZ (xs : List Int) (ys : List Int) : List AFrame := [(ZDQ xs ys)]
theorem ZvG (xs : List Int) (ys : List Int) : Zal tab 67 [AV.list (.ints .i64 xs), AV.list (.ints .i64 ys)] = some (ZDQ xs ys) := rfl
def Zd3 (xs ys : List Int) (n0 : Int) : List AFrame := [{ fn := 67, N := 26, env := [(0, AV.list (.ints .i64 xs)), (1, AV.list (.ints .i64 ys)), (5, AV.int .i64 n0)], todo := .code (ACode.gh [] ZDI) :: ZJy, defs := [], rnd := none, ret := false, res := [ARes.tmp 4] }]
def ZdJ (xs : List Int) (ys : List Int) (n0 : Int) : Zaa := []
abbrev Zih (xs : List Int) (ys : List Int) (n0 : Int) : List AFrame × Zaa := (Zd3 xs ys n0, ZdJ xs ys n0)
theorem ZHM (A : Ar) (xs ys : List Int) : ZaD A tab E0 19 [true] 67 (ZJZ xs ys) [] =
  some (tr [2, 6] [A.not (A.eq (A.int (A.len xs)) (A.int (A.len ys)))],
   AV.bool false, none) := by kernel_rfl
theorem ZIL (A : Ar) (xs ys : List Int) : Zac A tab E0 23 [false] (ZJZ xs ys) [] =
  some (tr [1, 6] [!A.not (A.eq (A.int (A.len xs)) (A.int (A.len ys)))],
   Zih (xs) (ys) (0)) := by kernel_rfl
theorem ZHE (A : Ar) (xs ys : List Int) (n0 : Int) : ZaD A tab E0 22 [true, true] 67 (Zd3 xs ys n0) (ZdJ xs ys n0) =
  some (tr [2, 2, 3, 2, 4] [A.not (A.eq (A.nth xs (A.nat n0)) (A.nth ys (A.nat n0))), Zab (Zab (A.le 0 n0) (Nat.blt (A.nat n0) (A.len ys))) true, Zab (Zab (A.le 0 n0) (Nat.blt (A.nat n0) (A.len xs))) true, A.lt n0 (A.int (A.len xs))],
   AV.bool false, none) := by kernel_rfl
theorem ZH9 (A : Ar) (xs ys : List Int) (n0 : Int) : Zac A tab E0 26 [true, false] (Zd3 xs ys n0) (ZdJ xs ys n0) =
  some (tr [1, 1, 2, 3, 2, 4] [A.inR .i64 (A.add n0 1), !A.not (A.eq (A.nth xs (A.nat n0)) (A.nth ys (A.nat n0))), Zab (Zab (A.le 0 n0) (Nat.blt (A.nat n0) (A.len ys))) true, Zab (Zab (A.le 0 n0) (Nat.blt (A.nat n0) (A.len xs))) true, A.lt n0 (A.int (A.len xs))],
   Zih (xs) (ys) (A.add n0 1)) := by kernel_rfl
theorem ZIr (A : Ar) (xs ys : List Int) (n0 : Int) : ZaD A tab E0 16 [false] 67 (Zd3 xs ys n0) (ZdJ xs ys n0) =
  some (tr [2, 4] [!A.lt n0 (A.int (A.len xs))],
   AV.bool true, none) := by kernel_rfl
def Zs3 (xs : List Int) : AFrame := { fn := 102, N := 8, env := [(0, AV.list (.ints .i64 xs))], todo := [.code a102.code], defs := [], rnd := none, ret := false, res := [ARes.tmp 2] }
def ZGM (xs : List Int) : List AFrame := [(Zs3 xs)]
theorem Zrr (xs : List Int) : Zal tab 102 [AV.list (.ints .i64 xs)] = some (Zs3 xs) := rfl
theorem ZB0 (A : Ar) (xs : List Int) : ZaD A tab E0 20 [false] 102 (ZGM xs) [] =
  some (tr [2, 1, 1, 2] [Nat.ble (0 + A.len xs) 4294967296, List.all [] fun x => AV.bx x && Nat.beq (Zae A x) 1, Nat.blt 0 (A.len xs)],
   AV.row 0 0, some { e := 3, sz := 1, r := .ints .i64 xs }) := by kernel_rfl
def ZpW (ad : Go.Addr) (cap : Nat) : AFrame := { fn := 102, N := 8, env := [(0, AV.val (Go.Value.slice (some ad) 0 cap))], todo := [.code a102.code], defs := [], rnd := none, ret := false, res := [ARes.tmp 2] }
def ZBQ (ad : Go.Addr) (cap : Nat) : List AFrame := [(ZpW ad cap)]
theorem Zqh (ad : Go.Addr) (cap : Nat) : Zal tab 102 [AV.val (Go.Value.slice (some ad) 0 cap)] = some (ZpW ad cap) := rfl
theorem Zvd (A : Ar) (ad : Go.Addr) (cap : Nat) : ZaD A tab E0 20 [false] 102 (ZBQ ad cap) [] =
  some (tr [4, 4] [List.all [] fun x => AV.bx x && Nat.beq (Zae A x) 1],
   AV.row 0 0, some { e := 3, sz := 1, r := Row.gen [] }) := by kernel_rfl
def ZqU (cap : Nat) : AFrame := { fn := 102, N := 8, env := [(0, AV.val (Go.Value.slice none 0 cap))], todo := [.code a102.code], defs := [], rnd := none, ret := false, res := [ARes.tmp 2] }
def ZBE (cap : Nat) : List AFrame := [(ZqU cap)]
theorem Zpp (cap : Nat) : Zal tab 102 [AV.val (Go.Value.slice none 0 cap)] = some (ZqU cap) := rfl
theorem ZxE (A : Ar) (cap : Nat) : ZaD A tab E0 16 [true] 102 (ZBE cap) [] =
  some (tr [6] [],
   AV.nils, none) := by kernel_rfl
def ZFG (xs : List Int) : AFrame := { fn := 69, N := 16, env := [(0, AV.list (.ints .i64 xs))], todo := [.code a69.code], defs := [], rnd := none, ret := false, res := [ARes.tmp 2] }
def ZLW (xs : List Int) : List AFrame := [(ZFG xs)]
theorem Zw2 (xs : List Int) : Zal tab 69 [AV.list (.ints .i64 xs)] = some (ZFG xs) := rfl
def ZdH (xs : List Int) (n0 : Int) : List AFrame := [{ fn := 69, N := 16, env := [(0, AV.list (.ints .i64 xs)), (3, AV.int .i64 n0)], todo := .code (ACode.gh [] ZGb) :: ZG0, defs := [], rnd := none, ret := false, res := [ARes.tmp 2] }]
def ZcH (xs : List Int) (n0 : Int) : Zaa := []
abbrev Zi0 (xs : List Int) (n0 : Int) : List AFrame × Zaa := (ZdH xs n0, ZcH xs n0)
theorem ZI6 (A : Ar) (xs : List Int) : Zac A tab E0 12 [] (ZLW xs) [] =
  some (tr [2] [],
   Zi0 (xs) (0)) := by kernel_rfl
theorem ZJr (A : Ar) (xs : List Int) (n0 : Int) : ZaD A tab E0 47 [true, true, true, true, true, true] 69 (ZdH xs n0) (ZcH xs n0) =
  some (tr [2, 10, 6, 2, 4] [A.not (A.le (A.nth xs (A.nat n0)) 255), A.le 0 (A.nth xs (A.nat n0)), Zab (Zab (A.le 0 n0) (Nat.blt (A.nat n0) (A.len xs))) true, A.lt n0 (A.int (A.len xs))],
   AV.int .i64 2, none) := by kernel_rfl
theorem ZIa (A : Ar) (xs : List Int) (n0 : Int) : Zac A tab E0 51 [true, true, true, true, true, false] (ZdH xs n0) (ZcH xs n0) =
  some (tr [1, 1, 10, 6, 2, 4] [A.inR .i64 (A.add n0 1), !A.not (A.le (A.nth xs (A.nat n0)) 255), A.le 0 (A.nth xs (A.nat n0)), Zab (Zab (A.le 0 n0) (Nat.blt (A.nat n0) (A.len xs))) true, A.lt n0 (A.int (A.len xs))],
   Zi0 (xs) (A.add n0 1)) := by kernel_rfl
theorem ZHq (A : Ar) (xs : List Int) (n0 : Int) : ZaD A tab E0 47 [true, false, false, false, false, true] 69 (ZdH xs n0) (ZcH xs n0) =
  some (tr [2, 10, 6, 2, 4] [A.not false, !A.le 0 (A.nth xs (A.nat n0)), Zab (Zab (A.le 0 n0) (Nat.blt (A.nat n0) (A.len xs))) true, A.lt n0 (A.int (A.len xs))],
   AV.int .i64 2, none) := by kernel_rfl
theorem ZJX (A : Ar) (xs : List Int) (n0 : Int) : ZaD A tab E0 16 [false] 69 (ZdH xs n0) (ZcH xs n0) =
  some (tr [2, 4] [!A.lt n0 (A.int (A.len xs))],
   AV.int .i64 0, none) := by kernel_rfl
def ZtB (xs : List Int) : AFrame := { fn := 127, N := 21, env := [(0, AV.list (.ints .i64 xs)), (1, AV.fn 128 [])], todo := [.code a127.code], defs := [], rnd := none, ret := false, res := [ARes.tmp 4] }
def ZG7 (xs : List Int) : List AFrame := [(ZtB xs)]
theorem ZrO (xs : List Int) : Zal tab 127 [AV.list (.ints .i64 xs), AV.fn 128 []] = some (ZtB xs) := rfl
def ZbZ (xs : List Int) (n0 n1 : Int) : List AFrame := [{ fn := 127, N := 21, env := [(1, AV.fn 128 []), (8, AV.list (.ints .i64 xs)), (9, AV.int .i64 n0), (10, AV.int .i64 n1)], todo := .code (ACode.gh [] ZuE) :: ZFf, defs := [], rnd := none, ret := false, res := [ARes.tmp 4] }]
def ZbK (xs : List Int) (n0 : Int) (n1 : Int) : Zaa := []
abbrev ZgL (xs : List Int) (n0 : Int) (n1 : Int) : List AFrame × Zaa := (ZbZ xs n0 n1, ZbK xs n0 n1)
theorem ZEu (A : Ar) (xs : List Int) : Zac A tab E0 14 [] (ZG7 xs) [] =
  some (tr [4] [],
   ZgL (xs) (A.int (A.len xs)) (0)) := by kernel_rfl
theorem ZDh (A : Ar) (xs : List Int) (n0 n1 : Int) : Zac A tab E0 97 [true, true, true, true, true, true, false] (ZbZ xs n0 n1) (ZbK xs n0 n1) =
  some (tr [1, 0, 7, 13, 13, 0, 1] [A.inR .i64 (A.add n1 1), !A.not (A.eq 0 0), A.le (A.nth xs (A.nat n1)) 255, A.le 0 (A.nth xs (A.nat n1)), Zab (Zab (A.le 0 n1) (Nat.blt (A.nat n1) (A.len xs))) true, A.lt n1 n0],
   ZgL (xs) (n0) (A.add n1 1)) := by kernel_rfl
theorem ZE2 (A : Ar) (xs : List Int) (n0 n1 : Int) : ZaD A tab E0 97 [true, true, true, true, true, false, true] 127 (ZbZ xs n0 n1) (ZbK xs n0 n1) =
  some (tr [3, 8, 13, 13, 0, 1] [A.not (A.eq 2 0), !A.le (A.nth xs (A.nat n1)) 255, A.le 0 (A.nth xs (A.nat n1)), Zab (Zab (A.le 0 n1) (Nat.blt (A.nat n1) (A.len xs))) true, A.lt n1 n0],
   AV.int .i64 2, none) := by kernel_rfl
theorem ZFn (A : Ar) (xs : List Int) (n0 n1 : Int) : ZaD A tab E0 97 [true, false, false, false, false, false, true] 127 (ZbZ xs n0 n1) (ZbK xs n0 n1) =
  some (tr [3, 22, 13, 0, 1] [A.not (A.eq 2 0), !A.le 0 (A.nth xs (A.nat n1)), Zab (Zab (A.le 0 n1) (Nat.blt (A.nat n1) (A.len xs))) true, A.lt n1 n0],
   AV.int .i64 2, none) := by kernel_rfl
theorem ZAQ (A : Ar) (xs : List Int) (n0 n1 : Int) : ZaD A tab E0 13 [false] 127 (ZbZ xs n0 n1) (ZbK xs n0 n1) =
  some (tr [2, 1] [!A.lt n1 n0],
   AV.int .i64 0, none) := by kernel_rfl
def ZEK (n : Int) (m : Int) : AFrame := { fn := 53, N := 14, env := [(0, AV.int .i64 n), (1, AV.int .i64 m)], todo := [.code a53.code], defs := [], rnd := none, ret := false, res := [ARes.tmp 4] }
def ZKw (n : Int) (m : Int) : List AFrame := [(ZEK n m)]
theorem ZxT (n : Int) (m : Int) : Zal tab 53 [AV.int .i64 n, AV.int .i64 m] = some (ZEK n m) := rfl
theorem ZIs (A : Ar) (n m : Int) : ZaD A tab E0 30 [true] 53 (ZKw n m) [] =
  some (tr [4, 2, 3, 3] [A.inR .i64 (A.add (A.rem n m) m), A.lt (A.rem n m) 0, A.not (A.eq m 0)],
   AV.int .i64 (A.add (A.rem n m) m), none) := by kernel_rfl
theorem ZGK (A : Ar) (n m : Int) : ZaD A tab E0 25 [false] 53 (ZKw n m) [] =
  some (tr [3, 3, 3] [!A.lt (A.rem n m) 0, A.not (A.eq m 0)],
   AV.int .i64 (A.rem n m), none) := by kernel_rfl
def ZEc (n : Int) : AFrame := { fn := 70, N := 7, env := [(0, AV.int .i64 n)], todo := [.code a70.code], defs := [], rnd := none, ret := false, res := [ARes.tmp 2] }
def ZKR (n : Int) : List AFrame := [(ZEc n)]
theorem Zwq (n : Int) : Zal tab 70 [AV.int .i64 n] = some (ZEc n) := rfl
theorem ZJu (A : Ar) (n : Int) : ZaD A tab E0 13 [] 70 (ZKR n) [] =
  some (tr [3, 3] [A.inR .i64 (A.neg n)],
   AV.int .i64 (A.max n (A.neg n)), none) := by kernel_rfl
end Go.Proofs.Ytjhdnpmojhkbjaa
/- Contracts as a list. No condition. -/
namespace Go.Proofs.Ytjhdnpmojhkbjaa
@[simp] theorem ZaJ (l : List AV) : std.lenA l = l.length := rfl
@[simp] theorem Zai (l : List AV) (j : Nat) : std.nthA l j = l.getD j .top := rfl
@[simp] theorem ZiW (a b : List AV) : std.appA a b = a ++ b := rfl
@[simp] theorem Zho (l : List AV) (j : Nat) (x : AV) : std.setA l j x = l.set j x := rfl
@[simp] theorem ZKu (l : List AV) (k n : Nat) : std.subA l k n = (l.drop k).take n := rfl
theorem ZpU {C : Ctx} (hC : C.P = Try.prog) (xs ys : List Int) (hl : xs.length = ys.length) (hlen : xs.length ≤ 1000000) : ∀ (d i : Nat), xs.length - i = d → i ≤ xs.length → xs.take i = ys.take i →
    Ev C (Zd3 xs ys i) (ZdJ xs ys i) (ZfK 67 (.bool (decide (xs = ys))) none) := by
  intro d
  induction d with
  | zero =>
    intro i hd hi ht
    have hi : i = xs.length := by omega
    have he : xs = ys := by rw [hi] at ht; rw [List.take_length, hl, List.take_length] at ht; exact ht
    exact fin hC Zbx (ZIr std xs ys i) (by simp; omega) (by simp [he]) rfl
  | succ d ih =>
    intro i hd hi ht
    have hlt : i < xs.length := by omega
    by_cases hx : xs[i]? = ys[i]?
    · refine go hC Zbx (ZH9 std xs ys i) (by simp [hx]; omega) ?_
      exact ih (i + 1) (by omega) (by omega) (by
        have h3 : xs[i]'hlt = ys[i]'(by omega) := by
          rw [List.getElem?_eq_getElem hlt, List.getElem?_eq_getElem (show i < ys.length by omega)] at hx
          exact Option.some.inj hx
        rw [List.take_succ_eq_append_getElem hlt, List.take_succ_eq_append_getElem (show i < ys.length by omega), ht, h3])
    · have h3 : xs[i]'hlt ≠ ys[i]'(by omega) := by
        rw [List.getElem?_eq_getElem hlt, List.getElem?_eq_getElem (show i < ys.length by omega)] at hx
        exact fun e => hx (by rw [e])
      exact fin hC Zbx (ZHE std xs ys i) (by simp [hlt, show i < ys.length by omega, h3]) (by
        have : xs ≠ ys := fun e => hx (by rw [e])
        simp [this]) rfl
theorem ZvQ (xs ys : List Int) (hlen : xs.length ≤ 1000000) : ZaI Try.prog 67 [.list (.ints .i64 xs), .list (.ints .i64 ys)] (.bool (decide (xs = ys))) none :=
  start (ZvG xs ys) fun C hC => by
    by_cases hl : xs.length = ys.length
    · exact go hC Zbx (ZIL std xs ys) (by simp; omega) (ZpU hC xs ys hl hlen xs.length 0 (by omega) (by omega) rfl)
    · refine fin hC Zbx (ZHM std xs ys) (by simp; omega) ?_ rfl
      have : xs ≠ ys := fun e => hl (by rw [e])
      simp [this]
theorem Zjm (xs : List Int) (hx : xs.length ≤ 4294967296) : ZaI Try.prog 55 [.list (.ints .i64 xs)] (.row 0 0) (some ⟨3, 1, .ints .i64 xs⟩) :=
  start (Zya xs) fun C hC => fin hC Zbx (ZHG std xs) (by simp; omega) rfl rfl
theorem ZjJ (xs : List Int) (hx : xs.length ≤ 4294967296) : ZaI Try.prog 55 [.list (.ints .i64 xs)] (.list (.ints .i64 xs)) Zko := Zi5 (Zjm xs hx) rfl rfl
def Zbb : List Int → Int
  | [] => 0
  | x :: xs => if x = 0 then Zbb xs else x
theorem Znz {C : Ctx} (hC : C.P = Try.prog) (xs : List Int) (hlen : xs.length ≤ 1000000) : ∀ (d i : Nat), xs.length - i = d → i ≤ xs.length →
    Ev C (Zen xs xs.length i) (Zdr xs xs.length i) (ZfK 84 (.int .i64 (Zbb (xs.drop i))) none) := by
  intro d
  induction d with
  | zero =>
    intro i hd hi
    exact fin hC Zbx (ZJd std xs xs.length i) (by simp; omega) (by rw [List.drop_of_length_le (by omega)]; rfl) rfl
  | succ d ih =>
    intro i hd hi
    have hlt : i < xs.length := by omega
    by_cases hx : xs[i]'hlt = 0
    · refine go hC Zbx (ZIW std xs xs.length i) (by simp [hlt, hx]; omega) ?_
      have := ih (i + 1) (by omega) (by omega)
      rw [List.drop_eq_getElem_cons hlt, Zbb, if_pos hx]
      exact this
    · exact fin hC Zbx (ZJA std xs xs.length i) (by simp [hlt, hx]) (by rw [List.drop_eq_getElem_cons hlt, Zbb, if_neg hx]; simp [hlt]) rfl
theorem Zst (xs : List Int) (hlen : xs.length ≤ 1000000) : ZaI Try.prog 84 [.list (.ints .i64 xs)] (.int .i64 (Zbb xs)) none :=
  start (ZyI xs) fun C hC => go hC Zbx (ZG2 std xs) (by simp) (Znz hC xs hlen xs.length 0 (by omega) (by omega))
theorem Zle (n a b : Int) : ZaI Try.prog 27 [.int .i64 n, .int .i64 a, .int .i64 b] (.bool (decide (a ≤ n ∧ n ≤ b))) none :=
  start (ZuX n a b) fun C hC => by
    by_cases h1 : a ≤ n
    · exact fin hC Zbx (ZIB std n a b) (by simp [h1]) (by simp [h1]) rfl
    · exact fin hC Zbx (ZHj std n a b) (by simp; omega) (by simp [h1]) rfl
theorem ZlJ (n a b : Int) : ZaI Try.prog 87 [.int .i64 n, .int .i64 a, .int .i64 b] (.bool (decide (a ≤ n ∧ n ≤ b))) none :=
  start (Zwe n a b) fun C hC => by
    by_cases h1 : a ≤ n
    · exact fin hC Zbx (ZJU std n a b) (by simp [h1]) (by simp [h1]) rfl
    · exact fin hC Zbx (ZJv std n a b) (by simp; omega) (by simp [h1]) rfl
def Zaz (b : Bool) (e : Int) : Int := if b = true then 0 else e
@[simp] theorem Zfu (e : Int) : Zaz true e = 0 := rfl
@[simp] theorem Zkn (e : Int) : Zaz false e = e := rfl
theorem Zqf (b : Bool) (e : Int) : ZaI Try.prog 86 [.bool b, .int .i64 e] (.int .i64 (Zaz b e)) none :=
  start (Zwv b e) fun C hC => by
    cases b with
    | true => exact fin hC Zbx (ZIu std true e) (by simp) rfl rfl
    | false => exact fin hC Zbx (ZHc std false e) (by simp) rfl rfl
def Zoz (x : Int) : Bool := decide (0 ≤ x ∧ x ≤ 255)
def ZaQ (xs : List Int) : Int := if xs.all Zoz = true then 0 else 2
theorem Zhp {x : Int} {xs : List Int} (h : 0 ≤ x ∧ x ≤ 255) : ZaQ (x :: xs) = ZaQ xs := by simp [ZaQ, Zoz, h]
theorem ZeJ {x : Int} {xs : List Int} (h : ¬ (0 ≤ x ∧ x ≤ 255)) : ZaQ (x :: xs) = 2 := by simp [ZaQ, Zoz, h]
theorem l69 {C : Ctx} (hC : C.P = Try.prog) (xs : List Int) (hlen : xs.length ≤ 1000000) : ∀ (d i : Nat), xs.length - i = d → i ≤ xs.length →
    Ev C (ZdH xs i) (ZcH xs i) (ZfK 69 (.int .i64 (ZaQ (xs.drop i))) none) := by
  intro d
  induction d with
  | zero =>
    intro i hd hi
    exact fin hC Zbx (ZJX std xs i) (by simp; omega) (by rw [List.drop_of_length_le (by omega)]; rfl) rfl
  | succ d ih =>
    intro i hd hi
    have hlt : i < xs.length := by omega
    rw [List.drop_eq_getElem_cons hlt]
    by_cases h1 : 0 ≤ xs[i]
    · by_cases h2 : xs[i] ≤ 255
      · rw [Zhp ⟨h1, h2⟩]
        exact go hC Zbx (ZIa std xs i) (by simp [hlt, h1, h2]; omega) (ih (i + 1) (by omega) (by omega))
      · rw [ZeJ (fun h => h2 h.2)]
        exact fin hC Zbx (ZJr std xs i) (by simp [hlt, h1]; omega) rfl rfl
    · rw [ZeJ (fun h => h1 h.1)]
      exact fin hC Zbx (ZHq std xs i) (by simp [hlt]; omega) rfl rfl
theorem Zni (xs : List Int) (hlen : xs.length ≤ 1000000) : ZaI Try.prog 69 [.list (.ints .i64 xs)] (.int .i64 (ZaQ xs)) none :=
  start (Zw2 xs) fun C hC => go hC Zbx (ZI6 std xs) (by simp) (l69 hC xs hlen xs.length 0 (by omega) (by omega))
theorem ZLq {C : Ctx} (hC : C.P = Try.prog) (xs : List Int) (hlen : xs.length ≤ 1000000) : ∀ (d i : Nat), xs.length - i = d → i ≤ xs.length →
    Ev C (ZbZ xs xs.length i) (ZbK xs xs.length i) (ZfK 127 (.int .i64 (ZaQ (xs.drop i))) none) := by
  intro d
  induction d with
  | zero =>
    intro i hd hi
    exact fin hC Zbx (ZAQ std xs xs.length i) (by simp; omega) (by rw [List.drop_of_length_le (by omega)]; rfl) rfl
  | succ d ih =>
    intro i hd hi
    have hlt : i < xs.length := by omega
    rw [List.drop_eq_getElem_cons hlt]
    by_cases h1 : 0 ≤ xs[i]
    · by_cases h2 : xs[i] ≤ 255
      · rw [Zhp ⟨h1, h2⟩]
        exact go hC Zbx (ZDh std xs xs.length i) (by simp [hlt, h1, h2]; omega) (ih (i + 1) (by omega) (by omega))
      · rw [ZeJ (fun h => h2 h.2)]
        exact fin hC Zbx (ZE2 std xs xs.length i) (by simp [hlt, h1]; omega) rfl rfl
    · rw [ZeJ (fun h => h1 h.1)]
      exact fin hC Zbx (ZFn std xs xs.length i) (by simp [hlt]; omega) rfl rfl
theorem Zoo (xs : List Int) (hlen : xs.length ≤ 1000000) : ZaI Try.prog 127 [.list (.ints .i64 xs), .fn 128 []] (.int .i64 (ZaQ xs)) none :=
  start (ZrO xs) fun C hC => go hC Zbx (ZEu std xs) (by simp) (ZLq hC xs hlen xs.length 0 (by omega) (by omega))
def Zfi (x : Int) : Bool := decide (-1000000 ≤ x ∧ x ≤ 1000000)
theorem ZHb (a : Int) {m : Int} (h : 0 < m) : -m < a.tmod m ∧ a.tmod m < m := ⟨by have := Int.lt_tmod_of_pos a h; omega, Int.tmod_lt_of_pos a h⟩
theorem ZoV (ad : Option Addr) (cap : Nat) : ZaI Try.prog 102 [.val (.slice ad 0 cap)] (.list (.ints .i64 [])) Zko := by
  cases ad with
  | none => exact Zyo (start (Zpp cap) fun C hC => fin hC Zbx (ZxE std cap) (by simp) rfl rfl) rfl
  | some ad =>
    have := start (Zqh ad cap) fun C hC => fin hC Zbx (Zvd std ad cap) (by simp) rfl rfl
    exact ZkF (Zi5 this rfl rfl) rfl
theorem ZpD (xs : List Int) (h : 0 < xs.length ∧ xs.length ≤ 4294967296) : ZaI Try.prog 102 [.list (.ints .i64 xs)] (.row 0 0) (some ⟨3, 1, .ints .i64 xs⟩) :=
  start (Zrr xs) fun C hC => fin hC Zbx (ZB0 std xs) (by simp; omega) rfl rfl
theorem Zmq (xs : List Int) (h : xs.length ≤ 4294967296) : ZaI Try.prog 102 [.list (.ints .i64 xs)] (.list (.ints .i64 xs)) Zko := by
  by_cases h0 : 0 < xs.length
  · exact Zi5 (ZpD xs ⟨h0, h⟩) rfl rfl
  · have : xs = [] := List.eq_nil_of_length_eq_zero (by omega)
    subst this
    exact Zn7 rfl (fun ad cap => ZoV ad cap)
def ZjQ (n m : Int) : Int := if n.tmod m < 0 then n.tmod m + m else n.tmod m
theorem ZrL (n m : Int) (h : 1 ≤ m ∧ m ≤ 1000000000000) : ZaI Try.prog 53 [.int .i64 n, .int .i64 m] (.int .i64 (ZjQ n m)) none :=
  start (ZxT n m) fun C hC => by
    have hm : m ≠ 0 := by omega
    have hlt := Int.tmod_lt_of_pos n (show 0 < m by omega)
    by_cases h1 : n.tmod m < 0
    · have h2 : -m < n.tmod m := by exact (ZHb n (show 0 < m by omega)).1
      exact fin hC Zbx (ZIs std n m) (by simp [hm, h1]; omega) (by simp [ZjQ, h1]) rfl
    · exact fin hC Zbx (ZGK std n m) (by simp [hm]; omega) (by simp [ZjQ, h1]) rfl
def ZfI (n : Int) : Int := max n (-n)
theorem ZoP (n : Int) (h : Zfi n = true) : ZaI Try.prog 70 [.int .i64 n] (.int .i64 (ZfI n)) none :=
  start (Zwq n) fun C hC => fin hC Zbx (ZJu std n) (by simp [Zfi] at h ⊢; omega) rfl rfl
def k27 : Ctr := ⟨27, 0, fun _ a => match a with | [.int .i64 n, .int .i64 a, .int .i64 b] => some (true, .bool (decide (a ≤ n ∧ n ≤ b)), none) | _ => none⟩
theorem ZCk : k27.OK Try.prog := fun pa args r fr h => by
  simp only [k27] at h
  split at h
  · cases h
    exact Zle _ _ _
  · cases h
def k87 : Ctr := ⟨87, 0, fun _ a => match a with | [.int .i64 n, .int .i64 a, .int .i64 b] => some (true, .bool (decide (a ≤ n ∧ n ≤ b)), none) | _ => none⟩
theorem ZEP : k87.OK Try.prog := fun pa args r fr h => by
  simp only [k87] at h
  split at h
  · cases h
    exact ZlJ _ _ _
  · cases h
def k86 : Ctr := ⟨86, 0, fun _ a => match a with | [.bool b, .int .i64 e] => some (true, .int .i64 (Zaz b e), none) | _ => none⟩
theorem ZDw : k86.OK Try.prog := fun pa args r fr h => by
  simp only [k86] at h
  split at h
  · cases h
    exact Zqf _ _
  · cases h
def k84 : Ctr := ⟨84, 0, fun _ a => match a with | [.list (.ints .i64 xs)] => some (decide (xs.length ≤ 1000000), .int .i64 (Zbb xs), none) | _ => none⟩
theorem ZDn : k84.OK Try.prog := fun pa args r fr h => by
  simp only [k84] at h
  split at h
  · simp only [Option.some.injEq, Prod.mk.injEq, decide_eq_true_eq] at h
    obtain ⟨h0, rfl, rfl⟩ := h
    exact Zst _ h0
  · cases h
def k55 : Ctr := ⟨55, 0, fun _ a => match a with | [.list (.ints .i64 xs)] => some (decide (xs.length ≤ 4294967296), .list (.ints .i64 xs), Zko) | _ => none⟩
theorem ZC5 : k55.OK Try.prog := fun pa args r fr h => by
  simp only [k55] at h
  split at h
  · simp only [Option.some.injEq, Prod.mk.injEq, decide_eq_true_eq] at h
    obtain ⟨h0, rfl, rfl⟩ := h
    exact ZjJ _ h0
  · cases h
def k67 : Ctr := ⟨67, 0, fun _ a => match a with | [.list (.ints .i64 xs), .list (.ints .i64 ys)] => some (decide (xs.length ≤ 1000000), .bool (decide (xs = ys)), none) | _ => none⟩
theorem ZDf : k67.OK Try.prog := fun pa args r fr h => by
  simp only [k67] at h
  split at h
  · simp only [Option.some.injEq, Prod.mk.injEq, decide_eq_true_eq] at h
    obtain ⟨h0, rfl, rfl⟩ := h
    exact ZvQ _ _ h0
  · cases h
def k69 : Ctr := ⟨69, 0, fun _ a => match a with | [.list (.ints .i64 xs)] => some (decide (xs.length ≤ 1000000), .int .i64 (ZaQ xs), none) | _ => none⟩
theorem ZAe : k69.OK Try.prog := fun pa args r fr h => by
  simp only [k69] at h
  split at h
  · simp only [Option.some.injEq, Prod.mk.injEq, decide_eq_true_eq] at h
    obtain ⟨h0, rfl, rfl⟩ := h
    exact Zni _ h0
  · cases h
def k127 : Ctr := ⟨127, 0, fun _ a => match a with | [.list (.ints .i64 xs), .fn 128 []] => some (decide (xs.length ≤ 1000000), .int .i64 (ZaQ xs), none) | _ => none⟩
theorem Zu1 : k127.OK Try.prog := fun pa args r fr h => by
  simp only [k127] at h
  split at h
  · simp only [Option.some.injEq, Prod.mk.injEq, decide_eq_true_eq] at h
    obtain ⟨h0, rfl, rfl⟩ := h
    exact Zoo _ h0
  · cases h
def k102 : Ctr := ⟨102, 0, fun _ a => match a with | [.list (.ints .i64 xs)] => some (decide (xs.length ≤ 4294967296), .list (.ints .i64 xs), Zko) | _ => none⟩
theorem Zyc : k102.OK Try.prog := fun pa args r fr h => by
  simp only [k102] at h
  split at h
  · simp only [Option.some.injEq, Prod.mk.injEq, decide_eq_true_eq] at h
    obtain ⟨h0, rfl, rfl⟩ := h
    exact Zmq _ h0
  · cases h
def k53 : Ctr := ⟨53, 0, fun _ a => match a with | [.int .i64 n, .int .i64 m] => some (decide (1 ≤ m ∧ m ≤ 1000000000000), .int .i64 (ZjQ n m), none) | _ => none⟩
theorem ZF3 : k53.OK Try.prog := fun pa args r fr h => by
  simp only [k53] at h
  split at h
  · simp only [Option.some.injEq, Prod.mk.injEq, decide_eq_true_eq] at h
    obtain ⟨h0, rfl, rfl⟩ := h
    exact ZrL _ _ h0
  · cases h
def k70 : Ctr := ⟨70, 0, fun _ a => match a with | [.int .i64 n] => some (decide (Zfi n = true), .int .i64 (ZfI n), none) | _ => none⟩
theorem ZCf : k70.OK Try.prog := fun pa args r fr h => by
  simp only [k70] at h
  split at h
  · simp only [Option.some.injEq, Prod.mk.injEq, decide_eq_true_eq] at h
    obtain ⟨h0, rfl, rfl⟩ := h
    exact ZoP _ h0
  · cases h
def B1 : List Ctr := [k27, k87, k86, k84, k55, k67, k69, k127, k102, k53, k70]
theorem Zdx : Zas Try.prog B1 := ⟨ZCk, ⟨ZEP, ⟨ZDw, ⟨ZDn, ⟨ZC5, ⟨ZDf, ⟨ZAe, ⟨Zu1, ⟨Zyc, ⟨ZF3, ⟨ZCf, trivial⟩⟩⟩⟩⟩⟩⟩⟩⟩⟩⟩
end Go.Proofs.Ytjhdnpmojhkbjaa
