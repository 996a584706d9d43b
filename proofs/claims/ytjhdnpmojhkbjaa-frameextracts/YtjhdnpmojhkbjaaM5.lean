/- Contracts as a list. No condition. -/
import Derived.Test.YtjhdnpmojhkbjaaP3
import Derived.KernelRfl
namespace Go.Proofs.Ytjhdnpmojhkbjaa
def okF (hi n f : Int) : Bool := decide ((0 ≤ n ∧ n ≤ 63) ∧ (0 ≤ f ∧ f ≤ hi ∨ f = 255))
def frameW (a b c n f : Int) (ds : List Int) : Int := firstE [chanW b c, unlessE (okF (wr (a - 1)) n f) 2, unlessE (decide ((ds.length : Int) = a)) 10, bytesE ds]
def frameE (a b c n f : Int) (ds : List Int) : Int := firstE [chanE b c, unlessE (okF (a - 1) n f) 2, unlessE (decide ((ds.length : Int) = a)) 10, bytesE ds]
theorem frameW_eq {a b : Int} (h : rulesB a b = true) (c n f : Int) (ds : List Int) : frameW a b c n f ds = frameE a b c n f ds := by
  simp only [rulesB, decide_eq_true_eq] at h
  unfold frameW frameE chanW chanE
  rw [wr_id (n := b - 1) (by omega), wr_id (n := a - 1) (by omega)]
theorem okF_f (hi n f : Int) (h : ¬ (0 ≤ n ∧ n ≤ 63)) : okF hi n f = false := by simp [okF]; omega
theorem okF_t (hi n f : Int) (h : 0 ≤ n ∧ n ≤ 63) (h2 : 0 ≤ f ∧ f ≤ hi) : okF hi n f = true := by simp [okF]; omega
theorem okF_o (hi n f : Int) (h : 0 ≤ n ∧ n ≤ 63) (h2 : ¬ (0 ≤ f ∧ f ≤ hi)) : okF hi n f = decide (f = 255) := by
  by_cases h3 : f = 255
  · simp [okF, h3, h]
  · simp [okF, h3]; omega
theorem frame110_ok (a b c n f : Int) (ds : List Int) (h : ds.length ≤ 1000000) : Pure Try.prog 110 [.agg (.gen [.int .i64 a, .int .i64 b]), .agg (.gen [.int .i64 c, .int .i64 n, .int .i64 f, .list (.ints .i64 ds)])] (.int .i64 (frameW a b c n f ds)) none :=
  start (f110e_at a b c n f ds) fun C hC => by
    by_cases h1 : 0 ≤ n ∧ n ≤ 63
    · by_cases h2 : 0 ≤ f ∧ f ≤ wr (a - 1)
      · have h2' : decide (0 ≤ f ∧ f ≤ Go.IntKind.wrap .i64 (std.sub a 1)) = true := decide_eq_true h2
        exact fin hC B2_ok (f110p0 std a b c n f ds) (by simp only [h2']; simp [h1, h, AV.bx, flatLen]) (by rw [frameW, okF_t _ _ _ h1 h2]; rfl) rfl
      · have h2' : decide (0 ≤ f ∧ f ≤ Go.IntKind.wrap .i64 (std.sub a 1)) = false := decide_eq_false h2
        exact fin hC B2_ok (f110p1 std a b c n f ds) (by simp only [h2']; simp [h1, h, AV.bx, flatLen]) (by rw [frameW, okF_o _ _ _ h1 h2]; rfl) rfl
    · have h1' : decide (0 ≤ n ∧ n ≤ 63) = false := decide_eq_false h1
      exact fin hC B2_ok (f110p2 std a b c n f ds) (by simp only [h1']; simp [h, AV.bx, flatLen]) (by rw [frameW, okF_f _ _ _ h1]; rfl) rfl
theorem firstE4 (x y z u : Int) : firstE [x, y, z, u] = if x = 0 then (if y = 0 then (if z = 0 then u else z) else y) else x := by
  simp only [firstE]
  by_cases hu : u = 0 <;> simp [hu]
theorem frame64_ok (a b c n f : Int) (ds : List Int) (h : (-1000000 ≤ a ∧ a ≤ 1000000) ∧ (-1000000 ≤ b ∧ b ≤ 1000000)) : Pure Try.prog 64 [.agg (.gen [.int .i64 a, .int .i64 b]), .agg (.gen [.int .i64 c, .int .i64 n, .int .i64 f, .list (.ints .i64 ds)])] (.int .i64 (frameE a b c n f ds)) none :=
  start (f64e_at a b c n f ds) fun C hC => by
    obtain ⟨ha, hb⟩ := h
    rw [frameE, firstE4]
    by_cases h0 : chanE b c = 0
    · rw [if_pos h0]
      by_cases h1 : 0 ≤ n ∧ n ≤ 63
      · by_cases h2 : 0 ≤ f ∧ f ≤ a - 1
        · rw [okF_t _ _ _ h1 h2, unlessE_t, if_pos rfl]
          by_cases h3 : (ds.length : Int) = a
          · exact fin hC B2_ok (f64p6 std a b c n f ds) (by simp [h0, h1, h2.1, h2.2, h3]; omega) (by simp [h3]) rfl
          · exact fin hC B2_ok (f64p5 std a b c n f ds) (by simp [h0, h1, h2.1, h2.2, h3]; omega) (by simp [h3]) rfl
        · have h2' : decide (0 ≤ f ∧ f ≤ std.sub a 1) = false := decide_eq_false h2
          rw [okF_o _ _ _ h1 h2]
          by_cases h4 : f = 255
          · rw [decide_eq_true h4, unlessE_t, if_pos rfl]
            by_cases h3 : (ds.length : Int) = a
            · exact fin hC B2_ok (f64p4 std a b c n f ds) (by simp only [h2']; simp [h0, h1, h3, h4]; omega) (by simp [h3]) rfl
            · exact fin hC B2_ok (f64p3 std a b c n f ds) (by simp only [h2']; simp [h0, h1, h3, h4]; omega) (by simp [h3]) rfl
          · rw [decide_eq_false h4]
            exact fin hC B2_ok (f64p2 std a b c n f ds) (by simp only [h2']; simp [h0, h1, h4]; omega) (by simp) rfl
      · have h1' : decide (0 ≤ n ∧ n ≤ 63) = false := decide_eq_false h1
        rw [okF_f _ _ _ h1]
        exact fin hC B2_ok (f64p1 std a b c n f ds) (by simp only [h1']; simp [h0]; omega) (by simp) rfl
    · rw [if_neg h0]
      exact fin hC B2_ok (f64p0 std a b c n f ds) (by simp [h0]; omega) rfl rfl
def k110 : Ctr := ⟨110, 0, fun _ a => match a with | [.agg (.gen [.int .i64 a, .int .i64 b]), .agg (.gen [.int .i64 c, .int .i64 n, .int .i64 f, .list (.ints .i64 ds)])] => some (decide (ds.length ≤ 1000000), .int .i64 (frameW a b c n f ds), none) | _ => none⟩
theorem k110_ok : k110.OK Try.prog := fun pa args r fr h => by
  simp only [k110] at h
  split at h
  · simp only [Option.some.injEq, Prod.mk.injEq, decide_eq_true_eq] at h
    obtain ⟨h0, rfl, rfl⟩ := h
    exact frame110_ok _ _ _ _ _ _ h0
  · cases h
def k64 : Ctr := ⟨64, 0, fun _ a => match a with | [.agg (.gen [.int .i64 a, .int .i64 b]), .agg (.gen [.int .i64 c, .int .i64 n, .int .i64 f, .list (.ints .i64 ds)])] => some (decide ((-1000000 ≤ a ∧ a ≤ 1000000) ∧ (-1000000 ≤ b ∧ b ≤ 1000000)), .int .i64 (frameE a b c n f ds), none) | _ => none⟩
theorem k64_ok : k64.OK Try.prog := fun pa args r fr h => by
  simp only [k64] at h
  split at h
  · simp only [Option.some.injEq, Prod.mk.injEq, decide_eq_true_eq] at h
    obtain ⟨h0, rfl, rfl⟩ := h
    exact frame64_ok _ _ _ _ _ _ h0
  · cases h
def B3 : List Ctr := [k110, k64] ++ B2
theorem B3_ok : CtrsOK Try.prog B3 := ⟨k110_ok, ⟨k64_ok, B2_ok⟩⟩
end Go.Proofs.Ytjhdnpmojhkbjaa
/- Contracts as a list. No condition. -/
namespace Go.Proofs.Ytjhdnpmojhkbjaa
theorem WkL.rel {w : World} {ok : Nat → Prop} {h : AHeap} {L : Lay} {xs ys : List AV} {v : Value} (hw : WkL xs ys) (hr : Rel w ok h L (.agg (.gen xs)) v) : Rel w ok h L (.agg (.gen ys)) v := by
  obtain ⟨e1, e2⟩ := hw.spec
  cases hr with
  | agg _ us hx vs hl h1 hrr =>
    simp only [Row.elems] at hx
    subst hx
    refine .agg _ ys rfl vs (by rw [← e1]; exact hl) h1 (fun j u v hu hv => ?_)
    obtain ⟨q, q1, q2⟩ := e2 j u hu
    exact q2.rel (hrr j q v q1 hv)
inductive Wk2 : AV → AV → Prop
  | one {x y : AV} (h : Wk1 x y) : Wk2 x y
  | agg {xs ys : List AV} (h : WkL xs ys) : Wk2 (.agg (.gen xs)) (.agg (.gen ys))
theorem Wk2.rel {w : World} {ok : Nat → Prop} {h : AHeap} {L : Lay} {x y : AV} {v : Value} (hw : Wk2 x y) (hr : Rel w ok h L x v) : Rel w ok h L y v := by
  cases hw with
  | one h => exact h.rel hr
  | agg h => exact h.rel hr
def Wk2L : List AV → List AV → Prop
  | [], [] => True
  | x :: xs, y :: ys => Wk2 x y ∧ Wk2L xs ys
  | _, _ => False
theorem Wk2L.spec : ∀ {xs ys : List AV}, Wk2L xs ys → xs.length = ys.length ∧ ∀ (j : Nat) (y : AV), ys[j]? = some y → ∃ x, xs[j]? = some x ∧ Wk2 x y
  | [], [], _ => ⟨rfl, fun j y h => by simp at h⟩
  | x :: xs, y :: ys, h => by
    obtain ⟨h1, h2⟩ := h
    obtain ⟨e1, e2⟩ := Wk2L.spec h2
    refine ⟨by simp [e1], fun j z hz => ?_⟩
    cases j with
    | zero => simp at hz; subst hz; exact ⟨x, rfl, h1⟩
    | succ j => obtain ⟨q, q1, q2⟩ := e2 j z (by simpa using hz); exact ⟨q, by simpa using q1, q2⟩
theorem pure_mono {f : FuncId} {args : List AV} {x y : AV} {fr : Option Fresh} (h : Pure Try.prog f args x fr) (hw : ∀ {w : World} {ok : Nat → Prop} {hh : AHeap} {L : Lay} {v : Value}, Rel w ok hh L x v → Rel w ok hh L y v) : Pure Try.prog f args y fr := by
  intro w okA L vs hargs hok
  refine (h w okA L vs hargs hok).mono ?_
  rintro e w' ⟨x, L', rfl, hb, hp⟩
  refine ⟨x, L', rfl, hb, ?_⟩
  unfold PostC at hp ⊢
  split
  · rename_i hn; rw [hn] at hp; exact hw hp
  · rename_i hn; rw [hn] at hp; exact ⟨hp.1, hw hp.2⟩
theorem wk2 {f : FuncId} {args : List AV} {x y : AV} {fr : Option Fresh} (h : Pure Try.prog f args x fr) (hw : Wk2 x y) : Pure Try.prog f args y fr := pure_mono h hw.rel
theorem wk2_tup {f : FuncId} {args xs ys : List AV} {fr : Option Fresh} (h : Pure Try.prog f args (.tup xs) fr) (hw : Wk2L xs ys) : Pure Try.prog f args (.tup ys) fr :=
  pure_mono h fun hr => by
    obtain ⟨e1, e2⟩ := hw.spec
    cases hr with
    | tup _ vs hl hrr =>
      refine .tup _ vs (by rw [← e1]; exact hl) (fun j u v hu hv => ?_)
      obtain ⟨q, q1, q2⟩ := e2 j u hu
      exact q2.rel (hrr j q v q1 hv)
theorem pure_args {f : FuncId} {xs ys : List AV} {x : AV} {fr : Option Fresh} (h : Pure Try.prog f ys x fr) (hw : Wk2L xs ys) : Pure Try.prog f xs x fr := by
  intro w okA L vs hargs hok
  obtain ⟨e1, e2⟩ := hw.spec
  refine h w okA L vs ⟨by rw [← e1]; exact hargs.1, fun j u v hu hv => ?_⟩ hok
  obtain ⟨q, q1, q2⟩ := e2 j u hu
  exact q2.rel (hargs.2 j q v q1 hv)
theorem wk2_refl (x : AV) : Wk2 x x := .one (.same _)
theorem frameE_ok {a b c n f : Int} {ds : List Int} (h : frameE a b c n f ds = 0) : (0 ≤ c ∧ c ≤ b - 1) ∧ (0 ≤ n ∧ n ≤ 63) ∧ (0 ≤ f ∧ f ≤ a - 1 ∨ f = 255) ∧ (ds.length : Int) = a ∧ bytesE ds = 0 := by
  rw [frameE, firstE4] at h
  by_cases h1 : 0 ≤ c ∧ c ≤ b - 1
  · rw [chanE, if_pos h1, if_pos rfl] at h
    by_cases h2 : okF (a - 1) n f = true
    · rw [h2, unlessE_t, if_pos rfl] at h
      by_cases h3 : (ds.length : Int) = a
      · rw [decide_eq_true h3, unlessE_t, if_pos rfl] at h
        simp only [okF, decide_eq_true_eq] at h2
        exact ⟨h1, h2.1, h2.2, h3, h⟩
      · rw [decide_eq_false h3, unlessE_f, if_neg (by decide)] at h; cases h
    · simp only [Bool.not_eq_true] at h2
      rw [h2, unlessE_f, if_neg (by decide)] at h; cases h
  · rw [chanE, if_neg h1, if_neg (by decide)] at h; cases h
theorem bytesE_mem {xs : List Int} (h : bytesE xs = 0) : ∀ x ∈ xs, 0 ≤ x ∧ x ≤ 255 := by
  unfold bytesE at h
  split at h
  · rename_i hb
    intro x hx
    have := List.all_eq_true.1 hb x hx
    simpa [byteB] using this
  · cases h
def B4 : List Ctr := B3
theorem B4_ok : CtrsOK Try.prog B4 := B3_ok
end Go.Proofs.Ytjhdnpmojhkbjaa
/- Contracts as a list. No condition. -/
namespace Go.Proofs.Ytjhdnpmojhkbjaa
theorem awake_ok : Pure Try.prog 14 [] (.bool true) none := q254_ok
def k14 : Ctr := ⟨14, 0, fun _ a => match a with | [] => some (true, .bool true, none) | _ => none⟩
theorem k14_ok : k14.OK Try.prog := fun pa args r fr h => by
  simp only [k14] at h
  split at h
  · cases h
    exact awake_ok
  · cases h
def B5 : List Ctr := [k14] ++ B4
theorem B5_ok : CtrsOK Try.prog B5 := ⟨k14_ok, B4_ok⟩
end Go.Proofs.Ytjhdnpmojhkbjaa
/- Contracts as a list. No condition. -/
namespace Go.Proofs.Ytjhdnpmojhkbjaa
def bigB (x : Int) : Bool := decide (-9223372036854775807 ≤ x ∧ x ≤ 9223372036854775807)
theorem size70w_ok (n : Int) (h : bigB n = true) : Pure Try.prog 70 [.int .i64 n] (.int .i64 (sizeI n)) none :=
  start (f70e_at n) fun C hC => fin hC E0_ok (f70p0 std n) (by simp [bigB] at h ⊢; omega) rfl rfl
def k70w : Ctr := ⟨70, 0, fun _ a => match a with | [.int .i64 n] => some (decide (bigB n = true), .int .i64 (sizeI n), none) | _ => none⟩
theorem k70w_ok : k70w.OK Try.prog := fun pa args r fr h => by
  simp only [k70w] at h
  split at h
  · simp only [Option.some.injEq, Prod.mk.injEq, decide_eq_true_eq] at h
    obtain ⟨h0, rfl, rfl⟩ := h
    exact size70w_ok _ h0
  · cases h
def BC0 : List Ctr := [k70w] ++ B5
theorem BC0_ok : CtrsOK Try.prog BC0 := ⟨k70w_ok, B5_ok⟩
end Go.Proofs.Ytjhdnpmojhkbjaa
/- Paths of functions, printed by the explorer (Gx). No condition. -/
namespace Go.Proofs.Ytjhdnpmojhkbjaa
set_option maxRecDepth 100000
set_option linter.unusedVariables false
def f114e (n : Int) (d : Int) : List AFrame := [{ fn := 114, N := 25, env := [(0, AV.int .i64 n), (1, AV.int .i64 d)], todo := [.code a114.code], defs := [], rnd := none, ret := false, res := [ARes.cell 4 true 2] }]
theorem f114e_at (n : Int) (d : Int) : enterA tab 114 [AV.int .i64 n, AV.int .i64 d] = some { fn := 114, N := 25, env := [(0, AV.int .i64 n), (1, AV.int .i64 d)], todo := [.code a114.code], defs := [], rnd := none, ret := false, res := [ARes.cell 4 true 2] } := rfl
def f114h114_0a (n : Int) (d : Int) (n0 : Int) (n1 : Int) : List AFrame := [{ fn := 114, N := 25, env := [(0, AV.int .i64 n), (1, AV.int .i64 d), (4, AV.ptr 114005 0 0 0), (5, AV.int .i64 n1), (6, AV.int .i64 n0)], todo := .code (ACode.gh [] l114_0) :: k114_0, defs := [], rnd := none, ret := false, res := [ARes.cell 4 true 2] }]
def f114h114_0am (n : Int) (d : Int) (n0 : Int) (n1 : Int) : AHeap := [(114005, { base := 0, blks := [Blk.row 79 2 (Row.gen [AV.agg (Row.gen [AV.int .i64 0, AV.int .i64 0])])] })]
theorem f114p0 (A : Ar) (n : Int) (d : Int) : gwalkL A tab BC0 18 [] (f114e n d) [] =
  some ([true, true, true, A.inR .i64 (A.neg n), true, true, true, A.and true (A.ltN 0 2)],
   f114h114_0a (n) (d) (A.max n (A.neg n)) (d), f114h114_0am (n) (d) (A.max n (A.neg n)) (d)) := by kernel_rfl
theorem f114p1 (A : Ar) (n : Int) (d : Int) (n0 : Int) (n1 : Int) : gwalkL A tab BC0 14 [true] (f114h114_0a n d n0 n1) (f114h114_0am n d n0 n1) =
  some ([true, true, A.not (A.eq n0 0), true, true, true, A.not (A.eq n0 0), true, true],
   f114h114_0a (n) (d) (A.rem n1 n0) (n0), f114h114_0am (n) (d) (A.rem n1 n0) (n0)) := by kernel_rfl
theorem f114p2 (A : Ar) (n : Int) (d : Int) (n0 : Int) (n1 : Int) : gfin A tab BC0 13 [false] 114 (f114h114_0a n d n0 n1) (f114h114_0am n d n0 n1) =
  some ([A.and (A.and (A.and (A.ltN 0 1) (A.leN (A.addN 0 2) 2)) true) (A.and true true), A.and (A.ltN 0 1) (A.eqN 2 2), A.and (A.and true (A.eqN 1 1)) (A.and (A.leN (A.addN 0 1) 2) (A.and (A.ltN 0 1) (A.and (A.and true (A.eqN 1 1)) (A.and (A.leN (A.addN 1 1) 2) (A.and (A.ltN 0 1) true))))), A.and (A.not (A.eq n1 0)) (A.inR .i64 (A.quo d n1)), true, true, A.and (A.not (A.eq n1 0)) (A.inR .i64 (A.quo n n1)), true, true, !A.not (A.eq n0 0), true, true],
   AV.agg (Row.gen [.int .i64 (A.quo n n1), .int .i64 (A.quo d n1)]), none) := by kernel_rfl
def f45h45_0a (xs : List AV) (ys : List AV) (n0 : Int) : List AFrame := [{ fn := 45, N := 26, env := [(0, AV.list (Row.big (Sh.agg [Sh.int .i64, Sh.int .i64]) xs)), (1, AV.list (Row.big (Sh.agg [Sh.int .i64, Sh.int .i64]) ys)), (5, AV.int .i64 n0)], todo := .code (ACode.gh [] l45_0) :: k45_0, defs := [], rnd := none, ret := false, res := [ARes.tmp 4] }]
def f45h45_0am (xs : List AV) (ys : List AV) (n0 : Int) : AHeap := []
theorem f45p2 (A : Ar) (xs : List AV) (ys : List AV) (n0 : Int) : gfin A tab BC0 22 [true, true] 45 (f45h45_0a xs ys n0) (f45h45_0am xs ys n0) =
  some ([A.and true (A.and true true), true, A.not (A.and (A.eq ((A.nthA xs (A.nat n0)).cellAt 0).toI ((A.nthA ys (A.nat n0)).cellAt 0).toI) (A.eq ((A.nthA xs (A.nat n0)).cellAt 1).toI ((A.nthA ys (A.nat n0)).cellAt 1).toI)), A.and true true, A.leN (A.addN 0 2) 2, A.and (A.and (A.le 0 n0) (A.ltN (A.nat n0) (A.lenA ys))) (A.eqN 2 2), true, true, A.leN (A.addN 0 2) 2, A.and (A.and (A.le 0 n0) (A.ltN (A.nat n0) (A.lenA xs))) (A.eqN 2 2), true, true, A.lt n0 (A.int (A.lenA xs)), true, true, true, true],
   AV.bool false, none) := by kernel_rfl
theorem f45p3 (A : Ar) (xs : List AV) (ys : List AV) (n0 : Int) : gwalkL A tab BC0 26 [true, false] (f45h45_0a xs ys n0) (f45h45_0am xs ys n0) =
  some ([true, A.inR .i64 (A.add n0 1), true, !A.not (A.and (A.eq ((A.nthA xs (A.nat n0)).cellAt 0).toI ((A.nthA ys (A.nat n0)).cellAt 0).toI) (A.eq ((A.nthA xs (A.nat n0)).cellAt 1).toI ((A.nthA ys (A.nat n0)).cellAt 1).toI)), A.and true true, A.leN (A.addN 0 2) 2, A.and (A.and (A.le 0 n0) (A.ltN (A.nat n0) (A.lenA ys))) (A.eqN 2 2), true, true, A.leN (A.addN 0 2) 2, A.and (A.and (A.le 0 n0) (A.ltN (A.nat n0) (A.lenA xs))) (A.eqN 2 2), true, true, A.lt n0 (A.int (A.lenA xs)), true, true, true, true],
   f45h45_0a (xs) (ys) (A.add n0 1), f45h45_0am (xs) (ys) (A.add n0 1)) := by kernel_rfl
theorem f45p4 (A : Ar) (xs : List AV) (ys : List AV) (n0 : Int) : gfin A tab BC0 16 [false] 45 (f45h45_0a xs ys n0) (f45h45_0am xs ys n0) =
  some ([A.and true (A.and true true), true, !A.lt n0 (A.int (A.lenA xs)), true, true, true, true],
   AV.bool true, none) := by kernel_rfl
end Go.Proofs.Ytjhdnpmojhkbjaa
/- Contracts as a list. No condition. -/
namespace Go.Proofs.Ytjhdnpmojhkbjaa
theorem gcd_step (a b : Int) : Int.gcd b (a.tmod b) = Int.gcd a b := by
  unfold Int.gcd
  rw [Int.natAbs_tmod, Nat.gcd_comm a.natAbs b.natAbs, Nat.gcd_rec b.natAbs a.natAbs, Nat.gcd_comm]
theorem tdiv_rng (n : Int) {d : Int} (h : 0 < d) : n.tdiv d * d + n.tmod d = n ∧ -d < n.tmod d ∧ n.tmod d < d ∧ (0 ≤ n → 0 ≤ n.tdiv d ∧ 0 ≤ n.tmod d) ∧ (n ≤ 0 → n.tdiv d ≤ 0 ∧ n.tmod d ≤ 0) ∧ (n.tdiv d).natAbs ≤ n.natAbs := by
  refine ⟨Int.tdiv_mul_add_tmod n d, (tmodR n h).1, (tmodR n h).2, fun hn => ⟨Int.tdiv_nonneg hn (by omega), Int.tmod_nonneg _ hn⟩, fun hn => ?_, ?_⟩
  · have e1 : (-n).tdiv d = -(n.tdiv d) := Int.neg_tdiv n d
    have e2 : (-n).tmod d = -(n.tmod d) := Int.neg_tmod n d
    have h1 := Int.tdiv_nonneg (show 0 ≤ -n by omega) (show 0 ≤ d by omega)
    have h2 := Int.tmod_nonneg d (show 0 ≤ -n by omega)
    omega
  · rw [Int.natAbs_tdiv]; exact Nat.div_le_self _ _
def lN (n d : Int) : Int := n.tdiv (Int.gcd n d : Int)
def lD (n d : Int) : Int := d.tdiv (Int.gcd n d : Int)
theorem l114 {C : Ctx} (hC : C.P = Try.prog) (n d : Int) (hn : bigB n = true) (hd0 : 0 < d) (hd : bigB d = true) : ∀ (k : Nat) (a b : Int), b.natAbs ≤ k → 0 ≤ a → 0 ≤ b → 0 < a + b → (Int.gcd a b : Int) = Int.gcd n d →
    Ev C (f114h114_0a n d b a) (f114h114_0am n d b a) (FinQ 114 (.agg (.gen [.int .i64 (lN n d), .int .i64 (lD n d)])) none) := by
  intro k
  have fin0 : ∀ a, 0 ≤ a → 0 < a + 0 → (Int.gcd a 0 : Int) = Int.gcd n d → Ev C (f114h114_0a n d 0 a) (f114h114_0am n d 0 a) (FinQ 114 (.agg (.gen [.int .i64 (lN n d), .int .i64 (lD n d)])) none) := by
    intro a ha hab hg
    rw [Int.gcd_zero_right] at hg
    have hga : (Int.gcd n d : Int) = a := by omega
    have ha0 : 0 < a := by omega
    obtain ⟨_, _, _, _, _, h1⟩ := tdiv_rng n ha0
    obtain ⟨_, _, _, _, _, h2⟩ := tdiv_rng d ha0
    simp only [bigB, decide_eq_true_eq] at hn hd
    exact fin hC BC0_ok (f114p2 std n d 0 a) (by simp; omega) (by rw [lN, lD, hga]; rfl) rfl
  induction k with
  | zero =>
    intro a b hk ha hb hab hg
    have hb0 : b = 0 := by omega
    subst hb0
    exact fin0 a ha hab hg
  | succ k ih =>
    intro a b hk ha hb hab hg
    by_cases hb0 : b = 0
    · subst hb0
      exact fin0 a ha hab hg
    · refine go hC BC0_ok (f114p1 std n d b a) (by simp [hb0]) ?_
      have h1 := Int.tmod_nonneg b ha
      have h2 := Int.tmod_lt_of_pos a (show 0 < b by omega)
      exact ih b (a.tmod b) (by omega) hb h1 (by omega) (by rw [gcd_step, hg])
theorem lowest114_ok (n d : Int) (h : bigB n = true ∧ 0 < d ∧ bigB d = true) : Pure Try.prog 114 [.int .i64 n, .int .i64 d] (.agg (.gen [.int .i64 (lN n d), .int .i64 (lD n d)])) none :=
  start (f114e_at n d) fun C hC => by
    obtain ⟨hn, hd0, hd⟩ := h
    have hn' := hn
    simp only [bigB, decide_eq_true_eq] at hn'
    refine go hC BC0_ok (f114p0 std n d) (by simp; omega) ?_
    have e : std.max n (std.neg n) = (n.natAbs : Int) := by simp; omega
    rw [e]
    exact l114 hC n d hn hd0 hd n.natAbs d (n.natAbs : Int) (by omega) (by omega) (by omega) (by omega) (by rw [Int.gcd_comm]; simp [Int.gcd])
def prP (p : AV) : Int × Int := ((p.cellAt 0).toI, (p.cellAt 1).toI)
theorem l45 {C : Ctx} (hC : C.P = Try.prog) (xs ys : List AV) (hl : xs.length = ys.length) (hlen : xs.length ≤ 1000000) : ∀ (d i : Nat), xs.length - i = d → i ≤ xs.length → (xs.take i).map prP = (ys.take i).map prP →
    Ev C (f45h45_0a xs ys i) (f45h45_0am xs ys i) (FinQ 45 (.bool (decide (xs.map prP = ys.map prP))) none) := by
  intro d
  induction d with
  | zero =>
    intro i hd hi ht
    have hi : i = xs.length := by omega
    have he : xs.map prP = ys.map prP := by rw [hi] at ht; rw [List.take_length, hl, List.take_length] at ht; exact ht
    exact fin hC BC0_ok (f45p4 std xs ys i) (by simp; omega) (by simp [he]) rfl
  | succ d ih =>
    intro i hd hi ht
    have hlt : i < xs.length := by omega
    have hlt2 : i < ys.length := by omega
    have e1 : std.nthA xs (std.nat (i : Int)) = xs[i] := by simp [hlt]
    have e2 : std.nthA ys (std.nat (i : Int)) = ys[i] := by simp [hlt2]
    by_cases h1 : prP xs[i] = prP ys[i]
    · refine go hC BC0_ok (f45p3 std xs ys i) ?_ (ih (i + 1) (by omega) (by omega) (by
        rw [List.take_succ_eq_append_getElem hlt, List.take_succ_eq_append_getElem hlt2, List.map_append, List.map_append, ht, List.map_singleton, List.map_singleton, h1]))
      simp only [e1, e2]
      simp only [prP, Prod.mk.injEq] at h1
      simp [h1.1, h1.2, hlt, hlt2, Row.len]
      omega
    · refine fin hC BC0_ok (f45p2 std xs ys i) ?_ ?_ rfl
      · simp only [e1, e2]
        simp only [prP, Prod.mk.injEq, not_and] at h1
        simp [hlt, hlt2, Row.len]
        by_cases h2 : (xs[i].cellAt 0).toI = (ys[i].cellAt 0).toI
        · exact .inr (h1 h2)
        · exact .inl h2
      · have : xs.map prP ≠ ys.map prP := fun e => h1 (by
          have := congrArg (fun l => l[i]?) e
          simpa [hlt, hlt2] using this)
        simp [this]
def k114 : Ctr := ⟨114, 0, fun _ a => match a with | [.int .i64 n, .int .i64 d] => some (decide (bigB n = true ∧ 0 < d ∧ bigB d = true), .agg (.gen [.int .i64 (lN n d), .int .i64 (lD n d)]), none) | _ => none⟩
theorem k114_ok : k114.OK Try.prog := fun pa args r fr h => by
  simp only [k114] at h
  split at h
  · simp only [Option.some.injEq, Prod.mk.injEq, decide_eq_true_eq] at h
    obtain ⟨h0, rfl, rfl⟩ := h
    exact lowest114_ok _ _ h0
  · cases h
def BC1 : List Ctr := BC0
theorem BC1_ok : CtrsOK Try.prog BC1 := BC0_ok
end Go.Proofs.Ytjhdnpmojhkbjaa
/- Paths of functions, printed by the explorer (Gx). No condition. -/
namespace Go.Proofs.Ytjhdnpmojhkbjaa
set_option maxRecDepth 100000
set_option linter.unusedVariables false
def f92e (n : Int) (d : Int) : List AFrame := [{ fn := 92, N := 20, env := [(0, AV.int .i64 n), (1, AV.int .i64 d)], todo := [.code a92.code], defs := [], rnd := none, ret := false, res := [ARes.cell 4 true 2] }]
theorem f92e_at (n : Int) (d : Int) : enterA tab 92 [AV.int .i64 n, AV.int .i64 d] = some { fn := 92, N := 20, env := [(0, AV.int .i64 n), (1, AV.int .i64 d)], todo := [.code a92.code], defs := [], rnd := none, ret := false, res := [ARes.cell 4 true 2] } := rfl
theorem f92p1 (A : Ar) (n : Int) (d : Int) : gfin A tab BC1 23 [false] 92 (f92e n d) [] =
  some ([A.and (A.and (A.and (A.ltN 0 1) (A.leN (A.addN 0 2) 2)) true) (A.and true true), A.and (A.ltN 0 1) (A.eqN 2 2), A.and (A.and true (A.eqN 1 1)) (A.and (A.leN (A.addN 0 1) 2) (A.and (A.ltN 0 1) (A.and (A.and true (A.eqN 1 1)) (A.and (A.leN (A.addN 1 1) 2) (A.and (A.ltN 0 1) true))))), A.and (A.not (A.eq (↑(Int.gcd n d)) 0)) (A.inR .i64 (A.quo d ↑(Int.gcd n d))), true, true, A.and (A.not (A.eq (↑(Int.gcd n d)) 0)) (A.inR .i64 (A.quo n ↑(Int.gcd n d))), true, true, !A.lt d 0, true, true, true, A.and true (decide (bigB n = true ∧ bigB d = true)), true, true, A.and true (A.ltN 0 2)],
   AV.agg (Row.gen [.int .i64 (A.quo n ↑(Int.gcd n d)), .int .i64 (A.quo d ↑(Int.gcd n d))]), none) := by kernel_rfl
end Go.Proofs.Ytjhdnpmojhkbjaa
/- Contracts as a list. No condition. -/
namespace Go.Proofs.Ytjhdnpmojhkbjaa
theorem lowest92_ok (n d : Int) (h : bigB n = true ∧ 0 < d ∧ bigB d = true) : Pure Try.prog 92 [.int .i64 n, .int .i64 d] (.agg (.gen [.int .i64 (lN n d), .int .i64 (lD n d)])) none :=
  start (f92e_at n d) fun C hC => by
    obtain ⟨hn, hd0, hd⟩ := h
    have hg : 0 < (Int.gcd n d : Int) := by
      have := Int.gcd_pos_of_ne_zero_right n (show d ≠ 0 by omega)
      omega
    obtain ⟨_, _, _, _, _, h1⟩ := tdiv_rng n hg
    obtain ⟨_, _, _, _, _, h2⟩ := tdiv_rng d hg
    refine fin hC BC1_ok (f92p1 std n d) ?_ rfl rfl
    have hn' := hn; have hd' := hd
    simp only [bigB, decide_eq_true_eq] at hn' hd'
    simp [hn, hd]
    omega
def k92 : Ctr := ⟨92, 0, fun _ a => match a with | [.int .i64 n, .int .i64 d] => some (decide (bigB n = true ∧ 0 < d ∧ bigB d = true), .agg (.gen [.int .i64 (lN n d), .int .i64 (lD n d)]), none) | _ => none⟩
theorem k92_ok : k92.OK Try.prog := fun pa args r fr h => by
  simp only [k92] at h
  split at h
  · simp only [Option.some.injEq, Prod.mk.injEq, decide_eq_true_eq] at h
    obtain ⟨h0, rfl, rfl⟩ := h
    exact lowest92_ok _ _ h0
  · cases h
end Go.Proofs.Ytjhdnpmojhkbjaa
/- Paths of functions, printed by the explorer (Gx). No condition. -/
namespace Go.Proofs.Ytjhdnpmojhkbjaa
set_option maxRecDepth 100000
set_option linter.unusedVariables false
def f120e (a : Int) (b : Int) : List AFrame := [{ fn := 120, N := 20, env := [(0, AV.int .i64 a), (1, AV.int .i64 b)], todo := [.code a120.code], defs := [], rnd := none, ret := false, res := [ARes.tmp 4] }]
theorem f120e_at (a : Int) (b : Int) : enterA tab 120 [AV.int .i64 a, AV.int .i64 b] = some { fn := 120, N := 20, env := [(0, AV.int .i64 a), (1, AV.int .i64 b)], todo := [.code a120.code], defs := [], rnd := none, ret := false, res := [ARes.tmp 4] } := rfl
theorem f120p3 (A : Ar) (a : Int) (b : Int) : gfin A tab B5 69 [false, false, true] 120 (f120e a b) [] =
  some ([A.and true (A.and true true), true, A.lt a b, true, true, true, !A.not (A.eq b b), true, !A.not (A.eq a a), true, true, true, true, true, true, true, true, true, true, true, true, true, true, true, true, true, true],
   AV.int .i64 (-1), none) := by kernel_rfl
theorem f120p4 (A : Ar) (a : Int) (b : Int) : gfin A tab B5 78 [false, false, false, true] 120 (f120e a b) [] =
  some ([A.and true (A.and true true), true, A.lt b a, true, true, true, !A.lt a b, true, true, true, !A.not (A.eq b b), true, !A.not (A.eq a a), true, true, true, true, true, true, true, true, true, true, true, true, true, true, true, true, true, true],
   AV.int .i64 1, none) := by kernel_rfl
theorem f120p5 (A : Ar) (a : Int) (b : Int) : gfin A tab B5 79 [false, false, false, false] 120 (f120e a b) [] =
  some ([A.and true (A.and true true), true, !A.lt b a, true, true, true, !A.lt a b, true, true, true, !A.not (A.eq b b), true, !A.not (A.eq a a), true, true, true, true, true, true, true, true, true, true, true, true, true, true, true, true, true, true],
   AV.int .i64 0, none) := by kernel_rfl
end Go.Proofs.Ytjhdnpmojhkbjaa
/- Contracts as a list. No condition. -/
namespace Go.Proofs.Ytjhdnpmojhkbjaa
def cmp3 (a b : Int) : Int := if a < b then -1 else if b < a then 1 else 0
theorem cmp120_ok (a b : Int) : Pure Try.prog 120 [.int .i64 a, .int .i64 b] (.int .i64 (cmp3 a b)) none :=
  start (f120e_at a b) fun C hC => by
    by_cases h1 : a < b
    · exact fin hC B5_ok (f120p3 std a b) (by simp [h1]) (by rw [cmp3, if_pos h1]) rfl
    · by_cases h2 : b < a
      · exact fin hC B5_ok (f120p4 std a b) (by simp [h1, h2]) (by rw [cmp3, if_neg h1, if_pos h2]) rfl
      · exact fin hC B5_ok (f120p5 std a b) (by simp [h1, h2]) (by rw [cmp3, if_neg h1, if_neg h2]) rfl
def k120 : Ctr := ⟨120, 0, fun _ a => match a with | [.int .i64 a, .int .i64 b] => some (true, .int .i64 (cmp3 a b), none) | _ => none⟩
theorem k120_ok : k120.OK Try.prog := fun pa args r fr h => by
  simp only [k120] at h
  split at h
  · cases h
    exact cmp120_ok _ _
  · cases h
def BO0 : List Ctr := [k120] ++ B5
theorem BO0_ok : CtrsOK Try.prog BO0 := ⟨k120_ok, B5_ok⟩
end Go.Proofs.Ytjhdnpmojhkbjaa
/- Paths of functions, printed by the explorer (Gx). No condition. -/
namespace Go.Proofs.Ytjhdnpmojhkbjaa
set_option maxRecDepth 100000
set_option linter.unusedVariables false
def f119e (a : Int) (b : Int) (c : Int) (d : Int) (a2 : Int) (b2 : Int) (c2 : Int) (e : Int) (xs : Row) (ys : Row) : List AFrame := [{ fn := 119, N := 10, env := [(0, AV.agg (Row.gen [AV.int .i64 a, AV.int .i64 b, AV.int .i64 c, AV.list xs, AV.int .i64 d])), (1, AV.agg (Row.gen [AV.int .i64 a2, AV.int .i64 b2, AV.int .i64 c2, AV.list ys, AV.int .i64 e]))], todo := [.code a119.code], defs := [], rnd := none, ret := false, res := [ARes.tmp 4] }]
theorem f119e_at (a : Int) (b : Int) (c : Int) (d : Int) (a2 : Int) (b2 : Int) (c2 : Int) (e : Int) (xs : Row) (ys : Row) : enterA tab 119 [AV.agg (Row.gen [AV.int .i64 a, AV.int .i64 b, AV.int .i64 c, AV.list xs, AV.int .i64 d]), AV.agg (Row.gen [AV.int .i64 a2, AV.int .i64 b2, AV.int .i64 c2, AV.list ys, AV.int .i64 e])] = some { fn := 119, N := 10, env := [(0, AV.agg (Row.gen [AV.int .i64 a, AV.int .i64 b, AV.int .i64 c, AV.list xs, AV.int .i64 d])), (1, AV.agg (Row.gen [AV.int .i64 a2, AV.int .i64 b2, AV.int .i64 c2, AV.list ys, AV.int .i64 e]))], todo := [.code a119.code], defs := [], rnd := none, ret := false, res := [ARes.tmp 4] } := rfl
theorem f119p0 (A : Ar) (a : Int) (b : Int) (c : Int) (d : Int) (a2 : Int) (b2 : Int) (c2 : Int) (e : Int) (xs : Row) (ys : Row) : gfin A tab BO0 16 [] 119 (f119e a b c d a2 b2 c2 e xs ys) [] =
  some ([A.and true (A.and true true), true, A.and true true, A.and (A.ltN 0 1) (A.ltN 4 5), true, A.and (A.ltN 0 1) (A.ltN 4 5), true, true, A.and true (A.ltN 0 5), A.and true (A.ltN 0 5)],
   AV.int .i64 (cmp3 d e), none) := by kernel_rfl
def f122e (a : Int) (b : Int) (c : Int) (d : Int) (a2 : Int) (b2 : Int) (c2 : Int) (e : Int) (xs : Row) (ys : Row) : List AFrame := [{ fn := 122, N := 10, env := [(0, AV.agg (Row.gen [AV.int .i64 a, AV.int .i64 b, AV.int .i64 c, AV.list xs, AV.int .i64 d])), (1, AV.agg (Row.gen [AV.int .i64 a2, AV.int .i64 b2, AV.int .i64 c2, AV.list ys, AV.int .i64 e]))], todo := [.code a122.code], defs := [], rnd := none, ret := false, res := [ARes.tmp 4] }]
theorem f122e_at (a : Int) (b : Int) (c : Int) (d : Int) (a2 : Int) (b2 : Int) (c2 : Int) (e : Int) (xs : Row) (ys : Row) : enterA tab 122 [AV.agg (Row.gen [AV.int .i64 a, AV.int .i64 b, AV.int .i64 c, AV.list xs, AV.int .i64 d]), AV.agg (Row.gen [AV.int .i64 a2, AV.int .i64 b2, AV.int .i64 c2, AV.list ys, AV.int .i64 e])] = some { fn := 122, N := 10, env := [(0, AV.agg (Row.gen [AV.int .i64 a, AV.int .i64 b, AV.int .i64 c, AV.list xs, AV.int .i64 d])), (1, AV.agg (Row.gen [AV.int .i64 a2, AV.int .i64 b2, AV.int .i64 c2, AV.list ys, AV.int .i64 e]))], todo := [.code a122.code], defs := [], rnd := none, ret := false, res := [ARes.tmp 4] } := rfl
theorem f122p0 (A : Ar) (a : Int) (b : Int) (c : Int) (d : Int) (a2 : Int) (b2 : Int) (c2 : Int) (e : Int) (xs : Row) (ys : Row) : gfin A tab BO0 16 [] 122 (f122e a b c d a2 b2 c2 e xs ys) [] =
  some ([A.and true (A.and true true), true, true, A.and (A.ltN 0 1) (A.ltN 4 5), true, A.and (A.ltN 0 1) (A.ltN 4 5), true, true, A.and true (A.ltN 0 5), A.and true (A.ltN 0 5)],
   AV.bool (A.eq d e), none) := by kernel_rfl
end Go.Proofs.Ytjhdnpmojhkbjaa
/- Contracts as a list. No condition. -/
namespace Go.Proofs.Ytjhdnpmojhkbjaa
def sameN (a b : Int) : Bool := decide (a = b)
theorem cmp119_ok (a b c d a2 b2 c2 e : Int) (xs ys : Row) : Pure Try.prog 119 [.agg (.gen [.int .i64 a, .int .i64 b, .int .i64 c, .list xs, .int .i64 d]), .agg (.gen [.int .i64 a2, .int .i64 b2, .int .i64 c2, .list ys, .int .i64 e])] (.int .i64 (cmp3 d e)) none :=
  start (f119e_at a b c d a2 b2 c2 e xs ys) fun C hC => fin hC BO0_ok (f119p0 std a b c d a2 b2 c2 e xs ys) (by simp) rfl rfl
theorem same122_ok (a b c d a2 b2 c2 e : Int) (xs ys : Row) : Pure Try.prog 122 [.agg (.gen [.int .i64 a, .int .i64 b, .int .i64 c, .list xs, .int .i64 d]), .agg (.gen [.int .i64 a2, .int .i64 b2, .int .i64 c2, .list ys, .int .i64 e])] (.bool (sameN d e)) none :=
  start (f122e_at a b c d a2 b2 c2 e xs ys) fun C hC => fin hC BO0_ok (f122p0 std a b c d a2 b2 c2 e xs ys) (by simp) rfl rfl
def k119 : Ctr := ⟨119, 0, fun _ a => match a with | [.agg (.gen [.int .i64 _, .int .i64 _, .int .i64 _, .list _, .int .i64 d]), .agg (.gen [.int .i64 _, .int .i64 _, .int .i64 _, .list _, .int .i64 e])] => some (true, .int .i64 (cmp3 d e), none) | _ => none⟩
theorem k119_ok : k119.OK Try.prog := fun pa args r fr h => by
  simp only [k119] at h
  split at h
  · cases h
    exact cmp119_ok _ _ _ _ _ _ _ _ _ _
  · cases h
def k122 : Ctr := ⟨122, 0, fun _ a => match a with | [.agg (.gen [.int .i64 _, .int .i64 _, .int .i64 _, .list _, .int .i64 d]), .agg (.gen [.int .i64 _, .int .i64 _, .int .i64 _, .list _, .int .i64 e])] => some (true, .bool (sameN d e), none) | _ => none⟩
theorem k122_ok : k122.OK Try.prog := fun pa args r fr h => by
  simp only [k122] at h
  split at h
  · cases h
    exact same122_ok _ _ _ _ _ _ _ _ _ _
  · cases h
def BO1 : List Ctr := [k119, k122] ++ BO0
theorem BO1_ok : CtrsOK Try.prog BO1 := ⟨k119_ok, ⟨k122_ok, BO0_ok⟩⟩
end Go.Proofs.Ytjhdnpmojhkbjaa
/- Paths of functions, printed by the explorer (Gx). No condition. -/
namespace Go.Proofs.Ytjhdnpmojhkbjaa
set_option maxRecDepth 100000
set_option linter.unusedVariables false
def f139e (xs : List AV) (a : Int) (b : Int) : List AFrame := [{ fn := 139, N := 53, env := [(0, AV.row 0 0), (1, AV.int .i64 a), (2, AV.int .i64 b), (3, AV.fn 119 [])], todo := [.code a139.code], defs := [], rnd := none, ret := false, res := [] }]
theorem f139e_at (xs : List AV) (a : Int) (b : Int) : enterA tab 139 [AV.row 0 0, AV.int .i64 a, AV.int .i64 b, AV.fn 119 []] = some { fn := 139, N := 53, env := [(0, AV.row 0 0), (1, AV.int .i64 a), (2, AV.int .i64 b), (3, AV.fn 119 [])], todo := [.code a139.code], defs := [], rnd := none, ret := false, res := [] } := rfl
def f139em (xs : List AV) (a : Int) (b : Int) : AHeap := [(0, { base := 0, blks := [Blk.row 140 5 (Row.big (Sh.agg [Sh.int .i64, Sh.int .i64, Sh.int .i64, Sh.ints .i64, Sh.int .i64]) xs)] })]
def f139h139_0a (a : Int) (b : Int) (n0 : Int) (x1 : List AV) : List AFrame := [{ fn := 139, N := 53, env := [(0, AV.row 0 0), (1, AV.int .i64 a), (2, AV.int .i64 b), (3, AV.fn 119 []), (8, AV.int .i64 n0)], todo := .code (ACode.gh [] l139_0) :: k139_0, defs := [], rnd := none, ret := false, res := [] }]
def f139h139_0am (a : Int) (b : Int) (n0 : Int) (x1 : List AV) : AHeap := [(0, { base := 0, blks := [Blk.row 140 5 (Row.big (Sh.agg [Sh.int .i64, Sh.int .i64, Sh.int .i64, Sh.ints .i64, Sh.int .i64]) x1)] })]
def f139h139_1a (a : Int) (b : Int) (n0 : Int) (n2 : Int) (x3 : List AV) : List AFrame := [{ fn := 139, N := 53, env := [(0, AV.row 0 0), (1, AV.int .i64 a), (2, AV.int .i64 b), (3, AV.fn 119 []), (8, AV.int .i64 n0), (9, AV.int .i64 n2)], todo := .code (ACode.gh [] l139_1) :: k139_1, defs := [], rnd := none, ret := false, res := [] }]
def f139h139_1am (a : Int) (b : Int) (n0 : Int) (n2 : Int) (x3 : List AV) : AHeap := [(0, { base := 0, blks := [Blk.row 140 5 (Row.big (Sh.agg [Sh.int .i64, Sh.int .i64, Sh.int .i64, Sh.ints .i64, Sh.int .i64]) x3)] })]
theorem f139p0 (A : Ar) (xs : List AV) (a : Int) (b : Int) : gwalkL A tab BO1 9 [] (f139e xs a b) (f139em xs a b) =
  some ([true, A.inR .i64 (A.add a 1), true],
   f139h139_0a (a) (b) (A.add a 1) (xs), f139h139_0am (a) (b) (A.add a 1) (xs)) := by kernel_rfl
theorem f139p1 (A : Ar) (a : Int) (b : Int) (n0 : Int) (x1 : List AV) : gwalkL A tab BO1 20 [true] (f139h139_0a a b n0 x1) (f139h139_0am a b n0 x1) =
  some ([true, true, A.lt n0 b, true, true, true],
   f139h139_1a (a) (b) (n0) (n0) (x1), f139h139_1am (a) (b) (n0) (n0) (x1)) := by kernel_rfl
theorem f139p2 (A : Ar) (a : Int) (b : Int) (n0 : Int) (x1 : List AV) : gfinM A tab BO1 11 [false] 139 (f139h139_0a a b n0 x1) (f139h139_0am a b n0 x1) =
  some ([true, !A.lt n0 b, true, true, true],
   AV.tup [], 140, 5, Row.big (.agg [.int .i64, .int .i64, .int .i64, .ints .i64, .int .i64]) x1) := by kernel_rfl
theorem f139p3 (A : Ar) (a : Int) (b : Int) (n0 : Int) (n2 : Int) (x3 : List AV) : gwalkL A tab BO1 18 [true, true] (f139h139_1a a b n0 n2 x3) (f139h139_1am a b n0 n2 x3) =
  some ([true, A.inR .i64 (A.sub n2 1), true, A.and (A.ltN (A.nat (A.sub n2 1)) (A.lenA (A.setA x3 (A.nat n2) (AV.agg (Row.gen [.int .i64 ((A.nthA x3 (A.nat (A.sub n2 1))).cellAt 0).toI, .int .i64 ((A.nthA x3 (A.nat (A.sub n2 1))).cellAt 1).toI, .int .i64 ((A.nthA x3 (A.nat (A.sub n2 1))).cellAt 2).toI, .list (.ints .i64 ((A.nthA x3 (A.nat (A.sub n2 1))).cellAt 3).toIs), .int .i64 ((A.nthA x3 (A.nat (A.sub n2 1))).cellAt 4).toI]))))) (A.eqN 5 5), A.and (A.eqN 5 5) (A.and (A.le 0 (A.sub n2 1)) (A.ltN (A.nat (A.sub n2 1)) (A.lenA (A.setA x3 (A.nat n2) (AV.agg (Row.gen [.int .i64 ((A.nthA x3 (A.nat (A.sub n2 1))).cellAt 0).toI, .int .i64 ((A.nthA x3 (A.nat (A.sub n2 1))).cellAt 1).toI, .int .i64 ((A.nthA x3 (A.nat (A.sub n2 1))).cellAt 2).toI, .list (.ints .i64 ((A.nthA x3 (A.nat (A.sub n2 1))).cellAt 3).toIs), .int .i64 ((A.nthA x3 (A.nat (A.sub n2 1))).cellAt 4).toI])))))), A.and (A.ltN (A.nat n2) (A.lenA x3)) (A.eqN 5 5), A.and (A.eqN 5 5) (A.and (A.le 0 n2) (A.ltN (A.nat n2) (A.lenA x3))), A.and (A.ltN (A.nat n2) (A.lenA x3)) (A.leN (A.addN 0 5) 5), A.and (A.eqN 5 5) (A.and (A.le 0 n2) (A.ltN (A.nat n2) (A.lenA x3))), true, true, A.and (A.ltN (A.nat (A.sub n2 1)) (A.lenA x3)) (A.leN (A.addN 0 5) 5), A.and (A.eqN 5 5) (A.and (A.le 0 (A.sub n2 1)) (A.ltN (A.nat (A.sub n2 1)) (A.lenA x3))), A.inR .i64 (A.sub n2 1), true, true, A.inR .i64 (A.sub n2 1), true, true, true, true, A.lt (cmp3 ((A.nthA x3 (A.nat n2)).cellAt 4).toI ((A.nthA x3 (A.nat (A.sub n2 1))).cellAt 4).toI) 0, true, true, A.and true true, A.and (A.ltN (A.nat (A.sub n2 1)) (A.lenA x3)) (A.leN (A.addN 0 5) 5), A.and (A.eqN 5 5) (A.and (A.le 0 (A.sub n2 1)) (A.ltN (A.nat (A.sub n2 1)) (A.lenA x3))), A.inR .i64 (A.sub n2 1), true, true, A.and (A.ltN (A.nat n2) (A.lenA x3)) (A.leN (A.addN 0 5) 5), A.and (A.eqN 5 5) (A.and (A.le 0 n2) (A.ltN (A.nat n2) (A.lenA x3))), true, true, true, A.lt a n2, true, true, true, true],
   f139h139_1a (a) (b) (n0) (A.sub n2 1) (A.setA (A.setA x3 (A.nat n2) (AV.agg (Row.gen [.int .i64 ((A.nthA x3 (A.nat (A.sub n2 1))).cellAt 0).toI, .int .i64 ((A.nthA x3 (A.nat (A.sub n2 1))).cellAt 1).toI, .int .i64 ((A.nthA x3 (A.nat (A.sub n2 1))).cellAt 2).toI, .list (.ints .i64 ((A.nthA x3 (A.nat (A.sub n2 1))).cellAt 3).toIs), .int .i64 ((A.nthA x3 (A.nat (A.sub n2 1))).cellAt 4).toI]))) (A.nat (A.sub n2 1)) (AV.agg (Row.gen [.int .i64 ((A.nthA x3 (A.nat n2)).cellAt 0).toI, .int .i64 ((A.nthA x3 (A.nat n2)).cellAt 1).toI, .int .i64 ((A.nthA x3 (A.nat n2)).cellAt 2).toI, .list (.ints .i64 ((A.nthA x3 (A.nat n2)).cellAt 3).toIs), .int .i64 ((A.nthA x3 (A.nat n2)).cellAt 4).toI]))), f139h139_1am (a) (b) (n0) (A.sub n2 1) (A.setA (A.setA x3 (A.nat n2) (AV.agg (Row.gen [.int .i64 ((A.nthA x3 (A.nat (A.sub n2 1))).cellAt 0).toI, .int .i64 ((A.nthA x3 (A.nat (A.sub n2 1))).cellAt 1).toI, .int .i64 ((A.nthA x3 (A.nat (A.sub n2 1))).cellAt 2).toI, .list (.ints .i64 ((A.nthA x3 (A.nat (A.sub n2 1))).cellAt 3).toIs), .int .i64 ((A.nthA x3 (A.nat (A.sub n2 1))).cellAt 4).toI]))) (A.nat (A.sub n2 1)) (AV.agg (Row.gen [.int .i64 ((A.nthA x3 (A.nat n2)).cellAt 0).toI, .int .i64 ((A.nthA x3 (A.nat n2)).cellAt 1).toI, .int .i64 ((A.nthA x3 (A.nat n2)).cellAt 2).toI, .list (.ints .i64 ((A.nthA x3 (A.nat n2)).cellAt 3).toIs), .int .i64 ((A.nthA x3 (A.nat n2)).cellAt 4).toI])))) := by kernel_rfl
theorem f139p4 (A : Ar) (a : Int) (b : Int) (n0 : Int) (n2 : Int) (x3 : List AV) : gwalkL A tab BO1 15 [true, false] (f139h139_1a a b n0 n2 x3) (f139h139_1am a b n0 n2 x3) =
  some ([true, A.inR .i64 (A.add n0 1), true, !A.lt (cmp3 ((A.nthA x3 (A.nat n2)).cellAt 4).toI ((A.nthA x3 (A.nat (A.sub n2 1))).cellAt 4).toI) 0, true, true, A.and true true, A.and (A.ltN (A.nat (A.sub n2 1)) (A.lenA x3)) (A.leN (A.addN 0 5) 5), A.and (A.eqN 5 5) (A.and (A.le 0 (A.sub n2 1)) (A.ltN (A.nat (A.sub n2 1)) (A.lenA x3))), A.inR .i64 (A.sub n2 1), true, true, A.and (A.ltN (A.nat n2) (A.lenA x3)) (A.leN (A.addN 0 5) 5), A.and (A.eqN 5 5) (A.and (A.le 0 n2) (A.ltN (A.nat n2) (A.lenA x3))), true, true, true, A.lt a n2, true, true, true, true],
   f139h139_0a (a) (b) (A.add n0 1) (x3), f139h139_0am (a) (b) (A.add n0 1) (x3)) := by kernel_rfl
theorem f139p5 (A : Ar) (a : Int) (b : Int) (n0 : Int) (n2 : Int) (x3 : List AV) : gwalkL A tab BO1 15 [false, false] (f139h139_1a a b n0 n2 x3) (f139h139_1am a b n0 n2 x3) =
  some ([true, A.inR .i64 (A.add n0 1), true, true, true, true, true, true, true, true, true, true, true, true, true, true, true, !A.lt a n2, true, true, true, true],
   f139h139_0a (a) (b) (A.add n0 1) (x3), f139h139_0am (a) (b) (A.add n0 1) (x3)) := by kernel_rfl
end Go.Proofs.Ytjhdnpmojhkbjaa
/- Contracts as a list. No condition. -/
namespace Go.Proofs.Ytjhdnpmojhkbjaa
def keyN (x : AV) : Int := (AV.cellAt x 4).toI
abbrev shN : Sh := .agg [.int .i64, .int .i64, .int .i64, .ints .i64, .int .i64]
def valN (x : AV) : AV := AV.agg (Row.gen [AV.int .i64 (AV.toI (AV.cellAt x 0)), AV.int .i64 (AV.toI (AV.cellAt x 1)), AV.int .i64 (AV.toI (AV.cellAt x 2)), AV.list (.ints .i64 (AV.toIs (AV.cellAt x 3))), AV.int .i64 (AV.toI (AV.cellAt x 4))])
def isN : AV → Bool
  | .agg (.gen [.int .i64 _, .int .i64 _, .int .i64 _, .list (.ints .i64 _), .int .i64 _]) => true
  | _ => false
theorem isN_val {x : AV} (h : isN x = true) : valN x = x := by
  unfold isN at h
  split at h
  · rfl
  · cases h
def numsB (xs : List AV) : Bool := xs.all isN
theorem numsB_get {xs : List AV} (h : numsB xs = true) {j : Nat} (hj : j < xs.length) : valN (xs.getD j .top) = xs.getD j .top := by
  have : isN (xs.getD j .top) = true := by
    rw [List.getD_eq_getElem?_getD, List.getElem?_eq_getElem hj]
    exact List.all_eq_true.mp h _ (List.getElem_mem hj)
  exact isN_val this
def insNb (x : AV) : List AV → List AV
  | [] => [x]
  | y :: l => if keyN x < keyN y then y :: insNb x l else x :: y :: l
def insN (S : List AV) (x : AV) : List AV := (insNb x S.reverse).reverse
theorem insN_snoc (S : List AV) (y x : AV) : insN (S ++ [y]) x = if keyN x < keyN y then insN S x ++ [y] else S ++ [y, x] := by
  unfold insN
  rw [List.reverse_append]
  simp only [List.reverse_cons, List.reverse_nil, List.nil_append, List.singleton_append, insNb]
  split
  · simp
  · simp
def sortN (l : List AV) : List AV := l.foldl insN []
theorem sortN_snoc (l : List AV) (x : AV) : sortN (l ++ [x]) = insN (sortN l) x := by simp [sortN, List.foldl_append]
theorem insNb_len (x : AV) : ∀ l : List AV, (insNb x l).length = l.length + 1
  | [] => rfl
  | y :: l => by
    unfold insNb
    split
    · simp [insNb_len x l]
    · simp
theorem insN_len (S : List AV) (x : AV) : (insN S x).length = S.length + 1 := by simp [insN, insNb_len]
theorem sortN_len (l : List AV) : (sortN l).length = l.length := by
  have : ∀ (l acc : List AV), (l.foldl insN acc).length = acc.length + l.length := by
    intro l
    induction l with
    | nil => intro acc; simp
    | cons x l ih => intro acc; rw [List.foldl_cons, ih, insN_len, List.length_cons]; omega
  have h := this l []
  simpa [sortN] using h
def segN (a b : Nat) (xs : List AV) : List AV := xs.take a ++ sortN ((xs.take b).drop a) ++ xs.drop b
theorem cmp3_neg (a b : Int) : decide (cmp3 a b < 0) = decide (a < b) := by
  unfold cmp3
  split
  · rename_i h; simp [h]
  · split
    · rename_i h _; simp [h]
    · rename_i h _; simp [h]
theorem swap_snoc (p S q : List AV) (y x : AV) (j : Nat) (hj : j = p.length + S.length + 1) : ((p ++ (S ++ [y] ++ [x]) ++ q).set j y).set (j - 1) x = p ++ (S ++ [x] ++ [y]) ++ q := by
  subst hj
  have e1 : p ++ (S ++ [y] ++ [x]) ++ q = (p ++ S) ++ (y :: x :: q) := by simp
  have e2 : p ++ (S ++ [x] ++ [y]) ++ q = (p ++ S) ++ (x :: y :: q) := by simp
  rw [e1, e2, List.set_append_right _ _ (by rw [List.length_append]; omega), List.set_append_right _ _ (by rw [List.length_append]; omega)]
  have h1 : p.length + S.length + 1 - (p ++ S).length = 1 := by rw [List.length_append]; omega
  have h2 : p.length + S.length + 1 - 1 - (p ++ S).length = 0 := by simp
  rw [h1, h2]; rfl
theorem getD_mid (T q : List AV) (x : AV) (j : Nat) (hj : j = T.length) : (T ++ x :: q).getD j .top = x := by
  subst hj
  simp [List.getD_eq_getElem?_getD]
theorem ins_step {C : Ctx} (hC : C.P = Try.prog) {Q : List AFrame → AHeap → Prop} (xs : List AV) (i a b : Int) (j : Nat) {x y : AV} (g1 : xs.getD (j + 1) .top = x) (g2 : xs.getD j .top = y) (hl : j + 1 < xs.length) (hL : xs.length < 1000000) (hx : valN x = x) (hy : valN y = y) (haj : a ≤ j) (hk : keyN x < keyN y)
    (hq : Ev C (f139h139_1a a b i (j : Int) []) (f139h139_1am a b i (j : Int) ((xs.set (j + 1) y).set j x)) Q) : Ev C (f139h139_1a a b i ((j : Int) + 1) []) (f139h139_1am a b i ((j : Int) + 1) xs) Q := by
  have e1 : ((j : Int) + 1).toNat = j + 1 := by omega
  have e2 : (j : Int) + 1 - 1 = j := by omega
  have hw := f139p3 std a b i ((j : Int) + 1) xs
  simp only [s_nat, s_nthA, s_setA, s_sub, e1, e2, g1, g2, Int.toNat_natCast] at hw
  rw [show (AV.agg (Row.gen [AV.int .i64 (AV.toI (AV.cellAt x 0)), AV.int .i64 (AV.toI (AV.cellAt x 1)), AV.int .i64 (AV.toI (AV.cellAt x 2)), AV.list (.ints .i64 (AV.toIs (AV.cellAt x 3))), AV.int .i64 (AV.toI (AV.cellAt x 4))])) = x from hx, show (AV.agg (Row.gen [AV.int .i64 (AV.toI (AV.cellAt y 0)), AV.int .i64 (AV.toI (AV.cellAt y 1)), AV.int .i64 (AV.toI (AV.cellAt y 2)), AV.list (.ints .i64 (AV.toIs (AV.cellAt y 3))), AV.int .i64 (AV.toI (AV.cellAt y 4))])) = y from hy] at hw
  have hk' : cmp3 (AV.toI (AV.cellAt x 4)) (AV.toI (AV.cellAt y 4)) < 0 := by
    have := cmp3_neg (keyN x) (keyN y)
    rw [decide_eq_true hk] at this
    exact of_decide_eq_true this
  refine go hC BO1_ok hw ?_ hq
  have r1 : std.inR .i64 (j : Int) = true := by simp; omega
  simp [hk', hl]
  omega
theorem ins_stop {C : Ctx} (hC : C.P = Try.prog) {Q : List AFrame → AHeap → Prop} (xs : List AV) (i a b : Int) (j : Nat) {x y : AV} (g1 : xs.getD (j + 1) .top = x) (g2 : xs.getD j .top = y) (hl : j + 1 < xs.length) (hL : xs.length < 1000000) (haj : a ≤ j) (hi0 : 0 ≤ i) (hi1 : i < 1000000) (hk : ¬ keyN x < keyN y)
    (hq : Ev C (f139h139_0a a b (i + 1) []) (f139h139_0am a b (i + 1) xs) Q) : Ev C (f139h139_1a a b i ((j : Int) + 1) []) (f139h139_1am a b i ((j : Int) + 1) xs) Q := by
  have e1 : ((j : Int) + 1).toNat = j + 1 := by omega
  have e2 : (j : Int) + 1 - 1 = j := by omega
  have hw := f139p4 std a b i ((j : Int) + 1) xs
  simp only [s_nat, s_nthA, s_sub, e1, e2, g1, g2, Int.toNat_natCast] at hw
  have hk' : ¬ cmp3 (AV.toI (AV.cellAt x 4)) (AV.toI (AV.cellAt y 4)) < 0 := by
    have := cmp3_neg (keyN x) (keyN y)
    rw [decide_eq_false hk] at this
    exact of_decide_eq_false this
  refine go hC BO1_ok hw ?_ hq
  simp [hk', hl]
  omega
theorem ins_loop {C : Ctx} (hC : C.P = Try.prog) {Q : List AFrame → AHeap → Prop} (p q : List AV) (x : AV) (i b : Int) (a : Nat) (ha : p.length = a) (hx : valN x = x) (hi1 : i < 1000000) (hi0 : 0 ≤ i) : ∀ (n : Nat) (S S2 : List AV), S.length = n → (∀ y ∈ S, valN y = y) → p.length + S.length + S2.length + q.length + 1 < 1000000 →
    (∀ R, R = insN S x → Ev C (f139h139_0a a b (i + 1) []) (f139h139_0am a b (i + 1) (p ++ R ++ (S2 ++ q))) Q) →
    Ev C (f139h139_1a a b i ((a + S.length : Nat) : Int) []) (f139h139_1am a b i ((a + S.length : Nat) : Int) (p ++ (S ++ [x]) ++ (S2 ++ q))) Q := by
  intro n
  induction n with
  | zero =>
    intro S S2 hn hS hl hq
    cases S with
    | cons y S => simp at hn
    | nil =>
      refine go hC BO1_ok (f139p5 std a b i _ _) (by simp; omega) ?_
      exact hq _ rfl
  | succ n ih =>
    intro S S2 hn hS hl hq
    rcases List.eq_nil_or_concat S with rfl | ⟨T, y, rfl⟩
    · simp at hn
    · rw [List.concat_eq_append] at hn hS hl hq ⊢
      have hy : valN y = y := hS y (by simp)
      have hT : T.length = n := by simpa using hn
      have hl' : p.length + (T.length + 1) + S2.length + q.length + 1 < 1000000 := by simpa using hl
      have g1 : (p ++ (T ++ [y] ++ [x]) ++ (S2 ++ q)).getD (a + T.length + 1) .top = x := by
        rw [show p ++ (T ++ [y] ++ [x]) ++ (S2 ++ q) = (p ++ T ++ [y]) ++ x :: (S2 ++ q) by simp]
        exact getD_mid _ _ _ _ (by simp [ha]; omega)
      have g2 : (p ++ (T ++ [y] ++ [x]) ++ (S2 ++ q)).getD (a + T.length) .top = y := by
        rw [show p ++ (T ++ [y] ++ [x]) ++ (S2 ++ q) = (p ++ T) ++ y :: x :: (S2 ++ q) by simp]
        exact getD_mid _ _ _ _ (by simp [ha])
      have gl : (p ++ (T ++ [y] ++ [x]) ++ (S2 ++ q)).length = a + T.length + 2 + (S2.length + q.length) := by simp [ha]; omega
      have e3 : ((a + (T ++ [y]).length : Nat) : Int) = (a + T.length : Nat) + 1 := by simp; omega
      rw [e3]
      by_cases hk : keyN x < keyN y
      · refine ins_step hC _ i a b (a + T.length) g1 g2 (by rw [gl]; omega) (by rw [gl]; omega) hx hy (by omega) hk ?_
        have := swap_snoc p T (S2 ++ q) y x (a + T.length + 1) (by omega)
        rw [Nat.add_sub_cancel] at this
        rw [this, show p ++ (T ++ [x] ++ [y]) ++ (S2 ++ q) = p ++ (T ++ [x]) ++ ((y :: S2) ++ q) by simp]
        refine ih T (y :: S2) hT (fun z hz => hS z (by simp [hz])) (by simp; omega) fun R hR => ?_
        have := hq (R ++ [y]) (by rw [insN_snoc, if_pos hk, hR])
        simpa using this
      · refine ins_stop hC _ i a b (a + T.length) g1 g2 (by rw [gl]; omega) (by rw [gl]; omega) (by omega) hi0 hi1 hk ?_
        have := hq (T ++ [y] ++ [x]) (by rw [insN_snoc, if_neg hk]; simp)
        exact this
theorem seg_snoc (xs : List AV) (a k : Nat) (ha : a ≤ k) (hk : k < xs.length) : (xs.take (k + 1)).drop a = (xs.take k).drop a ++ [xs.getD k .top] := by
  rw [List.getD_eq_getElem?_getD, List.getElem?_eq_getElem hk, List.take_succ_eq_append_getElem hk, List.drop_append_of_le_length (by simp; omega)]
  rfl
theorem mem_sortN {l : List AV} {y : AV} (h : y ∈ sortN l) : y ∈ l := by
  have hb : ∀ (l : List AV) (x y : AV), y ∈ insNb x l → y = x ∨ y ∈ l := by
    intro l
    induction l with
    | nil => intro x y h; simp [insNb] at h; exact .inl h
    | cons z l ih =>
      intro x y h
      unfold insNb at h
      split at h
      · rcases List.mem_cons.mp h with h | h
        · exact .inr (by simp [h])
        · rcases ih x y h with h | h
          · exact .inl h
          · exact .inr (by simp [h])
      · rcases List.mem_cons.mp h with h | h
        · exact .inl h
        · exact .inr h
  have hf : ∀ (l acc : List AV), y ∈ l.foldl insN acc → y ∈ acc ∨ y ∈ l := by
    intro l
    induction l with
    | nil => intro acc h; exact .inl h
    | cons x l ih =>
      intro acc h
      rcases ih _ h with h | h
      · have h : y ∈ insNb x acc.reverse := by simpa [insN] using h
        rcases hb _ _ _ h with h | h
        · exact .inr (by simp [h])
        · exact .inl (by simpa using h)
      · exact .inr (by simp [h])
  simpa using hf l [] h
theorem sort_loop {C : Ctx} (hC : C.P = Try.prog) (xs : List AV) (a b : Nat) (hab : a ≤ b) (hb : b ≤ xs.length) (hL : xs.length < 1000000) (hn : numsB xs = true) : ∀ (d k : Nat), b - k = d → a ≤ k → k ≤ b →
    Ev C (f139h139_0a a b (k : Int) []) (f139h139_0am a b (k : Int) (segN a k xs)) (FinM 139 140 5 (.big shN (segN a b xs)) (.tup [])) := by
  intro d
  induction d with
  | zero =>
    intro k hd hak hkb
    have : k = b := by omega
    subst this
    exact finM hC BO1_ok (f139p2 std a k k (segN a k xs)) (by simp) rfl rfl rfl rfl
  | succ d ih =>
    intro k hd hak hkb
    have hk : k < xs.length := by omega
    refine go hC BO1_ok (f139p1 std a b k (segN a k xs)) (by simp; omega) ?_
    have hv : ∀ y ∈ xs, valN y = y := fun y hy => isN_val (List.all_eq_true.mp hn y hy)
    have e1 : segN a k xs = xs.take a ++ (sortN ((xs.take k).drop a) ++ [xs.getD k .top]) ++ ([] ++ xs.drop (k + 1)) := by
      unfold segN
      rw [List.drop_eq_getElem_cons hk, List.getD_eq_getElem?_getD, List.getElem?_eq_getElem hk]
      simp
    have e2 : (k : Int) = ((a + (sortN ((xs.take k).drop a)).length : Nat) : Int) := by
      rw [sortN_len]; simp; omega
    have hlen : (xs.take a).length = a := by simp; omega
    have key := ins_loop hC (Q := FinM 139 140 5 (.big shN (segN a b xs)) (.tup [])) (xs.take a) (xs.drop (k + 1)) (xs.getD k .top) k b a hlen (numsB_get hn hk) (by omega) (by omega) _ (sortN ((xs.take k).drop a)) [] rfl
      (fun y hy => hv y (List.mem_of_mem_take (List.mem_of_mem_drop (mem_sortN hy)))) (by rw [sortN_len]; simp; omega) (fun R hR => by
        have := ih (k + 1) (by omega) (by omega) (by omega)
        have e3 : segN a (k + 1) xs = xs.take a ++ R ++ ([] ++ xs.drop (k + 1)) := by
          unfold segN
          rw [seg_snoc xs a k hak hk, sortN_snoc, hR]
          simp
        rw [← e3]
        exact this)
    rw [← e1, ← e2] at key
    exact key
theorem sort139 (xs : List AV) (a b : Nat) (h : a ≤ b ∧ b ≤ xs.length ∧ xs.length < 1000000) (hn : numsB xs = true) : Muts Try.prog 139 140 5 (.big shN xs) (.big shN (segN a b xs)) [.int .i64 a, .int .i64 b, .fn 119 []] (.tup []) :=
  startM (f139e_at xs a b) fun C hC => by
    by_cases hab : a < b
    · refine go hC BO1_ok (f139p0 std xs a b) (by simp; omega) ?_
      have e : segN a (a + 1) xs = xs := by
        unfold segN
        rw [seg_snoc xs a a (Nat.le_refl _) (by omega)]
        have : (xs.take a).drop a = [] := by simp
        rw [this]
        show xs.take a ++ [xs.getD a .top] ++ xs.drop (a + 1) = xs
        rw [List.getD_eq_getElem?_getD, List.getElem?_eq_getElem (by omega : a < xs.length), List.append_assoc]
        show xs.take a ++ (xs[a] :: xs.drop (a + 1)) = xs
        rw [← List.drop_eq_getElem_cons, List.take_append_drop]
      have := sort_loop hC xs a b h.1 h.2.1 h.2.2 hn _ (a + 1) rfl (by omega) (by omega)
      rw [e] at this
      exact this
    · have hab : a = b := by omega
      subst hab
      have e : segN a a xs = xs := by
        unfold segN
        have : (xs.take a).drop a = [] := by simp
        rw [this]
        show xs.take a ++ [] ++ xs.drop a = xs
        simp
      refine go hC BO1_ok (f139p0 std xs a a) (by simp; omega) ?_
      rw [e]
      exact finM hC BO1_ok (f139p2 std a a (a + 1) xs) (by simp; omega) rfl rfl rfl rfl
theorem pureX_mut {P : Program} {F f e : Nat} {sz : Nat} {x y : Row} {rest : List AV} {r : AV} (he : F = f + 1000000) (h : Muts P f e sz x y rest r) : PureX P F (.list x :: rest) r (some ⟨e, sz, y⟩) := by
  have hb : Nat.blt F 1000000 = false := blt_false (by rw [he]; exact Nat.le_add_left _ _)
  have hs : F - 1000000 = f := by rw [he]; exact Nat.add_sub_cancel _ _
  unfold PureX
  rw [hb]
  intro x' rest' fs h1 h2
  cases h1; cases h2
  rw [hs]
  exact h
attribute [irreducible] segN
def sgB (xs : List AV) (a b : Int) : Bool := decide (0 ≤ a ∧ a ≤ b ∧ b ≤ xs.length ∧ xs.length < 1000000) && numsB xs
theorem sort_ct (xs : List AV) (a b : Int) (h : sgB xs a b = true) : PureX Try.prog 1000139 [.list (.big shN xs), .int .i64 a, .int .i64 b, .fn 119 []] (.tup []) (some ⟨140, 5, .big shN (segN a.toNat b.toNat xs)⟩) := by
  unfold sgB at h
  simp only [Bool.and_eq_true, decide_eq_true_eq] at h
  obtain ⟨⟨h1, h2, h3, h4⟩, h5⟩ := h
  obtain ⟨a, rfl⟩ := Int.eq_ofNat_of_zero_le h1
  obtain ⟨b, rfl⟩ := Int.eq_ofNat_of_zero_le (Int.le_trans h1 h2)
  exact pureX_mut (f := 139) rfl (sort139 xs a b ⟨by omega, by omega, h4⟩ h5)
def k139 : Ctr := ⟨1000139, 0, fun _ a => match a with | [.list (.big (.agg [.int .i64, .int .i64, .int .i64, .ints .i64, .int .i64]) xs), .int .i64 a, .int .i64 b, .fn 119 []] => some (decide (sgB xs a b = true), .tup [], some ⟨140, 5, .big shN (segN a.toNat b.toNat xs)⟩) | _ => none⟩
theorem k139_ok : k139.OK Try.prog := fun pa args r fr h => by
  simp only [k139] at h
  split at h
  · simp only [Option.some.injEq, Prod.mk.injEq, decide_eq_true_eq] at h
    obtain ⟨h0, rfl, rfl⟩ := h
    exact sort_ct _ _ _ h0
  · cases h
def BO2 : List Ctr := [k139] ++ BO1
theorem BO2_ok : CtrsOK Try.prog BO2 := ⟨k139_ok, BO1_ok⟩
end Go.Proofs.Ytjhdnpmojhkbjaa
/- Paths of functions, printed by the explorer (Gx). No condition. -/
namespace Go.Proofs.Ytjhdnpmojhkbjaa
set_option maxRecDepth 100000
set_option linter.unusedVariables false
def f142e (xs : List AV) (a : Int) (b : Int) (n : Int) : List AFrame := [{ fn := 142, N := 38, env := [(0, AV.row 0 0), (1, AV.int .i64 a), (2, AV.int .i64 b), (3, AV.int .i64 n), (4, AV.fn 119 [])], todo := [.code a142.code], defs := [], rnd := none, ret := false, res := [] }]
theorem f142e_at (xs : List AV) (a : Int) (b : Int) (n : Int) : enterA tab 142 [AV.row 0 0, AV.int .i64 a, AV.int .i64 b, AV.int .i64 n, AV.fn 119 []] = some { fn := 142, N := 38, env := [(0, AV.row 0 0), (1, AV.int .i64 a), (2, AV.int .i64 b), (3, AV.int .i64 n), (4, AV.fn 119 [])], todo := [.code a142.code], defs := [], rnd := none, ret := false, res := [] } := rfl
def f142em (xs : List AV) (a : Int) (b : Int) (n : Int) : AHeap := [(0, { base := 0, blks := [Blk.row 140 5 (Row.big (Sh.agg [Sh.int .i64, Sh.int .i64, Sh.int .i64, Sh.ints .i64, Sh.int .i64]) xs)] })]
def f142h142_0a (a : Int) (b : Int) (n : Int) (n0 : Int) (x1 : List AV) : List AFrame := [{ fn := 142, N := 38, env := [(0, AV.row 0 0), (1, AV.int .i64 a), (2, AV.int .i64 b), (3, AV.int .i64 n), (10, AV.int .i64 n0)], todo := .code (ACode.gh [] l142_0) :: k142_0, defs := [], rnd := none, ret := false, res := [] }]
def f142h142_0am (a : Int) (b : Int) (n : Int) (n0 : Int) (x1 : List AV) : AHeap := [(0, { base := 0, blks := [Blk.row 140 5 (Row.big (Sh.agg [Sh.int .i64, Sh.int .i64, Sh.int .i64, Sh.ints .i64, Sh.int .i64]) x1)] })]
theorem f142p0 (A : Ar) (xs : List AV) (a : Int) (b : Int) (n : Int) : gwalkL A tab BO2 7 [] (f142e xs a b n) (f142em xs a b n) =
  some ([true],
   f142h142_0a (a) (b) (n) (0) (xs), f142h142_0am (a) (b) (n) (0) (xs)) := by kernel_rfl
theorem f142p1 (A : Ar) (a : Int) (b : Int) (n : Int) (n0 : Int) (x1 : List AV) : gwalkL A tab BO2 21 [true] (f142h142_0a a b n n0 x1) (f142h142_0am a b n n0 x1) =
  some ([true, A.inR .i64 (A.add n0 1), true, A.and (A.ltN (A.nat (A.add b n0)) (A.lenA (A.setA x1 (A.nat (A.add a n0)) (AV.agg (Row.gen [.int .i64 ((A.nthA x1 (A.nat (A.add b n0))).cellAt 0).toI, .int .i64 ((A.nthA x1 (A.nat (A.add b n0))).cellAt 1).toI, .int .i64 ((A.nthA x1 (A.nat (A.add b n0))).cellAt 2).toI, .list (.ints .i64 ((A.nthA x1 (A.nat (A.add b n0))).cellAt 3).toIs), .int .i64 ((A.nthA x1 (A.nat (A.add b n0))).cellAt 4).toI]))))) (A.eqN 5 5), A.and (A.eqN 5 5) (A.and (A.le 0 (A.add b n0)) (A.ltN (A.nat (A.add b n0)) (A.lenA (A.setA x1 (A.nat (A.add a n0)) (AV.agg (Row.gen [.int .i64 ((A.nthA x1 (A.nat (A.add b n0))).cellAt 0).toI, .int .i64 ((A.nthA x1 (A.nat (A.add b n0))).cellAt 1).toI, .int .i64 ((A.nthA x1 (A.nat (A.add b n0))).cellAt 2).toI, .list (.ints .i64 ((A.nthA x1 (A.nat (A.add b n0))).cellAt 3).toIs), .int .i64 ((A.nthA x1 (A.nat (A.add b n0))).cellAt 4).toI])))))), A.and (A.ltN (A.nat (A.add a n0)) (A.lenA x1)) (A.eqN 5 5), A.and (A.eqN 5 5) (A.and (A.le 0 (A.add a n0)) (A.ltN (A.nat (A.add a n0)) (A.lenA x1))), A.and (A.ltN (A.nat (A.add a n0)) (A.lenA x1)) (A.leN (A.addN 0 5) 5), A.and (A.eqN 5 5) (A.and (A.le 0 (A.add a n0)) (A.ltN (A.nat (A.add a n0)) (A.lenA x1))), A.inR .i64 (A.add a n0), true, true, true, A.and (A.ltN (A.nat (A.add b n0)) (A.lenA x1)) (A.leN (A.addN 0 5) 5), A.and (A.eqN 5 5) (A.and (A.le 0 (A.add b n0)) (A.ltN (A.nat (A.add b n0)) (A.lenA x1))), A.inR .i64 (A.add b n0), true, true, true, A.inR .i64 (A.add b n0), true, true, true, A.inR .i64 (A.add a n0), true, true, true, A.lt n0 n, true, true, true],
   f142h142_0a (a) (b) (n) (A.add n0 1) (A.setA (A.setA x1 (A.nat (A.add a n0)) (AV.agg (Row.gen [.int .i64 ((A.nthA x1 (A.nat (A.add b n0))).cellAt 0).toI, .int .i64 ((A.nthA x1 (A.nat (A.add b n0))).cellAt 1).toI, .int .i64 ((A.nthA x1 (A.nat (A.add b n0))).cellAt 2).toI, .list (.ints .i64 ((A.nthA x1 (A.nat (A.add b n0))).cellAt 3).toIs), .int .i64 ((A.nthA x1 (A.nat (A.add b n0))).cellAt 4).toI]))) (A.nat (A.add b n0)) (AV.agg (Row.gen [.int .i64 ((A.nthA x1 (A.nat (A.add a n0))).cellAt 0).toI, .int .i64 ((A.nthA x1 (A.nat (A.add a n0))).cellAt 1).toI, .int .i64 ((A.nthA x1 (A.nat (A.add a n0))).cellAt 2).toI, .list (.ints .i64 ((A.nthA x1 (A.nat (A.add a n0))).cellAt 3).toIs), .int .i64 ((A.nthA x1 (A.nat (A.add a n0))).cellAt 4).toI]))), f142h142_0am (a) (b) (n) (A.add n0 1) (A.setA (A.setA x1 (A.nat (A.add a n0)) (AV.agg (Row.gen [.int .i64 ((A.nthA x1 (A.nat (A.add b n0))).cellAt 0).toI, .int .i64 ((A.nthA x1 (A.nat (A.add b n0))).cellAt 1).toI, .int .i64 ((A.nthA x1 (A.nat (A.add b n0))).cellAt 2).toI, .list (.ints .i64 ((A.nthA x1 (A.nat (A.add b n0))).cellAt 3).toIs), .int .i64 ((A.nthA x1 (A.nat (A.add b n0))).cellAt 4).toI]))) (A.nat (A.add b n0)) (AV.agg (Row.gen [.int .i64 ((A.nthA x1 (A.nat (A.add a n0))).cellAt 0).toI, .int .i64 ((A.nthA x1 (A.nat (A.add a n0))).cellAt 1).toI, .int .i64 ((A.nthA x1 (A.nat (A.add a n0))).cellAt 2).toI, .list (.ints .i64 ((A.nthA x1 (A.nat (A.add a n0))).cellAt 3).toIs), .int .i64 ((A.nthA x1 (A.nat (A.add a n0))).cellAt 4).toI])))) := by kernel_rfl
theorem f142p2 (A : Ar) (a : Int) (b : Int) (n : Int) (n0 : Int) (x1 : List AV) : gfinM A tab BO2 11 [false] 142 (f142h142_0a a b n n0 x1) (f142h142_0am a b n n0 x1) =
  some ([true, !A.lt n0 n, true, true, true],
   AV.tup [], 140, 5, Row.big (.agg [.int .i64, .int .i64, .int .i64, .ints .i64, .int .i64]) x1) := by kernel_rfl
end Go.Proofs.Ytjhdnpmojhkbjaa
/- Contracts as a list. No condition. -/
namespace Go.Proofs.Ytjhdnpmojhkbjaa
def swpN (a b : Nat) : Nat → List AV → List AV
  | 0, xs => xs
  | k + 1, xs => ((swpN a b k xs).set (a + k) ((swpN a b k xs).getD (b + k) .top)).set (b + k) ((swpN a b k xs).getD (a + k) .top)
theorem swpN_len (a b : Nat) (xs : List AV) : ∀ k, (swpN a b k xs).length = xs.length
  | 0 => rfl
  | k + 1 => by simp [swpN, swpN_len a b xs k]
theorem swpN_get (a b : Nat) (xs : List AV) : ∀ k, a + k ≤ b → b + k ≤ xs.length → ∀ i, (swpN a b k xs)[i]? = if a ≤ i ∧ i < a + k then xs[i + b - a]? else if b ≤ i ∧ i < b + k then xs[i + a - b]? else xs[i]?
  | 0, _, _, i => by
    rw [if_neg (by omega), if_neg (by omega)]; rfl
  | k + 1, h1, h2, i => by
    have ih := swpN_get a b xs k (by omega) (by omega)
    have l := swpN_len a b xs k
    have gb : (swpN a b k xs)[b + k]? = xs[b + k]? := by rw [ih, if_neg (by omega), if_neg (by omega)]
    have ga : (swpN a b k xs)[a + k]? = xs[a + k]? := by rw [ih, if_neg (by omega), if_neg (by omega)]
    have hb : xs[b + k]? = some ((swpN a b k xs).getD (b + k) .top) := by
      rw [List.getD_eq_getElem?_getD, gb, List.getElem?_eq_getElem (by omega : b + k < xs.length)]; rfl
    have ha : xs[a + k]? = some ((swpN a b k xs).getD (a + k) .top) := by
      rw [List.getD_eq_getElem?_getD, ga, List.getElem?_eq_getElem (by omega : a + k < xs.length)]; rfl
    rw [swpN, List.getElem?_set, List.getElem?_set, List.length_set, l, ih]
    by_cases e1 : b + k = i
    · subst e1
      rw [if_pos rfl, if_pos (by omega), if_neg (by omega), if_pos (by omega), ← ha]
      congr 1; omega
    · rw [if_neg e1]
      by_cases e2 : a + k = i
      · subst e2
        rw [if_pos rfl, if_pos (by omega), if_pos (by omega), ← hb]
        congr 1; omega
      · rw [if_neg e2]
        by_cases c1 : a ≤ i ∧ i < a + k
        · rw [if_pos c1, if_pos (by omega)]
        · rw [if_neg c1]
          by_cases c2 : b ≤ i ∧ i < b + k
          · rw [if_pos c2, if_neg (by omega), if_pos (by omega)]
          · rw [if_neg c2, if_neg (by omega), if_neg (by omega)]
theorem swpN_lists (P U M V S : List AV) (h : U.length = V.length) : swpN P.length (P.length + U.length + M.length) U.length (P ++ U ++ M ++ V ++ S) = P ++ V ++ M ++ U ++ S := by
  apply List.ext_getElem?
  intro i
  rw [swpN_get _ _ _ _ (by omega) (by simp; omega)]
  simp only [List.getElem?_append, List.length_append]
  repeat' split
  all_goals (try omega)
  all_goals (first | rfl | (congr 1; omega))
theorem numsB_mem {xs : List AV} : numsB xs = true ↔ ∀ x ∈ xs, isN x = true := by
  unfold numsB; exact List.all_eq_true
theorem numsB_swp (a b : Nat) (xs : List AV) (h : numsB xs = true) (k : Nat) (h1 : a + k ≤ b) (h2 : b + k ≤ xs.length) : numsB (swpN a b k xs) = true := by
  rw [numsB_mem] at h ⊢
  intro x hx
  obtain ⟨i, hi⟩ := List.mem_iff_getElem?.mp hx
  rw [swpN_get a b xs k h1 h2 i] at hi
  split at hi
  · exact h x (List.mem_of_getElem? hi)
  · split at hi
    · exact h x (List.mem_of_getElem? hi)
    · exact h x (List.mem_of_getElem? hi)
theorem swp_loop {C : Ctx} (hC : C.P = Try.prog) (xs : List AV) (a b n : Nat) (h1 : a + n ≤ b) (h2 : b + n ≤ xs.length) (hL : xs.length < 1000000) (hn : numsB xs = true) : ∀ (d k : Nat), n - k = d → k ≤ n →
    Ev C (f142h142_0a a b n (k : Int) []) (f142h142_0am a b n (k : Int) (swpN a b k xs)) (FinM 142 140 5 (.big shN (swpN a b n xs)) (.tup [])) := by
  intro d
  induction d with
  | zero =>
    intro k hd hk
    have : k = n := by omega
    subst this
    exact finM hC BO2_ok (f142p2 std a b k k (swpN a b k xs)) (by simp) rfl rfl rfl rfl
  | succ d ih =>
    intro k hd hk
    have hw := f142p1 std a b n k (swpN a b k xs)
    have e1 : ((a : Int) + k).toNat = a + k := by omega
    have e2 : ((b : Int) + k).toNat = b + k := by omega
    have l := swpN_len a b xs k
    have hv := numsB_swp a b xs hn k (by omega) (by omega)
    have hx := numsB_get hv (j := a + k) (by omega)
    have hy := numsB_get hv (j := b + k) (by omega)
    have ih' := ih (k + 1) (by omega) (by omega)
    rw [swpN] at ih'
    generalize hX : (swpN a b k xs).getD (a + k) .top = x at *
    generalize hY : (swpN a b k xs).getD (b + k) .top = y at *
    simp only [s_nat, s_nthA, s_setA, s_add, e1, e2, hX, hY] at hw
    rw [show (AV.agg (Row.gen [AV.int .i64 (AV.toI (AV.cellAt x 0)), AV.int .i64 (AV.toI (AV.cellAt x 1)), AV.int .i64 (AV.toI (AV.cellAt x 2)), AV.list (.ints .i64 (AV.toIs (AV.cellAt x 3))), AV.int .i64 (AV.toI (AV.cellAt x 4))])) = x from hx, show (AV.agg (Row.gen [AV.int .i64 (AV.toI (AV.cellAt y 0)), AV.int .i64 (AV.toI (AV.cellAt y 1)), AV.int .i64 (AV.toI (AV.cellAt y 2)), AV.list (.ints .i64 (AV.toIs (AV.cellAt y 3))), AV.int .i64 (AV.toI (AV.cellAt y 4))])) = y from hy] at hw
    refine go hC BO2_ok hw ?_ ih'
    simp [l]
    omega
theorem swap142 (xs : List AV) (a b n : Nat) (h : a + n ≤ b ∧ b + n ≤ xs.length ∧ xs.length < 1000000) (hn : numsB xs = true) : Muts Try.prog 142 140 5 (.big shN xs) (.big shN (swpN a b n xs)) [.int .i64 a, .int .i64 b, .int .i64 n, .fn 119 []] (.tup []) :=
  startM (f142e_at xs a b n) fun C hC => go hC BO2_ok (f142p0 std xs a b n) (by simp) (swp_loop hC xs a b n h.1 h.2.1 h.2.2 hn _ 0 rfl (by omega))
def swB (xs : List AV) (a b n : Int) : Bool := decide (0 ≤ a ∧ 0 ≤ n ∧ a + n ≤ b ∧ b + n ≤ xs.length ∧ xs.length < 1000000) && numsB xs
theorem swap_ct (xs : List AV) (a b n : Int) (h : swB xs a b n = true) : PureX Try.prog 1000142 [.list (.big shN xs), .int .i64 a, .int .i64 b, .int .i64 n, .fn 119 []] (.tup []) (some ⟨140, 5, .big shN (swpN a.toNat b.toNat n.toNat xs)⟩) := by
  unfold swB at h
  simp only [Bool.and_eq_true, decide_eq_true_eq] at h
  obtain ⟨⟨h1, h2, h3, h4, h6⟩, h5⟩ := h
  obtain ⟨a, rfl⟩ := Int.eq_ofNat_of_zero_le h1
  obtain ⟨n, rfl⟩ := Int.eq_ofNat_of_zero_le h2
  obtain ⟨b, rfl⟩ := Int.eq_ofNat_of_zero_le (by omega : 0 ≤ b)
  exact pureX_mut (f := 142) rfl (swap142 xs a b n ⟨by omega, by omega, h6⟩ h5)
def k142 : Ctr := ⟨1000142, 0, fun _ a => match a with | [.list (.big (.agg [.int .i64, .int .i64, .int .i64, .ints .i64, .int .i64]) xs), .int .i64 a, .int .i64 b, .int .i64 n, .fn 119 []] => some (decide (swB xs a b n = true), .tup [], some ⟨140, 5, .big shN (swpN a.toNat b.toNat n.toNat xs)⟩) | _ => none⟩
theorem k142_ok : k142.OK Try.prog := fun pa args r fr h => by
  simp only [k142] at h
  split at h
  · simp only [Option.some.injEq, Prod.mk.injEq, decide_eq_true_eq] at h
    obtain ⟨h0, rfl, rfl⟩ := h
    exact swap_ct _ _ _ _ h0
  · cases h
def BO3 : List Ctr := [k142] ++ BO2
theorem BO3_ok : CtrsOK Try.prog BO3 := ⟨k142_ok, BO2_ok⟩
end Go.Proofs.Ytjhdnpmojhkbjaa
/- Paths of functions, printed by the explorer (Gx). No condition. -/
namespace Go.Proofs.Ytjhdnpmojhkbjaa
set_option maxRecDepth 100000
set_option linter.unusedVariables false
def f141e (xs : List AV) (a : Int) (m : Int) (b : Int) : List AFrame := [{ fn := 141, N := 58, env := [(0, AV.row 0 0), (1, AV.int .i64 a), (2, AV.int .i64 m), (3, AV.int .i64 b), (4, AV.fn 119 [])], todo := [.code a141.code], defs := [], rnd := none, ret := false, res := [] }]
theorem f141e_at (xs : List AV) (a : Int) (m : Int) (b : Int) : enterA tab 141 [AV.row 0 0, AV.int .i64 a, AV.int .i64 m, AV.int .i64 b, AV.fn 119 []] = some { fn := 141, N := 58, env := [(0, AV.row 0 0), (1, AV.int .i64 a), (2, AV.int .i64 m), (3, AV.int .i64 b), (4, AV.fn 119 [])], todo := [.code a141.code], defs := [], rnd := none, ret := false, res := [] } := rfl
def f141em (xs : List AV) (a : Int) (m : Int) (b : Int) : AHeap := [(0, { base := 0, blks := [Blk.row 140 5 (Row.big (Sh.agg [Sh.int .i64, Sh.int .i64, Sh.int .i64, Sh.ints .i64, Sh.int .i64]) xs)] })]
def f141h141_0a (m : Int) (n0 : Int) (n1 : Int) (x2 : List AV) : List AFrame := [{ fn := 141, N := 58, env := [(0, AV.row 0 0), (2, AV.int .i64 m), (4, AV.fn 119 []), (10, AV.int .i64 n0), (11, AV.int .i64 n1)], todo := .code (ACode.gh [] l141_0) :: k141_0, defs := [], rnd := none, ret := false, res := [] }]
def f141h141_0am (m : Int) (n0 : Int) (n1 : Int) (x2 : List AV) : AHeap := [(0, { base := 0, blks := [Blk.row 140 5 (Row.big (Sh.agg [Sh.int .i64, Sh.int .i64, Sh.int .i64, Sh.ints .i64, Sh.int .i64]) x2)] })]
theorem f141p0 (A : Ar) (xs : List AV) (a : Int) (m : Int) (b : Int) : gwalkL A tab BO3 18 [] (f141e xs a m b) (f141em xs a m b) =
  some ([true, A.inR .i64 (A.sub b m), true, true, true, A.inR .i64 (A.sub m a), true, true],
   f141h141_0a (m) (A.sub m a) (A.sub b m) (xs), f141h141_0am (m) (A.sub m a) (A.sub b m) (xs)) := by kernel_rfl
theorem f141p1 (A : Ar) (m : Int) (n0 : Int) (n1 : Int) (x2 : List AV) : gwalkL A tab BO3 39 [true, true] (f141h141_0a m n0 n1 x2) (f141h141_0am m n0 n1 x2) =
  some ([true, A.inR .i64 (A.sub n0 n1), true, true, A.and (decide (swB x2 (A.sub m n0) m n1 = true)) (A.and (A.eqN 140 140) (A.eqN 5 5)), true, true, true, A.inR .i64 (A.sub m n0), true, true, true, A.lt n1 n0, true, true, true, A.not (A.eq n0 n1), true, true, true],
   f141h141_0a (m) (A.sub n0 n1) (n1) (swpN (Int.toNat (A.sub m n0)) (Int.toNat m) (Int.toNat n1) x2), f141h141_0am (m) (A.sub n0 n1) (n1) (swpN (Int.toNat (A.sub m n0)) (Int.toNat m) (Int.toNat n1) x2)) := by kernel_rfl
theorem f141p2 (A : Ar) (m : Int) (n0 : Int) (n1 : Int) (x2 : List AV) : gwalkL A tab BO3 43 [true, false] (f141h141_0a m n0 n1 x2) (f141h141_0am m n0 n1 x2) =
  some ([true, A.inR .i64 (A.sub n1 n0), true, true, A.and (decide (swB x2 (A.sub m n0) (A.sub (A.add m n1) n0) n0 = true)) (A.and (A.eqN 140 140) (A.eqN 5 5)), true, true, A.inR .i64 (A.sub (A.add m n1) n0), true, A.inR .i64 (A.add m n1), true, true, A.inR .i64 (A.sub m n0), true, true, true, !A.lt n1 n0, true, true, true, A.not (A.eq n0 n1), true, true, true],
   f141h141_0a (m) (n0) (A.sub n1 n0) (swpN (Int.toNat (A.sub m n0)) (Int.toNat (A.sub (A.add m n1) n0)) (Int.toNat n0) x2), f141h141_0am (m) (n0) (A.sub n1 n0) (swpN (Int.toNat (A.sub m n0)) (Int.toNat (A.sub (A.add m n1) n0)) (Int.toNat n0) x2)) := by kernel_rfl
theorem f141p3 (A : Ar) (m : Int) (n0 : Int) (n1 : Int) (x2 : List AV) : gfinM A tab BO3 21 [false] 141 (f141h141_0a m n0 n1 x2) (f141h141_0am m n0 n1 x2) =
  some ([true, A.and (decide (swB x2 (A.sub m n0) m n0 = true)) (A.and (A.eqN 140 140) (A.eqN 5 5)), true, true, true, A.inR .i64 (A.sub m n0), true, true, true, !A.not (A.eq n0 n1), true, true, true],
   AV.tup [], 140, 5, Row.big (.agg [.int .i64, .int .i64, .int .i64, .ints .i64, .int .i64]) (swpN (Int.toNat (A.sub m n0)) (Int.toNat m) (Int.toNat n0) x2)) := by kernel_rfl
end Go.Proofs.Ytjhdnpmojhkbjaa
/- Contracts as a list. No condition. -/
namespace Go.Proofs.Ytjhdnpmojhkbjaa
theorem numsB_app (a b : List AV) : numsB (a ++ b) = (numsB a && numsB b) := by unfold numsB; exact List.all_append
theorem rot_loop {C : Ctx} (hC : C.P = Try.prog) (R : List AV) : ∀ (N : Nat) (P U V S : List AV), U.length + V.length ≤ N → 0 < U.length → 0 < V.length → P.length + U.length + V.length + S.length < 1000000 → numsB (P ++ U ++ V ++ S) = true → P ++ V ++ U ++ S = R →
    Ev C (f141h141_0a ((P.length + U.length : Nat) : Int) (U.length : Int) (V.length : Int) []) (f141h141_0am ((P.length + U.length : Nat) : Int) (U.length : Int) (V.length : Int) (P ++ U ++ V ++ S)) (FinM 141 140 5 (.big shN R) (.tup [])) := by
  intro N
  induction N with
  | zero => intro P U V S h1 h2; omega
  | succ N ih =>
    intro P U V S hN hU hV hL hn hR
    have hlen : (P ++ U ++ V ++ S).length = P.length + U.length + V.length + S.length := by simp [Nat.add_assoc]
    have em : ((P.length + U.length : Nat) : Int) - (U.length : Int) = (P.length : Nat) := by omega
    have hn4 : numsB P = true ∧ numsB U = true ∧ numsB V = true ∧ numsB S = true := by
      rw [numsB_app, numsB_app, numsB_app] at hn
      simp only [Bool.and_eq_true] at hn
      exact ⟨hn.1.1.1, hn.1.1.2, hn.1.2, hn.2⟩
    by_cases he : U.length = V.length
    · have hw := f141p3 std ((P.length + U.length : Nat) : Int) (U.length : Int) (V.length : Int) (P ++ U ++ V ++ S)
      simp only [s_sub, em, Int.toNat_natCast] at hw
      have hs := swpN_lists P U [] V S he
      simp only [List.length_nil, Nat.add_zero, List.append_nil] at hs
      rw [hs, hR] at hw
      refine finM hC BO3_ok hw ?_ rfl rfl rfl rfl
      have hb : swB (P ++ U ++ V ++ S) (P.length : Nat) ((P.length + U.length : Nat) : Int) (U.length : Nat) = true := by
        unfold swB
        rw [hn, hlen]
        simp only [Bool.and_true, decide_eq_true_eq]
        omega
      simp only [hb]
      simp [he]
      omega
    · by_cases hlt : V.length < U.length
      · have hw := f141p1 std ((P.length + U.length : Nat) : Int) (U.length : Int) (V.length : Int) (P ++ U ++ V ++ S)
        obtain ⟨A, B, hA, rfl⟩ : ∃ A B : List AV, A.length = V.length ∧ U = A ++ B := ⟨U.take V.length, U.drop V.length, by simp; omega, by simp⟩
        have hs := swpN_lists P A B V S hA
        simp only [s_sub, em, Int.toNat_natCast] at hw
        have e1 : P.length + (A ++ B).length = P.length + A.length + B.length := by simp [Nat.add_assoc]
        have e2 : P ++ (A ++ B) ++ V ++ S = P ++ A ++ B ++ V ++ S := by simp
        have e3 : (((A ++ B).length : Nat) : Int) - (V.length : Nat) = (B.length : Nat) := by simp; omega
        have hb : swB (P ++ (A ++ B) ++ V ++ S) (P.length : Nat) ((P.length + (A ++ B).length : Nat) : Int) (V.length : Nat) = true := by
          unfold swB
          rw [hn, hlen]
          simp only [Bool.and_true, decide_eq_true_eq]
          simp only [List.length_append] at *
          omega
        have hsw : swpN P.length (P.length + (A ++ B).length) V.length (P ++ (A ++ B) ++ V ++ S) = P ++ V ++ B ++ A ++ S := by
          rw [e1, e2, ← hA]; exact hs
        rw [hsw, e3] at hw
        simp only [List.length_append] at *
        refine go hC BO3_ok hw ?_ ?_
        · simp only [hb]
          simp
          omega
        · have := ih (P ++ V) B A S (by omega) (by omega) (by omega) (by rw [List.length_append]; omega) (by
            simp only [numsB_app, Bool.and_eq_true] at *
            exact ⟨⟨⟨⟨hn4.1, hn4.2.2.1⟩, hn4.2.1.2⟩, hn4.2.1.1⟩, hn4.2.2.2⟩) (by rw [← hR]; simp)
          have e4 : ((P.length + (A.length + B.length) : Nat) : Int) = (((P ++ V).length + B.length : Nat) : Int) := by rw [List.length_append]; omega
          rw [e4, ← hA]
          exact this
      · have hw := f141p2 std ((P.length + U.length : Nat) : Int) (U.length : Int) (V.length : Int) (P ++ U ++ V ++ S)
        obtain ⟨A, B, hB, rfl⟩ : ∃ A B : List AV, U.length = B.length ∧ V = A ++ B := ⟨V.take (V.length - U.length), V.drop (V.length - U.length), by simp; omega, by simp⟩
        have hs := swpN_lists P U A B S hB
        have e0 : ((P.length + U.length : Nat) : Int) + ((A ++ B).length : Nat) - (U.length : Nat) = ((P.length + U.length + A.length : Nat) : Int) := by rw [List.length_append]; omega
        simp only [s_sub, s_add, em, e0, Int.toNat_natCast] at hw
        have e2 : P ++ U ++ (A ++ B) ++ S = P ++ U ++ A ++ B ++ S := by simp
        have e3 : (((A ++ B).length : Nat) : Int) - (U.length : Nat) = (A.length : Nat) := by rw [List.length_append]; omega
        have hb : swB (P ++ U ++ (A ++ B) ++ S) (P.length : Nat) ((P.length + U.length + A.length : Nat) : Int) (U.length : Nat) = true := by
          unfold swB
          rw [hn, hlen]
          simp only [Bool.and_true, decide_eq_true_eq]
          simp only [List.length_append] at *
          omega
        rw [e2] at hb
        rw [e2, hs, e3] at hw
        rw [e2]
        simp only [List.length_append] at *
        refine go hC BO3_ok hw ?_ ?_
        · simp only [hb]
          simp
          omega
        · have := ih P B A (U ++ S) (by omega) (by omega) (by omega) (by rw [List.length_append]; omega) (by
            simp only [numsB_app, Bool.and_eq_true] at *
            exact ⟨⟨⟨hn4.1, hn4.2.2.1.2⟩, hn4.2.2.1.1⟩, hn4.2.1, hn4.2.2.2⟩) (by rw [← hR]; simp)
          have e5 : P ++ B ++ A ++ U ++ S = P ++ B ++ A ++ (U ++ S) := by simp
          rw [e5, hB]
          exact this
def rotN (a m b : Nat) (xs : List AV) : List AV := xs.take a ++ (xs.take b).drop m ++ (xs.take m).drop a ++ xs.drop b
theorem cut4 (xs : List AV) (a m b : Nat) (h1 : a ≤ m) (h2 : m ≤ b) : xs.take a ++ (xs.take m).drop a ++ (xs.take b).drop m ++ xs.drop b = xs := by
  have e1 : xs.take a ++ (xs.take m).drop a = xs.take m := by
    have := List.take_append_drop a (xs.take m)
    rwa [List.take_take, Nat.min_eq_left h1] at this
  have e2 : xs.take m ++ (xs.take b).drop m = xs.take b := by
    have := List.take_append_drop m (xs.take b)
    rwa [List.take_take, Nat.min_eq_left h2] at this
  rw [e1, e2, List.take_append_drop]
theorem rot141 (xs : List AV) (a m b : Nat) (h : a < m ∧ m < b ∧ b ≤ xs.length ∧ xs.length < 1000000) (hn : numsB xs = true) : Muts Try.prog 141 140 5 (.big shN xs) (.big shN (rotN a m b xs)) [.int .i64 a, .int .i64 m, .int .i64 b, .fn 119 []] (.tup []) :=
  startM (f141e_at xs a m b) fun C hC => by
    obtain ⟨h1, h2, h3, h4⟩ := h
    refine go hC BO3_ok (f141p0 std xs a m b) (by simp; omega) ?_
    have hc := cut4 xs a m b (by omega) (by omega)
    have l1 : (xs.take a).length = a := by simp; omega
    have l2 : ((xs.take m).drop a).length = m - a := by simp; omega
    have l3 : ((xs.take b).drop m).length = b - m := by simp; omega
    have l4 : (xs.drop b).length = xs.length - b := by simp
    have := rot_loop hC (rotN a m b xs) _ (xs.take a) ((xs.take m).drop a) ((xs.take b).drop m) (xs.drop b) (Nat.le_refl _) (by rw [l2]; omega) (by rw [l3]; omega) (by rw [l1, l2, l3, l4]; omega) (by rw [hc]; exact hn) rfl
    rw [hc, l1, l2, l3] at this
    have e1 : ((a + (m - a) : Nat) : Int) = (m : Int) := by omega
    have e2 : ((m - a : Nat) : Int) = (m : Int) - a := by omega
    have e3 : ((b - m : Nat) : Int) = (b : Int) - m := by omega
    rw [e1, e2, e3] at this
    exact this
attribute [irreducible] rotN
def rotB (xs : List AV) (a m b : Int) : Bool := decide (0 ≤ a ∧ a < m ∧ m < b ∧ b ≤ xs.length ∧ xs.length < 1000000) && numsB xs
theorem rot_ct (xs : List AV) (a m b : Int) (h : rotB xs a m b = true) : PureX Try.prog 1000141 [.list (.big shN xs), .int .i64 a, .int .i64 m, .int .i64 b, .fn 119 []] (.tup []) (some ⟨140, 5, .big shN (rotN a.toNat m.toNat b.toNat xs)⟩) := by
  unfold rotB at h
  simp only [Bool.and_eq_true, decide_eq_true_eq] at h
  obtain ⟨⟨h1, h2, h3, h4, h6⟩, h5⟩ := h
  obtain ⟨a, rfl⟩ := Int.eq_ofNat_of_zero_le h1
  obtain ⟨m, rfl⟩ := Int.eq_ofNat_of_zero_le (by omega : 0 ≤ m)
  obtain ⟨b, rfl⟩ := Int.eq_ofNat_of_zero_le (by omega : 0 ≤ b)
  exact pureX_mut (f := 141) rfl (rot141 xs a m b ⟨by omega, by omega, by omega, h6⟩ h5)
def k141 : Ctr := ⟨1000141, 0, fun _ a => match a with | [.list (.big (.agg [.int .i64, .int .i64, .int .i64, .ints .i64, .int .i64]) xs), .int .i64 a, .int .i64 m, .int .i64 b, .fn 119 []] => some (decide (rotB xs a m b = true), .tup [], some ⟨140, 5, .big shN (rotN a.toNat m.toNat b.toNat xs)⟩) | _ => none⟩
theorem k141_ok : k141.OK Try.prog := fun pa args r fr h => by
  simp only [k141] at h
  split at h
  · simp only [Option.some.injEq, Prod.mk.injEq, decide_eq_true_eq] at h
    obtain ⟨h0, rfl, rfl⟩ := h
    exact rot_ct _ _ _ _ h0
  · cases h
def BO4 : List Ctr := [k141] ++ BO3
theorem BO4_ok : CtrsOK Try.prog BO4 := ⟨k141_ok, BO3_ok⟩
end Go.Proofs.Ytjhdnpmojhkbjaa
/- Sorting that keeps the order of equals. No condition. -/
namespace Go.Proofs.Ytjhdnpmojhkbjaa
def fkN (k : Int) (l : List AV) : List AV := l.filter fun x => decide (keyN x = k)
def SortN (l : List AV) : Prop := l.Pairwise fun x y => keyN x ≤ keyN y
theorem fkN_app (k : Int) (a b : List AV) : fkN k (a ++ b) = fkN k a ++ fkN k b := by simp [fkN]
theorem fkN_cons (k : Int) (x : AV) (l : List AV) : fkN k (x :: l) = if keyN x = k then x :: fkN k l else fkN k l := by
  unfold fkN
  rw [List.filter_cons]
  by_cases h : keyN x = k
  · simp [h]
  · simp [h]
theorem insNb_fk (k : Int) (x : AV) : ∀ l, fkN k (insNb x l) = fkN k (x :: l)
  | [] => rfl
  | y :: l => by
    unfold insNb
    split
    · rename_i h
      rw [fkN_cons, insNb_fk k x l, fkN_cons, fkN_cons k x (y :: l), fkN_cons]
      by_cases h1 : keyN y = k
      · rw [if_pos h1, if_neg (by omega), if_neg (by omega), if_pos h1]
      · rw [if_neg h1, if_neg h1]
    · rfl
theorem mem_insNb {x y : AV} : ∀ {l : List AV}, y ∈ insNb x l → y = x ∨ y ∈ l
  | [], h => by simp [insNb] at h; exact .inl h
  | z :: l, h => by
    unfold insNb at h
    split at h
    · rcases List.mem_cons.mp h with h | h
      · exact .inr (by simp [h])
      · rcases mem_insNb h with h | h
        · exact .inl h
        · exact .inr (by simp [h])
    · rcases List.mem_cons.mp h with h | h
      · exact .inl h
      · exact .inr h
theorem insNb_desc (x : AV) : ∀ {l : List AV}, l.Pairwise (fun a b => keyN b ≤ keyN a) → (insNb x l).Pairwise (fun a b => keyN b ≤ keyN a)
  | [], _ => by simp [insNb]
  | y :: l, h => by
    obtain ⟨h1, h2⟩ := List.pairwise_cons.mp h
    unfold insNb
    split
    · rename_i hlt
      refine List.pairwise_cons.mpr ⟨fun z hz => ?_, insNb_desc x h2⟩
      rcases mem_insNb hz with rfl | hz
      · omega
      · exact h1 z hz
    · rename_i hge
      refine List.pairwise_cons.mpr ⟨fun z hz => ?_, h⟩
      rcases List.mem_cons.mp hz with rfl | hz
      · omega
      · have := h1 z hz; omega
theorem fkN_rev (k : Int) (l : List AV) : fkN k l.reverse = (fkN k l).reverse := by simp [fkN]
theorem insN_sort (S : List AV) (x : AV) (h : SortN S) : SortN (insN S x) := by
  unfold insN SortN
  rw [List.pairwise_reverse]
  exact insNb_desc x (by rw [List.pairwise_reverse]; exact h)
theorem insN_fk (k : Int) (S : List AV) (x : AV) : fkN k (insN S x) = fkN k (S ++ [x]) := by
  unfold insN
  rw [fkN_rev, insNb_fk, ← fkN_rev]; simp
theorem sortN_ok (l : List AV) : SortN (sortN l) ∧ ∀ k, fkN k (sortN l) = fkN k l := by
  have : ∀ (l acc : List AV), SortN acc → SortN (l.foldl insN acc) ∧ ∀ k, fkN k (l.foldl insN acc) = fkN k (acc ++ l) := by
    intro l
    induction l with
    | nil => intro acc h; exact ⟨h, fun k => by simp⟩
    | cons x l ih =>
      intro acc h
      obtain ⟨h1, h2⟩ := ih (insN acc x) (insN_sort acc x h)
      refine ⟨h1, fun k => ?_⟩
      rw [List.foldl_cons, h2 k, fkN_app, insN_fk, ← fkN_app]; simp
  have h := this l [] List.Pairwise.nil
  simp only [List.nil_append] at h
  exact h
theorem fkN_mem {k : Int} {x : AV} {l : List AV} : x ∈ fkN k l ↔ x ∈ l ∧ keyN x = k := by simp [fkN]
theorem stab_eq : ∀ {l m : List AV}, SortN l → SortN m → (∀ k, fkN k l = fkN k m) → l = m
  | [], [], _, _, _ => rfl
  | [], y :: m, _, _, h => by
    have := h (keyN y)
    rw [fkN_cons, if_pos rfl] at this
    simp [fkN] at this
  | x :: l, [], _, _, h => by
    have := h (keyN x)
    rw [fkN_cons, if_pos rfl] at this
    simp [fkN] at this
  | x :: l, y :: m, hl, hm, h => by
    obtain ⟨l1, l2⟩ := List.pairwise_cons.mp hl
    obtain ⟨m1, m2⟩ := List.pairwise_cons.mp hm
    have hx : x ∈ y :: m := by
      have : x ∈ fkN (keyN x) (x :: l) := fkN_mem.mpr ⟨by simp, rfl⟩
      rw [h] at this; exact (fkN_mem.mp this).1
    have hy : y ∈ x :: l := by
      have : y ∈ fkN (keyN y) (y :: m) := fkN_mem.mpr ⟨by simp, rfl⟩
      rw [← h] at this; exact (fkN_mem.mp this).1
    have e1 : keyN x ≤ keyN y := by
      rcases List.mem_cons.mp hy with e | e
      · rw [e]; exact Int.le_refl _
      · exact l1 y e
    have e2 : keyN y ≤ keyN x := by
      rcases List.mem_cons.mp hx with e | e
      · rw [e]; exact Int.le_refl _
      · exact m1 x e
    have hk := h (keyN x)
    rw [fkN_cons, if_pos rfl, fkN_cons, if_pos (by omega)] at hk
    obtain ⟨exy, _⟩ := List.cons.inj hk
    subst exy
    rw [stab_eq l2 m2 fun k => ?_]
    have := h k
    rw [fkN_cons, fkN_cons] at this
    split at this
    · exact (List.cons.inj this).2
    · exact this
theorem sortN_of {l m : List AV} (h : SortN m) (hk : ∀ k, fkN k m = fkN k l) : sortN l = m :=
  stab_eq (sortN_ok l).1 h fun k => by rw [(sortN_ok l).2, hk]
theorem sortN_same {l : List AV} (h : SortN l) : sortN l = l := sortN_of h fun _ => rfl
theorem mem_sort {l : List AV} {y : AV} : y ∈ sortN l ↔ y ∈ l := by
  constructor
  · exact mem_sortN
  · intro h
    have : y ∈ fkN (keyN y) l := fkN_mem.mpr ⟨h, rfl⟩
    rw [← (sortN_ok l).2] at this
    exact (fkN_mem.mp this).1
theorem merge_parts (X U V Y : List AV) (hl : SortN (X ++ U)) (hr : SortN (V ++ Y)) (hs : ∀ v ∈ V, ∀ u ∈ U, keyN v < keyN u) (hxy : ∀ x ∈ X, ∀ y ∈ Y, keyN x ≤ keyN y) : sortN (X ++ U ++ (V ++ Y)) = sortN (X ++ V) ++ sortN (U ++ Y) := by
  obtain ⟨a1, a2, a3⟩ := List.pairwise_append.mp hl
  obtain ⟨b1, b2, b3⟩ := List.pairwise_append.mp hr
  refine sortN_of (List.pairwise_append.mpr ⟨(sortN_ok _).1, (sortN_ok _).1, fun p hp q hq => ?_⟩) fun k => ?_
  · have hp := List.mem_append.mp (mem_sort.mp hp)
    have hq := List.mem_append.mp (mem_sort.mp hq)
    rcases hp with hp | hp <;> rcases hq with hq | hq
    · exact a3 p hp q hq
    · exact hxy p hp q hq
    · exact Int.le_of_lt (hs p hp q hq)
    · exact b3 p hp q hq
  · rw [fkN_app, (sortN_ok _).2, (sortN_ok _).2, fkN_app, fkN_app, fkN_app, fkN_app, fkN_app]
    have : fkN k V ++ fkN k U = fkN k U ++ fkN k V := by
      cases hv : fkN k V with
      | nil => simp
      | cons v vs =>
        cases hu : fkN k U with
        | nil => simp
        | cons u us =>
          have h1 := fkN_mem.mp (show v ∈ fkN k V by rw [hv]; simp)
          have h2 := fkN_mem.mp (show u ∈ fkN k U by rw [hu]; simp)
          have := hs v h1.1 u h2.1
          omega
    rw [List.append_assoc, ← List.append_assoc (fkN k V), this]
    simp
end Go.Proofs.Ytjhdnpmojhkbjaa
/- Merging: the contract that the recursion uses. No condition. -/
namespace Go.Proofs.Ytjhdnpmojhkbjaa
def sortedB : List AV → Bool
  | [] => true
  | x :: l => l.all (fun y => decide (keyN x ≤ keyN y)) && sortedB l
def smB (N : Nat) (xs : List AV) (a m b : Int) : Bool := decide (0 ≤ a ∧ a < m ∧ m < b ∧ b ≤ xs.length ∧ xs.length < 1000000 ∧ b - a < N) && numsB xs && sortedB ((xs.take m.toNat).drop a.toNat) && sortedB ((xs.take b.toNat).drop m.toNat)
def k140 (N : Nat) : Ctr := ⟨1000140, 0, fun _ a => match a with | [.list (.big (.agg [.int .i64, .int .i64, .int .i64, .ints .i64, .int .i64]) xs), .int .i64 a, .int .i64 m, .int .i64 b, .fn 119 []] => some (decide (smB N xs a m b = true), .tup [], some ⟨140, 5, .big shN (segN a.toNat b.toNat xs)⟩) | _ => none⟩
def BO5 (N : Nat) : List Ctr := k140 N :: BO4
end Go.Proofs.Ytjhdnpmojhkbjaa
