/- Contracts as a list. No condition. -/
import Derived.Test.YtjhdnpmojhkbjaaP4
namespace Go.Proofs.Ytjhdnpmojhkbjaa
/-! ### nil read as an empty list, within a struct -/
theorem WkL.rel {w : World} {ok : Nat → Prop} {h : AHeap} {L : Lay} {xs ys : List AV} {v : Value} (hw : WkL xs ys) (hr : Rel w ok h L (.agg (.gen xs)) v) : Rel w ok h L (.agg (.gen ys)) v := by
  obtain ⟨e1, e2⟩ := hw.spec
  cases hr with
  | agg _ us hx vs hl h1 hrr =>
    simp only [Row.elems] at hx
    subst hx
    refine .agg _ ys rfl vs (by rw [← e1]; exact hl) h1 (fun j u v hu hv => ?_)
    obtain ⟨q, q1, q2⟩ := e2 j u hu
    exact q2.rel (hrr j q v q1 hv)
inductive Wk2 : AV → AV → Prop
  | one {x y : AV} (h : Wk1 x y) : Wk2 x y
  | agg {xs ys : List AV} (h : WkL xs ys) : Wk2 (.agg (.gen xs)) (.agg (.gen ys))
theorem Wk2.rel {w : World} {ok : Nat → Prop} {h : AHeap} {L : Lay} {x y : AV} {v : Value} (hw : Wk2 x y) (hr : Rel w ok h L x v) : Rel w ok h L y v := by
  cases hw with
  | one h => exact h.rel hr
  | agg h => exact h.rel hr
def Wk2L : List AV → List AV → Prop
  | [], [] => True
  | x :: xs, y :: ys => Wk2 x y ∧ Wk2L xs ys
  | _, _ => False
theorem Wk2L.spec : ∀ {xs ys : List AV}, Wk2L xs ys → xs.length = ys.length ∧ ∀ (j : Nat) (y : AV), ys[j]? = some y → ∃ x, xs[j]? = some x ∧ Wk2 x y
  | [], [], _ => ⟨rfl, fun j y h => by simp at h⟩
  | x :: xs, y :: ys, h => by
    obtain ⟨h1, h2⟩ := h
    obtain ⟨e1, e2⟩ := Wk2L.spec h2
    refine ⟨by simp [e1], fun j z hz => ?_⟩
    cases j with
    | zero => simp at hz; subst hz; exact ⟨x, rfl, h1⟩
    | succ j => obtain ⟨q, q1, q2⟩ := e2 j z (by simpa using hz); exact ⟨q, by simpa using q1, q2⟩
theorem pure_mono {f : FuncId} {args : List AV} {x y : AV} {fr : Option Fresh} (h : Pure Try.prog f args x fr) (hw : ∀ {w : World} {ok : Nat → Prop} {hh : AHeap} {L : Lay} {v : Value}, Rel w ok hh L x v → Rel w ok hh L y v) : Pure Try.prog f args y fr := by
  intro w okA L vs hargs hok
  refine (h w okA L vs hargs hok).mono ?_
  rintro e w' ⟨x, L', rfl, hb, hp⟩
  refine ⟨x, L', rfl, hb, ?_⟩
  unfold PostC at hp ⊢
  split
  · rename_i hn; rw [hn] at hp; exact hw hp
  · rename_i hn; rw [hn] at hp; exact ⟨hp.1, hw hp.2⟩
theorem wk2 {f : FuncId} {args : List AV} {x y : AV} {fr : Option Fresh} (h : Pure Try.prog f args x fr) (hw : Wk2 x y) : Pure Try.prog f args y fr := pure_mono h hw.rel
theorem wk2_tup {f : FuncId} {args xs ys : List AV} {fr : Option Fresh} (h : Pure Try.prog f args (.tup xs) fr) (hw : Wk2L xs ys) : Pure Try.prog f args (.tup ys) fr :=
  pure_mono h fun hr => by
    obtain ⟨e1, e2⟩ := hw.spec
    cases hr with
    | tup _ vs hl hrr =>
      refine .tup _ vs (by rw [← e1]; exact hl) (fun j u v hu hv => ?_)
      obtain ⟨q, q1, q2⟩ := e2 j u hu
      exact q2.rel (hrr j q v q1 hv)
/-- arguments that are said more closely -/
theorem pure_args {f : FuncId} {xs ys : List AV} {x : AV} {fr : Option Fresh} (h : Pure Try.prog f ys x fr) (hw : Wk2L xs ys) : Pure Try.prog f xs x fr := by
  intro w okA L vs hargs hok
  obtain ⟨e1, e2⟩ := hw.spec
  refine h w okA L vs ⟨by rw [← e1]; exact hargs.1, fun j u v hu hv => ?_⟩ hok
  obtain ⟨q, q1, q2⟩ := e2 j u hu
  exact q2.rel (hargs.2 j q v q1 hv)
theorem wk2_refl (x : AV) : Wk2 x x := .one (.same _)
theorem wk2_frame (a b c : AV) (r : Row) (h : r.elems = []) : Wk2 (.agg (.gen [a, b, c, .nils])) (.agg (.gen [a, b, c, .list r])) := .agg ⟨.same _, .same _, .same _, .nil _ h, trivial⟩
theorem same57n_ok (c n f c2 n2 f2 : Int) (ds : List Int) (h : ds.length ≤ 1000000) : Pure Try.prog 57 [.agg (.gen [.int .i64 c, .int .i64 n, .int .i64 f, .list (.ints .i64 ds)]), .agg (.gen [.int .i64 c2, .int .i64 n2, .int .i64 f2, .nils])]
    (.bool (decide (c = c2 ∧ n = n2 ∧ f = f2 ∧ ds = []))) none :=
  pure_args (same57_ok c n f c2 n2 f2 ds [] h) ⟨wk2_refl _, wk2_frame _ _ _ _ rfl, trivial⟩
/-! ### Frames, encoded and decoded -/
def chkE (a b c n f : Int) (ds : List Int) : Int := if rulesB a b = true then frameE a b c n f ds else 2
theorem chkE_first (a b c n f : Int) (ds : List Int) : firstE [rulesE a b, frameW a b c n f ds] = chkE a b c n f ds := by
  unfold chkE rulesE
  by_cases h : rulesB a b = true
  · rw [if_pos h, if_pos h, frameW_eq h]
    simp only [firstE, if_true]
    split
    · rename_i h; exact h.symm
    · rfl
  · rw [if_neg h, if_neg h]; rfl
theorem chk66_ok (a b c n f : Int) (ds : List Int) (h : ds.length ≤ 1000000) : Pure Try.prog 66 [.agg (.gen [.int .i64 a, .int .i64 b]), .agg (.gen [.int .i64 c, .int .i64 n, .int .i64 f, .list (.ints .i64 ds)])] (.int .i64 (chkE a b c n f ds)) none :=
  start (f66e_at a b c n f ds) fun C hC => fin hC B3b_ok (f66p0 std a b c n f ds) (by simp [h, AV.bx, flatLen]) (by rw [chkE_first]) rfl
theorem frameE_ok {a b c n f : Int} {ds : List Int} (h : frameE a b c n f ds = 0) : (0 ≤ c ∧ c ≤ b - 1) ∧ (0 ≤ n ∧ n ≤ 63) ∧ (0 ≤ f ∧ f ≤ a - 1 ∨ f = 255) ∧ (ds.length : Int) = a ∧ bytesE ds = 0 := by
  rw [frameE, firstE4] at h
  by_cases h1 : 0 ≤ c ∧ c ≤ b - 1
  · rw [chanE, if_pos h1, if_pos rfl] at h
    by_cases h2 : okF (a - 1) n f = true
    · rw [h2, unlessE_t, if_pos rfl] at h
      by_cases h3 : (ds.length : Int) = a
      · rw [decide_eq_true h3, unlessE_t, if_pos rfl] at h
        simp only [okF, decide_eq_true_eq] at h2
        exact ⟨h1, h2.1, h2.2, h3, h⟩
      · rw [decide_eq_false h3, unlessE_f, if_neg (by decide)] at h; cases h
    · simp only [Bool.not_eq_true] at h2
      rw [h2, unlessE_f, if_neg (by decide)] at h; cases h
  · rw [chanE, if_neg h1, if_neg (by decide)] at h; cases h
theorem bytesE_mem {xs : List Int} (h : bytesE xs = 0) : ∀ x ∈ xs, 0 ≤ x ∧ x ≤ 255 := by
  unfold bytesE at h
  split at h
  · rename_i hb
    intro x hx
    have := List.all_eq_true.1 hb x hx
    simpa [byteB] using this
  · cases h
theorem enc_small {a b c n f : Int} {ds : List Int} (hr : rulesB a b = true) (h : frameE a b c n f ds = 0) : ([c, n, f] ++ ds).all smallB = true ∧ ds.length ≤ 24 := by
  obtain ⟨h1, h2, h3, h4, h5⟩ := frameE_ok h
  simp only [rulesB, decide_eq_true_eq] at hr
  refine ⟨?_, by omega⟩
  have h6 := bytes_small h5
  have q1 : smallB c = true := by simp [smallB]; omega
  have q2 : smallB n = true := by simp [smallB]; omega
  have q3 : smallB f = true := by simp [smallB]; omega
  simp [q1, q2, q3]
  simpa using h6
def encR (a b c n f : Int) (ds : List Int) : List Int := if chkE a b c n f ds = 0 then encS c n f ds else []
theorem chk_split {a b c n f : Int} {ds : List Int} (h : chkE a b c n f ds = 0) : rulesB a b = true ∧ frameE a b c n f ds = 0 := by
  unfold chkE at h
  split at h
  · rename_i h1; exact ⟨h1, h⟩
  · cases h
theorem enc65_ok (a b c n f : Int) (ds : List Int) (h : ds.length ≤ 1000000) : Pure Try.prog 65 [.agg (.gen [.int .i64 a, .int .i64 b]), .agg (.gen [.int .i64 c, .int .i64 n, .int .i64 f, .list (.ints .i64 ds)])]
    (.tup [.list (.ints .i64 (encR a b c n f ds)), .int .i64 (chkE a b c n f ds)]) newF := by
  by_cases h0 : chkE a b c n f ds = 0
  · obtain ⟨hr, hf⟩ := chk_split h0
    obtain ⟨hs, hl⟩ := enc_small hr hf
    obtain ⟨p, q, e, hp, hq⟩ := sumsS_spec ([c, n, f] ++ ds) 1 0 (by omega) (by omega)
    have e3 : std.sub3 (std.set (std.set (std.set [0, 0, 0] 0 c) 1 n) 2 f) (std.addN 0 0) (std.subN 3 0) = [c, n, f] := rfl
    have key : Pure Try.prog 65 [.agg (.gen [.int .i64 a, .int .i64 b]), .agg (.gen [.int .i64 c, .int .i64 n, .int .i64 f, .list (.ints .i64 ds)])]
        (.tup [.row 0 0, .int .i64 0]) (some ⟨3, 1, .ints .i64 (encS c n f ds)⟩) :=
      start (f65e_at a b c n f ds) fun C hC => fin hC B3b_ok (f65p1 std a b c n f ds) (by
        rw [chkE_first]
        simp only [e3]
        have e4 : List.append [c, n, f] ds = [c, n, f] ++ ds := rfl
        simp only [e4, e, h0, hs]
        simp [AV.bx, flatLen, h]
        omega) rfl (by
        simp only [e3]
        have e4 : List.append [c, n, f] ds = [c, n, f] ++ ds := rfl
        simp only [e4, e, encS]
        rfl)
    rw [encR, if_pos h0, h0]
    exact pure_new key rfl (.tup ⟨.row _ rfl rfl rfl, .same _ rfl rfl, trivial⟩)
  · rw [encR, if_neg h0]
    have key : Pure Try.prog 65 [.agg (.gen [.int .i64 a, .int .i64 b]), .agg (.gen [.int .i64 c, .int .i64 n, .int .i64 f, .list (.ints .i64 ds)])] (.tup [.nils, .int .i64 (chkE a b c n f ds)]) none :=
      start (f65e_at a b c n f ds) fun C hC => fin hC B3b_ok (f65p0 std a b c n f ds) (by rw [chkE_first]; simp [AV.bx, flatLen, h, h0]) (by rw [chkE_first]) rfl
    exact pure_new key rfl (.tup ⟨.nil _ rfl, .same _ rfl rfl, trivial⟩)
def dcE (a b : Int) (xs : List Int) : Int :=
  if (xs.length : Int) = a + 5 then (if bytesE xs = 0 then (if sumsS (xs.take (3 + a.toNat)) 1 0 = (xs.drop (3 + a.toNat)).take 2 then frameE a b (xs.getD 0 0) (xs.getD 1 0) (xs.getD 2 0) ((xs.drop 3).take a.toNat) else 20) else bytesE xs) else 10
def decE (a b : Int) (xs : List Int) : Int := if rulesB a b = true then dcE a b xs else 2
def dI (e : Int) (xs : List Int) (k : Nat) : Int := if e = 0 then xs.getD k 0 else 0
def dL (e a : Int) (xs : List Int) : List Int := if e = 0 then (xs.drop 3).take a.toNat else []
def dAV (e a : Int) (xs : List Int) : AV := .agg (.gen [.int .i64 (dI e xs 0), .int .i64 (dI e xs 1), .int .i64 (dI e xs 2), .list (.ints .i64 (dL e a xs))])
theorem dAV_bad {f : FuncId} {args : List AV} {e a : Int} {xs : List Int} (he : e ≠ 0) (h : Pure Try.prog f args (.tup [.agg (.gen [.int .i64 0, .int .i64 0, .int .i64 0, .nils]), .int .i64 e]) none) : Pure Try.prog f args (.tup [dAV e a xs, .int .i64 e]) none :=
  wk2_tup h ⟨by simp only [dAV, dI, dL, if_neg he]; exact wk2_frame _ _ _ _ rfl, wk2_refl _, trivial⟩
theorem two_of {xs : List Int} {k : Nat} (h : k + 2 ≤ xs.length) : (xs.drop k).take 2 = [xs.getD k 0, xs.getD (k + 1) 0] := by
  rw [List.drop_eq_getElem_cons (show k < xs.length by omega), List.drop_eq_getElem_cons (show k + 1 < xs.length by omega)]
  simp only [List.take_succ_cons, List.take_zero, List.getD_eq_getElem?_getD, List.getElem?_eq_getElem (show k < xs.length by omega), List.getElem?_eq_getElem (show k + 1 < xs.length by omega), Option.getD_some]
theorem dec54_ok (a b : Int) (xs : List Int) (h : xs.length ≤ 1000) : Pure Try.prog 54 [.agg (.gen [.int .i64 a, .int .i64 b]), .list (.ints .i64 xs)] (.tup [dAV (decE a b xs) a xs, .int .i64 (decE a b xs)]) none := by
  by_cases hr : rulesB a b = true
  · have hr' := hr
    simp only [rulesB, decide_eq_true_eq] at hr'
    obtain ⟨m, rfl⟩ := Int.eq_ofNat_of_zero_le (show 0 ≤ a by omega)
    have hw : Go.IntKind.wrap .i64 (std.add (m : Int) 5) = (m : Int) + 5 := wr_id (n := (m : Int) + 5) (by omega)
    have hre : rulesE (m : Int) b = 0 := by rw [rulesE, if_pos hr]
    by_cases h1 : (xs.length : Int) = (m : Int) + 5
    · by_cases h2 : bytesE xs = 0
      · have hf0 : firstE [0, unlessE (decide ((xs.length : Int) = (m : Int) + 5)) 10, bytesE xs] = 0 := by rw [decide_eq_true h1, h2]; rfl
        have hl : xs.length = m + 5 := by omega
        have hsm := bytes_small h2
        have hst : (xs.take (3 + m)).all smallB = true := by
          rw [List.all_eq_true] at hsm ⊢
          exact fun x hx => hsm x (List.mem_of_mem_take hx)
        obtain ⟨p, q, e, hp, hq⟩ := sumsS_spec (xs.take (3 + m)) 1 0 (by omega) (by omega)
        have hnat : std.nat (std.add 3 (m : Int)) = 3 + m := by simp; omega
        have hsub : std.sub3 xs 0 (std.subN (3 + m) 0) = xs.take (3 + m) := by simp
        have h2of := two_of (xs := xs) (k := 3 + m) (by omega)
        generalize xs.getD (3 + m) 0 = X at h2of
        generalize xs.getD (3 + m + 1) 0 = Y at h2of
        have hin : std.sub3 xs (3 + m) (std.subN xs.length (3 + m)) = xs.drop (3 + m) := by simp only [s_sub3, s_subN]; exact List.take_of_length_le (by simp)
        have ht2 : std.sub3 (xs.drop (3 + m)) 0 2 = [X, Y] := by rw [← h2of]; simp
        have hdl : (xs.drop (3 + m)).length = 2 := by simp; omega
        have hd3 : std.sub3 xs (std.nat 3) (std.subN (3 + m) (std.nat 3)) = (xs.drop 3).take m := by simp
        have hdl3 : ((xs.drop 3).take m).length = m := by simp; omega
        by_cases h3 : sumsS (xs.take (3 + m)) 1 0 = (xs.drop (3 + m)).take 2
        · have h3' := h3
          rw [e, h2of] at h3'
          simp only [List.cons.injEq, and_true] at h3'
          have hde : dcE (m : Int) b xs = frameE (m : Int) b (xs.getD 0 0) (xs.getD 1 0) (xs.getD 2 0) ((xs.drop 3).take m) := by
            rw [dcE, if_pos h1, if_pos h2, Int.toNat_natCast, if_pos h3]
          have he : decE (m : Int) b xs = frameE (m : Int) b (xs.getD 0 0) (xs.getD 1 0) (xs.getD 2 0) ((xs.drop 3).take m) := by rw [decE, if_pos hr, hde]
          have hx3 : std.sub3 (std.sub3 xs 0 3) 0 3 = [xs.getD 0 0, xs.getD 1 0, xs.getD 2 0] := by
            match xs, hl with
            | x :: y :: z :: r, _ => rfl
          obtain ⟨F, hF⟩ : ∃ F, frameE (m : Int) b (xs.getD 0 0) (xs.getD 1 0) (xs.getD 2 0) ((xs.drop 3).take m) = F := ⟨_, rfl⟩
          rw [hF] at he hde
          by_cases h4 : F = 0
          · subst h4
            rw [he]
            have key := start (f54e_at (m : Int) b xs) fun C hC => fin hC B3b_ok (f54p3 std (m : Int) b xs) (by
              simp only [hre, hw, s_eq, s_int, s_len, hf0, hnat, hsub, hin, ht2, hx3, hd3, e]
              simp only [s_nth, List.getD_cons_zero, List.getD_cons_succ, frameW_eq hr, hF]
              simp [hst, h3'.1, h3'.2, AV.bx, flatLen, hl, hdl, hdl3, Row.len]
              omega) rfl rfl
            refine wk2_tup key ⟨?_, ?_, trivial⟩
            · simp only [hnat, hx3, hd3, dAV, dI, dL, if_true, Int.toNat_natCast]
              exact wk2_refl _
            · exact wk2_refl _
          · rw [he]
            refine dAV_bad h4 (start (f54e_at (m : Int) b xs) fun C hC => fin hC B3b_ok (f54p2 std (m : Int) b xs) ?_ ?_ rfl)
            · simp only [hre, hw, s_eq, s_int, s_len, hf0, hnat, hsub, hin, ht2, hx3, hd3, e]
              simp only [s_nth, List.getD_cons_zero, List.getD_cons_succ, frameW_eq hr, hF]
              simp [hst, h3'.1, h3'.2, AV.bx, flatLen, hl, hdl, hdl3, Row.len, h4]
              omega
            · simp only [hnat, hx3, hd3, s_nth, List.getD_cons_zero, List.getD_cons_succ, frameW_eq hr, hF]
        · have h3' := h3
          rw [e, h2of] at h3'
          simp only [List.cons.injEq, and_true] at h3'
          have he : decE (m : Int) b xs = 20 := by rw [decE, if_pos hr, dcE, if_pos h1, if_pos h2, Int.toNat_natCast, if_neg h3]
          rw [he]
          refine dAV_bad (by decide) (start (f54e_at (m : Int) b xs) fun C hC => fin hC B3b_ok (f54p1 std (m : Int) b xs) ?_ rfl rfl)
          simp only [hre, hw, s_eq, s_int, s_len, hf0, hnat, hsub, hin, ht2, e]
          simp [hst, AV.bx, flatLen, hl, hdl, Row.len]
          refine ⟨Classical.not_and_iff_not_or_not.1 h3', ?_⟩
          omega
      · have he : decE (m : Int) b xs = bytesE xs := by rw [decE, if_pos hr, dcE, if_pos h1, if_neg h2]
        rw [he]
        refine dAV_bad h2 (start (f54e_at _ b xs) fun C hC => fin hC B3b_ok (f54p0 std _ b xs) ?_ ?_ rfl)
        · simp only [hre, hw, s_eq, s_int, s_len, h1]; simp [firstE, h2, AV.bx, flatLen]; omega
        · simp only [hre, hw, s_eq, s_int, s_len, h1]; simp [firstE, h2]
    · have he : decE (m : Int) b xs = 10 := by rw [decE, if_pos hr, dcE, if_neg h1]
      rw [he]
      refine dAV_bad (by decide) (start (f54e_at _ b xs) fun C hC => fin hC B3b_ok (f54p0 std _ b xs) ?_ ?_ rfl)
      · simp only [hre, hw, s_eq, s_int, s_len, decide_eq_false h1]; simp [firstE, AV.bx, flatLen]; omega
      · simp only [hre, hw, s_eq, s_int, s_len, decide_eq_false h1]; simp [firstE]
  · have he : decE a b xs = 2 := by rw [decE, if_neg hr]
    have hre : rulesE a b = 2 := by rw [rulesE, if_neg hr]
    rw [he]
    refine dAV_bad (by decide) (start (f54e_at a b xs) fun C hC => fin hC B3b_ok (f54p0 std a b xs) ?_ ?_ rfl)
    · simp [hre, firstE, AV.bx, flatLen]; omega
    · simp [hre, firstE]
theorem dec56_ok (a b : Int) (xs : List Int) (h : rulesB a b = true ∧ xs.length ≤ 1000) : Pure Try.prog 56 [.agg (.gen [.int .i64 a, .int .i64 b]), .list (.ints .i64 xs)] (.tup [dAV (dcE a b xs) a xs, .int .i64 (dcE a b xs)]) none := by
  obtain ⟨hr, h⟩ := h
  have hr' := hr
  simp only [rulesB, decide_eq_true_eq] at hr'
  obtain ⟨m, rfl⟩ := Int.eq_ofNat_of_zero_le (show 0 ≤ a by omega)
  by_cases h1 : (xs.length : Int) = (m : Int) + 5
  · by_cases h2 : bytesE xs = 0
    · have hl : xs.length = m + 5 := by omega
      have hsm := bytes_small h2
      have hst : (xs.take (3 + m)).all smallB = true := by
        rw [List.all_eq_true] at hsm ⊢
        exact fun x hx => hsm x (List.mem_of_mem_take hx)
      obtain ⟨p, q, e, hp, hq⟩ := sumsS_spec (xs.take (3 + m)) 1 0 (by omega) (by omega)
      have hnat : std.nat (std.sub (xs.length : Int) 2) = 3 + m := by simp; omega
      have hsub : std.sub3 xs 0 (std.subN (3 + m) 0) = xs.take (3 + m) := by simp
      have hnat2 : std.nat (std.add (std.sub (xs.length : Int) 2) 1) = 3 + m + 1 := by simp; omega
      have h2of := two_of (xs := xs) (k := 3 + m) (by omega)
      have hX : std.nth xs (3 + m) = xs.getD (3 + m) 0 := rfl
      have hY : std.nth xs (3 + m + 1) = xs.getD (3 + m + 1) 0 := rfl
      have hd3 : std.sub3 xs (std.nat 3) (std.subN (3 + m) (std.nat 3)) = (xs.drop 3).take m := by simp
      have hdl3 : ((xs.drop 3).take m).length = m := by simp; omega
      generalize xs.getD (3 + m) 0 = X at h2of hX
      generalize xs.getD (3 + m + 1) 0 = Y at h2of hY
      have h0 : std.nth xs (std.nat 0) = xs.getD 0 0 := rfl
      have h1' : std.nth xs (std.nat 1) = xs.getD 1 0 := rfl
      have h2' : std.nth xs (std.nat 2) = xs.getD 2 0 := rfl
      by_cases h3 : sumsS (xs.take (3 + m)) 1 0 = (xs.drop (3 + m)).take 2
      · have h3' := h3
        rw [e, h2of] at h3'
        simp only [List.cons.injEq, and_true] at h3'
        have hde : dcE (m : Int) b xs = frameE (m : Int) b (xs.getD 0 0) (xs.getD 1 0) (xs.getD 2 0) ((xs.drop 3).take m) := by
          rw [dcE, if_pos h1, if_pos h2, Int.toNat_natCast, if_pos h3]
        obtain ⟨F, hF⟩ : ∃ F, frameE (m : Int) b (xs.getD 0 0) (xs.getD 1 0) (xs.getD 2 0) ((xs.drop 3).take m) = F := ⟨_, rfl⟩
        rw [hF] at hde
        rw [hde]
        generalize xs.getD 0 0 = x0 at h0 hF
        generalize xs.getD 1 0 = x1 at h1' hF
        generalize xs.getD 2 0 = x2 at h2' hF
        by_cases h4 : F = 0
        · subst h4
          have key := start (f56e_at (m : Int) b xs) fun C hC => fin hC B3b_ok (f56p5 std (m : Int) b xs) (by
            simp only [s_eq, s_int, s_len, h2, hnat, hsub, hnat2, hX, hY, hd3, e, h0, h1', h2', hF]
            simp [hst, h3'.1, h3'.2, AV.bx, flatLen, hl, hdl3]
            omega) rfl rfl
          refine wk2_tup key ⟨?_, wk2_refl _, trivial⟩
          simp only [s_int, s_len, hnat, hd3, dAV, dI, dL, if_true, Int.toNat_natCast]
          exact wk2_refl _
        · refine dAV_bad h4 (start (f56e_at (m : Int) b xs) fun C hC => fin hC B3b_ok (f56p4 std (m : Int) b xs) ?_ ?_ rfl)
          · simp only [s_eq, s_int, s_len, h2, hnat, hsub, hnat2, hX, hY, hd3, e, h0, h1', h2', hF]
            simp [hst, h3'.1, h3'.2, AV.bx, flatLen, hl, hdl3, h4]
            omega
          · simp only [s_int, s_len, hnat, hd3, h0, h1', h2', hF]
      · have hde : dcE (m : Int) b xs = 20 := by rw [dcE, if_pos h1, if_pos h2, Int.toNat_natCast, if_neg h3]
        rw [hde]
        rw [e, h2of] at h3
        simp only [List.cons.injEq, and_true] at h3
        by_cases h5 : p = X
        · refine dAV_bad (by decide) (start (f56e_at (m : Int) b xs) fun C hC => fin hC B3b_ok (f56p3 std (m : Int) b xs) ?_ rfl rfl)
          simp only [s_eq, s_int, s_len, h2, hnat, hsub, hnat2, hX, hY, e]
          have h6 : ¬ q = Y := fun hq' => h3 ⟨h5, hq'⟩
          simp [hst, h5, h6, AV.bx, flatLen, hl]
          omega
        · refine dAV_bad (by decide) (start (f56e_at (m : Int) b xs) fun C hC => fin hC B3b_ok (f56p2 std (m : Int) b xs) ?_ rfl rfl)
          simp only [s_eq, s_int, s_len, h2, hnat, hsub, hX, e]
          simp [hst, h5, AV.bx, flatLen, hl]
          omega
    · have he : dcE (m : Int) b xs = bytesE xs := by rw [dcE, if_pos h1, if_neg h2]
      rw [he]
      refine dAV_bad h2 (start (f56e_at _ b xs) fun C hC => fin hC B3b_ok (f56p1 std _ b xs) ?_ rfl rfl)
      simp [h1, h2, AV.bx, flatLen]; omega
  · have he : dcE (m : Int) b xs = 10 := by rw [dcE, if_neg h1]
    rw [he]
    refine dAV_bad (by decide) (start (f56e_at _ b xs) fun C hC => fin hC B3b_ok (f56p0 std _ b xs) ?_ rfl rfl)
    simp [h1, AV.bx, flatLen]; omega
def k57n : Ctr := ⟨57, 0, fun _ a => match a with | [.agg (.gen [.int .i64 c, .int .i64 n, .int .i64 f, .list (.ints .i64 ds)]), .agg (.gen [.int .i64 c2, .int .i64 n2, .int .i64 f2, .nils])] => some (decide (ds.length ≤ 1000000), .bool (decide (c = c2 ∧ n = n2 ∧ f = f2 ∧ ds = [])), none) | _ => none⟩
theorem k57n_ok : k57n.OK Try.prog := fun pa args r fr h => by
  simp only [k57n] at h
  split at h
  · simp only [Option.some.injEq, Prod.mk.injEq, decide_eq_true_eq] at h
    obtain ⟨h0, rfl, rfl⟩ := h
    exact same57n_ok _ _ _ _ _ _ _ h0
  · cases h
def k66 : Ctr := ⟨66, 0, fun _ a => match a with | [.agg (.gen [.int .i64 a, .int .i64 b]), .agg (.gen [.int .i64 c, .int .i64 n, .int .i64 f, .list (.ints .i64 ds)])] => some (decide (ds.length ≤ 1000000), .int .i64 (chkE a b c n f ds), none) | _ => none⟩
theorem k66_ok : k66.OK Try.prog := fun pa args r fr h => by
  simp only [k66] at h
  split at h
  · simp only [Option.some.injEq, Prod.mk.injEq, decide_eq_true_eq] at h
    obtain ⟨h0, rfl, rfl⟩ := h
    exact chk66_ok _ _ _ _ _ _ h0
  · cases h
def k65 : Ctr := ⟨65, 0, fun _ a => match a with | [.agg (.gen [.int .i64 a, .int .i64 b]), .agg (.gen [.int .i64 c, .int .i64 n, .int .i64 f, .list (.ints .i64 ds)])] => some (decide (ds.length ≤ 1000000), .tup [.list (.ints .i64 (encR a b c n f ds)), .int .i64 (chkE a b c n f ds)], newF) | _ => none⟩
theorem k65_ok : k65.OK Try.prog := fun pa args r fr h => by
  simp only [k65] at h
  split at h
  · simp only [Option.some.injEq, Prod.mk.injEq, decide_eq_true_eq] at h
    obtain ⟨h0, rfl, rfl⟩ := h
    exact enc65_ok _ _ _ _ _ _ h0
  · cases h
def k54 : Ctr := ⟨54, 0, fun _ a => match a with | [.agg (.gen [.int .i64 a, .int .i64 b]), .list (.ints .i64 xs)] => some (decide (xs.length ≤ 1000), .tup [.agg (.gen [.int .i64 (dI (decE a b xs) xs 0), .int .i64 (dI (decE a b xs) xs 1), .int .i64 (dI (decE a b xs) xs 2), .list (.ints .i64 (dL (decE a b xs) a xs))]), .int .i64 (decE a b xs)], none) | _ => none⟩
theorem k54_ok : k54.OK Try.prog := fun pa args r fr h => by
  simp only [k54] at h
  split at h
  · simp only [Option.some.injEq, Prod.mk.injEq, decide_eq_true_eq] at h
    obtain ⟨h0, rfl, rfl⟩ := h
    exact dec54_ok _ _ _ h0
  · cases h
def k56 : Ctr := ⟨56, 0, fun _ a => match a with | [.agg (.gen [.int .i64 a, .int .i64 b]), .list (.ints .i64 xs)] => some (decide (rulesB a b = true ∧ xs.length ≤ 1000), .tup [.agg (.gen [.int .i64 (dI (dcE a b xs) xs 0), .int .i64 (dI (dcE a b xs) xs 1), .int .i64 (dI (dcE a b xs) xs 2), .list (.ints .i64 (dL (dcE a b xs) a xs))]), .int .i64 (dcE a b xs)], none) | _ => none⟩
theorem k56_ok : k56.OK Try.prog := fun pa args r fr h => by
  simp only [k56] at h
  split at h
  · simp only [Option.some.injEq, Prod.mk.injEq, decide_eq_true_eq] at h
    obtain ⟨h0, rfl, rfl⟩ := h
    exact dec56_ok _ _ _ h0
  · cases h
def B4 : List Ctr := [k57n, k66, k65, k54, k56] ++ B3
theorem B4_ok : CtrsOK Try.prog B4 := ⟨k57n_ok, ⟨k66_ok, ⟨k65_ok, ⟨k54_ok, ⟨k56_ok, B3_ok⟩⟩⟩⟩⟩
end Go.Proofs.Ytjhdnpmojhkbjaa
