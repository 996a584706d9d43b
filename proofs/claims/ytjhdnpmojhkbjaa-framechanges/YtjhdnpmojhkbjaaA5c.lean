/- Contracts as a list. No condition. -/
import Derived.Test.YtjhdnpmojhkbjaaA5
namespace Go.Proofs.Ytjhdnpmojhkbjaa
theorem dec54_bad (a b : Int) (xs : List Int) (h : decE a b xs ≠ 0 ∧ xs.length ≤ 1000) : Pure Try.prog 54 [.agg (.gen [.int .i64 a, .int .i64 b]), .list (.ints .i64 xs)] (.tup [.agg (.gen [.int .i64 0, .int .i64 0, .int .i64 0, .nils]), .int .i64 (decE a b xs)]) none := by
  obtain ⟨hne, h⟩ := h
  by_cases hr : rulesB a b = true
  · have hr' := hr
    simp only [rulesB, decide_eq_true_eq] at hr'
    obtain ⟨m, rfl⟩ := Int.eq_ofNat_of_zero_le (show 0 ≤ a by omega)
    have hw : Go.IntKind.wrap .i64 (std.add (m : Int) 5) = (m : Int) + 5 := wr_id (n := (m : Int) + 5) (by omega)
    have hre : rulesE (m : Int) b = 0 := by rw [rulesE, if_pos hr]
    by_cases h1 : (xs.length : Int) = (m : Int) + 5
    · by_cases h2 : bytesE xs = 0
      · have hf0 : firstE [0, unlessE (decide ((xs.length : Int) = (m : Int) + 5)) 10, bytesE xs] = 0 := by rw [decide_eq_true h1, h2]; rfl
        have hl : xs.length = m + 5 := by omega
        have hsm := bytes_small h2
        have hst : (xs.take (3 + m)).all smallB = true := by
          rw [List.all_eq_true] at hsm ⊢
          exact fun x hx => hsm x (List.mem_of_mem_take hx)
        obtain ⟨p, q, e, hp, hq⟩ := sumsS_spec (xs.take (3 + m)) 1 0 (by omega) (by omega)
        have hnat : std.nat (std.add 3 (m : Int)) = 3 + m := by simp; omega
        have hsub : std.sub3 xs 0 (std.subN (3 + m) 0) = xs.take (3 + m) := by simp
        have h2of := two_of (xs := xs) (k := 3 + m) (by omega)
        generalize xs.getD (3 + m) 0 = X at h2of
        generalize xs.getD (3 + m + 1) 0 = Y at h2of
        have hin : std.sub3 xs (3 + m) (std.subN xs.length (3 + m)) = xs.drop (3 + m) := by simp only [s_sub3, s_subN]; exact List.take_of_length_le (by simp)
        have ht2 : std.sub3 (xs.drop (3 + m)) 0 2 = [X, Y] := by rw [← h2of]; simp
        have hdl : (xs.drop (3 + m)).length = 2 := by simp; omega
        have hd3 : std.sub3 xs (std.nat 3) (std.subN (3 + m) (std.nat 3)) = (xs.drop 3).take m := by simp
        have hdl3 : ((xs.drop 3).take m).length = m := by simp; omega
        by_cases h3 : sumsS (xs.take (3 + m)) 1 0 = (xs.drop (3 + m)).take 2
        · have h3' := h3
          rw [e, h2of] at h3'
          simp only [List.cons.injEq, and_true] at h3'
          have hde : dcE (m : Int) b xs = frameE (m : Int) b (xs.getD 0 0) (xs.getD 1 0) (xs.getD 2 0) ((xs.drop 3).take m) := by
            rw [dcE, if_pos h1, if_pos h2, Int.toNat_natCast, if_pos h3]
          have he : decE (m : Int) b xs = frameE (m : Int) b (xs.getD 0 0) (xs.getD 1 0) (xs.getD 2 0) ((xs.drop 3).take m) := by rw [decE, if_pos hr, hde]
          have hx3 : std.sub3 (std.sub3 xs 0 3) 0 3 = [xs.getD 0 0, xs.getD 1 0, xs.getD 2 0] := by
            match xs, hl with
            | x :: y :: z :: r, _ => rfl
          obtain ⟨F, hF⟩ : ∃ F, frameE (m : Int) b (xs.getD 0 0) (xs.getD 1 0) (xs.getD 2 0) ((xs.drop 3).take m) = F := ⟨_, rfl⟩
          rw [hF] at he hde
          by_cases h4 : F = 0
          · subst h4
            exact absurd he hne
          · rw [he]
            refine (start (f54e_at (m : Int) b xs) fun C hC => fin hC B3b_ok (f54p2 std (m : Int) b xs) ?_ ?_ rfl)
            · simp only [hre, hw, s_eq, s_int, s_len, hf0, hnat, hsub, hin, ht2, hx3, hd3, e]
              simp only [s_nth, List.getD_cons_zero, List.getD_cons_succ, frameW_eq hr, hF]
              simp [hst, h3'.1, h3'.2, AV.bx, flatLen, hl, hdl, hdl3, Row.len, h4]
              omega
            · simp only [hnat, hx3, hd3, s_nth, List.getD_cons_zero, List.getD_cons_succ, frameW_eq hr, hF]
        · have h3' := h3
          rw [e, h2of] at h3'
          simp only [List.cons.injEq, and_true] at h3'
          have he : decE (m : Int) b xs = 20 := by rw [decE, if_pos hr, dcE, if_pos h1, if_pos h2, Int.toNat_natCast, if_neg h3]
          rw [he]
          refine (start (f54e_at (m : Int) b xs) fun C hC => fin hC B3b_ok (f54p1 std (m : Int) b xs) ?_ rfl rfl)
          simp only [hre, hw, s_eq, s_int, s_len, hf0, hnat, hsub, hin, ht2, e]
          simp [hst, AV.bx, flatLen, hl, hdl, Row.len]
          refine ⟨Classical.not_and_iff_not_or_not.1 h3', ?_⟩
          omega
      · have he : decE (m : Int) b xs = bytesE xs := by rw [decE, if_pos hr, dcE, if_pos h1, if_neg h2]
        rw [he]
        refine (start (f54e_at _ b xs) fun C hC => fin hC B3b_ok (f54p0 std _ b xs) ?_ ?_ rfl)
        · simp only [hre, hw, s_eq, s_int, s_len, h1]; simp [firstE, h2, AV.bx, flatLen]; omega
        · simp only [hre, hw, s_eq, s_int, s_len, h1]; simp [firstE, h2]
    · have he : decE (m : Int) b xs = 10 := by rw [decE, if_pos hr, dcE, if_neg h1]
      rw [he]
      refine (start (f54e_at _ b xs) fun C hC => fin hC B3b_ok (f54p0 std _ b xs) ?_ ?_ rfl)
      · simp only [hre, hw, s_eq, s_int, s_len, decide_eq_false h1]; simp [firstE, AV.bx, flatLen]; omega
      · simp only [hre, hw, s_eq, s_int, s_len, decide_eq_false h1]; simp [firstE]
  · have he : decE a b xs = 2 := by rw [decE, if_neg hr]
    have hre : rulesE a b = 2 := by rw [rulesE, if_neg hr]
    rw [he]
    refine (start (f54e_at a b xs) fun C hC => fin hC B3b_ok (f54p0 std a b xs) ?_ ?_ rfl)
    · simp [hre, firstE, AV.bx, flatLen]; omega
    · simp [hre, firstE]
def k55b : Ctr := ⟨55, 1, fun pa a => match pa with
  | [] => (match a with | _ => some (false, .nils, none))
  | b :: _ => (match a with
    | [.list (.ints .i64 xs)] => some (decide (xs.length ≤ 4294967296), (match b with | true => .row 0 0 | false => .list (.ints .i64 xs)), (match b with | true => some ⟨3, 1, .ints .i64 xs⟩ | false => newF))
    | _ => none)⟩
theorem k55b_ok : k55b.OK Try.prog := fun pa args r fr h => by
  simp only [k55b] at h
  split at h
  · simp at h
  · split at h
    · simp only [Option.some.injEq, Prod.mk.injEq, decide_eq_true_eq] at h
      obtain ⟨h0, rfl, rfl⟩ := h
      split
      · exact copy_row _ h0
      · exact copy_new _ h0
    · cases h
theorem same57z_ok (c n f c2 n2 f2 : Int) : Pure Try.prog 57 [.agg (.gen [.int .i64 c, .int .i64 n, .int .i64 f, .nils]), .agg (.gen [.int .i64 c2, .int .i64 n2, .int .i64 f2, .nils])]
    (.bool (decide (c = c2 ∧ n = n2 ∧ f = f2))) none := by
  have := pure_args (xs := [.agg (.gen [.int .i64 c, .int .i64 n, .int .i64 f, .nils]), .agg (.gen [.int .i64 c2, .int .i64 n2, .int .i64 f2, .nils])]) (same57_ok c n f c2 n2 f2 [] [] (by decide)) ⟨wk2_frame _ _ _ (.ints .i64 []) rfl, wk2_frame _ _ _ (.ints .i64 []) rfl, trivial⟩
  simpa using this
def k54s : Ctr := ⟨54, 0, fun _ a => match a with | [.agg (.gen [.int .i64 a, .int .i64 b]), .list (.ints .i64 xs)] => some (decide (decE a b xs ≠ 0 ∧ xs.length ≤ 1000), .tup [.agg (.gen [.int .i64 0, .int .i64 0, .int .i64 0, .nils]), .int .i64 (decE a b xs)], none) | _ => none⟩
theorem k54s_ok : k54s.OK Try.prog := fun pa args r fr h => by
  simp only [k54s] at h
  split at h
  · simp only [Option.some.injEq, Prod.mk.injEq, decide_eq_true_eq] at h
    obtain ⟨h0, rfl, rfl⟩ := h
    exact dec54_bad _ _ _ h0
  · cases h
def k57z : Ctr := ⟨57, 0, fun _ a => match a with | [.agg (.gen [.int .i64 c, .int .i64 n, .int .i64 f, .nils]), .agg (.gen [.int .i64 c2, .int .i64 n2, .int .i64 f2, .nils])] => some (true, .bool (decide (c = c2 ∧ n = n2 ∧ f = f2)), none) | _ => none⟩
theorem k57z_ok : k57z.OK Try.prog := fun pa args r fr h => by
  simp only [k57z] at h
  split at h
  · cases h
    exact same57z_ok _ _ _ _ _ _
  · cases h
def B5d : List Ctr := [k54s, k57z] ++ B5
theorem B5d_ok : CtrsOK Try.prog B5d := ⟨k54s_ok, ⟨k57z_ok, B5_ok⟩⟩
end Go.Proofs.Ytjhdnpmojhkbjaa
namespace Go.Proofs.Ytjhdnpmojhkbjaa
def B5c : List Ctr := k55b :: B5d
theorem B5c_ok : CtrsOK Try.prog B5c := ⟨k55b_ok, B5d_ok⟩
end Go.Proofs.Ytjhdnpmojhkbjaa
