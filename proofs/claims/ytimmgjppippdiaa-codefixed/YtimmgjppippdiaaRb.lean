/- Paths of functions, printed by the explorer (Gx). No condition. -/
import Derived.Test.YtimmgjppippdiaaRa
import Derived.KernelRfl
namespace Go.Proofs.Ytimmgjppippdiaa
set_option maxRecDepth 100000
set_option linter.unusedVariables false
def f36e (n : Int) (cs : List AV) : List AFrame := [{ fn := 36, N := 9, env := [(0, AV.agg (Row.gen [AV.int .i64 n, AV.list (Row.big (Sh.ints .i64) cs)]))], todo := [.code a36.code], defs := [], rnd := none, ret := false, res := [ARes.cell 2 true 2] }]
theorem f36e_at (n : Int) (cs : List AV) : enterA tab 36 [AV.agg (Row.gen [AV.int .i64 n, AV.list (Row.big (Sh.ints .i64) cs)])] = some { fn := 36, N := 9, env := [(0, AV.agg (Row.gen [AV.int .i64 n, AV.list (Row.big (Sh.ints .i64) cs)]))], todo := [.code a36.code], defs := [], rnd := none, ret := false, res := [ARes.cell 2 true 2] } := rfl
theorem f36p0 (A : Ar) (n : Int) (cs : List AV) : gfin A tab F3 9 [] 36 (f36e n cs) [] =
  some ([A.and (A.and (A.ltN 0 1) (A.leN (A.addN 0 2) 2)) true, A.and (A.ltN 0 1) (A.eqN 2 2), A.and (A.and true (A.eqN 1 1)) (A.and (A.leN (A.addN 0 1) 2) (A.and (A.ltN 0 1) (A.and (A.and true (A.eqN 1 1)) (A.and (A.leN (A.addN 1 1) 2) (A.and (A.ltN 0 1) true))))), A.and true (Decidable.decide (List.length cs ≤ 1000000 ∧ List.all cs few1 = true)), A.and (A.ltN 0 1) (A.ltN 1 2), true, A.and (A.ltN 0 1) (A.ltN 0 2), true, A.and true (A.ltN 0 2), A.and true (A.ltN 0 2)],
   AV.agg (Row.gen [AV.int .i64 n, AV.list (Row.big (Sh.ints .i64) (List.map (fun v => AV.list (.ints .i64 (AV.toIs v))) cs))]), none) := by kernel_rfl
def f40e (n : Int) (cs : List AV) (w : List Int) : List AFrame := [{ fn := 40, N := 22, env := [(0, AV.agg (Row.gen [AV.int .i64 n, AV.list (Row.big (Sh.ints .i64) cs)])), (1, AV.list (.ints .i64 w))], todo := [.code a40.code], defs := [], rnd := none, ret := false, res := [ARes.tmp 4] }]
theorem f40e_at (n : Int) (cs : List AV) (w : List Int) : enterA tab 40 [AV.agg (Row.gen [AV.int .i64 n, AV.list (Row.big (Sh.ints .i64) cs)]), AV.list (.ints .i64 w)] = some { fn := 40, N := 22, env := [(0, AV.agg (Row.gen [AV.int .i64 n, AV.list (Row.big (Sh.ints .i64) cs)])), (1, AV.list (.ints .i64 w))], todo := [.code a40.code], defs := [], rnd := none, ret := false, res := [ARes.tmp 4] } := rfl
theorem f40p0 (A : Ar) (n : Int) (cs : List AV) (w : List Int) : gfin A tab F3 29 [true] 40 (f40e n cs w) [] =
  some ([true, true, true, A.not (A.eq (chkE n (iss cs)).2 0), true, true, true, true, true, true, true, A.and true (Decidable.decide (List.length cs ≤ 1000000 ∧ List.all cs few1 = true)), A.and (A.ltN 0 1) (A.leN (A.addN 0 2) 2), true, A.and true (A.ltN 0 2)],
   AV.int .i64 (chkE n (iss cs)).2, none) := by kernel_rfl
theorem f40p1 (A : Ar) (n : Int) (cs : List AV) (w : List Int) : gfin A tab F3 39 [false, true] 40 (f40e n cs w) [] =
  some ([true, true, A.not (A.eq (A.int (A.len w)) n), true, A.and (A.ltN 0 1) (A.ltN 0 2), true, true, true, !A.not (A.eq (chkE n (iss cs)).2 0), true, true, true, true, true, true, true, A.and true (Decidable.decide (List.length cs ≤ 1000000 ∧ List.all cs few1 = true)), A.and (A.ltN 0 1) (A.leN (A.addN 0 2) 2), true, A.and true (A.ltN 0 2)],
   AV.int .i64 10, none) := by kernel_rfl
theorem f40p2 (A : Ar) (n : Int) (cs : List AV) (w : List Int) : gfin A tab F3 42 [false, false] 40 (f40e n cs w) [] =
  some ([true, true, A.and true (Decidable.decide (List.length w ≤ 1000000)), true, !A.not (A.eq (A.int (A.len w)) n), true, A.and (A.ltN 0 1) (A.ltN 0 2), true, true, true, !A.not (A.eq (chkE n (iss cs)).2 0), true, true, true, true, true, true, true, A.and true (Decidable.decide (List.length cs ≤ 1000000 ∧ List.all cs few1 = true)), A.and (A.ltN 0 1) (A.leN (A.addN 0 2) 2), true, A.and true (A.ltN 0 2)],
   AV.int .i64 (bitE w), none) := by kernel_rfl
def f133e (n : Int) (cs : List AV) : List AFrame := [{ fn := 133, N := 11, env := [(0, AV.agg (Row.gen [AV.int .i64 n, AV.list (Row.big (Sh.ints .i64) cs)]))], todo := [.code a133.code], defs := [], rnd := none, ret := false, res := [ARes.tmp 2] }]
theorem f133e_at (n : Int) (cs : List AV) : enterA tab 133 [AV.agg (Row.gen [AV.int .i64 n, AV.list (Row.big (Sh.ints .i64) cs)])] = some { fn := 133, N := 11, env := [(0, AV.agg (Row.gen [AV.int .i64 n, AV.list (Row.big (Sh.ints .i64) cs)]))], todo := [.code a133.code], defs := [], rnd := none, ret := false, res := [ARes.tmp 2] } := rfl
theorem f133p0 (A : Ar) (n : Int) (cs : List AV) : gfin A tab F3 22 [] 133 (f133e n cs) [] =
  some ([true, true, true, true, true, true, true, true, A.and true (Decidable.decide (List.length cs ≤ 1000000 ∧ List.all cs few1 = true)), A.and (A.ltN 0 1) (A.leN (A.addN 0 2) 2), true, A.and true (A.ltN 0 2)],
   AV.int .i64 (chkE n (iss cs)).2, none) := by kernel_rfl
end Go.Proofs.Ytimmgjppippdiaa

/- Contracts as a list. No condition. -/
namespace Go.Proofs.Ytimmgjppippdiaa
def parE (n : Int) (cs : List (List Int)) (w : List Int) : Int := if (chkE n cs).2 ≠ 0 then (chkE n cs).2 else if (w.length : Int) ≠ n then 10 else bitE w
theorem copyC_ok (n : Int) (cs : List AV) (h : cs.length ≤ 1000000) (hf : cs.all few1 = true) : Pure Try.prog 36 [.agg (.gen [.int .i64 n, .list (.big (.ints .i64) cs)])] (.agg (.gen [.int .i64 n, .list (.big (.ints .i64) (cpy cs))])) none :=
  start (f36e_at n cs) fun C hC => fin hC F3_ok (f36p0 std n cs) (by rw [hf]; simp [h]) rfl rfl
theorem par40_ok (n : Int) (cs : List AV) (w : List Int) (h : cs.length ≤ 1000000) (hf : cs.all few1 = true) (hw : w.length ≤ 1000000) : Pure Try.prog 40 [.agg (.gen [.int .i64 n, .list (.big (.ints .i64) cs)]), .list (.ints .i64 w)] (.int .i64 (parE n (iss cs) w)) none :=
  start (f40e_at n cs w) fun C hC => by
    by_cases h1 : (chkE n (iss cs)).2 = 0
    · by_cases h2 : (w.length : Int) = n
      · exact fin hC F3_ok (f40p2 std n cs w) (by rw [hf]; simp [h, h1, h2, hw]) (by simp [parE, h1, h2]) rfl
      · exact fin hC F3_ok (f40p1 std n cs w) (by rw [hf]; simp [h, h1, h2]) (by simp [parE, h1, h2]) rfl
    · exact fin hC F3_ok (f40p0 std n cs w) (by rw [hf]; simp [h, h1]) (by simp [parE, h1]) rfl
theorem par133_ok (n : Int) (cs : List AV) (h : cs.length ≤ 1000000) (hf : cs.all few1 = true) : Pure Try.prog 133 [.agg (.gen [.int .i64 n, .list (.big (.ints .i64) cs)])] (.int .i64 (chkE n (iss cs)).2) none :=
  start (f133e_at n cs) fun C hC => fin hC F3_ok (f133p0 std n cs) (by rw [hf]; simp [h]) rfl rfl
def k36 : Ctr := ⟨36, 0, fun _ a => match a with | [.agg (.gen [.int .i64 n, .list (.big (.ints .i64) cs)])] => some (decide (cs.length ≤ 1000000 ∧ cs.all few1 = true), .agg (.gen [.int .i64 n, .list (.big (.ints .i64) (cpy cs))]), none) | _ => none⟩
theorem k36_ok : k36.OK Try.prog := fun pa args r fr h => by
  simp only [k36] at h
  split at h
  · simp only [Option.some.injEq, Prod.mk.injEq, decide_eq_true_eq] at h
    obtain ⟨h0, rfl, rfl⟩ := h
    exact copyC_ok _ _ h0.1 h0.2
  · cases h
def k40 : Ctr := ⟨40, 0, fun _ a => match a with | [.agg (.gen [.int .i64 n, .list (.big (.ints .i64) cs)]), .list (.ints .i64 w)] => some (decide (cs.length ≤ 1000000 ∧ cs.all few1 = true ∧ w.length ≤ 1000000), .int .i64 (parE n (iss cs) w), none) | _ => none⟩
theorem k40_ok : k40.OK Try.prog := fun pa args r fr h => by
  simp only [k40] at h
  split at h
  · simp only [Option.some.injEq, Prod.mk.injEq, decide_eq_true_eq] at h
    obtain ⟨h0, rfl, rfl⟩ := h
    exact par40_ok _ _ _ h0.1 h0.2.1 h0.2.2
  · cases h
def k133 : Ctr := ⟨133, 0, fun _ a => match a with | [.agg (.gen [.int .i64 n, .list (.big (.ints .i64) cs)])] => some (decide (cs.length ≤ 1000000 ∧ cs.all few1 = true), .int .i64 (chkE n (iss cs)).2, none) | _ => none⟩
theorem k133_ok : k133.OK Try.prog := fun pa args r fr h => by
  simp only [k133] at h
  split at h
  · simp only [Option.some.injEq, Prod.mk.injEq, decide_eq_true_eq] at h
    obtain ⟨h0, rfl, rfl⟩ := h
    exact par133_ok _ _ h0.1 h0.2
  · cases h
def F4 : List Ctr := [k36, k40, k133] ++ F3
theorem F4_ok : CtrsOK Try.prog F4 := ⟨k36_ok, ⟨k40_ok, ⟨k133_ok, F3_ok⟩⟩⟩
end Go.Proofs.Ytimmgjppippdiaa
