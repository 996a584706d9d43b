/- Paths of functions, printed by the explorer (Gx). No condition. -/
import Derived.Test.YtimmgjppippdiaaRf
import Derived.KernelRfl
import Derived.Test.YtimmgjppippdiaaTi
namespace Go.Proofs.Ytimmgjppippdiaa
set_option maxRecDepth 100000
set_option linter.unusedVariables false
def f38e (n : Int) (cs : List AV) (w : List Int) : List AFrame := [{ fn := 38, N := 16, env := [(0, AV.agg (Row.gen [AV.int .i64 n, AV.list (Row.big (Sh.ints .i64) cs)])), (1, AV.list (.ints .i64 w))], todo := [.code a38.code], defs := [], rnd := none, ret := false, res := [ARes.tmp 4, ARes.tmp 5] }]
theorem f38e_at (n : Int) (cs : List AV) (w : List Int) : enterA tab 38 [AV.agg (Row.gen [AV.int .i64 n, AV.list (Row.big (Sh.ints .i64) cs)]), AV.list (.ints .i64 w)] = some { fn := 38, N := 16, env := [(0, AV.agg (Row.gen [AV.int .i64 n, AV.list (Row.big (Sh.ints .i64) cs)])), (1, AV.list (.ints .i64 w))], todo := [.code a38.code], defs := [], rnd := none, ret := false, res := [ARes.tmp 4, ARes.tmp 5] } := rfl
theorem f38p0 (A : Ar) (n : Int) (cs : List AV) (w : List Int) : gfin A tab F8 27 [true] 38 (f38e n cs w) [] =
  some ([true, true, true, true, A.not (A.eq (parE n (iss cs) w) 0), true, true, true, A.and true (Decidable.decide (List.length cs ≤ 1000000 ∧ List.all cs few1 = true ∧ List.length w ≤ 1000000)), true, A.and (A.ltN 0 1) (A.leN (A.addN 0 2) 2), true, true, A.and true (A.ltN 0 2)],
   AV.tup [AV.nils, AV.int .i64 (parE n (iss cs) w)], none) := by kernel_rfl
theorem f38p1 (A : Ar) (n : Int) (cs : List AV) (w : List Int) : gfin A tab F8 30 [false] 38 (f38e n cs w) [] =
  some ([true, true, true, A.and true (Decidable.decide (parE n (iss cs) w = 0 ∧ List.all cs few1 = true)), true, A.and (A.ltN 0 1) (A.leN (A.addN 0 2) 2), !A.not (A.eq (parE n (iss cs) w) 0), true, true, true, A.and true (Decidable.decide (List.length cs ≤ 1000000 ∧ List.all cs few1 = true ∧ List.length w ≤ 1000000)), true, A.and (A.ltN 0 1) (A.leN (A.addN 0 2) 2), true, true, A.and true (A.ltN 0 2)],
   AV.tup [AV.list (.ints .i64 (flipS w (iss cs))), AV.int .i64 0], none) := by kernel_rfl
end Go.Proofs.Ytimmgjppippdiaa

/- Contracts as a list. No condition. -/
namespace Go.Proofs.Ytimmgjppippdiaa
theorem f38_ok (n : Int) (cs : List AV) (w : List Int) (h : cs.length ≤ 1000000) (hf : cs.all few1 = true) (hw : w.length ≤ 1000000) : Pure Try.prog 38 [.agg (.gen [.int .i64 n, .list (.big (.ints .i64) cs)]), .list (.ints .i64 w)] (.tup [.list (.ints .i64 (okP (parE n (iss cs) w) (flipS w (iss cs)))), .int .i64 (parE n (iss cs) w)]) none := by
  by_cases h0 : parE n (iss cs) w = 0
  · exact start (f38e_at n cs w) fun C hC => fin hC F8_ok (f38p1 std n cs w) (by rw [hf, h0]; simp [h, hw]) (by rw [h0]; simp [okP]) rfl
  · exact wk_tup (start (f38e_at n cs w) fun C hC => fin hC F8_ok (f38p0 std n cs w) (by rw [hf]; simp [h, hw, h0]) rfl rfl) ⟨.nil _ (by simp [okP, h0, Row.elems]), .same _, trivial⟩
def k18 : Ctr := ⟨18, 0, fun _ a => match a with | [] => some (true, .bool true, none) | _ => none⟩
theorem k18_ok : k18.OK Try.prog := fun pa args r fr h => by
  simp only [k18] at h
  split at h
  · cases h
    exact q181_ok
  · cases h
def k38 : Ctr := ⟨38, 0, fun _ a => match a with | [.agg (.gen [.int .i64 n, .list (.big (.ints .i64) cs)]), .list (.ints .i64 w)] => some (decide (cs.length ≤ 1000000 ∧ cs.all few1 = true ∧ w.length ≤ 1000000), .tup [.list (.ints .i64 (okP (parE n (iss cs) w) (flipS w (iss cs)))), .int .i64 (parE n (iss cs) w)], none) | _ => none⟩
theorem k38_ok : k38.OK Try.prog := fun pa args r fr h => by
  simp only [k38] at h
  split at h
  · simp only [Option.some.injEq, Prod.mk.injEq, decide_eq_true_eq] at h
    obtain ⟨h0, rfl, rfl⟩ := h
    exact f38_ok _ _ _ h0.1 h0.2.1 h0.2.2
  · cases h
def F9 : List Ctr := [k18, k38] ++ F8
theorem F9_ok : CtrsOK Try.prog F9 := ⟨k18_ok, ⟨k38_ok, F8_ok⟩⟩
end Go.Proofs.Ytimmgjppippdiaa
