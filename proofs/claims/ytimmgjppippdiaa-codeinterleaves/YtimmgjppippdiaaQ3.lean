/- Paths of functions, printed by the explorer (Gx). No condition. -/
import Derived.Test.YtimmgjppippdiaaR5
import Derived.KernelRfl
namespace Go.Proofs.Ytimmgjppippdiaa
set_option maxRecDepth 100000
set_option linter.unusedVariables false
def f51e (xs : List Int) (rows : Int) : List AFrame := [{ fn := 51, N := 16, env := [(0, AV.list (.ints .i64 xs)), (1, AV.int .i64 rows)], todo := [.code a51.code], defs := [], rnd := none, ret := false, res := [ARes.tmp 4, ARes.tmp 5] }]
theorem f51e_at (xs : List Int) (rows : Int) : enterA tab 51 [AV.list (.ints .i64 xs), AV.int .i64 rows] = some { fn := 51, N := 16, env := [(0, AV.list (.ints .i64 xs)), (1, AV.int .i64 rows)], todo := [.code a51.code], defs := [], rnd := none, ret := false, res := [ARes.tmp 4, ARes.tmp 5] } := rfl
theorem f51p0 (A : Ar) (xs : List Int) (rows : Int) : gfin A tab E2 26 [true] 51 (f51e xs rows) [] =
  some ([true, true, true, true, A.not (A.eq (listErr (List.length xs) rows) 0), true, true, true, A.and true (Decidable.decide (List.length xs ≤ 1000000)), true, true, true, true],
   AV.tup [AV.nils, AV.int .i64 (listErr (List.length xs) rows)], none) := by kernel_rfl
theorem f51p1 (A : Ar) (xs : List Int) (rows : Int) : gfin A tab E2 29 [false] 51 (f51e xs rows) [] =
  some ([true, true, true, A.and true (Decidable.decide (0 ≤ rows ∧ rows ≤ 1000000 ∧ List.length xs ≤ 1000000 ∧ List.length xs / Int.toNat rows * Int.toNat rows = List.length xs)), true, true, !A.not (A.eq (listErr (List.length xs) rows) 0), true, true, true, A.and true (Decidable.decide (List.length xs ≤ 1000000)), true, true, true, true],
   AV.tup [AV.list (.ints .i64 (tS xs (Int.toNat rows))), AV.int .i64 0], none) := by kernel_rfl
def f52e (xs : List Int) (rows : Int) : List AFrame := [{ fn := 52, N := 19, env := [(0, AV.list (.ints .i64 xs)), (1, AV.int .i64 rows)], todo := [.code a52.code], defs := [], rnd := none, ret := false, res := [ARes.tmp 4, ARes.tmp 5] }]
theorem f52e_at (xs : List Int) (rows : Int) : enterA tab 52 [AV.list (.ints .i64 xs), AV.int .i64 rows] = some { fn := 52, N := 19, env := [(0, AV.list (.ints .i64 xs)), (1, AV.int .i64 rows)], todo := [.code a52.code], defs := [], rnd := none, ret := false, res := [ARes.tmp 4, ARes.tmp 5] } := rfl
theorem f52p0 (A : Ar) (xs : List Int) (rows : Int) : gfin A tab E2 26 [true] 52 (f52e xs rows) [] =
  some ([true, true, true, true, A.not (A.eq (listErr (List.length xs) rows) 0), true, true, true, A.and true (Decidable.decide (List.length xs ≤ 1000000)), true, true, true, true],
   AV.tup [AV.nils, AV.int .i64 (listErr (List.length xs) rows)], none) := by kernel_rfl
theorem f52p1 (A : Ar) (xs : List Int) (rows : Int) : gfin A tab E2 33 [false] 52 (f52e xs rows) [] =
  some ([true, true, true, A.and true (Decidable.decide (0 ≤ A.quo (A.int (A.len xs)) rows ∧ A.quo (A.int (A.len xs)) rows ≤ 1000000 ∧ List.length xs ≤ 1000000 ∧ List.length xs / Int.toNat (A.quo (A.int (A.len xs)) rows) * Int.toNat (A.quo (A.int (A.len xs)) rows) = List.length xs)), A.and (A.not (A.eq rows 0)) (A.inR .i64 (A.quo (A.int (A.len xs)) rows)), true, true, true, true, !A.not (A.eq (listErr (List.length xs) rows) 0), true, true, true, A.and true (Decidable.decide (List.length xs ≤ 1000000)), true, true, true, true],
   AV.tup [AV.list (.ints .i64 (tS xs (Int.toNat (A.quo (A.int (A.len xs)) rows)))), AV.int .i64 0], none) := by kernel_rfl
end Go.Proofs.Ytimmgjppippdiaa
