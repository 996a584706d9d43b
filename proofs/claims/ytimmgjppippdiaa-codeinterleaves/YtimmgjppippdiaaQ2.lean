/- Paths of functions, printed by the explorer (Gx). No condition. -/
import Derived.Test.YtimmgjppippdiaaR4
import Derived.KernelRfl
namespace Go.Proofs.Ytimmgjppippdiaa
set_option maxRecDepth 100000
set_option linter.unusedVariables false
def f123e (xs : List Int) (rows : Int) : List AFrame := [{ fn := 123, N := 24, env := [(0, AV.list (.ints .i64 xs)), (1, AV.int .i64 rows)], todo := [.code a123.code], defs := [], rnd := none, ret := false, res := [ARes.tmp 4] }]
theorem f123e_at (xs : List Int) (rows : Int) : enterA tab 123 [AV.list (.ints .i64 xs), AV.int .i64 rows] = some { fn := 123, N := 24, env := [(0, AV.list (.ints .i64 xs)), (1, AV.int .i64 rows)], todo := [.code a123.code], defs := [], rnd := none, ret := false, res := [ARes.tmp 4] } := rfl
theorem f123p0 (A : Ar) (xs : List Int) (rows : Int) : gfin A tab E1 31 [true] 123 (f123e xs rows) [] =
  some ([true, true, true, A.not (A.eq (firstE [unlessE (A.le (A.int (A.len xs)) 400) 8, unlessE (Decidable.decide (1 ≤ rows ∧ rows ≤ 400)) 2]) 0), true, true, true, A.and (A.and true true) (Decidable.decide (List.length [unlessE (A.le (A.int (A.len xs)) 400) 8, unlessE (Decidable.decide (1 ≤ rows ∧ rows ≤ 400)) 2] ≤ 1000000)), List.all [AV.int .i64 (unlessE (A.le (A.int (A.len xs)) 400) 8), AV.int .i64 (unlessE (Decidable.decide (1 ≤ rows ∧ rows ≤ 400)) 2)] fun x => AV.bx x && Nat.beq (flatLen A x) 1, A.and true true, A.and true true, true, A.and true true, true, true, true, true],
   AV.int .i64 (firstE [unlessE (A.le (A.int (A.len xs)) 400) 8, unlessE (Decidable.decide (1 ≤ rows ∧ rows ≤ 400)) 2]), none) := by kernel_rfl
theorem f123p1 (A : Ar) (xs : List Int) (rows : Int) : gfin A tab E1 38 [false] 123 (f123e xs rows) [] =
  some ([true, true, A.and true true, true, A.not (A.eq rows 0), true, true, true, !A.not (A.eq (firstE [unlessE (A.le (A.int (A.len xs)) 400) 8, unlessE (Decidable.decide (1 ≤ rows ∧ rows ≤ 400)) 2]) 0), true, true, true, A.and (A.and true true) (Decidable.decide (List.length [unlessE (A.le (A.int (A.len xs)) 400) 8, unlessE (Decidable.decide (1 ≤ rows ∧ rows ≤ 400)) 2] ≤ 1000000)), List.all [AV.int .i64 (unlessE (A.le (A.int (A.len xs)) 400) 8), AV.int .i64 (unlessE (Decidable.decide (1 ≤ rows ∧ rows ≤ 400)) 2)] fun x => AV.bx x && Nat.beq (flatLen A x) 1, A.and true true, A.and true true, true, A.and true true, true, true, true, true],
   AV.int .i64 (unlessE (A.eq (A.rem (A.int (A.len xs)) rows) 0) 10), none) := by kernel_rfl
end Go.Proofs.Ytimmgjppippdiaa
