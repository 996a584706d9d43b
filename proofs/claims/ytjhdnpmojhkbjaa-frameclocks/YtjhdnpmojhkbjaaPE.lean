/- Paths of functions, printed by the explorer (Gx). No condition. -/
import Derived.Test.YtjhdnpmojhkbjaaC4
import Derived.KernelRfl
namespace Go.Proofs.Ytjhdnpmojhkbjaa
set_option maxRecDepth 100000
set_option linter.unusedVariables false
def f26e (ps : List AV) : List AFrame := [{ fn := 26, N := 14, env := [(0, AV.list (Row.big (Sh.agg [Sh.int .i64, Sh.int .i64, Sh.int .i64]) ps))], todo := [.code a26.code], defs := [], rnd := none, ret := false, res := [ARes.tmp 2] }]
theorem f26e_at (ps : List AV) : enterA tab 26 [AV.list (Row.big (Sh.agg [Sh.int .i64, Sh.int .i64, Sh.int .i64]) ps)] = some { fn := 26, N := 14, env := [(0, AV.list (Row.big (Sh.agg [Sh.int .i64, Sh.int .i64, Sh.int .i64]) ps))], todo := [.code a26.code], defs := [], rnd := none, ret := false, res := [ARes.tmp 2] } := rfl
theorem f26p0 (A : Ar) (ps : List AV) : gfin A tab BC4 17 [true] 26 (f26e ps) [] =
  some ([A.and true (A.and true true), true, A.lt (A.int (A.lenA ps)) 2, true, true, true, true],
   AV.bool true, none) := by kernel_rfl
theorem f26p1 (A : Ar) (ps : List AV) : gfin A tab BC4 31 [false] 26 (f26e ps) [] =
  some ([A.and true (A.and true true), true, true, true, A.and (A.ltN 0 1) (A.eqN 4 4), A.and true (A.ltN 0 (A.len [0, 0, 0, 0])), true, true, true, A.and true (Decidable.decide (goodB ps = true)), true, !A.lt (A.int (A.lenA ps)) 2, true, true, true, true],
   AV.bool (lineS ps), none) := by kernel_rfl
end Go.Proofs.Ytjhdnpmojhkbjaa
