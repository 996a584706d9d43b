/- Paths of functions, printed by the explorer (Gx). No condition. -/
import Derived.Test.YtimmgjppippdiaaSb
import Derived.KernelRfl
namespace Go.Proofs.Ytimmgjppippdiaa
set_option maxRecDepth 100000
set_option linter.unusedVariables false
def f129ve (ad : Go.Addr) (cap : Nat) : List AFrame := [{ fn := 129, N := 8, env := [(0, AV.val (Go.Value.slice (some ad) 0 cap))], todo := [.code a129.code], defs := [], rnd := none, ret := false, res := [ARes.tmp 2] }]
theorem f129ve_at (ad : Go.Addr) (cap : Nat) : enterA tab 129 [AV.val (Go.Value.slice (some ad) 0 cap)] = some { fn := 129, N := 8, env := [(0, AV.val (Go.Value.slice (some ad) 0 cap))], todo := [.code a129.code], defs := [], rnd := none, ret := false, res := [ARes.tmp 2] } := rfl
theorem f129vp0 (A : Ar) (ad : Go.Addr) (cap : Nat) : gfin A tab E0 20 [false] 129 (f129ve ad cap) [] =
  some ([true, true, A.and (A.and true true) (A.and (A.eqN 3 3) (A.and (A.eqN 1 1) (A.leN (A.addN 0 0) 4294967296))), true, List.all [] fun x => AV.bx x && Nat.beq (flatLen A x) 1, true, true, true, true],
   AV.row 0 0, some { e := 3, sz := 1, r := Row.gen [] }) := by kernel_rfl
def f129we (cap : Nat) : List AFrame := [{ fn := 129, N := 8, env := [(0, AV.val (Go.Value.slice none 0 cap))], todo := [.code a129.code], defs := [], rnd := none, ret := false, res := [ARes.tmp 2] }]
theorem f129we_at (cap : Nat) : enterA tab 129 [AV.val (Go.Value.slice none 0 cap)] = some { fn := 129, N := 8, env := [(0, AV.val (Go.Value.slice none 0 cap))], todo := [.code a129.code], defs := [], rnd := none, ret := false, res := [ARes.tmp 2] } := rfl
theorem f129wp0 (A : Ar) (cap : Nat) : gfin A tab E0 16 [true] 129 (f129we cap) [] =
  some ([true, true, true, true, true, true],
   AV.nils, none) := by kernel_rfl
end Go.Proofs.Ytimmgjppippdiaa
