/- Paths of functions, printed by the explorer (Gx). No condition. -/
import Derived.Test.YtjhdnpmojhkbjaaR0
import Derived.KernelRfl
namespace Go.Proofs.Ytjhdnpmojhkbjaa
set_option maxRecDepth 100000
set_option linter.unusedVariables false
def f27e (n : Int) (a : Int) (b : Int) : List AFrame := [{ fn := 27, N := 15, env := [(0, AV.int .i64 n), (1, AV.int .i64 a), (2, AV.int .i64 b)], todo := [.code a27.code], defs := [], rnd := none, ret := false, res := [ARes.tmp 6] }]
theorem f27e_at (n : Int) (a : Int) (b : Int) : enterA tab 27 [AV.int .i64 n, AV.int .i64 a, AV.int .i64 b] = some { fn := 27, N := 15, env := [(0, AV.int .i64 n), (1, AV.int .i64 a), (2, AV.int .i64 b)], todo := [.code a27.code], defs := [], rnd := none, ret := false, res := [ARes.tmp 6] } := rfl
theorem f27p0 (A : Ar) (n : Int) (a : Int) (b : Int) : gfin A tab E0 18 [true, true, true, true] 27 (f27e n a b) [] =
  some ([A.and true (A.and true true), true, true, true, true, true, true, true, true, A.le a n, true, true, true, true, true],
   AV.bool (A.le n b), none) := by kernel_rfl
theorem f27p1 (A : Ar) (n : Int) (a : Int) (b : Int) : gfin A tab E0 18 [false, false, false, false] 27 (f27e n a b) [] =
  some ([A.and true (A.and true true), true, true, true, true, true, true, true, true, !A.le a n, true, true, true, true, true],
   AV.bool false, none) := by kernel_rfl
def f87e (n : Int) (a : Int) (b : Int) : List AFrame := [{ fn := 87, N := 15, env := [(0, AV.int .i64 n), (1, AV.int .i64 a), (2, AV.int .i64 b)], todo := [.code a87.code], defs := [], rnd := none, ret := false, res := [ARes.tmp 6] }]
theorem f87e_at (n : Int) (a : Int) (b : Int) : enterA tab 87 [AV.int .i64 n, AV.int .i64 a, AV.int .i64 b] = some { fn := 87, N := 15, env := [(0, AV.int .i64 n), (1, AV.int .i64 a), (2, AV.int .i64 b)], todo := [.code a87.code], defs := [], rnd := none, ret := false, res := [ARes.tmp 6] } := rfl
theorem f87p0 (A : Ar) (n : Int) (a : Int) (b : Int) : gfin A tab E0 18 [true, true, true, true] 87 (f87e n a b) [] =
  some ([A.and true (A.and true true), true, true, true, true, true, true, true, true, A.le a n, true, true, true, true, true],
   AV.bool (A.le n b), none) := by kernel_rfl
theorem f87p1 (A : Ar) (n : Int) (a : Int) (b : Int) : gfin A tab E0 18 [false, false, false, false] 87 (f87e n a b) [] =
  some ([A.and true (A.and true true), true, true, true, true, true, true, true, true, !A.le a n, true, true, true, true, true],
   AV.bool false, none) := by kernel_rfl
def f86e (b : Bool) (e : Int) : List AFrame := [{ fn := 86, N := 7, env := [(0, AV.bool b), (1, AV.int .i64 e)], todo := [.code a86.code], defs := [], rnd := none, ret := false, res := [ARes.tmp 4] }]
theorem f86e_at (b : Bool) (e : Int) : enterA tab 86 [AV.bool b, AV.int .i64 e] = some { fn := 86, N := 7, env := [(0, AV.bool b), (1, AV.int .i64 e)], todo := [.code a86.code], defs := [], rnd := none, ret := false, res := [ARes.tmp 4] } := rfl
theorem f86p0 (A : Ar) (b : Bool) (e : Int) : gfin A tab E0 15 [true] 86 (f86e b e) [] =
  some ([A.and true (A.and true true), true, b, true, true],
   AV.int .i64 0, none) := by kernel_rfl
theorem f86p1 (A : Ar) (b : Bool) (e : Int) : gfin A tab E0 17 [false] 86 (f86e b e) [] =
  some ([A.and true (A.and true true), true, true, !b, true, true],
   AV.int .i64 e, none) := by kernel_rfl
def f84e (xs : List Int) : List AFrame := [{ fn := 84, N := 15, env := [(0, AV.list (.ints .i64 xs))], todo := [.code a84.code], defs := [], rnd := none, ret := false, res := [ARes.tmp 2] }]
theorem f84e_at (xs : List Int) : enterA tab 84 [AV.list (.ints .i64 xs)] = some { fn := 84, N := 15, env := [(0, AV.list (.ints .i64 xs))], todo := [.code a84.code], defs := [], rnd := none, ret := false, res := [ARes.tmp 2] } := rfl
def f84h84_0a (xs : List Int) (n0 : Int) (n1 : Int) : List AFrame := [{ fn := 84, N := 15, env := [(5, AV.list (.ints .i64 xs)), (6, AV.int .i64 n0), (7, AV.int .i64 n1)], todo := .code (ACode.gh [] l84_0) :: k84_0, defs := [], rnd := none, ret := false, res := [ARes.tmp 2] }]
def f84h84_0am (xs : List Int) (n0 : Int) (n1 : Int) : AHeap := []
theorem f84p0 (A : Ar) (xs : List Int) : gwalkL A tab E0 14 [] (f84e xs) [] =
  some ([true, true, true, true],
   f84h84_0a (xs) (A.int (A.len xs)) (0), f84h84_0am (xs) (A.int (A.len xs)) (0)) := by kernel_rfl
theorem f84p1 (A : Ar) (xs : List Int) (n0 : Int) (n1 : Int) : gfin A tab E0 28 [true, true] 84 (f84h84_0a xs n0 n1) (f84h84_0am xs n0 n1) =
  some ([A.and true (A.and true true), true, true, A.not (A.eq (A.nth xs (A.nat n1)) 0), true, true, true, A.eqN 0 0, A.and (A.and (A.le 0 n1) (A.ltN (A.nat n1) (A.len xs))) (A.eqN 1 1), A.lt n1 n0, true],
   AV.int .i64 (A.nth xs (A.nat n1)), none) := by kernel_rfl
theorem f84p2 (A : Ar) (xs : List Int) (n0 : Int) (n1 : Int) : gwalkL A tab E0 30 [true, false] (f84h84_0a xs n0 n1) (f84h84_0am xs n0 n1) =
  some ([true, A.inR .i64 (A.add n1 1), !A.not (A.eq (A.nth xs (A.nat n1)) 0), true, true, true, A.eqN 0 0, A.and (A.and (A.le 0 n1) (A.ltN (A.nat n1) (A.len xs))) (A.eqN 1 1), A.lt n1 n0, true],
   f84h84_0a (xs) (n0) (A.add n1 1), f84h84_0am (xs) (n0) (A.add n1 1)) := by kernel_rfl
theorem f84p3 (A : Ar) (xs : List Int) (n0 : Int) (n1 : Int) : gfin A tab E0 13 [false] 84 (f84h84_0a xs n0 n1) (f84h84_0am xs n0 n1) =
  some ([A.and true (A.and true true), true, !A.lt n1 n0, true],
   AV.int .i64 0, none) := by kernel_rfl
def f55e (xs : List Int) : List AFrame := [{ fn := 55, N := 6, env := [(0, AV.list (.ints .i64 xs))], todo := [.code a55.code], defs := [], rnd := none, ret := false, res := [ARes.tmp 2] }]
theorem f55e_at (xs : List Int) : enterA tab 55 [AV.list (.ints .i64 xs)] = some { fn := 55, N := 6, env := [(0, AV.list (.ints .i64 xs))], todo := [.code a55.code], defs := [], rnd := none, ret := false, res := [ARes.tmp 2] } := rfl
theorem f55p0 (A : Ar) (xs : List Int) : gfin A tab E0 12 [] 55 (f55e xs) [] =
  some ([A.and true (A.and true true), true, A.and (A.and true (A.eqN 1 1)) (A.and (A.eqN 3 3) (A.and (A.eqN 1 1) (A.leN (A.addN 0 (A.len xs)) 4294967296))), true, List.all [] fun x => AV.bx x && Nat.beq (flatLen A x) 1, true],
   AV.row 0 0, some { e := 3, sz := 1, r := .ints .i64 xs }) := by kernel_rfl
def f67e (xs : List Int) (ys : List Int) : List AFrame := [{ fn := 67, N := 26, env := [(0, AV.list (.ints .i64 xs)), (1, AV.list (.ints .i64 ys))], todo := [.code a67.code], defs := [], rnd := none, ret := false, res := [ARes.tmp 4] }]
theorem f67e_at (xs : List Int) (ys : List Int) : enterA tab 67 [AV.list (.ints .i64 xs), AV.list (.ints .i64 ys)] = some { fn := 67, N := 26, env := [(0, AV.list (.ints .i64 xs)), (1, AV.list (.ints .i64 ys))], todo := [.code a67.code], defs := [], rnd := none, ret := false, res := [ARes.tmp 4] } := rfl
def f67h67_0a (xs : List Int) (ys : List Int) (n0 : Int) : List AFrame := [{ fn := 67, N := 26, env := [(0, AV.list (.ints .i64 xs)), (1, AV.list (.ints .i64 ys)), (5, AV.int .i64 n0)], todo := .code (ACode.gh [] l67_0) :: k67_0, defs := [], rnd := none, ret := false, res := [ARes.tmp 4] }]
def f67h67_0am (xs : List Int) (ys : List Int) (n0 : Int) : AHeap := []
theorem f67p0 (A : Ar) (xs : List Int) (ys : List Int) : gfin A tab E0 19 [true] 67 (f67e xs ys) [] =
  some ([A.and true (A.and true true), true, A.not (A.eq (A.int (A.len xs)) (A.int (A.len ys))), true, true, true, true, true, true],
   AV.bool false, none) := by kernel_rfl
theorem f67p1 (A : Ar) (xs : List Int) (ys : List Int) : gwalkL A tab E0 23 [false] (f67e xs ys) [] =
  some ([true, !A.not (A.eq (A.int (A.len xs)) (A.int (A.len ys))), true, true, true, true, true, true],
   f67h67_0a (xs) (ys) (0), f67h67_0am (xs) (ys) (0)) := by kernel_rfl
theorem f67p2 (A : Ar) (xs : List Int) (ys : List Int) (n0 : Int) : gfin A tab E0 22 [true, true] 67 (f67h67_0a xs ys n0) (f67h67_0am xs ys n0) =
  some ([A.and true (A.and true true), true, A.not (A.eq (A.nth xs (A.nat n0)) (A.nth ys (A.nat n0))), true, A.eqN 0 0, A.and (A.and (A.le 0 n0) (A.ltN (A.nat n0) (A.len ys))) (A.eqN 1 1), true, true, A.eqN 0 0, A.and (A.and (A.le 0 n0) (A.ltN (A.nat n0) (A.len xs))) (A.eqN 1 1), true, true, A.lt n0 (A.int (A.len xs)), true, true, true, true],
   AV.bool false, none) := by kernel_rfl
theorem f67p3 (A : Ar) (xs : List Int) (ys : List Int) (n0 : Int) : gwalkL A tab E0 26 [true, false] (f67h67_0a xs ys n0) (f67h67_0am xs ys n0) =
  some ([true, A.inR .i64 (A.add n0 1), true, !A.not (A.eq (A.nth xs (A.nat n0)) (A.nth ys (A.nat n0))), true, A.eqN 0 0, A.and (A.and (A.le 0 n0) (A.ltN (A.nat n0) (A.len ys))) (A.eqN 1 1), true, true, A.eqN 0 0, A.and (A.and (A.le 0 n0) (A.ltN (A.nat n0) (A.len xs))) (A.eqN 1 1), true, true, A.lt n0 (A.int (A.len xs)), true, true, true, true],
   f67h67_0a (xs) (ys) (A.add n0 1), f67h67_0am (xs) (ys) (A.add n0 1)) := by kernel_rfl
theorem f67p4 (A : Ar) (xs : List Int) (ys : List Int) (n0 : Int) : gfin A tab E0 16 [false] 67 (f67h67_0a xs ys n0) (f67h67_0am xs ys n0) =
  some ([A.and true (A.and true true), true, !A.lt n0 (A.int (A.len xs)), true, true, true, true],
   AV.bool true, none) := by kernel_rfl
def f102e (xs : List Int) : List AFrame := [{ fn := 102, N := 8, env := [(0, AV.list (.ints .i64 xs))], todo := [.code a102.code], defs := [], rnd := none, ret := false, res := [ARes.tmp 2] }]
theorem f102e_at (xs : List Int) : enterA tab 102 [AV.list (.ints .i64 xs)] = some { fn := 102, N := 8, env := [(0, AV.list (.ints .i64 xs))], todo := [.code a102.code], defs := [], rnd := none, ret := false, res := [ARes.tmp 2] } := rfl
theorem f102p0 (A : Ar) (xs : List Int) : gfin A tab E0 20 [false] 102 (f102e xs) [] =
  some ([A.and true (A.and true true), true, A.and (A.and true (A.eqN 1 1)) (A.and (A.eqN 3 3) (A.and (A.eqN 1 1) (A.leN (A.addN 0 (A.len xs)) 4294967296))), true, List.all [] fun x => AV.bx x && Nat.beq (flatLen A x) 1, true, A.ltN 0 (A.len xs), true, true],
   AV.row 0 0, some { e := 3, sz := 1, r := .ints .i64 xs }) := by kernel_rfl
def f102ve (ad : Go.Addr) (cap : Nat) : List AFrame := [{ fn := 102, N := 8, env := [(0, AV.val (Go.Value.slice (some ad) 0 cap))], todo := [.code a102.code], defs := [], rnd := none, ret := false, res := [ARes.tmp 2] }]
theorem f102ve_at (ad : Go.Addr) (cap : Nat) : enterA tab 102 [AV.val (Go.Value.slice (some ad) 0 cap)] = some { fn := 102, N := 8, env := [(0, AV.val (Go.Value.slice (some ad) 0 cap))], todo := [.code a102.code], defs := [], rnd := none, ret := false, res := [ARes.tmp 2] } := rfl
theorem f102vp0 (A : Ar) (ad : Go.Addr) (cap : Nat) : gfin A tab E0 20 [false] 102 (f102ve ad cap) [] =
  some ([A.and true (A.and true true), true, A.and (A.and true true) (A.and (A.eqN 3 3) (A.and (A.eqN 1 1) (A.leN (A.addN 0 0) 4294967296))), true, List.all [] fun x => AV.bx x && Nat.beq (flatLen A x) 1, true, true, true, true],
   AV.row 0 0, some { e := 3, sz := 1, r := Row.gen [] }) := by kernel_rfl
def f102we (cap : Nat) : List AFrame := [{ fn := 102, N := 8, env := [(0, AV.val (Go.Value.slice none 0 cap))], todo := [.code a102.code], defs := [], rnd := none, ret := false, res := [ARes.tmp 2] }]
theorem f102we_at (cap : Nat) : enterA tab 102 [AV.val (Go.Value.slice none 0 cap)] = some { fn := 102, N := 8, env := [(0, AV.val (Go.Value.slice none 0 cap))], todo := [.code a102.code], defs := [], rnd := none, ret := false, res := [ARes.tmp 2] } := rfl
theorem f102wp0 (A : Ar) (cap : Nat) : gfin A tab E0 16 [true] 102 (f102we cap) [] =
  some ([A.and true (A.and true true), true, true, true, true, true],
   AV.nils, none) := by kernel_rfl
def f69e (xs : List Int) : List AFrame := [{ fn := 69, N := 16, env := [(0, AV.list (.ints .i64 xs))], todo := [.code a69.code], defs := [], rnd := none, ret := false, res := [ARes.tmp 2] }]
theorem f69e_at (xs : List Int) : enterA tab 69 [AV.list (.ints .i64 xs)] = some { fn := 69, N := 16, env := [(0, AV.list (.ints .i64 xs))], todo := [.code a69.code], defs := [], rnd := none, ret := false, res := [ARes.tmp 2] } := rfl
def f69h69_0a (xs : List Int) (n0 : Int) : List AFrame := [{ fn := 69, N := 16, env := [(0, AV.list (.ints .i64 xs)), (3, AV.int .i64 n0)], todo := .code (ACode.gh [] l69_0) :: k69_0, defs := [], rnd := none, ret := false, res := [ARes.tmp 2] }]
def f69h69_0am (xs : List Int) (n0 : Int) : AHeap := []
theorem f69p0 (A : Ar) (xs : List Int) : gwalkL A tab E0 12 [] (f69e xs) [] =
  some ([true, true],
   f69h69_0a (xs) (0), f69h69_0am (xs) (0)) := by kernel_rfl
theorem f69p1 (A : Ar) (xs : List Int) (n0 : Int) : gfin A tab E0 47 [true, true, true, true, true, true] 69 (f69h69_0a xs n0) (f69h69_0am xs n0) =
  some ([A.and true (A.and true true), true, A.not (A.le (A.nth xs (A.nat n0)) 255), true, true, true, true, true, true, true, true, true, true, A.le 0 (A.nth xs (A.nat n0)), true, true, true, true, true, A.eqN 0 0, A.and (A.and (A.le 0 n0) (A.ltN (A.nat n0) (A.len xs))) (A.eqN 1 1), true, true, A.lt n0 (A.int (A.len xs)), true, true, true, true],
   AV.int .i64 2, none) := by kernel_rfl
theorem f69p2 (A : Ar) (xs : List Int) (n0 : Int) : gwalkL A tab E0 51 [true, true, true, true, true, false] (f69h69_0a xs n0) (f69h69_0am xs n0) =
  some ([true, A.inR .i64 (A.add n0 1), true, !A.not (A.le (A.nth xs (A.nat n0)) 255), true, true, true, true, true, true, true, true, true, true, A.le 0 (A.nth xs (A.nat n0)), true, true, true, true, true, A.eqN 0 0, A.and (A.and (A.le 0 n0) (A.ltN (A.nat n0) (A.len xs))) (A.eqN 1 1), true, true, A.lt n0 (A.int (A.len xs)), true, true, true, true],
   f69h69_0a (xs) (A.add n0 1), f69h69_0am (xs) (A.add n0 1)) := by kernel_rfl
theorem f69p3 (A : Ar) (xs : List Int) (n0 : Int) : gfin A tab E0 47 [true, false, false, false, false, true] 69 (f69h69_0a xs n0) (f69h69_0am xs n0) =
  some ([A.and true (A.and true true), true, A.not false, true, true, true, true, true, true, true, true, true, true, !A.le 0 (A.nth xs (A.nat n0)), true, true, true, true, true, A.eqN 0 0, A.and (A.and (A.le 0 n0) (A.ltN (A.nat n0) (A.len xs))) (A.eqN 1 1), true, true, A.lt n0 (A.int (A.len xs)), true, true, true, true],
   AV.int .i64 2, none) := by kernel_rfl
theorem f69p4 (A : Ar) (xs : List Int) (n0 : Int) : gfin A tab E0 16 [false] 69 (f69h69_0a xs n0) (f69h69_0am xs n0) =
  some ([A.and true (A.and true true), true, !A.lt n0 (A.int (A.len xs)), true, true, true, true],
   AV.int .i64 0, none) := by kernel_rfl
def f109e (xs : List Int) : List AFrame := [{ fn := 109, N := 28, env := [(0, AV.list (.ints .i64 xs))], todo := [.code a109.code], defs := [], rnd := none, ret := false, res := [ARes.cell 2 true 2] }]
theorem f109e_at (xs : List Int) : enterA tab 109 [AV.list (.ints .i64 xs)] = some { fn := 109, N := 28, env := [(0, AV.list (.ints .i64 xs))], todo := [.code a109.code], defs := [], rnd := none, ret := false, res := [ARes.cell 2 true 2] } := rfl
def f109h109_0a (xs : List Int) (n0 : Int) (l1 : List Int) (n2 : Int) : List AFrame := [{ fn := 109, N := 28, env := [(2, AV.ptr 109003 0 0 0), (3, AV.ptr 109004 0 0 0), (7, AV.list (.ints .i64 xs)), (8, AV.int .i64 n0), (9, AV.int .i64 n2)], todo := .code (ACode.gh [] l109_0) :: k109_0, defs := [], rnd := none, ret := false, res := [ARes.cell 2 true 2] }]
def f109h109_0am (xs : List Int) (n0 : Int) (l1 : List Int) (n2 : Int) : AHeap := [(109003, { base := 0, blks := [Blk.row 118 2 (Row.gen [AV.agg (.ints .i64 [0, 0])])] }), (109004, { base := 0, blks := [Blk.row 118 2 (Row.gen [AV.agg (.ints .i64 l1)])] })]
theorem f109p0 (A : Ar) (xs : List Int) : gwalkL A tab E0 20 [] (f109e xs) [] =
  some ([true, true, true, A.and (A.ltN 0 1) (A.eqN (A.len (A.set (A.set [0, 0] 0 1) 1 0)) 2), A.and true (A.ltN 0 (A.len [0, 0])), A.and (A.and true (A.eqN 1 1)) (A.and (A.leN (A.addN 0 1) (A.len [0, 0])) (A.and (A.ltN 0 1) (A.and (A.and true (A.eqN 1 1)) (A.and (A.leN (A.addN 1 1) (A.len (A.set [0, 0] 0 1))) (A.and (A.ltN 0 1) true))))), A.and true (A.ltN 0 (A.len [0, 0]))],
   f109h109_0a (xs) (A.int (A.len xs)) (A.set (A.set [0, 0] 0 1) 1 0) (0), f109h109_0am (xs) (A.int (A.len xs)) (A.set (A.set [0, 0] 0 1) 1 0) (0)) := by kernel_rfl
theorem f109p1 (A : Ar) (xs : List Int) (n0 : Int) (l1 : List Int) (n2 : Int) : gwalkL A tab E0 44 [true] (f109h109_0a xs n0 l1 n2) (f109h109_0am xs n0 l1 n2) =
  some ([true, A.inR .i64 (A.add n2 1), A.and (A.ltN 0 1) (A.and (A.and true (A.eqN 1 1)) (A.ltN 1 2)), true, A.not (A.eq 251 0), A.inR .i64 (A.add (A.nth (A.set l1 0 (A.rem (A.add (A.nth l1 0) (A.nth xs (A.nat n2))) 251)) 1) (A.nth (A.set l1 0 (A.rem (A.add (A.nth l1 0) (A.nth xs (A.nat n2))) 251)) 0)), A.and (A.ltN 0 1) (A.ltN 0 (A.len (A.set l1 0 (A.rem (A.add (A.nth l1 0) (A.nth xs (A.nat n2))) 251)))), true, A.and (A.ltN 0 1) (A.ltN 1 (A.len (A.set l1 0 (A.rem (A.add (A.nth l1 0) (A.nth xs (A.nat n2))) 251)))), true, A.and (A.ltN 0 1) (A.and (A.and true (A.eqN 1 1)) (A.ltN 0 2)), true, A.not (A.eq 251 0), A.inR .i64 (A.add (A.nth l1 0) (A.nth xs (A.nat n2))), true, A.and (A.ltN 0 1) (A.ltN 0 (A.len l1)), true, true, A.eqN 0 0, A.and (A.and (A.le 0 n2) (A.ltN (A.nat n2) (A.len xs))) (A.eqN 1 1), A.lt n2 n0, true],
   f109h109_0a (xs) (n0) (A.set (A.set l1 0 (A.rem (A.add (A.nth l1 0) (A.nth xs (A.nat n2))) 251)) 1 (A.rem (A.add (A.nth (A.set l1 0 (A.rem (A.add (A.nth l1 0) (A.nth xs (A.nat n2))) 251)) 1) (A.nth (A.set l1 0 (A.rem (A.add (A.nth l1 0) (A.nth xs (A.nat n2))) 251)) 0)) 251)) (A.add n2 1), f109h109_0am (xs) (n0) (A.set (A.set l1 0 (A.rem (A.add (A.nth l1 0) (A.nth xs (A.nat n2))) 251)) 1 (A.rem (A.add (A.nth (A.set l1 0 (A.rem (A.add (A.nth l1 0) (A.nth xs (A.nat n2))) 251)) 1) (A.nth (A.set l1 0 (A.rem (A.add (A.nth l1 0) (A.nth xs (A.nat n2))) 251)) 0)) 251)) (A.add n2 1)) := by kernel_rfl
theorem f109p2 (A : Ar) (xs : List Int) (n0 : Int) (l1 : List Int) (n2 : Int) : gfin A tab E0 14 [false] 109 (f109h109_0a xs n0 l1 n2) (f109h109_0am xs n0 l1 n2) =
  some ([A.and (A.and (A.and (A.ltN 0 1) (A.leN (A.addN 0 2) (A.len (A.sub3 l1 0 2)))) true) (A.and true true), A.and (A.ltN 0 1) (A.eqN (A.len (A.sub3 l1 0 2)) 2), A.and (A.ltN 0 1) (A.leN (A.addN 0 2) (A.len l1)), !A.lt n2 n0, true],
   AV.agg (.ints .i64 (A.sub3 (A.sub3 l1 0 2) 0 2)), none) := by kernel_rfl
def f111e (xs : List Int) : List AFrame := [{ fn := 111, N := 29, env := [(0, AV.list (.ints .i64 xs))], todo := [.code a111.code], defs := [], rnd := none, ret := false, res := [ARes.cell 2 true 2] }]
theorem f111e_at (xs : List Int) : enterA tab 111 [AV.list (.ints .i64 xs)] = some { fn := 111, N := 29, env := [(0, AV.list (.ints .i64 xs))], todo := [.code a111.code], defs := [], rnd := none, ret := false, res := [ARes.cell 2 true 2] } := rfl
def f111h111_0a (xs : List Int) (l0 : List Int) (n1 : Int) : List AFrame := [{ fn := 111, N := 29, env := [(0, AV.list (.ints .i64 xs)), (2, AV.ptr 111003 0 0 0), (3, AV.ptr 111004 0 0 0), (4, AV.int .i64 n1)], todo := .code (ACode.gh [] l111_0) :: k111_0, defs := [], rnd := none, ret := false, res := [ARes.cell 2 true 2] }]
def f111h111_0am (xs : List Int) (l0 : List Int) (n1 : Int) : AHeap := [(111003, { base := 0, blks := [Blk.row 118 2 (Row.gen [AV.agg (.ints .i64 [0, 0])])] }), (111004, { base := 0, blks := [Blk.row 118 2 (Row.gen [AV.agg (.ints .i64 l0)])] })]
theorem f111p0 (A : Ar) (xs : List Int) : gwalkL A tab E0 18 [] (f111e xs) [] =
  some ([true, A.and (A.ltN 0 1) (A.eqN (A.len (A.set (A.set [0, 0] 0 1) 1 0)) 2), A.and true (A.ltN 0 (A.len [0, 0])), A.and (A.and true (A.eqN 1 1)) (A.and (A.leN (A.addN 0 1) (A.len [0, 0])) (A.and (A.ltN 0 1) (A.and (A.and true (A.eqN 1 1)) (A.and (A.leN (A.addN 1 1) (A.len (A.set [0, 0] 0 1))) (A.and (A.ltN 0 1) true))))), A.and true (A.ltN 0 (A.len [0, 0]))],
   f111h111_0a (xs) (A.set (A.set [0, 0] 0 1) 1 0) (0), f111h111_0am (xs) (A.set (A.set [0, 0] 0 1) 1 0) (0)) := by kernel_rfl
theorem f111p1 (A : Ar) (xs : List Int) (l0 : List Int) (n1 : Int) : gwalkL A tab E0 34 [true] (f111h111_0a xs l0 n1) (f111h111_0am xs l0 n1) =
  some ([true, A.inR .i64 (A.add n1 1), true, A.and (A.ltN 0 1) (A.and (A.and true (A.eqN 1 1)) (A.ltN 1 2)), true, A.not (A.eq 251 0), A.inR .i64 (A.add (A.nth (A.set l0 0 (A.rem (A.add (A.nth l0 0) (A.nth xs (A.nat n1))) 251)) 1) (A.nth (A.set l0 0 (A.rem (A.add (A.nth l0 0) (A.nth xs (A.nat n1))) 251)) 0)), A.and (A.ltN 0 1) (A.ltN 0 (A.len (A.set l0 0 (A.rem (A.add (A.nth l0 0) (A.nth xs (A.nat n1))) 251)))), true, A.and (A.ltN 0 1) (A.ltN 1 (A.len (A.set l0 0 (A.rem (A.add (A.nth l0 0) (A.nth xs (A.nat n1))) 251)))), true, A.and (A.ltN 0 1) (A.and (A.and true (A.eqN 1 1)) (A.ltN 0 2)), true, A.not (A.eq 251 0), A.inR .i64 (A.add (A.nth l0 0) (A.nth xs (A.nat n1))), A.eqN 0 0, A.and (A.and (A.le 0 n1) (A.ltN (A.nat n1) (A.len xs))) (A.eqN 1 1), true, true, A.and (A.ltN 0 1) (A.ltN 0 (A.len l0)), true, A.lt n1 (A.int (A.len xs)), true, true, true, true],
   f111h111_0a (xs) (A.set (A.set l0 0 (A.rem (A.add (A.nth l0 0) (A.nth xs (A.nat n1))) 251)) 1 (A.rem (A.add (A.nth (A.set l0 0 (A.rem (A.add (A.nth l0 0) (A.nth xs (A.nat n1))) 251)) 1) (A.nth (A.set l0 0 (A.rem (A.add (A.nth l0 0) (A.nth xs (A.nat n1))) 251)) 0)) 251)) (A.add n1 1), f111h111_0am (xs) (A.set (A.set l0 0 (A.rem (A.add (A.nth l0 0) (A.nth xs (A.nat n1))) 251)) 1 (A.rem (A.add (A.nth (A.set l0 0 (A.rem (A.add (A.nth l0 0) (A.nth xs (A.nat n1))) 251)) 1) (A.nth (A.set l0 0 (A.rem (A.add (A.nth l0 0) (A.nth xs (A.nat n1))) 251)) 0)) 251)) (A.add n1 1)) := by kernel_rfl
theorem f111p2 (A : Ar) (xs : List Int) (l0 : List Int) (n1 : Int) : gfin A tab E0 17 [false] 111 (f111h111_0a xs l0 n1) (f111h111_0am xs l0 n1) =
  some ([A.and (A.and (A.and (A.ltN 0 1) (A.leN (A.addN 0 2) (A.len (A.sub3 l0 0 2)))) true) (A.and true true), A.and (A.ltN 0 1) (A.eqN (A.len (A.sub3 l0 0 2)) 2), A.and (A.ltN 0 1) (A.leN (A.addN 0 2) (A.len l0)), !A.lt n1 (A.int (A.len xs)), true, true, true, true],
   AV.agg (.ints .i64 (A.sub3 (A.sub3 l0 0 2) 0 2)), none) := by kernel_rfl
def f127e (xs : List Int) : List AFrame := [{ fn := 127, N := 21, env := [(0, AV.list (.ints .i64 xs)), (1, AV.fn 128 [])], todo := [.code a127.code], defs := [], rnd := none, ret := false, res := [ARes.tmp 4] }]
theorem f127e_at (xs : List Int) : enterA tab 127 [AV.list (.ints .i64 xs), AV.fn 128 []] = some { fn := 127, N := 21, env := [(0, AV.list (.ints .i64 xs)), (1, AV.fn 128 [])], todo := [.code a127.code], defs := [], rnd := none, ret := false, res := [ARes.tmp 4] } := rfl
def f127h127_0a (xs : List Int) (n0 : Int) (n1 : Int) : List AFrame := [{ fn := 127, N := 21, env := [(1, AV.fn 128 []), (8, AV.list (.ints .i64 xs)), (9, AV.int .i64 n0), (10, AV.int .i64 n1)], todo := .code (ACode.gh [] l127_0) :: k127_0, defs := [], rnd := none, ret := false, res := [ARes.tmp 4] }]
def f127h127_0am (xs : List Int) (n0 : Int) (n1 : Int) : AHeap := []
theorem f127p0 (A : Ar) (xs : List Int) : gwalkL A tab E0 14 [] (f127e xs) [] =
  some ([true, true, true, true],
   f127h127_0a (xs) (A.int (A.len xs)) (0), f127h127_0am (xs) (A.int (A.len xs)) (0)) := by kernel_rfl
theorem f127p1 (A : Ar) (xs : List Int) (n0 : Int) (n1 : Int) : gwalkL A tab E0 97 [true, true, true, true, true, true, false] (f127h127_0a xs n0 n1) (f127h127_0am xs n0 n1) =
  some ([true, A.inR .i64 (A.add n1 1), !A.not (A.eq 0 0), true, true, true, true, true, true, true, A.le (A.nth xs (A.nat n1)) 255, true, true, true, true, true, true, true, true, true, true, true, true, true, A.le 0 (A.nth xs (A.nat n1)), true, true, true, true, true, true, true, true, true, true, true, true, A.eqN 0 0, A.and (A.and (A.le 0 n1) (A.ltN (A.nat n1) (A.len xs))) (A.eqN 1 1), A.lt n1 n0, true],
   f127h127_0a (xs) (n0) (A.add n1 1), f127h127_0am (xs) (n0) (A.add n1 1)) := by kernel_rfl
theorem f127p2 (A : Ar) (xs : List Int) (n0 : Int) (n1 : Int) : gfin A tab E0 97 [true, true, true, true, true, false, true] 127 (f127h127_0a xs n0 n1) (f127h127_0am xs n0 n1) =
  some ([A.and true (A.and true true), true, true, A.not (A.eq 2 0), true, true, true, true, true, true, true, true, !A.le (A.nth xs (A.nat n1)) 255, true, true, true, true, true, true, true, true, true, true, true, true, true, A.le 0 (A.nth xs (A.nat n1)), true, true, true, true, true, true, true, true, true, true, true, true, A.eqN 0 0, A.and (A.and (A.le 0 n1) (A.ltN (A.nat n1) (A.len xs))) (A.eqN 1 1), A.lt n1 n0, true],
   AV.int .i64 2, none) := by kernel_rfl
theorem f127p3 (A : Ar) (xs : List Int) (n0 : Int) (n1 : Int) : gfin A tab E0 97 [true, false, false, false, false, false, true] 127 (f127h127_0a xs n0 n1) (f127h127_0am xs n0 n1) =
  some ([A.and true (A.and true true), true, true, A.not (A.eq 2 0), true, true, true, true, true, true, true, true, true, true, true, true, true, true, true, true, true, true, true, true, true, true, !A.le 0 (A.nth xs (A.nat n1)), true, true, true, true, true, true, true, true, true, true, true, true, A.eqN 0 0, A.and (A.and (A.le 0 n1) (A.ltN (A.nat n1) (A.len xs))) (A.eqN 1 1), A.lt n1 n0, true],
   AV.int .i64 2, none) := by kernel_rfl
theorem f127p4 (A : Ar) (xs : List Int) (n0 : Int) (n1 : Int) : gfin A tab E0 13 [false] 127 (f127h127_0a xs n0 n1) (f127h127_0am xs n0 n1) =
  some ([A.and true (A.and true true), true, !A.lt n1 n0, true],
   AV.int .i64 0, none) := by kernel_rfl
def f53e (n : Int) (m : Int) : List AFrame := [{ fn := 53, N := 14, env := [(0, AV.int .i64 n), (1, AV.int .i64 m)], todo := [.code a53.code], defs := [], rnd := none, ret := false, res := [ARes.tmp 4] }]
theorem f53e_at (n : Int) (m : Int) : enterA tab 53 [AV.int .i64 n, AV.int .i64 m] = some { fn := 53, N := 14, env := [(0, AV.int .i64 n), (1, AV.int .i64 m)], todo := [.code a53.code], defs := [], rnd := none, ret := false, res := [ARes.tmp 4] } := rfl
theorem f53p0 (A : Ar) (n : Int) (m : Int) : gfin A tab E0 30 [true] 53 (f53e n m) [] =
  some ([A.and true (A.and true true), true, true, true, A.inR .i64 (A.add (A.rem n m) m), true, true, A.lt (A.rem n m) 0, true, true, true, A.not (A.eq m 0), true, true, true],
   AV.int .i64 (A.add (A.rem n m) m), none) := by kernel_rfl
theorem f53p1 (A : Ar) (n : Int) (m : Int) : gfin A tab E0 25 [false] 53 (f53e n m) [] =
  some ([A.and true (A.and true true), true, true, !A.lt (A.rem n m) 0, true, true, true, A.not (A.eq m 0), true, true, true],
   AV.int .i64 (A.rem n m), none) := by kernel_rfl
def f70e (n : Int) : List AFrame := [{ fn := 70, N := 7, env := [(0, AV.int .i64 n)], todo := [.code a70.code], defs := [], rnd := none, ret := false, res := [ARes.tmp 2] }]
theorem f70e_at (n : Int) : enterA tab 70 [AV.int .i64 n] = some { fn := 70, N := 7, env := [(0, AV.int .i64 n)], todo := [.code a70.code], defs := [], rnd := none, ret := false, res := [ARes.tmp 2] } := rfl
theorem f70p0 (A : Ar) (n : Int) : gfin A tab E0 13 [] 70 (f70e n) [] =
  some ([A.and true (A.and true true), true, true, A.inR .i64 (A.neg n), true, true, true],
   AV.int .i64 (A.max n (A.neg n)), none) := by kernel_rfl
end Go.Proofs.Ytjhdnpmojhkbjaa
