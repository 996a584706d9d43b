/- Paths of functions, printed by the explorer (Gx). No condition. -/
import Derived.Test.YtimmgjppippdiaaR0
import Derived.KernelRfl
namespace Go.Proofs.Ytimmgjppippdiaa
set_option maxRecDepth 100000
set_option linter.unusedVariables false
def f20e (xs : List Int) : List AFrame := [{ fn := 20, N := 6, env := [(0, AV.list (.ints .i64 xs))], todo := [.code a20.code], defs := [], rnd := none, ret := false, res := [ARes.tmp 2] }]
theorem f20e_at (xs : List Int) : enterA tab 20 [AV.list (.ints .i64 xs)] = some { fn := 20, N := 6, env := [(0, AV.list (.ints .i64 xs))], todo := [.code a20.code], defs := [], rnd := none, ret := false, res := [ARes.tmp 2] } := rfl
theorem f20p0 (A : Ar) (xs : List Int) : gfin A tab E0 12 [] 20 (f20e xs) [] =
  some ([true, true, A.and (A.and true (A.eqN 1 1)) (A.and (A.eqN 3 3) (A.and (A.eqN 1 1) (A.leN (A.addN 0 (A.len xs)) 4294967296))), true, List.all [] fun x => AV.bx x && Nat.beq (flatLen A x) 1, true],
   AV.row 0 0, some { e := 3, sz := 1, r := .ints .i64 xs }) := by kernel_rfl
def f23e (xs : List Int) (ys : List Int) : List AFrame := [{ fn := 23, N := 26, env := [(0, AV.list (.ints .i64 xs)), (1, AV.list (.ints .i64 ys))], todo := [.code a23.code], defs := [], rnd := none, ret := false, res := [ARes.tmp 4] }]
theorem f23e_at (xs : List Int) (ys : List Int) : enterA tab 23 [AV.list (.ints .i64 xs), AV.list (.ints .i64 ys)] = some { fn := 23, N := 26, env := [(0, AV.list (.ints .i64 xs)), (1, AV.list (.ints .i64 ys))], todo := [.code a23.code], defs := [], rnd := none, ret := false, res := [ARes.tmp 4] } := rfl
def f23h23_0a (xs : List Int) (ys : List Int) (n0 : Int) : List AFrame := [{ fn := 23, N := 26, env := [(0, AV.list (.ints .i64 xs)), (1, AV.list (.ints .i64 ys)), (5, AV.int .i64 n0)], todo := .code (ACode.gh [] l23_0) :: k23_0, defs := [], rnd := none, ret := false, res := [ARes.tmp 4] }]
def f23h23_0am (xs : List Int) (ys : List Int) (n0 : Int) : AHeap := []
theorem f23p0 (A : Ar) (xs : List Int) (ys : List Int) : gfin A tab E0 19 [true] 23 (f23e xs ys) [] =
  some ([true, true, A.not (A.eq (A.int (A.len xs)) (A.int (A.len ys))), true, true, true, true, true, true],
   AV.bool false, none) := by kernel_rfl
theorem f23p1 (A : Ar) (xs : List Int) (ys : List Int) : gwalkL A tab E0 23 [false] (f23e xs ys) [] =
  some ([true, !A.not (A.eq (A.int (A.len xs)) (A.int (A.len ys))), true, true, true, true, true, true],
   f23h23_0a (xs) (ys) (0), f23h23_0am (xs) (ys) (0)) := by kernel_rfl
theorem f23p2 (A : Ar) (xs : List Int) (ys : List Int) (n0 : Int) : gfin A tab E0 22 [true, true] 23 (f23h23_0a xs ys n0) (f23h23_0am xs ys n0) =
  some ([true, true, A.not (A.eq (A.nth xs (A.nat n0)) (A.nth ys (A.nat n0))), true, A.eqN 0 0, A.and (A.and (A.le 0 n0) (A.ltN (A.nat n0) (A.len ys))) (A.eqN 1 1), true, true, A.eqN 0 0, A.and (A.and (A.le 0 n0) (A.ltN (A.nat n0) (A.len xs))) (A.eqN 1 1), true, true, A.lt n0 (A.int (A.len xs)), true, true, true, true],
   AV.bool false, none) := by kernel_rfl
theorem f23p3 (A : Ar) (xs : List Int) (ys : List Int) (n0 : Int) : gwalkL A tab E0 26 [true, false] (f23h23_0a xs ys n0) (f23h23_0am xs ys n0) =
  some ([true, A.inR .i64 (A.add n0 1), true, !A.not (A.eq (A.nth xs (A.nat n0)) (A.nth ys (A.nat n0))), true, A.eqN 0 0, A.and (A.and (A.le 0 n0) (A.ltN (A.nat n0) (A.len ys))) (A.eqN 1 1), true, true, A.eqN 0 0, A.and (A.and (A.le 0 n0) (A.ltN (A.nat n0) (A.len xs))) (A.eqN 1 1), true, true, A.lt n0 (A.int (A.len xs)), true, true, true, true],
   f23h23_0a (xs) (ys) (A.add n0 1), f23h23_0am (xs) (ys) (A.add n0 1)) := by kernel_rfl
theorem f23p4 (A : Ar) (xs : List Int) (ys : List Int) (n0 : Int) : gfin A tab E0 16 [false] 23 (f23h23_0a xs ys n0) (f23h23_0am xs ys n0) =
  some ([true, true, !A.lt n0 (A.int (A.len xs)), true, true, true, true],
   AV.bool true, none) := by kernel_rfl
def f50e (n : Int) (m : Int) : List AFrame := [{ fn := 50, N := 18, env := [(0, AV.int .i64 n), (1, AV.int .i64 m)], todo := [.code a50.code], defs := [], rnd := none, ret := false, res := [ARes.tmp 4] }]
theorem f50e_at (n : Int) (m : Int) : enterA tab 50 [AV.int .i64 n, AV.int .i64 m] = some { fn := 50, N := 18, env := [(0, AV.int .i64 n), (1, AV.int .i64 m)], todo := [.code a50.code], defs := [], rnd := none, ret := false, res := [ARes.tmp 4] } := rfl
theorem f50p0 (A : Ar) (n : Int) (m : Int) : gfin A tab E0 23 [true, true, true, true, true, true] 50 (f50e n m) [] =
  some ([true, true, true, true, true, true, true, true, true, true, true, true, true, true, true, true, true, A.le n 24, true, true, true, true],
   AV.bool true, none) := by kernel_rfl
theorem f50p1 (A : Ar) (n : Int) (m : Int) : gfin A tab E0 23 [false, false, false, false, true, true, true, true, false, true, false] 50 (f50e n m) [] =
  some ([true, true, true, true, true, true, true, true, true, A.inR .i64 (A.add m 2), true, true, true, true, A.lt m n, true, true, true, true, true, true, true, !A.le n 24, true, true, true, true],
   AV.bool (A.le n (A.add m 2)), none) := by kernel_rfl
theorem f50p2 (A : Ar) (n : Int) (m : Int) : gfin A tab E0 23 [false, false, false, false, false, false, false, false, false, false, false] 50 (f50e n m) [] =
  some ([true, true, true, true, true, true, true, true, true, true, true, true, true, true, !A.lt m n, true, true, true, true, true, true, true, !A.le n 24, true, true, true, true],
   AV.bool false, none) := by kernel_rfl
def f53e (xs : List Int) (rows : Int) : List AFrame := [{ fn := 53, N := 16, env := [(0, AV.list (.ints .i64 xs)), (1, AV.int .i64 rows)], todo := [.code a53.code], defs := [], rnd := none, ret := false, res := [ARes.tmp 4] }]
theorem f53e_at (xs : List Int) (rows : Int) : enterA tab 53 [AV.list (.ints .i64 xs), AV.int .i64 rows] = some { fn := 53, N := 16, env := [(0, AV.list (.ints .i64 xs)), (1, AV.int .i64 rows)], todo := [.code a53.code], defs := [], rnd := none, ret := false, res := [ARes.tmp 4] } := rfl
theorem f53p0 (A : Ar) (xs : List Int) (rows : Int) : gfin A tab E0 17 [true] 53 (f53e xs rows) [] =
  some ([true, true, A.lt 400 (A.int (A.len xs)), true, true, true, true],
   AV.int .i64 8, none) := by kernel_rfl
theorem f53p1 (A : Ar) (xs : List Int) (rows : Int) : gfin A tab E0 45 [false, true, true, true, true, true] 53 (f53e xs rows) [] =
  some ([true, true, A.not (A.le rows 400), true, true, true, true, true, true, true, true, true, true, A.le 1 rows, true, true, true, true, true, true, !A.lt 400 (A.int (A.len xs)), true, true, true, true],
   AV.int .i64 2, none) := by kernel_rfl
theorem f53p2 (A : Ar) (xs : List Int) (rows : Int) : gfin A tab E0 56 [false, true, true, true, true, false, true] 53 (f53e xs rows) [] =
  some ([true, true, A.not (A.eq (A.rem (A.int (A.len xs)) rows) 0), true, A.not (A.eq rows 0), true, true, true, !A.not (A.le rows 400), true, true, true, true, true, true, true, true, true, true, A.le 1 rows, true, true, true, true, true, true, !A.lt 400 (A.int (A.len xs)), true, true, true, true],
   AV.int .i64 10, none) := by kernel_rfl
theorem f53p3 (A : Ar) (xs : List Int) (rows : Int) : gfin A tab E0 57 [false, true, true, true, true, false, false] 53 (f53e xs rows) [] =
  some ([true, true, !A.not (A.eq (A.rem (A.int (A.len xs)) rows) 0), true, A.not (A.eq rows 0), true, true, true, !A.not (A.le rows 400), true, true, true, true, true, true, true, true, true, true, A.le 1 rows, true, true, true, true, true, true, !A.lt 400 (A.int (A.len xs)), true, true, true, true],
   AV.int .i64 0, none) := by kernel_rfl
theorem f53p4 (A : Ar) (xs : List Int) (rows : Int) : gfin A tab E0 45 [false, false, false, false, false, true] 53 (f53e xs rows) [] =
  some ([true, true, A.not false, true, true, true, true, true, true, true, true, true, true, !A.le 1 rows, true, true, true, true, true, true, !A.lt 400 (A.int (A.len xs)), true, true, true, true],
   AV.int .i64 2, none) := by kernel_rfl
def f105e (xs : List Int) : List AFrame := [{ fn := 105, N := 15, env := [(0, AV.list (.ints .i64 xs))], todo := [.code a105.code], defs := [], rnd := none, ret := false, res := [ARes.tmp 2] }]
theorem f105e_at (xs : List Int) : enterA tab 105 [AV.list (.ints .i64 xs)] = some { fn := 105, N := 15, env := [(0, AV.list (.ints .i64 xs))], todo := [.code a105.code], defs := [], rnd := none, ret := false, res := [ARes.tmp 2] } := rfl
def f105h105_0a (xs : List Int) (n0 : Int) (n1 : Int) : List AFrame := [{ fn := 105, N := 15, env := [(5, AV.list (.ints .i64 xs)), (6, AV.int .i64 n0), (7, AV.int .i64 n1)], todo := .code (ACode.gh [] l105_0) :: k105_0, defs := [], rnd := none, ret := false, res := [ARes.tmp 2] }]
def f105h105_0am (xs : List Int) (n0 : Int) (n1 : Int) : AHeap := []
theorem f105p0 (A : Ar) (xs : List Int) : gwalkL A tab E0 14 [] (f105e xs) [] =
  some ([true, true, true, true],
   f105h105_0a (xs) (A.int (A.len xs)) (0), f105h105_0am (xs) (A.int (A.len xs)) (0)) := by kernel_rfl
theorem f105p1 (A : Ar) (xs : List Int) (n0 : Int) (n1 : Int) : gfin A tab E0 28 [true, true] 105 (f105h105_0a xs n0 n1) (f105h105_0am xs n0 n1) =
  some ([true, true, true, A.not (A.eq (A.nth xs (A.nat n1)) 0), true, true, true, A.eqN 0 0, A.and (A.and (A.le 0 n1) (A.ltN (A.nat n1) (A.len xs))) (A.eqN 1 1), A.lt n1 n0, true],
   AV.int .i64 (A.nth xs (A.nat n1)), none) := by kernel_rfl
theorem f105p2 (A : Ar) (xs : List Int) (n0 : Int) (n1 : Int) : gwalkL A tab E0 30 [true, false] (f105h105_0a xs n0 n1) (f105h105_0am xs n0 n1) =
  some ([true, A.inR .i64 (A.add n1 1), !A.not (A.eq (A.nth xs (A.nat n1)) 0), true, true, true, A.eqN 0 0, A.and (A.and (A.le 0 n1) (A.ltN (A.nat n1) (A.len xs))) (A.eqN 1 1), A.lt n1 n0, true],
   f105h105_0a (xs) (n0) (A.add n1 1), f105h105_0am (xs) (n0) (A.add n1 1)) := by kernel_rfl
theorem f105p3 (A : Ar) (xs : List Int) (n0 : Int) (n1 : Int) : gfin A tab E0 13 [false] 105 (f105h105_0a xs n0 n1) (f105h105_0am xs n0 n1) =
  some ([true, true, !A.lt n1 n0, true],
   AV.int .i64 0, none) := by kernel_rfl
def f54e (xs : List Int) (rows : Int) : List AFrame := [{ fn := 54, N := 35, env := [(0, AV.list (.ints .i64 xs)), (1, AV.int .i64 rows)], todo := [.code a54.code], defs := [], rnd := none, ret := false, res := [ARes.tmp 4] }]
theorem f54e_at (xs : List Int) (rows : Int) : enterA tab 54 [AV.list (.ints .i64 xs), AV.int .i64 rows] = some { fn := 54, N := 35, env := [(0, AV.list (.ints .i64 xs)), (1, AV.int .i64 rows)], todo := [.code a54.code], defs := [], rnd := none, ret := false, res := [ARes.tmp 4] } := rfl
def f54h54_0a (xs : List Int) (rows : Int) (n0 : Int) (n1 : Int) : List AFrame := [{ fn := 54, N := 35, env := [(0, AV.list (.ints .i64 xs)), (1, AV.int .i64 rows), (5, AV.int .i64 n0), (6, AV.nils), (7, AV.int .i64 n1)], todo := .code (ACode.gh [] l54_0) :: k54_0, defs := [], rnd := none, ret := false, res := [ARes.tmp 4] }]
def f54h54_0am (xs : List Int) (rows : Int) (n0 : Int) (n1 : Int) : AHeap := []
def f54h54_1a (xs : List Int) (rows : Int) (n0 : Int) (n1 : Int) : List AFrame := [{ fn := 54, N := 35, env := [(0, AV.list (.ints .i64 xs)), (1, AV.int .i64 rows), (5, AV.int .i64 n0), (6, AV.nils), (7, AV.int .i64 n1), (8, AV.int .i64 0)], todo := .code (ACode.gh [] l54_1) :: k54_1, defs := [], rnd := none, ret := false, res := [ARes.tmp 4] }]
def f54h54_1am (xs : List Int) (rows : Int) (n0 : Int) (n1 : Int) : AHeap := []
def f54h54_1b (xs : List Int) (rows : Int) (n0 : Int) (n2 : Int) (l3 : List Int) (n4 : Int) : List AFrame := [{ fn := 54, N := 35, env := [(0, AV.list (.ints .i64 xs)), (1, AV.int .i64 rows), (5, AV.int .i64 n0), (6, AV.row 54034 0), (7, AV.int .i64 n4), (8, AV.int .i64 n2)], todo := .code (ACode.gh [] l54_1) :: k54_1, defs := [], rnd := none, ret := false, res := [ARes.tmp 4] }]
def f54h54_1bm (xs : List Int) (rows : Int) (n0 : Int) (n2 : Int) (l3 : List Int) (n4 : Int) : AHeap := [(54034, { base := 0, blks := [Blk.row 3 1 (.ints .i64 l3)] })]
def f54h54_0b (xs : List Int) (rows : Int) (n0 : Int) (l3 : List Int) (n5 : Int) : List AFrame := [{ fn := 54, N := 35, env := [(0, AV.list (.ints .i64 xs)), (1, AV.int .i64 rows), (5, AV.int .i64 n0), (6, AV.row 54034 0), (7, AV.int .i64 n5)], todo := .code (ACode.gh [] l54_0) :: k54_0, defs := [], rnd := none, ret := false, res := [ARes.tmp 4] }]
def f54h54_0bm (xs : List Int) (rows : Int) (n0 : Int) (l3 : List Int) (n5 : Int) : AHeap := [(54034, { base := 0, blks := [Blk.row 3 1 (.ints .i64 l3)] })]
theorem f54p0 (A : Ar) (xs : List Int) (rows : Int) : gwalkL A tab E0 24 [] (f54e xs rows) [] =
  some ([true, true, true, A.and (A.not (A.eq rows 0)) (A.inR .i64 (A.quo (A.int (A.len xs)) rows)), true, true, true, true],
   f54h54_0a (xs) (rows) (A.quo (A.int (A.len xs)) rows) (0), f54h54_0am (xs) (rows) (A.quo (A.int (A.len xs)) rows) (0)) := by kernel_rfl
theorem f54p1 (A : Ar) (xs : List Int) (rows : Int) (n0 : Int) (n1 : Int) : gwalkL A tab E0 19 [true] (f54h54_0a xs rows n0 n1) (f54h54_0am xs rows n0 n1) =
  some ([true, A.lt n1 n0, true, true, true],
   f54h54_1a (xs) (rows) (n0) (n1), f54h54_1am (xs) (rows) (n0) (n1)) := by kernel_rfl
theorem f54p2 (A : Ar) (xs : List Int) (rows : Int) (n0 : Int) (n1 : Int) : gfin A tab E0 16 [false] 54 (f54h54_0a xs rows n0 n1) (f54h54_0am xs rows n0 n1) =
  some ([true, true, true, !A.lt n1 n0, true, true, true],
   AV.nils, none) := by kernel_rfl
theorem f54p3 (A : Ar) (xs : List Int) (rows : Int) (n0 : Int) (n1 : Int) : gwalkL A tab E0 34 [true] (f54h54_1a xs rows n0 n1) (f54h54_1am xs rows n0 n1) =
  some ([true, A.inR .i64 (A.add 0 1), true, true, A.and (A.and true (A.eqN 1 1)) (A.and (A.leN (A.len [A.nth xs (A.nat (A.add (A.mul 0 n0) n1))]) 4294967296) (A.ltN 0 (A.len [A.nth xs (A.nat (A.add (A.mul 0 n0) n1))]))), List.all [AV.int .i64 (A.nth xs (A.nat (A.add (A.mul 0 n0) n1)))] fun x => AV.bx x && Nat.beq (flatLen A x) 1, A.eqN 0 0, A.and (A.and (A.le 0 (A.add (A.mul 0 n0) n1)) (A.ltN (A.nat (A.add (A.mul 0 n0) n1)) (A.len xs))) (A.eqN 1 1), A.inR .i64 (A.add (A.mul 0 n0) n1), true, A.inR .i64 (A.mul 0 n0), true, true, true, true, A.lt 0 rows, true, true, true],
   f54h54_1b (xs) (rows) (n0) (A.add 0 1) ([A.nth xs (A.nat (A.add (A.mul 0 n0) n1))]) (n1), f54h54_1bm (xs) (rows) (n0) (A.add 0 1) ([A.nth xs (A.nat (A.add (A.mul 0 n0) n1))]) (n1)) := by kernel_rfl
theorem f54p4 (A : Ar) (xs : List Int) (rows : Int) (n0 : Int) (n1 : Int) : gwalkL A tab E0 18 [false] (f54h54_1a xs rows n0 n1) (f54h54_1am xs rows n0 n1) =
  some ([true, A.inR .i64 (A.add n1 1), true, !A.lt 0 rows, true, true, true],
   f54h54_0a (xs) (rows) (n0) (A.add n1 1), f54h54_0am (xs) (rows) (n0) (A.add n1 1)) := by kernel_rfl
theorem f54p5 (A : Ar) (xs : List Int) (rows : Int) (n0 : Int) (n2 : Int) (l3 : List Int) (n4 : Int) : gwalkL A tab E0 34 [true] (f54h54_1b xs rows n0 n2 l3 n4) (f54h54_1bm xs rows n0 n2 l3 n4) =
  some ([true, A.inR .i64 (A.add n2 1), true, true, A.and (A.and true (A.eqN 1 1)) (A.and (A.eqN 3 3) (A.and (A.eqN 1 1) (A.leN (A.addN (A.len l3) (A.len [A.nth xs (A.nat (A.add (A.mul n2 n0) n4))])) 4294967296))), List.all [AV.int .i64 (A.nth xs (A.nat (A.add (A.mul n2 n0) n4)))] fun x => AV.bx x && Nat.beq (flatLen A x) 1, A.eqN 0 0, A.and (A.and (A.le 0 (A.add (A.mul n2 n0) n4)) (A.ltN (A.nat (A.add (A.mul n2 n0) n4)) (A.len xs))) (A.eqN 1 1), A.inR .i64 (A.add (A.mul n2 n0) n4), true, A.inR .i64 (A.mul n2 n0), true, true, true, true, A.lt n2 rows, true, true, true],
   f54h54_1b (xs) (rows) (n0) (A.add n2 1) (A.app l3 [A.nth xs (A.nat (A.add (A.mul n2 n0) n4))]) (n4), f54h54_1bm (xs) (rows) (n0) (A.add n2 1) (A.app l3 [A.nth xs (A.nat (A.add (A.mul n2 n0) n4))]) (n4)) := by kernel_rfl
theorem f54p6 (A : Ar) (xs : List Int) (rows : Int) (n0 : Int) (n2 : Int) (l3 : List Int) (n4 : Int) : gwalkL A tab E0 18 [false] (f54h54_1b xs rows n0 n2 l3 n4) (f54h54_1bm xs rows n0 n2 l3 n4) =
  some ([true, A.inR .i64 (A.add n4 1), true, !A.lt n2 rows, true, true, true],
   f54h54_0b (xs) (rows) (n0) (l3) (A.add n4 1), f54h54_0bm (xs) (rows) (n0) (l3) (A.add n4 1)) := by kernel_rfl
theorem f54p7 (A : Ar) (xs : List Int) (rows : Int) (n0 : Int) (l3 : List Int) (n5 : Int) : gwalkL A tab E0 19 [true] (f54h54_0b xs rows n0 l3 n5) (f54h54_0bm xs rows n0 l3 n5) =
  some ([true, A.lt n5 n0, true, true, true],
   f54h54_1b (xs) (rows) (n0) (0) (l3) (n5), f54h54_1bm (xs) (rows) (n0) (0) (l3) (n5)) := by kernel_rfl
theorem f54p8 (A : Ar) (xs : List Int) (rows : Int) (n0 : Int) (l3 : List Int) (n5 : Int) : gfin A tab E0 16 [false] 54 (f54h54_0b xs rows n0 l3 n5) (f54h54_0bm xs rows n0 l3 n5) =
  some ([true, true, true, !A.lt n5 n0, true, true, true],
   AV.row 0 0, some { e := 3, sz := 1, r := .ints .i64 l3 }) := by kernel_rfl
def f55e (xs : List Int) (rows : Int) : List AFrame := [{ fn := 55, N := 42, env := [(0, AV.list (.ints .i64 xs)), (1, AV.int .i64 rows)], todo := [.code a55.code], defs := [], rnd := none, ret := false, res := [ARes.tmp 4] }]
theorem f55e_at (xs : List Int) (rows : Int) : enterA tab 55 [AV.list (.ints .i64 xs), AV.int .i64 rows] = some { fn := 55, N := 42, env := [(0, AV.list (.ints .i64 xs)), (1, AV.int .i64 rows)], todo := [.code a55.code], defs := [], rnd := none, ret := false, res := [ARes.tmp 4] } := rfl
def f55h55_0a (xs : List Int) (rows : Int) (n0 : Int) (l1 : List Int) (n2 : Int) : List AFrame := [{ fn := 55, N := 42, env := [(0, AV.list (.ints .i64 xs)), (1, AV.int .i64 rows), (5, AV.int .i64 n0), (6, AV.row 55016 0), (7, AV.int .i64 n2)], todo := .code (ACode.gh [] l55_0) :: k55_0, defs := [], rnd := none, ret := false, res := [ARes.tmp 4] }]
def f55h55_0am (xs : List Int) (rows : Int) (n0 : Int) (l1 : List Int) (n2 : Int) : AHeap := [(55016, { base := 0, blks := [Blk.row 3 1 (.ints .i64 l1)] })]
def f55h55_1a (xs : List Int) (rows : Int) (n0 : Int) (n2 : Int) (n3 : Int) (l4 : List Int) : List AFrame := [{ fn := 55, N := 42, env := [(0, AV.list (.ints .i64 xs)), (1, AV.int .i64 rows), (5, AV.int .i64 n0), (6, AV.row 55016 0), (7, AV.int .i64 n2), (8, AV.int .i64 n3)], todo := .code (ACode.gh [] l55_1) :: k55_1, defs := [], rnd := none, ret := false, res := [ARes.tmp 4] }]
def f55h55_1am (xs : List Int) (rows : Int) (n0 : Int) (n2 : Int) (n3 : Int) (l4 : List Int) : AHeap := [(55016, { base := 0, blks := [Blk.row 3 1 (.ints .i64 l4)] })]
theorem f55p0 (A : Ar) (xs : List Int) (rows : Int) : gwalkL A tab E0 27 [] (f55e xs rows) [] =
  some ([true, true, A.and (A.le 0 (A.int (A.len xs))) (A.le (A.int (A.len xs)) 4294967296), true, true, true, A.and (A.not (A.eq rows 0)) (A.inR .i64 (A.quo (A.int (A.len xs)) rows)), true, true, true, true],
   f55h55_0a (xs) (rows) (A.quo (A.int (A.len xs)) rows) (A.rep (A.nat (A.int (A.len xs))) 0) (0), f55h55_0am (xs) (rows) (A.quo (A.int (A.len xs)) rows) (A.rep (A.nat (A.int (A.len xs))) 0) (0)) := by kernel_rfl
theorem f55p1 (A : Ar) (xs : List Int) (rows : Int) (n0 : Int) (l1 : List Int) (n2 : Int) : gwalkL A tab E0 19 [true] (f55h55_0a xs rows n0 l1 n2) (f55h55_0am xs rows n0 l1 n2) =
  some ([true, A.lt n2 rows, true, true, true],
   f55h55_1a (xs) (rows) (n0) (n2) (0) (l1), f55h55_1am (xs) (rows) (n0) (n2) (0) (l1)) := by kernel_rfl
theorem f55p2 (A : Ar) (xs : List Int) (rows : Int) (n0 : Int) (l1 : List Int) (n2 : Int) : gfin A tab E0 16 [false] 55 (f55h55_0a xs rows n0 l1 n2) (f55h55_0am xs rows n0 l1 n2) =
  some ([true, true, true, !A.lt n2 rows, true, true, true],
   AV.row 0 0, some { e := 3, sz := 1, r := .ints .i64 l1 }) := by kernel_rfl
theorem f55p3 (A : Ar) (xs : List Int) (rows : Int) (n0 : Int) (n2 : Int) (n3 : Int) (l4 : List Int) : gwalkL A tab E0 38 [true] (f55h55_1a xs rows n0 n2 n3 l4) (f55h55_1am xs rows n0 n2 n3 l4) =
  some ([true, A.inR .i64 (A.add n3 1), true, A.and (A.ltN (A.nat (A.add (A.mul n2 n0) n3)) (A.len l4)) (A.and (A.and true (A.eqN 0 0)) (A.and (A.eqN 1 1) (A.eqN 1 1))), A.and (A.eqN 1 1) (A.and (A.le 0 (A.add (A.mul n2 n0) n3)) (A.ltN (A.nat (A.add (A.mul n2 n0) n3)) (A.len l4))), A.eqN 0 0, A.and (A.and (A.le 0 (A.add (A.mul n3 rows) n2)) (A.ltN (A.nat (A.add (A.mul n3 rows) n2)) (A.len xs))) (A.eqN 1 1), A.inR .i64 (A.add (A.mul n3 rows) n2), true, A.inR .i64 (A.mul n3 rows), true, true, true, A.inR .i64 (A.add (A.mul n2 n0) n3), true, A.inR .i64 (A.mul n2 n0), true, true, true, A.lt n3 n0, true, true, true],
   f55h55_1a (xs) (rows) (n0) (n2) (A.add n3 1) (A.set l4 (A.nat (A.add (A.mul n2 n0) n3)) (A.nth xs (A.nat (A.add (A.mul n3 rows) n2)))), f55h55_1am (xs) (rows) (n0) (n2) (A.add n3 1) (A.set l4 (A.nat (A.add (A.mul n2 n0) n3)) (A.nth xs (A.nat (A.add (A.mul n3 rows) n2))))) := by kernel_rfl
theorem f55p4 (A : Ar) (xs : List Int) (rows : Int) (n0 : Int) (n2 : Int) (n3 : Int) (l4 : List Int) : gwalkL A tab E0 18 [false] (f55h55_1a xs rows n0 n2 n3 l4) (f55h55_1am xs rows n0 n2 n3 l4) =
  some ([true, A.inR .i64 (A.add n2 1), true, !A.lt n3 n0, true, true, true],
   f55h55_0a (xs) (rows) (n0) (l4) (A.add n2 1), f55h55_0am (xs) (rows) (n0) (l4) (A.add n2 1)) := by kernel_rfl
def f124e (xs : List Int) (rows : Int) : List AFrame := [{ fn := 124, N := 40, env := [(0, AV.list (.ints .i64 xs)), (1, AV.int .i64 rows)], todo := [.code a124.code], defs := [], rnd := none, ret := false, res := [ARes.tmp 4] }]
theorem f124e_at (xs : List Int) (rows : Int) : enterA tab 124 [AV.list (.ints .i64 xs), AV.int .i64 rows] = some { fn := 124, N := 40, env := [(0, AV.list (.ints .i64 xs)), (1, AV.int .i64 rows)], todo := [.code a124.code], defs := [], rnd := none, ret := false, res := [ARes.tmp 4] } := rfl
def f124h124_0a (xs : List Int) (rows : Int) (n0 : Int) : List AFrame := [{ fn := 124, N := 40, env := [(0, AV.list (.ints .i64 xs)), (1, AV.int .i64 rows), (5, AV.nils), (6, AV.int .i64 n0)], todo := .code (ACode.gh [] l124_0) :: k124_0, defs := [], rnd := none, ret := false, res := [ARes.tmp 4] }]
def f124h124_0am (xs : List Int) (rows : Int) (n0 : Int) : AHeap := []
def f124h124_1a (xs : List Int) (rows : Int) (n0 : Int) : List AFrame := [{ fn := 124, N := 40, env := [(0, AV.list (.ints .i64 xs)), (1, AV.int .i64 rows), (5, AV.nils), (6, AV.int .i64 n0), (20, AV.int .i64 rows), (21, AV.int .i64 0)], todo := .code (ACode.gh [] l124_1) :: k124_1, defs := [], rnd := none, ret := false, res := [ARes.tmp 4] }]
def f124h124_1am (xs : List Int) (rows : Int) (n0 : Int) : AHeap := []
def f124h124_1b (xs : List Int) (rows : Int) (n1 : Int) (l2 : List Int) (n3 : Int) : List AFrame := [{ fn := 124, N := 40, env := [(0, AV.list (.ints .i64 xs)), (1, AV.int .i64 rows), (5, AV.row 124038 0), (6, AV.int .i64 n3), (20, AV.int .i64 rows), (21, AV.int .i64 n1)], todo := .code (ACode.gh [] l124_1) :: k124_1, defs := [], rnd := none, ret := false, res := [ARes.tmp 4] }]
def f124h124_1bm (xs : List Int) (rows : Int) (n1 : Int) (l2 : List Int) (n3 : Int) : AHeap := [(124038, { base := 0, blks := [Blk.row 3 1 (.ints .i64 l2)] })]
def f124h124_0b (xs : List Int) (rows : Int) (l2 : List Int) (n4 : Int) : List AFrame := [{ fn := 124, N := 40, env := [(0, AV.list (.ints .i64 xs)), (1, AV.int .i64 rows), (5, AV.row 124038 0), (6, AV.int .i64 n4)], todo := .code (ACode.gh [] l124_0) :: k124_0, defs := [], rnd := none, ret := false, res := [ARes.tmp 4] }]
def f124h124_0bm (xs : List Int) (rows : Int) (l2 : List Int) (n4 : Int) : AHeap := [(124038, { base := 0, blks := [Blk.row 3 1 (.ints .i64 l2)] })]
theorem f124p0 (A : Ar) (xs : List Int) (rows : Int) : gwalkL A tab E0 16 [] (f124e xs rows) [] =
  some ([true, true, true],
   f124h124_0a (xs) (rows) (0), f124h124_0am (xs) (rows) (0)) := by kernel_rfl
theorem f124p1 (A : Ar) (xs : List Int) (rows : Int) (n0 : Int) : gwalkL A tab E0 28 [true, true, true, true, true, true, true, true] (f124h124_0a xs rows n0) (f124h124_0am xs rows n0) =
  some ([true, true, A.lt n0 (A.quo (A.int (A.len xs)) rows), true, true, true, true, A.and (A.not (A.eq rows 0)) (A.inR .i64 (A.quo (A.int (A.len xs)) rows)), true, true, true, true, true, true, true, true, A.lt 0 rows, true, true, true],
   f124h124_1a (xs) (rows) (n0), f124h124_1am (xs) (rows) (n0)) := by kernel_rfl
theorem f124p2 (A : Ar) (xs : List Int) (rows : Int) (n0 : Int) : gfin A tab E0 24 [true, true, true, true, true, true, true, false] 124 (f124h124_0a xs rows n0) (f124h124_0am xs rows n0) =
  some ([true, true, true, !A.lt n0 (A.quo (A.int (A.len xs)) rows), true, true, true, true, A.and (A.not (A.eq rows 0)) (A.inR .i64 (A.quo (A.int (A.len xs)) rows)), true, true, true, true, true, true, true, true, A.lt 0 rows, true, true, true],
   AV.nils, none) := by kernel_rfl
theorem f124p3 (A : Ar) (xs : List Int) (rows : Int) (n0 : Int) : gfin A tab E0 24 [false, false, false, false, false, false, false, false] 124 (f124h124_0a xs rows n0) (f124h124_0am xs rows n0) =
  some ([true, true, true, true, true, true, true, true, true, true, true, true, true, true, true, true, true, !A.lt 0 rows, true, true, true],
   AV.nils, none) := by kernel_rfl
theorem f124p4 (A : Ar) (xs : List Int) (rows : Int) (n0 : Int) : gwalkL A tab E0 39 [true] (f124h124_1a xs rows n0) (f124h124_1am xs rows n0) =
  some ([true, A.inR .i64 (A.add 0 1), true, A.and (A.and true (A.eqN 1 1)) (A.and (A.leN (A.len [A.nth xs (A.nat (A.add (A.mul 0 (A.quo (A.int (A.len xs)) rows)) n0))]) 4294967296) (A.ltN 0 (A.len [A.nth xs (A.nat (A.add (A.mul 0 (A.quo (A.int (A.len xs)) rows)) n0))]))), List.all [AV.int .i64 (A.nth xs (A.nat (A.add (A.mul 0 (A.quo (A.int (A.len xs)) rows)) n0)))] fun x => AV.bx x && Nat.beq (flatLen A x) 1, A.eqN 0 0, A.and (A.and (A.le 0 (A.add (A.mul 0 (A.quo (A.int (A.len xs)) rows)) n0)) (A.ltN (A.nat (A.add (A.mul 0 (A.quo (A.int (A.len xs)) rows)) n0)) (A.len xs))) (A.eqN 1 1), A.inR .i64 (A.add (A.mul 0 (A.quo (A.int (A.len xs)) rows)) n0), true, A.inR .i64 (A.mul 0 (A.quo (A.int (A.len xs)) rows)), A.and (A.not (A.eq rows 0)) (A.inR .i64 (A.quo (A.int (A.len xs)) rows)), true, true, true, true, true, true, true, true, A.lt 0 rows, true],
   f124h124_1b (xs) (rows) (A.add 0 1) ([A.nth xs (A.nat (A.add (A.mul 0 (A.quo (A.int (A.len xs)) rows)) n0))]) (n0), f124h124_1bm (xs) (rows) (A.add 0 1) ([A.nth xs (A.nat (A.add (A.mul 0 (A.quo (A.int (A.len xs)) rows)) n0))]) (n0)) := by kernel_rfl
theorem f124p5 (A : Ar) (xs : List Int) (rows : Int) (n0 : Int) : gwalkL A tab E0 16 [false] (f124h124_1a xs rows n0) (f124h124_1am xs rows n0) =
  some ([true, A.inR .i64 (A.add n0 1), true, !A.lt 0 rows, true],
   f124h124_0a (xs) (rows) (A.add n0 1), f124h124_0am (xs) (rows) (A.add n0 1)) := by kernel_rfl
theorem f124p6 (A : Ar) (xs : List Int) (rows : Int) (n1 : Int) (l2 : List Int) (n3 : Int) : gwalkL A tab E0 39 [true] (f124h124_1b xs rows n1 l2 n3) (f124h124_1bm xs rows n1 l2 n3) =
  some ([true, A.inR .i64 (A.add n1 1), true, A.and (A.and true (A.eqN 1 1)) (A.and (A.eqN 3 3) (A.and (A.eqN 1 1) (A.leN (A.addN (A.len l2) (A.len [A.nth xs (A.nat (A.add (A.mul n1 (A.quo (A.int (A.len xs)) rows)) n3))])) 4294967296))), List.all [AV.int .i64 (A.nth xs (A.nat (A.add (A.mul n1 (A.quo (A.int (A.len xs)) rows)) n3)))] fun x => AV.bx x && Nat.beq (flatLen A x) 1, A.eqN 0 0, A.and (A.and (A.le 0 (A.add (A.mul n1 (A.quo (A.int (A.len xs)) rows)) n3)) (A.ltN (A.nat (A.add (A.mul n1 (A.quo (A.int (A.len xs)) rows)) n3)) (A.len xs))) (A.eqN 1 1), A.inR .i64 (A.add (A.mul n1 (A.quo (A.int (A.len xs)) rows)) n3), true, A.inR .i64 (A.mul n1 (A.quo (A.int (A.len xs)) rows)), A.and (A.not (A.eq rows 0)) (A.inR .i64 (A.quo (A.int (A.len xs)) rows)), true, true, true, true, true, true, true, true, A.lt n1 rows, true],
   f124h124_1b (xs) (rows) (A.add n1 1) (A.app l2 [A.nth xs (A.nat (A.add (A.mul n1 (A.quo (A.int (A.len xs)) rows)) n3))]) (n3), f124h124_1bm (xs) (rows) (A.add n1 1) (A.app l2 [A.nth xs (A.nat (A.add (A.mul n1 (A.quo (A.int (A.len xs)) rows)) n3))]) (n3)) := by kernel_rfl
theorem f124p7 (A : Ar) (xs : List Int) (rows : Int) (n1 : Int) (l2 : List Int) (n3 : Int) : gwalkL A tab E0 16 [false] (f124h124_1b xs rows n1 l2 n3) (f124h124_1bm xs rows n1 l2 n3) =
  some ([true, A.inR .i64 (A.add n3 1), true, !A.lt n1 rows, true],
   f124h124_0b (xs) (rows) (l2) (A.add n3 1), f124h124_0bm (xs) (rows) (l2) (A.add n3 1)) := by kernel_rfl
theorem f124p8 (A : Ar) (xs : List Int) (rows : Int) (l2 : List Int) (n4 : Int) : gwalkL A tab E0 28 [true, true, true, true, true, true, true, true] (f124h124_0b xs rows l2 n4) (f124h124_0bm xs rows l2 n4) =
  some ([true, true, A.lt n4 (A.quo (A.int (A.len xs)) rows), true, true, true, true, A.and (A.not (A.eq rows 0)) (A.inR .i64 (A.quo (A.int (A.len xs)) rows)), true, true, true, true, true, true, true, true, A.lt 0 rows, true, true, true],
   f124h124_1b (xs) (rows) (0) (l2) (n4), f124h124_1bm (xs) (rows) (0) (l2) (n4)) := by kernel_rfl
theorem f124p9 (A : Ar) (xs : List Int) (rows : Int) (l2 : List Int) (n4 : Int) : gfin A tab E0 24 [true, true, true, true, true, true, true, false] 124 (f124h124_0b xs rows l2 n4) (f124h124_0bm xs rows l2 n4) =
  some ([true, true, true, !A.lt n4 (A.quo (A.int (A.len xs)) rows), true, true, true, true, A.and (A.not (A.eq rows 0)) (A.inR .i64 (A.quo (A.int (A.len xs)) rows)), true, true, true, true, true, true, true, true, A.lt 0 rows, true, true, true],
   AV.row 0 0, some { e := 3, sz := 1, r := .ints .i64 l2 }) := by kernel_rfl
theorem f124p10 (A : Ar) (xs : List Int) (rows : Int) (l2 : List Int) (n4 : Int) : gfin A tab E0 24 [false, false, false, false, false, false, false, false] 124 (f124h124_0b xs rows l2 n4) (f124h124_0bm xs rows l2 n4) =
  some ([true, true, true, true, true, true, true, true, true, true, true, true, true, true, true, true, true, !A.lt 0 rows, true, true, true],
   AV.row 0 0, some { e := 3, sz := 1, r := .ints .i64 l2 }) := by kernel_rfl
def f45e (n : Int) (a : Int) (b : Int) : List AFrame := [{ fn := 45, N := 15, env := [(0, AV.int .i64 n), (1, AV.int .i64 a), (2, AV.int .i64 b)], todo := [.code a45.code], defs := [], rnd := none, ret := false, res := [ARes.tmp 6] }]
theorem f45e_at (n : Int) (a : Int) (b : Int) : enterA tab 45 [AV.int .i64 n, AV.int .i64 a, AV.int .i64 b] = some { fn := 45, N := 15, env := [(0, AV.int .i64 n), (1, AV.int .i64 a), (2, AV.int .i64 b)], todo := [.code a45.code], defs := [], rnd := none, ret := false, res := [ARes.tmp 6] } := rfl
theorem f45p0 (A : Ar) (n : Int) (a : Int) (b : Int) : gfin A tab E0 18 [true, true, true, true] 45 (f45e n a b) [] =
  some ([true, true, true, true, true, true, true, true, true, A.le a n, true, true, true, true, true],
   AV.bool (A.le n b), none) := by kernel_rfl
theorem f45p1 (A : Ar) (n : Int) (a : Int) (b : Int) : gfin A tab E0 18 [false, false, false, false] 45 (f45e n a b) [] =
  some ([true, true, true, true, true, true, true, true, true, !A.le a n, true, true, true, true, true],
   AV.bool false, none) := by kernel_rfl
def f112e (n : Int) (a : Int) (b : Int) : List AFrame := [{ fn := 112, N := 15, env := [(0, AV.int .i64 n), (1, AV.int .i64 a), (2, AV.int .i64 b)], todo := [.code a112.code], defs := [], rnd := none, ret := false, res := [ARes.tmp 6] }]
theorem f112e_at (n : Int) (a : Int) (b : Int) : enterA tab 112 [AV.int .i64 n, AV.int .i64 a, AV.int .i64 b] = some { fn := 112, N := 15, env := [(0, AV.int .i64 n), (1, AV.int .i64 a), (2, AV.int .i64 b)], todo := [.code a112.code], defs := [], rnd := none, ret := false, res := [ARes.tmp 6] } := rfl
theorem f112p0 (A : Ar) (n : Int) (a : Int) (b : Int) : gfin A tab E0 18 [true, true, true, true] 112 (f112e n a b) [] =
  some ([true, true, true, true, true, true, true, true, true, A.le a n, true, true, true, true, true],
   AV.bool (A.le n b), none) := by kernel_rfl
theorem f112p1 (A : Ar) (n : Int) (a : Int) (b : Int) : gfin A tab E0 18 [false, false, false, false] 112 (f112e n a b) [] =
  some ([true, true, true, true, true, true, true, true, true, !A.le a n, true, true, true, true, true],
   AV.bool false, none) := by kernel_rfl
def f111e (b : Bool) (e : Int) : List AFrame := [{ fn := 111, N := 7, env := [(0, AV.bool b), (1, AV.int .i64 e)], todo := [.code a111.code], defs := [], rnd := none, ret := false, res := [ARes.tmp 4] }]
theorem f111e_at (b : Bool) (e : Int) : enterA tab 111 [AV.bool b, AV.int .i64 e] = some { fn := 111, N := 7, env := [(0, AV.bool b), (1, AV.int .i64 e)], todo := [.code a111.code], defs := [], rnd := none, ret := false, res := [ARes.tmp 4] } := rfl
theorem f111p0 (A : Ar) (b : Bool) (e : Int) : gfin A tab E0 15 [true] 111 (f111e b e) [] =
  some ([true, true, b, true, true],
   AV.int .i64 0, none) := by kernel_rfl
theorem f111p1 (A : Ar) (b : Bool) (e : Int) : gfin A tab E0 17 [false] 111 (f111e b e) [] =
  some ([true, true, true, !b, true, true],
   AV.int .i64 e, none) := by kernel_rfl
end Go.Proofs.Ytimmgjppippdiaa
