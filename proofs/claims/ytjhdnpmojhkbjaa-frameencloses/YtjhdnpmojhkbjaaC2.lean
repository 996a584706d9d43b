/- Paths of functions, printed by the explorer (Gx). No condition. -/
import Derived.Test.YtjhdnpmojhkbjaaC0
import Derived.KernelRfl
namespace Go.Proofs.Ytjhdnpmojhkbjaa
set_option maxRecDepth 100000
set_option linter.unusedVariables false
def f108e (a : Int) (b : Int) : List AFrame := [{ fn := 108, N := 13, env := [(0, AV.int .i64 a), (1, AV.int .i64 b)], todo := [.code a108.code], defs := [], rnd := none, ret := false, res := [ARes.tmp 4] }]
theorem f108e_at (a : Int) (b : Int) : enterA tab 108 [AV.int .i64 a, AV.int .i64 b] = some { fn := 108, N := 13, env := [(0, AV.int .i64 a), (1, AV.int .i64 b)], todo := [.code a108.code], defs := [], rnd := none, ret := false, res := [ARes.tmp 4] } := rfl
def f108h108_0a (n0 : Int) (n1 : Int) : List AFrame := [{ fn := 108, N := 13, env := [(0, AV.int .i64 n0), (1, AV.int .i64 n1)], todo := .code (ACode.gh [] l108_0) :: k108_0, defs := [], rnd := none, ret := false, res := [ARes.tmp 4] }]
def f108h108_0am (n0 : Int) (n1 : Int) : AHeap := []
theorem f108p0 (A : Ar) (a : Int) (b : Int) : gwalkL A tab BC0 8 [] (f108e a b) [] =
  some ([true],
   f108h108_0a (a) (b), f108h108_0am (a) (b)) := by kernel_rfl
theorem f108p1 (A : Ar) (n0 : Int) (n1 : Int) : gwalkL A tab BC0 14 [true] (f108h108_0a n0 n1) (f108h108_0am n0 n1) =
  some ([true, true, A.not (A.eq n1 0), true, true, true, A.not (A.eq n1 0), true, true],
   f108h108_0a (n1) (A.rem n0 n1), f108h108_0am (n1) (A.rem n0 n1)) := by kernel_rfl
theorem f108p2 (A : Ar) (n0 : Int) (n1 : Int) : gfin A tab BC0 16 [false] 108 (f108h108_0a n0 n1) (f108h108_0am n0 n1) =
  some ([A.and true (A.and true true), true, A.and true (Decidable.decide (bigB n0 = true)), true, !A.not (A.eq n1 0), true, true],
   AV.int .i64 (sizeI n0), none) := by kernel_rfl
def f49e (n : Int) (d : Int) : List AFrame := [{ fn := 49, N := 16, env := [(0, AV.int .i64 n), (1, AV.int .i64 d)], todo := [.code a49.code], defs := [], rnd := none, ret := false, res := [ARes.tmp 4] }]
theorem f49e_at (n : Int) (d : Int) : enterA tab 49 [AV.int .i64 n, AV.int .i64 d] = some { fn := 49, N := 16, env := [(0, AV.int .i64 n), (1, AV.int .i64 d)], todo := [.code a49.code], defs := [], rnd := none, ret := false, res := [ARes.tmp 4] } := rfl
theorem f49p0 (A : Ar) (n : Int) (d : Int) : gfin A tab BC0 31 [true] 49 (f49e n d) [] =
  some ([A.and true (A.and true true), true, true, true, A.inR .i64 (A.sub (A.quo n d) 1), true, A.lt (A.rem n d) 0, true, A.not (A.eq d 0), true, true, true, A.and (A.not (A.eq d 0)) (A.inR .i64 (A.quo n d)), true, true, true],
   AV.int .i64 (A.sub (A.quo n d) 1), none) := by kernel_rfl
theorem f49p1 (A : Ar) (n : Int) (d : Int) : gfin A tab BC0 27 [false] 49 (f49e n d) [] =
  some ([A.and true (A.and true true), true, true, !A.lt (A.rem n d) 0, true, A.not (A.eq d 0), true, true, true, A.and (A.not (A.eq d 0)) (A.inR .i64 (A.quo n d)), true, true, true],
   AV.int .i64 (A.quo n d), none) := by kernel_rfl
def f114e (n : Int) (d : Int) : List AFrame := [{ fn := 114, N := 25, env := [(0, AV.int .i64 n), (1, AV.int .i64 d)], todo := [.code a114.code], defs := [], rnd := none, ret := false, res := [ARes.cell 4 true 2] }]
theorem f114e_at (n : Int) (d : Int) : enterA tab 114 [AV.int .i64 n, AV.int .i64 d] = some { fn := 114, N := 25, env := [(0, AV.int .i64 n), (1, AV.int .i64 d)], todo := [.code a114.code], defs := [], rnd := none, ret := false, res := [ARes.cell 4 true 2] } := rfl
def f114h114_0a (n : Int) (d : Int) (n0 : Int) (n1 : Int) : List AFrame := [{ fn := 114, N := 25, env := [(0, AV.int .i64 n), (1, AV.int .i64 d), (4, AV.ptr 114005 0 0 0), (5, AV.int .i64 n1), (6, AV.int .i64 n0)], todo := .code (ACode.gh [] l114_0) :: k114_0, defs := [], rnd := none, ret := false, res := [ARes.cell 4 true 2] }]
def f114h114_0am (n : Int) (d : Int) (n0 : Int) (n1 : Int) : AHeap := [(114005, { base := 0, blks := [Blk.row 79 2 (Row.gen [AV.agg (Row.gen [AV.int .i64 0, AV.int .i64 0])])] })]
theorem f114p0 (A : Ar) (n : Int) (d : Int) : gwalkL A tab BC0 18 [] (f114e n d) [] =
  some ([true, true, true, A.inR .i64 (A.neg n), true, true, true, A.and true (A.ltN 0 2)],
   f114h114_0a (n) (d) (A.max n (A.neg n)) (d), f114h114_0am (n) (d) (A.max n (A.neg n)) (d)) := by kernel_rfl
theorem f114p1 (A : Ar) (n : Int) (d : Int) (n0 : Int) (n1 : Int) : gwalkL A tab BC0 14 [true] (f114h114_0a n d n0 n1) (f114h114_0am n d n0 n1) =
  some ([true, true, A.not (A.eq n0 0), true, true, true, A.not (A.eq n0 0), true, true],
   f114h114_0a (n) (d) (A.rem n1 n0) (n0), f114h114_0am (n) (d) (A.rem n1 n0) (n0)) := by kernel_rfl
theorem f114p2 (A : Ar) (n : Int) (d : Int) (n0 : Int) (n1 : Int) : gfin A tab BC0 13 [false] 114 (f114h114_0a n d n0 n1) (f114h114_0am n d n0 n1) =
  some ([A.and (A.and (A.and (A.ltN 0 1) (A.leN (A.addN 0 2) 2)) true) (A.and true true), A.and (A.ltN 0 1) (A.eqN 2 2), A.and (A.and true (A.eqN 1 1)) (A.and (A.leN (A.addN 0 1) 2) (A.and (A.ltN 0 1) (A.and (A.and true (A.eqN 1 1)) (A.and (A.leN (A.addN 1 1) 2) (A.and (A.ltN 0 1) true))))), A.and (A.not (A.eq n1 0)) (A.inR .i64 (A.quo d n1)), true, true, A.and (A.not (A.eq n1 0)) (A.inR .i64 (A.quo n n1)), true, true, !A.not (A.eq n0 0), true, true],
   AV.agg (Row.gen [AV.int .i64 (A.quo n n1), AV.int .i64 (A.quo d n1)]), none) := by kernel_rfl
def f135e (a : Int) (b : Int) (c : Int) (d : Int) : List AFrame := [{ fn := 135, N := 16, env := [(0, AV.agg (Row.gen [AV.int .i64 a, AV.int .i64 b])), (1, AV.agg (Row.gen [AV.int .i64 c, AV.int .i64 d]))], todo := [.code a135.code], defs := [], rnd := none, ret := false, res := [ARes.tmp 4] }]
theorem f135e_at (a : Int) (b : Int) (c : Int) (d : Int) : enterA tab 135 [AV.agg (Row.gen [AV.int .i64 a, AV.int .i64 b]), AV.agg (Row.gen [AV.int .i64 c, AV.int .i64 d])] = some { fn := 135, N := 16, env := [(0, AV.agg (Row.gen [AV.int .i64 a, AV.int .i64 b])), (1, AV.agg (Row.gen [AV.int .i64 c, AV.int .i64 d]))], todo := [.code a135.code], defs := [], rnd := none, ret := false, res := [ARes.tmp 4] } := rfl
theorem f135p0 (A : Ar) (a : Int) (b : Int) (c : Int) (d : Int) : gfin A tab BC0 23 [] 135 (f135e a b c d) [] =
  some ([A.and true (A.and true true), true, true, A.inR .i64 (A.mul c b), A.and (A.ltN 0 1) (A.ltN 1 2), true, A.and (A.ltN 0 1) (A.ltN 0 2), true, A.inR .i64 (A.mul a d), A.and (A.ltN 0 1) (A.ltN 1 2), true, A.and (A.ltN 0 1) (A.ltN 0 2), true, true, A.and true (A.ltN 0 2), A.and true (A.ltN 0 2)],
   AV.bool (A.lt (A.mul a d) (A.mul c b)), none) := by kernel_rfl
def f24e (ps : List AV) : List AFrame := [{ fn := 24, N := 6, env := [(0, AV.list (Row.big (Sh.agg [Sh.int .i64, Sh.int .i64, Sh.int .i64]) ps))], todo := [.code a24.code], defs := [], rnd := none, ret := false, res := [ARes.tmp 2] }]
theorem f24e_at (ps : List AV) : enterA tab 24 [AV.list (Row.big (Sh.agg [Sh.int .i64, Sh.int .i64, Sh.int .i64]) ps)] = some { fn := 24, N := 6, env := [(0, AV.list (Row.big (Sh.agg [Sh.int .i64, Sh.int .i64, Sh.int .i64]) ps))], todo := [.code a24.code], defs := [], rnd := none, ret := false, res := [ARes.tmp 2] } := rfl
theorem f24p0 (A : Ar) (ps : List AV) : gfin A tab BC0 12 [] 24 (f24e ps) [] =
  some ([A.and true (A.and true true), true, A.and (A.and true (A.eqN 3 3)) (A.and (A.eqN 49 49) (A.and (A.eqN 3 3) (A.leN (A.addN 0 (A.lenA ps)) 4294967296))), true, List.all [] fun x => AV.bx x && Nat.beq (flatLen A x) 3, true],
   AV.row 0 0, some { e := 49, sz := 3, r := Row.big (Sh.agg [Sh.int .i64, Sh.int .i64, Sh.int .i64]) ps }) := by kernel_rfl
def f45e (xs : List AV) (ys : List AV) : List AFrame := [{ fn := 45, N := 26, env := [(0, AV.list (Row.big (Sh.agg [Sh.int .i64, Sh.int .i64]) xs)), (1, AV.list (Row.big (Sh.agg [Sh.int .i64, Sh.int .i64]) ys))], todo := [.code a45.code], defs := [], rnd := none, ret := false, res := [ARes.tmp 4] }]
theorem f45e_at (xs : List AV) (ys : List AV) : enterA tab 45 [AV.list (Row.big (Sh.agg [Sh.int .i64, Sh.int .i64]) xs), AV.list (Row.big (Sh.agg [Sh.int .i64, Sh.int .i64]) ys)] = some { fn := 45, N := 26, env := [(0, AV.list (Row.big (Sh.agg [Sh.int .i64, Sh.int .i64]) xs)), (1, AV.list (Row.big (Sh.agg [Sh.int .i64, Sh.int .i64]) ys))], todo := [.code a45.code], defs := [], rnd := none, ret := false, res := [ARes.tmp 4] } := rfl
def f45h45_0a (xs : List AV) (ys : List AV) (n0 : Int) : List AFrame := [{ fn := 45, N := 26, env := [(0, AV.list (Row.big (Sh.agg [Sh.int .i64, Sh.int .i64]) xs)), (1, AV.list (Row.big (Sh.agg [Sh.int .i64, Sh.int .i64]) ys)), (5, AV.int .i64 n0)], todo := .code (ACode.gh [] l45_0) :: k45_0, defs := [], rnd := none, ret := false, res := [ARes.tmp 4] }]
def f45h45_0am (xs : List AV) (ys : List AV) (n0 : Int) : AHeap := []
theorem f45p0 (A : Ar) (xs : List AV) (ys : List AV) : gfin A tab BC0 19 [true] 45 (f45e xs ys) [] =
  some ([A.and true (A.and true true), true, A.not (A.eq (A.int (A.lenA xs)) (A.int (A.lenA ys))), true, true, true, true, true, true],
   AV.bool false, none) := by kernel_rfl
theorem f45p1 (A : Ar) (xs : List AV) (ys : List AV) : gwalkL A tab BC0 23 [false] (f45e xs ys) [] =
  some ([true, !A.not (A.eq (A.int (A.lenA xs)) (A.int (A.lenA ys))), true, true, true, true, true, true],
   f45h45_0a (xs) (ys) (0), f45h45_0am (xs) (ys) (0)) := by kernel_rfl
theorem f45p2 (A : Ar) (xs : List AV) (ys : List AV) (n0 : Int) : gfin A tab BC0 22 [true, true] 45 (f45h45_0a xs ys n0) (f45h45_0am xs ys n0) =
  some ([A.and true (A.and true true), true, A.not (A.and (A.eq (AV.toI (AV.cellAt (A.nthA xs (A.nat n0)) 0)) (AV.toI (AV.cellAt (A.nthA ys (A.nat n0)) 0))) (A.eq (AV.toI (AV.cellAt (A.nthA xs (A.nat n0)) 1)) (AV.toI (AV.cellAt (A.nthA ys (A.nat n0)) 1)))), A.and true true, A.leN (A.addN 0 2) 2, A.and (A.and (A.le 0 n0) (A.ltN (A.nat n0) (A.lenA ys))) (A.eqN 2 2), true, true, A.leN (A.addN 0 2) 2, A.and (A.and (A.le 0 n0) (A.ltN (A.nat n0) (A.lenA xs))) (A.eqN 2 2), true, true, A.lt n0 (A.int (A.lenA xs)), true, true, true, true],
   AV.bool false, none) := by kernel_rfl
theorem f45p3 (A : Ar) (xs : List AV) (ys : List AV) (n0 : Int) : gwalkL A tab BC0 26 [true, false] (f45h45_0a xs ys n0) (f45h45_0am xs ys n0) =
  some ([true, A.inR .i64 (A.add n0 1), true, !A.not (A.and (A.eq (AV.toI (AV.cellAt (A.nthA xs (A.nat n0)) 0)) (AV.toI (AV.cellAt (A.nthA ys (A.nat n0)) 0))) (A.eq (AV.toI (AV.cellAt (A.nthA xs (A.nat n0)) 1)) (AV.toI (AV.cellAt (A.nthA ys (A.nat n0)) 1)))), A.and true true, A.leN (A.addN 0 2) 2, A.and (A.and (A.le 0 n0) (A.ltN (A.nat n0) (A.lenA ys))) (A.eqN 2 2), true, true, A.leN (A.addN 0 2) 2, A.and (A.and (A.le 0 n0) (A.ltN (A.nat n0) (A.lenA xs))) (A.eqN 2 2), true, true, A.lt n0 (A.int (A.lenA xs)), true, true, true, true],
   f45h45_0a (xs) (ys) (A.add n0 1), f45h45_0am (xs) (ys) (A.add n0 1)) := by kernel_rfl
theorem f45p4 (A : Ar) (xs : List AV) (ys : List AV) (n0 : Int) : gfin A tab BC0 16 [false] 45 (f45h45_0a xs ys n0) (f45h45_0am xs ys n0) =
  some ([A.and true (A.and true true), true, !A.lt n0 (A.int (A.lenA xs)), true, true, true, true],
   AV.bool true, none) := by kernel_rfl
def f41e (ps : List AV) : List AFrame := [{ fn := 41, N := 73, env := [(0, AV.list (Row.big (Sh.agg [Sh.int .i64, Sh.int .i64, Sh.int .i64]) ps))], todo := [.code a41.code], defs := [], rnd := none, ret := false, res := [ARes.tmp 2, ARes.tmp 3] }]
theorem f41e_at (ps : List AV) : enterA tab 41 [AV.list (Row.big (Sh.agg [Sh.int .i64, Sh.int .i64, Sh.int .i64]) ps)] = some { fn := 41, N := 73, env := [(0, AV.list (Row.big (Sh.agg [Sh.int .i64, Sh.int .i64, Sh.int .i64]) ps))], todo := [.code a41.code], defs := [], rnd := none, ret := false, res := [ARes.tmp 2, ARes.tmp 3] } := rfl
def f41h41_0a (ps : List AV) (n0 : Int) (n1 : Int) (n2 : Int) : List AFrame := [{ fn := 41, N := 73, env := [(5, AV.fn 105 []), (6, AV.int .i64 n1), (24, AV.list (Row.big (Sh.agg [Sh.int .i64, Sh.int .i64, Sh.int .i64]) ps)), (25, AV.int .i64 n0), (26, AV.int .i64 n2)], todo := .code (ACode.gh [] l41_0) :: k41_0, defs := [], rnd := none, ret := false, res := [ARes.tmp 2, ARes.tmp 3] }]
def f41h41_0am (ps : List AV) (n0 : Int) (n1 : Int) (n2 : Int) : AHeap := []
theorem f41p0 (A : Ar) (ps : List AV) : gfin A tab BC0 34 [true] 41 (f41e ps) [] =
  some ([A.and true (A.and true (A.and true true)), true, true, true, A.not (A.eq (firstE [unlessE (A.lt 0 (A.int (A.lenA ps))) 10, unlessE (A.le (A.int (A.lenA ps)) 20) 8]) 0), true, true, true, A.and (A.and true true) (Decidable.decide (List.length [unlessE (A.lt 0 (A.int (A.lenA ps))) 10, unlessE (A.le (A.int (A.lenA ps)) 20) 8] ≤ 1000000)), List.all [AV.int .i64 (unlessE (A.lt 0 (A.int (A.lenA ps))) 10), AV.int .i64 (unlessE (A.le (A.int (A.lenA ps)) 20) 8)] fun x => AV.bx x && Nat.beq (flatLen A x) 1, A.and true true, true, true, true, A.and true true, true, true, true, true, true],
   AV.tup [AV.int .i64 0, AV.int .i64 (firstE [unlessE (A.lt 0 (A.int (A.lenA ps))) 10, unlessE (A.le (A.int (A.lenA ps)) 20) 8])], none) := by kernel_rfl
theorem f41p1 (A : Ar) (ps : List AV) : gwalkL A tab BC0 46 [false] (f41e ps) [] =
  some ([true, true, true, true, true, !A.not (A.eq (firstE [unlessE (A.lt 0 (A.int (A.lenA ps))) 10, unlessE (A.le (A.int (A.lenA ps)) 20) 8]) 0), true, true, true, A.and (A.and true true) (Decidable.decide (List.length [unlessE (A.lt 0 (A.int (A.lenA ps))) 10, unlessE (A.le (A.int (A.lenA ps)) 20) 8] ≤ 1000000)), List.all [AV.int .i64 (unlessE (A.lt 0 (A.int (A.lenA ps))) 10), AV.int .i64 (unlessE (A.le (A.int (A.lenA ps)) 20) 8)] fun x => AV.bx x && Nat.beq (flatLen A x) 1, A.and true true, true, true, true, A.and true true, true, true, true, true, true],
   f41h41_0a (ps) (A.int (A.lenA ps)) (-1) (0), f41h41_0am (ps) (A.int (A.lenA ps)) (-1) (0)) := by kernel_rfl
theorem f41p2 (A : Ar) (ps : List AV) (n0 : Int) (n1 : Int) (n2 : Int) : gfin A tab BC0 83 [true, true, true, true, true, true, true, true, true, true, true, true, true, true, true] 41 (f41h41_0a ps n0 n1 n2) (f41h41_0am ps n0 n1 n2) =
  some ([A.and true (A.and true (A.and true true)), true, true, true, true, A.not (A.eq (firstE [unlessE (Decidable.decide (0 ≤ AV.toI (AV.cellAt (A.nthA ps (A.nat n2)) 2) ∧ AV.toI (AV.cellAt (A.nthA ps (A.nat n2)) 2) ≤ 1000000000000)) 2, unlessE (A.lt n1 (AV.toI (AV.cellAt (A.nthA ps (A.nat n2)) 0))) 9]) 0), true, true, true, A.and (A.and true true) (Decidable.decide (List.length [unlessE (Decidable.decide (0 ≤ AV.toI (AV.cellAt (A.nthA ps (A.nat n2)) 2) ∧ AV.toI (AV.cellAt (A.nthA ps (A.nat n2)) 2) ≤ 1000000000000)) 2, unlessE (A.lt n1 (AV.toI (AV.cellAt (A.nthA ps (A.nat n2)) 0))) 9] ≤ 1000000)), List.all [AV.int .i64 (unlessE (Decidable.decide (0 ≤ AV.toI (AV.cellAt (A.nthA ps (A.nat n2)) 2) ∧ AV.toI (AV.cellAt (A.nthA ps (A.nat n2)) 2) ≤ 1000000000000)) 2), AV.int .i64 (unlessE (A.lt n1 (AV.toI (AV.cellAt (A.nthA ps (A.nat n2)) 0))) 9)] fun x => AV.bx x && Nat.beq (flatLen A x) 1, A.and true true, true, true, true, A.and (A.ltN 0 1) (A.ltN 0 3), true, A.le (AV.toI (AV.cellAt (A.nthA ps (A.nat n2)) 1)) (AV.toI (AV.cellAt (A.nthA ps (A.nat n2)) 2)), true, true, A.and (A.ltN 0 1) (A.ltN 2 3), true, true, A.and (A.ltN 0 1) (A.ltN 1 3), true, true, A.and true true, true, true, true, true, true, true, A.and true true, true, true, true, A.and (A.ltN 0 1) (A.ltN 2 3), true, true, true, true, true, true, Decidable.decide (0 ≤ AV.toI (AV.cellAt (A.nthA ps (A.nat n2)) 1) ∧ AV.toI (AV.cellAt (A.nthA ps (A.nat n2)) 1) ≤ 1000000000000), true, true, true, true, true, A.and true true, true, true, true, A.and (A.ltN 0 1) (A.ltN 1 3), true, true, true, true, true, true, Decidable.decide (0 ≤ AV.toI (AV.cellAt (A.nthA ps (A.nat n2)) 0) ∧ AV.toI (AV.cellAt (A.nthA ps (A.nat n2)) 0) ≤ 1000000), true, A.and true true, A.and (A.ltN 0 1) (A.ltN 0 3), true, A.and (A.ltN 0 1) (A.eqN 3 3), true, A.and true (A.ltN 0 3), A.leN (A.addN 0 3) 3, A.and (A.and (A.le 0 n2) (A.ltN (A.nat n2) (A.lenA ps))) (A.eqN 3 3), true, A.lt n2 n0, true],
   AV.tup [AV.int .i64 n2, AV.int .i64 (firstE [unlessE (Decidable.decide (0 ≤ AV.toI (AV.cellAt (A.nthA ps (A.nat n2)) 2) ∧ AV.toI (AV.cellAt (A.nthA ps (A.nat n2)) 2) ≤ 1000000000000)) 2, unlessE (A.lt n1 (AV.toI (AV.cellAt (A.nthA ps (A.nat n2)) 0))) 9])], none) := by kernel_rfl
theorem f41p3 (A : Ar) (ps : List AV) (n0 : Int) (n1 : Int) (n2 : Int) : gwalkL A tab BC0 88 [true, true, true, true, true, true, true, true, true, true, true, true, true, true, false] (f41h41_0a ps n0 n1 n2) (f41h41_0am ps n0 n1 n2) =
  some ([true, A.inR .i64 (A.add n2 1), true, A.and (A.ltN 0 1) (A.ltN 0 3), true, !A.not (A.eq (firstE [unlessE (Decidable.decide (0 ≤ AV.toI (AV.cellAt (A.nthA ps (A.nat n2)) 2) ∧ AV.toI (AV.cellAt (A.nthA ps (A.nat n2)) 2) ≤ 1000000000000)) 2, unlessE (A.lt n1 (AV.toI (AV.cellAt (A.nthA ps (A.nat n2)) 0))) 9]) 0), true, true, true, A.and (A.and true true) (Decidable.decide (List.length [unlessE (Decidable.decide (0 ≤ AV.toI (AV.cellAt (A.nthA ps (A.nat n2)) 2) ∧ AV.toI (AV.cellAt (A.nthA ps (A.nat n2)) 2) ≤ 1000000000000)) 2, unlessE (A.lt n1 (AV.toI (AV.cellAt (A.nthA ps (A.nat n2)) 0))) 9] ≤ 1000000)), List.all [AV.int .i64 (unlessE (Decidable.decide (0 ≤ AV.toI (AV.cellAt (A.nthA ps (A.nat n2)) 2) ∧ AV.toI (AV.cellAt (A.nthA ps (A.nat n2)) 2) ≤ 1000000000000)) 2), AV.int .i64 (unlessE (A.lt n1 (AV.toI (AV.cellAt (A.nthA ps (A.nat n2)) 0))) 9)] fun x => AV.bx x && Nat.beq (flatLen A x) 1, A.and true true, true, true, true, A.and (A.ltN 0 1) (A.ltN 0 3), true, A.le (AV.toI (AV.cellAt (A.nthA ps (A.nat n2)) 1)) (AV.toI (AV.cellAt (A.nthA ps (A.nat n2)) 2)), true, true, A.and (A.ltN 0 1) (A.ltN 2 3), true, true, A.and (A.ltN 0 1) (A.ltN 1 3), true, true, A.and true true, true, true, true, true, true, true, A.and true true, true, true, true, A.and (A.ltN 0 1) (A.ltN 2 3), true, true, true, true, true, true, Decidable.decide (0 ≤ AV.toI (AV.cellAt (A.nthA ps (A.nat n2)) 1) ∧ AV.toI (AV.cellAt (A.nthA ps (A.nat n2)) 1) ≤ 1000000000000), true, true, true, true, true, A.and true true, true, true, true, A.and (A.ltN 0 1) (A.ltN 1 3), true, true, true, true, true, true, Decidable.decide (0 ≤ AV.toI (AV.cellAt (A.nthA ps (A.nat n2)) 0) ∧ AV.toI (AV.cellAt (A.nthA ps (A.nat n2)) 0) ≤ 1000000), true, A.and true true, A.and (A.ltN 0 1) (A.ltN 0 3), true, A.and (A.ltN 0 1) (A.eqN 3 3), true, A.and true (A.ltN 0 3), A.leN (A.addN 0 3) 3, A.and (A.and (A.le 0 n2) (A.ltN (A.nat n2) (A.lenA ps))) (A.eqN 3 3), true, A.lt n2 n0, true],
   f41h41_0a (ps) (n0) (AV.toI (AV.cellAt (A.nthA ps (A.nat n2)) 0)) (A.add n2 1), f41h41_0am (ps) (n0) (AV.toI (AV.cellAt (A.nthA ps (A.nat n2)) 0)) (A.add n2 1)) := by kernel_rfl
theorem f41p4 (A : Ar) (ps : List AV) (n0 : Int) (n1 : Int) (n2 : Int) : gfin A tab BC0 83 [true, true, true, true, true, true, true, true, true, true, true, true, true, false, true] 41 (f41h41_0a ps n0 n1 n2) (f41h41_0am ps n0 n1 n2) =
  some ([A.and true (A.and true (A.and true true)), true, true, true, true, A.not (A.eq (firstE [unlessE (Decidable.decide (0 ≤ AV.toI (AV.cellAt (A.nthA ps (A.nat n2)) 2) ∧ AV.toI (AV.cellAt (A.nthA ps (A.nat n2)) 2) ≤ 1000000000000)) 2, 9]) 0), true, true, true, A.and (A.and true true) (Decidable.decide (List.length [unlessE (Decidable.decide (0 ≤ AV.toI (AV.cellAt (A.nthA ps (A.nat n2)) 2) ∧ AV.toI (AV.cellAt (A.nthA ps (A.nat n2)) 2) ≤ 1000000000000)) 2, 9] ≤ 1000000)), List.all [AV.int .i64 (unlessE (Decidable.decide (0 ≤ AV.toI (AV.cellAt (A.nthA ps (A.nat n2)) 2) ∧ AV.toI (AV.cellAt (A.nthA ps (A.nat n2)) 2) ≤ 1000000000000)) 2), AV.int .i64 9] fun x => AV.bx x && Nat.beq (flatLen A x) 1, A.and true true, true, true, true, true, true, !A.le (AV.toI (AV.cellAt (A.nthA ps (A.nat n2)) 1)) (AV.toI (AV.cellAt (A.nthA ps (A.nat n2)) 2)), true, true, A.and (A.ltN 0 1) (A.ltN 2 3), true, true, A.and (A.ltN 0 1) (A.ltN 1 3), true, true, A.and true true, true, true, true, true, true, true, A.and true true, true, true, true, A.and (A.ltN 0 1) (A.ltN 2 3), true, true, true, true, true, true, Decidable.decide (0 ≤ AV.toI (AV.cellAt (A.nthA ps (A.nat n2)) 1) ∧ AV.toI (AV.cellAt (A.nthA ps (A.nat n2)) 1) ≤ 1000000000000), true, true, true, true, true, A.and true true, true, true, true, A.and (A.ltN 0 1) (A.ltN 1 3), true, true, true, true, true, true, Decidable.decide (0 ≤ AV.toI (AV.cellAt (A.nthA ps (A.nat n2)) 0) ∧ AV.toI (AV.cellAt (A.nthA ps (A.nat n2)) 0) ≤ 1000000), true, A.and true true, A.and (A.ltN 0 1) (A.ltN 0 3), true, A.and (A.ltN 0 1) (A.eqN 3 3), true, A.and true (A.ltN 0 3), A.leN (A.addN 0 3) 3, A.and (A.and (A.le 0 n2) (A.ltN (A.nat n2) (A.lenA ps))) (A.eqN 3 3), true, A.lt n2 n0, true],
   AV.tup [AV.int .i64 n2, AV.int .i64 (firstE [unlessE (Decidable.decide (0 ≤ AV.toI (AV.cellAt (A.nthA ps (A.nat n2)) 2) ∧ AV.toI (AV.cellAt (A.nthA ps (A.nat n2)) 2) ≤ 1000000000000)) 2, 9])], none) := by kernel_rfl
theorem f41p6 (A : Ar) (ps : List AV) (n0 : Int) (n1 : Int) (n2 : Int) : gfin A tab BC0 71 [true, true, true, true, true, true, true, false, false, false, false, false, false, true, true] 41 (f41h41_0a ps n0 n1 n2) (f41h41_0am ps n0 n1 n2) =
  some ([A.and true (A.and true (A.and true true)), true, true, true, true, A.not (A.eq (firstE [2, unlessE (A.lt n1 (AV.toI (AV.cellAt (A.nthA ps (A.nat n2)) 0))) 9]) 0), true, true, true, A.and (A.and true true) (Decidable.decide (List.length [2, unlessE (A.lt n1 (AV.toI (AV.cellAt (A.nthA ps (A.nat n2)) 0))) 9] ≤ 1000000)), List.all [AV.int .i64 2, AV.int .i64 (unlessE (A.lt n1 (AV.toI (AV.cellAt (A.nthA ps (A.nat n2)) 0))) 9)] fun x => AV.bx x && Nat.beq (flatLen A x) 1, A.and true true, true, true, true, A.and (A.ltN 0 1) (A.ltN 0 3), true, A.le (AV.toI (AV.cellAt (A.nthA ps (A.nat n2)) 1)) (AV.toI (AV.cellAt (A.nthA ps (A.nat n2)) 2)), true, true, A.and (A.ltN 0 1) (A.ltN 2 3), true, true, A.and (A.ltN 0 1) (A.ltN 1 3), true, true, A.and true true, true, true, true, true, true, true, true, true, true, true, true, true, true, !Decidable.decide (0 ≤ AV.toI (AV.cellAt (A.nthA ps (A.nat n2)) 1) ∧ AV.toI (AV.cellAt (A.nthA ps (A.nat n2)) 1) ≤ 1000000000000), true, true, true, true, true, A.and true true, true, true, true, A.and (A.ltN 0 1) (A.ltN 1 3), true, true, true, true, true, true, Decidable.decide (0 ≤ AV.toI (AV.cellAt (A.nthA ps (A.nat n2)) 0) ∧ AV.toI (AV.cellAt (A.nthA ps (A.nat n2)) 0) ≤ 1000000), true, A.and true true, A.and (A.ltN 0 1) (A.ltN 0 3), true, A.and (A.ltN 0 1) (A.eqN 3 3), true, A.and true (A.ltN 0 3), A.leN (A.addN 0 3) 3, A.and (A.and (A.le 0 n2) (A.ltN (A.nat n2) (A.lenA ps))) (A.eqN 3 3), true, A.lt n2 n0, true],
   AV.tup [AV.int .i64 n2, AV.int .i64 (firstE [2, unlessE (A.lt n1 (AV.toI (AV.cellAt (A.nthA ps (A.nat n2)) 0))) 9])], none) := by kernel_rfl
theorem f41p8 (A : Ar) (ps : List AV) (n0 : Int) (n1 : Int) (n2 : Int) : gfin A tab BC0 71 [true, true, true, true, true, true, true, false, false, false, false, false, false, false, true] 41 (f41h41_0a ps n0 n1 n2) (f41h41_0am ps n0 n1 n2) =
  some ([A.and true (A.and true (A.and true true)), true, true, true, true, A.not (A.eq 2 0), true, true, true, A.and (A.and true true) true, List.all [AV.int .i64 2, AV.int .i64 9] fun x => AV.bx x && Nat.beq (flatLen A x) 1, A.and true true, true, true, true, true, true, !A.le (AV.toI (AV.cellAt (A.nthA ps (A.nat n2)) 1)) (AV.toI (AV.cellAt (A.nthA ps (A.nat n2)) 2)), true, true, A.and (A.ltN 0 1) (A.ltN 2 3), true, true, A.and (A.ltN 0 1) (A.ltN 1 3), true, true, A.and true true, true, true, true, true, true, true, true, true, true, true, true, true, true, !Decidable.decide (0 ≤ AV.toI (AV.cellAt (A.nthA ps (A.nat n2)) 1) ∧ AV.toI (AV.cellAt (A.nthA ps (A.nat n2)) 1) ≤ 1000000000000), true, true, true, true, true, A.and true true, true, true, true, A.and (A.ltN 0 1) (A.ltN 1 3), true, true, true, true, true, true, Decidable.decide (0 ≤ AV.toI (AV.cellAt (A.nthA ps (A.nat n2)) 0) ∧ AV.toI (AV.cellAt (A.nthA ps (A.nat n2)) 0) ≤ 1000000), true, A.and true true, A.and (A.ltN 0 1) (A.ltN 0 3), true, A.and (A.ltN 0 1) (A.eqN 3 3), true, A.and true (A.ltN 0 3), A.leN (A.addN 0 3) 3, A.and (A.and (A.le 0 n2) (A.ltN (A.nat n2) (A.lenA ps))) (A.eqN 3 3), true, A.lt n2 n0, true],
   AV.tup [AV.int .i64 n2, AV.int .i64 2], none) := by kernel_rfl
theorem f41p9 (A : Ar) (ps : List AV) (n0 : Int) (n1 : Int) (n2 : Int) : gfin A tab BC0 59 [true, false, false, false, false, false, false, false, false, false, false, false, false, true, true] 41 (f41h41_0a ps n0 n1 n2) (f41h41_0am ps n0 n1 n2) =
  some ([A.and true (A.and true (A.and true true)), true, true, true, true, A.not (A.eq (firstE [2, unlessE (A.lt n1 (AV.toI (AV.cellAt (A.nthA ps (A.nat n2)) 0))) 9]) 0), true, true, true, A.and (A.and true true) (Decidable.decide (List.length [2, unlessE (A.lt n1 (AV.toI (AV.cellAt (A.nthA ps (A.nat n2)) 0))) 9] ≤ 1000000)), List.all [AV.int .i64 2, AV.int .i64 (unlessE (A.lt n1 (AV.toI (AV.cellAt (A.nthA ps (A.nat n2)) 0))) 9)] fun x => AV.bx x && Nat.beq (flatLen A x) 1, A.and true true, true, true, true, A.and (A.ltN 0 1) (A.ltN 0 3), true, A.le (AV.toI (AV.cellAt (A.nthA ps (A.nat n2)) 1)) (AV.toI (AV.cellAt (A.nthA ps (A.nat n2)) 2)), true, true, A.and (A.ltN 0 1) (A.ltN 2 3), true, true, A.and (A.ltN 0 1) (A.ltN 1 3), true, true, A.and true true, true, true, true, true, true, true, true, true, true, true, true, true, true, true, true, true, true, true, true, true, true, true, true, true, true, true, !Decidable.decide (0 ≤ AV.toI (AV.cellAt (A.nthA ps (A.nat n2)) 0) ∧ AV.toI (AV.cellAt (A.nthA ps (A.nat n2)) 0) ≤ 1000000), true, A.and true true, A.and (A.ltN 0 1) (A.ltN 0 3), true, A.and (A.ltN 0 1) (A.eqN 3 3), true, A.and true (A.ltN 0 3), A.leN (A.addN 0 3) 3, A.and (A.and (A.le 0 n2) (A.ltN (A.nat n2) (A.lenA ps))) (A.eqN 3 3), true, A.lt n2 n0, true],
   AV.tup [AV.int .i64 n2, AV.int .i64 (firstE [2, unlessE (A.lt n1 (AV.toI (AV.cellAt (A.nthA ps (A.nat n2)) 0))) 9])], none) := by kernel_rfl
theorem f41p11 (A : Ar) (ps : List AV) (n0 : Int) (n1 : Int) (n2 : Int) : gfin A tab BC0 59 [true, false, false, false, false, false, false, false, false, false, false, false, false, false, true] 41 (f41h41_0a ps n0 n1 n2) (f41h41_0am ps n0 n1 n2) =
  some ([A.and true (A.and true (A.and true true)), true, true, true, true, A.not (A.eq 2 0), true, true, true, A.and (A.and true true) true, List.all [AV.int .i64 2, AV.int .i64 9] fun x => AV.bx x && Nat.beq (flatLen A x) 1, A.and true true, true, true, true, true, true, !A.le (AV.toI (AV.cellAt (A.nthA ps (A.nat n2)) 1)) (AV.toI (AV.cellAt (A.nthA ps (A.nat n2)) 2)), true, true, A.and (A.ltN 0 1) (A.ltN 2 3), true, true, A.and (A.ltN 0 1) (A.ltN 1 3), true, true, A.and true true, true, true, true, true, true, true, true, true, true, true, true, true, true, true, true, true, true, true, true, true, true, true, true, true, true, true, !Decidable.decide (0 ≤ AV.toI (AV.cellAt (A.nthA ps (A.nat n2)) 0) ∧ AV.toI (AV.cellAt (A.nthA ps (A.nat n2)) 0) ≤ 1000000), true, A.and true true, A.and (A.ltN 0 1) (A.ltN 0 3), true, A.and (A.ltN 0 1) (A.eqN 3 3), true, A.and true (A.ltN 0 3), A.leN (A.addN 0 3) 3, A.and (A.and (A.le 0 n2) (A.ltN (A.nat n2) (A.lenA ps))) (A.eqN 3 3), true, A.lt n2 n0, true],
   AV.tup [AV.int .i64 n2, AV.int .i64 2], none) := by kernel_rfl
theorem f41p12 (A : Ar) (ps : List AV) (n0 : Int) (n1 : Int) (n2 : Int) : gfin A tab BC0 14 [false] 41 (f41h41_0a ps n0 n1 n2) (f41h41_0am ps n0 n1 n2) =
  some ([A.and true (A.and true (A.and true true)), true, true, !A.lt n2 n0, true],
   AV.tup [AV.int .i64 0, AV.int .i64 0], none) := by kernel_rfl
end Go.Proofs.Ytjhdnpmojhkbjaa
/- Contracts as a list. No condition. -/
namespace Go.Proofs.Ytjhdnpmojhkbjaa
theorem sizeI_abs (n : Int) : sizeI n = (n.natAbs : Int) := by unfold sizeI; omega
theorem tmod_big {a b : Int} (ha : bigB a = true) : bigB (a.tmod b) = true := by
  simp only [bigB, decide_eq_true_eq] at ha ⊢
  have h : (a.tmod b).natAbs ≤ a.natAbs := by rw [Int.natAbs_tmod]; exact Nat.mod_le _ _
  omega
theorem gcd_step (a b : Int) : Int.gcd b (a.tmod b) = Int.gcd a b := by
  unfold Int.gcd
  rw [Int.natAbs_tmod, Nat.gcd_comm a.natAbs b.natAbs, Nat.gcd_rec b.natAbs a.natAbs, Nat.gcd_comm]
theorem l108 {C : Ctx} (hC : C.P = Try.prog) (g : Nat) : ∀ (k : Nat) (a b : Int), b.natAbs ≤ k → bigB a = true → bigB b = true → Int.gcd a b = g → Ev C (f108h108_0a a b) (f108h108_0am a b) (FinQ 108 (.int .i64 (g : Int)) none) := by
  intro k
  induction k with
  | zero =>
    intro a b hk ha hb hg
    have hb0 : b = 0 := by omega
    subst hb0
    refine fin hC BC0_ok (f108p2 std a 0) (by simp [ha]) ?_ rfl
    rw [sizeI_abs, ← hg, Int.gcd_zero_right]
  | succ k ih =>
    intro a b hk ha hb hg
    by_cases hb0 : b = 0
    · subst hb0
      refine fin hC BC0_ok (f108p2 std a 0) (by simp [ha]) ?_ rfl
      rw [sizeI_abs, ← hg, Int.gcd_zero_right]
    · refine go hC BC0_ok (f108p1 std a b) (by simp [hb0]) ?_
      refine ih b (a.tmod b) ?_ hb (tmod_big ha) (by rw [gcd_step, hg])
      rw [Int.natAbs_tmod]
      have := Nat.mod_lt a.natAbs (show 0 < b.natAbs by omega)
      omega
theorem gcd108_ok (a b : Int) (h : bigB a = true ∧ bigB b = true) : Pure Try.prog 108 [.int .i64 a, .int .i64 b] (.int .i64 (Int.gcd a b : Int)) none :=
  start (f108e_at a b) fun C hC => go hC BC0_ok (f108p0 std a b) (by simp) (l108 hC _ b.natAbs a b (Nat.le_refl _) h.1 h.2 rfl)
def floorI (n d : Int) : Int := if n.tmod d < 0 then n.tdiv d - 1 else n.tdiv d
theorem tdiv_rng (n : Int) {d : Int} (h : 0 < d) : n.tdiv d * d + n.tmod d = n ∧ -d < n.tmod d ∧ n.tmod d < d ∧ (0 ≤ n → 0 ≤ n.tdiv d ∧ 0 ≤ n.tmod d) ∧ (n ≤ 0 → n.tdiv d ≤ 0 ∧ n.tmod d ≤ 0) ∧ (n.tdiv d).natAbs ≤ n.natAbs := by
  refine ⟨Int.tdiv_mul_add_tmod n d, (tmodR n h).1, (tmodR n h).2, fun hn => ⟨Int.tdiv_nonneg hn (by omega), Int.tmod_nonneg _ hn⟩, fun hn => ?_, ?_⟩
  · have e1 : (-n).tdiv d = -(n.tdiv d) := Int.neg_tdiv n d
    have e2 : (-n).tmod d = -(n.tmod d) := Int.neg_tmod n d
    have h1 := Int.tdiv_nonneg (show 0 ≤ -n by omega) (show 0 ≤ d by omega)
    have h2 := Int.tmod_nonneg d (show 0 ≤ -n by omega)
    omega
  · rw [Int.natAbs_tdiv]; exact Nat.div_le_self _ _
theorem floorI_rng (n : Int) {d : Int} (h : 0 < d) : floorI n d * d ≤ n ∧ n < floorI n d * d + d := by
  obtain ⟨h1, h2, h3, _⟩ := tdiv_rng n h
  unfold floorI
  split
  · rw [Int.sub_mul]; omega
  · omega
theorem floor49_ok (n d : Int) (h : (0 < d ∧ bigB d = true) ∧ bigB n = true) : Pure Try.prog 49 [.int .i64 n, .int .i64 d] (.int .i64 (floorI n d)) none :=
  start (f49e_at n d) fun C hC => by
    obtain ⟨⟨hd, hdb⟩, hn⟩ := h
    simp only [bigB, decide_eq_true_eq] at hn hdb
    obtain ⟨h1, h2, h3, _, _, h6⟩ := tdiv_rng n hd
    by_cases hm : n.tmod d < 0
    · exact fin hC BC0_ok (f49p0 std n d) (by simp [hm]; omega) (by simp [floorI, hm]) rfl
    · exact fin hC BC0_ok (f49p1 std n d) (by simp [hm]; omega) (by simp [floorI, hm]) rfl
def lN (n d : Int) : Int := n.tdiv (Int.gcd n d : Int)
def lD (n d : Int) : Int := d.tdiv (Int.gcd n d : Int)
theorem l114 {C : Ctx} (hC : C.P = Try.prog) (n d : Int) (hn : bigB n = true) (hd0 : 0 < d) (hd : bigB d = true) : ∀ (k : Nat) (a b : Int), b.natAbs ≤ k → 0 ≤ a → 0 ≤ b → 0 < a + b → (Int.gcd a b : Int) = Int.gcd n d →
    Ev C (f114h114_0a n d b a) (f114h114_0am n d b a) (FinQ 114 (.agg (.gen [.int .i64 (lN n d), .int .i64 (lD n d)])) none) := by
  intro k
  have fin0 : ∀ a, 0 ≤ a → 0 < a + 0 → (Int.gcd a 0 : Int) = Int.gcd n d → Ev C (f114h114_0a n d 0 a) (f114h114_0am n d 0 a) (FinQ 114 (.agg (.gen [.int .i64 (lN n d), .int .i64 (lD n d)])) none) := by
    intro a ha hab hg
    rw [Int.gcd_zero_right] at hg
    have hga : (Int.gcd n d : Int) = a := by omega
    have ha0 : 0 < a := by omega
    obtain ⟨_, _, _, _, _, h1⟩ := tdiv_rng n ha0
    obtain ⟨_, _, _, _, _, h2⟩ := tdiv_rng d ha0
    simp only [bigB, decide_eq_true_eq] at hn hd
    exact fin hC BC0_ok (f114p2 std n d 0 a) (by simp; omega) (by rw [lN, lD, hga]; rfl) rfl
  induction k with
  | zero =>
    intro a b hk ha hb hab hg
    have hb0 : b = 0 := by omega
    subst hb0
    exact fin0 a ha hab hg
  | succ k ih =>
    intro a b hk ha hb hab hg
    by_cases hb0 : b = 0
    · subst hb0
      exact fin0 a ha hab hg
    · refine go hC BC0_ok (f114p1 std n d b a) (by simp [hb0]) ?_
      have h1 := Int.tmod_nonneg b ha
      have h2 := Int.tmod_lt_of_pos a (show 0 < b by omega)
      exact ih b (a.tmod b) (by omega) hb h1 (by omega) (by rw [gcd_step, hg])
theorem lowest114_ok (n d : Int) (h : bigB n = true ∧ 0 < d ∧ bigB d = true) : Pure Try.prog 114 [.int .i64 n, .int .i64 d] (.agg (.gen [.int .i64 (lN n d), .int .i64 (lD n d)])) none :=
  start (f114e_at n d) fun C hC => by
    obtain ⟨hn, hd0, hd⟩ := h
    have hn' := hn
    simp only [bigB, decide_eq_true_eq] at hn'
    refine go hC BC0_ok (f114p0 std n d) (by simp; omega) ?_
    have e : std.max n (std.neg n) = (n.natAbs : Int) := by simp; omega
    rw [e]
    exact l114 hC n d hn hd0 hd n.natAbs d (n.natAbs : Int) (by omega) (by omega) (by omega) (by omega) (by rw [Int.gcd_comm]; simp [Int.gcd])
def ltF (a b c d : Int) : Bool := decide (a * d < c * b)
def prodB (a b c d : Int) : Bool := decide ((-9223372036854775808 ≤ a * d ∧ a * d ≤ 9223372036854775807) ∧ (-9223372036854775808 ≤ c * b ∧ c * b ≤ 9223372036854775807))
theorem less135_ok (a b c d : Int) (h : prodB a b c d = true) : Pure Try.prog 135 [.agg (.gen [.int .i64 a, .int .i64 b]), .agg (.gen [.int .i64 c, .int .i64 d])] (.bool (ltF a b c d)) none :=
  start (f135e_at a b c d) fun C hC => fin hC BC0_ok (f135p0 std a b c d) (by simp [prodB] at h ⊢; omega) rfl rfl
theorem copyP_ok (ps : List AV) (h : ps.length ≤ 1000000) : Pure Try.prog 24 [.list (.big (.agg [.int .i64, .int .i64, .int .i64]) ps)] (.list (.big (.agg [.int .i64, .int .i64, .int .i64]) ps)) newF :=
  new_row (e := 49) (sz := 2) (start (f24e_at ps) fun C hC => fin hC BC0_ok (f24p0 std ps) (by simp; omega) rfl rfl) rfl rfl
def prP (p : AV) : Int × Int := ((p.cellAt 0).toI, (p.cellAt 1).toI)
theorem l45 {C : Ctx} (hC : C.P = Try.prog) (xs ys : List AV) (hl : xs.length = ys.length) (hlen : xs.length ≤ 1000000) : ∀ (d i : Nat), xs.length - i = d → i ≤ xs.length → (xs.take i).map prP = (ys.take i).map prP →
    Ev C (f45h45_0a xs ys i) (f45h45_0am xs ys i) (FinQ 45 (.bool (decide (xs.map prP = ys.map prP))) none) := by
  intro d
  induction d with
  | zero =>
    intro i hd hi ht
    have hi : i = xs.length := by omega
    have he : xs.map prP = ys.map prP := by rw [hi] at ht; rw [List.take_length, hl, List.take_length] at ht; exact ht
    exact fin hC BC0_ok (f45p4 std xs ys i) (by simp; omega) (by simp [he]) rfl
  | succ d ih =>
    intro i hd hi ht
    have hlt : i < xs.length := by omega
    have hlt2 : i < ys.length := by omega
    have e1 : std.nthA xs (std.nat (i : Int)) = xs[i] := by simp [hlt]
    have e2 : std.nthA ys (std.nat (i : Int)) = ys[i] := by simp [hlt2]
    by_cases h1 : prP xs[i] = prP ys[i]
    · refine go hC BC0_ok (f45p3 std xs ys i) ?_ (ih (i + 1) (by omega) (by omega) (by
        rw [List.take_succ_eq_append_getElem hlt, List.take_succ_eq_append_getElem hlt2, List.map_append, List.map_append, ht, List.map_singleton, List.map_singleton, h1]))
      simp only [e1, e2]
      simp only [prP, Prod.mk.injEq] at h1
      simp [h1.1, h1.2, hlt, hlt2, Row.len]
      omega
    · refine fin hC BC0_ok (f45p2 std xs ys i) ?_ ?_ rfl
      · simp only [e1, e2]
        simp only [prP, Prod.mk.injEq, not_and] at h1
        simp [hlt, hlt2, Row.len]
        by_cases h2 : (xs[i].cellAt 0).toI = (ys[i].cellAt 0).toI
        · exact .inr (h1 h2)
        · exact .inl h2
      · have : xs.map prP ≠ ys.map prP := fun e => h1 (by
          have := congrArg (fun l => l[i]?) e
          simpa [hlt, hlt2] using this)
        simp [this]
theorem ranges45_ok (xs ys : List AV) (h : xs.length ≤ 1000000) : Pure Try.prog 45 [.list (.big (.agg [.int .i64, .int .i64]) xs), .list (.big (.agg [.int .i64, .int .i64]) ys)] (.bool (decide (xs.map prP = ys.map prP))) none :=
  start (f45e_at xs ys) fun C hC => by
    by_cases hl : xs.length = ys.length
    · exact go hC BC0_ok (f45p1 std xs ys) (by simp; omega) (l45 hC xs ys hl h xs.length 0 (by omega) (by omega) rfl)
    · refine fin hC BC0_ok (f45p0 std xs ys) (by simp; omega) ?_ rfl
      have : xs.map prP ≠ ys.map prP := fun e => hl (by have := congrArg List.length e; simpa using this)
      simp [this]
def okP (c l h : Int) : Bool := decide ((0 ≤ c ∧ c ≤ 1000000) ∧ (0 ≤ l ∧ l ≤ 1000000000000) ∧ 0 ≤ h ∧ h ≤ 1000000000000)
def pC (p : AV) : Int := (p.cellAt 0).toI
def pL (p : AV) : Int := (p.cellAt 1).toI
def pH (p : AV) : Int := (p.cellAt 2).toI
def chkL : Int → Nat → List AV → Int × Int
  | _, _, [] => (0, 0)
  | last, i, p :: ps => if okP (pC p) (pL p) (pH p) = true then (if pL p ≤ pH p ∧ last < pC p then chkL (pC p) (i + 1) ps else (i, 9)) else (i, 2)
def chkP (ps : List AV) : Int × Int := if ps.length = 0 then (0, 10) else if 20 < ps.length then (0, 8) else chkL (-1) 0 ps
theorem l41 {C : Ctx} (hC : C.P = Try.prog) (ps : List AV) (hlen : ps.length ≤ 1000000) : ∀ (d i : Nat) (last : Int), ps.length - i = d → i ≤ ps.length →
    Ev C (f41h41_0a ps ps.length last i) (f41h41_0am ps ps.length last i) (FinQ 41 (.tup [.int .i64 (chkL last i (ps.drop i)).1, .int .i64 (chkL last i (ps.drop i)).2]) none) := by
  intro d
  induction d with
  | zero =>
    intro i last hd hi
    exact fin hC BC0_ok (f41p12 std ps ps.length last i) (by simp; omega) (by rw [List.drop_of_length_le (by omega)]; rfl) rfl
  | succ d ih =>
    intro i last hd hi
    have hlt : i < ps.length := by omega
    have e1 : std.nthA ps (std.nat (i : Int)) = ps[i] := by simp [hlt]
    rw [List.drop_eq_getElem_cons hlt, chkL]
    have g1 : pC ps[i] = (ps[i].cellAt 0).toI := rfl
    have g2 : pL ps[i] = (ps[i].cellAt 1).toI := rfl
    have g3 : pH ps[i] = (ps[i].cellAt 2).toI := rfl
    have ih' := ih (i + 1) (pC ps[i]) (by omega) (by omega)
    have z1 : AV.bx (.int .i64 2) = true := rfl
    by_cases h1 : 0 ≤ pC ps[i] ∧ pC ps[i] ≤ 1000000
    · by_cases h2 : 0 ≤ pL ps[i] ∧ pL ps[i] ≤ 1000000000000
      · by_cases h3 : 0 ≤ pH ps[i] ∧ pH ps[i] ≤ 1000000000000
        · rw [if_pos (by rw [okP, decide_eq_true_eq]; exact ⟨h1, h2, h3⟩)]
          by_cases h4 : pL ps[i] ≤ pH ps[i]
          · by_cases h5 : last < pC ps[i]
            · rw [if_pos ⟨h4, h5⟩]
              refine go hC BC0_ok (f41p3 std ps ps.length last i) ?_ (by simpa [hlt, g1] using ih')
              simp only [e1, ← g1, ← g2, ← g3, decide_eq_true h1, decide_eq_true h2, decide_eq_true h3, s_lt, decide_eq_true h5]
              simp [hlt, h4, firstE, AV.bx, flatLen]
              omega
            · rw [if_neg (fun h => h5 h.2)]
              refine fin hC BC0_ok (f41p2 std ps ps.length last i) ?_ ?_ rfl
              · simp only [e1, ← g1, ← g2, ← g3, decide_eq_true h1, decide_eq_true h2, decide_eq_true h3, s_lt, decide_eq_false h5]
                simp [hlt, h4, firstE, AV.bx, flatLen]
              · simp only [e1, ← g1, ← g2, ← g3, decide_eq_true h3, s_lt, decide_eq_false h5]
                simp [firstE]
          · rw [if_neg (fun h => h4 h.1)]
            refine fin hC BC0_ok (f41p4 std ps ps.length last i) ?_ ?_ rfl
            · simp only [e1, ← g1, ← g2, ← g3, decide_eq_true h1, decide_eq_true h2, decide_eq_true h3]
              simp [hlt, firstE, AV.bx, flatLen]
              omega
            · simp only [e1, ← g3, decide_eq_true h3]
              simp [firstE]
        · rw [if_neg (by rw [okP, decide_eq_true_eq]; exact fun h => h3 h.2.2)]
          by_cases h4 : pL ps[i] ≤ pH ps[i]
          · refine fin hC BC0_ok (f41p2 std ps ps.length last i) ?_ ?_ rfl
            · simp only [e1, ← g1, ← g2, ← g3, decide_eq_true h1, decide_eq_true h2, decide_eq_false h3]
              simp [hlt, h4, firstE, AV.bx, flatLen]
            · simp only [e1, ← g1, ← g3, decide_eq_false h3]
              simp [firstE]
          · refine fin hC BC0_ok (f41p4 std ps ps.length last i) ?_ ?_ rfl
            · simp only [e1, ← g1, ← g2, ← g3, decide_eq_true h1, decide_eq_true h2, decide_eq_false h3]
              simp [hlt, firstE, AV.bx, flatLen]
              omega
            · simp only [e1, ← g3, decide_eq_false h3]
              simp [firstE]
      · rw [if_neg (by rw [okP, decide_eq_true_eq]; exact fun h => h2 h.2.1)]
        by_cases h4 : pL ps[i] ≤ pH ps[i]
        · refine fin hC BC0_ok (f41p6 std ps ps.length last i) ?_ ?_ rfl
          · simp only [e1, ← g1, ← g2, ← g3, decide_eq_true h1, decide_eq_false h2]
            simp [hlt, h4, firstE, AV.bx, flatLen]
          · simp [firstE]
        · refine fin hC BC0_ok (f41p8 std ps ps.length last i) ?_ rfl rfl
          simp only [e1, ← g1, ← g2, ← g3, decide_eq_true h1, decide_eq_false h2]
          simp [hlt, firstE, AV.bx, flatLen]
          omega
    · rw [if_neg (by rw [okP, decide_eq_true_eq]; exact fun h => h1 h.1)]
      by_cases h4 : pL ps[i] ≤ pH ps[i]
      · refine fin hC BC0_ok (f41p9 std ps ps.length last i) ?_ ?_ rfl
        · simp only [e1, ← g1, ← g2, ← g3, decide_eq_false h1]
          simp [hlt, h4, firstE, AV.bx, flatLen]
        · simp [firstE]
      · refine fin hC BC0_ok (f41p11 std ps ps.length last i) ?_ rfl rfl
        simp only [e1, ← g1, ← g2, ← g3, decide_eq_false h1]
        simp [hlt, firstE, AV.bx, flatLen]
        omega
theorem chk41_ok (ps : List AV) (h : ps.length ≤ 1000000) : Pure Try.prog 41 [.list (.big (.agg [.int .i64, .int .i64, .int .i64]) ps)] (.tup [.int .i64 (chkP ps).1, .int .i64 (chkP ps).2]) none :=
  start (f41e_at ps) fun C hC => by
    unfold chkP
    by_cases h1 : ps.length = 0
    · have hne : ps = [] := List.eq_nil_of_length_eq_zero h1
      subst hne
      rw [if_pos h1]; exact fin hC BC0_ok (f41p0 std []) (by simp [firstE, AV.bx, flatLen]) (by simp [firstE]) rfl
    · rw [if_neg h1]
      have hne : ps ≠ [] := fun e => h1 (by rw [e]; rfl)
      have h1' : (0 : Int) < (ps.length : Int) := by omega
      by_cases h2 : 20 < ps.length
      · rw [if_pos h2]
        have h2' : ¬ (ps.length : Int) ≤ 20 := by omega
        refine fin hC BC0_ok (f41p0 std ps) ?_ ?_ rfl
        · simp only [s_lt, s_le, s_int, s_lenA, decide_eq_true h1', decide_eq_false h2']; simp [firstE, AV.bx, flatLen]
        · simp only [s_lt, s_le, s_int, s_lenA, decide_eq_true h1', decide_eq_false h2']; simp [firstE]
      · rw [if_neg h2]
        have h2' : (ps.length : Int) ≤ 20 := by omega
        refine go hC BC0_ok (f41p1 std ps) ?_ (l41 hC ps h ps.length 0 (-1) (by omega) (by omega))
        simp only [s_lt, s_le, s_int, s_lenA, decide_eq_true h1', decide_eq_true h2']; simp [firstE, AV.bx, flatLen]
def k108 : Ctr := ⟨108, 0, fun _ a => match a with | [.int .i64 a, .int .i64 b] => some (decide (bigB a = true ∧ bigB b = true), .int .i64 (Int.gcd a b : Int), none) | _ => none⟩
theorem k108_ok : k108.OK Try.prog := fun pa args r fr h => by
  simp only [k108] at h
  split at h
  · simp only [Option.some.injEq, Prod.mk.injEq, decide_eq_true_eq] at h
    obtain ⟨h0, rfl, rfl⟩ := h
    exact gcd108_ok _ _ h0
  · cases h
def k49 : Ctr := ⟨49, 0, fun _ a => match a with | [.int .i64 n, .int .i64 d] => some (decide ((0 < d ∧ bigB d = true) ∧ bigB n = true), .int .i64 (floorI n d), none) | _ => none⟩
theorem k49_ok : k49.OK Try.prog := fun pa args r fr h => by
  simp only [k49] at h
  split at h
  · simp only [Option.some.injEq, Prod.mk.injEq, decide_eq_true_eq] at h
    obtain ⟨h0, rfl, rfl⟩ := h
    exact floor49_ok _ _ h0
  · cases h
def k114 : Ctr := ⟨114, 0, fun _ a => match a with | [.int .i64 n, .int .i64 d] => some (decide (bigB n = true ∧ 0 < d ∧ bigB d = true), .agg (.gen [.int .i64 (lN n d), .int .i64 (lD n d)]), none) | _ => none⟩
theorem k114_ok : k114.OK Try.prog := fun pa args r fr h => by
  simp only [k114] at h
  split at h
  · simp only [Option.some.injEq, Prod.mk.injEq, decide_eq_true_eq] at h
    obtain ⟨h0, rfl, rfl⟩ := h
    exact lowest114_ok _ _ h0
  · cases h
def k135 : Ctr := ⟨135, 0, fun _ a => match a with | [.agg (.gen [.int .i64 a, .int .i64 b]), .agg (.gen [.int .i64 c, .int .i64 d])] => some (decide (prodB a b c d = true), .bool (ltF a b c d), none) | _ => none⟩
theorem k135_ok : k135.OK Try.prog := fun pa args r fr h => by
  simp only [k135] at h
  split at h
  · simp only [Option.some.injEq, Prod.mk.injEq, decide_eq_true_eq] at h
    obtain ⟨h0, rfl, rfl⟩ := h
    exact less135_ok _ _ _ _ h0
  · cases h
def k24 : Ctr := ⟨24, 0, fun _ a => match a with | [.list (.big (.agg [.int .i64, .int .i64, .int .i64]) ps)] => some (decide (ps.length ≤ 1000000), .list (.big (.agg [.int .i64, .int .i64, .int .i64]) ps), newF) | _ => none⟩
theorem k24_ok : k24.OK Try.prog := fun pa args r fr h => by
  simp only [k24] at h
  split at h
  · simp only [Option.some.injEq, Prod.mk.injEq, decide_eq_true_eq] at h
    obtain ⟨h0, rfl, rfl⟩ := h
    exact copyP_ok _ h0
  · cases h
def k45 : Ctr := ⟨45, 0, fun _ a => match a with | [.list (.big (.agg [.int .i64, .int .i64]) xs), .list (.big (.agg [.int .i64, .int .i64]) ys)] => some (decide (xs.length ≤ 1000000), .bool (decide (xs.map prP = ys.map prP)), none) | _ => none⟩
theorem k45_ok : k45.OK Try.prog := fun pa args r fr h => by
  simp only [k45] at h
  split at h
  · simp only [Option.some.injEq, Prod.mk.injEq, decide_eq_true_eq] at h
    obtain ⟨h0, rfl, rfl⟩ := h
    exact ranges45_ok _ _ h0
  · cases h
def k41 : Ctr := ⟨41, 0, fun _ a => match a with | [.list (.big (.agg [.int .i64, .int .i64, .int .i64]) ps)] => some (decide (ps.length ≤ 1000000), .tup [.int .i64 (chkP ps).1, .int .i64 (chkP ps).2], none) | _ => none⟩
theorem k41_ok : k41.OK Try.prog := fun pa args r fr h => by
  simp only [k41] at h
  split at h
  · simp only [Option.some.injEq, Prod.mk.injEq, decide_eq_true_eq] at h
    obtain ⟨h0, rfl, rfl⟩ := h
    exact chk41_ok _ h0
  · cases h
def BC1 : List Ctr := [k108, k49, k114, k135, k24, k45, k41] ++ BC0
theorem BC1_ok : CtrsOK Try.prog BC1 := ⟨k108_ok, ⟨k49_ok, ⟨k114_ok, ⟨k135_ok, ⟨k24_ok, ⟨k45_ok, ⟨k41_ok, BC0_ok⟩⟩⟩⟩⟩⟩⟩
end Go.Proofs.Ytjhdnpmojhkbjaa
/- Paths of functions, printed by the explorer (Gx). No condition. -/
namespace Go.Proofs.Ytjhdnpmojhkbjaa
set_option maxRecDepth 100000
set_option linter.unusedVariables false
def f52e (n : Int) (d : Int) (m : Int) (k : Int) : List AFrame := [{ fn := 52, N := 47, env := [(0, AV.int .i64 n), (1, AV.int .i64 d), (2, AV.int .i64 m), (3, AV.int .i64 k)], todo := [.code a52.code], defs := [], rnd := none, ret := false, res := [ARes.tmp 8] }]
theorem f52e_at (n : Int) (d : Int) (m : Int) (k : Int) : enterA tab 52 [AV.int .i64 n, AV.int .i64 d, AV.int .i64 m, AV.int .i64 k] = some { fn := 52, N := 47, env := [(0, AV.int .i64 n), (1, AV.int .i64 d), (2, AV.int .i64 m), (3, AV.int .i64 k)], todo := [.code a52.code], defs := [], rnd := none, ret := false, res := [ARes.tmp 8] } := rfl
def f52h52_0a (n0 : Int) (n1 : Int) (n2 : Int) (n3 : Int) : List AFrame := [{ fn := 52, N := 47, env := [(0, AV.int .i64 n0), (1, AV.int .i64 n1), (2, AV.int .i64 n2), (3, AV.int .i64 n3)], todo := .code (ACode.gh [] l52_0) :: k52_0, defs := [], rnd := none, ret := false, res := [ARes.tmp 8] }]
def f52h52_0am (n0 : Int) (n1 : Int) (n2 : Int) (n3 : Int) : AHeap := []
theorem f52p0 (A : Ar) (n : Int) (d : Int) (m : Int) (k : Int) : gwalkL A tab BC1 7 [] (f52e n d m k) [] =
  some ([true],
   f52h52_0a (n) (d) (m) (k), f52h52_0am (n) (d) (m) (k)) := by kernel_rfl
theorem f52p1 (A : Ar) (n0 : Int) (n1 : Int) (n2 : Int) (n3 : Int) : gfin A tab BC1 27 [true] 52 (f52h52_0a n0 n1 n2 n3) (f52h52_0am n0 n1 n2 n3) =
  some ([A.and true (A.and true true), true, A.lt (floorI n0 n1) (floorI n2 n3), true, true, true, true, true, A.and true (Decidable.decide ((0 < n3 ∧ bigB n3 = true) ∧ bigB n2 = true)), true, true, A.and true (Decidable.decide ((0 < n1 ∧ bigB n1 = true) ∧ bigB n0 = true)), true, true],
   AV.int .i64 (-1), none) := by kernel_rfl
theorem f52p2 (A : Ar) (n0 : Int) (n1 : Int) (n2 : Int) (n3 : Int) : gfin A tab BC1 36 [false, true] 52 (f52h52_0a n0 n1 n2 n3) (f52h52_0am n0 n1 n2 n3) =
  some ([A.and true (A.and true true), true, A.lt (floorI n2 n3) (floorI n0 n1), true, true, true, !A.lt (floorI n0 n1) (floorI n2 n3), true, true, true, true, true, A.and true (Decidable.decide ((0 < n3 ∧ bigB n3 = true) ∧ bigB n2 = true)), true, true, A.and true (Decidable.decide ((0 < n1 ∧ bigB n1 = true) ∧ bigB n0 = true)), true, true],
   AV.int .i64 1, none) := by kernel_rfl
theorem f52p3 (A : Ar) (n0 : Int) (n1 : Int) (n2 : Int) (n3 : Int) : gfin A tab BC1 64 [false, false, true, true, true, true] 52 (f52h52_0a n0 n1 n2 n3) (f52h52_0am n0 n1 n2 n3) =
  some ([A.and true (A.and true true), true, A.eq (A.sub n2 (A.mul (floorI n2 n3) n3)) 0, true, true, true, true, true, A.eq (A.sub n0 (A.mul (floorI n0 n1) n1)) 0, true, true, true, true, true, A.inR .i64 (A.sub n2 (A.mul (floorI n2 n3) n3)), A.inR .i64 (A.mul (floorI n2 n3) n3), true, true, true, A.inR .i64 (A.sub n0 (A.mul (floorI n0 n1) n1)), A.inR .i64 (A.mul (floorI n0 n1) n1), true, true, true, !A.lt (floorI n2 n3) (floorI n0 n1), true, true, true, !A.lt (floorI n0 n1) (floorI n2 n3), true, true, true, true, true, A.and true (Decidable.decide ((0 < n3 ∧ bigB n3 = true) ∧ bigB n2 = true)), true, true, A.and true (Decidable.decide ((0 < n1 ∧ bigB n1 = true) ∧ bigB n0 = true)), true, true],
   AV.int .i64 0, none) := by kernel_rfl
theorem f52p4 (A : Ar) (n0 : Int) (n1 : Int) (n2 : Int) (n3 : Int) : gfin A tab BC1 72 [false, false, true, true, true, false, true] 52 (f52h52_0a n0 n1 n2 n3) (f52h52_0am n0 n1 n2 n3) =
  some ([A.and true (A.and true true), true, A.eq (A.sub n0 (A.mul (floorI n0 n1) n1)) 0, true, true, !A.eq (A.sub n2 (A.mul (floorI n2 n3) n3)) 0, true, true, true, true, true, A.eq (A.sub n0 (A.mul (floorI n0 n1) n1)) 0, true, true, true, true, true, A.inR .i64 (A.sub n2 (A.mul (floorI n2 n3) n3)), A.inR .i64 (A.mul (floorI n2 n3) n3), true, true, true, A.inR .i64 (A.sub n0 (A.mul (floorI n0 n1) n1)), A.inR .i64 (A.mul (floorI n0 n1) n1), true, true, true, !A.lt (floorI n2 n3) (floorI n0 n1), true, true, true, !A.lt (floorI n0 n1) (floorI n2 n3), true, true, true, true, true, A.and true (Decidable.decide ((0 < n3 ∧ bigB n3 = true) ∧ bigB n2 = true)), true, true, A.and true (Decidable.decide ((0 < n1 ∧ bigB n1 = true) ∧ bigB n0 = true)), true, true],
   AV.int .i64 (-1), none) := by kernel_rfl
theorem f52p5 (A : Ar) (n0 : Int) (n1 : Int) (n2 : Int) (n3 : Int) : gfin A tab BC1 80 [false, false, false, false, false, false, false, true] 52 (f52h52_0a n0 n1 n2 n3) (f52h52_0am n0 n1 n2 n3) =
  some ([A.and true (A.and true true), true, A.eq (A.sub n2 (A.mul (floorI n2 n3) n3)) 0, true, true, !A.eq (A.sub n0 (A.mul (floorI n0 n1) n1)) 0, true, true, true, true, true, true, true, true, !A.eq (A.sub n0 (A.mul (floorI n0 n1) n1)) 0, true, true, true, true, true, A.inR .i64 (A.sub n2 (A.mul (floorI n2 n3) n3)), A.inR .i64 (A.mul (floorI n2 n3) n3), true, true, true, A.inR .i64 (A.sub n0 (A.mul (floorI n0 n1) n1)), A.inR .i64 (A.mul (floorI n0 n1) n1), true, true, true, !A.lt (floorI n2 n3) (floorI n0 n1), true, true, true, !A.lt (floorI n0 n1) (floorI n2 n3), true, true, true, true, true, A.and true (Decidable.decide ((0 < n3 ∧ bigB n3 = true) ∧ bigB n2 = true)), true, true, A.and true (Decidable.decide ((0 < n1 ∧ bigB n1 = true) ∧ bigB n0 = true)), true, true],
   AV.int .i64 1, none) := by kernel_rfl
theorem f52p6 (A : Ar) (n0 : Int) (n1 : Int) (n2 : Int) (n3 : Int) : gwalkL A tab BC1 89 [false, false, false, false, false, false, false, false] (f52h52_0a n0 n1 n2 n3) (f52h52_0am n0 n1 n2 n3) =
  some ([true, true, true, true, true, true, true, true, !A.eq (A.sub n2 (A.mul (floorI n2 n3) n3)) 0, true, true, !A.eq (A.sub n0 (A.mul (floorI n0 n1) n1)) 0, true, true, true, true, true, true, true, true, !A.eq (A.sub n0 (A.mul (floorI n0 n1) n1)) 0, true, true, true, true, true, A.inR .i64 (A.sub n2 (A.mul (floorI n2 n3) n3)), A.inR .i64 (A.mul (floorI n2 n3) n3), true, true, true, A.inR .i64 (A.sub n0 (A.mul (floorI n0 n1) n1)), A.inR .i64 (A.mul (floorI n0 n1) n1), true, true, true, !A.lt (floorI n2 n3) (floorI n0 n1), true, true, true, !A.lt (floorI n0 n1) (floorI n2 n3), true, true, true, true, true, A.and true (Decidable.decide ((0 < n3 ∧ bigB n3 = true) ∧ bigB n2 = true)), true, true, A.and true (Decidable.decide ((0 < n1 ∧ bigB n1 = true) ∧ bigB n0 = true)), true, true],
   f52h52_0a (n3) (A.sub n2 (A.mul (floorI n2 n3) n3)) (n1) (A.sub n0 (A.mul (floorI n0 n1) n1)), f52h52_0am (n3) (A.sub n2 (A.mul (floorI n2 n3) n3)) (n1) (A.sub n0 (A.mul (floorI n0 n1) n1))) := by kernel_rfl
def f106e (ps : List AV) : List AFrame := [{ fn := 106, N := 73, env := [(0, AV.list (Row.big (Sh.agg [Sh.int .i64, Sh.int .i64, Sh.int .i64]) ps))], todo := [.code a106.code], defs := [], rnd := none, ret := false, res := [ARes.cell 2 true 4] }]
theorem f106e_at (ps : List AV) : enterA tab 106 [AV.list (Row.big (Sh.agg [Sh.int .i64, Sh.int .i64, Sh.int .i64]) ps)] = some { fn := 106, N := 73, env := [(0, AV.list (Row.big (Sh.agg [Sh.int .i64, Sh.int .i64, Sh.int .i64]) ps))], todo := [.code a106.code], defs := [], rnd := none, ret := false, res := [ARes.cell 2 true 4] } := rfl
def f106h106_0a (ps : List AV) (n0 : Int) (n1 : Int) : List AFrame := [{ fn := 106, N := 73, env := [(0, AV.list (Row.big (Sh.agg [Sh.int .i64, Sh.int .i64, Sh.int .i64]) ps)), (2, AV.ptr 106003 0 0 0), (3, AV.ptr 106004 0 0 0), (4, AV.bool false), (12, AV.list (Row.big (Sh.agg [Sh.int .i64, Sh.int .i64, Sh.int .i64]) ps)), (13, AV.int .i64 n0), (14, AV.int .i64 n1)], todo := .code (ACode.gh [] l106_0) :: k106_0, defs := [], rnd := none, ret := false, res := [ARes.cell 2 true 4] }]
def f106h106_0am (ps : List AV) (n0 : Int) (n1 : Int) : AHeap := [(106003, { base := 0, blks := [Blk.row 80 4 (Row.gen [AV.agg (.ints .i64 [0, 0, 0, 0])])] }), (106004, { base := 0, blks := [Blk.row 80 4 (Row.gen [AV.agg (.ints .i64 [0, 0, 0, 0])])] })]
def f106h106_1a (ps : List AV) (n0 : Int) (n1 : Int) (x2 : List AV) (n3 : Int) (n4 : Int) (n5 : Int) (n6 : Int) : List AFrame := [{ fn := 106, N := 73, env := [(0, AV.list (Row.big (Sh.agg [Sh.int .i64, Sh.int .i64, Sh.int .i64]) ps)), (2, AV.ptr 106003 0 0 0), (3, AV.ptr 106004 0 0 0), (4, AV.bool false), (6, AV.ptr 106007 0 0 0), (12, AV.list (Row.big (Sh.agg [Sh.int .i64, Sh.int .i64, Sh.int .i64]) ps)), (13, AV.int .i64 n0), (14, AV.int .i64 n1), (21, AV.list (Row.big (Sh.agg [Sh.int .i64, Sh.int .i64, Sh.int .i64]) x2)), (22, AV.int .i64 n3), (23, AV.int .i64 0)], todo := .code (ACode.gh [] l106_1) :: k106_1, defs := [], rnd := none, ret := false, res := [ARes.cell 2 true 4] }]
def f106h106_1am (ps : List AV) (n0 : Int) (n1 : Int) (x2 : List AV) (n3 : Int) (n4 : Int) (n5 : Int) (n6 : Int) : AHeap := [(106003, { base := 0, blks := [Blk.row 80 4 (Row.gen [AV.agg (.ints .i64 [0, 0, 0, 0])])] }), (106004, { base := 0, blks := [Blk.row 80 4 (Row.gen [AV.agg (.ints .i64 [0, 0, 0, 0])])] }), (106007, { base := 0, blks := [Blk.row 49 3 (Row.gen [AV.agg (Row.gen [AV.int .i64 n4, AV.int .i64 n5, AV.int .i64 n6])])] })]
def f106h106_1b (ps : List AV) (n0 : Int) (n7 : Int) (n8 : Int) (n9 : Int) (n10 : Int) (n11 : Int) (n12 : Int) (x13 : List AV) (n14 : Int) (n15 : Int) (n16 : Int) (n17 : Int) : List AFrame := [{ fn := 106, N := 73, env := [(0, AV.list (Row.big (Sh.agg [Sh.int .i64, Sh.int .i64, Sh.int .i64]) ps)), (2, AV.ptr 106003 0 0 0), (3, AV.ptr 106004 0 0 0), (4, AV.bool true), (6, AV.ptr 106007 0 0 0), (12, AV.list (Row.big (Sh.agg [Sh.int .i64, Sh.int .i64, Sh.int .i64]) ps)), (13, AV.int .i64 n0), (14, AV.int .i64 n12), (21, AV.list (Row.big (Sh.agg [Sh.int .i64, Sh.int .i64, Sh.int .i64]) x13)), (22, AV.int .i64 n14), (23, AV.int .i64 n7)], todo := .code (ACode.gh [] l106_1) :: k106_1, defs := [], rnd := none, ret := false, res := [ARes.cell 2 true 4] }]
def f106h106_1bm (ps : List AV) (n0 : Int) (n7 : Int) (n8 : Int) (n9 : Int) (n10 : Int) (n11 : Int) (n12 : Int) (x13 : List AV) (n14 : Int) (n15 : Int) (n16 : Int) (n17 : Int) : AHeap := [(106003, { base := 0, blks := [Blk.row 80 4 (Row.gen [AV.agg (.ints .i64 [0, 0, 0, 0])])] }), (106004, { base := 0, blks := [Blk.row 80 4 (Row.gen [AV.agg (Row.gen [AV.int .i64 n8, AV.int .i64 n9, AV.int .i64 n10, AV.int .i64 n11])])] }), (106007, { base := 0, blks := [Blk.row 49 3 (Row.gen [AV.agg (Row.gen [AV.int .i64 n15, AV.int .i64 n16, AV.int .i64 n17])])] })]
def f106h106_0b (ps : List AV) (n0 : Int) (n8 : Int) (n9 : Int) (n10 : Int) (n11 : Int) (n18 : Int) : List AFrame := [{ fn := 106, N := 73, env := [(0, AV.list (Row.big (Sh.agg [Sh.int .i64, Sh.int .i64, Sh.int .i64]) ps)), (2, AV.ptr 106003 0 0 0), (3, AV.ptr 106004 0 0 0), (4, AV.bool true), (12, AV.list (Row.big (Sh.agg [Sh.int .i64, Sh.int .i64, Sh.int .i64]) ps)), (13, AV.int .i64 n0), (14, AV.int .i64 n18)], todo := .code (ACode.gh [] l106_0) :: k106_0, defs := [], rnd := none, ret := false, res := [ARes.cell 2 true 4] }]
def f106h106_0bm (ps : List AV) (n0 : Int) (n8 : Int) (n9 : Int) (n10 : Int) (n11 : Int) (n18 : Int) : AHeap := [(106003, { base := 0, blks := [Blk.row 80 4 (Row.gen [AV.agg (.ints .i64 [0, 0, 0, 0])])] }), (106004, { base := 0, blks := [Blk.row 80 4 (Row.gen [AV.agg (Row.gen [AV.int .i64 n8, AV.int .i64 n9, AV.int .i64 n10, AV.int .i64 n11])])] })]
theorem f106p0 (A : Ar) (ps : List AV) : gwalkL A tab BC1 22 [] (f106e ps) [] =
  some ([true, true, true, true, A.and true (A.ltN 0 (A.len [0, 0, 0, 0])), A.and true (A.ltN 0 (A.len [0, 0, 0, 0]))],
   f106h106_0a (ps) (A.int (A.lenA ps)) (0), f106h106_0am (ps) (A.int (A.lenA ps)) (0)) := by kernel_rfl
theorem f106p1 (A : Ar) (ps : List AV) (n0 : Int) (n1 : Int) : gwalkL A tab BC1 30 [true] (f106h106_0a ps n0 n1) (f106h106_0am ps n0 n1) =
  some ([true, true, A.and (A.and true (A.le 0 n1)) (A.and (A.and (A.leN 0 (A.nat n1)) (A.leN (A.nat n1) (A.lenA ps))) (A.and (A.eqN 3 3) true)), true, true, A.and (A.ltN 0 1) (A.eqN 3 3), true, A.and true (A.ltN 0 3), A.leN (A.addN 0 3) 3, A.and (A.and (A.le 0 n1) (A.ltN (A.nat n1) (A.lenA ps))) (A.eqN 3 3), true, A.lt n1 n0, true],
   f106h106_1a (ps) (n0) (n1) (A.subA ps 0 (A.subN (A.nat n1) 0)) (A.int (A.lenA (A.subA ps 0 (A.subN (A.nat n1) 0)))) (AV.toI (AV.cellAt (A.nthA ps (A.nat n1)) 0)) (AV.toI (AV.cellAt (A.nthA ps (A.nat n1)) 1)) (AV.toI (AV.cellAt (A.nthA ps (A.nat n1)) 2)), f106h106_1am (ps) (n0) (n1) (A.subA ps 0 (A.subN (A.nat n1) 0)) (A.int (A.lenA (A.subA ps 0 (A.subN (A.nat n1) 0)))) (AV.toI (AV.cellAt (A.nthA ps (A.nat n1)) 0)) (AV.toI (AV.cellAt (A.nthA ps (A.nat n1)) 1)) (AV.toI (AV.cellAt (A.nthA ps (A.nat n1)) 2))) := by kernel_rfl
theorem f106p3 (A : Ar) (ps : List AV) (n0 : Int) (n1 : Int) (x2 : List AV) (n3 : Int) (n4 : Int) (n5 : Int) (n6 : Int) : gwalkL A tab BC1 77 [true, true, true, true, true, true, true, true, true, true, true, true, true] (f106h106_1a ps n0 n1 x2 n3 n4 n5 n6) (f106h106_1am ps n0 n1 x2 n3 n4 n5 n6) =
  some ([true, A.inR .i64 (A.add 0 1), true, A.and (A.ltN 0 1) (A.and (A.eqN 2 2) (A.leN (A.addN 2 2) 4)), true, A.and (A.ltN 0 1) (A.leN (A.addN 0 2) 2), true, true, true, true, true, true, true, true, true, true, A.not false, true, true, true, A.and (A.ltN 0 1) (A.and (A.eqN 2 2) (A.leN (A.addN 0 2) 4)), true, A.and (A.ltN 0 1) (A.leN (A.addN 0 2) 2), true, true, true, true, true, true, true, true, true, true, A.not false, true, true, true, A.and (A.ltN 0 1) (A.eqN 2 2), A.and (A.ltN 0 1) (A.eqN 2 2), A.and true (A.ltN 0 2), A.and true (A.ltN 0 2), A.and true (Decidable.decide (bigB (A.sub n6 (AV.toI (AV.cellAt (A.nthA x2 (A.nat 0)) 1))) = true ∧ 0 < A.sub n4 (AV.toI (AV.cellAt (A.nthA x2 (A.nat 0)) 0)) ∧ bigB (A.sub n4 (AV.toI (AV.cellAt (A.nthA x2 (A.nat 0)) 0))) = true)), true, A.inR .i64 (A.sub n6 (AV.toI (AV.cellAt (A.nthA x2 (A.nat 0)) 1))), A.and (A.ltN 0 1) (A.ltN 1 3), true, true, A.and (A.ltN 0 1) (A.ltN 2 3), true, true, A.and true (Decidable.decide (bigB (A.sub n5 (AV.toI (AV.cellAt (A.nthA x2 (A.nat 0)) 2))) = true ∧ 0 < A.sub n4 (AV.toI (AV.cellAt (A.nthA x2 (A.nat 0)) 0)) ∧ bigB (A.sub n4 (AV.toI (AV.cellAt (A.nthA x2 (A.nat 0)) 0))) = true)), true, A.inR .i64 (A.sub n5 (AV.toI (AV.cellAt (A.nthA x2 (A.nat 0)) 2))), A.and (A.ltN 0 1) (A.ltN 2 3), true, true, A.and (A.ltN 0 1) (A.ltN 1 3), true, true, true, A.inR .i64 (A.sub n4 (AV.toI (AV.cellAt (A.nthA x2 (A.nat 0)) 0))), A.and (A.ltN 0 1) (A.ltN 0 3), true, A.and (A.ltN 0 1) (A.ltN 0 3), true, A.and (A.ltN 0 1) (A.eqN 3 3), A.and true (A.ltN 0 3), A.leN (A.addN 0 3) 3, A.and (A.and (A.le 0 0) (A.ltN (A.nat 0) (A.lenA x2))) (A.eqN 3 3), A.lt 0 n3, true],
   f106h106_1b (ps) (n0) (A.add 0 1) (lN (A.sub n5 (AV.toI (AV.cellAt (A.nthA x2 (A.nat 0)) 2))) (A.sub n4 (AV.toI (AV.cellAt (A.nthA x2 (A.nat 0)) 0)))) (lD (A.sub n5 (AV.toI (AV.cellAt (A.nthA x2 (A.nat 0)) 2))) (A.sub n4 (AV.toI (AV.cellAt (A.nthA x2 (A.nat 0)) 0)))) (lN (A.sub n6 (AV.toI (AV.cellAt (A.nthA x2 (A.nat 0)) 1))) (A.sub n4 (AV.toI (AV.cellAt (A.nthA x2 (A.nat 0)) 0)))) (lD (A.sub n6 (AV.toI (AV.cellAt (A.nthA x2 (A.nat 0)) 1))) (A.sub n4 (AV.toI (AV.cellAt (A.nthA x2 (A.nat 0)) 0)))) (n1) (x2) (n3) (n4) (n5) (n6), f106h106_1bm (ps) (n0) (A.add 0 1) (lN (A.sub n5 (AV.toI (AV.cellAt (A.nthA x2 (A.nat 0)) 2))) (A.sub n4 (AV.toI (AV.cellAt (A.nthA x2 (A.nat 0)) 0)))) (lD (A.sub n5 (AV.toI (AV.cellAt (A.nthA x2 (A.nat 0)) 2))) (A.sub n4 (AV.toI (AV.cellAt (A.nthA x2 (A.nat 0)) 0)))) (lN (A.sub n6 (AV.toI (AV.cellAt (A.nthA x2 (A.nat 0)) 1))) (A.sub n4 (AV.toI (AV.cellAt (A.nthA x2 (A.nat 0)) 0)))) (lD (A.sub n6 (AV.toI (AV.cellAt (A.nthA x2 (A.nat 0)) 1))) (A.sub n4 (AV.toI (AV.cellAt (A.nthA x2 (A.nat 0)) 0)))) (n1) (x2) (n3) (n4) (n5) (n6)) := by kernel_rfl
theorem f106p4 (A : Ar) (ps : List AV) (n0 : Int) (n1 : Int) (x2 : List AV) (n3 : Int) (n4 : Int) (n5 : Int) (n6 : Int) : gwalkL A tab BC1 15 [false] (f106h106_1a ps n0 n1 x2 n3 n4 n5 n6) (f106h106_1am ps n0 n1 x2 n3 n4 n5 n6) =
  some ([true, A.inR .i64 (A.add n1 1), !A.lt 0 n3, true],
   f106h106_0a (ps) (n0) (A.add n1 1), f106h106_0am (ps) (n0) (A.add n1 1)) := by kernel_rfl
theorem f106p5 (A : Ar) (ps : List AV) (n0 : Int) (n7 : Int) (n8 : Int) (n9 : Int) (n10 : Int) (n11 : Int) (n12 : Int) (x13 : List AV) (n14 : Int) (n15 : Int) (n16 : Int) (n17 : Int) : gwalkL A tab BC1 77 [true, false, false, false, false, false, true, false, false, false, false, false, true] (f106h106_1b ps n0 n7 n8 n9 n10 n11 n12 x13 n14 n15 n16 n17) (f106h106_1bm ps n0 n7 n8 n9 n10 n11 n12 x13 n14 n15 n16 n17) =
  some ([true, A.inR .i64 (A.add n7 1), true, A.and (A.ltN 0 1) (A.and (A.eqN 2 2) (A.leN (A.addN 2 2) 4)), true, A.and (A.ltN 0 1) (A.leN (A.addN 0 2) 2), ltF (lN (A.sub n17 (AV.toI (AV.cellAt (A.nthA x13 (A.nat n7)) 1))) (A.sub n15 (AV.toI (AV.cellAt (A.nthA x13 (A.nat n7)) 0)))) (lD (A.sub n17 (AV.toI (AV.cellAt (A.nthA x13 (A.nat n7)) 1))) (A.sub n15 (AV.toI (AV.cellAt (A.nthA x13 (A.nat n7)) 0)))) n10 n11, true, true, A.and true (Decidable.decide (prodB (lN (A.sub n17 (AV.toI (AV.cellAt (A.nthA x13 (A.nat n7)) 1))) (A.sub n15 (AV.toI (AV.cellAt (A.nthA x13 (A.nat n7)) 0)))) (lD (A.sub n17 (AV.toI (AV.cellAt (A.nthA x13 (A.nat n7)) 1))) (A.sub n15 (AV.toI (AV.cellAt (A.nthA x13 (A.nat n7)) 0)))) n10 n11 = true)), true, A.and (A.ltN 0 1) (A.leN (A.addN 2 2) 4), true, true, true, A.and (A.ltN 0 1) (A.leN (A.addN 0 2) 2), !A.not true, true, true, true, A.and (A.ltN 0 1) (A.and (A.eqN 2 2) (A.leN (A.addN 0 2) 4)), true, A.and (A.ltN 0 1) (A.leN (A.addN 0 2) 2), ltF n8 n9 (lN (A.sub n16 (AV.toI (AV.cellAt (A.nthA x13 (A.nat n7)) 2))) (A.sub n15 (AV.toI (AV.cellAt (A.nthA x13 (A.nat n7)) 0)))) (lD (A.sub n16 (AV.toI (AV.cellAt (A.nthA x13 (A.nat n7)) 2))) (A.sub n15 (AV.toI (AV.cellAt (A.nthA x13 (A.nat n7)) 0)))), true, true, A.and true (Decidable.decide (prodB n8 n9 (lN (A.sub n16 (AV.toI (AV.cellAt (A.nthA x13 (A.nat n7)) 2))) (A.sub n15 (AV.toI (AV.cellAt (A.nthA x13 (A.nat n7)) 0)))) (lD (A.sub n16 (AV.toI (AV.cellAt (A.nthA x13 (A.nat n7)) 2))) (A.sub n15 (AV.toI (AV.cellAt (A.nthA x13 (A.nat n7)) 0)))) = true)), true, A.and (A.ltN 0 1) (A.leN (A.addN 0 2) 2), true, A.and (A.ltN 0 1) (A.leN (A.addN 0 2) 4), true, true, !A.not true, true, true, true, A.and (A.ltN 0 1) (A.eqN 2 2), A.and (A.ltN 0 1) (A.eqN 2 2), A.and true (A.ltN 0 2), A.and true (A.ltN 0 2), A.and true (Decidable.decide (bigB (A.sub n17 (AV.toI (AV.cellAt (A.nthA x13 (A.nat n7)) 1))) = true ∧ 0 < A.sub n15 (AV.toI (AV.cellAt (A.nthA x13 (A.nat n7)) 0)) ∧ bigB (A.sub n15 (AV.toI (AV.cellAt (A.nthA x13 (A.nat n7)) 0))) = true)), true, A.inR .i64 (A.sub n17 (AV.toI (AV.cellAt (A.nthA x13 (A.nat n7)) 1))), A.and (A.ltN 0 1) (A.ltN 1 3), true, true, A.and (A.ltN 0 1) (A.ltN 2 3), true, true, A.and true (Decidable.decide (bigB (A.sub n16 (AV.toI (AV.cellAt (A.nthA x13 (A.nat n7)) 2))) = true ∧ 0 < A.sub n15 (AV.toI (AV.cellAt (A.nthA x13 (A.nat n7)) 0)) ∧ bigB (A.sub n15 (AV.toI (AV.cellAt (A.nthA x13 (A.nat n7)) 0))) = true)), true, A.inR .i64 (A.sub n16 (AV.toI (AV.cellAt (A.nthA x13 (A.nat n7)) 2))), A.and (A.ltN 0 1) (A.ltN 2 3), true, true, A.and (A.ltN 0 1) (A.ltN 1 3), true, true, true, A.inR .i64 (A.sub n15 (AV.toI (AV.cellAt (A.nthA x13 (A.nat n7)) 0))), A.and (A.ltN 0 1) (A.ltN 0 3), true, A.and (A.ltN 0 1) (A.ltN 0 3), true, A.and (A.ltN 0 1) (A.eqN 3 3), A.and true (A.ltN 0 3), A.leN (A.addN 0 3) 3, A.and (A.and (A.le 0 n7) (A.ltN (A.nat n7) (A.lenA x13))) (A.eqN 3 3), A.lt n7 n14, true],
   f106h106_1b (ps) (n0) (A.add n7 1) (lN (A.sub n16 (AV.toI (AV.cellAt (A.nthA x13 (A.nat n7)) 2))) (A.sub n15 (AV.toI (AV.cellAt (A.nthA x13 (A.nat n7)) 0)))) (lD (A.sub n16 (AV.toI (AV.cellAt (A.nthA x13 (A.nat n7)) 2))) (A.sub n15 (AV.toI (AV.cellAt (A.nthA x13 (A.nat n7)) 0)))) (lN (A.sub n17 (AV.toI (AV.cellAt (A.nthA x13 (A.nat n7)) 1))) (A.sub n15 (AV.toI (AV.cellAt (A.nthA x13 (A.nat n7)) 0)))) (lD (A.sub n17 (AV.toI (AV.cellAt (A.nthA x13 (A.nat n7)) 1))) (A.sub n15 (AV.toI (AV.cellAt (A.nthA x13 (A.nat n7)) 0)))) (n12) (x13) (n14) (n15) (n16) (n17), f106h106_1bm (ps) (n0) (A.add n7 1) (lN (A.sub n16 (AV.toI (AV.cellAt (A.nthA x13 (A.nat n7)) 2))) (A.sub n15 (AV.toI (AV.cellAt (A.nthA x13 (A.nat n7)) 0)))) (lD (A.sub n16 (AV.toI (AV.cellAt (A.nthA x13 (A.nat n7)) 2))) (A.sub n15 (AV.toI (AV.cellAt (A.nthA x13 (A.nat n7)) 0)))) (lN (A.sub n17 (AV.toI (AV.cellAt (A.nthA x13 (A.nat n7)) 1))) (A.sub n15 (AV.toI (AV.cellAt (A.nthA x13 (A.nat n7)) 0)))) (lD (A.sub n17 (AV.toI (AV.cellAt (A.nthA x13 (A.nat n7)) 1))) (A.sub n15 (AV.toI (AV.cellAt (A.nthA x13 (A.nat n7)) 0)))) (n12) (x13) (n14) (n15) (n16) (n17)) := by kernel_rfl
theorem f106p6 (A : Ar) (ps : List AV) (n0 : Int) (n7 : Int) (n8 : Int) (n9 : Int) (n10 : Int) (n11 : Int) (n12 : Int) (x13 : List AV) (n14 : Int) (n15 : Int) (n16 : Int) (n17 : Int) : gwalkL A tab BC1 73 [true, false, false, false, false, false, true, false, false, false, false, false, false] (f106h106_1b ps n0 n7 n8 n9 n10 n11 n12 x13 n14 n15 n16 n17) (f106h106_1bm ps n0 n7 n8 n9 n10 n11 n12 x13 n14 n15 n16 n17) =
  some ([true, A.inR .i64 (A.add n7 1), true, !ltF (lN (A.sub n17 (AV.toI (AV.cellAt (A.nthA x13 (A.nat n7)) 1))) (A.sub n15 (AV.toI (AV.cellAt (A.nthA x13 (A.nat n7)) 0)))) (lD (A.sub n17 (AV.toI (AV.cellAt (A.nthA x13 (A.nat n7)) 1))) (A.sub n15 (AV.toI (AV.cellAt (A.nthA x13 (A.nat n7)) 0)))) n10 n11, true, true, A.and true (Decidable.decide (prodB (lN (A.sub n17 (AV.toI (AV.cellAt (A.nthA x13 (A.nat n7)) 1))) (A.sub n15 (AV.toI (AV.cellAt (A.nthA x13 (A.nat n7)) 0)))) (lD (A.sub n17 (AV.toI (AV.cellAt (A.nthA x13 (A.nat n7)) 1))) (A.sub n15 (AV.toI (AV.cellAt (A.nthA x13 (A.nat n7)) 0)))) n10 n11 = true)), true, A.and (A.ltN 0 1) (A.leN (A.addN 2 2) 4), true, true, true, A.and (A.ltN 0 1) (A.leN (A.addN 0 2) 2), !A.not true, true, true, true, A.and (A.ltN 0 1) (A.and (A.eqN 2 2) (A.leN (A.addN 0 2) 4)), true, A.and (A.ltN 0 1) (A.leN (A.addN 0 2) 2), ltF n8 n9 (lN (A.sub n16 (AV.toI (AV.cellAt (A.nthA x13 (A.nat n7)) 2))) (A.sub n15 (AV.toI (AV.cellAt (A.nthA x13 (A.nat n7)) 0)))) (lD (A.sub n16 (AV.toI (AV.cellAt (A.nthA x13 (A.nat n7)) 2))) (A.sub n15 (AV.toI (AV.cellAt (A.nthA x13 (A.nat n7)) 0)))), true, true, A.and true (Decidable.decide (prodB n8 n9 (lN (A.sub n16 (AV.toI (AV.cellAt (A.nthA x13 (A.nat n7)) 2))) (A.sub n15 (AV.toI (AV.cellAt (A.nthA x13 (A.nat n7)) 0)))) (lD (A.sub n16 (AV.toI (AV.cellAt (A.nthA x13 (A.nat n7)) 2))) (A.sub n15 (AV.toI (AV.cellAt (A.nthA x13 (A.nat n7)) 0)))) = true)), true, A.and (A.ltN 0 1) (A.leN (A.addN 0 2) 2), true, A.and (A.ltN 0 1) (A.leN (A.addN 0 2) 4), true, true, !A.not true, true, true, true, A.and (A.ltN 0 1) (A.eqN 2 2), A.and (A.ltN 0 1) (A.eqN 2 2), A.and true (A.ltN 0 2), A.and true (A.ltN 0 2), A.and true (Decidable.decide (bigB (A.sub n17 (AV.toI (AV.cellAt (A.nthA x13 (A.nat n7)) 1))) = true ∧ 0 < A.sub n15 (AV.toI (AV.cellAt (A.nthA x13 (A.nat n7)) 0)) ∧ bigB (A.sub n15 (AV.toI (AV.cellAt (A.nthA x13 (A.nat n7)) 0))) = true)), true, A.inR .i64 (A.sub n17 (AV.toI (AV.cellAt (A.nthA x13 (A.nat n7)) 1))), A.and (A.ltN 0 1) (A.ltN 1 3), true, true, A.and (A.ltN 0 1) (A.ltN 2 3), true, true, A.and true (Decidable.decide (bigB (A.sub n16 (AV.toI (AV.cellAt (A.nthA x13 (A.nat n7)) 2))) = true ∧ 0 < A.sub n15 (AV.toI (AV.cellAt (A.nthA x13 (A.nat n7)) 0)) ∧ bigB (A.sub n15 (AV.toI (AV.cellAt (A.nthA x13 (A.nat n7)) 0))) = true)), true, A.inR .i64 (A.sub n16 (AV.toI (AV.cellAt (A.nthA x13 (A.nat n7)) 2))), A.and (A.ltN 0 1) (A.ltN 2 3), true, true, A.and (A.ltN 0 1) (A.ltN 1 3), true, true, true, A.inR .i64 (A.sub n15 (AV.toI (AV.cellAt (A.nthA x13 (A.nat n7)) 0))), A.and (A.ltN 0 1) (A.ltN 0 3), true, A.and (A.ltN 0 1) (A.ltN 0 3), true, A.and (A.ltN 0 1) (A.eqN 3 3), A.and true (A.ltN 0 3), A.leN (A.addN 0 3) 3, A.and (A.and (A.le 0 n7) (A.ltN (A.nat n7) (A.lenA x13))) (A.eqN 3 3), A.lt n7 n14, true],
   f106h106_1b (ps) (n0) (A.add n7 1) (lN (A.sub n16 (AV.toI (AV.cellAt (A.nthA x13 (A.nat n7)) 2))) (A.sub n15 (AV.toI (AV.cellAt (A.nthA x13 (A.nat n7)) 0)))) (lD (A.sub n16 (AV.toI (AV.cellAt (A.nthA x13 (A.nat n7)) 2))) (A.sub n15 (AV.toI (AV.cellAt (A.nthA x13 (A.nat n7)) 0)))) (n10) (n11) (n12) (x13) (n14) (n15) (n16) (n17), f106h106_1bm (ps) (n0) (A.add n7 1) (lN (A.sub n16 (AV.toI (AV.cellAt (A.nthA x13 (A.nat n7)) 2))) (A.sub n15 (AV.toI (AV.cellAt (A.nthA x13 (A.nat n7)) 0)))) (lD (A.sub n16 (AV.toI (AV.cellAt (A.nthA x13 (A.nat n7)) 2))) (A.sub n15 (AV.toI (AV.cellAt (A.nthA x13 (A.nat n7)) 0)))) (n10) (n11) (n12) (x13) (n14) (n15) (n16) (n17)) := by kernel_rfl
theorem f106p7 (A : Ar) (ps : List AV) (n0 : Int) (n7 : Int) (n8 : Int) (n9 : Int) (n10 : Int) (n11 : Int) (n12 : Int) (x13 : List AV) (n14 : Int) (n15 : Int) (n16 : Int) (n17 : Int) : gwalkL A tab BC1 73 [true, false, false, false, false, false, false, false, false, false, false, false, true] (f106h106_1b ps n0 n7 n8 n9 n10 n11 n12 x13 n14 n15 n16 n17) (f106h106_1bm ps n0 n7 n8 n9 n10 n11 n12 x13 n14 n15 n16 n17) =
  some ([true, A.inR .i64 (A.add n7 1), true, A.and (A.ltN 0 1) (A.and (A.eqN 2 2) (A.leN (A.addN 2 2) 4)), true, A.and (A.ltN 0 1) (A.leN (A.addN 0 2) 2), ltF (lN (A.sub n17 (AV.toI (AV.cellAt (A.nthA x13 (A.nat n7)) 1))) (A.sub n15 (AV.toI (AV.cellAt (A.nthA x13 (A.nat n7)) 0)))) (lD (A.sub n17 (AV.toI (AV.cellAt (A.nthA x13 (A.nat n7)) 1))) (A.sub n15 (AV.toI (AV.cellAt (A.nthA x13 (A.nat n7)) 0)))) n10 n11, true, true, A.and true (Decidable.decide (prodB (lN (A.sub n17 (AV.toI (AV.cellAt (A.nthA x13 (A.nat n7)) 1))) (A.sub n15 (AV.toI (AV.cellAt (A.nthA x13 (A.nat n7)) 0)))) (lD (A.sub n17 (AV.toI (AV.cellAt (A.nthA x13 (A.nat n7)) 1))) (A.sub n15 (AV.toI (AV.cellAt (A.nthA x13 (A.nat n7)) 0)))) n10 n11 = true)), true, A.and (A.ltN 0 1) (A.leN (A.addN 2 2) 4), true, true, true, A.and (A.ltN 0 1) (A.leN (A.addN 0 2) 2), !A.not true, true, true, true, !ltF n8 n9 (lN (A.sub n16 (AV.toI (AV.cellAt (A.nthA x13 (A.nat n7)) 2))) (A.sub n15 (AV.toI (AV.cellAt (A.nthA x13 (A.nat n7)) 0)))) (lD (A.sub n16 (AV.toI (AV.cellAt (A.nthA x13 (A.nat n7)) 2))) (A.sub n15 (AV.toI (AV.cellAt (A.nthA x13 (A.nat n7)) 0)))), true, true, A.and true (Decidable.decide (prodB n8 n9 (lN (A.sub n16 (AV.toI (AV.cellAt (A.nthA x13 (A.nat n7)) 2))) (A.sub n15 (AV.toI (AV.cellAt (A.nthA x13 (A.nat n7)) 0)))) (lD (A.sub n16 (AV.toI (AV.cellAt (A.nthA x13 (A.nat n7)) 2))) (A.sub n15 (AV.toI (AV.cellAt (A.nthA x13 (A.nat n7)) 0)))) = true)), true, A.and (A.ltN 0 1) (A.leN (A.addN 0 2) 2), true, A.and (A.ltN 0 1) (A.leN (A.addN 0 2) 4), true, true, !A.not true, true, true, true, A.and (A.ltN 0 1) (A.eqN 2 2), A.and (A.ltN 0 1) (A.eqN 2 2), A.and true (A.ltN 0 2), A.and true (A.ltN 0 2), A.and true (Decidable.decide (bigB (A.sub n17 (AV.toI (AV.cellAt (A.nthA x13 (A.nat n7)) 1))) = true ∧ 0 < A.sub n15 (AV.toI (AV.cellAt (A.nthA x13 (A.nat n7)) 0)) ∧ bigB (A.sub n15 (AV.toI (AV.cellAt (A.nthA x13 (A.nat n7)) 0))) = true)), true, A.inR .i64 (A.sub n17 (AV.toI (AV.cellAt (A.nthA x13 (A.nat n7)) 1))), A.and (A.ltN 0 1) (A.ltN 1 3), true, true, A.and (A.ltN 0 1) (A.ltN 2 3), true, true, A.and true (Decidable.decide (bigB (A.sub n16 (AV.toI (AV.cellAt (A.nthA x13 (A.nat n7)) 2))) = true ∧ 0 < A.sub n15 (AV.toI (AV.cellAt (A.nthA x13 (A.nat n7)) 0)) ∧ bigB (A.sub n15 (AV.toI (AV.cellAt (A.nthA x13 (A.nat n7)) 0))) = true)), true, A.inR .i64 (A.sub n16 (AV.toI (AV.cellAt (A.nthA x13 (A.nat n7)) 2))), A.and (A.ltN 0 1) (A.ltN 2 3), true, true, A.and (A.ltN 0 1) (A.ltN 1 3), true, true, true, A.inR .i64 (A.sub n15 (AV.toI (AV.cellAt (A.nthA x13 (A.nat n7)) 0))), A.and (A.ltN 0 1) (A.ltN 0 3), true, A.and (A.ltN 0 1) (A.ltN 0 3), true, A.and (A.ltN 0 1) (A.eqN 3 3), A.and true (A.ltN 0 3), A.leN (A.addN 0 3) 3, A.and (A.and (A.le 0 n7) (A.ltN (A.nat n7) (A.lenA x13))) (A.eqN 3 3), A.lt n7 n14, true],
   f106h106_1b (ps) (n0) (A.add n7 1) (n8) (n9) (lN (A.sub n17 (AV.toI (AV.cellAt (A.nthA x13 (A.nat n7)) 1))) (A.sub n15 (AV.toI (AV.cellAt (A.nthA x13 (A.nat n7)) 0)))) (lD (A.sub n17 (AV.toI (AV.cellAt (A.nthA x13 (A.nat n7)) 1))) (A.sub n15 (AV.toI (AV.cellAt (A.nthA x13 (A.nat n7)) 0)))) (n12) (x13) (n14) (n15) (n16) (n17), f106h106_1bm (ps) (n0) (A.add n7 1) (n8) (n9) (lN (A.sub n17 (AV.toI (AV.cellAt (A.nthA x13 (A.nat n7)) 1))) (A.sub n15 (AV.toI (AV.cellAt (A.nthA x13 (A.nat n7)) 0)))) (lD (A.sub n17 (AV.toI (AV.cellAt (A.nthA x13 (A.nat n7)) 1))) (A.sub n15 (AV.toI (AV.cellAt (A.nthA x13 (A.nat n7)) 0)))) (n12) (x13) (n14) (n15) (n16) (n17)) := by kernel_rfl
theorem f106p8 (A : Ar) (ps : List AV) (n0 : Int) (n7 : Int) (n8 : Int) (n9 : Int) (n10 : Int) (n11 : Int) (n12 : Int) (x13 : List AV) (n14 : Int) (n15 : Int) (n16 : Int) (n17 : Int) : gwalkL A tab BC1 69 [true, false, false, false, false, false, false, false, false, false, false, false, false] (f106h106_1b ps n0 n7 n8 n9 n10 n11 n12 x13 n14 n15 n16 n17) (f106h106_1bm ps n0 n7 n8 n9 n10 n11 n12 x13 n14 n15 n16 n17) =
  some ([true, A.inR .i64 (A.add n7 1), true, !ltF (lN (A.sub n17 (AV.toI (AV.cellAt (A.nthA x13 (A.nat n7)) 1))) (A.sub n15 (AV.toI (AV.cellAt (A.nthA x13 (A.nat n7)) 0)))) (lD (A.sub n17 (AV.toI (AV.cellAt (A.nthA x13 (A.nat n7)) 1))) (A.sub n15 (AV.toI (AV.cellAt (A.nthA x13 (A.nat n7)) 0)))) n10 n11, true, true, A.and true (Decidable.decide (prodB (lN (A.sub n17 (AV.toI (AV.cellAt (A.nthA x13 (A.nat n7)) 1))) (A.sub n15 (AV.toI (AV.cellAt (A.nthA x13 (A.nat n7)) 0)))) (lD (A.sub n17 (AV.toI (AV.cellAt (A.nthA x13 (A.nat n7)) 1))) (A.sub n15 (AV.toI (AV.cellAt (A.nthA x13 (A.nat n7)) 0)))) n10 n11 = true)), true, A.and (A.ltN 0 1) (A.leN (A.addN 2 2) 4), true, true, true, A.and (A.ltN 0 1) (A.leN (A.addN 0 2) 2), !A.not true, true, true, true, !ltF n8 n9 (lN (A.sub n16 (AV.toI (AV.cellAt (A.nthA x13 (A.nat n7)) 2))) (A.sub n15 (AV.toI (AV.cellAt (A.nthA x13 (A.nat n7)) 0)))) (lD (A.sub n16 (AV.toI (AV.cellAt (A.nthA x13 (A.nat n7)) 2))) (A.sub n15 (AV.toI (AV.cellAt (A.nthA x13 (A.nat n7)) 0)))), true, true, A.and true (Decidable.decide (prodB n8 n9 (lN (A.sub n16 (AV.toI (AV.cellAt (A.nthA x13 (A.nat n7)) 2))) (A.sub n15 (AV.toI (AV.cellAt (A.nthA x13 (A.nat n7)) 0)))) (lD (A.sub n16 (AV.toI (AV.cellAt (A.nthA x13 (A.nat n7)) 2))) (A.sub n15 (AV.toI (AV.cellAt (A.nthA x13 (A.nat n7)) 0)))) = true)), true, A.and (A.ltN 0 1) (A.leN (A.addN 0 2) 2), true, A.and (A.ltN 0 1) (A.leN (A.addN 0 2) 4), true, true, !A.not true, true, true, true, A.and (A.ltN 0 1) (A.eqN 2 2), A.and (A.ltN 0 1) (A.eqN 2 2), A.and true (A.ltN 0 2), A.and true (A.ltN 0 2), A.and true (Decidable.decide (bigB (A.sub n17 (AV.toI (AV.cellAt (A.nthA x13 (A.nat n7)) 1))) = true ∧ 0 < A.sub n15 (AV.toI (AV.cellAt (A.nthA x13 (A.nat n7)) 0)) ∧ bigB (A.sub n15 (AV.toI (AV.cellAt (A.nthA x13 (A.nat n7)) 0))) = true)), true, A.inR .i64 (A.sub n17 (AV.toI (AV.cellAt (A.nthA x13 (A.nat n7)) 1))), A.and (A.ltN 0 1) (A.ltN 1 3), true, true, A.and (A.ltN 0 1) (A.ltN 2 3), true, true, A.and true (Decidable.decide (bigB (A.sub n16 (AV.toI (AV.cellAt (A.nthA x13 (A.nat n7)) 2))) = true ∧ 0 < A.sub n15 (AV.toI (AV.cellAt (A.nthA x13 (A.nat n7)) 0)) ∧ bigB (A.sub n15 (AV.toI (AV.cellAt (A.nthA x13 (A.nat n7)) 0))) = true)), true, A.inR .i64 (A.sub n16 (AV.toI (AV.cellAt (A.nthA x13 (A.nat n7)) 2))), A.and (A.ltN 0 1) (A.ltN 2 3), true, true, A.and (A.ltN 0 1) (A.ltN 1 3), true, true, true, A.inR .i64 (A.sub n15 (AV.toI (AV.cellAt (A.nthA x13 (A.nat n7)) 0))), A.and (A.ltN 0 1) (A.ltN 0 3), true, A.and (A.ltN 0 1) (A.ltN 0 3), true, A.and (A.ltN 0 1) (A.eqN 3 3), A.and true (A.ltN 0 3), A.leN (A.addN 0 3) 3, A.and (A.and (A.le 0 n7) (A.ltN (A.nat n7) (A.lenA x13))) (A.eqN 3 3), A.lt n7 n14, true],
   f106h106_1b (ps) (n0) (A.add n7 1) (n8) (n9) (n10) (n11) (n12) (x13) (n14) (n15) (n16) (n17), f106h106_1bm (ps) (n0) (A.add n7 1) (n8) (n9) (n10) (n11) (n12) (x13) (n14) (n15) (n16) (n17)) := by kernel_rfl
theorem f106p9 (A : Ar) (ps : List AV) (n0 : Int) (n7 : Int) (n8 : Int) (n9 : Int) (n10 : Int) (n11 : Int) (n12 : Int) (x13 : List AV) (n14 : Int) (n15 : Int) (n16 : Int) (n17 : Int) : gwalkL A tab BC1 15 [false] (f106h106_1b ps n0 n7 n8 n9 n10 n11 n12 x13 n14 n15 n16 n17) (f106h106_1bm ps n0 n7 n8 n9 n10 n11 n12 x13 n14 n15 n16 n17) =
  some ([true, A.inR .i64 (A.add n12 1), !A.lt n7 n14, true],
   f106h106_0b (ps) (n0) (n8) (n9) (n10) (n11) (A.add n12 1), f106h106_0bm (ps) (n0) (n8) (n9) (n10) (n11) (A.add n12 1)) := by kernel_rfl
theorem f106p10 (A : Ar) (ps : List AV) (n0 : Int) (n8 : Int) (n9 : Int) (n10 : Int) (n11 : Int) (n18 : Int) : gwalkL A tab BC1 30 [true] (f106h106_0b ps n0 n8 n9 n10 n11 n18) (f106h106_0bm ps n0 n8 n9 n10 n11 n18) =
  some ([true, true, A.and (A.and true (A.le 0 n18)) (A.and (A.and (A.leN 0 (A.nat n18)) (A.leN (A.nat n18) (A.lenA ps))) (A.and (A.eqN 3 3) true)), true, true, A.and (A.ltN 0 1) (A.eqN 3 3), true, A.and true (A.ltN 0 3), A.leN (A.addN 0 3) 3, A.and (A.and (A.le 0 n18) (A.ltN (A.nat n18) (A.lenA ps))) (A.eqN 3 3), true, A.lt n18 n0, true],
   f106h106_1b (ps) (n0) (0) (n8) (n9) (n10) (n11) (n18) (A.subA ps 0 (A.subN (A.nat n18) 0)) (A.int (A.lenA (A.subA ps 0 (A.subN (A.nat n18) 0)))) (AV.toI (AV.cellAt (A.nthA ps (A.nat n18)) 0)) (AV.toI (AV.cellAt (A.nthA ps (A.nat n18)) 1)) (AV.toI (AV.cellAt (A.nthA ps (A.nat n18)) 2)), f106h106_1bm (ps) (n0) (0) (n8) (n9) (n10) (n11) (n18) (A.subA ps 0 (A.subN (A.nat n18) 0)) (A.int (A.lenA (A.subA ps 0 (A.subN (A.nat n18) 0)))) (AV.toI (AV.cellAt (A.nthA ps (A.nat n18)) 0)) (AV.toI (AV.cellAt (A.nthA ps (A.nat n18)) 1)) (AV.toI (AV.cellAt (A.nthA ps (A.nat n18)) 2))) := by kernel_rfl
theorem f106p11 (A : Ar) (ps : List AV) (n0 : Int) (n8 : Int) (n9 : Int) (n10 : Int) (n11 : Int) (n18 : Int) : gfin A tab BC1 14 [false] 106 (f106h106_0b ps n0 n8 n9 n10 n11 n18) (f106h106_0bm ps n0 n8 n9 n10 n11 n18) =
  some ([A.and (A.and (A.and (A.ltN 0 1) (A.leN (A.addN 0 4) 4)) true) (A.and true true), A.and (A.ltN 0 1) (A.eqN 4 4), A.and (A.ltN 0 1) (A.leN (A.addN 0 4) 4), !A.lt n18 n0, true],
   AV.agg (Row.gen [AV.int .i64 n8, AV.int .i64 n9, AV.int .i64 n10, AV.int .i64 n11]), none) := by kernel_rfl
def f50e (n : Int) (d : Int) : List AFrame := [{ fn := 50, N := 10, env := [(0, AV.int .i64 n), (1, AV.int .i64 d)], todo := [.code a50.code], defs := [], rnd := none, ret := false, res := [ARes.tmp 4] }]
theorem f50e_at (n : Int) (d : Int) : enterA tab 50 [AV.int .i64 n, AV.int .i64 d] = some { fn := 50, N := 10, env := [(0, AV.int .i64 n), (1, AV.int .i64 d)], todo := [.code a50.code], defs := [], rnd := none, ret := false, res := [ARes.tmp 4] } := rfl
theorem f50p0 (A : Ar) (n : Int) (d : Int) : gfin A tab BC1 14 [] 50 (f50e n d) [] =
  some ([A.and true (A.and true true), true, A.inR .i64 (A.neg (floorI (A.neg n) d)), A.and true (Decidable.decide ((0 < d ∧ bigB d = true) ∧ bigB (A.neg n) = true)), true, A.inR .i64 (A.neg n), true, true],
   AV.int .i64 (A.neg (floorI (A.neg n) d)), none) := by kernel_rfl
end Go.Proofs.Ytjhdnpmojhkbjaa
/- Contracts as a list. No condition. -/
namespace Go.Proofs.Ytjhdnpmojhkbjaa
def ceilI (n d : Int) : Int := -(floorI (-n) d)
theorem ceil50_ok (n d : Int) (h : (0 < d ∧ bigB d = true) ∧ (-4000000000000000000 ≤ n ∧ n ≤ 4000000000000000000)) : Pure Try.prog 50 [.int .i64 n, .int .i64 d] (.int .i64 (ceilI n d)) none :=
  start (f50e_at n d) fun C hC => by
    obtain ⟨⟨hd, hdb⟩, hn⟩ := h
    have h1 := tdiv_rng (-n) hd
    have h2 : bigB (-n) = true := by simp [bigB]; omega
    refine fin hC BC1_ok (f50p0 std n d) ?_ rfl rfl
    simp [hd, hdb, h2]
    unfold floorI
    split <;> omega
def cmpI (n d m k : Int) : Int := if n * k < m * d then -1 else if m * d < n * k then 1 else 0
def medB (x : Int) : Bool := decide (-4000000000000000000 ≤ x ∧ x ≤ 4000000000000000000)
theorem cmp_parts {n d m k p r q s : Int} (hn : n = p * d + r) (hm : m = q * k + s) (hd : 0 < d) (hk : 0 < k) (hr : 0 ≤ r ∧ r < d) (hs : 0 ≤ s ∧ s < k) :
    (p < q → cmpI n d m k = -1) ∧ (q < p → cmpI n d m k = 1) ∧ (p = q → cmpI n d m k = if r * k < s * d then -1 else if s * d < r * k then 1 else 0) := by
  have e1 : n * k = p * (d * k) + r * k := by rw [hn, Int.add_mul, Int.mul_assoc]
  have e2 : m * d = q * (d * k) + s * d := by rw [hm, Int.add_mul, Int.mul_assoc, Int.mul_comm k d]
  have g1 : 0 ≤ r * k := Int.mul_nonneg hr.1 (by omega)
  have g2 : 0 ≤ s * d := Int.mul_nonneg hs.1 (by omega)
  have g3 : r * k < d * k := Int.mul_lt_mul_of_pos_right hr.2 hk
  have g4 : s * d < d * k := by rw [Int.mul_comm d k]; exact Int.mul_lt_mul_of_pos_right hs.2 hd
  have hD : 0 < d * k := Int.mul_pos hd hk
  unfold cmpI
  rw [e1, e2]
  refine ⟨fun h => ?_, fun h => ?_, fun h => ?_⟩
  · have : (p + 1) * (d * k) ≤ q * (d * k) := Int.mul_le_mul_of_nonneg_right (by omega) (by omega)
    rw [Int.add_mul, Int.one_mul] at this
    rw [if_pos (by omega)]
  · have : (q + 1) * (d * k) ≤ p * (d * k) := Int.mul_le_mul_of_nonneg_right (by omega) (by omega)
    rw [Int.add_mul, Int.one_mul] at this
    rw [if_neg (by omega), if_pos (by omega)]
  · subst h
    generalize p * (d * k) = Z
    by_cases h1 : r * k < s * d
    · rw [if_pos (by omega), if_pos h1]
    · rw [if_neg (by omega), if_neg h1]
      by_cases h2 : s * d < r * k
      · rw [if_pos (by omega), if_pos h2]
      · rw [if_neg (by omega), if_neg h2]
theorem l52 {C : Ctx} (hC : C.P = Try.prog) (c : Int) : ∀ (N : Nat) (n d m k : Int), (d + k).toNat ≤ N → 0 < d → 0 < k → medB n = true → medB d = true → medB m = true → medB k = true → cmpI n d m k = c →
    Ev C (f52h52_0a n d m k) (f52h52_0am n d m k) (FinQ 52 (.int .i64 c) none) := by
  intro N
  induction N with
  | zero => intro n d m k hN hd hk; omega
  | succ N ih =>
    intro n d m k hN hd hk hnb hdb hmb hkb hc
    have f1 := floorI_rng n hd
    have f2 := floorI_rng m hk
    obtain ⟨_, _, _, _, _, a1⟩ := tdiv_rng n hd
    obtain ⟨_, _, _, _, _, a2⟩ := tdiv_rng m hk
    have b1 : bigB n = true ∧ bigB d = true ∧ bigB m = true ∧ bigB k = true := by
      simp only [medB, bigB, decide_eq_true_eq] at *
      omega
    have hnb' := hnb; have hdb' := hdb; have hmb' := hmb; have hkb' := hkb
    simp only [medB, decide_eq_true_eq] at hnb' hdb' hmb' hkb'
    obtain ⟨p, hp⟩ : ∃ p, floorI n d = p := ⟨_, rfl⟩
    obtain ⟨q, hq⟩ : ∃ q, floorI m k = q := ⟨_, rfl⟩
    rw [hp] at f1
    rw [hq] at f2
    have key := cmp_parts (n := n) (d := d) (m := m) (k := k) (p := p) (r := n - p * d) (q := q) (s := m - q * k) (by omega) (by omega) hd hk (by omega) (by omega)
    rw [hc] at key
    obtain ⟨pd, hpd⟩ : ∃ pd, p * d = pd := ⟨_, rfl⟩
    obtain ⟨qk, hqk⟩ : ∃ qk, q * k = qk := ⟨_, rfl⟩
    rw [hpd] at f1 key
    rw [hqk] at f2 key
    rcases Int.lt_trichotomy p q with h | h | h
    · exact fin hC BC1_ok (f52p1 std n d m k) (by simp only [hp, hq]; simp [hd, hk, b1, h]) (by rw [key.1 h]) rfl
    · have hk3 := key.2.2 h
      have hpq : q = p := h.symm
      by_cases hr : n - pd = 0
      · by_cases hs : m - qk = 0
        · refine fin hC BC1_ok (f52p3 std n d m k) (by simp only [hp, hq, s_mul, hpd, hqk]; simp [hd, hk, b1, hpq, hr, hs]; omega) ?_ rfl
          rw [hk3, hr, hs]; simp
        · refine fin hC BC1_ok (f52p4 std n d m k) (by simp only [hp, hq, s_mul, hpd, hqk]; simp [hd, hk, b1, hpq, hr, hs]; omega) ?_ rfl
          rw [hk3, hr, Int.zero_mul, if_pos (Int.mul_pos (by omega) hd)]
      · by_cases hs : m - qk = 0
        · refine fin hC BC1_ok (f52p5 std n d m k) (by simp only [hp, hq, s_mul, hpd, hqk]; simp [hd, hk, b1, hpq, hr, hs]; omega) ?_ rfl
          have : 0 < (n - pd) * k := Int.mul_pos (by omega) hk
          rw [hk3, hs, Int.zero_mul, if_neg (by omega), if_pos this]
        · refine go hC BC1_ok (f52p6 std n d m k) (by simp only [hp, hq, s_mul, hpd, hqk]; simp [hd, hk, b1, hpq, hr, hs]; omega) ?_
          simp only [hp, hq, s_mul, s_sub, hpd, hqk]
          refine ih k (m - qk) d (n - pd) (by omega) (by omega) (by omega) hkb (by simp only [medB, decide_eq_true_eq]; omega) hdb (by simp only [medB, decide_eq_true_eq]; omega) ?_
          rw [hk3, cmpI, Int.mul_comm k, Int.mul_comm d]
    · exact fin hC BC1_ok (f52p2 std n d m k) (by simp only [hp, hq]; simp [hd, hk, b1, h]; omega) (by rw [key.2.1 h]) rfl
theorem cmp52_ok (n d m k : Int) (h : ((0 < d ∧ 0 < k) ∧ medB n = true ∧ medB d = true) ∧ medB m = true ∧ medB k = true) : Pure Try.prog 52 [.int .i64 n, .int .i64 d, .int .i64 m, .int .i64 k] (.int .i64 (cmpI n d m k)) none :=
  start (f52e_at n d m k) fun C hC => go hC BC1_ok (f52p0 std n d m k) (by simp) (l52 hC _ _ n d m k (Nat.le_refl _) h.1.1.1 h.1.1.2 h.1.2.1 h.1.2.2 h.2.1 h.2.2 rfl)
def k50 : Ctr := ⟨50, 0, fun _ a => match a with | [.int .i64 n, .int .i64 d] => some (decide ((0 < d ∧ bigB d = true) ∧ (-4000000000000000000 ≤ n ∧ n ≤ 4000000000000000000)), .int .i64 (ceilI n d), none) | _ => none⟩
theorem k50_ok : k50.OK Try.prog := fun pa args r fr h => by
  simp only [k50] at h
  split at h
  · simp only [Option.some.injEq, Prod.mk.injEq, decide_eq_true_eq] at h
    obtain ⟨h0, rfl, rfl⟩ := h
    exact ceil50_ok _ _ h0
  · cases h
def k52 : Ctr := ⟨52, 0, fun _ a => match a with | [.int .i64 n, .int .i64 d, .int .i64 m, .int .i64 k] => some (decide (((0 < d ∧ 0 < k) ∧ medB n = true ∧ medB d = true) ∧ medB m = true ∧ medB k = true), .int .i64 (cmpI n d m k), none) | _ => none⟩
theorem k52_ok : k52.OK Try.prog := fun pa args r fr h => by
  simp only [k52] at h
  split at h
  · simp only [Option.some.injEq, Prod.mk.injEq, decide_eq_true_eq] at h
    obtain ⟨h0, rfl, rfl⟩ := h
    exact cmp52_ok _ _ _ _ h0
  · cases h
def BC2 : List Ctr := [k50, k52] ++ BC1
theorem BC2_ok : CtrsOK Try.prog BC2 := ⟨k50_ok, ⟨k52_ok, BC1_ok⟩⟩
end Go.Proofs.Ytjhdnpmojhkbjaa
