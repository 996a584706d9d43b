/- Paths of functions, printed by the explorer (Gx). No condition. -/
import Derived.Test.YtjhdnpmojhkbjaaC1
import Derived.KernelRfl
namespace Go.Proofs.Ytjhdnpmojhkbjaa
set_option maxRecDepth 100000
set_option linter.unusedVariables false
def f92e (n : Int) (d : Int) : List AFrame := [{ fn := 92, N := 20, env := [(0, AV.int .i64 n), (1, AV.int .i64 d)], todo := [.code a92.code], defs := [], rnd := none, ret := false, res := [ARes.cell 4 true 2] }]
theorem f92e_at (n : Int) (d : Int) : enterA tab 92 [AV.int .i64 n, AV.int .i64 d] = some { fn := 92, N := 20, env := [(0, AV.int .i64 n), (1, AV.int .i64 d)], todo := [.code a92.code], defs := [], rnd := none, ret := false, res := [ARes.cell 4 true 2] } := rfl
theorem f92p1 (A : Ar) (n : Int) (d : Int) : gfin A tab BC1 23 [false] 92 (f92e n d) [] =
  some ([A.and (A.and (A.and (A.ltN 0 1) (A.leN (A.addN 0 2) 2)) true) (A.and true true), A.and (A.ltN 0 1) (A.eqN 2 2), A.and (A.and true (A.eqN 1 1)) (A.and (A.leN (A.addN 0 1) 2) (A.and (A.ltN 0 1) (A.and (A.and true (A.eqN 1 1)) (A.and (A.leN (A.addN 1 1) 2) (A.and (A.ltN 0 1) true))))), A.and (A.not (A.eq (↑(Int.gcd n d)) 0)) (A.inR .i64 (A.quo d ↑(Int.gcd n d))), true, true, A.and (A.not (A.eq (↑(Int.gcd n d)) 0)) (A.inR .i64 (A.quo n ↑(Int.gcd n d))), true, true, !A.lt d 0, true, true, true, A.and true (Decidable.decide (bigB n = true ∧ bigB d = true)), true, true, A.and true (A.ltN 0 2)],
   AV.agg (Row.gen [AV.int .i64 (A.quo n ↑(Int.gcd n d)), AV.int .i64 (A.quo d ↑(Int.gcd n d))]), none) := by kernel_rfl
def f52e (n : Int) (d : Int) (m : Int) (k : Int) : List AFrame := [{ fn := 52, N := 47, env := [(0, AV.int .i64 n), (1, AV.int .i64 d), (2, AV.int .i64 m), (3, AV.int .i64 k)], todo := [.code a52.code], defs := [], rnd := none, ret := false, res := [ARes.tmp 8] }]
theorem f52e_at (n : Int) (d : Int) (m : Int) (k : Int) : enterA tab 52 [AV.int .i64 n, AV.int .i64 d, AV.int .i64 m, AV.int .i64 k] = some { fn := 52, N := 47, env := [(0, AV.int .i64 n), (1, AV.int .i64 d), (2, AV.int .i64 m), (3, AV.int .i64 k)], todo := [.code a52.code], defs := [], rnd := none, ret := false, res := [ARes.tmp 8] } := rfl
def f52h52_0a (n0 : Int) (n1 : Int) (n2 : Int) (n3 : Int) : List AFrame := [{ fn := 52, N := 47, env := [(0, AV.int .i64 n0), (1, AV.int .i64 n1), (2, AV.int .i64 n2), (3, AV.int .i64 n3)], todo := .code (ACode.gh [] l52_0) :: k52_0, defs := [], rnd := none, ret := false, res := [ARes.tmp 8] }]
def f52h52_0am (n0 : Int) (n1 : Int) (n2 : Int) (n3 : Int) : AHeap := []
theorem f52p0 (A : Ar) (n : Int) (d : Int) (m : Int) (k : Int) : gwalkL A tab BC1 7 [] (f52e n d m k) [] =
  some ([true],
   f52h52_0a (n) (d) (m) (k), f52h52_0am (n) (d) (m) (k)) := by kernel_rfl
theorem f52p1 (A : Ar) (n0 : Int) (n1 : Int) (n2 : Int) (n3 : Int) : gfin A tab BC1 27 [true] 52 (f52h52_0a n0 n1 n2 n3) (f52h52_0am n0 n1 n2 n3) =
  some ([A.and true (A.and true true), true, A.lt (floorI n0 n1) (floorI n2 n3), true, true, true, true, true, A.and true (Decidable.decide ((0 < n3 ∧ bigB n3 = true) ∧ bigB n2 = true)), true, true, A.and true (Decidable.decide ((0 < n1 ∧ bigB n1 = true) ∧ bigB n0 = true)), true, true],
   AV.int .i64 (-1), none) := by kernel_rfl
theorem f52p2 (A : Ar) (n0 : Int) (n1 : Int) (n2 : Int) (n3 : Int) : gfin A tab BC1 36 [false, true] 52 (f52h52_0a n0 n1 n2 n3) (f52h52_0am n0 n1 n2 n3) =
  some ([A.and true (A.and true true), true, A.lt (floorI n2 n3) (floorI n0 n1), true, true, true, !A.lt (floorI n0 n1) (floorI n2 n3), true, true, true, true, true, A.and true (Decidable.decide ((0 < n3 ∧ bigB n3 = true) ∧ bigB n2 = true)), true, true, A.and true (Decidable.decide ((0 < n1 ∧ bigB n1 = true) ∧ bigB n0 = true)), true, true],
   AV.int .i64 1, none) := by kernel_rfl
theorem f52p3 (A : Ar) (n0 : Int) (n1 : Int) (n2 : Int) (n3 : Int) : gfin A tab BC1 64 [false, false, true, true, true, true] 52 (f52h52_0a n0 n1 n2 n3) (f52h52_0am n0 n1 n2 n3) =
  some ([A.and true (A.and true true), true, A.eq (A.sub n2 (A.mul (floorI n2 n3) n3)) 0, true, true, true, true, true, A.eq (A.sub n0 (A.mul (floorI n0 n1) n1)) 0, true, true, true, true, true, A.inR .i64 (A.sub n2 (A.mul (floorI n2 n3) n3)), A.inR .i64 (A.mul (floorI n2 n3) n3), true, true, true, A.inR .i64 (A.sub n0 (A.mul (floorI n0 n1) n1)), A.inR .i64 (A.mul (floorI n0 n1) n1), true, true, true, !A.lt (floorI n2 n3) (floorI n0 n1), true, true, true, !A.lt (floorI n0 n1) (floorI n2 n3), true, true, true, true, true, A.and true (Decidable.decide ((0 < n3 ∧ bigB n3 = true) ∧ bigB n2 = true)), true, true, A.and true (Decidable.decide ((0 < n1 ∧ bigB n1 = true) ∧ bigB n0 = true)), true, true],
   AV.int .i64 0, none) := by kernel_rfl
theorem f52p4 (A : Ar) (n0 : Int) (n1 : Int) (n2 : Int) (n3 : Int) : gfin A tab BC1 72 [false, false, true, true, true, false, true] 52 (f52h52_0a n0 n1 n2 n3) (f52h52_0am n0 n1 n2 n3) =
  some ([A.and true (A.and true true), true, A.eq (A.sub n0 (A.mul (floorI n0 n1) n1)) 0, true, true, !A.eq (A.sub n2 (A.mul (floorI n2 n3) n3)) 0, true, true, true, true, true, A.eq (A.sub n0 (A.mul (floorI n0 n1) n1)) 0, true, true, true, true, true, A.inR .i64 (A.sub n2 (A.mul (floorI n2 n3) n3)), A.inR .i64 (A.mul (floorI n2 n3) n3), true, true, true, A.inR .i64 (A.sub n0 (A.mul (floorI n0 n1) n1)), A.inR .i64 (A.mul (floorI n0 n1) n1), true, true, true, !A.lt (floorI n2 n3) (floorI n0 n1), true, true, true, !A.lt (floorI n0 n1) (floorI n2 n3), true, true, true, true, true, A.and true (Decidable.decide ((0 < n3 ∧ bigB n3 = true) ∧ bigB n2 = true)), true, true, A.and true (Decidable.decide ((0 < n1 ∧ bigB n1 = true) ∧ bigB n0 = true)), true, true],
   AV.int .i64 (-1), none) := by kernel_rfl
theorem f52p5 (A : Ar) (n0 : Int) (n1 : Int) (n2 : Int) (n3 : Int) : gfin A tab BC1 80 [false, false, false, false, false, false, false, true] 52 (f52h52_0a n0 n1 n2 n3) (f52h52_0am n0 n1 n2 n3) =
  some ([A.and true (A.and true true), true, A.eq (A.sub n2 (A.mul (floorI n2 n3) n3)) 0, true, true, !A.eq (A.sub n0 (A.mul (floorI n0 n1) n1)) 0, true, true, true, true, true, true, true, true, !A.eq (A.sub n0 (A.mul (floorI n0 n1) n1)) 0, true, true, true, true, true, A.inR .i64 (A.sub n2 (A.mul (floorI n2 n3) n3)), A.inR .i64 (A.mul (floorI n2 n3) n3), true, true, true, A.inR .i64 (A.sub n0 (A.mul (floorI n0 n1) n1)), A.inR .i64 (A.mul (floorI n0 n1) n1), true, true, true, !A.lt (floorI n2 n3) (floorI n0 n1), true, true, true, !A.lt (floorI n0 n1) (floorI n2 n3), true, true, true, true, true, A.and true (Decidable.decide ((0 < n3 ∧ bigB n3 = true) ∧ bigB n2 = true)), true, true, A.and true (Decidable.decide ((0 < n1 ∧ bigB n1 = true) ∧ bigB n0 = true)), true, true],
   AV.int .i64 1, none) := by kernel_rfl
theorem f52p6 (A : Ar) (n0 : Int) (n1 : Int) (n2 : Int) (n3 : Int) : gwalkL A tab BC1 89 [false, false, false, false, false, false, false, false] (f52h52_0a n0 n1 n2 n3) (f52h52_0am n0 n1 n2 n3) =
  some ([true, true, true, true, true, true, true, true, !A.eq (A.sub n2 (A.mul (floorI n2 n3) n3)) 0, true, true, !A.eq (A.sub n0 (A.mul (floorI n0 n1) n1)) 0, true, true, true, true, true, true, true, true, !A.eq (A.sub n0 (A.mul (floorI n0 n1) n1)) 0, true, true, true, true, true, A.inR .i64 (A.sub n2 (A.mul (floorI n2 n3) n3)), A.inR .i64 (A.mul (floorI n2 n3) n3), true, true, true, A.inR .i64 (A.sub n0 (A.mul (floorI n0 n1) n1)), A.inR .i64 (A.mul (floorI n0 n1) n1), true, true, true, !A.lt (floorI n2 n3) (floorI n0 n1), true, true, true, !A.lt (floorI n0 n1) (floorI n2 n3), true, true, true, true, true, A.and true (Decidable.decide ((0 < n3 ∧ bigB n3 = true) ∧ bigB n2 = true)), true, true, A.and true (Decidable.decide ((0 < n1 ∧ bigB n1 = true) ∧ bigB n0 = true)), true, true],
   f52h52_0a (n3) (A.sub n2 (A.mul (floorI n2 n3) n3)) (n1) (A.sub n0 (A.mul (floorI n0 n1) n1)), f52h52_0am (n3) (A.sub n2 (A.mul (floorI n2 n3) n3)) (n1) (A.sub n0 (A.mul (floorI n0 n1) n1))) := by kernel_rfl
def f106e (ps : List AV) : List AFrame := [{ fn := 106, N := 73, env := [(0, AV.list (Row.big (Sh.agg [Sh.int .i64, Sh.int .i64, Sh.int .i64]) ps))], todo := [.code a106.code], defs := [], rnd := none, ret := false, res := [ARes.cell 2 true 4] }]
theorem f106e_at (ps : List AV) : enterA tab 106 [AV.list (Row.big (Sh.agg [Sh.int .i64, Sh.int .i64, Sh.int .i64]) ps)] = some { fn := 106, N := 73, env := [(0, AV.list (Row.big (Sh.agg [Sh.int .i64, Sh.int .i64, Sh.int .i64]) ps))], todo := [.code a106.code], defs := [], rnd := none, ret := false, res := [ARes.cell 2 true 4] } := rfl
def f106h106_0a (ps : List AV) (n0 : Int) (n1 : Int) : List AFrame := [{ fn := 106, N := 73, env := [(0, AV.list (Row.big (Sh.agg [Sh.int .i64, Sh.int .i64, Sh.int .i64]) ps)), (2, AV.ptr 106003 0 0 0), (3, AV.ptr 106004 0 0 0), (4, AV.bool false), (12, AV.list (Row.big (Sh.agg [Sh.int .i64, Sh.int .i64, Sh.int .i64]) ps)), (13, AV.int .i64 n0), (14, AV.int .i64 n1)], todo := .code (ACode.gh [] l106_0) :: k106_0, defs := [], rnd := none, ret := false, res := [ARes.cell 2 true 4] }]
def f106h106_0am (ps : List AV) (n0 : Int) (n1 : Int) : AHeap := [(106003, { base := 0, blks := [Blk.row 80 4 (Row.gen [AV.agg (.ints .i64 [0, 0, 0, 0])])] }), (106004, { base := 0, blks := [Blk.row 80 4 (Row.gen [AV.agg (.ints .i64 [0, 0, 0, 0])])] })]
def f106h106_1a (ps : List AV) (n0 : Int) (n1 : Int) (x2 : List AV) (n3 : Int) (n4 : Int) (n5 : Int) (n6 : Int) : List AFrame := [{ fn := 106, N := 73, env := [(0, AV.list (Row.big (Sh.agg [Sh.int .i64, Sh.int .i64, Sh.int .i64]) ps)), (2, AV.ptr 106003 0 0 0), (3, AV.ptr 106004 0 0 0), (4, AV.bool false), (6, AV.ptr 106007 0 0 0), (12, AV.list (Row.big (Sh.agg [Sh.int .i64, Sh.int .i64, Sh.int .i64]) ps)), (13, AV.int .i64 n0), (14, AV.int .i64 n1), (21, AV.list (Row.big (Sh.agg [Sh.int .i64, Sh.int .i64, Sh.int .i64]) x2)), (22, AV.int .i64 n3), (23, AV.int .i64 0)], todo := .code (ACode.gh [] l106_1) :: k106_1, defs := [], rnd := none, ret := false, res := [ARes.cell 2 true 4] }]
def f106h106_1am (ps : List AV) (n0 : Int) (n1 : Int) (x2 : List AV) (n3 : Int) (n4 : Int) (n5 : Int) (n6 : Int) : AHeap := [(106003, { base := 0, blks := [Blk.row 80 4 (Row.gen [AV.agg (.ints .i64 [0, 0, 0, 0])])] }), (106004, { base := 0, blks := [Blk.row 80 4 (Row.gen [AV.agg (.ints .i64 [0, 0, 0, 0])])] }), (106007, { base := 0, blks := [Blk.row 49 3 (Row.gen [AV.agg (Row.gen [AV.int .i64 n4, AV.int .i64 n5, AV.int .i64 n6])])] })]
def f106h106_1b (ps : List AV) (n0 : Int) (n7 : Int) (n8 : Int) (n9 : Int) (n10 : Int) (n11 : Int) (n12 : Int) (x13 : List AV) (n14 : Int) (n15 : Int) (n16 : Int) (n17 : Int) : List AFrame := [{ fn := 106, N := 73, env := [(0, AV.list (Row.big (Sh.agg [Sh.int .i64, Sh.int .i64, Sh.int .i64]) ps)), (2, AV.ptr 106003 0 0 0), (3, AV.ptr 106004 0 0 0), (4, AV.bool true), (6, AV.ptr 106007 0 0 0), (12, AV.list (Row.big (Sh.agg [Sh.int .i64, Sh.int .i64, Sh.int .i64]) ps)), (13, AV.int .i64 n0), (14, AV.int .i64 n12), (21, AV.list (Row.big (Sh.agg [Sh.int .i64, Sh.int .i64, Sh.int .i64]) x13)), (22, AV.int .i64 n14), (23, AV.int .i64 n7)], todo := .code (ACode.gh [] l106_1) :: k106_1, defs := [], rnd := none, ret := false, res := [ARes.cell 2 true 4] }]
def f106h106_1bm (ps : List AV) (n0 : Int) (n7 : Int) (n8 : Int) (n9 : Int) (n10 : Int) (n11 : Int) (n12 : Int) (x13 : List AV) (n14 : Int) (n15 : Int) (n16 : Int) (n17 : Int) : AHeap := [(106003, { base := 0, blks := [Blk.row 80 4 (Row.gen [AV.agg (.ints .i64 [0, 0, 0, 0])])] }), (106004, { base := 0, blks := [Blk.row 80 4 (Row.gen [AV.agg (Row.gen [AV.int .i64 n8, AV.int .i64 n9, AV.int .i64 n10, AV.int .i64 n11])])] }), (106007, { base := 0, blks := [Blk.row 49 3 (Row.gen [AV.agg (Row.gen [AV.int .i64 n15, AV.int .i64 n16, AV.int .i64 n17])])] })]
def f106h106_0b (ps : List AV) (n0 : Int) (n8 : Int) (n9 : Int) (n10 : Int) (n11 : Int) (n18 : Int) : List AFrame := [{ fn := 106, N := 73, env := [(0, AV.list (Row.big (Sh.agg [Sh.int .i64, Sh.int .i64, Sh.int .i64]) ps)), (2, AV.ptr 106003 0 0 0), (3, AV.ptr 106004 0 0 0), (4, AV.bool true), (12, AV.list (Row.big (Sh.agg [Sh.int .i64, Sh.int .i64, Sh.int .i64]) ps)), (13, AV.int .i64 n0), (14, AV.int .i64 n18)], todo := .code (ACode.gh [] l106_0) :: k106_0, defs := [], rnd := none, ret := false, res := [ARes.cell 2 true 4] }]
def f106h106_0bm (ps : List AV) (n0 : Int) (n8 : Int) (n9 : Int) (n10 : Int) (n11 : Int) (n18 : Int) : AHeap := [(106003, { base := 0, blks := [Blk.row 80 4 (Row.gen [AV.agg (.ints .i64 [0, 0, 0, 0])])] }), (106004, { base := 0, blks := [Blk.row 80 4 (Row.gen [AV.agg (Row.gen [AV.int .i64 n8, AV.int .i64 n9, AV.int .i64 n10, AV.int .i64 n11])])] })]
theorem f106p0 (A : Ar) (ps : List AV) : gwalkL A tab BC1 22 [] (f106e ps) [] =
  some ([true, true, true, true, A.and true (A.ltN 0 (A.len [0, 0, 0, 0])), A.and true (A.ltN 0 (A.len [0, 0, 0, 0]))],
   f106h106_0a (ps) (A.int (A.lenA ps)) (0), f106h106_0am (ps) (A.int (A.lenA ps)) (0)) := by kernel_rfl
theorem f106p1 (A : Ar) (ps : List AV) (n0 : Int) (n1 : Int) : gwalkL A tab BC1 30 [true] (f106h106_0a ps n0 n1) (f106h106_0am ps n0 n1) =
  some ([true, true, A.and (A.and true (A.le 0 n1)) (A.and (A.and (A.leN 0 (A.nat n1)) (A.leN (A.nat n1) (A.lenA ps))) (A.and (A.eqN 3 3) true)), true, true, A.and (A.ltN 0 1) (A.eqN 3 3), true, A.and true (A.ltN 0 3), A.leN (A.addN 0 3) 3, A.and (A.and (A.le 0 n1) (A.ltN (A.nat n1) (A.lenA ps))) (A.eqN 3 3), true, A.lt n1 n0, true],
   f106h106_1a (ps) (n0) (n1) (A.subA ps 0 (A.subN (A.nat n1) 0)) (A.int (A.lenA (A.subA ps 0 (A.subN (A.nat n1) 0)))) (AV.toI (AV.cellAt (A.nthA ps (A.nat n1)) 0)) (AV.toI (AV.cellAt (A.nthA ps (A.nat n1)) 1)) (AV.toI (AV.cellAt (A.nthA ps (A.nat n1)) 2)), f106h106_1am (ps) (n0) (n1) (A.subA ps 0 (A.subN (A.nat n1) 0)) (A.int (A.lenA (A.subA ps 0 (A.subN (A.nat n1) 0)))) (AV.toI (AV.cellAt (A.nthA ps (A.nat n1)) 0)) (AV.toI (AV.cellAt (A.nthA ps (A.nat n1)) 1)) (AV.toI (AV.cellAt (A.nthA ps (A.nat n1)) 2))) := by kernel_rfl
theorem f106p3 (A : Ar) (ps : List AV) (n0 : Int) (n1 : Int) (x2 : List AV) (n3 : Int) (n4 : Int) (n5 : Int) (n6 : Int) : gwalkL A tab BC1 77 [true, true, true, true, true, true, true, true, true, true, true, true, true] (f106h106_1a ps n0 n1 x2 n3 n4 n5 n6) (f106h106_1am ps n0 n1 x2 n3 n4 n5 n6) =
  some ([true, A.inR .i64 (A.add 0 1), true, A.and (A.ltN 0 1) (A.and (A.eqN 2 2) (A.leN (A.addN 2 2) 4)), true, A.and (A.ltN 0 1) (A.leN (A.addN 0 2) 2), true, true, true, true, true, true, true, true, true, true, A.not false, true, true, true, A.and (A.ltN 0 1) (A.and (A.eqN 2 2) (A.leN (A.addN 0 2) 4)), true, A.and (A.ltN 0 1) (A.leN (A.addN 0 2) 2), true, true, true, true, true, true, true, true, true, true, A.not false, true, true, true, A.and (A.ltN 0 1) (A.eqN 2 2), A.and (A.ltN 0 1) (A.eqN 2 2), A.and true (A.ltN 0 2), A.and true (A.ltN 0 2), A.and true (Decidable.decide (bigB (A.sub n6 (AV.toI (AV.cellAt (A.nthA x2 (A.nat 0)) 1))) = true ∧ 0 < A.sub n4 (AV.toI (AV.cellAt (A.nthA x2 (A.nat 0)) 0)) ∧ bigB (A.sub n4 (AV.toI (AV.cellAt (A.nthA x2 (A.nat 0)) 0))) = true)), true, A.inR .i64 (A.sub n6 (AV.toI (AV.cellAt (A.nthA x2 (A.nat 0)) 1))), A.and (A.ltN 0 1) (A.ltN 1 3), true, true, A.and (A.ltN 0 1) (A.ltN 2 3), true, true, A.and true (Decidable.decide (bigB (A.sub n5 (AV.toI (AV.cellAt (A.nthA x2 (A.nat 0)) 2))) = true ∧ 0 < A.sub n4 (AV.toI (AV.cellAt (A.nthA x2 (A.nat 0)) 0)) ∧ bigB (A.sub n4 (AV.toI (AV.cellAt (A.nthA x2 (A.nat 0)) 0))) = true)), true, A.inR .i64 (A.sub n5 (AV.toI (AV.cellAt (A.nthA x2 (A.nat 0)) 2))), A.and (A.ltN 0 1) (A.ltN 2 3), true, true, A.and (A.ltN 0 1) (A.ltN 1 3), true, true, true, A.inR .i64 (A.sub n4 (AV.toI (AV.cellAt (A.nthA x2 (A.nat 0)) 0))), A.and (A.ltN 0 1) (A.ltN 0 3), true, A.and (A.ltN 0 1) (A.ltN 0 3), true, A.and (A.ltN 0 1) (A.eqN 3 3), A.and true (A.ltN 0 3), A.leN (A.addN 0 3) 3, A.and (A.and (A.le 0 0) (A.ltN (A.nat 0) (A.lenA x2))) (A.eqN 3 3), A.lt 0 n3, true],
   f106h106_1b (ps) (n0) (A.add 0 1) (lN (A.sub n5 (AV.toI (AV.cellAt (A.nthA x2 (A.nat 0)) 2))) (A.sub n4 (AV.toI (AV.cellAt (A.nthA x2 (A.nat 0)) 0)))) (lD (A.sub n5 (AV.toI (AV.cellAt (A.nthA x2 (A.nat 0)) 2))) (A.sub n4 (AV.toI (AV.cellAt (A.nthA x2 (A.nat 0)) 0)))) (lN (A.sub n6 (AV.toI (AV.cellAt (A.nthA x2 (A.nat 0)) 1))) (A.sub n4 (AV.toI (AV.cellAt (A.nthA x2 (A.nat 0)) 0)))) (lD (A.sub n6 (AV.toI (AV.cellAt (A.nthA x2 (A.nat 0)) 1))) (A.sub n4 (AV.toI (AV.cellAt (A.nthA x2 (A.nat 0)) 0)))) (n1) (x2) (n3) (n4) (n5) (n6), f106h106_1bm (ps) (n0) (A.add 0 1) (lN (A.sub n5 (AV.toI (AV.cellAt (A.nthA x2 (A.nat 0)) 2))) (A.sub n4 (AV.toI (AV.cellAt (A.nthA x2 (A.nat 0)) 0)))) (lD (A.sub n5 (AV.toI (AV.cellAt (A.nthA x2 (A.nat 0)) 2))) (A.sub n4 (AV.toI (AV.cellAt (A.nthA x2 (A.nat 0)) 0)))) (lN (A.sub n6 (AV.toI (AV.cellAt (A.nthA x2 (A.nat 0)) 1))) (A.sub n4 (AV.toI (AV.cellAt (A.nthA x2 (A.nat 0)) 0)))) (lD (A.sub n6 (AV.toI (AV.cellAt (A.nthA x2 (A.nat 0)) 1))) (A.sub n4 (AV.toI (AV.cellAt (A.nthA x2 (A.nat 0)) 0)))) (n1) (x2) (n3) (n4) (n5) (n6)) := by kernel_rfl
theorem f106p4 (A : Ar) (ps : List AV) (n0 : Int) (n1 : Int) (x2 : List AV) (n3 : Int) (n4 : Int) (n5 : Int) (n6 : Int) : gwalkL A tab BC1 15 [false] (f106h106_1a ps n0 n1 x2 n3 n4 n5 n6) (f106h106_1am ps n0 n1 x2 n3 n4 n5 n6) =
  some ([true, A.inR .i64 (A.add n1 1), !A.lt 0 n3, true],
   f106h106_0a (ps) (n0) (A.add n1 1), f106h106_0am (ps) (n0) (A.add n1 1)) := by kernel_rfl
theorem f106p5 (A : Ar) (ps : List AV) (n0 : Int) (n7 : Int) (n8 : Int) (n9 : Int) (n10 : Int) (n11 : Int) (n12 : Int) (x13 : List AV) (n14 : Int) (n15 : Int) (n16 : Int) (n17 : Int) : gwalkL A tab BC1 77 [true, false, false, false, false, false, true, false, false, false, false, false, true] (f106h106_1b ps n0 n7 n8 n9 n10 n11 n12 x13 n14 n15 n16 n17) (f106h106_1bm ps n0 n7 n8 n9 n10 n11 n12 x13 n14 n15 n16 n17) =
  some ([true, A.inR .i64 (A.add n7 1), true, A.and (A.ltN 0 1) (A.and (A.eqN 2 2) (A.leN (A.addN 2 2) 4)), true, A.and (A.ltN 0 1) (A.leN (A.addN 0 2) 2), ltF (lN (A.sub n17 (AV.toI (AV.cellAt (A.nthA x13 (A.nat n7)) 1))) (A.sub n15 (AV.toI (AV.cellAt (A.nthA x13 (A.nat n7)) 0)))) (lD (A.sub n17 (AV.toI (AV.cellAt (A.nthA x13 (A.nat n7)) 1))) (A.sub n15 (AV.toI (AV.cellAt (A.nthA x13 (A.nat n7)) 0)))) n10 n11, true, true, A.and true (Decidable.decide (prodB (lN (A.sub n17 (AV.toI (AV.cellAt (A.nthA x13 (A.nat n7)) 1))) (A.sub n15 (AV.toI (AV.cellAt (A.nthA x13 (A.nat n7)) 0)))) (lD (A.sub n17 (AV.toI (AV.cellAt (A.nthA x13 (A.nat n7)) 1))) (A.sub n15 (AV.toI (AV.cellAt (A.nthA x13 (A.nat n7)) 0)))) n10 n11 = true)), true, A.and (A.ltN 0 1) (A.leN (A.addN 2 2) 4), true, true, true, A.and (A.ltN 0 1) (A.leN (A.addN 0 2) 2), !A.not true, true, true, true, A.and (A.ltN 0 1) (A.and (A.eqN 2 2) (A.leN (A.addN 0 2) 4)), true, A.and (A.ltN 0 1) (A.leN (A.addN 0 2) 2), ltF n8 n9 (lN (A.sub n16 (AV.toI (AV.cellAt (A.nthA x13 (A.nat n7)) 2))) (A.sub n15 (AV.toI (AV.cellAt (A.nthA x13 (A.nat n7)) 0)))) (lD (A.sub n16 (AV.toI (AV.cellAt (A.nthA x13 (A.nat n7)) 2))) (A.sub n15 (AV.toI (AV.cellAt (A.nthA x13 (A.nat n7)) 0)))), true, true, A.and true (Decidable.decide (prodB n8 n9 (lN (A.sub n16 (AV.toI (AV.cellAt (A.nthA x13 (A.nat n7)) 2))) (A.sub n15 (AV.toI (AV.cellAt (A.nthA x13 (A.nat n7)) 0)))) (lD (A.sub n16 (AV.toI (AV.cellAt (A.nthA x13 (A.nat n7)) 2))) (A.sub n15 (AV.toI (AV.cellAt (A.nthA x13 (A.nat n7)) 0)))) = true)), true, A.and (A.ltN 0 1) (A.leN (A.addN 0 2) 2), true, A.and (A.ltN 0 1) (A.leN (A.addN 0 2) 4), true, true, !A.not true, true, true, true, A.and (A.ltN 0 1) (A.eqN 2 2), A.and (A.ltN 0 1) (A.eqN 2 2), A.and true (A.ltN 0 2), A.and true (A.ltN 0 2), A.and true (Decidable.decide (bigB (A.sub n17 (AV.toI (AV.cellAt (A.nthA x13 (A.nat n7)) 1))) = true ∧ 0 < A.sub n15 (AV.toI (AV.cellAt (A.nthA x13 (A.nat n7)) 0)) ∧ bigB (A.sub n15 (AV.toI (AV.cellAt (A.nthA x13 (A.nat n7)) 0))) = true)), true, A.inR .i64 (A.sub n17 (AV.toI (AV.cellAt (A.nthA x13 (A.nat n7)) 1))), A.and (A.ltN 0 1) (A.ltN 1 3), true, true, A.and (A.ltN 0 1) (A.ltN 2 3), true, true, A.and true (Decidable.decide (bigB (A.sub n16 (AV.toI (AV.cellAt (A.nthA x13 (A.nat n7)) 2))) = true ∧ 0 < A.sub n15 (AV.toI (AV.cellAt (A.nthA x13 (A.nat n7)) 0)) ∧ bigB (A.sub n15 (AV.toI (AV.cellAt (A.nthA x13 (A.nat n7)) 0))) = true)), true, A.inR .i64 (A.sub n16 (AV.toI (AV.cellAt (A.nthA x13 (A.nat n7)) 2))), A.and (A.ltN 0 1) (A.ltN 2 3), true, true, A.and (A.ltN 0 1) (A.ltN 1 3), true, true, true, A.inR .i64 (A.sub n15 (AV.toI (AV.cellAt (A.nthA x13 (A.nat n7)) 0))), A.and (A.ltN 0 1) (A.ltN 0 3), true, A.and (A.ltN 0 1) (A.ltN 0 3), true, A.and (A.ltN 0 1) (A.eqN 3 3), A.and true (A.ltN 0 3), A.leN (A.addN 0 3) 3, A.and (A.and (A.le 0 n7) (A.ltN (A.nat n7) (A.lenA x13))) (A.eqN 3 3), A.lt n7 n14, true],
   f106h106_1b (ps) (n0) (A.add n7 1) (lN (A.sub n16 (AV.toI (AV.cellAt (A.nthA x13 (A.nat n7)) 2))) (A.sub n15 (AV.toI (AV.cellAt (A.nthA x13 (A.nat n7)) 0)))) (lD (A.sub n16 (AV.toI (AV.cellAt (A.nthA x13 (A.nat n7)) 2))) (A.sub n15 (AV.toI (AV.cellAt (A.nthA x13 (A.nat n7)) 0)))) (lN (A.sub n17 (AV.toI (AV.cellAt (A.nthA x13 (A.nat n7)) 1))) (A.sub n15 (AV.toI (AV.cellAt (A.nthA x13 (A.nat n7)) 0)))) (lD (A.sub n17 (AV.toI (AV.cellAt (A.nthA x13 (A.nat n7)) 1))) (A.sub n15 (AV.toI (AV.cellAt (A.nthA x13 (A.nat n7)) 0)))) (n12) (x13) (n14) (n15) (n16) (n17), f106h106_1bm (ps) (n0) (A.add n7 1) (lN (A.sub n16 (AV.toI (AV.cellAt (A.nthA x13 (A.nat n7)) 2))) (A.sub n15 (AV.toI (AV.cellAt (A.nthA x13 (A.nat n7)) 0)))) (lD (A.sub n16 (AV.toI (AV.cellAt (A.nthA x13 (A.nat n7)) 2))) (A.sub n15 (AV.toI (AV.cellAt (A.nthA x13 (A.nat n7)) 0)))) (lN (A.sub n17 (AV.toI (AV.cellAt (A.nthA x13 (A.nat n7)) 1))) (A.sub n15 (AV.toI (AV.cellAt (A.nthA x13 (A.nat n7)) 0)))) (lD (A.sub n17 (AV.toI (AV.cellAt (A.nthA x13 (A.nat n7)) 1))) (A.sub n15 (AV.toI (AV.cellAt (A.nthA x13 (A.nat n7)) 0)))) (n12) (x13) (n14) (n15) (n16) (n17)) := by kernel_rfl
theorem f106p6 (A : Ar) (ps : List AV) (n0 : Int) (n7 : Int) (n8 : Int) (n9 : Int) (n10 : Int) (n11 : Int) (n12 : Int) (x13 : List AV) (n14 : Int) (n15 : Int) (n16 : Int) (n17 : Int) : gwalkL A tab BC1 73 [true, false, false, false, false, false, true, false, false, false, false, false, false] (f106h106_1b ps n0 n7 n8 n9 n10 n11 n12 x13 n14 n15 n16 n17) (f106h106_1bm ps n0 n7 n8 n9 n10 n11 n12 x13 n14 n15 n16 n17) =
  some ([true, A.inR .i64 (A.add n7 1), true, !ltF (lN (A.sub n17 (AV.toI (AV.cellAt (A.nthA x13 (A.nat n7)) 1))) (A.sub n15 (AV.toI (AV.cellAt (A.nthA x13 (A.nat n7)) 0)))) (lD (A.sub n17 (AV.toI (AV.cellAt (A.nthA x13 (A.nat n7)) 1))) (A.sub n15 (AV.toI (AV.cellAt (A.nthA x13 (A.nat n7)) 0)))) n10 n11, true, true, A.and true (Decidable.decide (prodB (lN (A.sub n17 (AV.toI (AV.cellAt (A.nthA x13 (A.nat n7)) 1))) (A.sub n15 (AV.toI (AV.cellAt (A.nthA x13 (A.nat n7)) 0)))) (lD (A.sub n17 (AV.toI (AV.cellAt (A.nthA x13 (A.nat n7)) 1))) (A.sub n15 (AV.toI (AV.cellAt (A.nthA x13 (A.nat n7)) 0)))) n10 n11 = true)), true, A.and (A.ltN 0 1) (A.leN (A.addN 2 2) 4), true, true, true, A.and (A.ltN 0 1) (A.leN (A.addN 0 2) 2), !A.not true, true, true, true, A.and (A.ltN 0 1) (A.and (A.eqN 2 2) (A.leN (A.addN 0 2) 4)), true, A.and (A.ltN 0 1) (A.leN (A.addN 0 2) 2), ltF n8 n9 (lN (A.sub n16 (AV.toI (AV.cellAt (A.nthA x13 (A.nat n7)) 2))) (A.sub n15 (AV.toI (AV.cellAt (A.nthA x13 (A.nat n7)) 0)))) (lD (A.sub n16 (AV.toI (AV.cellAt (A.nthA x13 (A.nat n7)) 2))) (A.sub n15 (AV.toI (AV.cellAt (A.nthA x13 (A.nat n7)) 0)))), true, true, A.and true (Decidable.decide (prodB n8 n9 (lN (A.sub n16 (AV.toI (AV.cellAt (A.nthA x13 (A.nat n7)) 2))) (A.sub n15 (AV.toI (AV.cellAt (A.nthA x13 (A.nat n7)) 0)))) (lD (A.sub n16 (AV.toI (AV.cellAt (A.nthA x13 (A.nat n7)) 2))) (A.sub n15 (AV.toI (AV.cellAt (A.nthA x13 (A.nat n7)) 0)))) = true)), true, A.and (A.ltN 0 1) (A.leN (A.addN 0 2) 2), true, A.and (A.ltN 0 1) (A.leN (A.addN 0 2) 4), true, true, !A.not true, true, true, true, A.and (A.ltN 0 1) (A.eqN 2 2), A.and (A.ltN 0 1) (A.eqN 2 2), A.and true (A.ltN 0 2), A.and true (A.ltN 0 2), A.and true (Decidable.decide (bigB (A.sub n17 (AV.toI (AV.cellAt (A.nthA x13 (A.nat n7)) 1))) = true ∧ 0 < A.sub n15 (AV.toI (AV.cellAt (A.nthA x13 (A.nat n7)) 0)) ∧ bigB (A.sub n15 (AV.toI (AV.cellAt (A.nthA x13 (A.nat n7)) 0))) = true)), true, A.inR .i64 (A.sub n17 (AV.toI (AV.cellAt (A.nthA x13 (A.nat n7)) 1))), A.and (A.ltN 0 1) (A.ltN 1 3), true, true, A.and (A.ltN 0 1) (A.ltN 2 3), true, true, A.and true (Decidable.decide (bigB (A.sub n16 (AV.toI (AV.cellAt (A.nthA x13 (A.nat n7)) 2))) = true ∧ 0 < A.sub n15 (AV.toI (AV.cellAt (A.nthA x13 (A.nat n7)) 0)) ∧ bigB (A.sub n15 (AV.toI (AV.cellAt (A.nthA x13 (A.nat n7)) 0))) = true)), true, A.inR .i64 (A.sub n16 (AV.toI (AV.cellAt (A.nthA x13 (A.nat n7)) 2))), A.and (A.ltN 0 1) (A.ltN 2 3), true, true, A.and (A.ltN 0 1) (A.ltN 1 3), true, true, true, A.inR .i64 (A.sub n15 (AV.toI (AV.cellAt (A.nthA x13 (A.nat n7)) 0))), A.and (A.ltN 0 1) (A.ltN 0 3), true, A.and (A.ltN 0 1) (A.ltN 0 3), true, A.and (A.ltN 0 1) (A.eqN 3 3), A.and true (A.ltN 0 3), A.leN (A.addN 0 3) 3, A.and (A.and (A.le 0 n7) (A.ltN (A.nat n7) (A.lenA x13))) (A.eqN 3 3), A.lt n7 n14, true],
   f106h106_1b (ps) (n0) (A.add n7 1) (lN (A.sub n16 (AV.toI (AV.cellAt (A.nthA x13 (A.nat n7)) 2))) (A.sub n15 (AV.toI (AV.cellAt (A.nthA x13 (A.nat n7)) 0)))) (lD (A.sub n16 (AV.toI (AV.cellAt (A.nthA x13 (A.nat n7)) 2))) (A.sub n15 (AV.toI (AV.cellAt (A.nthA x13 (A.nat n7)) 0)))) (n10) (n11) (n12) (x13) (n14) (n15) (n16) (n17), f106h106_1bm (ps) (n0) (A.add n7 1) (lN (A.sub n16 (AV.toI (AV.cellAt (A.nthA x13 (A.nat n7)) 2))) (A.sub n15 (AV.toI (AV.cellAt (A.nthA x13 (A.nat n7)) 0)))) (lD (A.sub n16 (AV.toI (AV.cellAt (A.nthA x13 (A.nat n7)) 2))) (A.sub n15 (AV.toI (AV.cellAt (A.nthA x13 (A.nat n7)) 0)))) (n10) (n11) (n12) (x13) (n14) (n15) (n16) (n17)) := by kernel_rfl
theorem f106p7 (A : Ar) (ps : List AV) (n0 : Int) (n7 : Int) (n8 : Int) (n9 : Int) (n10 : Int) (n11 : Int) (n12 : Int) (x13 : List AV) (n14 : Int) (n15 : Int) (n16 : Int) (n17 : Int) : gwalkL A tab BC1 73 [true, false, false, false, false, false, false, false, false, false, false, false, true] (f106h106_1b ps n0 n7 n8 n9 n10 n11 n12 x13 n14 n15 n16 n17) (f106h106_1bm ps n0 n7 n8 n9 n10 n11 n12 x13 n14 n15 n16 n17) =
  some ([true, A.inR .i64 (A.add n7 1), true, A.and (A.ltN 0 1) (A.and (A.eqN 2 2) (A.leN (A.addN 2 2) 4)), true, A.and (A.ltN 0 1) (A.leN (A.addN 0 2) 2), ltF (lN (A.sub n17 (AV.toI (AV.cellAt (A.nthA x13 (A.nat n7)) 1))) (A.sub n15 (AV.toI (AV.cellAt (A.nthA x13 (A.nat n7)) 0)))) (lD (A.sub n17 (AV.toI (AV.cellAt (A.nthA x13 (A.nat n7)) 1))) (A.sub n15 (AV.toI (AV.cellAt (A.nthA x13 (A.nat n7)) 0)))) n10 n11, true, true, A.and true (Decidable.decide (prodB (lN (A.sub n17 (AV.toI (AV.cellAt (A.nthA x13 (A.nat n7)) 1))) (A.sub n15 (AV.toI (AV.cellAt (A.nthA x13 (A.nat n7)) 0)))) (lD (A.sub n17 (AV.toI (AV.cellAt (A.nthA x13 (A.nat n7)) 1))) (A.sub n15 (AV.toI (AV.cellAt (A.nthA x13 (A.nat n7)) 0)))) n10 n11 = true)), true, A.and (A.ltN 0 1) (A.leN (A.addN 2 2) 4), true, true, true, A.and (A.ltN 0 1) (A.leN (A.addN 0 2) 2), !A.not true, true, true, true, !ltF n8 n9 (lN (A.sub n16 (AV.toI (AV.cellAt (A.nthA x13 (A.nat n7)) 2))) (A.sub n15 (AV.toI (AV.cellAt (A.nthA x13 (A.nat n7)) 0)))) (lD (A.sub n16 (AV.toI (AV.cellAt (A.nthA x13 (A.nat n7)) 2))) (A.sub n15 (AV.toI (AV.cellAt (A.nthA x13 (A.nat n7)) 0)))), true, true, A.and true (Decidable.decide (prodB n8 n9 (lN (A.sub n16 (AV.toI (AV.cellAt (A.nthA x13 (A.nat n7)) 2))) (A.sub n15 (AV.toI (AV.cellAt (A.nthA x13 (A.nat n7)) 0)))) (lD (A.sub n16 (AV.toI (AV.cellAt (A.nthA x13 (A.nat n7)) 2))) (A.sub n15 (AV.toI (AV.cellAt (A.nthA x13 (A.nat n7)) 0)))) = true)), true, A.and (A.ltN 0 1) (A.leN (A.addN 0 2) 2), true, A.and (A.ltN 0 1) (A.leN (A.addN 0 2) 4), true, true, !A.not true, true, true, true, A.and (A.ltN 0 1) (A.eqN 2 2), A.and (A.ltN 0 1) (A.eqN 2 2), A.and true (A.ltN 0 2), A.and true (A.ltN 0 2), A.and true (Decidable.decide (bigB (A.sub n17 (AV.toI (AV.cellAt (A.nthA x13 (A.nat n7)) 1))) = true ∧ 0 < A.sub n15 (AV.toI (AV.cellAt (A.nthA x13 (A.nat n7)) 0)) ∧ bigB (A.sub n15 (AV.toI (AV.cellAt (A.nthA x13 (A.nat n7)) 0))) = true)), true, A.inR .i64 (A.sub n17 (AV.toI (AV.cellAt (A.nthA x13 (A.nat n7)) 1))), A.and (A.ltN 0 1) (A.ltN 1 3), true, true, A.and (A.ltN 0 1) (A.ltN 2 3), true, true, A.and true (Decidable.decide (bigB (A.sub n16 (AV.toI (AV.cellAt (A.nthA x13 (A.nat n7)) 2))) = true ∧ 0 < A.sub n15 (AV.toI (AV.cellAt (A.nthA x13 (A.nat n7)) 0)) ∧ bigB (A.sub n15 (AV.toI (AV.cellAt (A.nthA x13 (A.nat n7)) 0))) = true)), true, A.inR .i64 (A.sub n16 (AV.toI (AV.cellAt (A.nthA x13 (A.nat n7)) 2))), A.and (A.ltN 0 1) (A.ltN 2 3), true, true, A.and (A.ltN 0 1) (A.ltN 1 3), true, true, true, A.inR .i64 (A.sub n15 (AV.toI (AV.cellAt (A.nthA x13 (A.nat n7)) 0))), A.and (A.ltN 0 1) (A.ltN 0 3), true, A.and (A.ltN 0 1) (A.ltN 0 3), true, A.and (A.ltN 0 1) (A.eqN 3 3), A.and true (A.ltN 0 3), A.leN (A.addN 0 3) 3, A.and (A.and (A.le 0 n7) (A.ltN (A.nat n7) (A.lenA x13))) (A.eqN 3 3), A.lt n7 n14, true],
   f106h106_1b (ps) (n0) (A.add n7 1) (n8) (n9) (lN (A.sub n17 (AV.toI (AV.cellAt (A.nthA x13 (A.nat n7)) 1))) (A.sub n15 (AV.toI (AV.cellAt (A.nthA x13 (A.nat n7)) 0)))) (lD (A.sub n17 (AV.toI (AV.cellAt (A.nthA x13 (A.nat n7)) 1))) (A.sub n15 (AV.toI (AV.cellAt (A.nthA x13 (A.nat n7)) 0)))) (n12) (x13) (n14) (n15) (n16) (n17), f106h106_1bm (ps) (n0) (A.add n7 1) (n8) (n9) (lN (A.sub n17 (AV.toI (AV.cellAt (A.nthA x13 (A.nat n7)) 1))) (A.sub n15 (AV.toI (AV.cellAt (A.nthA x13 (A.nat n7)) 0)))) (lD (A.sub n17 (AV.toI (AV.cellAt (A.nthA x13 (A.nat n7)) 1))) (A.sub n15 (AV.toI (AV.cellAt (A.nthA x13 (A.nat n7)) 0)))) (n12) (x13) (n14) (n15) (n16) (n17)) := by kernel_rfl
theorem f106p8 (A : Ar) (ps : List AV) (n0 : Int) (n7 : Int) (n8 : Int) (n9 : Int) (n10 : Int) (n11 : Int) (n12 : Int) (x13 : List AV) (n14 : Int) (n15 : Int) (n16 : Int) (n17 : Int) : gwalkL A tab BC1 69 [true, false, false, false, false, false, false, false, false, false, false, false, false] (f106h106_1b ps n0 n7 n8 n9 n10 n11 n12 x13 n14 n15 n16 n17) (f106h106_1bm ps n0 n7 n8 n9 n10 n11 n12 x13 n14 n15 n16 n17) =
  some ([true, A.inR .i64 (A.add n7 1), true, !ltF (lN (A.sub n17 (AV.toI (AV.cellAt (A.nthA x13 (A.nat n7)) 1))) (A.sub n15 (AV.toI (AV.cellAt (A.nthA x13 (A.nat n7)) 0)))) (lD (A.sub n17 (AV.toI (AV.cellAt (A.nthA x13 (A.nat n7)) 1))) (A.sub n15 (AV.toI (AV.cellAt (A.nthA x13 (A.nat n7)) 0)))) n10 n11, true, true, A.and true (Decidable.decide (prodB (lN (A.sub n17 (AV.toI (AV.cellAt (A.nthA x13 (A.nat n7)) 1))) (A.sub n15 (AV.toI (AV.cellAt (A.nthA x13 (A.nat n7)) 0)))) (lD (A.sub n17 (AV.toI (AV.cellAt (A.nthA x13 (A.nat n7)) 1))) (A.sub n15 (AV.toI (AV.cellAt (A.nthA x13 (A.nat n7)) 0)))) n10 n11 = true)), true, A.and (A.ltN 0 1) (A.leN (A.addN 2 2) 4), true, true, true, A.and (A.ltN 0 1) (A.leN (A.addN 0 2) 2), !A.not true, true, true, true, !ltF n8 n9 (lN (A.sub n16 (AV.toI (AV.cellAt (A.nthA x13 (A.nat n7)) 2))) (A.sub n15 (AV.toI (AV.cellAt (A.nthA x13 (A.nat n7)) 0)))) (lD (A.sub n16 (AV.toI (AV.cellAt (A.nthA x13 (A.nat n7)) 2))) (A.sub n15 (AV.toI (AV.cellAt (A.nthA x13 (A.nat n7)) 0)))), true, true, A.and true (Decidable.decide (prodB n8 n9 (lN (A.sub n16 (AV.toI (AV.cellAt (A.nthA x13 (A.nat n7)) 2))) (A.sub n15 (AV.toI (AV.cellAt (A.nthA x13 (A.nat n7)) 0)))) (lD (A.sub n16 (AV.toI (AV.cellAt (A.nthA x13 (A.nat n7)) 2))) (A.sub n15 (AV.toI (AV.cellAt (A.nthA x13 (A.nat n7)) 0)))) = true)), true, A.and (A.ltN 0 1) (A.leN (A.addN 0 2) 2), true, A.and (A.ltN 0 1) (A.leN (A.addN 0 2) 4), true, true, !A.not true, true, true, true, A.and (A.ltN 0 1) (A.eqN 2 2), A.and (A.ltN 0 1) (A.eqN 2 2), A.and true (A.ltN 0 2), A.and true (A.ltN 0 2), A.and true (Decidable.decide (bigB (A.sub n17 (AV.toI (AV.cellAt (A.nthA x13 (A.nat n7)) 1))) = true ∧ 0 < A.sub n15 (AV.toI (AV.cellAt (A.nthA x13 (A.nat n7)) 0)) ∧ bigB (A.sub n15 (AV.toI (AV.cellAt (A.nthA x13 (A.nat n7)) 0))) = true)), true, A.inR .i64 (A.sub n17 (AV.toI (AV.cellAt (A.nthA x13 (A.nat n7)) 1))), A.and (A.ltN 0 1) (A.ltN 1 3), true, true, A.and (A.ltN 0 1) (A.ltN 2 3), true, true, A.and true (Decidable.decide (bigB (A.sub n16 (AV.toI (AV.cellAt (A.nthA x13 (A.nat n7)) 2))) = true ∧ 0 < A.sub n15 (AV.toI (AV.cellAt (A.nthA x13 (A.nat n7)) 0)) ∧ bigB (A.sub n15 (AV.toI (AV.cellAt (A.nthA x13 (A.nat n7)) 0))) = true)), true, A.inR .i64 (A.sub n16 (AV.toI (AV.cellAt (A.nthA x13 (A.nat n7)) 2))), A.and (A.ltN 0 1) (A.ltN 2 3), true, true, A.and (A.ltN 0 1) (A.ltN 1 3), true, true, true, A.inR .i64 (A.sub n15 (AV.toI (AV.cellAt (A.nthA x13 (A.nat n7)) 0))), A.and (A.ltN 0 1) (A.ltN 0 3), true, A.and (A.ltN 0 1) (A.ltN 0 3), true, A.and (A.ltN 0 1) (A.eqN 3 3), A.and true (A.ltN 0 3), A.leN (A.addN 0 3) 3, A.and (A.and (A.le 0 n7) (A.ltN (A.nat n7) (A.lenA x13))) (A.eqN 3 3), A.lt n7 n14, true],
   f106h106_1b (ps) (n0) (A.add n7 1) (n8) (n9) (n10) (n11) (n12) (x13) (n14) (n15) (n16) (n17), f106h106_1bm (ps) (n0) (A.add n7 1) (n8) (n9) (n10) (n11) (n12) (x13) (n14) (n15) (n16) (n17)) := by kernel_rfl
theorem f106p9 (A : Ar) (ps : List AV) (n0 : Int) (n7 : Int) (n8 : Int) (n9 : Int) (n10 : Int) (n11 : Int) (n12 : Int) (x13 : List AV) (n14 : Int) (n15 : Int) (n16 : Int) (n17 : Int) : gwalkL A tab BC1 15 [false] (f106h106_1b ps n0 n7 n8 n9 n10 n11 n12 x13 n14 n15 n16 n17) (f106h106_1bm ps n0 n7 n8 n9 n10 n11 n12 x13 n14 n15 n16 n17) =
  some ([true, A.inR .i64 (A.add n12 1), !A.lt n7 n14, true],
   f106h106_0b (ps) (n0) (n8) (n9) (n10) (n11) (A.add n12 1), f106h106_0bm (ps) (n0) (n8) (n9) (n10) (n11) (A.add n12 1)) := by kernel_rfl
theorem f106p10 (A : Ar) (ps : List AV) (n0 : Int) (n8 : Int) (n9 : Int) (n10 : Int) (n11 : Int) (n18 : Int) : gwalkL A tab BC1 30 [true] (f106h106_0b ps n0 n8 n9 n10 n11 n18) (f106h106_0bm ps n0 n8 n9 n10 n11 n18) =
  some ([true, true, A.and (A.and true (A.le 0 n18)) (A.and (A.and (A.leN 0 (A.nat n18)) (A.leN (A.nat n18) (A.lenA ps))) (A.and (A.eqN 3 3) true)), true, true, A.and (A.ltN 0 1) (A.eqN 3 3), true, A.and true (A.ltN 0 3), A.leN (A.addN 0 3) 3, A.and (A.and (A.le 0 n18) (A.ltN (A.nat n18) (A.lenA ps))) (A.eqN 3 3), true, A.lt n18 n0, true],
   f106h106_1b (ps) (n0) (0) (n8) (n9) (n10) (n11) (n18) (A.subA ps 0 (A.subN (A.nat n18) 0)) (A.int (A.lenA (A.subA ps 0 (A.subN (A.nat n18) 0)))) (AV.toI (AV.cellAt (A.nthA ps (A.nat n18)) 0)) (AV.toI (AV.cellAt (A.nthA ps (A.nat n18)) 1)) (AV.toI (AV.cellAt (A.nthA ps (A.nat n18)) 2)), f106h106_1bm (ps) (n0) (0) (n8) (n9) (n10) (n11) (n18) (A.subA ps 0 (A.subN (A.nat n18) 0)) (A.int (A.lenA (A.subA ps 0 (A.subN (A.nat n18) 0)))) (AV.toI (AV.cellAt (A.nthA ps (A.nat n18)) 0)) (AV.toI (AV.cellAt (A.nthA ps (A.nat n18)) 1)) (AV.toI (AV.cellAt (A.nthA ps (A.nat n18)) 2))) := by kernel_rfl
theorem f106p11 (A : Ar) (ps : List AV) (n0 : Int) (n8 : Int) (n9 : Int) (n10 : Int) (n11 : Int) (n18 : Int) : gfin A tab BC1 14 [false] 106 (f106h106_0b ps n0 n8 n9 n10 n11 n18) (f106h106_0bm ps n0 n8 n9 n10 n11 n18) =
  some ([A.and (A.and (A.and (A.ltN 0 1) (A.leN (A.addN 0 4) 4)) true) (A.and true true), A.and (A.ltN 0 1) (A.eqN 4 4), A.and (A.ltN 0 1) (A.leN (A.addN 0 4) 4), !A.lt n18 n0, true],
   AV.agg (Row.gen [AV.int .i64 n8, AV.int .i64 n9, AV.int .i64 n10, AV.int .i64 n11]), none) := by kernel_rfl
def f25e (ps : List AV) : List AFrame := [{ fn := 25, N := 11, env := [(0, AV.list (Row.big (Sh.agg [Sh.int .i64, Sh.int .i64, Sh.int .i64]) ps))], todo := [.code a25.code], defs := [], rnd := none, ret := false, res := [ARes.tmp 2] }]
theorem f25e_at (ps : List AV) : enterA tab 25 [AV.list (Row.big (Sh.agg [Sh.int .i64, Sh.int .i64, Sh.int .i64]) ps)] = some { fn := 25, N := 11, env := [(0, AV.list (Row.big (Sh.agg [Sh.int .i64, Sh.int .i64, Sh.int .i64]) ps))], todo := [.code a25.code], defs := [], rnd := none, ret := false, res := [ARes.tmp 2] } := rfl
theorem f25p0 (A : Ar) (ps : List AV) : gfin A tab BC1 21 [] 25 (f25e ps) [] =
  some ([A.and true (A.and true true), true, true, true, true, true, true, true, A.and true (Decidable.decide (List.length ps ≤ 1000000)), true, true],
   AV.int .i64 (chkP ps).2, none) := by kernel_rfl
def f50e (n : Int) (d : Int) : List AFrame := [{ fn := 50, N := 10, env := [(0, AV.int .i64 n), (1, AV.int .i64 d)], todo := [.code a50.code], defs := [], rnd := none, ret := false, res := [ARes.tmp 4] }]
theorem f50e_at (n : Int) (d : Int) : enterA tab 50 [AV.int .i64 n, AV.int .i64 d] = some { fn := 50, N := 10, env := [(0, AV.int .i64 n), (1, AV.int .i64 d)], todo := [.code a50.code], defs := [], rnd := none, ret := false, res := [ARes.tmp 4] } := rfl
theorem f50p0 (A : Ar) (n : Int) (d : Int) : gfin A tab BC1 14 [] 50 (f50e n d) [] =
  some ([A.and true (A.and true true), true, A.inR .i64 (A.neg (floorI (A.neg n) d)), A.and true (Decidable.decide ((0 < d ∧ bigB d = true) ∧ bigB (A.neg n) = true)), true, A.inR .i64 (A.neg n), true, true],
   AV.int .i64 (A.neg (floorI (A.neg n) d)), none) := by kernel_rfl
end Go.Proofs.Ytjhdnpmojhkbjaa
/- Contracts as a list. No condition. -/
namespace Go.Proofs.Ytjhdnpmojhkbjaa
theorem lowest92_ok (n d : Int) (h : bigB n = true ∧ 0 < d ∧ bigB d = true) : Pure Try.prog 92 [.int .i64 n, .int .i64 d] (.agg (.gen [.int .i64 (lN n d), .int .i64 (lD n d)])) none :=
  start (f92e_at n d) fun C hC => by
    obtain ⟨hn, hd0, hd⟩ := h
    have hg : 0 < (Int.gcd n d : Int) := by
      have := Int.gcd_pos_of_ne_zero_right n (show d ≠ 0 by omega)
      omega
    obtain ⟨_, _, _, _, _, h1⟩ := tdiv_rng n hg
    obtain ⟨_, _, _, _, _, h2⟩ := tdiv_rng d hg
    refine fin hC BC1_ok (f92p1 std n d) ?_ rfl rfl
    have hn' := hn; have hd' := hd
    simp only [bigB, decide_eq_true_eq] at hn' hd'
    simp [hn, hd]
    omega
def ceilI (n d : Int) : Int := -(floorI (-n) d)
theorem ceil50_ok (n d : Int) (h : (0 < d ∧ bigB d = true) ∧ (-4000000000000000000 ≤ n ∧ n ≤ 4000000000000000000)) : Pure Try.prog 50 [.int .i64 n, .int .i64 d] (.int .i64 (ceilI n d)) none :=
  start (f50e_at n d) fun C hC => by
    obtain ⟨⟨hd, hdb⟩, hn⟩ := h
    have h1 := tdiv_rng (-n) hd
    have h2 : bigB (-n) = true := by simp [bigB]; omega
    refine fin hC BC1_ok (f50p0 std n d) ?_ rfl rfl
    simp [hd, hdb, h2]
    unfold floorI
    split <;> omega
theorem perr25_ok (ps : List AV) (h : ps.length ≤ 1000000) : Pure Try.prog 25 [.list (.big (.agg [.int .i64, .int .i64, .int .i64]) ps)] (.int .i64 (chkP ps).2) none :=
  start (f25e_at ps) fun C hC => fin hC BC1_ok (f25p0 std ps) (by simp [h]) rfl rfl
/-! ### Fractions compared -/
def cmpI (n d m k : Int) : Int := if n * k < m * d then -1 else if m * d < n * k then 1 else 0
def medB (x : Int) : Bool := decide (-4000000000000000000 ≤ x ∧ x ≤ 4000000000000000000)
theorem cmp_parts {n d m k p r q s : Int} (hn : n = p * d + r) (hm : m = q * k + s) (hd : 0 < d) (hk : 0 < k) (hr : 0 ≤ r ∧ r < d) (hs : 0 ≤ s ∧ s < k) :
    (p < q → cmpI n d m k = -1) ∧ (q < p → cmpI n d m k = 1) ∧ (p = q → cmpI n d m k = if r * k < s * d then -1 else if s * d < r * k then 1 else 0) := by
  have e1 : n * k = p * (d * k) + r * k := by rw [hn, Int.add_mul, Int.mul_assoc]
  have e2 : m * d = q * (d * k) + s * d := by rw [hm, Int.add_mul, Int.mul_assoc, Int.mul_comm k d]
  have g1 : 0 ≤ r * k := Int.mul_nonneg hr.1 (by omega)
  have g2 : 0 ≤ s * d := Int.mul_nonneg hs.1 (by omega)
  have g3 : r * k < d * k := Int.mul_lt_mul_of_pos_right hr.2 hk
  have g4 : s * d < d * k := by rw [Int.mul_comm d k]; exact Int.mul_lt_mul_of_pos_right hs.2 hd
  have hD : 0 < d * k := Int.mul_pos hd hk
  unfold cmpI
  rw [e1, e2]
  refine ⟨fun h => ?_, fun h => ?_, fun h => ?_⟩
  · have : (p + 1) * (d * k) ≤ q * (d * k) := Int.mul_le_mul_of_nonneg_right (by omega) (by omega)
    rw [Int.add_mul, Int.one_mul] at this
    rw [if_pos (by omega)]
  · have : (q + 1) * (d * k) ≤ p * (d * k) := Int.mul_le_mul_of_nonneg_right (by omega) (by omega)
    rw [Int.add_mul, Int.one_mul] at this
    rw [if_neg (by omega), if_pos (by omega)]
  · subst h
    generalize p * (d * k) = Z
    by_cases h1 : r * k < s * d
    · rw [if_pos (by omega), if_pos h1]
    · rw [if_neg (by omega), if_neg h1]
      by_cases h2 : s * d < r * k
      · rw [if_pos (by omega), if_pos h2]
      · rw [if_neg (by omega), if_neg h2]
theorem l52 {C : Ctx} (hC : C.P = Try.prog) (c : Int) : ∀ (N : Nat) (n d m k : Int), (d + k).toNat ≤ N → 0 < d → 0 < k → medB n = true → medB d = true → medB m = true → medB k = true → cmpI n d m k = c →
    Ev C (f52h52_0a n d m k) (f52h52_0am n d m k) (FinQ 52 (.int .i64 c) none) := by
  intro N
  induction N with
  | zero => intro n d m k hN hd hk; omega
  | succ N ih =>
    intro n d m k hN hd hk hnb hdb hmb hkb hc
    have f1 := floorI_rng n hd
    have f2 := floorI_rng m hk
    obtain ⟨_, _, _, _, _, a1⟩ := tdiv_rng n hd
    obtain ⟨_, _, _, _, _, a2⟩ := tdiv_rng m hk
    have b1 : bigB n = true ∧ bigB d = true ∧ bigB m = true ∧ bigB k = true := by
      simp only [medB, bigB, decide_eq_true_eq] at *
      omega
    have hnb' := hnb; have hdb' := hdb; have hmb' := hmb; have hkb' := hkb
    simp only [medB, decide_eq_true_eq] at hnb' hdb' hmb' hkb'
    obtain ⟨p, hp⟩ : ∃ p, floorI n d = p := ⟨_, rfl⟩
    obtain ⟨q, hq⟩ : ∃ q, floorI m k = q := ⟨_, rfl⟩
    rw [hp] at f1
    rw [hq] at f2
    have key := cmp_parts (n := n) (d := d) (m := m) (k := k) (p := p) (r := n - p * d) (q := q) (s := m - q * k) (by omega) (by omega) hd hk (by omega) (by omega)
    rw [hc] at key
    obtain ⟨pd, hpd⟩ : ∃ pd, p * d = pd := ⟨_, rfl⟩
    obtain ⟨qk, hqk⟩ : ∃ qk, q * k = qk := ⟨_, rfl⟩
    rw [hpd] at f1 key
    rw [hqk] at f2 key
    rcases Int.lt_trichotomy p q with h | h | h
    · exact fin hC BC1_ok (f52p1 std n d m k) (by simp only [hp, hq]; simp [hd, hk, b1, h]) (by rw [key.1 h]) rfl
    · have hk3 := key.2.2 h
      have hpq : q = p := h.symm
      by_cases hr : n - pd = 0
      · by_cases hs : m - qk = 0
        · refine fin hC BC1_ok (f52p3 std n d m k) (by simp only [hp, hq, s_mul, hpd, hqk]; simp [hd, hk, b1, hpq, hr, hs]; omega) ?_ rfl
          rw [hk3, hr, hs]; simp
        · refine fin hC BC1_ok (f52p4 std n d m k) (by simp only [hp, hq, s_mul, hpd, hqk]; simp [hd, hk, b1, hpq, hr, hs]; omega) ?_ rfl
          rw [hk3, hr, Int.zero_mul, if_pos (Int.mul_pos (by omega) hd)]
      · by_cases hs : m - qk = 0
        · refine fin hC BC1_ok (f52p5 std n d m k) (by simp only [hp, hq, s_mul, hpd, hqk]; simp [hd, hk, b1, hpq, hr, hs]; omega) ?_ rfl
          have : 0 < (n - pd) * k := Int.mul_pos (by omega) hk
          rw [hk3, hs, Int.zero_mul, if_neg (by omega), if_pos this]
        · refine go hC BC1_ok (f52p6 std n d m k) (by simp only [hp, hq, s_mul, hpd, hqk]; simp [hd, hk, b1, hpq, hr, hs]; omega) ?_
          simp only [hp, hq, s_mul, s_sub, hpd, hqk]
          refine ih k (m - qk) d (n - pd) (by omega) (by omega) (by omega) hkb (by simp only [medB, decide_eq_true_eq]; omega) hdb (by simp only [medB, decide_eq_true_eq]; omega) ?_
          rw [hk3, cmpI, Int.mul_comm k, Int.mul_comm d]
    · exact fin hC BC1_ok (f52p2 std n d m k) (by simp only [hp, hq]; simp [hd, hk, b1, h]; omega) (by rw [key.2.1 h]) rfl
theorem cmp52_ok (n d m k : Int) (h : ((0 < d ∧ 0 < k) ∧ medB n = true ∧ medB d = true) ∧ medB m = true ∧ medB k = true) : Pure Try.prog 52 [.int .i64 n, .int .i64 d, .int .i64 m, .int .i64 k] (.int .i64 (cmpI n d m k)) none :=
  start (f52e_at n d m k) fun C hC => go hC BC1_ok (f52p0 std n d m k) (by simp) (l52 hC _ _ n d m k (Nat.le_refl _) h.1.1.1 h.1.1.2 h.1.2.1 h.1.2.2 h.2.1 h.2.2 rfl)
def k92 : Ctr := ⟨92, 0, fun _ a => match a with | [.int .i64 n, .int .i64 d] => some (decide (bigB n = true ∧ 0 < d ∧ bigB d = true), .agg (.gen [.int .i64 (lN n d), .int .i64 (lD n d)]), none) | _ => none⟩
theorem k92_ok : k92.OK Try.prog := fun pa args r fr h => by
  simp only [k92] at h
  split at h
  · simp only [Option.some.injEq, Prod.mk.injEq, decide_eq_true_eq] at h
    obtain ⟨h0, rfl, rfl⟩ := h
    exact lowest92_ok _ _ h0
  · cases h
def k50 : Ctr := ⟨50, 0, fun _ a => match a with | [.int .i64 n, .int .i64 d] => some (decide ((0 < d ∧ bigB d = true) ∧ (-4000000000000000000 ≤ n ∧ n ≤ 4000000000000000000)), .int .i64 (ceilI n d), none) | _ => none⟩
theorem k50_ok : k50.OK Try.prog := fun pa args r fr h => by
  simp only [k50] at h
  split at h
  · simp only [Option.some.injEq, Prod.mk.injEq, decide_eq_true_eq] at h
    obtain ⟨h0, rfl, rfl⟩ := h
    exact ceil50_ok _ _ h0
  · cases h
def k25 : Ctr := ⟨25, 0, fun _ a => match a with | [.list (.big (.agg [.int .i64, .int .i64, .int .i64]) ps)] => some (decide (ps.length ≤ 1000000), .int .i64 (chkP ps).2, none) | _ => none⟩
theorem k25_ok : k25.OK Try.prog := fun pa args r fr h => by
  simp only [k25] at h
  split at h
  · simp only [Option.some.injEq, Prod.mk.injEq, decide_eq_true_eq] at h
    obtain ⟨h0, rfl, rfl⟩ := h
    exact perr25_ok _ h0
  · cases h
def k52 : Ctr := ⟨52, 0, fun _ a => match a with | [.int .i64 n, .int .i64 d, .int .i64 m, .int .i64 k] => some (decide (((0 < d ∧ 0 < k) ∧ medB n = true ∧ medB d = true) ∧ medB m = true ∧ medB k = true), .int .i64 (cmpI n d m k), none) | _ => none⟩
theorem k52_ok : k52.OK Try.prog := fun pa args r fr h => by
  simp only [k52] at h
  split at h
  · simp only [Option.some.injEq, Prod.mk.injEq, decide_eq_true_eq] at h
    obtain ⟨h0, rfl, rfl⟩ := h
    exact cmp52_ok _ _ _ _ h0
  · cases h
def BC2 : List Ctr := [k92, k50, k25, k52] ++ BC1
theorem BC2_ok : CtrsOK Try.prog BC2 := ⟨k92_ok, ⟨k50_ok, ⟨k25_ok, ⟨k52_ok, BC1_ok⟩⟩⟩⟩
end Go.Proofs.Ytjhdnpmojhkbjaa
/- Contracts as a list. No condition. -/
namespace Go.Proofs.Ytjhdnpmojhkbjaa
/-! ### Rates of lines -/
abbrev R4 := Int × Int × Int × Int
def rnew (q p : AV) : R4 := (lN (pL q - pH p) (pC q - pC p), lD (pL q - pH p) (pC q - pC p), lN (pH q - pL p) (pC q - pC p), lD (pH q - pL p) (pC q - pC p))
def rmrg (s n : R4) : R4 :=
  if ltF s.1 s.2.1 n.1 n.2.1 = true then (if ltF n.2.2.1 n.2.2.2 s.2.2.1 s.2.2.2 = true then n else (n.1, n.2.1, s.2.2.1, s.2.2.2))
  else (if ltF n.2.2.1 n.2.2.2 s.2.2.1 s.2.2.2 = true then (s.1, s.2.1, n.2.2.1, n.2.2.2) else s)
def rinP (q : AV) : R4 → List AV → R4
  | s, [] => s
  | s, p :: l => rinP q (rmrg s (rnew q p)) l
def rgoP (ps : List AV) : Nat → Nat → R4 → R4
  | 0, _, s => s
  | n + 1, i, s => rgoP ps n (i + 1) (rinP (ps.getD i (.int .i64 0)) s (ps.take i))
def rateP (ps : List AV) : R4 := rgoP ps (ps.length - 2) 2 (rnew (ps.getD 1 (.int .i64 0)) (ps.getD 0 (.int .i64 0)))
def okQ (q p : AV) : Prop := (0 < pC q - pC p ∧ pC q - pC p ≤ 1000000) ∧ (-1000000000000 ≤ pL q - pH p ∧ pL q - pH p ≤ 1000000000000) ∧ (-1000000000000 ≤ pH q - pL p ∧ pH q - pL p ≤ 1000000000000)
instance (q p : AV) : Decidable (okQ q p) := by unfold okQ; infer_instance
def sR (s : R4) : Prop := ((-1000000000000 ≤ s.1 ∧ s.1 ≤ 1000000000000) ∧ 0 < s.2.1 ∧ s.2.1 ≤ 1000000) ∧ (-1000000000000 ≤ s.2.2.1 ∧ s.2.2.1 ≤ 1000000000000) ∧ 0 < s.2.2.2 ∧ s.2.2.2 ≤ 1000000
theorem low_rng (n : Int) {d : Int} (hd : 0 < d) : (lN n d).natAbs ≤ n.natAbs ∧ 0 < lD n d ∧ lD n d ≤ d := by
  have hg : 0 < (Int.gcd n d : Int) := by
    have := Int.gcd_pos_of_ne_zero_right n (show d ≠ 0 by omega)
    omega
  refine ⟨(tdiv_rng n hg).2.2.2.2.2, ?_, ?_⟩
  · obtain ⟨c, hc⟩ := Int.gcd_dvd_right n d
    have : lD n d = c := by
      unfold lD
      generalize (Int.gcd n d : Int) = g at *
      rw [hc, Int.mul_tdiv_cancel_left _ (by omega)]
    rw [this]
    rcases Int.lt_or_le 0 c with h | h
    · exact h
    · have := Int.mul_nonpos_of_nonneg_of_nonpos (show 0 ≤ (Int.gcd n d : Int) by omega) h
      omega
  · have := (tdiv_rng d hg).2.2.2.2.2
    have h2 := (tdiv_rng d hg).2.2.2.1 (by omega)
    unfold lD
    omega
theorem rnew_sR {q p : AV} (h : okQ q p) : sR (rnew q p) := by
  obtain ⟨⟨h1, h2⟩, h3, h4⟩ := h
  have a := low_rng (pL q - pH p) h1
  have b := low_rng (pH q - pL p) h1
  unfold sR rnew
  dsimp only
  omega
theorem rmrg_sR {s n : R4} (hs : sR s) (hn : sR n) : sR (rmrg s n) := by
  unfold rmrg
  split <;> split
  · exact hn
  · exact ⟨hn.1, hs.2⟩
  · exact ⟨hs.1, hn.2⟩
  · exact hs
theorem rinP_sR {q : AV} : ∀ {l : List AV} {s : R4}, sR s → (∀ p ∈ l, okQ q p) → sR (rinP q s l)
  | [], _, hs, _ => hs
  | p :: l, s, hs, h => rinP_sR (l := l) (rmrg_sR hs (rnew_sR (h p (by simp)))) (fun p hp => h p (by simp [hp]))
theorem mulR {a d : Int} (ha : -1000000000000 ≤ a ∧ a ≤ 1000000000000) (hd : 0 < d ∧ d ≤ 1000000) : -1000000000000000000 ≤ a * d ∧ a * d ≤ 1000000000000000000 := by
  have h1 := Int.mul_le_mul_of_nonneg_right ha.1 (show 0 ≤ d by omega)
  have h2 := Int.mul_le_mul_of_nonneg_right ha.2 (show 0 ≤ d by omega)
  omega
theorem prodR {a b c d : Int} (ha : -1000000000000 ≤ a ∧ a ≤ 1000000000000) (hb : 0 < b ∧ b ≤ 1000000) (hc : -1000000000000 ≤ c ∧ c ≤ 1000000000000) (hd : 0 < d ∧ d ≤ 1000000) : prodB a b c d = true := by
  have h1 := mulR ha hd
  have h2 := mulR hc hb
  simp only [prodB, decide_eq_true_eq]
  omega
theorem l106i {C : Ctx} (hC : C.P = Try.prog) (ps : List AV) (n0 : Int) (q : AV) (x : List AV) (R : AV) (i : Nat) (hi : i ≤ 1000000) (hxl : x.length ≤ 1000000) (hx : ∀ p ∈ x, okQ q p) : ∀ (d k : Nat) (s : R4), x.length - k = d → k ≤ x.length → sR s →
    (∀ t, sR t → t = rinP q s (x.drop k) → Ev C (f106h106_0b ps n0 t.1 t.2.1 t.2.2.1 t.2.2.2 ((i + 1 : Nat) : Int)) (f106h106_0bm ps n0 t.1 t.2.1 t.2.2.1 t.2.2.2 ((i + 1 : Nat) : Int)) (FinQ 106 R none)) →
    Ev C (f106h106_1b ps n0 k s.1 s.2.1 s.2.2.1 s.2.2.2 i x x.length (pC q) (pL q) (pH q)) (f106h106_1bm ps n0 k s.1 s.2.1 s.2.2.1 s.2.2.2 i x x.length (pC q) (pL q) (pH q)) (FinQ 106 R none) := by
  intro d
  induction d with
  | zero =>
    intro k s hd hk hs next
    have hk : k = x.length := by omega
    refine go hC BC1_ok (f106p9 std ps n0 k s.1 s.2.1 s.2.2.1 s.2.2.2 i x x.length (pC q) (pL q) (pH q)) (by simp; omega) ?_
    have := next s hs (by rw [List.drop_of_length_le (by omega)]; rfl)
    simpa using this
  | succ d ih =>
    intro k s hd hk hs next
    have hlt : k < x.length := by omega
    have e1 : std.nthA x (std.nat (k : Int)) = x[k] := by simp [hlt]
    have hq := hx x[k] (by simp)
    have hn := rnew_sR hq
    rw [List.drop_eq_getElem_cons hlt, rinP] at next
    have ih' := ih (k + 1) (rmrg s (rnew q x[k])) (by omega) (by omega) (rmrg_sR hs hn) next
    have g1 : (x[k].cellAt 0).toI = pC x[k] := rfl
    have g2 : (x[k].cellAt 1).toI = pL x[k] := rfl
    have g3 : (x[k].cellAt 2).toI = pH x[k] := rfl
    have b1 := prodR hs.1.1 hs.1.2 hn.1.1 hn.1.2
    have b2 := prodR hn.2.1 hn.2.2 hs.2.1 hs.2.2
    obtain ⟨⟨q1, q2⟩, q3, q4⟩ := hq
    have q5 : bigB (pL q - pH x[k]) = true := by simp only [bigB, decide_eq_true_eq]; omega
    have q6 : bigB (pH q - pL x[k]) = true := by simp only [bigB, decide_eq_true_eq]; omega
    have q7 : bigB (pC q - pC x[k]) = true := by simp only [bigB, decide_eq_true_eq]; omega
    have key : ∀ t, rmrg s (rnew q x[k]) = t → Ev C (f106h106_1b ps n0 ((k + 1 : Nat) : Int) t.1 t.2.1 t.2.2.1 t.2.2.2 i x x.length (pC q) (pL q) (pH q)) (f106h106_1bm ps n0 ((k + 1 : Nat) : Int) t.1 t.2.1 t.2.2.1 t.2.2.2 i x x.length (pC q) (pL q) (pH q)) (FinQ 106 R none) := fun t ht => ht ▸ ih'
    have e5 : std.add (k : Int) 1 = ((k + 1 : Nat) : Int) := by simp
    by_cases h1 : ltF s.1 s.2.1 (rnew q x[k]).1 (rnew q x[k]).2.1 = true
    · by_cases h2 : ltF (rnew q x[k]).2.2.1 (rnew q x[k]).2.2.2 s.2.2.1 s.2.2.2 = true
      · have kk := key (rnew q x[k]) (by rw [rmrg, if_pos h1, if_pos h2])
        simp only [rnew] at h1 h2 kk b1 b2
        refine go hC BC1_ok (f106p5 std ps n0 k s.1 s.2.1 s.2.2.1 s.2.2.2 i x x.length (pC q) (pL q) (pH q)) ?_ ?_
        · simp only [e1, g1, g2, g3, s_sub, h1, h2, b1, b2, q5, q6, q7]; simp [hlt]; omega
        · simp only [e1, g1, g2, g3, s_sub, e5]; exact kk
      · have kk := key (((rnew q x[k]).1, (rnew q x[k]).2.1, s.2.2.1, s.2.2.2)) (by rw [rmrg, if_pos h1, if_neg h2])
        simp only [rnew] at h1 h2 kk b1 b2
        refine go hC BC1_ok (f106p6 std ps n0 k s.1 s.2.1 s.2.2.1 s.2.2.2 i x x.length (pC q) (pL q) (pH q)) ?_ ?_
        · simp only [e1, g1, g2, g3, s_sub, h1, h2, b1, b2, q5, q6, q7]; simp [hlt]; omega
        · simp only [e1, g1, g3, s_sub, e5]; exact kk
    · by_cases h2 : ltF (rnew q x[k]).2.2.1 (rnew q x[k]).2.2.2 s.2.2.1 s.2.2.2 = true
      · have kk := key ((s.1, s.2.1, (rnew q x[k]).2.2.1, (rnew q x[k]).2.2.2)) (by rw [rmrg, if_neg h1, if_pos h2])
        simp only [rnew] at h1 h2 kk b1 b2
        refine go hC BC1_ok (f106p7 std ps n0 k s.1 s.2.1 s.2.2.1 s.2.2.2 i x x.length (pC q) (pL q) (pH q)) ?_ ?_
        · simp only [e1, g1, g2, g3, s_sub, h1, h2, b1, b2, q5, q6, q7]; simp [hlt]; omega
        · simp only [e1, g1, g2, s_sub, e5]; exact kk
      · have kk := key s (by rw [rmrg, if_neg h1, if_neg h2])
        simp only [rnew] at h1 h2 kk b1 b2
        refine go hC BC1_ok (f106p8 std ps n0 k s.1 s.2.1 s.2.2.1 s.2.2.2 i x x.length (pC q) (pL q) (pH q)) ?_ ?_
        · simp only [e1, g1, g2, g3, s_sub, h1, h2, b1, b2, q5, q6, q7]; simp [hlt]; omega
        · simp only [e5]; exact kk
/-- every later pair against every earlier one -/
def goodB (ps : List AV) : Bool := decide (2 ≤ ps.length ∧ ps.length ≤ 1000000) && (List.range ps.length).all fun i => (List.range i).all fun k => decide (okQ (ps.getD i (.int .i64 0)) (ps.getD k (.int .i64 0)))
theorem good_ok {ps : List AV} (h : goodB ps = true) : (2 ≤ ps.length ∧ ps.length ≤ 1000000) ∧ ∀ i k, i < ps.length → k < i → okQ (ps.getD i (.int .i64 0)) (ps.getD k (.int .i64 0)) := by
  rw [goodB, Bool.and_eq_true, decide_eq_true_eq, List.all_eq_true] at h
  refine ⟨h.1, fun i k hi hk => ?_⟩
  have := h.2 i (List.mem_range.2 hi)
  rw [List.all_eq_true] at this
  exact of_decide_eq_true (this k (List.mem_range.2 hk))
theorem rtake {ps : List AV} (hg : ∀ i k, i < ps.length → k < i → okQ (ps.getD i (.int .i64 0)) (ps.getD k (.int .i64 0))) {i : Nat} (hi : i < ps.length) : ∀ p ∈ ps.take i, okQ (ps.getD i (.int .i64 0)) p := by
  intro p hp
  obtain ⟨k, hk, rfl⟩ := List.getElem_of_mem hp
  rw [List.length_take] at hk
  have := hg i k hi (by omega)
  rw [List.getElem_take]
  have e : ps.getD k (.int .i64 0) = ps[k] := by simp [show k < ps.length by omega]
  rwa [e] at this
theorem rgoP_sR {ps : List AV} (hg : ∀ i k, i < ps.length → k < i → okQ (ps.getD i (.int .i64 0)) (ps.getD k (.int .i64 0))) : ∀ (d i : Nat) (s : R4), i + d = ps.length → sR s → sR (rgoP ps d i s)
  | 0, _, _, _, hs => hs
  | d + 1, i, s, hi, hs => rgoP_sR hg d (i + 1) _ (by omega) (rinP_sR hs (rtake hg (by omega)))
theorem rateP_sR {ps : List AV} (h : goodB ps = true) : sR (rateP ps) :=
  have hg := good_ok h
  rgoP_sR hg.2 _ _ _ (by omega) (rnew_sR (hg.2 1 0 (by omega) (by omega)))
theorem l106o {C : Ctx} (hC : C.P = Try.prog) (ps : List AV) (hl : ps.length ≤ 1000000) (r : R4) (hg : ∀ i k, i < ps.length → k < i → okQ (ps.getD i (.int .i64 0)) (ps.getD k (.int .i64 0))) : ∀ (d i : Nat) (s : R4), i + d = ps.length → sR s → rgoP ps d i s = r →
    Ev C (f106h106_0b ps ps.length s.1 s.2.1 s.2.2.1 s.2.2.2 i) (f106h106_0bm ps ps.length s.1 s.2.1 s.2.2.1 s.2.2.2 i) (FinQ 106 (.agg (.gen [.int .i64 r.1, .int .i64 r.2.1, .int .i64 r.2.2.1, .int .i64 r.2.2.2])) none) := by
  intro d
  induction d with
  | zero =>
    intro i s hi hs hr
    rw [rgoP] at hr
    exact fin hC BC1_ok (f106p11 std ps ps.length s.1 s.2.1 s.2.2.1 s.2.2.2 i) (by simp; omega) (by rw [hr]) rfl
  | succ d ih =>
    intro i s hi hs hr
    have hlt : i < ps.length := by omega
    have e1 : std.nthA ps (std.nat (i : Int)) = ps.getD i (.int .i64 0) := by simp [hlt]
    have e2 : std.subA ps 0 (std.subN (std.nat (i : Int)) 0) = ps.take i := by simp
    have e3 : std.int (std.lenA (ps.take i)) = ((ps.take i).length : Int) := by simp
    rw [rgoP] at hr
    refine go hC BC1_ok (f106p10 std ps ps.length s.1 s.2.1 s.2.2.1 s.2.2.2 i) (by simp; omega) ?_
    rw [e1, e2, e3]
    refine l106i hC ps ps.length (ps.getD i (.int .i64 0)) (ps.take i) _ i (by omega) (by rw [List.length_take]; omega) (rtake hg hlt) _ 0 s rfl (by omega) hs fun t ht he => ?_
    exact ih (i + 1) t (by omega) ht (by rw [he]; exact hr)
theorem rates106_ok (ps : List AV) (h : goodB ps = true) : Pure Try.prog 106 [.list (.big (.agg [.int .i64, .int .i64, .int .i64]) ps)] (.agg (.gen [.int .i64 (rateP ps).1, .int .i64 (rateP ps).2.1, .int .i64 (rateP ps).2.2.1, .int .i64 (rateP ps).2.2.2])) none :=
  start (f106e_at ps) fun C hC => by
    obtain ⟨⟨h2, hl⟩, hg⟩ := good_ok h
    have hok := hg 1 0 (by omega) (by omega)
    refine go hC BC1_ok (f106p0 std ps) (by simp) ?_
    refine go hC BC1_ok (f106p1 std ps _ 0) (by simp; omega) ?_
    refine go hC BC1_ok (f106p4 std ps _ 0 _ _ _ _ _) (by simp) ?_
    refine go hC BC1_ok (f106p1 std ps _ _) (by simp; omega) ?_
    have e1 : std.nthA ps (std.nat (std.add 0 1)) = ps.getD 1 (.int .i64 0) := by simp [show 1 < ps.length by omega]
    have e2 : std.subA ps 0 (std.subN (std.nat (std.add 0 1)) 0) = ps.take 1 := by simp
    have e3 : std.int (std.lenA (ps.take 1)) = ((ps.take 1).length : Int) := by simp
    have e4 : (ps.take 1).length = 1 := by rw [List.length_take]; omega
    have e5 : std.nthA (ps.take 1) (std.nat 0) = ps.getD 0 (.int .i64 0) := by simp [show 0 < ps.length by omega]
    rw [e1, e2, e3, e4]
    generalize hq : ps.getD 1 (.int .i64 0) = q at *
    generalize hp : ps.getD 0 (.int .i64 0) = p at *
    have g0 : (q.cellAt 0).toI = pC q := rfl
    have g1 : (q.cellAt 1).toI = pL q := rfl
    have g2 : (q.cellAt 2).toI = pH q := rfl
    have g3 : (p.cellAt 0).toI = pC p := rfl
    have g4 : (p.cellAt 1).toI = pL p := rfl
    have g5 : (p.cellAt 2).toI = pH p := rfl
    have hn := rnew_sR hok
    obtain ⟨⟨q1, q2⟩, q3, q4⟩ := hok
    have q5 : bigB (pL q - pH p) = true := by simp only [bigB, decide_eq_true_eq]; omega
    have q6 : bigB (pH q - pL p) = true := by simp only [bigB, decide_eq_true_eq]; omega
    have q7 : bigB (pC q - pC p) = true := by simp only [bigB, decide_eq_true_eq]; omega
    refine go hC BC1_ok (f106p3 std ps _ _ (ps.take 1) _ _ _ _) ?_ ?_
    · simp only [e5, g0, g1, g2, g3, g4, g5, s_sub, q5, q6, q7]; simp [e4]; omega
    · simp only [e5, g0, g1, g2, g3, g4, g5, s_sub]
      refine go hC BC1_ok (f106p9 std ps _ _ _ _ _ _ _ (ps.take 1) _ _ _ _) (by simp) ?_
      have := l106o hC ps hl (rateP ps) hg (ps.length - 2) 2 (rnew q p) (by omega) hn (by rw [rateP, hq, hp])
      simpa [rnew] using this
def k106 : Ctr := ⟨106, 0, fun _ a => match a with | [.list (.big (.agg [.int .i64, .int .i64, .int .i64]) ps)] => some (decide (goodB ps = true), .agg (.gen [.int .i64 (rateP ps).1, .int .i64 (rateP ps).2.1, .int .i64 (rateP ps).2.2.1, .int .i64 (rateP ps).2.2.2]), none) | _ => none⟩
theorem k106_ok : k106.OK Try.prog := fun pa args r fr h => by
  simp only [k106] at h
  split at h
  · simp only [Option.some.injEq, Prod.mk.injEq, decide_eq_true_eq] at h
    obtain ⟨h0, rfl, rfl⟩ := h
    exact rates106_ok _ h0
  · cases h
def BC3 : List Ctr := [k106] ++ BC2
theorem BC3_ok : CtrsOK Try.prog BC3 := ⟨k106_ok, BC2_ok⟩
end Go.Proofs.Ytjhdnpmojhkbjaa
