/- Paths of functions, printed by the explorer (Gx). No condition. -/
import Derived.Test.YtjhdnpmojhkbjaaC3
import Derived.KernelRfl
namespace Go.Proofs.Ytjhdnpmojhkbjaa
set_option maxRecDepth 100000
set_option linter.unusedVariables false
def f47e (ps : List AV) : List AFrame := [{ fn := 47, N := 117, env := [(0, AV.list (Row.big (Sh.agg [Sh.int .i64, Sh.int .i64, Sh.int .i64]) ps))], todo := [.code a47.code], defs := [], rnd := none, ret := false, res := [ARes.cell 2 true 4, ARes.tmp 3] }]
theorem f47e_at (ps : List AV) : enterA tab 47 [AV.list (Row.big (Sh.agg [Sh.int .i64, Sh.int .i64, Sh.int .i64]) ps)] = some { fn := 47, N := 117, env := [(0, AV.list (Row.big (Sh.agg [Sh.int .i64, Sh.int .i64, Sh.int .i64]) ps))], todo := [.code a47.code], defs := [], rnd := none, ret := false, res := [ARes.cell 2 true 4, ARes.tmp 3] } := rfl
def f47h47_0a (ps : List AV) (n0 : Int) : List AFrame := [{ fn := 47, N := 117, env := [(0, AV.list (Row.big (Sh.agg [Sh.int .i64, Sh.int .i64, Sh.int .i64]) ps)), (2, AV.ptr 47003 0 0 0), (4, AV.ptr 47005 0 0 0), (5, AV.int .i64 n0)], todo := .code (ACode.gh [] l47_0) :: k47_0, defs := [], rnd := none, ret := false, res := [ARes.cell 2 true 4, ARes.tmp 3] }]
def f47h47_0am (ps : List AV) (n0 : Int) : AHeap := [(47003, { base := 0, blks := [Blk.row 80 4 (Row.gen [AV.agg (.ints .i64 [0, 0, 0, 0])])] }), (47005, { base := 0, blks := [Blk.row 80 4 (Row.gen [AV.agg (.ints .i64 [0, 0, 0, 0])])] })]
def f47h47_1a (ps : List AV) (n0 : Int) : List AFrame := [{ fn := 47, N := 117, env := [(0, AV.list (Row.big (Sh.agg [Sh.int .i64, Sh.int .i64, Sh.int .i64]) ps)), (2, AV.ptr 47003 0 0 0), (4, AV.ptr 47005 0 0 0), (5, AV.int .i64 n0), (6, AV.int .i64 0)], todo := .code (ACode.gh [] l47_1) :: k47_1, defs := [], rnd := none, ret := false, res := [ARes.cell 2 true 4, ARes.tmp 3] }]
def f47h47_1am (ps : List AV) (n0 : Int) : AHeap := [(47003, { base := 0, blks := [Blk.row 80 4 (Row.gen [AV.agg (.ints .i64 [0, 0, 0, 0])])] }), (47005, { base := 0, blks := [Blk.row 80 4 (Row.gen [AV.agg (.ints .i64 [0, 0, 0, 0])])] })]
def f47h47_1b (ps : List AV) (n1 : Int) (n2 : Int) (n3 : Int) (n4 : Int) (n5 : Int) (n6 : Int) : List AFrame := [{ fn := 47, N := 117, env := [(0, AV.list (Row.big (Sh.agg [Sh.int .i64, Sh.int .i64, Sh.int .i64]) ps)), (2, AV.ptr 47003 0 0 0), (4, AV.ptr 47005 0 0 0), (5, AV.int .i64 n6), (6, AV.int .i64 n1)], todo := .code (ACode.gh [] l47_1) :: k47_1, defs := [], rnd := none, ret := false, res := [ARes.cell 2 true 4, ARes.tmp 3] }]
def f47h47_1bm (ps : List AV) (n1 : Int) (n2 : Int) (n3 : Int) (n4 : Int) (n5 : Int) (n6 : Int) : AHeap := [(47003, { base := 0, blks := [Blk.row 80 4 (Row.gen [AV.agg (.ints .i64 [0, 0, 0, 0])])] }), (47005, { base := 0, blks := [Blk.row 80 4 (Row.gen [AV.agg (Row.gen [AV.int .i64 n2, AV.int .i64 n3, AV.int .i64 n4, AV.int .i64 n5])])] })]
def f47h47_0b (ps : List AV) (n2 : Int) (n3 : Int) (n4 : Int) (n5 : Int) (n7 : Int) : List AFrame := [{ fn := 47, N := 117, env := [(0, AV.list (Row.big (Sh.agg [Sh.int .i64, Sh.int .i64, Sh.int .i64]) ps)), (2, AV.ptr 47003 0 0 0), (4, AV.ptr 47005 0 0 0), (5, AV.int .i64 n7)], todo := .code (ACode.gh [] l47_0) :: k47_0, defs := [], rnd := none, ret := false, res := [ARes.cell 2 true 4, ARes.tmp 3] }]
def f47h47_0bm (ps : List AV) (n2 : Int) (n3 : Int) (n4 : Int) (n5 : Int) (n7 : Int) : AHeap := [(47003, { base := 0, blks := [Blk.row 80 4 (Row.gen [AV.agg (.ints .i64 [0, 0, 0, 0])])] }), (47005, { base := 0, blks := [Blk.row 80 4 (Row.gen [AV.agg (Row.gen [AV.int .i64 n2, AV.int .i64 n3, AV.int .i64 n4, AV.int .i64 n5])])] })]
theorem f47p0 (A : Ar) (ps : List AV) : gwalkL A tab BC3 17 [] (f47e ps) [] =
  some ([true, A.and true (A.ltN 0 (A.len [0, 0, 0, 0])), true, A.and true (A.ltN 0 (A.len [0, 0, 0, 0]))],
   f47h47_0a (ps) (0), f47h47_0am (ps) (0)) := by kernel_rfl
theorem f47p1 (A : Ar) (ps : List AV) (n0 : Int) : gwalkL A tab BC3 20 [true] (f47h47_0a ps n0) (f47h47_0am ps n0) =
  some ([true, A.lt n0 (A.int (A.lenA ps)), true, true, true, true],
   f47h47_1a (ps) (n0), f47h47_1am (ps) (n0)) := by kernel_rfl
theorem f47p3 (A : Ar) (ps : List AV) (n0 : Int) : gwalkL A tab BC3 83 [true, true, true, true, true, true, true, true, true, true, true, true, true, true, true, true, true, true, true, true, true, true, true, true, true, true, true, true, true] (f47h47_1a ps n0) (f47h47_1am ps n0) =
  some ([true, A.inR .i64 (A.add 0 1), true, A.and (A.ltN 0 1) (A.and (A.eqN 2 2) (A.leN (A.addN 2 2) 4)), true, A.and (A.ltN 0 1) (A.leN (A.addN 0 2) 2), true, true, true, true, true, true, true, true, true, true, true, true, true, true, true, true, true, true, true, true, true, true, true, true, true, true, A.eq 0 0, true, true, A.and (A.ltN 0 1) (A.ltN 3 4), true, true, A.and (A.ltN 0 1) (A.and (A.eqN 2 2) (A.leN (A.addN 0 2) 4)), true, A.and (A.ltN 0 1) (A.leN (A.addN 0 2) 2), true, true, true, true, true, true, true, true, true, true, true, true, true, true, true, true, true, true, true, true, true, true, true, true, true, true, A.eq (A.nth [0, 0, 0, 0] 1) 0, true, true, A.and (A.ltN 0 1) (A.ltN 1 (A.len [0, 0, 0, 0])), true, true, A.and (A.ltN 0 1) (A.eqN 2 2), A.and (A.ltN 0 1) (A.eqN 2 2), A.and true (A.ltN 0 2), A.and true (A.ltN 0 2), A.and true (Decidable.decide (bigB (A.sub (AV.toI (AV.cellAt (A.nthA ps (A.nat n0)) 2)) (AV.toI (AV.cellAt (A.nthA ps (A.nat 0)) 1))) = true ∧ 0 < A.sub (AV.toI (AV.cellAt (A.nthA ps (A.nat n0)) 0)) (AV.toI (AV.cellAt (A.nthA ps (A.nat 0)) 0)) ∧ bigB (A.sub (AV.toI (AV.cellAt (A.nthA ps (A.nat n0)) 0)) (AV.toI (AV.cellAt (A.nthA ps (A.nat 0)) 0))) = true)), true, A.inR .i64 (A.sub (AV.toI (AV.cellAt (A.nthA ps (A.nat n0)) 2)) (AV.toI (AV.cellAt (A.nthA ps (A.nat 0)) 1))), A.ltN 1 3, true, true, A.and (A.and (A.le 0 0) (A.ltN (A.nat 0) (A.lenA ps))) (A.eqN 3 3), true, true, A.ltN 2 3, true, true, A.and (A.and (A.le 0 n0) (A.ltN (A.nat n0) (A.lenA ps))) (A.eqN 3 3), true, true, A.and true (Decidable.decide (bigB (A.sub (AV.toI (AV.cellAt (A.nthA ps (A.nat n0)) 1)) (AV.toI (AV.cellAt (A.nthA ps (A.nat 0)) 2))) = true ∧ 0 < A.sub (AV.toI (AV.cellAt (A.nthA ps (A.nat n0)) 0)) (AV.toI (AV.cellAt (A.nthA ps (A.nat 0)) 0)) ∧ bigB (A.sub (AV.toI (AV.cellAt (A.nthA ps (A.nat n0)) 0)) (AV.toI (AV.cellAt (A.nthA ps (A.nat 0)) 0))) = true)), true, A.inR .i64 (A.sub (AV.toI (AV.cellAt (A.nthA ps (A.nat n0)) 1)) (AV.toI (AV.cellAt (A.nthA ps (A.nat 0)) 2))), A.ltN 2 3, true, true, A.and (A.and (A.le 0 0) (A.ltN (A.nat 0) (A.lenA ps))) (A.eqN 3 3), true, true, A.ltN 1 3, true, true, A.and (A.and (A.le 0 n0) (A.ltN (A.nat n0) (A.lenA ps))) (A.eqN 3 3), true, true, true, A.inR .i64 (A.sub (AV.toI (AV.cellAt (A.nthA ps (A.nat n0)) 0)) (AV.toI (AV.cellAt (A.nthA ps (A.nat 0)) 0))), A.ltN 0 3, true, A.and (A.and (A.le 0 0) (A.ltN (A.nat 0) (A.lenA ps))) (A.eqN 3 3), true, true, A.ltN 0 3, true, A.and (A.and (A.le 0 n0) (A.ltN (A.nat n0) (A.lenA ps))) (A.eqN 3 3), true, true, A.lt 0 n0, true, true, true],
   f47h47_1b (ps) (A.add 0 1) (lN (A.sub (AV.toI (AV.cellAt (A.nthA ps (A.nat n0)) 1)) (AV.toI (AV.cellAt (A.nthA ps (A.nat 0)) 2))) (A.sub (AV.toI (AV.cellAt (A.nthA ps (A.nat n0)) 0)) (AV.toI (AV.cellAt (A.nthA ps (A.nat 0)) 0)))) (lD (A.sub (AV.toI (AV.cellAt (A.nthA ps (A.nat n0)) 1)) (AV.toI (AV.cellAt (A.nthA ps (A.nat 0)) 2))) (A.sub (AV.toI (AV.cellAt (A.nthA ps (A.nat n0)) 0)) (AV.toI (AV.cellAt (A.nthA ps (A.nat 0)) 0)))) (lN (A.sub (AV.toI (AV.cellAt (A.nthA ps (A.nat n0)) 2)) (AV.toI (AV.cellAt (A.nthA ps (A.nat 0)) 1))) (A.sub (AV.toI (AV.cellAt (A.nthA ps (A.nat n0)) 0)) (AV.toI (AV.cellAt (A.nthA ps (A.nat 0)) 0)))) (lD (A.sub (AV.toI (AV.cellAt (A.nthA ps (A.nat n0)) 2)) (AV.toI (AV.cellAt (A.nthA ps (A.nat 0)) 1))) (A.sub (AV.toI (AV.cellAt (A.nthA ps (A.nat n0)) 0)) (AV.toI (AV.cellAt (A.nthA ps (A.nat 0)) 0)))) (n0), f47h47_1bm (ps) (A.add 0 1) (lN (A.sub (AV.toI (AV.cellAt (A.nthA ps (A.nat n0)) 1)) (AV.toI (AV.cellAt (A.nthA ps (A.nat 0)) 2))) (A.sub (AV.toI (AV.cellAt (A.nthA ps (A.nat n0)) 0)) (AV.toI (AV.cellAt (A.nthA ps (A.nat 0)) 0)))) (lD (A.sub (AV.toI (AV.cellAt (A.nthA ps (A.nat n0)) 1)) (AV.toI (AV.cellAt (A.nthA ps (A.nat 0)) 2))) (A.sub (AV.toI (AV.cellAt (A.nthA ps (A.nat n0)) 0)) (AV.toI (AV.cellAt (A.nthA ps (A.nat 0)) 0)))) (lN (A.sub (AV.toI (AV.cellAt (A.nthA ps (A.nat n0)) 2)) (AV.toI (AV.cellAt (A.nthA ps (A.nat 0)) 1))) (A.sub (AV.toI (AV.cellAt (A.nthA ps (A.nat n0)) 0)) (AV.toI (AV.cellAt (A.nthA ps (A.nat 0)) 0)))) (lD (A.sub (AV.toI (AV.cellAt (A.nthA ps (A.nat n0)) 2)) (AV.toI (AV.cellAt (A.nthA ps (A.nat 0)) 1))) (A.sub (AV.toI (AV.cellAt (A.nthA ps (A.nat n0)) 0)) (AV.toI (AV.cellAt (A.nthA ps (A.nat 0)) 0)))) (n0)) := by kernel_rfl
theorem f47p4 (A : Ar) (ps : List AV) (n0 : Int) : gwalkL A tab BC3 18 [false] (f47h47_1a ps n0) (f47h47_1am ps n0) =
  some ([true, A.inR .i64 (A.add n0 1), true, !A.lt 0 n0, true, true, true],
   f47h47_0a (ps) (A.add n0 1), f47h47_0am (ps) (A.add n0 1)) := by kernel_rfl
theorem f47p9 (A : Ar) (ps : List AV) (n1 : Int) (n2 : Int) (n3 : Int) (n4 : Int) (n5 : Int) (n6 : Int) : gwalkL A tab BC3 83 [true, false, false, false, false, false, false, false, false, false, false, false, false, false, true, false, false, false, false, false, false, false, false, false, false, false, false, false, true] (f47h47_1b ps n1 n2 n3 n4 n5 n6) (f47h47_1bm ps n1 n2 n3 n4 n5 n6) =
  some ([true, A.inR .i64 (A.add n1 1), true, A.and (A.ltN 0 1) (A.and (A.eqN 2 2) (A.leN (A.addN 2 2) 4)), true, A.and (A.ltN 0 1) (A.leN (A.addN 0 2) 2), A.lt (cmpI (lN (A.sub (AV.toI (AV.cellAt (A.nthA ps (A.nat n6)) 2)) (AV.toI (AV.cellAt (A.nthA ps (A.nat n1)) 1))) (A.sub (AV.toI (AV.cellAt (A.nthA ps (A.nat n6)) 0)) (AV.toI (AV.cellAt (A.nthA ps (A.nat n1)) 0)))) (lD (A.sub (AV.toI (AV.cellAt (A.nthA ps (A.nat n6)) 2)) (AV.toI (AV.cellAt (A.nthA ps (A.nat n1)) 1))) (A.sub (AV.toI (AV.cellAt (A.nthA ps (A.nat n6)) 0)) (AV.toI (AV.cellAt (A.nthA ps (A.nat n1)) 0)))) n4 n5) 0, true, true, true, true, A.and true (Decidable.decide (((0 < lD (A.sub (AV.toI (AV.cellAt (A.nthA ps (A.nat n6)) 2)) (AV.toI (AV.cellAt (A.nthA ps (A.nat n1)) 1))) (A.sub (AV.toI (AV.cellAt (A.nthA ps (A.nat n6)) 0)) (AV.toI (AV.cellAt (A.nthA ps (A.nat n1)) 0))) ∧ 0 < n5) ∧ medB (lN (A.sub (AV.toI (AV.cellAt (A.nthA ps (A.nat n6)) 2)) (AV.toI (AV.cellAt (A.nthA ps (A.nat n1)) 1))) (A.sub (AV.toI (AV.cellAt (A.nthA ps (A.nat n6)) 0)) (AV.toI (AV.cellAt (A.nthA ps (A.nat n1)) 0)))) = true ∧ medB (lD (A.sub (AV.toI (AV.cellAt (A.nthA ps (A.nat n6)) 2)) (AV.toI (AV.cellAt (A.nthA ps (A.nat n1)) 1))) (A.sub (AV.toI (AV.cellAt (A.nthA ps (A.nat n6)) 0)) (AV.toI (AV.cellAt (A.nthA ps (A.nat n1)) 0)))) = true) ∧ medB n4 = true ∧ medB n5 = true)), true, A.and (A.ltN 0 1) (A.ltN 3 4), true, true, true, true, true, A.and (A.ltN 0 1) (A.ltN 2 4), true, true, true, true, true, A.and (A.ltN 0 1) (A.ltN 1 2), true, true, true, A.and (A.ltN 0 1) (A.ltN 0 2), true, true, !A.eq n5 0, true, true, A.and (A.ltN 0 1) (A.ltN 3 4), true, true, A.and (A.ltN 0 1) (A.and (A.eqN 2 2) (A.leN (A.addN 0 2) 4)), true, A.and (A.ltN 0 1) (A.leN (A.addN 0 2) 2), A.lt 0 (cmpI (lN (A.sub (AV.toI (AV.cellAt (A.nthA ps (A.nat n6)) 1)) (AV.toI (AV.cellAt (A.nthA ps (A.nat n1)) 2))) (A.sub (AV.toI (AV.cellAt (A.nthA ps (A.nat n6)) 0)) (AV.toI (AV.cellAt (A.nthA ps (A.nat n1)) 0)))) (lD (A.sub (AV.toI (AV.cellAt (A.nthA ps (A.nat n6)) 1)) (AV.toI (AV.cellAt (A.nthA ps (A.nat n1)) 2))) (A.sub (AV.toI (AV.cellAt (A.nthA ps (A.nat n6)) 0)) (AV.toI (AV.cellAt (A.nthA ps (A.nat n1)) 0)))) n2 n3), true, true, true, true, A.and true (Decidable.decide (((0 < lD (A.sub (AV.toI (AV.cellAt (A.nthA ps (A.nat n6)) 1)) (AV.toI (AV.cellAt (A.nthA ps (A.nat n1)) 2))) (A.sub (AV.toI (AV.cellAt (A.nthA ps (A.nat n6)) 0)) (AV.toI (AV.cellAt (A.nthA ps (A.nat n1)) 0))) ∧ 0 < n3) ∧ medB (lN (A.sub (AV.toI (AV.cellAt (A.nthA ps (A.nat n6)) 1)) (AV.toI (AV.cellAt (A.nthA ps (A.nat n1)) 2))) (A.sub (AV.toI (AV.cellAt (A.nthA ps (A.nat n6)) 0)) (AV.toI (AV.cellAt (A.nthA ps (A.nat n1)) 0)))) = true ∧ medB (lD (A.sub (AV.toI (AV.cellAt (A.nthA ps (A.nat n6)) 1)) (AV.toI (AV.cellAt (A.nthA ps (A.nat n1)) 2))) (A.sub (AV.toI (AV.cellAt (A.nthA ps (A.nat n6)) 0)) (AV.toI (AV.cellAt (A.nthA ps (A.nat n1)) 0)))) = true) ∧ medB n2 = true ∧ medB n3 = true)), true, A.and (A.ltN 0 1) (A.ltN 1 4), true, true, true, true, true, A.and (A.ltN 0 1) (A.ltN 0 4), true, true, true, true, true, A.and (A.ltN 0 1) (A.ltN 1 2), true, true, true, A.and (A.ltN 0 1) (A.ltN 0 2), true, true, !A.eq n3 0, true, true, A.and (A.ltN 0 1) (A.ltN 1 4), true, true, A.and (A.ltN 0 1) (A.eqN 2 2), A.and (A.ltN 0 1) (A.eqN 2 2), A.and true (A.ltN 0 2), A.and true (A.ltN 0 2), A.and true (Decidable.decide (bigB (A.sub (AV.toI (AV.cellAt (A.nthA ps (A.nat n6)) 2)) (AV.toI (AV.cellAt (A.nthA ps (A.nat n1)) 1))) = true ∧ 0 < A.sub (AV.toI (AV.cellAt (A.nthA ps (A.nat n6)) 0)) (AV.toI (AV.cellAt (A.nthA ps (A.nat n1)) 0)) ∧ bigB (A.sub (AV.toI (AV.cellAt (A.nthA ps (A.nat n6)) 0)) (AV.toI (AV.cellAt (A.nthA ps (A.nat n1)) 0))) = true)), true, A.inR .i64 (A.sub (AV.toI (AV.cellAt (A.nthA ps (A.nat n6)) 2)) (AV.toI (AV.cellAt (A.nthA ps (A.nat n1)) 1))), A.ltN 1 3, true, true, A.and (A.and (A.le 0 n1) (A.ltN (A.nat n1) (A.lenA ps))) (A.eqN 3 3), true, true, A.ltN 2 3, true, true, A.and (A.and (A.le 0 n6) (A.ltN (A.nat n6) (A.lenA ps))) (A.eqN 3 3), true, true, A.and true (Decidable.decide (bigB (A.sub (AV.toI (AV.cellAt (A.nthA ps (A.nat n6)) 1)) (AV.toI (AV.cellAt (A.nthA ps (A.nat n1)) 2))) = true ∧ 0 < A.sub (AV.toI (AV.cellAt (A.nthA ps (A.nat n6)) 0)) (AV.toI (AV.cellAt (A.nthA ps (A.nat n1)) 0)) ∧ bigB (A.sub (AV.toI (AV.cellAt (A.nthA ps (A.nat n6)) 0)) (AV.toI (AV.cellAt (A.nthA ps (A.nat n1)) 0))) = true)), true, A.inR .i64 (A.sub (AV.toI (AV.cellAt (A.nthA ps (A.nat n6)) 1)) (AV.toI (AV.cellAt (A.nthA ps (A.nat n1)) 2))), A.ltN 2 3, true, true, A.and (A.and (A.le 0 n1) (A.ltN (A.nat n1) (A.lenA ps))) (A.eqN 3 3), true, true, A.ltN 1 3, true, true, A.and (A.and (A.le 0 n6) (A.ltN (A.nat n6) (A.lenA ps))) (A.eqN 3 3), true, true, true, A.inR .i64 (A.sub (AV.toI (AV.cellAt (A.nthA ps (A.nat n6)) 0)) (AV.toI (AV.cellAt (A.nthA ps (A.nat n1)) 0))), A.ltN 0 3, true, A.and (A.and (A.le 0 n1) (A.ltN (A.nat n1) (A.lenA ps))) (A.eqN 3 3), true, true, A.ltN 0 3, true, A.and (A.and (A.le 0 n6) (A.ltN (A.nat n6) (A.lenA ps))) (A.eqN 3 3), true, true, A.lt n1 n6, true, true, true],
   f47h47_1b (ps) (A.add n1 1) (lN (A.sub (AV.toI (AV.cellAt (A.nthA ps (A.nat n6)) 1)) (AV.toI (AV.cellAt (A.nthA ps (A.nat n1)) 2))) (A.sub (AV.toI (AV.cellAt (A.nthA ps (A.nat n6)) 0)) (AV.toI (AV.cellAt (A.nthA ps (A.nat n1)) 0)))) (lD (A.sub (AV.toI (AV.cellAt (A.nthA ps (A.nat n6)) 1)) (AV.toI (AV.cellAt (A.nthA ps (A.nat n1)) 2))) (A.sub (AV.toI (AV.cellAt (A.nthA ps (A.nat n6)) 0)) (AV.toI (AV.cellAt (A.nthA ps (A.nat n1)) 0)))) (lN (A.sub (AV.toI (AV.cellAt (A.nthA ps (A.nat n6)) 2)) (AV.toI (AV.cellAt (A.nthA ps (A.nat n1)) 1))) (A.sub (AV.toI (AV.cellAt (A.nthA ps (A.nat n6)) 0)) (AV.toI (AV.cellAt (A.nthA ps (A.nat n1)) 0)))) (lD (A.sub (AV.toI (AV.cellAt (A.nthA ps (A.nat n6)) 2)) (AV.toI (AV.cellAt (A.nthA ps (A.nat n1)) 1))) (A.sub (AV.toI (AV.cellAt (A.nthA ps (A.nat n6)) 0)) (AV.toI (AV.cellAt (A.nthA ps (A.nat n1)) 0)))) (n6), f47h47_1bm (ps) (A.add n1 1) (lN (A.sub (AV.toI (AV.cellAt (A.nthA ps (A.nat n6)) 1)) (AV.toI (AV.cellAt (A.nthA ps (A.nat n1)) 2))) (A.sub (AV.toI (AV.cellAt (A.nthA ps (A.nat n6)) 0)) (AV.toI (AV.cellAt (A.nthA ps (A.nat n1)) 0)))) (lD (A.sub (AV.toI (AV.cellAt (A.nthA ps (A.nat n6)) 1)) (AV.toI (AV.cellAt (A.nthA ps (A.nat n1)) 2))) (A.sub (AV.toI (AV.cellAt (A.nthA ps (A.nat n6)) 0)) (AV.toI (AV.cellAt (A.nthA ps (A.nat n1)) 0)))) (lN (A.sub (AV.toI (AV.cellAt (A.nthA ps (A.nat n6)) 2)) (AV.toI (AV.cellAt (A.nthA ps (A.nat n1)) 1))) (A.sub (AV.toI (AV.cellAt (A.nthA ps (A.nat n6)) 0)) (AV.toI (AV.cellAt (A.nthA ps (A.nat n1)) 0)))) (lD (A.sub (AV.toI (AV.cellAt (A.nthA ps (A.nat n6)) 2)) (AV.toI (AV.cellAt (A.nthA ps (A.nat n1)) 1))) (A.sub (AV.toI (AV.cellAt (A.nthA ps (A.nat n6)) 0)) (AV.toI (AV.cellAt (A.nthA ps (A.nat n1)) 0)))) (n6)) := by kernel_rfl
theorem f47p10 (A : Ar) (ps : List AV) (n1 : Int) (n2 : Int) (n3 : Int) (n4 : Int) (n5 : Int) (n6 : Int) : gwalkL A tab BC3 79 [true, false, false, false, false, false, false, false, false, false, false, false, false, false, true, false, false, false, false, false, false, false, false, false, false, false, false, false, false] (f47h47_1b ps n1 n2 n3 n4 n5 n6) (f47h47_1bm ps n1 n2 n3 n4 n5 n6) =
  some ([true, A.inR .i64 (A.add n1 1), true, !A.lt (cmpI (lN (A.sub (AV.toI (AV.cellAt (A.nthA ps (A.nat n6)) 2)) (AV.toI (AV.cellAt (A.nthA ps (A.nat n1)) 1))) (A.sub (AV.toI (AV.cellAt (A.nthA ps (A.nat n6)) 0)) (AV.toI (AV.cellAt (A.nthA ps (A.nat n1)) 0)))) (lD (A.sub (AV.toI (AV.cellAt (A.nthA ps (A.nat n6)) 2)) (AV.toI (AV.cellAt (A.nthA ps (A.nat n1)) 1))) (A.sub (AV.toI (AV.cellAt (A.nthA ps (A.nat n6)) 0)) (AV.toI (AV.cellAt (A.nthA ps (A.nat n1)) 0)))) n4 n5) 0, true, true, true, true, A.and true (Decidable.decide (((0 < lD (A.sub (AV.toI (AV.cellAt (A.nthA ps (A.nat n6)) 2)) (AV.toI (AV.cellAt (A.nthA ps (A.nat n1)) 1))) (A.sub (AV.toI (AV.cellAt (A.nthA ps (A.nat n6)) 0)) (AV.toI (AV.cellAt (A.nthA ps (A.nat n1)) 0))) ∧ 0 < n5) ∧ medB (lN (A.sub (AV.toI (AV.cellAt (A.nthA ps (A.nat n6)) 2)) (AV.toI (AV.cellAt (A.nthA ps (A.nat n1)) 1))) (A.sub (AV.toI (AV.cellAt (A.nthA ps (A.nat n6)) 0)) (AV.toI (AV.cellAt (A.nthA ps (A.nat n1)) 0)))) = true ∧ medB (lD (A.sub (AV.toI (AV.cellAt (A.nthA ps (A.nat n6)) 2)) (AV.toI (AV.cellAt (A.nthA ps (A.nat n1)) 1))) (A.sub (AV.toI (AV.cellAt (A.nthA ps (A.nat n6)) 0)) (AV.toI (AV.cellAt (A.nthA ps (A.nat n1)) 0)))) = true) ∧ medB n4 = true ∧ medB n5 = true)), true, A.and (A.ltN 0 1) (A.ltN 3 4), true, true, true, true, true, A.and (A.ltN 0 1) (A.ltN 2 4), true, true, true, true, true, A.and (A.ltN 0 1) (A.ltN 1 2), true, true, true, A.and (A.ltN 0 1) (A.ltN 0 2), true, true, !A.eq n5 0, true, true, A.and (A.ltN 0 1) (A.ltN 3 4), true, true, A.and (A.ltN 0 1) (A.and (A.eqN 2 2) (A.leN (A.addN 0 2) 4)), true, A.and (A.ltN 0 1) (A.leN (A.addN 0 2) 2), A.lt 0 (cmpI (lN (A.sub (AV.toI (AV.cellAt (A.nthA ps (A.nat n6)) 1)) (AV.toI (AV.cellAt (A.nthA ps (A.nat n1)) 2))) (A.sub (AV.toI (AV.cellAt (A.nthA ps (A.nat n6)) 0)) (AV.toI (AV.cellAt (A.nthA ps (A.nat n1)) 0)))) (lD (A.sub (AV.toI (AV.cellAt (A.nthA ps (A.nat n6)) 1)) (AV.toI (AV.cellAt (A.nthA ps (A.nat n1)) 2))) (A.sub (AV.toI (AV.cellAt (A.nthA ps (A.nat n6)) 0)) (AV.toI (AV.cellAt (A.nthA ps (A.nat n1)) 0)))) n2 n3), true, true, true, true, A.and true (Decidable.decide (((0 < lD (A.sub (AV.toI (AV.cellAt (A.nthA ps (A.nat n6)) 1)) (AV.toI (AV.cellAt (A.nthA ps (A.nat n1)) 2))) (A.sub (AV.toI (AV.cellAt (A.nthA ps (A.nat n6)) 0)) (AV.toI (AV.cellAt (A.nthA ps (A.nat n1)) 0))) ∧ 0 < n3) ∧ medB (lN (A.sub (AV.toI (AV.cellAt (A.nthA ps (A.nat n6)) 1)) (AV.toI (AV.cellAt (A.nthA ps (A.nat n1)) 2))) (A.sub (AV.toI (AV.cellAt (A.nthA ps (A.nat n6)) 0)) (AV.toI (AV.cellAt (A.nthA ps (A.nat n1)) 0)))) = true ∧ medB (lD (A.sub (AV.toI (AV.cellAt (A.nthA ps (A.nat n6)) 1)) (AV.toI (AV.cellAt (A.nthA ps (A.nat n1)) 2))) (A.sub (AV.toI (AV.cellAt (A.nthA ps (A.nat n6)) 0)) (AV.toI (AV.cellAt (A.nthA ps (A.nat n1)) 0)))) = true) ∧ medB n2 = true ∧ medB n3 = true)), true, A.and (A.ltN 0 1) (A.ltN 1 4), true, true, true, true, true, A.and (A.ltN 0 1) (A.ltN 0 4), true, true, true, true, true, A.and (A.ltN 0 1) (A.ltN 1 2), true, true, true, A.and (A.ltN 0 1) (A.ltN 0 2), true, true, !A.eq n3 0, true, true, A.and (A.ltN 0 1) (A.ltN 1 4), true, true, A.and (A.ltN 0 1) (A.eqN 2 2), A.and (A.ltN 0 1) (A.eqN 2 2), A.and true (A.ltN 0 2), A.and true (A.ltN 0 2), A.and true (Decidable.decide (bigB (A.sub (AV.toI (AV.cellAt (A.nthA ps (A.nat n6)) 2)) (AV.toI (AV.cellAt (A.nthA ps (A.nat n1)) 1))) = true ∧ 0 < A.sub (AV.toI (AV.cellAt (A.nthA ps (A.nat n6)) 0)) (AV.toI (AV.cellAt (A.nthA ps (A.nat n1)) 0)) ∧ bigB (A.sub (AV.toI (AV.cellAt (A.nthA ps (A.nat n6)) 0)) (AV.toI (AV.cellAt (A.nthA ps (A.nat n1)) 0))) = true)), true, A.inR .i64 (A.sub (AV.toI (AV.cellAt (A.nthA ps (A.nat n6)) 2)) (AV.toI (AV.cellAt (A.nthA ps (A.nat n1)) 1))), A.ltN 1 3, true, true, A.and (A.and (A.le 0 n1) (A.ltN (A.nat n1) (A.lenA ps))) (A.eqN 3 3), true, true, A.ltN 2 3, true, true, A.and (A.and (A.le 0 n6) (A.ltN (A.nat n6) (A.lenA ps))) (A.eqN 3 3), true, true, A.and true (Decidable.decide (bigB (A.sub (AV.toI (AV.cellAt (A.nthA ps (A.nat n6)) 1)) (AV.toI (AV.cellAt (A.nthA ps (A.nat n1)) 2))) = true ∧ 0 < A.sub (AV.toI (AV.cellAt (A.nthA ps (A.nat n6)) 0)) (AV.toI (AV.cellAt (A.nthA ps (A.nat n1)) 0)) ∧ bigB (A.sub (AV.toI (AV.cellAt (A.nthA ps (A.nat n6)) 0)) (AV.toI (AV.cellAt (A.nthA ps (A.nat n1)) 0))) = true)), true, A.inR .i64 (A.sub (AV.toI (AV.cellAt (A.nthA ps (A.nat n6)) 1)) (AV.toI (AV.cellAt (A.nthA ps (A.nat n1)) 2))), A.ltN 2 3, true, true, A.and (A.and (A.le 0 n1) (A.ltN (A.nat n1) (A.lenA ps))) (A.eqN 3 3), true, true, A.ltN 1 3, true, true, A.and (A.and (A.le 0 n6) (A.ltN (A.nat n6) (A.lenA ps))) (A.eqN 3 3), true, true, true, A.inR .i64 (A.sub (AV.toI (AV.cellAt (A.nthA ps (A.nat n6)) 0)) (AV.toI (AV.cellAt (A.nthA ps (A.nat n1)) 0))), A.ltN 0 3, true, A.and (A.and (A.le 0 n1) (A.ltN (A.nat n1) (A.lenA ps))) (A.eqN 3 3), true, true, A.ltN 0 3, true, A.and (A.and (A.le 0 n6) (A.ltN (A.nat n6) (A.lenA ps))) (A.eqN 3 3), true, true, A.lt n1 n6, true, true, true],
   f47h47_1b (ps) (A.add n1 1) (lN (A.sub (AV.toI (AV.cellAt (A.nthA ps (A.nat n6)) 1)) (AV.toI (AV.cellAt (A.nthA ps (A.nat n1)) 2))) (A.sub (AV.toI (AV.cellAt (A.nthA ps (A.nat n6)) 0)) (AV.toI (AV.cellAt (A.nthA ps (A.nat n1)) 0)))) (lD (A.sub (AV.toI (AV.cellAt (A.nthA ps (A.nat n6)) 1)) (AV.toI (AV.cellAt (A.nthA ps (A.nat n1)) 2))) (A.sub (AV.toI (AV.cellAt (A.nthA ps (A.nat n6)) 0)) (AV.toI (AV.cellAt (A.nthA ps (A.nat n1)) 0)))) (n4) (n5) (n6), f47h47_1bm (ps) (A.add n1 1) (lN (A.sub (AV.toI (AV.cellAt (A.nthA ps (A.nat n6)) 1)) (AV.toI (AV.cellAt (A.nthA ps (A.nat n1)) 2))) (A.sub (AV.toI (AV.cellAt (A.nthA ps (A.nat n6)) 0)) (AV.toI (AV.cellAt (A.nthA ps (A.nat n1)) 0)))) (lD (A.sub (AV.toI (AV.cellAt (A.nthA ps (A.nat n6)) 1)) (AV.toI (AV.cellAt (A.nthA ps (A.nat n1)) 2))) (A.sub (AV.toI (AV.cellAt (A.nthA ps (A.nat n6)) 0)) (AV.toI (AV.cellAt (A.nthA ps (A.nat n1)) 0)))) (n4) (n5) (n6)) := by kernel_rfl
theorem f47p12 (A : Ar) (ps : List AV) (n1 : Int) (n2 : Int) (n3 : Int) (n4 : Int) (n5 : Int) (n6 : Int) : gwalkL A tab BC3 79 [true, false, false, false, false, false, false, false, false, false, false, false, false, false, false, false, false, false, false, false, false, false, false, false, false, false, false, false, true] (f47h47_1b ps n1 n2 n3 n4 n5 n6) (f47h47_1bm ps n1 n2 n3 n4 n5 n6) =
  some ([true, A.inR .i64 (A.add n1 1), true, A.and (A.ltN 0 1) (A.and (A.eqN 2 2) (A.leN (A.addN 2 2) 4)), true, A.and (A.ltN 0 1) (A.leN (A.addN 0 2) 2), A.lt (cmpI (lN (A.sub (AV.toI (AV.cellAt (A.nthA ps (A.nat n6)) 2)) (AV.toI (AV.cellAt (A.nthA ps (A.nat n1)) 1))) (A.sub (AV.toI (AV.cellAt (A.nthA ps (A.nat n6)) 0)) (AV.toI (AV.cellAt (A.nthA ps (A.nat n1)) 0)))) (lD (A.sub (AV.toI (AV.cellAt (A.nthA ps (A.nat n6)) 2)) (AV.toI (AV.cellAt (A.nthA ps (A.nat n1)) 1))) (A.sub (AV.toI (AV.cellAt (A.nthA ps (A.nat n6)) 0)) (AV.toI (AV.cellAt (A.nthA ps (A.nat n1)) 0)))) n4 n5) 0, true, true, true, true, A.and true (Decidable.decide (((0 < lD (A.sub (AV.toI (AV.cellAt (A.nthA ps (A.nat n6)) 2)) (AV.toI (AV.cellAt (A.nthA ps (A.nat n1)) 1))) (A.sub (AV.toI (AV.cellAt (A.nthA ps (A.nat n6)) 0)) (AV.toI (AV.cellAt (A.nthA ps (A.nat n1)) 0))) ∧ 0 < n5) ∧ medB (lN (A.sub (AV.toI (AV.cellAt (A.nthA ps (A.nat n6)) 2)) (AV.toI (AV.cellAt (A.nthA ps (A.nat n1)) 1))) (A.sub (AV.toI (AV.cellAt (A.nthA ps (A.nat n6)) 0)) (AV.toI (AV.cellAt (A.nthA ps (A.nat n1)) 0)))) = true ∧ medB (lD (A.sub (AV.toI (AV.cellAt (A.nthA ps (A.nat n6)) 2)) (AV.toI (AV.cellAt (A.nthA ps (A.nat n1)) 1))) (A.sub (AV.toI (AV.cellAt (A.nthA ps (A.nat n6)) 0)) (AV.toI (AV.cellAt (A.nthA ps (A.nat n1)) 0)))) = true) ∧ medB n4 = true ∧ medB n5 = true)), true, A.and (A.ltN 0 1) (A.ltN 3 4), true, true, true, true, true, A.and (A.ltN 0 1) (A.ltN 2 4), true, true, true, true, true, A.and (A.ltN 0 1) (A.ltN 1 2), true, true, true, A.and (A.ltN 0 1) (A.ltN 0 2), true, true, !A.eq n5 0, true, true, A.and (A.ltN 0 1) (A.ltN 3 4), true, true, !A.lt 0 (cmpI (lN (A.sub (AV.toI (AV.cellAt (A.nthA ps (A.nat n6)) 1)) (AV.toI (AV.cellAt (A.nthA ps (A.nat n1)) 2))) (A.sub (AV.toI (AV.cellAt (A.nthA ps (A.nat n6)) 0)) (AV.toI (AV.cellAt (A.nthA ps (A.nat n1)) 0)))) (lD (A.sub (AV.toI (AV.cellAt (A.nthA ps (A.nat n6)) 1)) (AV.toI (AV.cellAt (A.nthA ps (A.nat n1)) 2))) (A.sub (AV.toI (AV.cellAt (A.nthA ps (A.nat n6)) 0)) (AV.toI (AV.cellAt (A.nthA ps (A.nat n1)) 0)))) n2 n3), true, true, true, true, A.and true (Decidable.decide (((0 < lD (A.sub (AV.toI (AV.cellAt (A.nthA ps (A.nat n6)) 1)) (AV.toI (AV.cellAt (A.nthA ps (A.nat n1)) 2))) (A.sub (AV.toI (AV.cellAt (A.nthA ps (A.nat n6)) 0)) (AV.toI (AV.cellAt (A.nthA ps (A.nat n1)) 0))) ∧ 0 < n3) ∧ medB (lN (A.sub (AV.toI (AV.cellAt (A.nthA ps (A.nat n6)) 1)) (AV.toI (AV.cellAt (A.nthA ps (A.nat n1)) 2))) (A.sub (AV.toI (AV.cellAt (A.nthA ps (A.nat n6)) 0)) (AV.toI (AV.cellAt (A.nthA ps (A.nat n1)) 0)))) = true ∧ medB (lD (A.sub (AV.toI (AV.cellAt (A.nthA ps (A.nat n6)) 1)) (AV.toI (AV.cellAt (A.nthA ps (A.nat n1)) 2))) (A.sub (AV.toI (AV.cellAt (A.nthA ps (A.nat n6)) 0)) (AV.toI (AV.cellAt (A.nthA ps (A.nat n1)) 0)))) = true) ∧ medB n2 = true ∧ medB n3 = true)), true, A.and (A.ltN 0 1) (A.ltN 1 4), true, true, true, true, true, A.and (A.ltN 0 1) (A.ltN 0 4), true, true, true, true, true, A.and (A.ltN 0 1) (A.ltN 1 2), true, true, true, A.and (A.ltN 0 1) (A.ltN 0 2), true, true, !A.eq n3 0, true, true, A.and (A.ltN 0 1) (A.ltN 1 4), true, true, A.and (A.ltN 0 1) (A.eqN 2 2), A.and (A.ltN 0 1) (A.eqN 2 2), A.and true (A.ltN 0 2), A.and true (A.ltN 0 2), A.and true (Decidable.decide (bigB (A.sub (AV.toI (AV.cellAt (A.nthA ps (A.nat n6)) 2)) (AV.toI (AV.cellAt (A.nthA ps (A.nat n1)) 1))) = true ∧ 0 < A.sub (AV.toI (AV.cellAt (A.nthA ps (A.nat n6)) 0)) (AV.toI (AV.cellAt (A.nthA ps (A.nat n1)) 0)) ∧ bigB (A.sub (AV.toI (AV.cellAt (A.nthA ps (A.nat n6)) 0)) (AV.toI (AV.cellAt (A.nthA ps (A.nat n1)) 0))) = true)), true, A.inR .i64 (A.sub (AV.toI (AV.cellAt (A.nthA ps (A.nat n6)) 2)) (AV.toI (AV.cellAt (A.nthA ps (A.nat n1)) 1))), A.ltN 1 3, true, true, A.and (A.and (A.le 0 n1) (A.ltN (A.nat n1) (A.lenA ps))) (A.eqN 3 3), true, true, A.ltN 2 3, true, true, A.and (A.and (A.le 0 n6) (A.ltN (A.nat n6) (A.lenA ps))) (A.eqN 3 3), true, true, A.and true (Decidable.decide (bigB (A.sub (AV.toI (AV.cellAt (A.nthA ps (A.nat n6)) 1)) (AV.toI (AV.cellAt (A.nthA ps (A.nat n1)) 2))) = true ∧ 0 < A.sub (AV.toI (AV.cellAt (A.nthA ps (A.nat n6)) 0)) (AV.toI (AV.cellAt (A.nthA ps (A.nat n1)) 0)) ∧ bigB (A.sub (AV.toI (AV.cellAt (A.nthA ps (A.nat n6)) 0)) (AV.toI (AV.cellAt (A.nthA ps (A.nat n1)) 0))) = true)), true, A.inR .i64 (A.sub (AV.toI (AV.cellAt (A.nthA ps (A.nat n6)) 1)) (AV.toI (AV.cellAt (A.nthA ps (A.nat n1)) 2))), A.ltN 2 3, true, true, A.and (A.and (A.le 0 n1) (A.ltN (A.nat n1) (A.lenA ps))) (A.eqN 3 3), true, true, A.ltN 1 3, true, true, A.and (A.and (A.le 0 n6) (A.ltN (A.nat n6) (A.lenA ps))) (A.eqN 3 3), true, true, true, A.inR .i64 (A.sub (AV.toI (AV.cellAt (A.nthA ps (A.nat n6)) 0)) (AV.toI (AV.cellAt (A.nthA ps (A.nat n1)) 0))), A.ltN 0 3, true, A.and (A.and (A.le 0 n1) (A.ltN (A.nat n1) (A.lenA ps))) (A.eqN 3 3), true, true, A.ltN 0 3, true, A.and (A.and (A.le 0 n6) (A.ltN (A.nat n6) (A.lenA ps))) (A.eqN 3 3), true, true, A.lt n1 n6, true, true, true],
   f47h47_1b (ps) (A.add n1 1) (n2) (n3) (lN (A.sub (AV.toI (AV.cellAt (A.nthA ps (A.nat n6)) 2)) (AV.toI (AV.cellAt (A.nthA ps (A.nat n1)) 1))) (A.sub (AV.toI (AV.cellAt (A.nthA ps (A.nat n6)) 0)) (AV.toI (AV.cellAt (A.nthA ps (A.nat n1)) 0)))) (lD (A.sub (AV.toI (AV.cellAt (A.nthA ps (A.nat n6)) 2)) (AV.toI (AV.cellAt (A.nthA ps (A.nat n1)) 1))) (A.sub (AV.toI (AV.cellAt (A.nthA ps (A.nat n6)) 0)) (AV.toI (AV.cellAt (A.nthA ps (A.nat n1)) 0)))) (n6), f47h47_1bm (ps) (A.add n1 1) (n2) (n3) (lN (A.sub (AV.toI (AV.cellAt (A.nthA ps (A.nat n6)) 2)) (AV.toI (AV.cellAt (A.nthA ps (A.nat n1)) 1))) (A.sub (AV.toI (AV.cellAt (A.nthA ps (A.nat n6)) 0)) (AV.toI (AV.cellAt (A.nthA ps (A.nat n1)) 0)))) (lD (A.sub (AV.toI (AV.cellAt (A.nthA ps (A.nat n6)) 2)) (AV.toI (AV.cellAt (A.nthA ps (A.nat n1)) 1))) (A.sub (AV.toI (AV.cellAt (A.nthA ps (A.nat n6)) 0)) (AV.toI (AV.cellAt (A.nthA ps (A.nat n1)) 0)))) (n6)) := by kernel_rfl
theorem f47p13 (A : Ar) (ps : List AV) (n1 : Int) (n2 : Int) (n3 : Int) (n4 : Int) (n5 : Int) (n6 : Int) : gwalkL A tab BC3 75 [true, false, false, false, false, false, false, false, false, false, false, false, false, false, false, false, false, false, false, false, false, false, false, false, false, false, false, false, false] (f47h47_1b ps n1 n2 n3 n4 n5 n6) (f47h47_1bm ps n1 n2 n3 n4 n5 n6) =
  some ([true, A.inR .i64 (A.add n1 1), true, !A.lt (cmpI (lN (A.sub (AV.toI (AV.cellAt (A.nthA ps (A.nat n6)) 2)) (AV.toI (AV.cellAt (A.nthA ps (A.nat n1)) 1))) (A.sub (AV.toI (AV.cellAt (A.nthA ps (A.nat n6)) 0)) (AV.toI (AV.cellAt (A.nthA ps (A.nat n1)) 0)))) (lD (A.sub (AV.toI (AV.cellAt (A.nthA ps (A.nat n6)) 2)) (AV.toI (AV.cellAt (A.nthA ps (A.nat n1)) 1))) (A.sub (AV.toI (AV.cellAt (A.nthA ps (A.nat n6)) 0)) (AV.toI (AV.cellAt (A.nthA ps (A.nat n1)) 0)))) n4 n5) 0, true, true, true, true, A.and true (Decidable.decide (((0 < lD (A.sub (AV.toI (AV.cellAt (A.nthA ps (A.nat n6)) 2)) (AV.toI (AV.cellAt (A.nthA ps (A.nat n1)) 1))) (A.sub (AV.toI (AV.cellAt (A.nthA ps (A.nat n6)) 0)) (AV.toI (AV.cellAt (A.nthA ps (A.nat n1)) 0))) ∧ 0 < n5) ∧ medB (lN (A.sub (AV.toI (AV.cellAt (A.nthA ps (A.nat n6)) 2)) (AV.toI (AV.cellAt (A.nthA ps (A.nat n1)) 1))) (A.sub (AV.toI (AV.cellAt (A.nthA ps (A.nat n6)) 0)) (AV.toI (AV.cellAt (A.nthA ps (A.nat n1)) 0)))) = true ∧ medB (lD (A.sub (AV.toI (AV.cellAt (A.nthA ps (A.nat n6)) 2)) (AV.toI (AV.cellAt (A.nthA ps (A.nat n1)) 1))) (A.sub (AV.toI (AV.cellAt (A.nthA ps (A.nat n6)) 0)) (AV.toI (AV.cellAt (A.nthA ps (A.nat n1)) 0)))) = true) ∧ medB n4 = true ∧ medB n5 = true)), true, A.and (A.ltN 0 1) (A.ltN 3 4), true, true, true, true, true, A.and (A.ltN 0 1) (A.ltN 2 4), true, true, true, true, true, A.and (A.ltN 0 1) (A.ltN 1 2), true, true, true, A.and (A.ltN 0 1) (A.ltN 0 2), true, true, !A.eq n5 0, true, true, A.and (A.ltN 0 1) (A.ltN 3 4), true, true, !A.lt 0 (cmpI (lN (A.sub (AV.toI (AV.cellAt (A.nthA ps (A.nat n6)) 1)) (AV.toI (AV.cellAt (A.nthA ps (A.nat n1)) 2))) (A.sub (AV.toI (AV.cellAt (A.nthA ps (A.nat n6)) 0)) (AV.toI (AV.cellAt (A.nthA ps (A.nat n1)) 0)))) (lD (A.sub (AV.toI (AV.cellAt (A.nthA ps (A.nat n6)) 1)) (AV.toI (AV.cellAt (A.nthA ps (A.nat n1)) 2))) (A.sub (AV.toI (AV.cellAt (A.nthA ps (A.nat n6)) 0)) (AV.toI (AV.cellAt (A.nthA ps (A.nat n1)) 0)))) n2 n3), true, true, true, true, A.and true (Decidable.decide (((0 < lD (A.sub (AV.toI (AV.cellAt (A.nthA ps (A.nat n6)) 1)) (AV.toI (AV.cellAt (A.nthA ps (A.nat n1)) 2))) (A.sub (AV.toI (AV.cellAt (A.nthA ps (A.nat n6)) 0)) (AV.toI (AV.cellAt (A.nthA ps (A.nat n1)) 0))) ∧ 0 < n3) ∧ medB (lN (A.sub (AV.toI (AV.cellAt (A.nthA ps (A.nat n6)) 1)) (AV.toI (AV.cellAt (A.nthA ps (A.nat n1)) 2))) (A.sub (AV.toI (AV.cellAt (A.nthA ps (A.nat n6)) 0)) (AV.toI (AV.cellAt (A.nthA ps (A.nat n1)) 0)))) = true ∧ medB (lD (A.sub (AV.toI (AV.cellAt (A.nthA ps (A.nat n6)) 1)) (AV.toI (AV.cellAt (A.nthA ps (A.nat n1)) 2))) (A.sub (AV.toI (AV.cellAt (A.nthA ps (A.nat n6)) 0)) (AV.toI (AV.cellAt (A.nthA ps (A.nat n1)) 0)))) = true) ∧ medB n2 = true ∧ medB n3 = true)), true, A.and (A.ltN 0 1) (A.ltN 1 4), true, true, true, true, true, A.and (A.ltN 0 1) (A.ltN 0 4), true, true, true, true, true, A.and (A.ltN 0 1) (A.ltN 1 2), true, true, true, A.and (A.ltN 0 1) (A.ltN 0 2), true, true, !A.eq n3 0, true, true, A.and (A.ltN 0 1) (A.ltN 1 4), true, true, A.and (A.ltN 0 1) (A.eqN 2 2), A.and (A.ltN 0 1) (A.eqN 2 2), A.and true (A.ltN 0 2), A.and true (A.ltN 0 2), A.and true (Decidable.decide (bigB (A.sub (AV.toI (AV.cellAt (A.nthA ps (A.nat n6)) 2)) (AV.toI (AV.cellAt (A.nthA ps (A.nat n1)) 1))) = true ∧ 0 < A.sub (AV.toI (AV.cellAt (A.nthA ps (A.nat n6)) 0)) (AV.toI (AV.cellAt (A.nthA ps (A.nat n1)) 0)) ∧ bigB (A.sub (AV.toI (AV.cellAt (A.nthA ps (A.nat n6)) 0)) (AV.toI (AV.cellAt (A.nthA ps (A.nat n1)) 0))) = true)), true, A.inR .i64 (A.sub (AV.toI (AV.cellAt (A.nthA ps (A.nat n6)) 2)) (AV.toI (AV.cellAt (A.nthA ps (A.nat n1)) 1))), A.ltN 1 3, true, true, A.and (A.and (A.le 0 n1) (A.ltN (A.nat n1) (A.lenA ps))) (A.eqN 3 3), true, true, A.ltN 2 3, true, true, A.and (A.and (A.le 0 n6) (A.ltN (A.nat n6) (A.lenA ps))) (A.eqN 3 3), true, true, A.and true (Decidable.decide (bigB (A.sub (AV.toI (AV.cellAt (A.nthA ps (A.nat n6)) 1)) (AV.toI (AV.cellAt (A.nthA ps (A.nat n1)) 2))) = true ∧ 0 < A.sub (AV.toI (AV.cellAt (A.nthA ps (A.nat n6)) 0)) (AV.toI (AV.cellAt (A.nthA ps (A.nat n1)) 0)) ∧ bigB (A.sub (AV.toI (AV.cellAt (A.nthA ps (A.nat n6)) 0)) (AV.toI (AV.cellAt (A.nthA ps (A.nat n1)) 0))) = true)), true, A.inR .i64 (A.sub (AV.toI (AV.cellAt (A.nthA ps (A.nat n6)) 1)) (AV.toI (AV.cellAt (A.nthA ps (A.nat n1)) 2))), A.ltN 2 3, true, true, A.and (A.and (A.le 0 n1) (A.ltN (A.nat n1) (A.lenA ps))) (A.eqN 3 3), true, true, A.ltN 1 3, true, true, A.and (A.and (A.le 0 n6) (A.ltN (A.nat n6) (A.lenA ps))) (A.eqN 3 3), true, true, true, A.inR .i64 (A.sub (AV.toI (AV.cellAt (A.nthA ps (A.nat n6)) 0)) (AV.toI (AV.cellAt (A.nthA ps (A.nat n1)) 0))), A.ltN 0 3, true, A.and (A.and (A.le 0 n1) (A.ltN (A.nat n1) (A.lenA ps))) (A.eqN 3 3), true, true, A.ltN 0 3, true, A.and (A.and (A.le 0 n6) (A.ltN (A.nat n6) (A.lenA ps))) (A.eqN 3 3), true, true, A.lt n1 n6, true, true, true],
   f47h47_1b (ps) (A.add n1 1) (n2) (n3) (n4) (n5) (n6), f47h47_1bm (ps) (A.add n1 1) (n2) (n3) (n4) (n5) (n6)) := by kernel_rfl
theorem f47p14 (A : Ar) (ps : List AV) (n1 : Int) (n2 : Int) (n3 : Int) (n4 : Int) (n5 : Int) (n6 : Int) : gwalkL A tab BC3 18 [false] (f47h47_1b ps n1 n2 n3 n4 n5 n6) (f47h47_1bm ps n1 n2 n3 n4 n5 n6) =
  some ([true, A.inR .i64 (A.add n6 1), true, !A.lt n1 n6, true, true, true],
   f47h47_0b (ps) (n2) (n3) (n4) (n5) (A.add n6 1), f47h47_0bm (ps) (n2) (n3) (n4) (n5) (A.add n6 1)) := by kernel_rfl
theorem f47p15 (A : Ar) (ps : List AV) (n2 : Int) (n3 : Int) (n4 : Int) (n5 : Int) (n7 : Int) : gwalkL A tab BC3 20 [true] (f47h47_0b ps n2 n3 n4 n5 n7) (f47h47_0bm ps n2 n3 n4 n5 n7) =
  some ([true, A.lt n7 (A.int (A.lenA ps)), true, true, true, true],
   f47h47_1b (ps) (0) (n2) (n3) (n4) (n5) (n7), f47h47_1bm (ps) (0) (n2) (n3) (n4) (n5) (n7)) := by kernel_rfl
theorem f47p16 (A : Ar) (ps : List AV) (n2 : Int) (n3 : Int) (n4 : Int) (n5 : Int) (n7 : Int) : gfin A tab BC3 15 [false] 47 (f47h47_0b ps n2 n3 n4 n5 n7) (f47h47_0bm ps n2 n3 n4 n5 n7) =
  some ([A.and (A.and (A.and (A.ltN 0 1) (A.leN (A.addN 0 4) 4)) true) (A.and true (A.and true true)), true, A.and (A.ltN 0 1) (A.eqN 4 4), true, A.and true (Decidable.decide (((0 < n3 ∧ 0 < n5) ∧ medB n2 = true ∧ medB n3 = true) ∧ medB n4 = true ∧ medB n5 = true)), A.and (A.ltN 0 1) (A.ltN 3 4), true, true, A.and (A.ltN 0 1) (A.ltN 2 4), true, true, A.and (A.ltN 0 1) (A.ltN 1 4), true, true, A.and (A.ltN 0 1) (A.ltN 0 4), true, true, A.and (A.ltN 0 1) (A.leN (A.addN 0 4) 4), !A.lt n7 (A.int (A.lenA ps)), true, true, true, true],
   AV.tup [AV.agg (Row.gen [AV.int .i64 n2, AV.int .i64 n3, AV.int .i64 n4, AV.int .i64 n5]), AV.bool (A.le (cmpI n2 n3 n4 n5) 0)], none) := by kernel_rfl
def f107e (ps : List AV) : List AFrame := [{ fn := 107, N := 15, env := [(0, AV.list (Row.big (Sh.agg [Sh.int .i64, Sh.int .i64, Sh.int .i64]) ps))], todo := [.code a107.code], defs := [], rnd := none, ret := false, res := [ARes.tmp 2] }]
theorem f107e_at (ps : List AV) : enterA tab 107 [AV.list (Row.big (Sh.agg [Sh.int .i64, Sh.int .i64, Sh.int .i64]) ps)] = some { fn := 107, N := 15, env := [(0, AV.list (Row.big (Sh.agg [Sh.int .i64, Sh.int .i64, Sh.int .i64]) ps))], todo := [.code a107.code], defs := [], rnd := none, ret := false, res := [ARes.tmp 2] } := rfl
theorem f107p0 (A : Ar) (ps : List AV) : gfin A tab BC3 17 [true] 107 (f107e ps) [] =
  some ([A.and true (A.and true true), true, A.lt (A.int (A.lenA ps)) 2, true, true, true, true],
   AV.bool true, none) := by kernel_rfl
theorem f107p1 (A : Ar) (ps : List AV) : gfin A tab BC3 32 [false] 107 (f107e ps) [] =
  some ([A.and true (A.and true true), true, true, A.and true (Decidable.decide (prodB (rateP ps).snd.snd.1 (rateP ps).snd.snd.2 (rateP ps).1 (rateP ps).snd.1 = true)), A.and (A.ltN 0 1) (A.leN (A.addN 0 2) 4), true, A.and (A.ltN 0 1) (A.leN (A.addN 2 2) 4), true, A.and (A.ltN 0 1) (A.eqN 4 4), A.and true (A.ltN 0 (A.len [0, 0, 0, 0])), A.and true (Decidable.decide (goodB ps = true)), true, !A.lt (A.int (A.lenA ps)) 2, true, true, true, true],
   AV.bool (A.not (ltF (rateP ps).snd.snd.1 (rateP ps).snd.snd.2 (rateP ps).1 (rateP ps).snd.1)), none) := by kernel_rfl
end Go.Proofs.Ytjhdnpmojhkbjaa
/- Contracts as a list. No condition. -/
namespace Go.Proofs.Ytjhdnpmojhkbjaa
/-! ### Rates of lines, the reference -/
theorem cmp_pos (n d m k : Int) : decide (0 < cmpI n d m k) = ltF m k n d := by
  unfold cmpI ltF
  by_cases h1 : n * k < m * d
  · rw [if_pos h1, decide_eq_false (show ¬ m * d < n * k by omega)]; rfl
  · rw [if_neg h1]
    by_cases h2 : m * d < n * k
    · rw [if_pos h2, decide_eq_true h2]; rfl
    · rw [if_neg h2, decide_eq_false h2]; rfl
theorem cmp_neg (n d m k : Int) : decide (cmpI n d m k < 0) = ltF n d m k := by
  unfold cmpI ltF
  by_cases h1 : n * k < m * d
  · rw [if_pos h1, decide_eq_true h1]; rfl
  · rw [if_neg h1, decide_eq_false h1]
    by_cases h2 : m * d < n * k
    · rw [if_pos h2]; rfl
    · rw [if_neg h2]; rfl
theorem med_n {a : Int} (ha : -1000000000000 ≤ a ∧ a ≤ 1000000000000) : medB a = true := by
  simp only [medB, decide_eq_true_eq]; omega
theorem med_d {a : Int} (ha : 0 < a ∧ a ≤ 1000000) : medB a = true := by
  simp only [medB, decide_eq_true_eq]; omega
theorem l47i {C : Ctx} (hC : C.P = Try.prog) (ps : List AV) (hl : ps.length ≤ 1000000) (R : AV) (i : Nat) (hi : i < ps.length) (hx : ∀ p ∈ ps.take i, okQ (ps.getD i (.int .i64 0)) p) : ∀ (d k : Nat) (s : R4), i - k = d → k ≤ i → sR s →
    (∀ t, sR t → t = rinP (ps.getD i (.int .i64 0)) s ((ps.take i).drop k) → Ev C (f47h47_0b ps t.1 t.2.1 t.2.2.1 t.2.2.2 ((i + 1 : Nat) : Int)) (f47h47_0bm ps t.1 t.2.1 t.2.2.1 t.2.2.2 ((i + 1 : Nat) : Int)) (FinQ 47 R none)) →
    Ev C (f47h47_1b ps k s.1 s.2.1 s.2.2.1 s.2.2.2 i) (f47h47_1bm ps k s.1 s.2.1 s.2.2.1 s.2.2.2 i) (FinQ 47 R none) := by
  intro d
  have hlen : (ps.take i).length = i := by rw [List.length_take]; omega
  induction d with
  | zero =>
    intro k s hd hk hs next
    have hk : k = i := by omega
    refine go hC BC3_ok (f47p14 std ps k s.1 s.2.1 s.2.2.1 s.2.2.2 i) (by simp; omega) ?_
    have := next s hs (by rw [List.drop_of_length_le (by omega)]; rfl)
    simpa using this
  | succ d ih =>
    intro k s hd hk hs next
    have hlt : k < i := by omega
    have hk2 : k < ps.length := by omega
    have hlt' : k < (ps.take i).length := by omega
    have e1 : std.nthA ps (std.nat (k : Int)) = (ps.take i)[k] := by simp [hk2]
    have e2 : std.nthA ps (std.nat (i : Int)) = ps.getD i (.int .i64 0) := by simp [hi]
    have hq := hx (ps.take i)[k] (by exact List.getElem_mem hlt')
    generalize hQ : ps.getD i (.int .i64 0) = q at *
    have hn := rnew_sR hq
    rw [List.drop_eq_getElem_cons hlt', rinP] at next
    generalize hP : (ps.take i)[k] = p at *
    have ih' := ih (k + 1) (rmrg s (rnew q p)) (by omega) (by omega) (rmrg_sR hs hn) next
    have g1 : (p.cellAt 0).toI = pC p := rfl
    have g2 : (p.cellAt 1).toI = pL p := rfl
    have g3 : (p.cellAt 2).toI = pH p := rfl
    have g4 : (q.cellAt 0).toI = pC q := rfl
    have g5 : (q.cellAt 1).toI = pL q := rfl
    have g6 : (q.cellAt 2).toI = pH q := rfl
    have m1 := med_n hs.1.1
    have m2 := med_d hs.1.2
    have m3 := med_n hs.2.1
    have m4 := med_d hs.2.2
    have m5 := med_n hn.1.1
    have m6 := med_d hn.1.2
    have m7 := med_n hn.2.1
    have m8 := med_d hn.2.2
    have d1 := hn.1.2.1
    have d2 := hn.2.2.1
    have d3 := hs.1.2.1
    have d4 := hs.2.2.1
    have d5 : s.2.1 ≠ 0 := by omega
    have d6 : s.2.2.2 ≠ 0 := by omega
    obtain ⟨⟨q1, q2⟩, q3, q4⟩ := hq
    have q5 : bigB (pL q - pH p) = true := by simp only [bigB, decide_eq_true_eq]; omega
    have q6 : bigB (pH q - pL p) = true := by simp only [bigB, decide_eq_true_eq]; omega
    have q7 : bigB (pC q - pC p) = true := by simp only [bigB, decide_eq_true_eq]; omega
    have key : ∀ t, rmrg s (rnew q p) = t → Ev C (f47h47_1b ps ((k + 1 : Nat) : Int) t.1 t.2.1 t.2.2.1 t.2.2.2 i) (f47h47_1bm ps ((k + 1 : Nat) : Int) t.1 t.2.1 t.2.2.1 t.2.2.2 i) (FinQ 47 R none) := fun t ht => ht ▸ ih'
    have e5 : std.add (k : Int) 1 = ((k + 1 : Nat) : Int) := by simp
    by_cases h1 : ltF s.1 s.2.1 (rnew q p).1 (rnew q p).2.1 = true
    · by_cases h2 : ltF (rnew q p).2.2.1 (rnew q p).2.2.2 s.2.2.1 s.2.2.2 = true
      · have kk := key (rnew q p) (by rw [rmrg, if_pos h1, if_pos h2])
        simp only [rnew] at h1 h2 kk m5 m6 m7 m8 d1 d2
        refine go hC BC3_ok (f47p9 std ps k s.1 s.2.1 s.2.2.1 s.2.2.2 i) ?_ ?_
        · simp only [e1, e2, g1, g2, g3, g4, g5, g6, s_sub, s_lt, cmp_pos, cmp_neg, h1, h2, m1, m2, m3, m4, m5, m6, m7, m8, d1, d2, d3, d4, q5, q6, q7]; simp [hlt, hi, hk2, d5, d6]; omega
        · simp only [e1, e2, g1, g2, g3, g4, g5, g6, s_sub, e5]; exact kk
      · have kk := key (((rnew q p).1, (rnew q p).2.1, s.2.2.1, s.2.2.2)) (by rw [rmrg, if_pos h1, if_neg h2])
        simp only [rnew] at h1 h2 kk m5 m6 m7 m8 d1 d2
        refine go hC BC3_ok (f47p10 std ps k s.1 s.2.1 s.2.2.1 s.2.2.2 i) ?_ ?_
        · simp only [e1, e2, g1, g2, g3, g4, g5, g6, s_sub, s_lt, cmp_pos, cmp_neg, h1, h2, m1, m2, m3, m4, m5, m6, m7, m8, d1, d2, d3, d4, q5, q6, q7]; simp [hlt, hi, hk2, d5, d6]; omega
        · simp only [e1, e2, g1, g3, g4, g5, s_sub, e5]; exact kk
    · by_cases h2 : ltF (rnew q p).2.2.1 (rnew q p).2.2.2 s.2.2.1 s.2.2.2 = true
      · have kk := key ((s.1, s.2.1, (rnew q p).2.2.1, (rnew q p).2.2.2)) (by rw [rmrg, if_neg h1, if_pos h2])
        simp only [rnew] at h1 h2 kk m5 m6 m7 m8 d1 d2
        refine go hC BC3_ok (f47p12 std ps k s.1 s.2.1 s.2.2.1 s.2.2.2 i) ?_ ?_
        · simp only [e1, e2, g1, g2, g3, g4, g5, g6, s_sub, s_lt, cmp_pos, cmp_neg, h1, h2, m1, m2, m3, m4, m5, m6, m7, m8, d1, d2, d3, d4, q5, q6, q7]; simp [hlt, hi, hk2, d5, d6]; omega
        · simp only [e1, e2, g1, g2, g4, g6, s_sub, e5]; exact kk
      · have kk := key s (by rw [rmrg, if_neg h1, if_neg h2])
        simp only [rnew] at h1 h2 kk m5 m6 m7 m8 d1 d2
        refine go hC BC3_ok (f47p13 std ps k s.1 s.2.1 s.2.2.1 s.2.2.2 i) ?_ ?_
        · simp only [e1, e2, g1, g2, g3, g4, g5, g6, s_sub, s_lt, cmp_pos, cmp_neg, h1, h2, m1, m2, m3, m4, m5, m6, m7, m8, d1, d2, d3, d4, q5, q6, q7]; simp [hlt, hi, hk2, d5, d6]; omega
        · simp only [e5]; exact kk
def lineR (r : R4) : Bool := !ltF r.2.2.1 r.2.2.2 r.1 r.2.1
theorem l47o {C : Ctx} (hC : C.P = Try.prog) (ps : List AV) (hl : ps.length ≤ 1000000) (r : R4) (hg : ∀ i k, i < ps.length → k < i → okQ (ps.getD i (.int .i64 0)) (ps.getD k (.int .i64 0))) : ∀ (d i : Nat) (s : R4), i + d = ps.length → sR s → rgoP ps d i s = r →
    Ev C (f47h47_0b ps s.1 s.2.1 s.2.2.1 s.2.2.2 i) (f47h47_0bm ps s.1 s.2.1 s.2.2.1 s.2.2.2 i) (FinQ 47 (.tup [.agg (.gen [.int .i64 r.1, .int .i64 r.2.1, .int .i64 r.2.2.1, .int .i64 r.2.2.2]), .bool (lineR r)]) none) := by
  intro d
  induction d with
  | zero =>
    intro i s hi hs hr
    rw [rgoP] at hr
    subst hr
    have m1 := med_n hs.1.1
    have m2 := med_d hs.1.2
    have m3 := med_n hs.2.1
    have m4 := med_d hs.2.2
    have d3 := hs.1.2.1
    have d4 := hs.2.2.1
    refine fin hC BC3_ok (f47p16 std ps s.1 s.2.1 s.2.2.1 s.2.2.2 i) (by simp [m1, m2, m3, m4, d3, d4]; omega) ?_ rfl
    have : std.le (cmpI s.1 s.2.1 s.2.2.1 s.2.2.2) 0 = lineR s := by
      rw [lineR, ← cmp_pos]
      by_cases h : cmpI s.1 s.2.1 s.2.2.1 s.2.2.2 ≤ 0
      · simp [h]; try omega
      · simp [h]; try omega
    rw [this]
  | succ d ih =>
    intro i s hi hs hr
    have hlt : i < ps.length := by omega
    rw [rgoP] at hr
    refine go hC BC3_ok (f47p15 std ps s.1 s.2.1 s.2.2.1 s.2.2.2 i) (by simp; omega) ?_
    refine l47i hC ps hl _ i hlt (rtake hg hlt) _ 0 s rfl (by omega) hs fun t ht he => ?_
    exact ih (i + 1) t (by omega) ht (by rw [he]; exact hr)
theorem rates47_ok (ps : List AV) (h : goodB ps = true) : Pure Try.prog 47 [.list (.big (.agg [.int .i64, .int .i64, .int .i64]) ps)] (.tup [.agg (.gen [.int .i64 (rateP ps).1, .int .i64 (rateP ps).2.1, .int .i64 (rateP ps).2.2.1, .int .i64 (rateP ps).2.2.2]), .bool (lineR (rateP ps))]) none :=
  start (f47e_at ps) fun C hC => by
    obtain ⟨⟨h2, hl⟩, hg⟩ := good_ok h
    have hok := hg 1 0 (by omega) (by omega)
    refine go hC BC3_ok (f47p0 std ps) (by simp) ?_
    refine go hC BC3_ok (f47p1 std ps 0) (by simp; omega) ?_
    refine go hC BC3_ok (f47p4 std ps 0) (by simp) ?_
    refine go hC BC3_ok (f47p1 std ps _) (by simp; omega) ?_
    have e1 : std.nthA ps (std.nat (std.add 0 1)) = ps.getD 1 (.int .i64 0) := by simp [show 1 < ps.length by omega]
    have e5 : std.nthA ps (std.nat 0) = ps.getD 0 (.int .i64 0) := by simp [show 0 < ps.length by omega]
    generalize hq : ps.getD 1 (.int .i64 0) = q at *
    generalize hp : ps.getD 0 (.int .i64 0) = p at *
    have g0 : (q.cellAt 0).toI = pC q := rfl
    have g1 : (q.cellAt 1).toI = pL q := rfl
    have g2 : (q.cellAt 2).toI = pH q := rfl
    have g3 : (p.cellAt 0).toI = pC p := rfl
    have g4 : (p.cellAt 1).toI = pL p := rfl
    have g5 : (p.cellAt 2).toI = pH p := rfl
    have hn := rnew_sR hok
    obtain ⟨⟨q1, q2⟩, q3, q4⟩ := hok
    have q5 : bigB (pL q - pH p) = true := by simp only [bigB, decide_eq_true_eq]; omega
    have q6 : bigB (pH q - pL p) = true := by simp only [bigB, decide_eq_true_eq]; omega
    have q7 : bigB (pC q - pC p) = true := by simp only [bigB, decide_eq_true_eq]; omega
    refine go hC BC3_ok (f47p3 std ps _) ?_ ?_
    · simp only [e1, e5, g0, g1, g2, g3, g4, g5, s_sub, q5, q6, q7]; simp; omega
    · simp only [e1, e5, g0, g1, g2, g3, g4, g5, s_sub]
      have next : ∀ t, sR t → t = rinP (ps.getD 1 (.int .i64 0)) (rnew q p) ((ps.take 1).drop 1) → Ev C (f47h47_0b ps t.1 t.2.1 t.2.2.1 t.2.2.2 ((1 + 1 : Nat) : Int)) (f47h47_0bm ps t.1 t.2.1 t.2.2.1 t.2.2.2 ((1 + 1 : Nat) : Int)) (FinQ 47 (.tup [.agg (.gen [.int .i64 (rateP ps).1, .int .i64 (rateP ps).2.1, .int .i64 (rateP ps).2.2.1, .int .i64 (rateP ps).2.2.2]), .bool (lineR (rateP ps))]) none) := by
        intro t ht he
        rw [List.drop_of_length_le (by rw [List.length_take]; omega)] at he
        exact l47o hC ps hl (rateP ps) hg (ps.length - 2) 2 t (by omega) ht (by rw [rateP, hq, hp, he]; rfl)
      have := l47i hC ps hl _ 1 (by omega) (rtake hg (by omega)) 0 1 (rnew q p) rfl (by omega) hn next
      simpa [rnew] using this
def lineS (ps : List AV) : Bool := lineR (rateP ps)
def lineB (ps : List AV) : Bool := decide (ps.length < 2) || lineR (rateP ps)
def lineG (ps : List AV) : Bool := decide (ps.length < 2) || goodB ps
theorem line107_ok (ps : List AV) (h : lineG ps = true) : Pure Try.prog 107 [.list (.big (.agg [.int .i64, .int .i64, .int .i64]) ps)] (.bool (lineB ps)) none :=
  start (f107e_at ps) fun C hC => by
    by_cases h2 : ps.length < 2
    · exact fin hC BC3_ok (f107p0 std ps) (by simp; omega) (by simp [lineB, h2]) rfl
    · have hg : goodB ps = true := by simpa [lineG, h2] using h
      have hs := rateP_sR hg
      have hp := prodR hs.2.1 hs.2.2 hs.1.1 hs.1.2
      exact fin hC BC3_ok (f107p1 std ps) (by simp [hg, hp]; omega) (by simp [lineB, h2, lineR]) rfl
def k47 : Ctr := ⟨47, 0, fun _ a => match a with | [.list (.big (.agg [.int .i64, .int .i64, .int .i64]) ps)] => some (decide (goodB ps = true), .tup [.agg (.gen [.int .i64 (rateP ps).1, .int .i64 (rateP ps).2.1, .int .i64 (rateP ps).2.2.1, .int .i64 (rateP ps).2.2.2]), .bool (lineS ps)], none) | _ => none⟩
theorem k47_ok : k47.OK Try.prog := fun pa args r fr h => by
  simp only [k47] at h
  split at h
  · simp only [Option.some.injEq, Prod.mk.injEq, decide_eq_true_eq] at h
    obtain ⟨h0, rfl, rfl⟩ := h
    exact rates47_ok _ h0
  · cases h
def k107 : Ctr := ⟨107, 0, fun _ a => match a with | [.list (.big (.agg [.int .i64, .int .i64, .int .i64]) ps)] => some (decide (lineG ps = true), .bool (lineB ps), none) | _ => none⟩
theorem k107_ok : k107.OK Try.prog := fun pa args r fr h => by
  simp only [k107] at h
  split at h
  · simp only [Option.some.injEq, Prod.mk.injEq, decide_eq_true_eq] at h
    obtain ⟨h0, rfl, rfl⟩ := h
    exact line107_ok _ h0
  · cases h
def BC4 : List Ctr := [k47, k107] ++ BC3
theorem BC4_ok : CtrsOK Try.prog BC4 := ⟨k47_ok, ⟨k107_ok, BC3_ok⟩⟩
end Go.Proofs.Ytjhdnpmojhkbjaa
/- Paths of functions, printed by the explorer (Gx). No condition. -/
namespace Go.Proofs.Ytjhdnpmojhkbjaa
set_option maxRecDepth 100000
set_option linter.unusedVariables false
def f26e (ps : List AV) : List AFrame := [{ fn := 26, N := 14, env := [(0, AV.list (Row.big (Sh.agg [Sh.int .i64, Sh.int .i64, Sh.int .i64]) ps))], todo := [.code a26.code], defs := [], rnd := none, ret := false, res := [ARes.tmp 2] }]
theorem f26e_at (ps : List AV) : enterA tab 26 [AV.list (Row.big (Sh.agg [Sh.int .i64, Sh.int .i64, Sh.int .i64]) ps)] = some { fn := 26, N := 14, env := [(0, AV.list (Row.big (Sh.agg [Sh.int .i64, Sh.int .i64, Sh.int .i64]) ps))], todo := [.code a26.code], defs := [], rnd := none, ret := false, res := [ARes.tmp 2] } := rfl
theorem f26p0 (A : Ar) (ps : List AV) : gfin A tab BC4 17 [true] 26 (f26e ps) [] =
  some ([A.and true (A.and true true), true, A.lt (A.int (A.lenA ps)) 2, true, true, true, true],
   AV.bool true, none) := by kernel_rfl
theorem f26p1 (A : Ar) (ps : List AV) : gfin A tab BC4 31 [false] 26 (f26e ps) [] =
  some ([A.and true (A.and true true), true, true, true, A.and (A.ltN 0 1) (A.eqN 4 4), A.and true (A.ltN 0 (A.len [0, 0, 0, 0])), true, true, true, A.and true (Decidable.decide (goodB ps = true)), true, !A.lt (A.int (A.lenA ps)) 2, true, true, true, true],
   AV.bool (lineS ps), none) := by kernel_rfl
end Go.Proofs.Ytjhdnpmojhkbjaa
/- Contracts as a list. No condition. -/
namespace Go.Proofs.Ytjhdnpmojhkbjaa
inductive FrzN (r : Row) : AV → AV → Prop
  | row : FrzN r (.row 0 0) (.list r)
  | same (v : AV) (hp : v.pure = true) : FrzN r v v
def FrzNL (r : Row) : List AV → List AV → Prop
  | [], [] => True
  | x :: xs, y :: ys => FrzN r x y ∧ FrzNL r xs ys
  | _, _ => False
theorem FrzNL.spec {r : Row} : ∀ {xs ys : List AV}, FrzNL r xs ys → xs.length = ys.length ∧ ∀ (j : Nat) (y : AV), ys[j]? = some y → ∃ x, xs[j]? = some x ∧ FrzN r x y
  | [], [], _ => ⟨rfl, fun j y h => by simp at h⟩
  | x :: xs, y :: ys, h => by
    obtain ⟨h1, h2⟩ := h
    obtain ⟨e1, e2⟩ := FrzNL.spec h2
    refine ⟨by simp [e1], fun j z hz => ?_⟩
    cases j with
    | zero => simp at hz; subst hz; exact ⟨x, rfl, h1⟩
    | succ j => obtain ⟨q, q1, q2⟩ := e2 j z (by simpa using hz); exact ⟨q, by simpa using q1, q2⟩
theorem has26_ok (ps : List AV) (h : lineG ps = true) : Pure Try.prog 26 [.list (.big (.agg [.int .i64, .int .i64, .int .i64]) ps)] (.bool (lineB ps)) none :=
  start (f26e_at ps) fun C hC => by
    by_cases h2 : ps.length < 2
    · exact fin hC BC4_ok (f26p0 std ps) (by simp; omega) (by simp [lineB, h2]) rfl
    · have hg : goodB ps = true := by simpa [lineG, h2] using h
      exact fin hC BC4_ok (f26p1 std ps) (by simp [hg]; omega) (by simp [lineB, h2, lineS]) rfl
/-! ### Valid pairs -/
theorem chkL_ok : ∀ {ps : List AV} {last : Int} {i : Nat}, (chkL last i ps).2 = 0 → (∀ p ∈ ps, okP (pC p) (pL p) (pH p) = true ∧ last < pC p) ∧ ps.Pairwise (fun p q => pC p < pC q)
  | [], _, _, _ => ⟨fun _ h => absurd h List.not_mem_nil, List.Pairwise.nil⟩
  | p :: ps, last, i, h => by
    rw [chkL] at h
    split at h
    · rename_i h1
      split at h
      · rename_i h2
        obtain ⟨h3, h4⟩ := chkL_ok h
        refine ⟨fun q hq => ?_, List.pairwise_cons.2 ⟨fun q hq => (h3 q hq).2, h4⟩⟩
        rcases List.mem_cons.1 hq with rfl | hq
        · exact ⟨h1, h2.2⟩
        · have := h3 q hq
          exact ⟨this.1, by omega⟩
      · simp at h
    · simp at h
def allQ (ps : List AV) : Prop := ∀ i k, i < ps.length → k < i → okQ (ps.getD i (.int .i64 0)) (ps.getD k (.int .i64 0))
theorem chkP_ok {ps : List AV} (h : (chkP ps).2 = 0) : 0 < ps.length ∧ ps.length ≤ 20 ∧ allQ ps := by
  unfold chkP at h
  split at h
  · simp at h
  · split at h
    · simp at h
    · obtain ⟨h1, h2⟩ := chkL_ok h
      refine ⟨by omega, by omega, fun i k hi hk => ?_⟩
      have hk' : k < ps.length := by omega
      have e1 : ps.getD i (.int .i64 0) = ps[i] := by simp [hi]
      have e2 : ps.getD k (.int .i64 0) = ps[k] := by simp [hk']
      rw [e1, e2]
      have a := (h1 ps[i] (by simp)).1
      have b := (h1 ps[k] (by simp)).1
      have c := List.pairwise_iff_getElem.1 h2 k i hk' hi hk
      simp only [okP, decide_eq_true_eq] at a b
      unfold okQ
      omega
theorem allQ_good {ps : List AV} (h : allQ ps) (h2 : 2 ≤ ps.length) (hl : ps.length ≤ 1000000) : goodB ps = true := by
  rw [goodB, Bool.and_eq_true, decide_eq_true_eq, List.all_eq_true]
  refine ⟨⟨h2, hl⟩, fun i hi => ?_⟩
  rw [List.all_eq_true]
  intro k hk
  exact decide_eq_true (h i k (List.mem_range.1 hi) (List.mem_range.1 hk))
theorem allQ_line {ps : List AV} (h : allQ ps) (hl : ps.length ≤ 1000000) (a n : Nat) : lineG ((ps.drop a).take n) = true := by
  rw [lineG, Bool.or_eq_true]
  by_cases h2 : ((ps.drop a).take n).length < 2
  · exact .inl (decide_eq_true h2)
  · refine .inr (allQ_good (fun i k hi hk => ?_) (by omega) (by rw [List.length_take, List.length_drop]; omega))
    rw [List.length_take, List.length_drop] at hi
    have e : ∀ j, j < n → a + j < ps.length → ((ps.drop a).take n).getD j (.int .i64 0) = ps.getD (a + j) (.int .i64 0) := fun j h1 h2 => by
      simp [List.getElem?_drop, h1, h2]
    rw [e i (by omega) (by omega), e k (by omega) (by omega)]
    exact h (a + i) (a + k) (by omega) (by omega)
def k26 : Ctr := ⟨26, 0, fun _ a => match a with | [.list (.big (.agg [.int .i64, .int .i64, .int .i64]) ps)] => some (decide (lineG ps = true), .bool (lineB ps), none) | _ => none⟩
theorem k26_ok : k26.OK Try.prog := fun pa args r fr h => by
  simp only [k26] at h
  split at h
  · simp only [Option.some.injEq, Prod.mk.injEq, decide_eq_true_eq] at h
    obtain ⟨h0, rfl, rfl⟩ := h
    exact has26_ok _ h0
  · cases h
def BC5 : List Ctr := [k26] ++ BC4
theorem BC5_ok : CtrsOK Try.prog BC5 := ⟨k26_ok, BC4_ok⟩
end Go.Proofs.Ytjhdnpmojhkbjaa
/- Contracts as a list. No condition. -/
namespace Go.Proofs.Ytjhdnpmojhkbjaa
/-! ### The pieces of a clock -/
@[simp] theorem bx_ii (a b : Int) : (AV.agg (Row.gen [AV.int .i64 a, AV.int .i64 b])).bx = true := rfl
@[simp] theorem fl_ii (a b : Int) : flatLen std (AV.agg (Row.gen [AV.int .i64 a, AV.int .i64 b])) = 2 := rfl
@[simp] theorem bx_i (a : Int) : (AV.int .i64 a).bx = true := rfl
@[simp] theorem fl_i (a : Int) : flatLen std (AV.int .i64 a) = 1 := rfl
/-! ### The program's rates -/
def BC6 : List Ctr := BC5
theorem BC6_ok : CtrsOK Try.prog BC6 := BC5_ok
end Go.Proofs.Ytjhdnpmojhkbjaa
/- Paths of functions, printed by the explorer (Gx). No condition. -/
namespace Go.Proofs.Ytjhdnpmojhkbjaa
set_option maxRecDepth 100000
set_option linter.unusedVariables false
def f85e (ps : List AV) : List AFrame := [{ fn := 85, N := 22, env := [(0, AV.list (Row.big (Sh.agg [Sh.int .i64, Sh.int .i64, Sh.int .i64]) ps))], todo := [.code a85.code], defs := [], rnd := none, ret := false, res := [ARes.tmp 2] }]
theorem f85e_at (ps : List AV) : enterA tab 85 [AV.list (Row.big (Sh.agg [Sh.int .i64, Sh.int .i64, Sh.int .i64]) ps)] = some { fn := 85, N := 22, env := [(0, AV.list (Row.big (Sh.agg [Sh.int .i64, Sh.int .i64, Sh.int .i64]) ps))], todo := [.code a85.code], defs := [], rnd := none, ret := false, res := [ARes.tmp 2] } := rfl
theorem f85p0 (A : Ar) (ps : List AV) : gfin A tab BC6 28 [true] 85 (f85e ps) [] =
  some ([A.and true (A.and true true), true, true, A.not (A.eq (chkP ps).2 0), true, true, true, true, true, true, true, A.and true (Decidable.decide (List.length ps ≤ 1000000)), true, true],
   AV.int .i64 (chkP ps).2, none) := by kernel_rfl
theorem f85p1 (A : Ar) (ps : List AV) : gfin A tab BC6 38 [false] 85 (f85e ps) [] =
  some ([A.and true (A.and true true), true, A.and (A.and true true) (Decidable.decide (List.length [unlessE (A.lt 1 (A.int (A.lenA ps))) 10, unlessE (lineB ps) 13] ≤ 1000000)), List.all [AV.int .i64 (unlessE (A.lt 1 (A.int (A.lenA ps))) 10), AV.int .i64 (unlessE (lineB ps) 13)] fun x => AV.bx x && Nat.beq (flatLen A x) 1, A.and true true, A.and true (Decidable.decide (lineG ps = true)), true, A.and true true, true, true, true, !A.not (A.eq (chkP ps).2 0), true, true, true, true, true, true, true, A.and true (Decidable.decide (List.length ps ≤ 1000000)), true, true],
   AV.int .i64 (firstE [unlessE (A.lt 1 (A.int (A.lenA ps))) 10, unlessE (lineB ps) 13]), none) := by kernel_rfl
def f90e (n : Int) (d : Int) : List AFrame := [{ fn := 90, N := 16, env := [(0, AV.int .i64 n), (1, AV.int .i64 d)], todo := [.code a90.code], defs := [], rnd := none, ret := false, res := [ARes.tmp 4] }]
theorem f90e_at (n : Int) (d : Int) : enterA tab 90 [AV.int .i64 n, AV.int .i64 d] = some { fn := 90, N := 16, env := [(0, AV.int .i64 n), (1, AV.int .i64 d)], todo := [.code a90.code], defs := [], rnd := none, ret := false, res := [ARes.tmp 4] } := rfl
theorem f90p0 (A : Ar) (n : Int) (d : Int) : gfin A tab BC6 31 [true] 90 (f90e n d) [] =
  some ([A.and true (A.and true true), true, true, true, A.inR .i64 (A.sub (A.quo n d) 1), true, A.lt (A.rem n d) 0, true, A.not (A.eq d 0), true, true, true, A.and (A.not (A.eq d 0)) (A.inR .i64 (A.quo n d)), true, true, true],
   AV.int .i64 (A.sub (A.quo n d) 1), none) := by kernel_rfl
theorem f90p1 (A : Ar) (n : Int) (d : Int) : gfin A tab BC6 27 [false] 90 (f90e n d) [] =
  some ([A.and true (A.and true true), true, true, !A.lt (A.rem n d) 0, true, A.not (A.eq d 0), true, true, true, A.and (A.not (A.eq d 0)) (A.inR .i64 (A.quo n d)), true, true, true],
   AV.int .i64 (A.quo n d), none) := by kernel_rfl
def f91e (a : Int) (b : Int) (c : Int) (d : Int) : List AFrame := [{ fn := 91, N := 10, env := [(0, AV.agg (Row.gen [AV.int .i64 a, AV.int .i64 b, AV.int .i64 c, AV.int .i64 d]))], todo := [.code a91.code], defs := [], rnd := none, ret := false, res := [ARes.tmp 2] }]
theorem f91e_at (a : Int) (b : Int) (c : Int) (d : Int) : enterA tab 91 [AV.agg (Row.gen [AV.int .i64 a, AV.int .i64 b, AV.int .i64 c, AV.int .i64 d])] = some { fn := 91, N := 10, env := [(0, AV.agg (Row.gen [AV.int .i64 a, AV.int .i64 b, AV.int .i64 c, AV.int .i64 d]))], todo := [.code a91.code], defs := [], rnd := none, ret := false, res := [ARes.tmp 2] } := rfl
theorem f91p0 (A : Ar) (a : Int) (b : Int) (c : Int) (d : Int) : gfin A tab BC6 18 [] 91 (f91e a b c d) [] =
  some ([A.and true (A.and true true), true, A.inR .i64 (A.sub c a), A.and (A.ltN 0 1) (A.ltN 0 4), true, true, A.and (A.ltN 0 1) (A.ltN 2 4), true, true, true, A.and true (A.ltN 0 4)],
   AV.int .i64 (A.sub c a), none) := by kernel_rfl
end Go.Proofs.Ytjhdnpmojhkbjaa
/- Contracts as a list. No condition. -/
namespace Go.Proofs.Ytjhdnpmojhkbjaa
/-! ### Chords -/
def denC (a c : Int) : Int := c - a
def cntB (n : Int) : Bool := decide (0 ≤ n ∧ n ≤ 1000000)
def timB (n : Int) : Bool := decide (0 ≤ n ∧ n ≤ 1000000000000)
theorem den91_ok (a b c d : Int) (h : cntB a = true ∧ cntB c = true) : Pure Try.prog 91 [.agg (.gen [.int .i64 a, .int .i64 b, .int .i64 c, .int .i64 d])] (.int .i64 (denC a c)) none :=
  start (f91e_at a b c d) fun C hC => by
    simp only [cntB, decide_eq_true_eq] at h
    exact fin hC BC6_ok (f91p0 std a b c d) (by simp; omega) rfl rfl
theorem floor90_ok (n d : Int) (h : (0 < d ∧ d ≤ 1000000) ∧ (-4000000000000000000 ≤ n ∧ n ≤ 4000000000000000000)) : Pure Try.prog 90 [.int .i64 n, .int .i64 d] (.int .i64 (floorI n d)) none :=
  start (f90e_at n d) fun C hC => by
    obtain ⟨⟨hd, hd2⟩, hn⟩ := h
    have h1 := tdiv_rng n hd
    have h3 : (n.tdiv d).natAbs ≤ n.natAbs := by rw [Int.natAbs_tdiv]; exact Nat.div_le_self _ _
    have h4 : d ≠ 0 := by omega
    by_cases h2 : n.tmod d < 0
    · exact fin hC BC6_ok (f90p0 std n d) (by simp [h2, h4]; omega) (by simp [floorI, h2]) rfl
    · exact fin hC BC6_ok (f90p1 std n d) (by simp [h4]; omega) (by simp [floorI, h2]) rfl
def lnE (ps : List AV) : Int := if (chkP ps).2 = 0 then (if ps.length < 2 then 10 else if lineS ps = true then 0 else 13) else (chkP ps).2
theorem lines85_ok (ps : List AV) (h : ps.length ≤ 1000000) : Pure Try.prog 85 [.list (.big (.agg [.int .i64, .int .i64, .int .i64]) ps)] (.int .i64 (lnE ps)) none :=
  start (f85e_at ps) fun C hC => by
    by_cases hc : (chkP ps).2 = 0
    · obtain ⟨h0, hl, hq⟩ := chkP_ok hc
      have hg := allQ_line hq h 0 ps.length
      rw [List.drop_zero, List.take_length] at hg
      refine fin hC BC6_ok (f85p1 std ps) (by simp [h, hc, hg, AV.bx, flatLen]) ?_ rfl
      rw [lnE, if_pos hc]
      by_cases h2 : ps.length < 2
      · have e1 : std.lt 1 (std.int (std.lenA ps)) = false := by simp; omega
        rw [e1, if_pos h2]; simp [firstE]
      · have e1 : std.lt 1 (std.int (std.lenA ps)) = true := by simp; omega
        have e2 : lineB ps = lineS ps := by simp [lineB, h2, lineS]
        rw [e1, e2, if_neg h2]
        by_cases h3 : lineS ps = true
        · rw [h3]; simp [firstE]
        · rw [if_neg h3]; simp only [Bool.not_eq_true] at h3; rw [h3]; simp [firstE]
    · refine fin hC BC6_ok (f85p0 std ps) (by simp [h, hc]) ?_ rfl
      rw [lnE, if_neg hc]
def k91 : Ctr := ⟨91, 0, fun _ a => match a with | [.agg (.gen [.int .i64 a, .int .i64 _, .int .i64 c, .int .i64 _])] => some (decide (cntB a = true ∧ cntB c = true), .int .i64 (denC a c), none) | _ => none⟩
theorem k91_ok : k91.OK Try.prog := fun pa args r fr h => by
  simp only [k91] at h
  split at h
  · simp only [Option.some.injEq, Prod.mk.injEq, decide_eq_true_eq] at h
    obtain ⟨h0, rfl, rfl⟩ := h
    exact den91_ok _ _ _ _ h0
  · cases h
def k90 : Ctr := ⟨90, 0, fun _ a => match a with | [.int .i64 n, .int .i64 d] => some (decide ((0 < d ∧ d ≤ 1000000) ∧ (-4000000000000000000 ≤ n ∧ n ≤ 4000000000000000000)), .int .i64 (floorI n d), none) | _ => none⟩
theorem k90_ok : k90.OK Try.prog := fun pa args r fr h => by
  simp only [k90] at h
  split at h
  · simp only [Option.some.injEq, Prod.mk.injEq, decide_eq_true_eq] at h
    obtain ⟨h0, rfl, rfl⟩ := h
    exact floor90_ok _ _ h0
  · cases h
def k85 : Ctr := ⟨85, 0, fun _ a => match a with | [.list (.big (.agg [.int .i64, .int .i64, .int .i64]) ps)] => some (decide (ps.length ≤ 1000000), .int .i64 (lnE ps), none) | _ => none⟩
theorem k85_ok : k85.OK Try.prog := fun pa args r fr h => by
  simp only [k85] at h
  split at h
  · simp only [Option.some.injEq, Prod.mk.injEq, decide_eq_true_eq] at h
    obtain ⟨h0, rfl, rfl⟩ := h
    exact lines85_ok _ h0
  · cases h
def BE1 : List Ctr := [k91, k90, k85] ++ BC6
theorem BE1_ok : CtrsOK Try.prog BE1 := ⟨k91_ok, ⟨k90_ok, ⟨k85_ok, BC6_ok⟩⟩⟩
end Go.Proofs.Ytjhdnpmojhkbjaa
/- Paths of functions, printed by the explorer (Gx). No condition. -/
namespace Go.Proofs.Ytjhdnpmojhkbjaa
set_option maxRecDepth 100000
set_option linter.unusedVariables false
def f89e (a : Int) (b : Int) (c : Int) (d : Int) (n : Int) : List AFrame := [{ fn := 89, N := 25, env := [(0, AV.agg (Row.gen [AV.int .i64 a, AV.int .i64 b, AV.int .i64 c, AV.int .i64 d])), (1, AV.int .i64 n)], todo := [.code a89.code], defs := [], rnd := none, ret := false, res := [ARes.tmp 4] }]
theorem f89e_at (a : Int) (b : Int) (c : Int) (d : Int) (n : Int) : enterA tab 89 [AV.agg (Row.gen [AV.int .i64 a, AV.int .i64 b, AV.int .i64 c, AV.int .i64 d]), AV.int .i64 n] = some { fn := 89, N := 25, env := [(0, AV.agg (Row.gen [AV.int .i64 a, AV.int .i64 b, AV.int .i64 c, AV.int .i64 d])), (1, AV.int .i64 n)], todo := [.code a89.code], defs := [], rnd := none, ret := false, res := [ARes.tmp 4] } := rfl
theorem f89p0 (A : Ar) (a : Int) (b : Int) (c : Int) (d : Int) (n : Int) : gfin A tab BE1 9 [] 89 (f89e a b c d n) [] =
  some ([A.and true (A.and true true), true, A.inR .i64 (A.add (A.mul b (denC a c)) (A.mul (A.sub d b) (A.sub n a))), A.inR .i64 (A.mul (A.sub d b) (A.sub n a)), A.inR .i64 (A.sub n a), A.and (A.ltN 0 1) (A.ltN 0 4), true, true, true, A.inR .i64 (A.sub d b), A.and (A.ltN 0 1) (A.ltN 1 4), true, true, A.and (A.ltN 0 1) (A.ltN 3 4), true, true, A.inR .i64 (A.mul b (denC a c)), A.and true (Decidable.decide (cntB a = true ∧ cntB c = true)), A.and (A.ltN 0 1) (A.leN (A.addN 0 4) 4), A.and (A.ltN 0 1) (A.ltN 1 4), true, true, true, A.and true (A.ltN 0 4)],
   AV.int .i64 (A.add (A.mul b (denC a c)) (A.mul (A.sub d b) (A.sub n a))), none) := by kernel_rfl
end Go.Proofs.Ytjhdnpmojhkbjaa
/- Contracts as a list. No condition. -/
namespace Go.Proofs.Ytjhdnpmojhkbjaa
def atC (a b c d n : Int) : Int := b * (c - a) + (d - b) * (n - a)
def chB (a b c d : Int) : Bool := (cntB a && cntB c) && (timB b && timB d)
theorem chB_ok {a b c d : Int} (h : chB a b c d = true) : ((0 ≤ a ∧ a ≤ 1000000) ∧ 0 ≤ c ∧ c ≤ 1000000) ∧ (0 ≤ b ∧ b ≤ 1000000000000) ∧ 0 ≤ d ∧ d ≤ 1000000000000 := by
  simpa [chB, cntB, timB] using h
theorem mulB {x y A B : Int} (hx : -A ≤ x ∧ x ≤ A) (hy : -B ≤ y ∧ y ≤ B) (hA : 0 ≤ A) (hB : 0 ≤ B) : -(A * B) ≤ x * y ∧ x * y ≤ A * B := by
  have h1 : (x * y).natAbs ≤ A.natAbs * B.natAbs := by
    rw [Int.natAbs_mul]; exact Nat.mul_le_mul (by omega) (by omega)
  have h2 : ((A.natAbs * B.natAbs : Nat) : Int) = A * B := by rw [Int.natCast_mul]; rw [Int.natAbs_of_nonneg hA, Int.natAbs_of_nonneg hB]
  omega
theorem atC_rng {a b c d n : Int} (h : chB a b c d = true) (hn : cntB n = true) : (-1000000000000000000 ≤ b * (c - a) ∧ b * (c - a) ≤ 1000000000000000000) ∧ (-1000000000000000000 ≤ (d - b) * (n - a) ∧ (d - b) * (n - a) ≤ 1000000000000000000) := by
  have h := chB_ok h
  simp only [cntB, decide_eq_true_eq] at hn
  have h1 := mulB (x := b) (y := c - a) (A := 1000000000000) (B := 1000000) (by omega) (by omega) (by omega) (by omega)
  have h2 := mulB (x := d - b) (y := n - a) (A := 1000000000000) (B := 1000000) (by omega) (by omega) (by omega) (by omega)
  omega
theorem at89_ok (a b c d n : Int) (h : chB a b c d = true ∧ cntB n = true) : Pure Try.prog 89 [.agg (.gen [.int .i64 a, .int .i64 b, .int .i64 c, .int .i64 d]), .int .i64 n] (.int .i64 (atC a b c d n)) none :=
  start (f89e_at a b c d n) fun C hC => by
    have h1 := atC_rng h.1 h.2
    have h2 := chB_ok h.1
    have h3 : cntB a = true ∧ cntB c = true := by simp only [cntB, decide_eq_true_eq]; exact h2.1
    have h4 := h.2
    simp only [cntB, decide_eq_true_eq] at h4
    refine fin hC BE1_ok (f89p0 std a b c d n) ?_ (by simp [atC, denC]) rfl
    simp only [decide_eq_true h3, denC]
    simp
    omega
def k89 : Ctr := ⟨89, 0, fun _ a => match a with | [.agg (.gen [.int .i64 a, .int .i64 b, .int .i64 c, .int .i64 d]), .int .i64 n] => some (decide (chB a b c d = true ∧ cntB n = true), .int .i64 (atC a b c d n), none) | _ => none⟩
theorem k89_ok : k89.OK Try.prog := fun pa args r fr h => by
  simp only [k89] at h
  split at h
  · simp only [Option.some.injEq, Prod.mk.injEq, decide_eq_true_eq] at h
    obtain ⟨h0, rfl, rfl⟩ := h
    exact at89_ok _ _ _ _ _ h0
  · cases h
def BE2 : List Ctr := [k89] ++ BE1
theorem BE2_ok : CtrsOK Try.prog BE2 := ⟨k89_ok, BE1_ok⟩
end Go.Proofs.Ytjhdnpmojhkbjaa
/- Paths of functions, printed by the explorer (Gx). No condition. -/
namespace Go.Proofs.Ytjhdnpmojhkbjaa
set_option maxRecDepth 100000
set_option linter.unusedVariables false
def f126e (a : Int) (b : Int) (c : Int) (d : Int) (ps : List AV) : List AFrame := [{ fn := 126, N := 32, env := [(0, AV.agg (Row.gen [AV.int .i64 a, AV.int .i64 b, AV.int .i64 c, AV.int .i64 d])), (1, AV.list (Row.big (Sh.agg [Sh.int .i64, Sh.int .i64, Sh.int .i64]) ps))], todo := [.code a126.code], defs := [], rnd := none, ret := false, res := [ARes.tmp 4] }]
theorem f126e_at (a : Int) (b : Int) (c : Int) (d : Int) (ps : List AV) : enterA tab 126 [AV.agg (Row.gen [AV.int .i64 a, AV.int .i64 b, AV.int .i64 c, AV.int .i64 d]), AV.list (Row.big (Sh.agg [Sh.int .i64, Sh.int .i64, Sh.int .i64]) ps)] = some { fn := 126, N := 32, env := [(0, AV.agg (Row.gen [AV.int .i64 a, AV.int .i64 b, AV.int .i64 c, AV.int .i64 d])), (1, AV.list (Row.big (Sh.agg [Sh.int .i64, Sh.int .i64, Sh.int .i64]) ps))], todo := [.code a126.code], defs := [], rnd := none, ret := false, res := [ARes.tmp 4] } := rfl
def f126h126_0a (a : Int) (b : Int) (c : Int) (d : Int) (ps : List AV) (n0 : Int) (n1 : Int) : List AFrame := [{ fn := 126, N := 32, env := [(2, AV.ptr 126003 0 0 0), (7, AV.list (Row.big (Sh.agg [Sh.int .i64, Sh.int .i64, Sh.int .i64]) ps)), (8, AV.int .i64 n0), (9, AV.int .i64 n1)], todo := .code (ACode.gh [] l126_0) :: k126_0, defs := [], rnd := none, ret := false, res := [ARes.tmp 4] }]
def f126h126_0am (a : Int) (b : Int) (c : Int) (d : Int) (ps : List AV) (n0 : Int) (n1 : Int) : AHeap := [(126003, { base := 0, blks := [Blk.row 152 4 (Row.gen [AV.agg (Row.gen [AV.int .i64 a, AV.int .i64 b, AV.int .i64 c, AV.int .i64 d])])] })]
theorem f126p0 (A : Ar) (a : Int) (b : Int) (c : Int) (d : Int) (ps : List AV) : gwalkL A tab BE2 15 [] (f126e a b c d ps) [] =
  some ([true, true, true, true, A.and true (A.ltN 0 4)],
   f126h126_0a (a) (b) (c) (d) (ps) (A.int (A.lenA ps)) (0), f126h126_0am (a) (b) (c) (d) (ps) (A.int (A.lenA ps)) (0)) := by kernel_rfl
theorem f126p1 (A : Ar) (a : Int) (b : Int) (c : Int) (d : Int) (ps : List AV) (n0 : Int) (n1 : Int) : gfin A tab BE2 26 [true, true] 126 (f126h126_0a a b c d ps n0 n1) (f126h126_0am a b c d ps n0 n1) =
  some ([A.and true (A.and true true), true, A.not (Decidable.decide (A.mul (AV.toI (AV.cellAt (A.nthA ps (A.nat n1)) 1)) (denC a c) ≤ atC a b c d (AV.toI (AV.cellAt (A.nthA ps (A.nat n1)) 0)) ∧ atC a b c d (AV.toI (AV.cellAt (A.nthA ps (A.nat n1)) 0)) ≤ A.mul (AV.toI (AV.cellAt (A.nthA ps (A.nat n1)) 2)) (denC a c))), true, A.and true true, A.inR .i64 (A.mul (AV.toI (AV.cellAt (A.nthA ps (A.nat n1)) 2)) (denC a c)), A.and true (Decidable.decide (cntB a = true ∧ cntB c = true)), A.and (A.ltN 0 1) (A.leN (A.addN 0 4) 4), A.and (A.ltN 0 1) (A.ltN 2 3), true, true, A.inR .i64 (A.mul (AV.toI (AV.cellAt (A.nthA ps (A.nat n1)) 1)) (denC a c)), A.and true (Decidable.decide (cntB a = true ∧ cntB c = true)), A.and (A.ltN 0 1) (A.leN (A.addN 0 4) 4), A.and (A.ltN 0 1) (A.ltN 1 3), true, true, A.and true (Decidable.decide (chB a b c d = true ∧ cntB (AV.toI (AV.cellAt (A.nthA ps (A.nat n1)) 0)) = true)), A.and (A.ltN 0 1) (A.ltN 0 3), true, A.and (A.ltN 0 1) (A.leN (A.addN 0 4) 4), A.and (A.ltN 0 1) (A.eqN 3 3), A.and true (A.ltN 0 3), A.leN (A.addN 0 3) 3, A.and (A.and (A.le 0 n1) (A.ltN (A.nat n1) (A.lenA ps))) (A.eqN 3 3), A.lt n1 n0, true],
   AV.bool false, none) := by kernel_rfl
theorem f126p2 (A : Ar) (a : Int) (b : Int) (c : Int) (d : Int) (ps : List AV) (n0 : Int) (n1 : Int) : gwalkL A tab BE2 29 [true, false] (f126h126_0a a b c d ps n0 n1) (f126h126_0am a b c d ps n0 n1) =
  some ([true, A.inR .i64 (A.add n1 1), !A.not (Decidable.decide (A.mul (AV.toI (AV.cellAt (A.nthA ps (A.nat n1)) 1)) (denC a c) ≤ atC a b c d (AV.toI (AV.cellAt (A.nthA ps (A.nat n1)) 0)) ∧ atC a b c d (AV.toI (AV.cellAt (A.nthA ps (A.nat n1)) 0)) ≤ A.mul (AV.toI (AV.cellAt (A.nthA ps (A.nat n1)) 2)) (denC a c))), true, A.and true true, A.inR .i64 (A.mul (AV.toI (AV.cellAt (A.nthA ps (A.nat n1)) 2)) (denC a c)), A.and true (Decidable.decide (cntB a = true ∧ cntB c = true)), A.and (A.ltN 0 1) (A.leN (A.addN 0 4) 4), A.and (A.ltN 0 1) (A.ltN 2 3), true, true, A.inR .i64 (A.mul (AV.toI (AV.cellAt (A.nthA ps (A.nat n1)) 1)) (denC a c)), A.and true (Decidable.decide (cntB a = true ∧ cntB c = true)), A.and (A.ltN 0 1) (A.leN (A.addN 0 4) 4), A.and (A.ltN 0 1) (A.ltN 1 3), true, true, A.and true (Decidable.decide (chB a b c d = true ∧ cntB (AV.toI (AV.cellAt (A.nthA ps (A.nat n1)) 0)) = true)), A.and (A.ltN 0 1) (A.ltN 0 3), true, A.and (A.ltN 0 1) (A.leN (A.addN 0 4) 4), A.and (A.ltN 0 1) (A.eqN 3 3), A.and true (A.ltN 0 3), A.leN (A.addN 0 3) 3, A.and (A.and (A.le 0 n1) (A.ltN (A.nat n1) (A.lenA ps))) (A.eqN 3 3), A.lt n1 n0, true],
   f126h126_0a (a) (b) (c) (d) (ps) (n0) (A.add n1 1), f126h126_0am (a) (b) (c) (d) (ps) (n0) (A.add n1 1)) := by kernel_rfl
theorem f126p3 (A : Ar) (a : Int) (b : Int) (c : Int) (d : Int) (ps : List AV) (n0 : Int) (n1 : Int) : gfin A tab BE2 13 [false] 126 (f126h126_0a a b c d ps n0 n1) (f126h126_0am a b c d ps n0 n1) =
  some ([A.and true (A.and true true), true, !A.lt n1 n0, true],
   AV.bool true, none) := by kernel_rfl
end Go.Proofs.Ytjhdnpmojhkbjaa
/- Contracts as a list. No condition. -/
namespace Go.Proofs.Ytjhdnpmojhkbjaa
def allP (ps : List AV) : Bool := decide (ps.length ≤ 1000000) && ps.all fun p => okP (pC p) (pL p) (pH p)
def fitS (a b c d : Int) (p : AV) : Prop := pL p * denC a c ≤ atC a b c d (pC p) ∧ atC a b c d (pC p) ≤ pH p * denC a c
instance (a b c d : Int) (p : AV) : Decidable (fitS a b c d p) := by unfold fitS; infer_instance
def fitB (a b c d : Int) : List AV → Bool
  | [] => true
  | p :: ps => decide (fitS a b c d p) && fitB a b c d ps
theorem l126 {C : Ctx} (hC : C.P = Try.prog) (a b c d : Int) (ps : List AV) (hc : chB a b c d = true) (hp : allP ps = true) : ∀ (t i : Nat), i + t = ps.length →
    Ev C (f126h126_0a a b c d ps ps.length i) (f126h126_0am a b c d ps ps.length i) (FinQ 126 (.bool (fitB a b c d (ps.drop i))) none) := by
  rw [allP, Bool.and_eq_true, decide_eq_true_eq, List.all_eq_true] at hp
  obtain ⟨hl, hp⟩ := hp
  intro t
  induction t with
  | zero =>
    intro i hi
    rw [List.drop_of_length_le (by omega)]
    exact fin hC BE2_ok (f126p3 std a b c d ps _ _) (by simp; omega) rfl rfl
  | succ t ih =>
    intro i hi
    have hlt : i < ps.length := by omega
    have e1 : std.nthA ps (std.nat (i : Int)) = ps[i] := by simp [hlt]
    have g0 : (ps[i].cellAt 0).toI = pC ps[i] := rfl
    have g1 : (ps[i].cellAt 1).toI = pL ps[i] := rfl
    have g2 : (ps[i].cellAt 2).toI = pH ps[i] := rfl
    have hk := hp ps[i] (by simp)
    simp only [okP, decide_eq_true_eq] at hk
    have hcn : cntB (pC ps[i]) = true := decide_eq_true hk.1
    have h1 := chB_ok hc
    have h3 : cntB a = true ∧ cntB c = true := by simp only [cntB, decide_eq_true_eq]; exact h1.1
    have h4 : chB a b c d = true ∧ cntB (pC ps[i]) = true := ⟨hc, hcn⟩
    have h5 := mulB (x := pL ps[i]) (y := denC a c) (A := 1000000000000) (B := 1000000) (by omega) (by unfold denC; omega) (by omega) (by omega)
    have h6 := mulB (x := pH ps[i]) (y := denC a c) (A := 1000000000000) (B := 1000000) (by omega) (by unfold denC; omega) (by omega) (by omega)
    rw [List.drop_eq_getElem_cons hlt, fitB]
    by_cases hf : fitS a b c d ps[i]
    · have hf' := hf
      unfold fitS at hf'
      rw [decide_eq_true hf, Bool.true_and]
      refine go hC BE2_ok (f126p2 std a b c d ps _ _) ?_ (by simpa using ih (i + 1) (by omega))
      simp only [e1, g0, g1, g2, decide_eq_true h3, decide_eq_true h4, s_mul, decide_eq_true hf']
      simp [hlt]; omega
    · have hf' := hf
      unfold fitS at hf'
      rw [decide_eq_false hf, Bool.false_and]
      refine fin hC BE2_ok (f126p1 std a b c d ps _ _) ?_ rfl rfl
      simp only [e1, g0, g1, g2, decide_eq_true h3, decide_eq_true h4, s_mul, decide_eq_false hf']
      simp [hlt]; omega
theorem fits126_ok (a b c d : Int) (ps : List AV) (h : chB a b c d = true ∧ allP ps = true) : Pure Try.prog 126 [.agg (.gen [.int .i64 a, .int .i64 b, .int .i64 c, .int .i64 d]), .list (.big (.agg [.int .i64, .int .i64, .int .i64]) ps)] (.bool (fitB a b c d ps)) none :=
  start (f126e_at a b c d ps) fun C hC => go hC BE2_ok (f126p0 std a b c d ps) (by simp) (l126 hC a b c d ps h.1 h.2 ps.length 0 (by omega))
def k126 : Ctr := ⟨126, 0, fun _ a => match a with | [.agg (.gen [.int .i64 a, .int .i64 b, .int .i64 c, .int .i64 d]), .list (.big (.agg [.int .i64, .int .i64, .int .i64]) ps)] => some (decide (chB a b c d = true ∧ allP ps = true), .bool (fitB a b c d ps), none) | _ => none⟩
theorem k126_ok : k126.OK Try.prog := fun pa args r fr h => by
  simp only [k126] at h
  split at h
  · simp only [Option.some.injEq, Prod.mk.injEq, decide_eq_true_eq] at h
    obtain ⟨h0, rfl, rfl⟩ := h
    exact fits126_ok _ _ _ _ _ h0
  · cases h
def BE3 : List Ctr := [k126] ++ BE2
theorem BE3_ok : CtrsOK Try.prog BE3 := ⟨k126_ok, BE2_ok⟩
end Go.Proofs.Ytjhdnpmojhkbjaa
