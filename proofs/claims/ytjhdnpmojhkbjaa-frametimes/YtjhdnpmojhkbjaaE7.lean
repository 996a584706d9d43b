/- Paths of functions, printed by the explorer (Gx). No condition. -/
import Derived.Test.YtjhdnpmojhkbjaaE4
import Derived.KernelRfl
namespace Go.Proofs.Ytjhdnpmojhkbjaa
set_option maxRecDepth 100000
set_option linter.unusedVariables false
def f28e (ps : List AV) (n : Int) : List AFrame := [{ fn := 28, N := 195, env := [(0, AV.list (Row.big (Sh.agg [Sh.int .i64, Sh.int .i64, Sh.int .i64]) ps)), (1, AV.int .i64 n)], todo := [.code a28.code], defs := [], rnd := none, ret := false, res := [ARes.cell 4 true 2] }]
theorem f28e_at (ps : List AV) (n : Int) : enterA tab 28 [AV.list (Row.big (Sh.agg [Sh.int .i64, Sh.int .i64, Sh.int .i64]) ps), AV.int .i64 n] = some { fn := 28, N := 195, env := [(0, AV.list (Row.big (Sh.agg [Sh.int .i64, Sh.int .i64, Sh.int .i64]) ps)), (1, AV.int .i64 n)], todo := [.code a28.code], defs := [], rnd := none, ret := false, res := [ARes.cell 4 true 2] } := rfl
def f28h28_2a (ps : List AV) (n : Int) (n0 : Int) (n1 : Int) (n2 : Int) (n3 : Int) (x4 : List AV) (n5 : Int) : List AFrame := [{ fn := 28, N := 195, env := [(0, AV.list (Row.big (Sh.agg [Sh.int .i64, Sh.int .i64, Sh.int .i64]) ps)), (1, AV.int .i64 n), (4, AV.ptr 28005 0 0 0), (5, AV.ptr 28006 0 0 0), (7, AV.row 28033 0), (8, AV.int .i64 n5)], todo := .code (ACode.gh [] l28_2) :: k28_2, defs := [], rnd := none, ret := false, res := [ARes.cell 4 true 2] }]
def f28h28_2am (ps : List AV) (n : Int) (n0 : Int) (n1 : Int) (n2 : Int) (n3 : Int) (x4 : List AV) (n5 : Int) : AHeap := [(28005, { base := 0, blks := [Blk.row 40 2 (Row.gen [AV.agg (Row.gen [AV.int .i64 0, AV.int .i64 0])])] }), (28006, { base := 0, blks := [Blk.row 80 4 (Row.gen [AV.agg (Row.gen [AV.int .i64 n0, AV.int .i64 n1, AV.int .i64 n2, AV.int .i64 n3])])] }), (28033, { base := 0, blks := [Blk.row 79 2 (Row.big (Sh.agg [Sh.int .i64, Sh.int .i64]) x4)] })]
def f28h28_3a (ps : List AV) (n : Int) (n0 : Int) (n1 : Int) (n2 : Int) (n3 : Int) (x4 : List AV) (n5 : Int) : List AFrame := [{ fn := 28, N := 195, env := [(0, AV.list (Row.big (Sh.agg [Sh.int .i64, Sh.int .i64, Sh.int .i64]) ps)), (1, AV.int .i64 n), (4, AV.ptr 28005 0 0 0), (5, AV.ptr 28006 0 0 0), (7, AV.row 28033 0), (8, AV.int .i64 n5), (9, AV.int .i64 0)], todo := .code (ACode.gh [] l28_3) :: k28_3, defs := [], rnd := none, ret := false, res := [ARes.cell 4 true 2] }]
def f28h28_3am (ps : List AV) (n : Int) (n0 : Int) (n1 : Int) (n2 : Int) (n3 : Int) (x4 : List AV) (n5 : Int) : AHeap := [(28005, { base := 0, blks := [Blk.row 40 2 (Row.gen [AV.agg (Row.gen [AV.int .i64 0, AV.int .i64 0])])] }), (28006, { base := 0, blks := [Blk.row 80 4 (Row.gen [AV.agg (Row.gen [AV.int .i64 n0, AV.int .i64 n1, AV.int .i64 n2, AV.int .i64 n3])])] }), (28033, { base := 0, blks := [Blk.row 79 2 (Row.big (Sh.agg [Sh.int .i64, Sh.int .i64]) x4)] })]
def f28h28_3b (ps : List AV) (n : Int) (n0 : Int) (n1 : Int) (n2 : Int) (n3 : Int) (n10 : Int) (x11 : List AV) (n12 : Int) : List AFrame := [{ fn := 28, N := 195, env := [(0, AV.list (Row.big (Sh.agg [Sh.int .i64, Sh.int .i64, Sh.int .i64]) ps)), (1, AV.int .i64 n), (4, AV.ptr 28005 0 0 0), (5, AV.ptr 28006 0 0 0), (7, AV.row 28088 0), (8, AV.int .i64 n12), (9, AV.int .i64 n10)], todo := .code (ACode.gh [] l28_3) :: k28_3, defs := [], rnd := none, ret := false, res := [ARes.cell 4 true 2] }]
def f28h28_3bm (ps : List AV) (n : Int) (n0 : Int) (n1 : Int) (n2 : Int) (n3 : Int) (n10 : Int) (x11 : List AV) (n12 : Int) : AHeap := [(28005, { base := 0, blks := [Blk.row 40 2 (Row.gen [AV.agg (Row.gen [AV.int .i64 0, AV.int .i64 0])])] }), (28006, { base := 0, blks := [Blk.row 80 4 (Row.gen [AV.agg (Row.gen [AV.int .i64 n0, AV.int .i64 n1, AV.int .i64 n2, AV.int .i64 n3])])] }), (28088, { base := 0, blks := [Blk.row 79 2 (Row.big (Sh.agg [Sh.int .i64, Sh.int .i64]) x11)] })]
def f28h28_2b (ps : List AV) (n : Int) (n0 : Int) (n1 : Int) (n2 : Int) (n3 : Int) (x11 : List AV) (n18 : Int) : List AFrame := [{ fn := 28, N := 195, env := [(0, AV.list (Row.big (Sh.agg [Sh.int .i64, Sh.int .i64, Sh.int .i64]) ps)), (1, AV.int .i64 n), (4, AV.ptr 28005 0 0 0), (5, AV.ptr 28006 0 0 0), (7, AV.row 28088 0), (8, AV.int .i64 n18)], todo := .code (ACode.gh [] l28_2) :: k28_2, defs := [], rnd := none, ret := false, res := [ARes.cell 4 true 2] }]
def f28h28_2bm (ps : List AV) (n : Int) (n0 : Int) (n1 : Int) (n2 : Int) (n3 : Int) (x11 : List AV) (n18 : Int) : AHeap := [(28005, { base := 0, blks := [Blk.row 40 2 (Row.gen [AV.agg (Row.gen [AV.int .i64 0, AV.int .i64 0])])] }), (28006, { base := 0, blks := [Blk.row 80 4 (Row.gen [AV.agg (Row.gen [AV.int .i64 n0, AV.int .i64 n1, AV.int .i64 n2, AV.int .i64 n3])])] }), (28088, { base := 0, blks := [Blk.row 79 2 (Row.big (Sh.agg [Sh.int .i64, Sh.int .i64]) x11)] })]
def f28h28_0b (ps : List AV) (n : Int) (n0 : Int) (n1 : Int) (n2 : Int) (n3 : Int) (x11 : List AV) (n19 : Int) (b20 : Bool) (n21 : Int) (n22 : Int) : List AFrame := [{ fn := 28, N := 195, env := [(0, AV.list (Row.big (Sh.agg [Sh.int .i64, Sh.int .i64, Sh.int .i64]) ps)), (1, AV.int .i64 n), (4, AV.ptr 28005 0 0 0), (5, AV.ptr 28006 0 0 0), (7, AV.row 28088 0), (11, AV.ptr 28012 0 0 0), (12, AV.bool b20), (13, AV.int .i64 n19)], todo := .code (ACode.gh [] l28_0) :: k28_0, defs := [], rnd := none, ret := false, res := [ARes.cell 4 true 2] }]
def f28h28_0bm (ps : List AV) (n : Int) (n0 : Int) (n1 : Int) (n2 : Int) (n3 : Int) (x11 : List AV) (n19 : Int) (b20 : Bool) (n21 : Int) (n22 : Int) : AHeap := [(28005, { base := 0, blks := [Blk.row 40 2 (Row.gen [AV.agg (Row.gen [AV.int .i64 0, AV.int .i64 0])])] }), (28006, { base := 0, blks := [Blk.row 80 4 (Row.gen [AV.agg (Row.gen [AV.int .i64 n0, AV.int .i64 n1, AV.int .i64 n2, AV.int .i64 n3])])] }), (28012, { base := 0, blks := [Blk.row 40 2 (Row.gen [AV.agg (Row.gen [AV.int .i64 n21, AV.int .i64 n22])])] }), (28088, { base := 0, blks := [Blk.row 79 2 (Row.big (Sh.agg [Sh.int .i64, Sh.int .i64]) x11)] })]
def f28h28_1b (ps : List AV) (n : Int) (n0 : Int) (n1 : Int) (n2 : Int) (n3 : Int) (x11 : List AV) (n19 : Int) (b20 : Bool) (n21 : Int) (n22 : Int) (n23 : Int) (n24 : Int) (n25 : Int) (n26 : Int) (n27 : Int) : List AFrame := [{ fn := 28, N := 195, env := [(0, AV.list (Row.big (Sh.agg [Sh.int .i64, Sh.int .i64, Sh.int .i64]) ps)), (1, AV.int .i64 n), (4, AV.ptr 28005 0 0 0), (5, AV.ptr 28006 0 0 0), (7, AV.row 28088 0), (11, AV.ptr 28012 0 0 0), (12, AV.bool b20), (13, AV.int .i64 n19), (14, AV.ptr 28015 0 0 0), (15, AV.int .i64 n25), (16, AV.int .i64 n26), (17, AV.int .i64 n27)], todo := .code (ACode.gh [] l28_1) :: k28_1, defs := [], rnd := none, ret := false, res := [ARes.cell 4 true 2] }]
def f28h28_1bm (ps : List AV) (n : Int) (n0 : Int) (n1 : Int) (n2 : Int) (n3 : Int) (x11 : List AV) (n19 : Int) (b20 : Bool) (n21 : Int) (n22 : Int) (n23 : Int) (n24 : Int) (n25 : Int) (n26 : Int) (n27 : Int) : AHeap := [(28005, { base := 0, blks := [Blk.row 40 2 (Row.gen [AV.agg (Row.gen [AV.int .i64 0, AV.int .i64 0])])] }), (28006, { base := 0, blks := [Blk.row 80 4 (Row.gen [AV.agg (Row.gen [AV.int .i64 n0, AV.int .i64 n1, AV.int .i64 n2, AV.int .i64 n3])])] }), (28012, { base := 0, blks := [Blk.row 40 2 (Row.gen [AV.agg (Row.gen [AV.int .i64 n21, AV.int .i64 n22])])] }), (28015, { base := 0, blks := [Blk.row 79 2 (Row.gen [AV.agg (Row.gen [AV.int .i64 n23, AV.int .i64 n24])])] }), (28088, { base := 0, blks := [Blk.row 79 2 (Row.big (Sh.agg [Sh.int .i64, Sh.int .i64]) x11)] })]
theorem f28p0 (A : Ar) (ps : List AV) (n : Int) : gwalkL A tab BE4 33 [] (f28e ps n) [] =
  some ([true, true, List.all [AV.agg (Row.gen [AV.int .i64 (rateP ps).1, AV.int .i64 (rateP ps).snd.1]), AV.agg (Row.gen [AV.int .i64 (rateP ps).snd.snd.1, AV.int .i64 (rateP ps).snd.snd.2])] fun x => AV.bx x && Nat.beq (flatLen A x) 2, A.and (A.ltN 0 1) (A.leN (A.addN 2 2) 4), true, A.and (A.ltN 0 1) (A.leN (A.addN 0 2) 4), true, true, A.and (A.ltN 0 1) (A.eqN 4 4), A.and true (A.ltN 0 (A.len [0, 0, 0, 0])), true, true, true, A.and true (Decidable.decide (goodB ps = true)), true, A.and true (A.ltN 0 2)],
   f28h28_2a (ps) (n) ((rateP ps).1) ((rateP ps).snd.1) ((rateP ps).snd.snd.1) ((rateP ps).snd.snd.2) ([AV.agg (Row.gen [AV.int .i64 (rateP ps).1, AV.int .i64 (rateP ps).snd.1]), AV.agg (Row.gen [AV.int .i64 (rateP ps).snd.snd.1, AV.int .i64 (rateP ps).snd.snd.2])]) (0), f28h28_2am (ps) (n) ((rateP ps).1) ((rateP ps).snd.1) ((rateP ps).snd.snd.1) ((rateP ps).snd.snd.2) ([AV.agg (Row.gen [AV.int .i64 (rateP ps).1, AV.int .i64 (rateP ps).snd.1]), AV.agg (Row.gen [AV.int .i64 (rateP ps).snd.snd.1, AV.int .i64 (rateP ps).snd.snd.2])]) (0)) := by kernel_rfl
theorem f28p1 (A : Ar) (ps : List AV) (n : Int) (n0 : Int) (n1 : Int) (n2 : Int) (n3 : Int) (x4 : List AV) (n5 : Int) : gwalkL A tab BE4 20 [true] (f28h28_2a ps n n0 n1 n2 n3 x4 n5) (f28h28_2am ps n n0 n1 n2 n3 x4 n5) =
  some ([true, A.lt n5 (A.int (A.lenA ps)), true, true, true, true],
   f28h28_3a (ps) (n) (n0) (n1) (n2) (n3) (x4) (n5), f28h28_3am (ps) (n) (n0) (n1) (n2) (n3) (x4) (n5)) := by kernel_rfl
theorem f28p3 (A : Ar) (ps : List AV) (n : Int) (n0 : Int) (n1 : Int) (n2 : Int) (n3 : Int) (x4 : List AV) (n5 : Int) : gwalkL A tab BE4 24 [true] (f28h28_3a ps n n0 n1 n2 n3 x4 n5) (f28h28_3am ps n n0 n1 n2 n3 x4 n5) =
  some ([true, A.inR .i64 (A.add 0 1), true, true, A.and (A.and true (A.eqN 2 2)) (A.and (A.eqN 79 79) (A.and (A.eqN 2 2) (A.leN (A.addN (A.lenA x4) (A.lenA [AV.agg (Row.gen [AV.int .i64 (lN (A.sub (AV.toI (AV.cellAt (A.nthA ps (A.nat n5)) 1)) (AV.toI (AV.cellAt (A.nthA ps (A.nat 0)) 1))) (A.sub (AV.toI (AV.cellAt (A.nthA ps (A.nat n5)) 0)) (AV.toI (AV.cellAt (A.nthA ps (A.nat 0)) 0)))), AV.int .i64 (lD (A.sub (AV.toI (AV.cellAt (A.nthA ps (A.nat n5)) 1)) (AV.toI (AV.cellAt (A.nthA ps (A.nat 0)) 1))) (A.sub (AV.toI (AV.cellAt (A.nthA ps (A.nat n5)) 0)) (AV.toI (AV.cellAt (A.nthA ps (A.nat 0)) 0))))]), AV.agg (Row.gen [AV.int .i64 (lN (A.sub (AV.toI (AV.cellAt (A.nthA ps (A.nat n5)) 2)) (AV.toI (AV.cellAt (A.nthA ps (A.nat 0)) 2))) (A.sub (AV.toI (AV.cellAt (A.nthA ps (A.nat n5)) 0)) (AV.toI (AV.cellAt (A.nthA ps (A.nat 0)) 0)))), AV.int .i64 (lD (A.sub (AV.toI (AV.cellAt (A.nthA ps (A.nat n5)) 2)) (AV.toI (AV.cellAt (A.nthA ps (A.nat 0)) 2))) (A.sub (AV.toI (AV.cellAt (A.nthA ps (A.nat n5)) 0)) (AV.toI (AV.cellAt (A.nthA ps (A.nat 0)) 0))))])])) 4294967296))), List.all [AV.agg (Row.gen [AV.int .i64 (lN (A.sub (AV.toI (AV.cellAt (A.nthA ps (A.nat n5)) 1)) (AV.toI (AV.cellAt (A.nthA ps (A.nat 0)) 1))) (A.sub (AV.toI (AV.cellAt (A.nthA ps (A.nat n5)) 0)) (AV.toI (AV.cellAt (A.nthA ps (A.nat 0)) 0)))), AV.int .i64 (lD (A.sub (AV.toI (AV.cellAt (A.nthA ps (A.nat n5)) 1)) (AV.toI (AV.cellAt (A.nthA ps (A.nat 0)) 1))) (A.sub (AV.toI (AV.cellAt (A.nthA ps (A.nat n5)) 0)) (AV.toI (AV.cellAt (A.nthA ps (A.nat 0)) 0))))]), AV.agg (Row.gen [AV.int .i64 (lN (A.sub (AV.toI (AV.cellAt (A.nthA ps (A.nat n5)) 2)) (AV.toI (AV.cellAt (A.nthA ps (A.nat 0)) 2))) (A.sub (AV.toI (AV.cellAt (A.nthA ps (A.nat n5)) 0)) (AV.toI (AV.cellAt (A.nthA ps (A.nat 0)) 0)))), AV.int .i64 (lD (A.sub (AV.toI (AV.cellAt (A.nthA ps (A.nat n5)) 2)) (AV.toI (AV.cellAt (A.nthA ps (A.nat 0)) 2))) (A.sub (AV.toI (AV.cellAt (A.nthA ps (A.nat n5)) 0)) (AV.toI (AV.cellAt (A.nthA ps (A.nat 0)) 0))))])] fun x => AV.bx x && Nat.beq (flatLen A x) 2, A.and true (Decidable.decide (bigB (A.sub (AV.toI (AV.cellAt (A.nthA ps (A.nat n5)) 2)) (AV.toI (AV.cellAt (A.nthA ps (A.nat 0)) 2))) = true ∧ 0 < A.sub (AV.toI (AV.cellAt (A.nthA ps (A.nat n5)) 0)) (AV.toI (AV.cellAt (A.nthA ps (A.nat 0)) 0)) ∧ bigB (A.sub (AV.toI (AV.cellAt (A.nthA ps (A.nat n5)) 0)) (AV.toI (AV.cellAt (A.nthA ps (A.nat 0)) 0))) = true)), true, A.inR .i64 (A.sub (AV.toI (AV.cellAt (A.nthA ps (A.nat n5)) 2)) (AV.toI (AV.cellAt (A.nthA ps (A.nat 0)) 2))), A.ltN 2 3, true, true, A.and (A.and (A.le 0 0) (A.ltN (A.nat 0) (A.lenA ps))) (A.eqN 3 3), true, true, A.ltN 2 3, true, true, A.and (A.and (A.le 0 n5) (A.ltN (A.nat n5) (A.lenA ps))) (A.eqN 3 3), true, true, A.and true (Decidable.decide (bigB (A.sub (AV.toI (AV.cellAt (A.nthA ps (A.nat n5)) 1)) (AV.toI (AV.cellAt (A.nthA ps (A.nat 0)) 1))) = true ∧ 0 < A.sub (AV.toI (AV.cellAt (A.nthA ps (A.nat n5)) 0)) (AV.toI (AV.cellAt (A.nthA ps (A.nat 0)) 0)) ∧ bigB (A.sub (AV.toI (AV.cellAt (A.nthA ps (A.nat n5)) 0)) (AV.toI (AV.cellAt (A.nthA ps (A.nat 0)) 0))) = true)), true, A.inR .i64 (A.sub (AV.toI (AV.cellAt (A.nthA ps (A.nat n5)) 1)) (AV.toI (AV.cellAt (A.nthA ps (A.nat 0)) 1))), A.ltN 1 3, true, true, A.and (A.and (A.le 0 0) (A.ltN (A.nat 0) (A.lenA ps))) (A.eqN 3 3), true, true, A.ltN 1 3, true, true, A.and (A.and (A.le 0 n5) (A.ltN (A.nat n5) (A.lenA ps))) (A.eqN 3 3), true, true, true, true, A.inR .i64 (A.sub (AV.toI (AV.cellAt (A.nthA ps (A.nat n5)) 0)) (AV.toI (AV.cellAt (A.nthA ps (A.nat 0)) 0))), A.ltN 0 3, true, A.and (A.and (A.le 0 0) (A.ltN (A.nat 0) (A.lenA ps))) (A.eqN 3 3), true, true, A.ltN 0 3, true, A.and (A.and (A.le 0 n5) (A.ltN (A.nat n5) (A.lenA ps))) (A.eqN 3 3), true, true, A.lt 0 n5, true, true, true],
   f28h28_3b (ps) (n) (n0) (n1) (n2) (n3) (A.add 0 1) (A.appA x4 [AV.agg (Row.gen [AV.int .i64 (lN (A.sub (AV.toI (AV.cellAt (A.nthA ps (A.nat n5)) 1)) (AV.toI (AV.cellAt (A.nthA ps (A.nat 0)) 1))) (A.sub (AV.toI (AV.cellAt (A.nthA ps (A.nat n5)) 0)) (AV.toI (AV.cellAt (A.nthA ps (A.nat 0)) 0)))), AV.int .i64 (lD (A.sub (AV.toI (AV.cellAt (A.nthA ps (A.nat n5)) 1)) (AV.toI (AV.cellAt (A.nthA ps (A.nat 0)) 1))) (A.sub (AV.toI (AV.cellAt (A.nthA ps (A.nat n5)) 0)) (AV.toI (AV.cellAt (A.nthA ps (A.nat 0)) 0))))]), AV.agg (Row.gen [AV.int .i64 (lN (A.sub (AV.toI (AV.cellAt (A.nthA ps (A.nat n5)) 2)) (AV.toI (AV.cellAt (A.nthA ps (A.nat 0)) 2))) (A.sub (AV.toI (AV.cellAt (A.nthA ps (A.nat n5)) 0)) (AV.toI (AV.cellAt (A.nthA ps (A.nat 0)) 0)))), AV.int .i64 (lD (A.sub (AV.toI (AV.cellAt (A.nthA ps (A.nat n5)) 2)) (AV.toI (AV.cellAt (A.nthA ps (A.nat 0)) 2))) (A.sub (AV.toI (AV.cellAt (A.nthA ps (A.nat n5)) 0)) (AV.toI (AV.cellAt (A.nthA ps (A.nat 0)) 0))))])]) (n5), f28h28_3bm (ps) (n) (n0) (n1) (n2) (n3) (A.add 0 1) (A.appA x4 [AV.agg (Row.gen [AV.int .i64 (lN (A.sub (AV.toI (AV.cellAt (A.nthA ps (A.nat n5)) 1)) (AV.toI (AV.cellAt (A.nthA ps (A.nat 0)) 1))) (A.sub (AV.toI (AV.cellAt (A.nthA ps (A.nat n5)) 0)) (AV.toI (AV.cellAt (A.nthA ps (A.nat 0)) 0)))), AV.int .i64 (lD (A.sub (AV.toI (AV.cellAt (A.nthA ps (A.nat n5)) 1)) (AV.toI (AV.cellAt (A.nthA ps (A.nat 0)) 1))) (A.sub (AV.toI (AV.cellAt (A.nthA ps (A.nat n5)) 0)) (AV.toI (AV.cellAt (A.nthA ps (A.nat 0)) 0))))]), AV.agg (Row.gen [AV.int .i64 (lN (A.sub (AV.toI (AV.cellAt (A.nthA ps (A.nat n5)) 2)) (AV.toI (AV.cellAt (A.nthA ps (A.nat 0)) 2))) (A.sub (AV.toI (AV.cellAt (A.nthA ps (A.nat n5)) 0)) (AV.toI (AV.cellAt (A.nthA ps (A.nat 0)) 0)))), AV.int .i64 (lD (A.sub (AV.toI (AV.cellAt (A.nthA ps (A.nat n5)) 2)) (AV.toI (AV.cellAt (A.nthA ps (A.nat 0)) 2))) (A.sub (AV.toI (AV.cellAt (A.nthA ps (A.nat n5)) 0)) (AV.toI (AV.cellAt (A.nthA ps (A.nat 0)) 0))))])]) (n5)) := by kernel_rfl
theorem f28p4 (A : Ar) (ps : List AV) (n : Int) (n0 : Int) (n1 : Int) (n2 : Int) (n3 : Int) (x4 : List AV) (n5 : Int) : gwalkL A tab BE4 18 [false] (f28h28_3a ps n n0 n1 n2 n3 x4 n5) (f28h28_3am ps n n0 n1 n2 n3 x4 n5) =
  some ([true, A.inR .i64 (A.add n5 1), true, !A.lt 0 n5, true, true, true],
   f28h28_2a (ps) (n) (n0) (n1) (n2) (n3) (x4) (A.add n5 1), f28h28_2am (ps) (n) (n0) (n1) (n2) (n3) (x4) (A.add n5 1)) := by kernel_rfl
theorem f28p9 (A : Ar) (ps : List AV) (n : Int) (n0 : Int) (n1 : Int) (n2 : Int) (n3 : Int) (n10 : Int) (x11 : List AV) (n12 : Int) : gwalkL A tab BE4 24 [true] (f28h28_3b ps n n0 n1 n2 n3 n10 x11 n12) (f28h28_3bm ps n n0 n1 n2 n3 n10 x11 n12) =
  some ([true, A.inR .i64 (A.add n10 1), true, true, A.and (A.and true (A.eqN 2 2)) (A.and (A.eqN 79 79) (A.and (A.eqN 2 2) (A.leN (A.addN (A.lenA x11) (A.lenA [AV.agg (Row.gen [AV.int .i64 (lN (A.sub (AV.toI (AV.cellAt (A.nthA ps (A.nat n12)) 1)) (AV.toI (AV.cellAt (A.nthA ps (A.nat n10)) 1))) (A.sub (AV.toI (AV.cellAt (A.nthA ps (A.nat n12)) 0)) (AV.toI (AV.cellAt (A.nthA ps (A.nat n10)) 0)))), AV.int .i64 (lD (A.sub (AV.toI (AV.cellAt (A.nthA ps (A.nat n12)) 1)) (AV.toI (AV.cellAt (A.nthA ps (A.nat n10)) 1))) (A.sub (AV.toI (AV.cellAt (A.nthA ps (A.nat n12)) 0)) (AV.toI (AV.cellAt (A.nthA ps (A.nat n10)) 0))))]), AV.agg (Row.gen [AV.int .i64 (lN (A.sub (AV.toI (AV.cellAt (A.nthA ps (A.nat n12)) 2)) (AV.toI (AV.cellAt (A.nthA ps (A.nat n10)) 2))) (A.sub (AV.toI (AV.cellAt (A.nthA ps (A.nat n12)) 0)) (AV.toI (AV.cellAt (A.nthA ps (A.nat n10)) 0)))), AV.int .i64 (lD (A.sub (AV.toI (AV.cellAt (A.nthA ps (A.nat n12)) 2)) (AV.toI (AV.cellAt (A.nthA ps (A.nat n10)) 2))) (A.sub (AV.toI (AV.cellAt (A.nthA ps (A.nat n12)) 0)) (AV.toI (AV.cellAt (A.nthA ps (A.nat n10)) 0))))])])) 4294967296))), List.all [AV.agg (Row.gen [AV.int .i64 (lN (A.sub (AV.toI (AV.cellAt (A.nthA ps (A.nat n12)) 1)) (AV.toI (AV.cellAt (A.nthA ps (A.nat n10)) 1))) (A.sub (AV.toI (AV.cellAt (A.nthA ps (A.nat n12)) 0)) (AV.toI (AV.cellAt (A.nthA ps (A.nat n10)) 0)))), AV.int .i64 (lD (A.sub (AV.toI (AV.cellAt (A.nthA ps (A.nat n12)) 1)) (AV.toI (AV.cellAt (A.nthA ps (A.nat n10)) 1))) (A.sub (AV.toI (AV.cellAt (A.nthA ps (A.nat n12)) 0)) (AV.toI (AV.cellAt (A.nthA ps (A.nat n10)) 0))))]), AV.agg (Row.gen [AV.int .i64 (lN (A.sub (AV.toI (AV.cellAt (A.nthA ps (A.nat n12)) 2)) (AV.toI (AV.cellAt (A.nthA ps (A.nat n10)) 2))) (A.sub (AV.toI (AV.cellAt (A.nthA ps (A.nat n12)) 0)) (AV.toI (AV.cellAt (A.nthA ps (A.nat n10)) 0)))), AV.int .i64 (lD (A.sub (AV.toI (AV.cellAt (A.nthA ps (A.nat n12)) 2)) (AV.toI (AV.cellAt (A.nthA ps (A.nat n10)) 2))) (A.sub (AV.toI (AV.cellAt (A.nthA ps (A.nat n12)) 0)) (AV.toI (AV.cellAt (A.nthA ps (A.nat n10)) 0))))])] fun x => AV.bx x && Nat.beq (flatLen A x) 2, A.and true (Decidable.decide (bigB (A.sub (AV.toI (AV.cellAt (A.nthA ps (A.nat n12)) 2)) (AV.toI (AV.cellAt (A.nthA ps (A.nat n10)) 2))) = true ∧ 0 < A.sub (AV.toI (AV.cellAt (A.nthA ps (A.nat n12)) 0)) (AV.toI (AV.cellAt (A.nthA ps (A.nat n10)) 0)) ∧ bigB (A.sub (AV.toI (AV.cellAt (A.nthA ps (A.nat n12)) 0)) (AV.toI (AV.cellAt (A.nthA ps (A.nat n10)) 0))) = true)), true, A.inR .i64 (A.sub (AV.toI (AV.cellAt (A.nthA ps (A.nat n12)) 2)) (AV.toI (AV.cellAt (A.nthA ps (A.nat n10)) 2))), A.ltN 2 3, true, true, A.and (A.and (A.le 0 n10) (A.ltN (A.nat n10) (A.lenA ps))) (A.eqN 3 3), true, true, A.ltN 2 3, true, true, A.and (A.and (A.le 0 n12) (A.ltN (A.nat n12) (A.lenA ps))) (A.eqN 3 3), true, true, A.and true (Decidable.decide (bigB (A.sub (AV.toI (AV.cellAt (A.nthA ps (A.nat n12)) 1)) (AV.toI (AV.cellAt (A.nthA ps (A.nat n10)) 1))) = true ∧ 0 < A.sub (AV.toI (AV.cellAt (A.nthA ps (A.nat n12)) 0)) (AV.toI (AV.cellAt (A.nthA ps (A.nat n10)) 0)) ∧ bigB (A.sub (AV.toI (AV.cellAt (A.nthA ps (A.nat n12)) 0)) (AV.toI (AV.cellAt (A.nthA ps (A.nat n10)) 0))) = true)), true, A.inR .i64 (A.sub (AV.toI (AV.cellAt (A.nthA ps (A.nat n12)) 1)) (AV.toI (AV.cellAt (A.nthA ps (A.nat n10)) 1))), A.ltN 1 3, true, true, A.and (A.and (A.le 0 n10) (A.ltN (A.nat n10) (A.lenA ps))) (A.eqN 3 3), true, true, A.ltN 1 3, true, true, A.and (A.and (A.le 0 n12) (A.ltN (A.nat n12) (A.lenA ps))) (A.eqN 3 3), true, true, true, true, A.inR .i64 (A.sub (AV.toI (AV.cellAt (A.nthA ps (A.nat n12)) 0)) (AV.toI (AV.cellAt (A.nthA ps (A.nat n10)) 0))), A.ltN 0 3, true, A.and (A.and (A.le 0 n10) (A.ltN (A.nat n10) (A.lenA ps))) (A.eqN 3 3), true, true, A.ltN 0 3, true, A.and (A.and (A.le 0 n12) (A.ltN (A.nat n12) (A.lenA ps))) (A.eqN 3 3), true, true, A.lt n10 n12, true, true, true],
   f28h28_3b (ps) (n) (n0) (n1) (n2) (n3) (A.add n10 1) (A.appA x11 [AV.agg (Row.gen [AV.int .i64 (lN (A.sub (AV.toI (AV.cellAt (A.nthA ps (A.nat n12)) 1)) (AV.toI (AV.cellAt (A.nthA ps (A.nat n10)) 1))) (A.sub (AV.toI (AV.cellAt (A.nthA ps (A.nat n12)) 0)) (AV.toI (AV.cellAt (A.nthA ps (A.nat n10)) 0)))), AV.int .i64 (lD (A.sub (AV.toI (AV.cellAt (A.nthA ps (A.nat n12)) 1)) (AV.toI (AV.cellAt (A.nthA ps (A.nat n10)) 1))) (A.sub (AV.toI (AV.cellAt (A.nthA ps (A.nat n12)) 0)) (AV.toI (AV.cellAt (A.nthA ps (A.nat n10)) 0))))]), AV.agg (Row.gen [AV.int .i64 (lN (A.sub (AV.toI (AV.cellAt (A.nthA ps (A.nat n12)) 2)) (AV.toI (AV.cellAt (A.nthA ps (A.nat n10)) 2))) (A.sub (AV.toI (AV.cellAt (A.nthA ps (A.nat n12)) 0)) (AV.toI (AV.cellAt (A.nthA ps (A.nat n10)) 0)))), AV.int .i64 (lD (A.sub (AV.toI (AV.cellAt (A.nthA ps (A.nat n12)) 2)) (AV.toI (AV.cellAt (A.nthA ps (A.nat n10)) 2))) (A.sub (AV.toI (AV.cellAt (A.nthA ps (A.nat n12)) 0)) (AV.toI (AV.cellAt (A.nthA ps (A.nat n10)) 0))))])]) (n12), f28h28_3bm (ps) (n) (n0) (n1) (n2) (n3) (A.add n10 1) (A.appA x11 [AV.agg (Row.gen [AV.int .i64 (lN (A.sub (AV.toI (AV.cellAt (A.nthA ps (A.nat n12)) 1)) (AV.toI (AV.cellAt (A.nthA ps (A.nat n10)) 1))) (A.sub (AV.toI (AV.cellAt (A.nthA ps (A.nat n12)) 0)) (AV.toI (AV.cellAt (A.nthA ps (A.nat n10)) 0)))), AV.int .i64 (lD (A.sub (AV.toI (AV.cellAt (A.nthA ps (A.nat n12)) 1)) (AV.toI (AV.cellAt (A.nthA ps (A.nat n10)) 1))) (A.sub (AV.toI (AV.cellAt (A.nthA ps (A.nat n12)) 0)) (AV.toI (AV.cellAt (A.nthA ps (A.nat n10)) 0))))]), AV.agg (Row.gen [AV.int .i64 (lN (A.sub (AV.toI (AV.cellAt (A.nthA ps (A.nat n12)) 2)) (AV.toI (AV.cellAt (A.nthA ps (A.nat n10)) 2))) (A.sub (AV.toI (AV.cellAt (A.nthA ps (A.nat n12)) 0)) (AV.toI (AV.cellAt (A.nthA ps (A.nat n10)) 0)))), AV.int .i64 (lD (A.sub (AV.toI (AV.cellAt (A.nthA ps (A.nat n12)) 2)) (AV.toI (AV.cellAt (A.nthA ps (A.nat n10)) 2))) (A.sub (AV.toI (AV.cellAt (A.nthA ps (A.nat n12)) 0)) (AV.toI (AV.cellAt (A.nthA ps (A.nat n10)) 0))))])]) (n12)) := by kernel_rfl
theorem f28p10 (A : Ar) (ps : List AV) (n : Int) (n0 : Int) (n1 : Int) (n2 : Int) (n3 : Int) (n10 : Int) (x11 : List AV) (n12 : Int) : gwalkL A tab BE4 18 [false] (f28h28_3b ps n n0 n1 n2 n3 n10 x11 n12) (f28h28_3bm ps n n0 n1 n2 n3 n10 x11 n12) =
  some ([true, A.inR .i64 (A.add n12 1), true, !A.lt n10 n12, true, true, true],
   f28h28_2b (ps) (n) (n0) (n1) (n2) (n3) (x11) (A.add n12 1), f28h28_2bm (ps) (n) (n0) (n1) (n2) (n3) (x11) (A.add n12 1)) := by kernel_rfl
theorem f28p15 (A : Ar) (ps : List AV) (n : Int) (n0 : Int) (n1 : Int) (n2 : Int) (n3 : Int) (x11 : List AV) (n18 : Int) : gwalkL A tab BE4 20 [true] (f28h28_2b ps n n0 n1 n2 n3 x11 n18) (f28h28_2bm ps n n0 n1 n2 n3 x11 n18) =
  some ([true, A.lt n18 (A.int (A.lenA ps)), true, true, true, true],
   f28h28_3b (ps) (n) (n0) (n1) (n2) (n3) (0) (x11) (n18), f28h28_3bm (ps) (n) (n0) (n1) (n2) (n3) (0) (x11) (n18)) := by kernel_rfl
theorem f28p16 (A : Ar) (ps : List AV) (n : Int) (n0 : Int) (n1 : Int) (n2 : Int) (n3 : Int) (x11 : List AV) (n18 : Int) : gwalkL A tab BE4 27 [false] (f28h28_2b ps n n0 n1 n2 n3 x11 n18) (f28h28_2bm ps n n0 n1 n2 n3 x11 n18) =
  some ([true, true, A.and true (A.ltN 0 2), !A.lt n18 (A.int (A.lenA ps)), true, true, true, true],
   f28h28_0b (ps) (n) (n0) (n1) (n2) (n3) (x11) (0) (false) (0) (0), f28h28_0bm (ps) (n) (n0) (n1) (n2) (n3) (x11) (0) (false) (0) (0)) := by kernel_rfl
theorem f28p17 (A : Ar) (ps : List AV) (n : Int) (n0 : Int) (n1 : Int) (n2 : Int) (n3 : Int) (x11 : List AV) (n19 : Int) (b20 : Bool) (n21 : Int) (n22 : Int) : gwalkL A tab BE4 62 [true, true, true, true, true, true, true, true, true, true, true, true, true, true, true] (f28h28_0b ps n n0 n1 n2 n3 x11 n19 b20 n21 n22) (f28h28_0bm ps n n0 n1 n2 n3 x11 n19 b20 n21 n22) =
  some ([true, A.inR .i64 (A.add n19 1), true, true, true, true, true, true, true, true, true, true, true, true, true, true, true, true, true, true, true, true, true, true, true, true, true, true, true, A.lt (cmpI (AV.toI (AV.cellAt (A.nthA x11 (A.nat n19)) 0)) (AV.toI (AV.cellAt (A.nthA x11 (A.nat n19)) 1)) n0 n1) 0, true, true, A.and true (Decidable.decide (((0 < AV.toI (AV.cellAt (A.nthA x11 (A.nat n19)) 1) ∧ 0 < n1) ∧ medB (AV.toI (AV.cellAt (A.nthA x11 (A.nat n19)) 0)) = true ∧ medB (AV.toI (AV.cellAt (A.nthA x11 (A.nat n19)) 1)) = true) ∧ medB n0 = true ∧ medB n1 = true)), A.and (A.ltN 0 1) (A.ltN 1 4), true, true, A.and (A.ltN 0 1) (A.ltN 0 4), true, true, A.and (A.ltN 0 1) (A.ltN 1 2), true, A.and (A.ltN 0 1) (A.ltN 0 2), true, A.and (A.ltN 0 1) (A.eqN 2 2), A.and true (A.ltN 0 2), A.and (A.ltN (A.nat n19) (A.lenA x11)) (A.leN (A.addN 0 2) 2), A.and (A.eqN 2 2) (A.and (A.le 0 n19) (A.ltN (A.nat n19) (A.lenA x11))), true, true, A.lt n19 (A.int (A.lenA x11)), true, true, true, true],
   f28h28_0b (ps) (n) (n0) (n1) (n2) (n3) (x11) (A.add n19 1) (b20) (n21) (n22), f28h28_0bm (ps) (n) (n0) (n1) (n2) (n3) (x11) (A.add n19 1) (b20) (n21) (n22)) := by kernel_rfl
theorem f28p18 (A : Ar) (ps : List AV) (n : Int) (n0 : Int) (n1 : Int) (n2 : Int) (n3 : Int) (x11 : List AV) (n19 : Int) (b20 : Bool) (n21 : Int) (n22 : Int) : gwalkL A tab BE4 62 [true, false, false, false, false, false, false, false, false, false, false, false, false, false, true] (f28h28_0b ps n n0 n1 n2 n3 x11 n19 b20 n21 n22) (f28h28_0bm ps n n0 n1 n2 n3 x11 n19 b20 n21 n22) =
  some ([true, A.inR .i64 (A.add n19 1), true, A.lt 0 (cmpI (AV.toI (AV.cellAt (A.nthA x11 (A.nat n19)) 0)) (AV.toI (AV.cellAt (A.nthA x11 (A.nat n19)) 1)) n2 n3), true, true, true, true, A.and true (Decidable.decide (((0 < AV.toI (AV.cellAt (A.nthA x11 (A.nat n19)) 1) ∧ 0 < n3) ∧ medB (AV.toI (AV.cellAt (A.nthA x11 (A.nat n19)) 0)) = true ∧ medB (AV.toI (AV.cellAt (A.nthA x11 (A.nat n19)) 1)) = true) ∧ medB n2 = true ∧ medB n3 = true)), true, A.and (A.ltN 0 1) (A.ltN 3 4), true, true, true, true, true, A.and (A.ltN 0 1) (A.ltN 2 4), true, true, true, true, true, A.and (A.ltN 0 1) (A.ltN 1 2), true, true, true, A.and (A.ltN 0 1) (A.ltN 0 2), true, true, !A.lt (cmpI (AV.toI (AV.cellAt (A.nthA x11 (A.nat n19)) 0)) (AV.toI (AV.cellAt (A.nthA x11 (A.nat n19)) 1)) n0 n1) 0, true, true, A.and true (Decidable.decide (((0 < AV.toI (AV.cellAt (A.nthA x11 (A.nat n19)) 1) ∧ 0 < n1) ∧ medB (AV.toI (AV.cellAt (A.nthA x11 (A.nat n19)) 0)) = true ∧ medB (AV.toI (AV.cellAt (A.nthA x11 (A.nat n19)) 1)) = true) ∧ medB n0 = true ∧ medB n1 = true)), A.and (A.ltN 0 1) (A.ltN 1 4), true, true, A.and (A.ltN 0 1) (A.ltN 0 4), true, true, A.and (A.ltN 0 1) (A.ltN 1 2), true, A.and (A.ltN 0 1) (A.ltN 0 2), true, A.and (A.ltN 0 1) (A.eqN 2 2), A.and true (A.ltN 0 2), A.and (A.ltN (A.nat n19) (A.lenA x11)) (A.leN (A.addN 0 2) 2), A.and (A.eqN 2 2) (A.and (A.le 0 n19) (A.ltN (A.nat n19) (A.lenA x11))), true, true, A.lt n19 (A.int (A.lenA x11)), true, true, true, true],
   f28h28_0b (ps) (n) (n0) (n1) (n2) (n3) (x11) (A.add n19 1) (b20) (n21) (n22), f28h28_0bm (ps) (n) (n0) (n1) (n2) (n3) (x11) (A.add n19 1) (b20) (n21) (n22)) := by kernel_rfl
theorem f28p19 (A : Ar) (ps : List AV) (n : Int) (n0 : Int) (n1 : Int) (n2 : Int) (n3 : Int) (x11 : List AV) (n19 : Int) (b20 : Bool) (n21 : Int) (n22 : Int) : gwalkL A tab BE4 68 [true, false, false, false, false, false, false, false, false, false, false, false, false, false, false] (f28h28_0b ps n n0 n1 n2 n3 x11 n19 b20 n21 n22) (f28h28_0bm ps n n0 n1 n2 n3 x11 n19 b20 n21 n22) =
  some ([true, true, true, !A.lt 0 (cmpI (AV.toI (AV.cellAt (A.nthA x11 (A.nat n19)) 0)) (AV.toI (AV.cellAt (A.nthA x11 (A.nat n19)) 1)) n2 n3), true, true, true, true, A.and true (Decidable.decide (((0 < AV.toI (AV.cellAt (A.nthA x11 (A.nat n19)) 1) ∧ 0 < n3) ∧ medB (AV.toI (AV.cellAt (A.nthA x11 (A.nat n19)) 0)) = true ∧ medB (AV.toI (AV.cellAt (A.nthA x11 (A.nat n19)) 1)) = true) ∧ medB n2 = true ∧ medB n3 = true)), true, A.and (A.ltN 0 1) (A.ltN 3 4), true, true, true, true, true, A.and (A.ltN 0 1) (A.ltN 2 4), true, true, true, true, true, A.and (A.ltN 0 1) (A.ltN 1 2), true, true, true, A.and (A.ltN 0 1) (A.ltN 0 2), true, true, !A.lt (cmpI (AV.toI (AV.cellAt (A.nthA x11 (A.nat n19)) 0)) (AV.toI (AV.cellAt (A.nthA x11 (A.nat n19)) 1)) n0 n1) 0, true, true, A.and true (Decidable.decide (((0 < AV.toI (AV.cellAt (A.nthA x11 (A.nat n19)) 1) ∧ 0 < n1) ∧ medB (AV.toI (AV.cellAt (A.nthA x11 (A.nat n19)) 0)) = true ∧ medB (AV.toI (AV.cellAt (A.nthA x11 (A.nat n19)) 1)) = true) ∧ medB n0 = true ∧ medB n1 = true)), A.and (A.ltN 0 1) (A.ltN 1 4), true, true, A.and (A.ltN 0 1) (A.ltN 0 4), true, true, A.and (A.ltN 0 1) (A.ltN 1 2), true, A.and (A.ltN 0 1) (A.ltN 0 2), true, A.and (A.ltN 0 1) (A.eqN 2 2), A.and true (A.ltN 0 2), A.and (A.ltN (A.nat n19) (A.lenA x11)) (A.leN (A.addN 0 2) 2), A.and (A.eqN 2 2) (A.and (A.le 0 n19) (A.ltN (A.nat n19) (A.lenA x11))), true, true, A.lt n19 (A.int (A.lenA x11)), true, true, true, true],
   f28h28_1b (ps) (n) (n0) (n1) (n2) (n3) (x11) (n19) (b20) (n21) (n22) (AV.toI (AV.cellAt (A.nthA x11 (A.nat n19)) 0)) (AV.toI (AV.cellAt (A.nthA x11 (A.nat n19)) 1)) (0) (0) (0), f28h28_1bm (ps) (n) (n0) (n1) (n2) (n3) (x11) (n19) (b20) (n21) (n22) (AV.toI (AV.cellAt (A.nthA x11 (A.nat n19)) 0)) (AV.toI (AV.cellAt (A.nthA x11 (A.nat n19)) 1)) (0) (0) (0)) := by kernel_rfl
theorem f28p20 (A : Ar) (ps : List AV) (n : Int) (n0 : Int) (n1 : Int) (n2 : Int) (n3 : Int) (x11 : List AV) (n19 : Int) (b20 : Bool) (n21 : Int) (n22 : Int) : gfin A tab BE4 17 [false] 28 (f28h28_0b ps n n0 n1 n2 n3 x11 n19 b20 n21 n22) (f28h28_0bm ps n n0 n1 n2 n3 x11 n19 b20 n21 n22) =
  some ([A.and (A.and (A.and (A.ltN 0 1) (A.leN (A.addN 0 2) 2)) true) (A.and true true), A.and (A.ltN 0 1) (A.eqN 2 2), A.and (A.ltN 0 1) (A.leN (A.addN 0 2) 2), !A.lt n19 (A.int (A.lenA x11)), true, true, true, true],
   AV.agg (Row.gen [AV.int .i64 n21, AV.int .i64 n22]), none) := by kernel_rfl
theorem f28p21 (A : Ar) (ps : List AV) (n : Int) (n0 : Int) (n1 : Int) (n2 : Int) (n3 : Int) (x11 : List AV) (n19 : Int) (b20 : Bool) (n21 : Int) (n22 : Int) (n23 : Int) (n24 : Int) (n25 : Int) (n26 : Int) (n27 : Int) : gwalkL A tab BE4 50 [true, true] (f28h28_1b ps n n0 n1 n2 n3 x11 n19 b20 n21 n22 n23 n24 n25 n26 n27) (f28h28_1bm ps n n0 n1 n2 n3 x11 n19 b20 n21 n22 n23 n24 n25 n26 n27) =
  some ([true, A.inR .i64 (A.add n27 1), true, true, true, true, true, true, true, true, true, true, true, true, true, A.eq n27 0, true, true, true, true, A.inR .i64 (A.add (A.mul (AV.toI (AV.cellAt (A.nthA ps (A.nat n27)) 2)) n24) (A.mul n23 (A.sub n (AV.toI (AV.cellAt (A.nthA ps (A.nat n27)) 0))))), true, A.inR .i64 (A.mul (AV.toI (AV.cellAt (A.nthA ps (A.nat n27)) 2)) n24), A.and (A.ltN 0 1) (A.ltN 1 2), true, A.ltN 2 3, true, true, A.and (A.and (A.le 0 n27) (A.ltN (A.nat n27) (A.lenA ps))) (A.eqN 3 3), true, true, A.inR .i64 (A.add (A.mul (AV.toI (AV.cellAt (A.nthA ps (A.nat n27)) 1)) n24) (A.mul n23 (A.sub n (AV.toI (AV.cellAt (A.nthA ps (A.nat n27)) 0))))), true, A.inR .i64 (A.mul (AV.toI (AV.cellAt (A.nthA ps (A.nat n27)) 1)) n24), A.and (A.ltN 0 1) (A.ltN 1 2), true, A.ltN 1 3, true, true, A.and (A.and (A.le 0 n27) (A.ltN (A.nat n27) (A.lenA ps))) (A.eqN 3 3), true, true, true, A.inR .i64 (A.mul n23 (A.sub n (AV.toI (AV.cellAt (A.nthA ps (A.nat n27)) 0)))), A.inR .i64 (A.sub n (AV.toI (AV.cellAt (A.nthA ps (A.nat n27)) 0))), A.ltN 0 3, true, A.and (A.and (A.le 0 n27) (A.ltN (A.nat n27) (A.lenA ps))) (A.eqN 3 3), true, true, true, A.and (A.ltN 0 1) (A.ltN 0 2), true, A.lt n27 (A.int (A.lenA ps)), true, true, true, true],
   f28h28_1b (ps) (n) (n0) (n1) (n2) (n3) (x11) (n19) (b20) (n21) (n22) (n23) (n24) (A.max (A.add (A.mul (AV.toI (AV.cellAt (A.nthA ps (A.nat n27)) 1)) n24) (A.mul n23 (A.sub n (AV.toI (AV.cellAt (A.nthA ps (A.nat n27)) 0))))) (A.add (A.mul (AV.toI (AV.cellAt (A.nthA ps (A.nat n27)) 1)) n24) (A.mul n23 (A.sub n (AV.toI (AV.cellAt (A.nthA ps (A.nat n27)) 0)))))) (A.min (A.add (A.mul (AV.toI (AV.cellAt (A.nthA ps (A.nat n27)) 2)) n24) (A.mul n23 (A.sub n (AV.toI (AV.cellAt (A.nthA ps (A.nat n27)) 0))))) (A.add (A.mul (AV.toI (AV.cellAt (A.nthA ps (A.nat n27)) 2)) n24) (A.mul n23 (A.sub n (AV.toI (AV.cellAt (A.nthA ps (A.nat n27)) 0)))))) (A.add n27 1), f28h28_1bm (ps) (n) (n0) (n1) (n2) (n3) (x11) (n19) (b20) (n21) (n22) (n23) (n24) (A.max (A.add (A.mul (AV.toI (AV.cellAt (A.nthA ps (A.nat n27)) 1)) n24) (A.mul n23 (A.sub n (AV.toI (AV.cellAt (A.nthA ps (A.nat n27)) 0))))) (A.add (A.mul (AV.toI (AV.cellAt (A.nthA ps (A.nat n27)) 1)) n24) (A.mul n23 (A.sub n (AV.toI (AV.cellAt (A.nthA ps (A.nat n27)) 0)))))) (A.min (A.add (A.mul (AV.toI (AV.cellAt (A.nthA ps (A.nat n27)) 2)) n24) (A.mul n23 (A.sub n (AV.toI (AV.cellAt (A.nthA ps (A.nat n27)) 0))))) (A.add (A.mul (AV.toI (AV.cellAt (A.nthA ps (A.nat n27)) 2)) n24) (A.mul n23 (A.sub n (AV.toI (AV.cellAt (A.nthA ps (A.nat n27)) 0)))))) (A.add n27 1)) := by kernel_rfl
theorem f28p22 (A : Ar) (ps : List AV) (n : Int) (n0 : Int) (n1 : Int) (n2 : Int) (n3 : Int) (x11 : List AV) (n19 : Int) (b20 : Bool) (n21 : Int) (n22 : Int) (n23 : Int) (n24 : Int) (n25 : Int) (n26 : Int) (n27 : Int) : gwalkL A tab BE4 45 [true, false] (f28h28_1b ps n n0 n1 n2 n3 x11 n19 b20 n21 n22 n23 n24 n25 n26 n27) (f28h28_1bm ps n n0 n1 n2 n3 x11 n19 b20 n21 n22 n23 n24 n25 n26 n27) =
  some ([true, A.inR .i64 (A.add n27 1), true, true, true, true, true, true, true, true, true, !A.eq n27 0, true, true, true, true, A.inR .i64 (A.add (A.mul (AV.toI (AV.cellAt (A.nthA ps (A.nat n27)) 2)) n24) (A.mul n23 (A.sub n (AV.toI (AV.cellAt (A.nthA ps (A.nat n27)) 0))))), true, A.inR .i64 (A.mul (AV.toI (AV.cellAt (A.nthA ps (A.nat n27)) 2)) n24), A.and (A.ltN 0 1) (A.ltN 1 2), true, A.ltN 2 3, true, true, A.and (A.and (A.le 0 n27) (A.ltN (A.nat n27) (A.lenA ps))) (A.eqN 3 3), true, true, A.inR .i64 (A.add (A.mul (AV.toI (AV.cellAt (A.nthA ps (A.nat n27)) 1)) n24) (A.mul n23 (A.sub n (AV.toI (AV.cellAt (A.nthA ps (A.nat n27)) 0))))), true, A.inR .i64 (A.mul (AV.toI (AV.cellAt (A.nthA ps (A.nat n27)) 1)) n24), A.and (A.ltN 0 1) (A.ltN 1 2), true, A.ltN 1 3, true, true, A.and (A.and (A.le 0 n27) (A.ltN (A.nat n27) (A.lenA ps))) (A.eqN 3 3), true, true, true, A.inR .i64 (A.mul n23 (A.sub n (AV.toI (AV.cellAt (A.nthA ps (A.nat n27)) 0)))), A.inR .i64 (A.sub n (AV.toI (AV.cellAt (A.nthA ps (A.nat n27)) 0))), A.ltN 0 3, true, A.and (A.and (A.le 0 n27) (A.ltN (A.nat n27) (A.lenA ps))) (A.eqN 3 3), true, true, true, A.and (A.ltN 0 1) (A.ltN 0 2), true, A.lt n27 (A.int (A.lenA ps)), true, true, true, true],
   f28h28_1b (ps) (n) (n0) (n1) (n2) (n3) (x11) (n19) (b20) (n21) (n22) (n23) (n24) (A.max n25 (A.add (A.mul (AV.toI (AV.cellAt (A.nthA ps (A.nat n27)) 1)) n24) (A.mul n23 (A.sub n (AV.toI (AV.cellAt (A.nthA ps (A.nat n27)) 0)))))) (A.min n26 (A.add (A.mul (AV.toI (AV.cellAt (A.nthA ps (A.nat n27)) 2)) n24) (A.mul n23 (A.sub n (AV.toI (AV.cellAt (A.nthA ps (A.nat n27)) 0)))))) (A.add n27 1), f28h28_1bm (ps) (n) (n0) (n1) (n2) (n3) (x11) (n19) (b20) (n21) (n22) (n23) (n24) (A.max n25 (A.add (A.mul (AV.toI (AV.cellAt (A.nthA ps (A.nat n27)) 1)) n24) (A.mul n23 (A.sub n (AV.toI (AV.cellAt (A.nthA ps (A.nat n27)) 0)))))) (A.min n26 (A.add (A.mul (AV.toI (AV.cellAt (A.nthA ps (A.nat n27)) 2)) n24) (A.mul n23 (A.sub n (AV.toI (AV.cellAt (A.nthA ps (A.nat n27)) 0)))))) (A.add n27 1)) := by kernel_rfl
theorem f28p23 (A : Ar) (ps : List AV) (n : Int) (n0 : Int) (n1 : Int) (n2 : Int) (n3 : Int) (x11 : List AV) (n19 : Int) (b20 : Bool) (n21 : Int) (n22 : Int) (n23 : Int) (n24 : Int) (n25 : Int) (n26 : Int) (n27 : Int) : gwalkL A tab BE4 48 [false, true] (f28h28_1b ps n n0 n1 n2 n3 x11 n19 b20 n21 n22 n23 n24 n25 n26 n27) (f28h28_1bm ps n n0 n1 n2 n3 x11 n19 b20 n21 n22 n23 n24 n25 n26 n27) =
  some ([true, A.inR .i64 (A.add n19 1), true, A.and (A.ltN 0 1) (A.eqN 2 2), A.and (A.and true (A.eqN 1 1)) (A.and (A.leN (A.addN 0 1) 2) (A.and (A.ltN 0 1) (A.and (A.and true (A.eqN 1 1)) (A.and (A.leN (A.addN 1 1) 2) (A.and (A.ltN 0 1) true))))), true, true, A.and (A.ltN 0 1) (A.ltN 1 2), true, true, true, A.and (A.ltN 0 1) (A.ltN 0 2), true, true, A.and (A.ltN 0 1) (A.eqN 2 2), A.and (A.and true (A.eqN 1 1)) (A.and (A.leN (A.addN 0 1) 2) (A.and (A.ltN 0 1) (A.and (A.and true (A.eqN 1 1)) (A.and (A.leN (A.addN 1 1) 2) (A.and (A.ltN 0 1) true))))), true, true, A.not b20, true, true, true, true, A.and true (Decidable.decide ((0 < n24 ∧ bigB n24 = true) ∧ -4000000000000000000 ≤ n26 ∧ n26 ≤ 4000000000000000000)), A.and (A.ltN 0 1) (A.ltN 1 2), true, true, A.and true (Decidable.decide ((0 < n24 ∧ bigB n24 = true) ∧ bigB n25 = true)), A.and (A.ltN 0 1) (A.ltN 1 2), true, true, !A.lt n27 (A.int (A.lenA ps)), true, true, true, true],
   f28h28_0b (ps) (n) (n0) (n1) (n2) (n3) (x11) (A.add n19 1) (true) (A.min (floorI n25 n24) (floorI n25 n24)) (A.max (ceilI n26 n24) (ceilI n26 n24)), f28h28_0bm (ps) (n) (n0) (n1) (n2) (n3) (x11) (A.add n19 1) (true) (A.min (floorI n25 n24) (floorI n25 n24)) (A.max (ceilI n26 n24) (ceilI n26 n24))) := by kernel_rfl
theorem f28p24 (A : Ar) (ps : List AV) (n : Int) (n0 : Int) (n1 : Int) (n2 : Int) (n3 : Int) (x11 : List AV) (n19 : Int) (b20 : Bool) (n21 : Int) (n22 : Int) (n23 : Int) (n24 : Int) (n25 : Int) (n26 : Int) (n27 : Int) : gwalkL A tab BE4 42 [false, false] (f28h28_1b ps n n0 n1 n2 n3 x11 n19 b20 n21 n22 n23 n24 n25 n26 n27) (f28h28_1bm ps n n0 n1 n2 n3 x11 n19 b20 n21 n22 n23 n24 n25 n26 n27) =
  some ([true, A.inR .i64 (A.add n19 1), true, A.and (A.ltN 0 1) (A.eqN 2 2), A.and (A.and true (A.eqN 1 1)) (A.and (A.leN (A.addN 0 1) 2) (A.and (A.ltN 0 1) (A.and (A.and true (A.eqN 1 1)) (A.and (A.leN (A.addN 1 1) 2) (A.and (A.ltN 0 1) true))))), true, true, A.and (A.ltN 0 1) (A.ltN 1 2), true, true, true, A.and (A.ltN 0 1) (A.ltN 0 2), true, !A.not b20, true, true, true, true, A.and true (Decidable.decide ((0 < n24 ∧ bigB n24 = true) ∧ -4000000000000000000 ≤ n26 ∧ n26 ≤ 4000000000000000000)), A.and (A.ltN 0 1) (A.ltN 1 2), true, true, A.and true (Decidable.decide ((0 < n24 ∧ bigB n24 = true) ∧ bigB n25 = true)), A.and (A.ltN 0 1) (A.ltN 1 2), true, true, !A.lt n27 (A.int (A.lenA ps)), true, true, true, true],
   f28h28_0b (ps) (n) (n0) (n1) (n2) (n3) (x11) (A.add n19 1) (b20) (A.min n21 (floorI n25 n24)) (A.max n22 (ceilI n26 n24)), f28h28_0bm (ps) (n) (n0) (n1) (n2) (n3) (x11) (A.add n19 1) (b20) (A.min n21 (floorI n25 n24)) (A.max n22 (ceilI n26 n24))) := by kernel_rfl
end Go.Proofs.Ytjhdnpmojhkbjaa
/- Contracts as a list. No condition. -/
namespace Go.Proofs.Ytjhdnpmojhkbjaa
/-! ### Times, the reference -/
def frA (n d : Int) : AV := .agg (.gen [.int .i64 n, .int .i64 d])
def candI (q : AV) : List AV → List AV
  | [] => []
  | p :: l => frA (lN (pL q - pL p) (pC q - pC p)) (lD (pL q - pL p) (pC q - pC p)) :: frA (lN (pH q - pH p) (pC q - pC p)) (lD (pH q - pH p) (pC q - pC p)) :: candI q l
def candO (ps : List AV) : Nat → Nat → List AV
  | 0, _ => []
  | t + 1, i => candI (ps.getD i (.int .i64 0)) (ps.take i) ++ candO ps t (i + 1)
def xN (x : AV) : Int := (x.cellAt 0).toI
def xD (x : AV) : Int := (x.cellAt 1).toI
def frmX (num den n : Int) (p : AV) : Int := pL p * den + num * (n - pC p)
def tooX (num den n : Int) (p : AV) : Int := pH p * den + num * (n - pC p)
def lhF (num den n : Int) : List AV → Int × Int → Int × Int
  | [], s => s
  | p :: l, s => lhF num den n l (max s.1 (frmX num den n p), min s.2 (tooX num den n p))
def lhS (num den n : Int) : List AV → Int × Int
  | [] => (0, 0)
  | p :: l => lhF num den n l (frmX num den n p, tooX num den n p)
def stpR (ps : List AV) (n : Int) (r : R4) (x : AV) (s : T3) : T3 :=
  if cmpI (xN x) (xD x) r.1 r.2.1 < 0 then s
  else if 0 < cmpI (xN x) (xD x) r.2.2.1 r.2.2.2 then s
  else if s.2.2 = true then (min s.1 (floorI (lhS (xN x) (xD x) n ps).1 (xD x)), max s.2.1 (ceilI (lhS (xN x) (xD x) n ps).2 (xD x)), true)
  else (floorI (lhS (xN x) (xD x) n ps).1 (xD x), ceilI (lhS (xN x) (xD x) n ps).2 (xD x), true)
def runR (ps : List AV) (n : Int) (r : R4) : List AV → T3 → T3
  | [], s => s
  | x :: l, s => runR ps n r l (stpR ps n r x s)
def ratsR (ps : List AV) : List AV := frA (rateP ps).1 (rateP ps).2.1 :: frA (rateP ps).2.2.1 (rateP ps).2.2.2 :: candO ps (ps.length - 1) 1
def tmR (ps : List AV) (n : Int) : T3 := runR ps n (rateP ps) (ratsR ps) (0, 0, false)
def frG (x : AV) : Prop := (-1000000000000 ≤ xN x ∧ xN x ≤ 1000000000000) ∧ 0 < xD x ∧ xD x ≤ 1000000
theorem low_frG {a d : Int} (ha : -1000000000000 ≤ a ∧ a ≤ 1000000000000) (hd : 0 < d ∧ d ≤ 1000000) : frG (frA (lN a d) (lD a d)) := by
  have h := low_rng a hd.1
  show (-1000000000000 ≤ lN a d ∧ lN a d ≤ 1000000000000) ∧ 0 < lD a d ∧ lD a d ≤ 1000000
  omega
theorem candI_G {q : AV} (hq : okP (pC q) (pL q) (pH q) = true) : ∀ {l : List AV}, (∀ p ∈ l, okP (pC p) (pL p) (pH p) = true ∧ pC p < pC q) → ∀ x ∈ candI q l, frG x
  | [], _, x, hx => absurd hx List.not_mem_nil
  | p :: l, h, x, hx => by
    have hp := h p List.mem_cons_self
    have ih := candI_G hq (l := l) (fun p hp => h p (List.mem_cons_of_mem _ hp))
    simp only [okP, decide_eq_true_eq] at hq hp
    rw [candI, List.mem_cons, List.mem_cons] at hx
    rcases hx with rfl | rfl | hx
    · exact low_frG (by omega) (by omega)
    · exact low_frG (by omega) (by omega)
    · exact ih x hx
def ascP (ps : List AV) : Prop := (∀ p ∈ ps, okP (pC p) (pL p) (pH p) = true) ∧ ps.Pairwise (fun p q => pC p < pC q)
theorem asc_take {ps : List AV} (h : ascP ps) {i : Nat} (hi : i < ps.length) : ∀ p ∈ ps.take i, okP (pC p) (pL p) (pH p) = true ∧ pC p < pC ps[i] := fun p hpm => by
  obtain ⟨j, hj, rfl⟩ := List.mem_take_iff_getElem.1 hpm
  exact ⟨h.1 _ (by simp), List.pairwise_iff_getElem.1 h.2 j i (by omega) hi (by omega)⟩
theorem candO_G {ps : List AV} (h : ascP ps) : ∀ (t i : Nat), i + t = ps.length → ∀ x ∈ candO ps t i, frG x
  | 0, _, _, x, hx => absurd hx List.not_mem_nil
  | t + 1, i, hi, x, hx => by
    have hlt : i < ps.length := by omega
    have e : ps.getD i (.int .i64 0) = ps[i] := by simp [hlt]
    rw [candO, e, List.mem_append] at hx
    rcases hx with hx | hx
    · exact candI_G (h.1 _ (by simp)) (asc_take h hlt) x hx
    · exact candO_G h t (i + 1) (by omega) x hx
theorem lh_rng {num den n : Int} (hx : (-1000000000000 ≤ num ∧ num ≤ 1000000000000) ∧ 0 < den ∧ den ≤ 1000000) (hn : 0 ≤ n ∧ n ≤ 1000000) {p : AV} (hp : okP (pC p) (pL p) (pH p) = true) : (-2000000000000000000 ≤ frmX num den n p ∧ frmX num den n p ≤ 2000000000000000000) ∧ (-2000000000000000000 ≤ tooX num den n p ∧ tooX num den n p ≤ 2000000000000000000) ∧ (-1000000000000000000 ≤ pL p * den ∧ pL p * den ≤ 1000000000000000000) ∧ (-1000000000000000000 ≤ pH p * den ∧ pH p * den ≤ 1000000000000000000) ∧ (-1000000000000000000 ≤ num * (n - pC p) ∧ num * (n - pC p) ≤ 1000000000000000000) := by
  simp only [okP, decide_eq_true_eq] at hp
  have h1 := mulB (x := pL p) (y := den) (A := 1000000000000) (B := 1000000) (by omega) (by omega) (by omega) (by omega)
  have h2 := mulB (x := pH p) (y := den) (A := 1000000000000) (B := 1000000) (by omega) (by omega) (by omega) (by omega)
  have h3 := mulB (x := num) (y := n - pC p) (A := 1000000000000) (B := 1000000) (by omega) (by omega) (by omega) (by omega)
  unfold frmX tooX
  omega
theorem t28_1 {C : Ctx} (hC : C.P = Try.prog) (ps : List AV) (n : Int) (n0 n1 n2 n3 : Int) (x11 : List AV) (n19 : Int) (b20 : Bool) (n21 n22 num den : Int) (hl : ps.length ≤ 1000) (hx : (-1000000000000 ≤ num ∧ num ≤ 1000000000000) ∧ 0 < den ∧ den ≤ 1000000) (hn : 0 ≤ n ∧ n ≤ 1000000) (hps : ∀ p ∈ ps, okP (pC p) (pL p) (pH p) = true) (R : List AFrame → AHeap → Prop) (s2 : Int × Int)
    (h : Ev C (f28h28_1b ps n n0 n1 n2 n3 x11 n19 b20 n21 n22 num den s2.1 s2.2 ps.length) (f28h28_1bm ps n n0 n1 n2 n3 x11 n19 b20 n21 n22 num den s2.1 s2.2 ps.length) R) : ∀ (t i : Nat) (s : Int × Int), 0 < i → i + t = ps.length → lhF num den n (ps.drop i) s = s2 →
    Ev C (f28h28_1b ps n n0 n1 n2 n3 x11 n19 b20 n21 n22 num den s.1 s.2 i) (f28h28_1bm ps n n0 n1 n2 n3 x11 n19 b20 n21 n22 num den s.1 s.2 i) R := by
  intro t
  induction t with
  | zero =>
    intro i s h0 hi hs
    rw [List.drop_of_length_le (by omega), lhF] at hs
    have : i = ps.length := by omega
    subst this; subst hs; exact h
  | succ t ih =>
    intro i s h0 hi hs
    have hlt : i < ps.length := by omega
    rw [List.drop_eq_getElem_cons hlt, lhF] at hs
    have e1 : std.nthA ps (std.nat (i : Int)) = ps[i] := by simp [hlt]
    have g0 : (ps[i].cellAt 0).toI = pC ps[i] := rfl
    have g1 : (ps[i].cellAt 1).toI = pL ps[i] := rfl
    have g2 : (ps[i].cellAt 2).toI = pH ps[i] := rfl
    have hp := hps ps[i] (by simp)
    have hr := lh_rng hx hn hp
    simp only [okP, decide_eq_true_eq] at hp
    unfold frmX tooX at hr
    have ih' := ih (i + 1) _ (by omega) (by omega) hs
    have hi0 : ¬ (i : Int) = 0 := by omega
    refine go hC BE4_ok (f28p22 std ps n n0 n1 n2 n3 x11 n19 b20 n21 n22 num den s.1 s.2 i) ?_ ?_
    · simp only [e1, g0, g1, g2]; simp [hlt, hi0]; omega
    · simp only [e1, g0, g1, g2]; simpa [frmX, tooX] using ih'
theorem lhF_rng {num den n : Int} (hx : (-1000000000000 ≤ num ∧ num ≤ 1000000000000) ∧ 0 < den ∧ den ≤ 1000000) (hn : 0 ≤ n ∧ n ≤ 1000000) : ∀ {ps : List AV} {s : Int × Int}, (∀ p ∈ ps, okP (pC p) (pL p) (pH p) = true) → (-2000000000000000000 ≤ s.1 ∧ s.1 ≤ 2000000000000000000) ∧ (-2000000000000000000 ≤ s.2 ∧ s.2 ≤ 2000000000000000000) → (-2000000000000000000 ≤ (lhF num den n ps s).1 ∧ (lhF num den n ps s).1 ≤ 2000000000000000000) ∧ (-2000000000000000000 ≤ (lhF num den n ps s).2 ∧ (lhF num den n ps s).2 ≤ 2000000000000000000)
  | [], s, _, h => h
  | p :: l, s, hp, h => by
    have hr := lh_rng hx hn (hp p List.mem_cons_self)
    rw [lhF]
    exact lhF_rng hx hn (fun q hq => hp q (List.mem_cons_of_mem _ hq)) (by simp only; omega)
theorem u28_0 {C : Ctx} (hC : C.P = Try.prog) (ps : List AV) (n : Int) (n0 n1 n2 n3 : Int) (x11 : List AV) (i : Nat) (s : T3) (hi : i < x11.length) (hxl : x11.length ≤ 100000) (hl : 0 < ps.length ∧ ps.length ≤ 1000) (hr : sR (n0, n1, n2, n3)) (hx : frG x11[i]) (hn : 0 ≤ n ∧ n ≤ 1000000) (hps : ∀ p ∈ ps, okP (pC p) (pL p) (pH p) = true) (R : List AFrame → AHeap → Prop) (s2 : T3) (hs2 : stpR ps n (n0, n1, n2, n3) x11[i] s = s2)
    (h : Ev C (f28h28_0b ps n n0 n1 n2 n3 x11 ((i + 1 : Nat) : Int) s2.2.2 s2.1 s2.2.1) (f28h28_0bm ps n n0 n1 n2 n3 x11 ((i + 1 : Nat) : Int) s2.2.2 s2.1 s2.2.1) R) :
    Ev C (f28h28_0b ps n n0 n1 n2 n3 x11 i s.2.2 s.1 s.2.1) (f28h28_0bm ps n n0 n1 n2 n3 x11 i s.2.2 s.1 s.2.1) R := by
  obtain ⟨lo, hi', some⟩ := s
  have e1 : std.nthA x11 (std.nat (i : Int)) = x11[i] := by simp [hi]
  have g0 : (x11[i].cellAt 0).toI = xN x11[i] := rfl
  have g1 : (x11[i].cellAt 1).toI = xD x11[i] := rfl
  unfold stpR at hs2
  generalize x11[i] = x at *
  obtain ⟨hx1, hx2⟩ := hx
  obtain ⟨⟨r1, r2⟩, r3, r4⟩ := hr
  simp only at r1 r2 r3 r4 hs2
  have c1 : ((0 < xD x ∧ 0 < n1) ∧ medB (xN x) = true ∧ medB (xD x) = true) ∧ medB n0 = true ∧ medB n1 = true := by
    simp only [medB, decide_eq_true_eq]; omega
  have c2 : ((0 < xD x ∧ 0 < n3) ∧ medB (xN x) = true ∧ medB (xD x) = true) ∧ medB n2 = true ∧ medB n3 = true := by
    simp only [medB, decide_eq_true_eq]; omega
  by_cases h1 : cmpI (xN x) (xD x) n0 n1 < 0
  · rw [if_pos h1] at hs2
    subst hs2
    refine go hC BE4_ok (f28p17 std ps n n0 n1 n2 n3 x11 i some lo hi') ?_ (by simpa using h)
    simp only [e1, g0, g1, decide_eq_true c1]; simp [hi, h1] <;> omega
  · rw [if_neg h1] at hs2
    by_cases h2 : 0 < cmpI (xN x) (xD x) n2 n3
    · rw [if_pos h2] at hs2
      subst hs2
      refine go hC BE4_ok (f28p18 std ps n n0 n1 n2 n3 x11 i some lo hi') ?_ (by simpa using h)
      simp only [e1, g0, g1, decide_eq_true c1, decide_eq_true c2]; simp [hi, h1, h2] <;> omega
    · rw [if_neg h2] at hs2
      refine go hC BE4_ok (f28p19 std ps n n0 n1 n2 n3 x11 i some lo hi') (by simp only [e1, g0, g1, decide_eq_true c1, decide_eq_true c2]; simp [hi, h1, h2] <;> omega) ?_
      simp only [e1, g0, g1]
      generalize xN x = num at *
      generalize xD x = den at *
      cases ps with
      | nil => simp at hl
      | cons p l =>
        have hp := hps p List.mem_cons_self
        have hpr := lh_rng (num := num) (den := den) ⟨hx1, hx2⟩ hn hp
        have hlr := lhF_rng (num := num) (den := den) ⟨hx1, hx2⟩ hn (ps := l) (s := (frmX num den n p, tooX num den n p)) (fun q hq => hps q (List.mem_cons_of_mem _ hq)) ⟨hpr.1, hpr.2.1⟩
        have f1 := floor_rng (m := (lhF num den n l (frmX num den n p, tooX num den n p)).1) (d := den) (by omega) hx2.1
        have f2 := floor_rng (m := -(lhF num den n l (frmX num den n p, tooX num den n p)).2) (d := den) (by omega) hx2.1
        have k1 : (0 < den ∧ bigB den = true) ∧ bigB (lhF num den n l (frmX num den n p, tooX num den n p)).1 = true := by simp only [bigB, decide_eq_true_eq]; omega
        have k2 : (0 < den ∧ bigB den = true) ∧ -4000000000000000000 ≤ (lhF num den n l (frmX num den n p, tooX num den n p)).2 ∧ (lhF num den n l (frmX num den n p, tooX num den n p)).2 ≤ 4000000000000000000 := by simp only [bigB, decide_eq_true_eq]; omega
        rw [lhS] at hs2
        have last : Ev C (f28h28_1b (p :: l) n n0 n1 n2 n3 x11 i some lo hi' num den (lhF num den n l (frmX num den n p, tooX num den n p)).1 (lhF num den n l (frmX num den n p, tooX num den n p)).2 (p :: l).length) (f28h28_1bm (p :: l) n n0 n1 n2 n3 x11 i some lo hi' num den (lhF num den n l (frmX num den n p, tooX num den n p)).1 (lhF num den n l (frmX num den n p, tooX num den n p)).2 (p :: l).length) R := by
          generalize lhF num den n l (frmX num den n p, tooX num den n p) = z at *
          cases some with
          | true =>
            simp only [if_pos] at hs2
            subst hs2
            exact go hC BE4_ok (f28p24 std (p :: l) n n0 n1 n2 n3 x11 i true lo hi' num den z.1 z.2 _) (by simp only [decide_eq_true k1, decide_eq_true k2]; simp; omega) (by simpa using h)
          | false =>
            simp only [Bool.false_eq_true, if_false] at hs2
            subst hs2
            exact go hC BE4_ok (f28p23 std (p :: l) n n0 n1 n2 n3 x11 i false lo hi' num den z.1 z.2 _) (by simp only [decide_eq_true k1, decide_eq_true k2]; simp; omega) (by simpa using h)
        have q := t28_1 hC (p :: l) n n0 n1 n2 n3 x11 i some lo hi' num den (by simpa using hl.2) ⟨hx1, hx2⟩ hn hps R _ last l.length 1 (frmX num den n p, tooX num den n p) (by omega) (by simp; omega) rfl
        have e2 : std.nthA (p :: l) (std.nat 0) = p := by simp
        have g3 : (p.cellAt 0).toI = pC p := rfl
        have g4 : (p.cellAt 1).toI = pL p := rfl
        have g5 : (p.cellAt 2).toI = pH p := rfl
        simp only [okP, decide_eq_true_eq] at hp
        unfold frmX tooX at hpr
        refine go hC BE4_ok (f28p21 std (p :: l) n n0 n1 n2 n3 x11 i some lo hi' num den 0 0 0) ?_ ?_
        · simp only [e2, g3, g4, g5]; simp; omega
        · simp only [e2, g3, g4, g5]; simpa [frmX, tooX] using q
theorem t28_0 {C : Ctx} (hC : C.P = Try.prog) (ps : List AV) (n : Int) (n0 n1 n2 n3 : Int) (x11 : List AV) (hxl : x11.length ≤ 100000) (hl : 0 < ps.length ∧ ps.length ≤ 1000) (hr : sR (n0, n1, n2, n3)) (hx : ∀ x ∈ x11, frG x) (hn : 0 ≤ n ∧ n ≤ 1000000) (hps : ∀ p ∈ ps, okP (pC p) (pL p) (pH p) = true) (s2 : T3) : ∀ (t i : Nat) (s : T3), i + t = x11.length → runR ps n (n0, n1, n2, n3) (x11.drop i) s = s2 →
    Ev C (f28h28_0b ps n n0 n1 n2 n3 x11 i s.2.2 s.1 s.2.1) (f28h28_0bm ps n n0 n1 n2 n3 x11 i s.2.2 s.1 s.2.1) (FinQ 28 (.agg (.gen [.int .i64 s2.1, .int .i64 s2.2.1])) none) := by
  intro t
  induction t with
  | zero =>
    intro i s hi hs
    rw [List.drop_of_length_le (by omega), runR] at hs
    subst hs
    exact fin hC BE4_ok (f28p20 std ps n n0 n1 n2 n3 x11 i s.2.2 s.1 s.2.1) (by simp; omega) rfl rfl
  | succ t ih =>
    intro i s hi hs
    have hlt : i < x11.length := by omega
    rw [List.drop_eq_getElem_cons hlt, runR] at hs
    exact u28_0 hC ps n n0 n1 n2 n3 x11 i s hlt hxl hl hr (hx _ (by simp)) hn hps _ _ rfl (ih (i + 1) _ (by omega) hs)
theorem t28_3 {C : Ctx} (hC : C.P = Try.prog) (ps : List AV) (n : Int) (n0 n1 n2 n3 : Int) (i : Nat) (q : AV) (hi : i < ps.length) (hq0 : ps[i] = q) (hl : ps.length ≤ 20) (hq : okP (pC q) (pL q) (pH q) = true) (hpi : ∀ p ∈ ps.take i, okP (pC p) (pL p) (pH p) = true ∧ pC p < pC q) (R : List AFrame → AHeap → Prop) (x2 : List AV)
    (h : Ev C (f28h28_2b ps n n0 n1 n2 n3 x2 ((i + 1 : Nat) : Int)) (f28h28_2bm ps n n0 n1 n2 n3 x2 ((i + 1 : Nat) : Int)) R) : ∀ (t k : Nat) (x : List AV), k + t = i → x.length ≤ 100000 + 2 * k → x ++ candI q ((ps.take i).drop k) = x2 →
    Ev C (f28h28_3b ps n n0 n1 n2 n3 k x i) (f28h28_3bm ps n n0 n1 n2 n3 k x i) R := by
  intro t
  induction t with
  | zero =>
    intro k x hk hxl hx
    rw [List.drop_of_length_le (by rw [List.length_take]; omega), candI, List.append_nil] at hx
    have : k = i := by omega
    subst this; subst hx
    exact go hC BE4_ok (f28p10 std ps n n0 n1 n2 n3 k x k) (by simp; omega) (by simpa using h)
  | succ t ih =>
    intro k x hk hxl hx
    have hlt : k < (ps.take i).length := by rw [List.length_take]; omega
    have e0 : (ps.take i)[k] = ps[k]'(by omega) := by simp
    have hp := hpi (ps.take i)[k] (List.getElem_mem hlt)
    rw [List.drop_eq_getElem_cons hlt, e0, candI, List.append_cons, List.append_cons] at hx
    rw [e0] at hp
    have e1 : std.nthA ps (std.nat (k : Int)) = ps[k]'(by omega) := by simp [show k < ps.length by omega]
    have e2 : std.nthA ps (std.nat (i : Int)) = q := by rw [← hq0]; simp [hi]
    generalize hpk : ps[k]'(by omega) = p at *
    have g0 : (p.cellAt 0).toI = pC p := rfl
    have g1 : (p.cellAt 1).toI = pL p := rfl
    have g2 : (p.cellAt 2).toI = pH p := rfl
    have g3 : (q.cellAt 0).toI = pC q := rfl
    have g4 : (q.cellAt 1).toI = pL q := rfl
    have g5 : (q.cellAt 2).toI = pH q := rfl
    have ih' := ih (k + 1) _ (by omega) (by simp; omega) hx
    simp only [okP, decide_eq_true_eq] at hq hp
    have k1 : bigB (pL q - pL p) = true ∧ 0 < pC q - pC p ∧ bigB (pC q - pC p) = true := by simp only [bigB, decide_eq_true_eq]; omega
    have k2 : bigB (pH q - pH p) = true ∧ 0 < pC q - pC p ∧ bigB (pC q - pC p) = true := by simp only [bigB, decide_eq_true_eq]; omega
    refine go hC BE4_ok (f28p9 std ps n n0 n1 n2 n3 k x i) ?_ ?_
    · simp only [e1, e2, g0, g1, g2, g3, g4, g5, s_sub, decide_eq_true k1, decide_eq_true k2]; simp [AV.bx, flatLen, Row.len]; omega
    · simp only [e1, e2, g0, g1, g2, g3, g4, g5, s_sub]; simpa [frA] using ih'
theorem candI_len (q : AV) : ∀ l : List AV, (candI q l).length = 2 * l.length
  | [] => rfl
  | p :: l => by simp only [candI, List.length_cons, candI_len q l]; omega
theorem t28_2 {C : Ctx} (hC : C.P = Try.prog) (ps : List AV) (n : Int) (n0 n1 n2 n3 : Int) (hl : ps.length ≤ 20) (ha : ascP ps) (R : List AFrame → AHeap → Prop) (x2 : List AV) (hx2 : x2.length ≤ 100000)
    (h : Ev C (f28h28_2b ps n n0 n1 n2 n3 x2 ps.length) (f28h28_2bm ps n n0 n1 n2 n3 x2 ps.length) R) : ∀ (t i : Nat) (x : List AV), i + t = ps.length → x ++ candO ps t i = x2 →
    Ev C (f28h28_2b ps n n0 n1 n2 n3 x i) (f28h28_2bm ps n n0 n1 n2 n3 x i) R := by
  intro t
  induction t with
  | zero =>
    intro i x hi hx
    rw [candO, List.append_nil] at hx
    have : i = ps.length := by omega
    subst this; subst hx; exact h
  | succ t ih =>
    intro i x hi hx
    have hlt : i < ps.length := by omega
    have e : ps.getD i (.int .i64 0) = ps[i] := by simp [hlt]
    rw [candO, e, ← List.append_assoc] at hx
    have hxl : x.length ≤ 100000 := by have := congrArg List.length hx; simp at this; omega
    have ih' := ih (i + 1) _ (by omega) hx
    refine go hC BE4_ok (f28p15 std ps n n0 n1 n2 n3 x i) (by simp; omega) ?_
    have q := t28_3 hC ps n n0 n1 n2 n3 i ps[i] hlt rfl hl (ha.1 _ (by simp)) (asc_take ha hlt) R _ ih' i 0 x (by omega) (by omega) rfl
    simpa using q
theorem candO_len (ps : List AV) (hl : ps.length ≤ 20) : ∀ t i, (candO ps t i).length ≤ 40 * t
  | 0, _ => by simp [candO]
  | t + 1, i => by
    have := candO_len ps hl t (i + 1)
    rw [candO, List.length_append, candI_len, List.length_take]; omega
theorem time28_ok (ps : List AV) (n : Int) (h : lnE ps = 0 ∧ 0 ≤ n ∧ n ≤ 1000000) : Pure Try.prog 28 [.list (.big (.agg [.int .i64, .int .i64, .int .i64]) ps), .int .i64 n] (.agg (.gen [.int .i64 (tmR ps n).1, .int .i64 (tmR ps n).2.1])) none :=
  start (f28e_at ps n) fun C hC => by
    obtain ⟨hc, hl2, _⟩ := lnE_ok h.1
    have ha : ascP ps := chkP_all hc
    obtain ⟨_, hl, hq⟩ := chkP_ok hc
    have hg := allQ_good hq hl2 (by omega)
    have hr := rateP_sR hg
    have hcl := candO_len ps hl (ps.length - 1) 1
    have hlt : 1 < ps.length := by omega
    have hsp : candO ps (ps.length - 1) 1 = candI ps[1] (ps.take 1) ++ candO ps (ps.length - 2) 2 := by
      rw [show ps.length - 1 = (ps.length - 2) + 1 by omega, candO]; simp [hlt]
    have hrat : ratsR ps = frA (rateP ps).1 (rateP ps).2.1 :: frA (rateP ps).2.2.1 (rateP ps).2.2.2 :: (candI ps[1] (ps.take 1) ++ candO ps (ps.length - 2) 2) := by rw [ratsR, hsp]
    have hG : ∀ x ∈ ratsR ps, frG x := by
      intro x hx
      rw [ratsR, List.mem_cons, List.mem_cons] at hx
      rcases hx with rfl | rfl | hx
      · exact ⟨hr.1.1, hr.1.2⟩
      · exact ⟨hr.2.1, hr.2.2⟩
      · exact candO_G ha _ _ (by omega) x hx
    have hrl : (ratsR ps).length ≤ 100000 := by rw [ratsR, List.length_cons, List.length_cons]; omega
    have ht1 : ps.take 1 = [ps[0]] := by rw [List.take_one, List.head?_eq_getElem?]; simp [show 0 < ps.length by omega]
    have tmR' : tmR ps n = runR ps n (rateP ps) (ratsR ps) (0, 0, false) := rfl
    refine go hC BE4_ok (f28p0 std ps n) (by simp [hg, AV.bx, flatLen, Row.len]) ?_
    obtain ⟨⟨n0, n1, n2, n3⟩, hrr⟩ : ∃ r, r = rateP ps := ⟨_, rfl⟩
    rw [← hrr] at hr hrat tmR' ⊢
    refine go hC BE4_ok (f28p1 std ps n n0 n1 n2 n3 _ 0) (by simp; omega) ?_
    refine go hC BE4_ok (f28p4 std ps n n0 n1 n2 n3 _ 0) (by simp) ?_
    refine go hC BE4_ok (f28p1 std ps n n0 n1 n2 n3 _ _) (by simp; omega) ?_
    have fin1 := t28_0 hC ps n n0 n1 n2 n3 (ratsR ps) hrl ⟨by omega, by omega⟩ hr hG h.2 ha.1 (tmR ps n) (ratsR ps).length 0 (0, 0, false) (by omega) tmR'.symm
    have fin2 := t28_2 hC ps n n0 n1 n2 n3 hl ha _ (ratsR ps) hrl (go hC BE4_ok (f28p16 std ps n n0 n1 n2 n3 (ratsR ps) _) (by simp) (by simpa using fin1)) (ps.length - 2) 2 (frA n0 n1 :: frA n2 n3 :: candI ps[1] (ps.take 1)) (by omega) (by rw [hrat]; simp)
    have fin3 := t28_3 hC ps n n0 n1 n2 n3 1 ps[1] hlt rfl hl (ha.1 _ (by simp)) (asc_take ha hlt) _ _ fin2 0 1 (frA n0 n1 :: frA n2 n3 :: candI ps[1] (ps.take 1)) (by omega) (by simp [candI_len]; omega) (by rw [ht1]; simp [candI])
    rw [ht1] at fin3
    have hp1 := asc_take ha hlt ps[0] (by rw [ht1]; simp)
    have hq1 := ha.1 ps[1] (by simp)
    have e1 : std.nthA ps (std.nat (std.add 0 1)) = ps[1] := by simp [hlt]
    have e2 : std.nthA ps (std.nat 0) = ps[0] := by simp [show 0 < ps.length by omega]
    generalize ps[0] = p at *
    generalize ps[1] = q at *
    have g0 : (p.cellAt 0).toI = pC p := rfl
    have g1 : (p.cellAt 1).toI = pL p := rfl
    have g2 : (p.cellAt 2).toI = pH p := rfl
    have g3 : (q.cellAt 0).toI = pC q := rfl
    have g4 : (q.cellAt 1).toI = pL q := rfl
    have g5 : (q.cellAt 2).toI = pH q := rfl
    simp only [okP, decide_eq_true_eq] at hq1 hp1
    have k1 : bigB (pL q - pL p) = true ∧ 0 < pC q - pC p ∧ bigB (pC q - pC p) = true := by simp only [bigB, decide_eq_true_eq]; omega
    have k2 : bigB (pH q - pH p) = true ∧ 0 < pC q - pC p ∧ bigB (pC q - pC p) = true := by simp only [bigB, decide_eq_true_eq]; omega
    refine go hC BE4_ok (f28p3 std ps n n0 n1 n2 n3 _ _) ?_ ?_
    · simp only [e1, e2, g0, g1, g2, g3, g4, g5, s_sub, decide_eq_true k1, decide_eq_true k2]; simp [AV.bx, flatLen, Row.len]; omega
    · simp only [e1, e2, g0, g1, g2, g3, g4, g5, s_sub]; simpa [frA, candI] using fin3
def k28 : Ctr := ⟨28, 0, fun _ a => match a with | [.list (.big (.agg [.int .i64, .int .i64, .int .i64]) ps), .int .i64 n] => some (decide (lnE ps = 0 ∧ 0 ≤ n ∧ n ≤ 1000000), .agg (.gen [.int .i64 (tmR ps n).1, .int .i64 (tmR ps n).2.1]), none) | _ => none⟩
theorem k28_ok : k28.OK Try.prog := fun pa args r fr h => by
  simp only [k28] at h
  split at h
  · simp only [Option.some.injEq, Prod.mk.injEq, decide_eq_true_eq] at h
    obtain ⟨h0, rfl, rfl⟩ := h
    exact time28_ok _ _ h0
  · cases h
def BE5 : List Ctr := [k28] ++ BE4
theorem BE5_ok : CtrsOK Try.prog BE5 := ⟨k28_ok, BE4_ok⟩
end Go.Proofs.Ytjhdnpmojhkbjaa
/- Lines in the plane, in fractions: where the least time is reached. No condition. -/
namespace Go.Proofs.Ytjhdnpmojhkbjaa
theorem exMax {α : Type} (f : α → Rat) : ∀ (l : List α), l ≠ [] → ∃ m ∈ l, ∀ x ∈ l, f x ≤ f m
  | [], h => absurd rfl h
  | [a], _ => ⟨a, by simp, fun x hx => by rw [List.mem_singleton] at hx; subst hx; exact Rat.le_refl⟩
  | a :: b :: l, _ => by
    obtain ⟨m, hm, h⟩ := exMax f (b :: l) (by simp)
    by_cases hab : f m ≤ f a
    · refine ⟨a, by simp, fun x hx => ?_⟩
      rcases List.mem_cons.1 hx with rfl | hx
      · exact Rat.le_refl
      · exact Rat.le_trans (h x hx) hab
    · refine ⟨m, List.mem_cons_of_mem _ hm, fun x hx => ?_⟩
      rcases List.mem_cons.1 hx with rfl | hx
      · exact Rat.le_of_lt (Rat.not_le.1 hab)
      · exact h x hx
theorem divle {a b x : Rat} (hb : 0 < b) : a / b ≤ x ↔ a ≤ x * b := by
  have h1 : a / b * b = a := Rat.div_mul_cancel (fun h => by rw [h] at hb; exact absurd hb (by decide))
  constructor
  · intro h
    have := Rat.mul_le_mul_of_nonneg_right h (Rat.le_of_lt hb)
    rwa [h1] at this
  · intro h
    rw [← h1] at h
    exact Rat.le_of_mul_le_mul_right h hb
theorem ledv {a b x : Rat} (hb : 0 < b) : x ≤ a / b ↔ x * b ≤ a := by
  have h1 : a / b * b = a := Rat.div_mul_cancel (fun h => by rw [h] at hb; exact absurd hb (by decide))
  constructor
  · intro h
    have := Rat.mul_le_mul_of_nonneg_right h (Rat.le_of_lt hb)
    rwa [h1] at this
  · intro h
    rw [← h1] at h
    exact Rat.le_of_mul_le_mul_right h hb
theorem mulle {a b c : Rat} (h : a ≤ b) (hc : 0 ≤ c) : a * c ≤ b * c := Rat.mul_le_mul_of_nonneg_right h hc
/-- the least upper time is least at an end of the slopes, or where two lower borders cross -/
theorem lowest_at {α : Type} (P : List α) (c L : α → Rat) (n r0 r1 s T : Rat) (h0 : r0 ≤ s) (h1 : s ≤ r1) (hne : P ≠ []) (hd : ∀ p ∈ P, ∀ q ∈ P, c p = c q → L p = L q) (h : ∀ p ∈ P, L p + s * (n - c p) ≤ T) :
    ∃ b, (b = r0 ∨ b = r1 ∨ ∃ p ∈ P, ∃ q ∈ P, c p < c q ∧ b = (L q - L p) / (c q - c p)) ∧ r0 ≤ b ∧ b ≤ r1 ∧ ∀ p ∈ P, L p + b * (n - c p) ≤ T := by
  obtain ⟨k, hk, hm⟩ := exMax (fun p => L p + s * (n - c p)) P hne
  have hT := h k hk
  have key : ∀ i ∈ P, L i - L k ≤ s * (c i - c k) := fun i hi => by have := hm i hi; grind
  by_cases hn : c k ≤ n
  · obtain ⟨b, hb, hbm⟩ := exMax (fun x : Rat => x) (r0 :: (P.filter (fun i => decide (c k < c i))).map fun i => (L i - L k) / (c i - c k)) (by simp)
    have hbs : b ≤ s := by
      rcases List.mem_cons.1 hb with rfl | hb
      · exact h0
      · obtain ⟨i, hi, rfl⟩ := List.mem_map.1 hb
        obtain ⟨hi, hci⟩ := List.mem_filter.1 hi
        have hci : c k < c i := of_decide_eq_true hci
        exact (divle (by grind)).2 (key i hi)
    have hrb : r0 ≤ b := hbm r0 (by simp)
    refine ⟨b, ?_, hrb, Rat.le_trans hbs h1, fun i hi => ?_⟩
    · rcases List.mem_cons.1 hb with rfl | hb
      · exact .inl rfl
      · obtain ⟨i, hi, rfl⟩ := List.mem_map.1 hb
        obtain ⟨hi, hci⟩ := List.mem_filter.1 hi
        exact .inr (.inr ⟨k, hk, i, hi, of_decide_eq_true hci, rfl⟩)
    · have e1 : L i - L k ≤ b * (c i - c k) := by
        rcases (Rat.le_total : c i ≤ c k ∨ c k ≤ c i) with hc | hc
        · have := mulle (a := b) (b := s) (c := c k - c i) hbs (by grind)
          have := key i hi
          grind
        · by_cases he : c k = c i
          · have := hd k hk i hi he
            rw [← he]; grind
          · have hlt : c k < c i := by grind
            exact (divle (by grind)).1 (hbm _ (List.mem_cons_of_mem _ (List.mem_map.2 ⟨i, List.mem_filter.2 ⟨hi, decide_eq_true hlt⟩, rfl⟩)))
      have := mulle (a := b) (b := s) (c := n - c k) hbs (by grind)
      grind
  · have hn : n < c k := Rat.not_le.1 hn
    obtain ⟨b, hb, hbm⟩ := exMax (fun x : Rat => -x) (r1 :: (P.filter (fun i => decide (c i < c k))).map fun i => (L k - L i) / (c k - c i)) (by simp)
    have hbs : s ≤ b := by
      rcases List.mem_cons.1 hb with rfl | hb
      · exact h1
      · obtain ⟨i, hi, rfl⟩ := List.mem_map.1 hb
        obtain ⟨hi, hci⟩ := List.mem_filter.1 hi
        have hci : c i < c k := of_decide_eq_true hci
        refine (ledv (by grind)).2 ?_
        have := key i hi
        grind
    have hrb : b ≤ r1 := by have := hbm r1 (by simp); grind
    refine ⟨b, ?_, Rat.le_trans h0 hbs, hrb, fun i hi => ?_⟩
    · rcases List.mem_cons.1 hb with rfl | hb
      · exact .inr (.inl rfl)
      · obtain ⟨i, hi, rfl⟩ := List.mem_map.1 hb
        obtain ⟨hi, hci⟩ := List.mem_filter.1 hi
        exact .inr (.inr ⟨i, hi, k, hk, of_decide_eq_true hci, rfl⟩)
    · have e1 : L i - L k ≤ b * (c i - c k) := by
        rcases (Rat.le_total : c k ≤ c i ∨ c i ≤ c k) with hc | hc
        · have := mulle (a := s) (b := b) (c := c i - c k) hbs (by grind)
          have := key i hi
          grind
        · by_cases he : c k = c i
          · have := hd k hk i hi he
            rw [← he]; grind
          · have hlt : c i < c k := by grind
            have h2 := hbm _ (List.mem_cons_of_mem _ (List.mem_map.2 ⟨i, List.mem_filter.2 ⟨hi, decide_eq_true hlt⟩, rfl⟩))
            have h3 : b ≤ (L k - L i) / (c k - c i) := by grind
            have h4 := (ledv (by grind)).1 h3
            grind
      have := mulle (a := s) (b := b) (c := c k - n) hbs (by grind)
      grind
/-- a lowest line turns about its tight end until it meets another end -/
theorem turn_at {α : Type} (P : List α) (c L H : α → Rat) (n b : Rat) (k : α) (h2 : ∃ p ∈ P, c p ≠ c k) (hLH : ∀ p ∈ P, c p = c k → L p ≤ L k ∧ L k ≤ H p)
    (hb : ∀ p ∈ P, L p ≤ L k + b * (c p - c k) ∧ L k + b * (c p - c k) ≤ H p) :
    ∃ p ∈ P, ∃ e, (e = L p ∨ e = H p) ∧ c p ≠ c k ∧ ∃ σ, σ * (c p - c k) = e - L k ∧ (∀ q ∈ P, L q ≤ L k + σ * (c q - c k) ∧ L k + σ * (c q - c k) ≤ H q) ∧ L k + σ * (n - c k) ≤ L k + b * (n - c k) := by
  obtain ⟨p0, hp0, hc0⟩ := h2
  have hz : ∀ q ∈ P, c q = c k → ∀ σ : Rat, L q ≤ L k + σ * (c q - c k) ∧ L k + σ * (c q - c k) ≤ H q := fun q hq he σ => by
    have := hLH q hq he
    rw [he]; grind
  by_cases hn : c k ≤ n
  · -- lower bounds of the slope
    obtain ⟨p, hp, hm⟩ := exMax (fun q : α => if c k < c q then (L q - L k) / (c q - c k) else (L k - H q) / (c k - c q)) (P.filter fun q => decide (c q ≠ c k)) (List.ne_nil_of_mem (List.mem_filter.2 ⟨hp0, decide_eq_true hc0⟩))
    obtain ⟨hp, hcp⟩ := List.mem_filter.1 hp
    have hcp : c p ≠ c k := of_decide_eq_true hcp
    obtain ⟨σ, hσ⟩ : ∃ σ, σ = (if c k < c p then (L p - L k) / (c p - c k) else (L k - H p) / (c k - c p)) := ⟨_, rfl⟩
    have hσb : σ ≤ b := by
      have := hb p hp
      rw [hσ]
      split
      · exact (divle (by grind)).2 (by grind)
      · exact (divle (by grind)).2 (by grind)
    have hfe : ∀ q ∈ P, L q ≤ L k + σ * (c q - c k) ∧ L k + σ * (c q - c k) ≤ H q := fun q hq => by
      by_cases he : c q = c k
      · exact hz q hq he σ
      · have h3 := hm q (List.mem_filter.2 ⟨hq, decide_eq_true he⟩)
        simp only [← hσ] at h3
        have h4 := hb q hq
        by_cases hlt : c k < c q
        · rw [if_pos hlt] at h3
          have h5 := (divle (by grind)).1 h3
          have h6 := mulle (a := σ) (b := b) (c := c q - c k) hσb (by grind)
          exact ⟨by grind, by grind⟩
        · rw [if_neg hlt] at h3
          have h5 := (divle (by grind)).1 h3
          have h6 := mulle (a := σ) (b := b) (c := c k - c q) hσb (by grind)
          exact ⟨by grind, by grind⟩
    have hT : L k + σ * (n - c k) ≤ L k + b * (n - c k) := by
      have := mulle (a := σ) (b := b) (c := n - c k) hσb (by grind)
      grind
    by_cases hlt : c k < c p
    · rw [if_pos hlt] at hσ
      exact ⟨p, hp, L p, .inl rfl, hcp, σ, by rw [hσ]; exact Rat.div_mul_cancel (by grind), hfe, hT⟩
    · rw [if_neg hlt] at hσ
      refine ⟨p, hp, H p, .inr rfl, hcp, σ, ?_, hfe, hT⟩
      have h7 : σ * (c k - c p) = L k - H p := by rw [hσ]; exact Rat.div_mul_cancel (by grind)
      grind
  · have hn : n < c k := Rat.not_le.1 hn
    obtain ⟨p, hp, hm⟩ := exMax (fun q : α => -(if c k < c q then (H q - L k) / (c q - c k) else (L k - L q) / (c k - c q))) (P.filter fun q => decide (c q ≠ c k)) (List.ne_nil_of_mem (List.mem_filter.2 ⟨hp0, decide_eq_true hc0⟩))
    obtain ⟨hp, hcp⟩ := List.mem_filter.1 hp
    have hcp : c p ≠ c k := of_decide_eq_true hcp
    obtain ⟨σ, hσ⟩ : ∃ σ, σ = (if c k < c p then (H p - L k) / (c p - c k) else (L k - L p) / (c k - c p)) := ⟨_, rfl⟩
    have hσb : b ≤ σ := by
      have := hb p hp
      rw [hσ]
      split
      · exact (ledv (by grind)).2 (by grind)
      · exact (ledv (by grind)).2 (by grind)
    have hfe : ∀ q ∈ P, L q ≤ L k + σ * (c q - c k) ∧ L k + σ * (c q - c k) ≤ H q := fun q hq => by
      by_cases he : c q = c k
      · exact hz q hq he σ
      · have h3 := hm q (List.mem_filter.2 ⟨hq, decide_eq_true he⟩)
        simp only [← hσ] at h3
        have h4 := hb q hq
        by_cases hlt : c k < c q
        · rw [if_pos hlt] at h3
          have h5 := (ledv (a := H q - L k) (b := c q - c k) (x := σ) (by grind)).1 (by grind)
          have h6 := mulle (a := b) (b := σ) (c := c q - c k) hσb (by grind)
          exact ⟨by grind, by grind⟩
        · rw [if_neg hlt] at h3
          have h5 := (ledv (a := L k - L q) (b := c k - c q) (x := σ) (by grind)).1 (by grind)
          have h6 := mulle (a := b) (b := σ) (c := c k - c q) hσb (by grind)
          exact ⟨by grind, by grind⟩
    have hT : L k + σ * (n - c k) ≤ L k + b * (n - c k) := by
      have := mulle (a := b) (b := σ) (c := c k - n) hσb (by grind)
      grind
    by_cases hlt : c k < c p
    · rw [if_pos hlt] at hσ
      exact ⟨p, hp, H p, .inr rfl, hcp, σ, by rw [hσ]; exact Rat.div_mul_cancel (by grind), hfe, hT⟩
    · rw [if_neg hlt] at hσ
      refine ⟨p, hp, L p, .inl rfl, hcp, σ, ?_, hfe, hT⟩
      have h7 : σ * (c k - c p) = L k - L p := by rw [hσ]; exact Rat.div_mul_cancel (by grind)
      grind
end Go.Proofs.Ytjhdnpmojhkbjaa
/- Times: what the chords give and what the rates give is the same. No condition. -/
namespace Go.Proofs.Ytjhdnpmojhkbjaa
/-! ### The least and the greatest of some values -/
def accV (s : T3) (v : Int × Int) : T3 := if s.2.2 = true then (min s.1 v.1, max s.2.1 v.2, true) else (v.1, v.2, true)
theorem acc_run : ∀ (l : List (Int × Int)) (a b : Int), ∃ m M, l.foldl accV (a, b, true) = (m, M, true) ∧ (m = a ∨ ∃ v ∈ l, v.1 = m) ∧ m ≤ a ∧ (∀ v ∈ l, m ≤ v.1) ∧ (M = b ∨ ∃ v ∈ l, v.2 = M) ∧ b ≤ M ∧ (∀ v ∈ l, v.2 ≤ M)
  | [], a, b => ⟨a, b, rfl, .inl rfl, Int.le_refl _, fun v hv => absurd hv List.not_mem_nil, .inl rfl, Int.le_refl _, fun v hv => absurd hv List.not_mem_nil⟩
  | v :: l, a, b => by
    obtain ⟨m, M, h1, h2, h3, h4, h5, h6, h7⟩ := acc_run l (min a v.1) (max b v.2)
    have k1 : m ≤ a ∧ m ≤ v.1 := by clear h2 h5; omega
    have k2 : b ≤ M ∧ v.2 ≤ M := by clear h2 h5; omega
    have k3 : min a v.1 = a ∨ v.1 = min a v.1 := by clear h2 h5; omega
    have k4 : max b v.2 = b ∨ v.2 = max b v.2 := by clear h2 h5; omega
    refine ⟨m, M, h1, ?_, k1.1, fun w hw => ?_, ?_, k2.1, fun w hw => ?_⟩
    · rcases h2 with h2 | ⟨w, hw, h2⟩
      · rcases k3 with k3 | k3
        · exact .inl (h2.trans k3)
        · exact .inr ⟨v, by simp, k3.trans h2.symm⟩
      · exact .inr ⟨w, by simp [hw], h2⟩
    · rcases List.mem_cons.1 hw with rfl | hw
      · exact k1.2
      · exact h4 w hw
    · rcases h5 with h5 | ⟨w, hw, h5⟩
      · rcases k4 with k4 | k4
        · exact .inl (h5.trans k4)
        · exact .inr ⟨v, by simp, k4.trans h5.symm⟩
      · exact .inr ⟨w, by simp [hw], h5⟩
    · rcases List.mem_cons.1 hw with rfl | hw
      · exact k2.2
      · exact h7 w hw
theorem acc_all {l : List (Int × Int)} (h : l ≠ []) : ∃ m M, l.foldl accV (0, 0, false) = (m, M, true) ∧ (∃ v ∈ l, v.1 = m) ∧ (∀ v ∈ l, m ≤ v.1) ∧ (∃ v ∈ l, v.2 = M) ∧ ∀ v ∈ l, v.2 ≤ M := by
  cases l with
  | nil => exact absurd rfl h
  | cons v l =>
    obtain ⟨m, M, h1, h2, h3, h4, h5, h6, h7⟩ := acc_run l v.1 v.2
    refine ⟨m, M, h1, ?_, fun w hw => ?_, ?_, fun w hw => ?_⟩
    · rcases h2 with h2 | ⟨w, hw, h2⟩
      · exact ⟨v, by simp, h2.symm⟩
      · exact ⟨w, by simp [hw], h2⟩
    · rcases List.mem_cons.1 hw with rfl | hw
      · exact h3
      · exact h4 w hw
    · rcases h5 with h5 | ⟨w, hw, h5⟩
      · exact ⟨v, by simp, h5.symm⟩
      · exact ⟨w, by simp [hw], h5⟩
    · rcases List.mem_cons.1 hw with rfl | hw
      · exact h6
      · exact h7 w hw
/-! ### The values of the chords -/
def valC (ps : List AV) (n a b c d : Int) : List (Int × Int) := if fitB a b c d ps = true then [(loX n a b c d, hiX n a b c d)] else []
theorem stpT_acc (ps : List AV) (n a b c d : Int) (s : T3) : stpT ps n a b c d s = (valC ps n a b c d).foldl accV s := by
  unfold stpT valC
  split <;> rfl
def valP (ps : List AV) (n : Int) (q p : AV) : List (Int × Int) :=
  (valC ps n (pC p) (pL p) (pC q) (pL q) ++ valC ps n (pC p) (pL p) (pC q) (pH q)) ++ (valC ps n (pC p) (pH p) (pC q) (pL q) ++ valC ps n (pC p) (pH p) (pC q) (pH q))
theorem pairT_acc (ps : List AV) (n : Int) (q p : AV) (s : T3) : pairT ps n q p s = (valP ps n q p).foldl accV s := by
  simp only [pairT, two, stpT_acc, valP, List.foldl_append]
def valI (ps : List AV) (n : Int) (q : AV) : List AV → List (Int × Int)
  | [] => []
  | p :: l => valP ps n q p ++ valI ps n q l
theorem inT_acc (ps : List AV) (n : Int) (q : AV) : ∀ (l : List AV) (s : T3), inT ps n q l s = (valI ps n q l).foldl accV s
  | [], s => rfl
  | p :: l, s => by rw [inT, pairT_acc, inT_acc ps n q l, valI, List.foldl_append]
def valO (ps : List AV) (n : Int) : Nat → Nat → List (Int × Int)
  | 0, _ => []
  | t + 1, i => valI ps n (ps.getD i (.int .i64 0)) (ps.take i) ++ valO ps n t (i + 1)
theorem goT_acc (ps : List AV) (n : Int) : ∀ (t i : Nat) (s : T3), goT ps n t i s = (valO ps n t i).foldl accV s
  | 0, i, s => rfl
  | t + 1, i, s => by rw [goT, inT_acc, goT_acc ps n t, valO, List.foldl_append]
theorem tmT_acc (ps : List AV) (n : Int) : tmT ps n = (valO ps n ps.length 0).foldl accV (0, 0, false) := goT_acc ps n ps.length 0 _
/-- the value of a chord through ends of p and q, p being the earlier one -/
def isCh (ps : List AV) (n : Int) (p q : AV) (v : Int × Int) : Prop :=
  ∃ b d, (b = pL p ∨ b = pH p) ∧ (d = pL q ∨ d = pH q) ∧ fitB (pC p) b (pC q) d ps = true ∧ v = (loX n (pC p) b (pC q) d, hiX n (pC p) b (pC q) d)
theorem mem_valC {ps : List AV} {n a b c d : Int} {v : Int × Int} : v ∈ valC ps n a b c d ↔ fitB a b c d ps = true ∧ v = (loX n a b c d, hiX n a b c d) := by
  unfold valC
  split
  · rename_i h; simp [h]
  · rename_i h; simp [h]
theorem mem_valP {ps : List AV} {n : Int} {q p : AV} {v : Int × Int} : v ∈ valP ps n q p ↔ isCh ps n p q v := by
  simp only [valP, List.mem_append, mem_valC, isCh]
  constructor
  · rintro ((⟨h1, h2⟩ | ⟨h1, h2⟩) | ⟨h1, h2⟩ | ⟨h1, h2⟩)
    · exact ⟨_, _, .inl rfl, .inl rfl, h1, h2⟩
    · exact ⟨_, _, .inl rfl, .inr rfl, h1, h2⟩
    · exact ⟨_, _, .inr rfl, .inl rfl, h1, h2⟩
    · exact ⟨_, _, .inr rfl, .inr rfl, h1, h2⟩
  · rintro ⟨b, d, rfl | rfl, rfl | rfl, h1, h2⟩
    · exact .inl (.inl ⟨h1, h2⟩)
    · exact .inl (.inr ⟨h1, h2⟩)
    · exact .inr (.inl ⟨h1, h2⟩)
    · exact .inr (.inr ⟨h1, h2⟩)
theorem mem_valI {ps : List AV} {n : Int} {q : AV} {v : Int × Int} : ∀ {l : List AV}, v ∈ valI ps n q l ↔ ∃ p ∈ l, isCh ps n p q v
  | [] => by simp [valI]
  | p :: l => by simp only [valI, List.mem_append, mem_valP, mem_valI (l := l), List.mem_cons, exists_eq_or_imp]
theorem asc_lt {ps : List AV} (h : ascP ps) {p q : AV} (hp : p ∈ ps) (hq : q ∈ ps) (hlt : pC p < pC q) : ∃ i, ∃ hi : i < ps.length, ps[i] = q ∧ p ∈ ps.take i := by
  obtain ⟨j, hj, rfl⟩ := List.getElem_of_mem hp
  obtain ⟨i, hi, rfl⟩ := List.getElem_of_mem hq
  refine ⟨i, hi, rfl, List.mem_take_iff_getElem.2 ⟨j, ?_, rfl⟩⟩
  rcases Nat.lt_trichotomy j i with h1 | h1 | h1
  · omega
  · subst h1; omega
  · have := List.pairwise_iff_getElem.1 h.2 i j hi hj h1; omega
theorem mem_valO {ps : List AV} (ha : ascP ps) {n : Int} {v : Int × Int} : ∀ (t i : Nat), i + t = ps.length → (v ∈ valO ps n t i ↔ ∃ j, i ≤ j ∧ ∃ hj : j < ps.length, ∃ p ∈ ps.take j, isCh ps n p ps[j] v)
  | 0, i, hi => by
    simp only [valO, List.not_mem_nil, false_iff]
    rintro ⟨j, h1, h2, _⟩; omega
  | t + 1, i, hi => by
    have hlt : i < ps.length := by omega
    have e : ps.getD i (.int .i64 0) = ps[i] := by simp [hlt]
    rw [valO, e, List.mem_append, mem_valI, mem_valO ha t (i + 1) (by omega)]
    constructor
    · rintro (⟨p, hp, h⟩ | ⟨j, h1, h2, h3⟩)
      · exact ⟨i, Nat.le_refl _, hlt, p, hp, h⟩
      · exact ⟨j, by omega, h2, h3⟩
    · rintro ⟨j, h1, h2, h3⟩
      by_cases hj : j = i
      · subst hj; exact .inl h3
      · exact .inr ⟨j, by omega, h2, h3⟩
theorem mem_vals {ps : List AV} (ha : ascP ps) {n : Int} {v : Int × Int} : v ∈ valO ps n ps.length 0 ↔ ∃ p ∈ ps, ∃ q ∈ ps, pC p < pC q ∧ isCh ps n p q v := by
  rw [mem_valO ha _ _ (by omega)]
  constructor
  · rintro ⟨j, _, h2, p, hp, h⟩
    exact ⟨p, List.mem_of_mem_take hp, ps[j], by simp, (asc_take ha h2 p hp).2, h⟩
  · rintro ⟨p, hp, q, hq, hlt, h⟩
    obtain ⟨i, hi, rfl, hpi⟩ := asc_lt ha hp hq hlt
    exact ⟨i, by omega, hi, p, hpi, h⟩
/-! ### The values of the rates -/
def okR (r : R4) (x : AV) : Prop := ¬ cmpI (xN x) (xD x) r.1 r.2.1 < 0 ∧ ¬ 0 < cmpI (xN x) (xD x) r.2.2.1 r.2.2.2
instance (r : R4) (x : AV) : Decidable (okR r x) := by unfold okR; infer_instance
def valR (ps : List AV) (n : Int) (r : R4) : List AV → List (Int × Int)
  | [] => []
  | x :: l => (if okR r x then [(floorI (lhS (xN x) (xD x) n ps).1 (xD x), ceilI (lhS (xN x) (xD x) n ps).2 (xD x))] else []) ++ valR ps n r l
theorem runR_acc (ps : List AV) (n : Int) (r : R4) : ∀ (l : List AV) (s : T3), runR ps n r l s = (valR ps n r l).foldl accV s
  | [], s => rfl
  | x :: l, s => by
    rw [runR, runR_acc ps n r l, valR, List.foldl_append]
    congr 1
    unfold stpR
    by_cases h1 : cmpI (xN x) (xD x) r.1 r.2.1 < 0
    · rw [if_pos h1, if_neg (c := okR r x) (fun h => h.1 h1)]; rfl
    · by_cases h2 : 0 < cmpI (xN x) (xD x) r.2.2.1 r.2.2.2
      · rw [if_neg h1, if_pos h2, if_neg (c := okR r x) (fun h => h.2 h2)]; rfl
      · rw [if_neg h1, if_neg h2, if_pos (c := okR r x) ⟨h1, h2⟩]; rfl
theorem mem_valR {ps : List AV} {n : Int} {r : R4} {v : Int × Int} : ∀ {l : List AV}, v ∈ valR ps n r l ↔ ∃ x ∈ l, okR r x ∧ v = (floorI (lhS (xN x) (xD x) n ps).1 (xD x), ceilI (lhS (xN x) (xD x) n ps).2 (xD x))
  | [] => by simp [valR]
  | x :: l => by
    rw [valR, List.mem_append, mem_valR (l := l)]
    by_cases h : okR r x
    · rw [if_pos h]; simp [h]
    · rw [if_neg h]; simp [h]
theorem tmR_acc (ps : List AV) (n : Int) : tmR ps n = (valR ps n (rateP ps) (ratsR ps)).foldl accV (0, 0, false) := runR_acc ps n _ _ _
theorem mem_candI {q x : AV} : ∀ {l : List AV}, x ∈ candI q l ↔ ∃ p ∈ l, x = frA (lN (pL q - pL p) (pC q - pC p)) (lD (pL q - pL p) (pC q - pC p)) ∨ x = frA (lN (pH q - pH p) (pC q - pC p)) (lD (pH q - pH p) (pC q - pC p))
  | [] => by simp [candI]
  | p :: l => by
    simp only [candI, List.mem_cons, mem_candI (l := l), exists_eq_or_imp, or_assoc]
theorem mem_candO {ps : List AV} {x : AV} : ∀ (t i : Nat), i + t = ps.length → (x ∈ candO ps t i ↔ ∃ j, i ≤ j ∧ ∃ hj : j < ps.length, x ∈ candI ps[j] (ps.take j))
  | 0, i, hi => by
    simp only [candO, List.not_mem_nil, false_iff]
    rintro ⟨j, h1, h2, _⟩; omega
  | t + 1, i, hi => by
    have hlt : i < ps.length := by omega
    have e : ps.getD i (.int .i64 0) = ps[i] := by simp [hlt]
    rw [candO, e, List.mem_append, mem_candO t (i + 1) (by omega)]
    constructor
    · rintro (h | ⟨j, h1, h2, h3⟩)
      · exact ⟨i, Nat.le_refl _, hlt, h⟩
      · exact ⟨j, by omega, h2, h3⟩
    · rintro ⟨j, h1, h2, h3⟩
      by_cases hj : j = i
      · subst hj; exact .inl h3
      · exact .inr ⟨j, by omega, h2, h3⟩
end Go.Proofs.Ytjhdnpmojhkbjaa
/- Times: the lines through pairs. No condition. -/
namespace Go.Proofs.Ytjhdnpmojhkbjaa
/-! ### Quotients -/
theorem posQ {d : Int} (h : 0 < d) : (0 : Rat) < (d : Rat) := by exact_mod_cast h
theorem floorQ {m d : Int} (hd : 0 < d) (x : Int) : x ≤ floorI m d ↔ (x : Rat) ≤ (m : Rat) / (d : Rat) := by
  rw [ledv (posQ hd)]
  obtain ⟨h1, h2⟩ := floorI_rng m hd
  constructor
  · intro h
    have : x * d ≤ m := Int.le_trans (Int.mul_le_mul_of_nonneg_right h (by omega)) h1
    exact_mod_cast this
  · intro h
    have h : x * d ≤ m := by exact_mod_cast h
    have h3 : x * d < (floorI m d + 1) * d := by rw [Int.add_mul, Int.one_mul]; omega
    have := Int.lt_of_mul_lt_mul_right h3 (by omega)
    omega
theorem ceilQ {m d : Int} (hd : 0 < d) (x : Int) : ceilI m d ≤ x ↔ (m : Rat) / (d : Rat) ≤ (x : Rat) := by
  have h := floorQ (m := -m) hd (-x)
  unfold ceilI
  rw [divle (posQ hd)]
  rw [ledv (posQ hd)] at h
  constructor
  · intro h1
    have := h.1 (by omega)
    push_cast at this
    grind
  · intro h1
    have := h.2 (by push_cast; grind)
    omega
def qd (n d : Int) : Rat := (n : Rat) / (d : Rat)
theorem qd_le {a b c d : Int} (hb : 0 < b) (hd : 0 < d) : qd a b ≤ qd c d ↔ a * d ≤ c * b := by
  unfold qd
  rw [ledv (posQ hd), Rat.div_def, Rat.mul_assoc, Rat.mul_comm (b : Rat)⁻¹, ← Rat.mul_assoc, ← Rat.div_def, divle (posQ hb)]
  constructor
  · intro h; exact_mod_cast h
  · intro h; exact_mod_cast h
theorem low_eq (n : Int) {d : Int} (hd : 0 < d) : qd (lN n d) (lD n d) = qd n d := by
  have hr := low_rng n hd
  have e : lN n d * d = n * lD n d := by
    unfold lN lD
    obtain ⟨n', hn⟩ : ((Int.gcd n d : Nat) : Int) ∣ n := Int.gcd_dvd_left _ _
    obtain ⟨d', hd'⟩ : ((Int.gcd n d : Nat) : Int) ∣ d := Int.gcd_dvd_right _ _
    have hg : ((Int.gcd n d : Nat) : Int) ≠ 0 := fun h => by rw [h] at hd'; omega
    generalize ((Int.gcd n d : Nat) : Int) = g at *
    subst hn
    subst hd'
    rw [Int.mul_tdiv_cancel_left _ hg, Int.mul_tdiv_cancel_left _ hg]
    rw [Int.mul_comm g n', Int.mul_assoc]
  exact Rat.le_antisymm ((qd_le hr.2.1 hd).2 (by omega)) ((qd_le hd hr.2.1).2 (by omega))
/-! ### Lines through pairs -/
def cQ (p : AV) : Rat := (pC p : Rat)
def lQ (p : AV) : Rat := (pL p : Rat)
def hQ (p : AV) : Rat := (pH p : Rat)
def feasL (ps : List AV) (n s T : Rat) : Prop := ∀ p ∈ ps, lQ p ≤ T + s * (cQ p - n) ∧ T + s * (cQ p - n) ≤ hQ p
theorem fitB_iff {a b c d : Int} : ∀ {ps : List AV}, fitB a b c d ps = true ↔ ∀ p ∈ ps, fitS a b c d p
  | [] => by simp [fitB]
  | p :: ps => by rw [fitB, Bool.and_eq_true, decide_eq_true_eq, fitB_iff (ps := ps)]; simp
def slQ (a b c d : Int) : Rat := ((d : Rat) - b) / ((c : Rat) - a)
theorem slQ_mul {a b c d : Int} (h : a < c) : slQ a b c d * ((c : Rat) - a) = (d : Rat) - b := by
  have : (a : Rat) < (c : Rat) := by exact_mod_cast h
  exact Rat.div_mul_cancel (by grind)
theorem at_mul {a b c d : Int} (h : a < c) (x : Int) : (atC a b c d x : Rat) = ((b : Rat) + slQ a b c d * ((x : Rat) - a)) * ((c : Rat) - a) := by
  have h1 := slQ_mul (b := b) (d := d) h
  unfold atC
  push_cast
  grind
theorem denC_pos {a c : Int} (h : a < c) : 0 < denC a c := by unfold denC; omega
theorem denC_Q (a c : Int) : ((denC a c : Int) : Rat) = (c : Rat) - a := by unfold denC; push_cast; rfl
theorem at_div {a b c d : Int} (h : a < c) (x : Int) : (atC a b c d x : Rat) / (denC a c : Rat) = (b : Rat) + slQ a b c d * ((x : Rat) - a) := by
  have h2 := posQ (denC_pos h)
  have h3 : (denC a c : Rat) ≠ 0 := by grind
  rw [at_mul h, ← denC_Q a c]
  exact Rat.mul_div_cancel h3
theorem fit_iff {a b c d : Int} (h : a < c) {ps : List AV} (n : Int) : fitB a b c d ps = true ↔ feasL ps n (slQ a b c d) ((b : Rat) + slQ a b c d * ((n : Rat) - a)) := by
  rw [fitB_iff]
  have hp := posQ (denC_pos h)
  refine forall_congr' fun p => forall_congr' fun _ => ?_
  have h1 : pL p * denC a c ≤ atC a b c d (pC p) ↔ lQ p ≤ (atC a b c d (pC p) : Rat) / (denC a c : Rat) := by
    rw [ledv hp]; unfold lQ
    constructor
    · intro h; exact_mod_cast h
    · intro h; exact_mod_cast h
  have h2 : atC a b c d (pC p) ≤ pH p * denC a c ↔ (atC a b c d (pC p) : Rat) / (denC a c : Rat) ≤ hQ p := by
    rw [divle hp]; unfold hQ
    constructor
    · intro h; exact_mod_cast h
    · intro h; exact_mod_cast h
  have e : (b : Rat) + slQ a b c d * ((n : Rat) - a) + slQ a b c d * (cQ p - n) = (b : Rat) + slQ a b c d * ((pC p : Rat) - a) := by unfold cQ; grind
  unfold fitS
  rw [h1, h2, at_div h, e]
theorem loX_iff {a b c d n : Int} (h : a < c) (x : Int) : x ≤ loX n a b c d ↔ (x : Rat) ≤ (b : Rat) + slQ a b c d * ((n : Rat) - a) := by
  unfold loX; rw [floorQ (denC_pos h), at_div h]
theorem hiX_iff {a b c d n : Int} (h : a < c) (x : Int) : hiX n a b c d ≤ x ↔ (b : Rat) + slQ a b c d * ((n : Rat) - a) ≤ (x : Rat) := by
  have : hiX n a b c d = ceilI (atC a b c d n) (denC a c) := rfl
  rw [this, ceilQ (denC_pos h), at_div h]
/-- a chord is a line through all pairs, whose time is rounded -/
theorem ch_line {ps : List AV} {n : Int} {p q : AV} {v : Int × Int} (hlt : pC p < pC q) (h : isCh ps n p q v) : ∃ s T, feasL ps n s T ∧ (∀ x : Int, x ≤ v.1 ↔ (x : Rat) ≤ T) ∧ (∀ x : Int, v.2 ≤ x ↔ T ≤ (x : Rat)) := by
  obtain ⟨b, d, _, _, h3, rfl⟩ := h
  exact ⟨_, _, (fit_iff hlt n).1 h3, fun x => loX_iff hlt x, fun x => hiX_iff hlt x⟩
/-- a line through ends of two pairs is a chord -/
theorem line_ch {ps : List AV} {n : Int} {p q : AV} {b d : Int} (hlt : pC p < pC q) (hb : b = pL p ∨ b = pH p) (hd : d = pL q ∨ d = pH q) {s T : Rat} (hs : s * (cQ q - cQ p) = (d : Rat) - b) (hT : T = (b : Rat) + s * ((n : Rat) - cQ p)) (hf : feasL ps n s T) : ∃ v, isCh ps n p q v ∧ (∀ x : Int, x ≤ v.1 ↔ (x : Rat) ≤ T) ∧ (∀ x : Int, v.2 ≤ x ↔ T ≤ (x : Rat)) := by
  have e : s = slQ (pC p) b (pC q) d := by
    have h1 := slQ_mul (b := b) (d := d) hlt
    have h2 : (pC p : Rat) < (pC q : Rat) := by exact_mod_cast hlt
    have h3 : (cQ q - cQ p) ≠ 0 := by unfold cQ; grind
    have h4 : s * (cQ q - cQ p) = slQ (pC p) b (pC q) d * (cQ q - cQ p) := by rw [hs]; exact h1.symm
    have := congrArg (· / (cQ q - cQ p)) h4
    simp only [Rat.mul_div_cancel h3] at this
    exact this
  subst e
  subst hT
  exact ⟨_, ⟨b, d, hb, hd, (fit_iff hlt n).2 hf, rfl⟩, fun x => loX_iff hlt x, fun x => hiX_iff hlt x⟩
end Go.Proofs.Ytjhdnpmojhkbjaa
