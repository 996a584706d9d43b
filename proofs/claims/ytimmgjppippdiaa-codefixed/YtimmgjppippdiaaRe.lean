/- Paths of functions, printed by the explorer (Gx). No condition. -/
import Derived.Test.YtimmgjppippdiaaRd
import Derived.KernelRfl
namespace Go.Proofs.Ytimmgjppippdiaa
set_option maxRecDepth 100000
set_option linter.unusedVariables false
def f116e (n : Int) (cs : List AV) (w : List Int) : List AFrame := [{ fn := 116, N := 66, env := [(0, AV.agg (Row.gen [AV.int .i64 n, AV.list (Row.big (Sh.ints .i64) cs)])), (1, AV.list (.ints .i64 w))], todo := [.code a116.code], defs := [], rnd := none, ret := false, res := [ARes.tmp 4] }]
theorem f116e_at (n : Int) (cs : List AV) (w : List Int) : enterA tab 116 [AV.agg (Row.gen [AV.int .i64 n, AV.list (Row.big (Sh.ints .i64) cs)]), AV.list (.ints .i64 w)] = some { fn := 116, N := 66, env := [(0, AV.agg (Row.gen [AV.int .i64 n, AV.list (Row.big (Sh.ints .i64) cs)])), (1, AV.list (.ints .i64 w))], todo := [.code a116.code], defs := [], rnd := none, ret := false, res := [ARes.tmp 4] } := rfl
def f116h116_1a (cs : List AV) (w : List Int) (l0 : List Int) (n1 : Int) (l2 : List Int) (n3 : Int) : List AFrame := [{ fn := 116, N := 66, env := [(1, AV.list (.ints .i64 w)), (5, AV.row 116018 0), (6, AV.list (.ints .i64 l0)), (22, AV.list (Row.big (Sh.ints .i64) cs)), (23, AV.int .i64 n1), (24, AV.int .i64 n3)], todo := .code (ACode.gh [] l116_1) :: k116_1, defs := [], rnd := none, ret := false, res := [ARes.tmp 4] }]
def f116h116_1am (cs : List AV) (w : List Int) (l0 : List Int) (n1 : Int) (l2 : List Int) (n3 : Int) : AHeap := [(116018, { base := 0, blks := [Blk.row 3 1 (.ints .i64 l2)] })]
def f116h116_2a (cs : List AV) (w : List Int) (l0 : List Int) (n1 : Int) (n3 : Int) (l4 : List Int) (n5 : Int) (n6 : Int) (n7 : Int) (l8 : List Int) : List AFrame := [{ fn := 116, N := 66, env := [(1, AV.list (.ints .i64 w)), (5, AV.row 116018 0), (6, AV.list (.ints .i64 l0)), (9, AV.int .i64 n6), (22, AV.list (Row.big (Sh.ints .i64) cs)), (23, AV.int .i64 n1), (24, AV.int .i64 n3), (32, AV.list (.ints .i64 l4)), (33, AV.int .i64 n5), (34, AV.int .i64 n7)], todo := .code (ACode.gh [] l116_2) :: k116_2, defs := [], rnd := none, ret := false, res := [ARes.tmp 4] }]
def f116h116_2am (cs : List AV) (w : List Int) (l0 : List Int) (n1 : Int) (n3 : Int) (l4 : List Int) (n5 : Int) (n6 : Int) (n7 : Int) (l8 : List Int) : AHeap := [(116018, { base := 0, blks := [Blk.row 3 1 (.ints .i64 l8)] })]
def f116h116_0a (l2 : List Int) (n9 : Int) (n10 : Int) (l11 : List Int) : List AFrame := [{ fn := 116, N := 66, env := [(12, AV.row 116049 0), (49, AV.row 116018 0), (50, AV.int .i64 n9), (51, AV.int .i64 n10)], todo := .code (ACode.gh [] l116_0) :: k116_0, defs := [], rnd := none, ret := false, res := [ARes.tmp 4] }]
def f116h116_0am (l2 : List Int) (n9 : Int) (n10 : Int) (l11 : List Int) : AHeap := [(116018, { base := 0, blks := [Blk.row 3 1 (.ints .i64 l2)] }), (116049, { base := 0, blks := [Blk.row 3 1 (.ints .i64 l11)] })]
theorem f116p0 (A : Ar) (n : Int) (cs : List AV) (w : List Int) : gwalkL A tab F5 30 [] (f116e n cs w) [] =
  some ([true, true, A.and (A.ltN 0 1) (A.ltN 1 2), true, true, A.and true (Decidable.decide (parE n (iss cs) w = 0 ∧ List.all cs few1 = true)), true, A.and (A.ltN 0 1) (A.leN (A.addN 0 2) 2), true, A.and (A.le 0 n) (A.le n 4294967296), A.and (A.ltN 0 1) (A.ltN 0 2), true, true, A.and true (A.ltN 0 2)],
   f116h116_1a (cs) (w) (unsS w 0 (iss cs)) (A.int (A.lenA cs)) (A.rep (A.nat n) 0) (0), f116h116_1am (cs) (w) (unsS w 0 (iss cs)) (A.int (A.lenA cs)) (A.rep (A.nat n) 0) (0)) := by kernel_rfl
theorem f116p1 (A : Ar) (cs : List AV) (w : List Int) (l0 : List Int) (n1 : Int) (l2 : List Int) (n3 : Int) : gwalkL A tab F5 42 [true, true] (f116h116_1a cs w l0 n1 l2 n3) (f116h116_1am cs w l0 n1 l2 n3) =
  some ([true, true, true, true, hasB l0 n3, A.and true (Decidable.decide (List.length l0 ≤ 1000000)), true, true, true, true, true, A.eqN 0 0, A.and (A.and (A.le 0 n3) (A.ltN (A.nat n3) (A.lenA cs))) (A.eqN 1 1), true, A.lt n3 n1, true],
   f116h116_2a (cs) (w) (l0) (n1) (n3) (AV.toIs (A.nthA cs (A.nat n3))) (A.int (A.len (AV.toIs (A.nthA cs (A.nat n3))))) (1) (0) (l2), f116h116_2am (cs) (w) (l0) (n1) (n3) (AV.toIs (A.nthA cs (A.nat n3))) (A.int (A.len (AV.toIs (A.nthA cs (A.nat n3))))) (1) (0) (l2)) := by kernel_rfl
theorem f116p2 (A : Ar) (cs : List AV) (w : List Int) (l0 : List Int) (n1 : Int) (l2 : List Int) (n3 : Int) : gwalkL A tab F5 40 [true, false] (f116h116_1a cs w l0 n1 l2 n3) (f116h116_1am cs w l0 n1 l2 n3) =
  some ([true, true, true, !hasB l0 n3, A.and true (Decidable.decide (List.length l0 ≤ 1000000)), true, true, true, true, true, A.eqN 0 0, A.and (A.and (A.le 0 n3) (A.ltN (A.nat n3) (A.lenA cs))) (A.eqN 1 1), true, A.lt n3 n1, true],
   f116h116_2a (cs) (w) (l0) (n1) (n3) (AV.toIs (A.nthA cs (A.nat n3))) (A.int (A.len (AV.toIs (A.nthA cs (A.nat n3))))) (-1) (0) (l2), f116h116_2am (cs) (w) (l0) (n1) (n3) (AV.toIs (A.nthA cs (A.nat n3))) (A.int (A.len (AV.toIs (A.nthA cs (A.nat n3))))) (-1) (0) (l2)) := by kernel_rfl
theorem f116p3 (A : Ar) (cs : List AV) (w : List Int) (l0 : List Int) (n1 : Int) (l2 : List Int) (n3 : Int) : gwalkL A tab F5 24 [false] (f116h116_1a cs w l0 n1 l2 n3) (f116h116_1am cs w l0 n1 l2 n3) =
  some ([true, true, true, true, A.and true (Decidable.decide (0 < List.length w ∧ List.length w ≤ 4294967296)), true, !A.lt n3 n1, true],
   f116h116_0a (l2) (A.int (A.len l2)) (0) (w), f116h116_0am (l2) (A.int (A.len l2)) (0) (w)) := by kernel_rfl
theorem f116p4 (A : Ar) (cs : List AV) (w : List Int) (l0 : List Int) (n1 : Int) (n3 : Int) (l4 : List Int) (n5 : Int) (n6 : Int) (n7 : Int) (l8 : List Int) : gwalkL A tab F5 33 [true] (f116h116_2a cs w l0 n1 n3 l4 n5 n6 n7 l8) (f116h116_2am cs w l0 n1 n3 l4 n5 n6 n7 l8) =
  some ([true, A.inR .i64 (A.add n7 1), A.and (A.ltN (A.nat (A.nth l4 (A.nat n7))) (A.len l8)) (A.and (A.and true (A.eqN 0 0)) (A.and (A.eqN 1 1) (A.eqN 1 1))), A.and (A.eqN 1 1) (A.and (A.le 0 (A.nth l4 (A.nat n7))) (A.ltN (A.nat (A.nth l4 (A.nat n7))) (A.len l8))), A.inR .i64 (A.add (A.nth l8 (A.nat (A.nth l4 (A.nat n7)))) n6), true, A.and (A.ltN (A.nat (A.nth l4 (A.nat n7))) (A.len l8)) (A.eqN 0 0), A.and (A.eqN 1 1) (A.and (A.le 0 (A.nth l4 (A.nat n7))) (A.ltN (A.nat (A.nth l4 (A.nat n7))) (A.len l8))), true, true, true, A.eqN 0 0, A.and (A.and (A.le 0 n7) (A.ltN (A.nat n7) (A.len l4))) (A.eqN 1 1), A.lt n7 n5, true],
   f116h116_2a (cs) (w) (l0) (n1) (n3) (l4) (n5) (n6) (A.add n7 1) (A.set l8 (A.nat (A.nth l4 (A.nat n7))) (A.add (A.nth l8 (A.nat (A.nth l4 (A.nat n7)))) n6)), f116h116_2am (cs) (w) (l0) (n1) (n3) (l4) (n5) (n6) (A.add n7 1) (A.set l8 (A.nat (A.nth l4 (A.nat n7))) (A.add (A.nth l8 (A.nat (A.nth l4 (A.nat n7)))) n6))) := by kernel_rfl
theorem f116p5 (A : Ar) (cs : List AV) (w : List Int) (l0 : List Int) (n1 : Int) (n3 : Int) (l4 : List Int) (n5 : Int) (n6 : Int) (n7 : Int) (l8 : List Int) : gwalkL A tab F5 15 [false] (f116h116_2a cs w l0 n1 n3 l4 n5 n6 n7 l8) (f116h116_2am cs w l0 n1 n3 l4 n5 n6 n7 l8) =
  some ([true, A.inR .i64 (A.add n3 1), !A.lt n7 n5, true],
   f116h116_1a (cs) (w) (l0) (n1) (l8) (A.add n3 1), f116h116_1am (cs) (w) (l0) (n1) (l8) (A.add n3 1)) := by kernel_rfl
theorem f116p6 (A : Ar) (l2 : List Int) (n9 : Int) (n10 : Int) (l11 : List Int) : gwalkL A tab F5 40 [true, true] (f116h116_0a l2 n9 n10 l11) (f116h116_0am l2 n9 n10 l11) =
  some ([true, A.inR .i64 (A.add n10 1), A.and (A.ltN (A.nat n10) (A.len l11)) (A.and (A.and true (A.eqN 0 0)) (A.and (A.eqN 1 1) (A.eqN 1 1))), A.and (A.eqN 1 1) (A.and (A.le 0 n10) (A.ltN (A.nat n10) (A.len l11))), true, A.and (A.ltN (A.nat n10) (A.len l11)) (A.eqN 0 0), A.and (A.eqN 1 1) (A.and (A.le 0 n10) (A.ltN (A.nat n10) (A.len l11))), true, true, A.lt 0 (A.nth l2 (A.nat n10)), true, true, true, true, A.and (A.ltN (A.nat n10) (A.len l2)) (A.eqN 0 0), A.and (A.eqN 1 1) (A.and (A.le 0 n10) (A.ltN (A.nat n10) (A.len l2))), true, A.lt n10 n9, true],
   f116h116_0a (l2) (n9) (A.add n10 1) (A.set l11 (A.nat n10) (A.bits Go.BinOp.xor .i64 (A.nth l11 (A.nat n10)) 1)), f116h116_0am (l2) (n9) (A.add n10 1) (A.set l11 (A.nat n10) (A.bits Go.BinOp.xor .i64 (A.nth l11 (A.nat n10)) 1))) := by kernel_rfl
theorem f116p7 (A : Ar) (l2 : List Int) (n9 : Int) (n10 : Int) (l11 : List Int) : gwalkL A tab F5 32 [true, false] (f116h116_0a l2 n9 n10 l11) (f116h116_0am l2 n9 n10 l11) =
  some ([true, A.inR .i64 (A.add n10 1), !A.lt 0 (A.nth l2 (A.nat n10)), true, true, true, true, A.and (A.ltN (A.nat n10) (A.len l2)) (A.eqN 0 0), A.and (A.eqN 1 1) (A.and (A.le 0 n10) (A.ltN (A.nat n10) (A.len l2))), true, A.lt n10 n9, true],
   f116h116_0a (l2) (n9) (A.add n10 1) (l11), f116h116_0am (l2) (n9) (A.add n10 1) (l11)) := by kernel_rfl
theorem f116p8 (A : Ar) (l2 : List Int) (n9 : Int) (n10 : Int) (l11 : List Int) : gfin A tab F5 14 [false] 116 (f116h116_0a l2 n9 n10 l11) (f116h116_0am l2 n9 n10 l11) =
  some ([true, true, true, !A.lt n10 n9, true],
   AV.row 0 0, some { e := 3, sz := 1, r := .ints .i64 l11 }) := by kernel_rfl
def f42e (n : Int) (cs : List AV) (w : List Int) : List AFrame := [{ fn := 42, N := 54, env := [(0, AV.agg (Row.gen [AV.int .i64 n, AV.list (Row.big (Sh.ints .i64) cs)])), (1, AV.list (.ints .i64 w))], todo := [.code a42.code], defs := [], rnd := none, ret := false, res := [ARes.tmp 4] }]
theorem f42e_at (n : Int) (cs : List AV) (w : List Int) : enterA tab 42 [AV.agg (Row.gen [AV.int .i64 n, AV.list (Row.big (Sh.ints .i64) cs)]), AV.list (.ints .i64 w)] = some { fn := 42, N := 54, env := [(0, AV.agg (Row.gen [AV.int .i64 n, AV.list (Row.big (Sh.ints .i64) cs)])), (1, AV.list (.ints .i64 w))], todo := [.code a42.code], defs := [], rnd := none, ret := false, res := [ARes.tmp 4] } := rfl
def f42h42_0a (n : Int) (cs : List AV) (l0 : List Int) (n1 : Int) (l2 : List Int) : List AFrame := [{ fn := 42, N := 54, env := [(2, AV.ptr 42003 0 0 0), (5, AV.list (.ints .i64 l0)), (6, AV.row 42015 0), (7, AV.int .i64 n1)], todo := .code (ACode.gh [] l42_0) :: k42_0, defs := [], rnd := none, ret := false, res := [ARes.tmp 4] }]
def f42h42_0am (n : Int) (cs : List AV) (l0 : List Int) (n1 : Int) (l2 : List Int) : AHeap := [(42003, { base := 0, blks := [Blk.row 48 2 (Row.gen [AV.agg (Row.gen [AV.int .i64 n, AV.list (Row.big (Sh.ints .i64) cs)])])] }), (42015, { base := 0, blks := [Blk.row 3 1 (.ints .i64 l2)] })]
def f42h42_1a (n : Int) (cs : List AV) (l0 : List Int) (n1 : Int) (l2 : List Int) (n3 : Int) (n4 : Int) : List AFrame := [{ fn := 42, N := 54, env := [(2, AV.ptr 42003 0 0 0), (5, AV.list (.ints .i64 l0)), (6, AV.row 42015 0), (7, AV.int .i64 n1), (8, AV.int .i64 n4), (9, AV.int .i64 n3)], todo := .code (ACode.gh [] l42_1) :: k42_1, defs := [], rnd := none, ret := false, res := [ARes.tmp 4] }]
def f42h42_1am (n : Int) (cs : List AV) (l0 : List Int) (n1 : Int) (l2 : List Int) (n3 : Int) (n4 : Int) : AHeap := [(42003, { base := 0, blks := [Blk.row 48 2 (Row.gen [AV.agg (Row.gen [AV.int .i64 n, AV.list (Row.big (Sh.ints .i64) cs)])])] }), (42015, { base := 0, blks := [Blk.row 3 1 (.ints .i64 l2)] })]
theorem f42p0 (A : Ar) (n : Int) (cs : List AV) (w : List Int) : gwalkL A tab F6 26 [] (f42e n cs w) [] =
  some ([true, true, A.and true (Decidable.decide (List.length w ≤ 4294967296)), true, true, A.and true (Decidable.decide (parE n (iss cs) w = 0 ∧ List.all cs few1 = true)), true, A.and (A.ltN 0 1) (A.leN (A.addN 0 2) 2), true, A.and true (A.ltN 0 2)],
   f42h42_0a (n) (cs) (unsS w 0 (iss cs)) (0) (w), f42h42_0am (n) (cs) (unsS w 0 (iss cs)) (0) (w)) := by kernel_rfl
theorem f42p1 (A : Ar) (n : Int) (cs : List AV) (l0 : List Int) (n1 : Int) (l2 : List Int) : gwalkL A tab F6 25 [true] (f42h42_0a n cs l0 n1 l2) (f42h42_0am n cs l0 n1 l2) =
  some ([true, true, A.lt n1 n, true, A.and (A.ltN 0 1) (A.ltN 0 2), true, true],
   f42h42_1a (n) (cs) (l0) (n1) (l2) (0) (0), f42h42_1am (n) (cs) (l0) (n1) (l2) (0) (0)) := by kernel_rfl
theorem f42p2 (A : Ar) (n : Int) (cs : List AV) (l0 : List Int) (n1 : Int) (l2 : List Int) : gfin A tab F6 17 [false] 42 (f42h42_0a n cs l0 n1 l2) (f42h42_0am n cs l0 n1 l2) =
  some ([true, true, true, !A.lt n1 n, true, A.and (A.ltN 0 1) (A.ltN 0 2), true, true],
   AV.row 0 0, some { e := 3, sz := 1, r := .ints .i64 l2 }) := by kernel_rfl
theorem f42p3 (A : Ar) (n : Int) (cs : List AV) (l0 : List Int) (n1 : Int) (l2 : List Int) (n3 : Int) (n4 : Int) : gwalkL A tab F6 36 [true, true] (f42h42_1a n cs l0 n1 l2 n3 n4) (f42h42_1am n cs l0 n1 l2 n3 n4) =
  some ([true, A.inR .i64 (A.add n3 1), true, A.not (hasB (AV.toIs (A.nthA cs (A.nat n3))) n1), true, A.and true (Decidable.decide (List.length (AV.toIs (A.nthA cs (A.nat n3))) ≤ 1000000)), true, A.eqN 0 0, A.and (A.and (A.le 0 n3) (A.ltN (A.nat n3) (A.lenA cs))) (A.eqN 1 1), true, A.and (A.ltN 0 1) (A.ltN 1 2), true, A.lt n3 (A.int (A.lenA cs)), true, true, A.and (A.ltN 0 1) (A.ltN 1 2), true, true],
   f42h42_1a (n) (cs) (l0) (n1) (l2) (A.add n3 1) (n4), f42h42_1am (n) (cs) (l0) (n1) (l2) (A.add n3 1) (n4)) := by kernel_rfl
theorem f42p4 (A : Ar) (n : Int) (cs : List AV) (l0 : List Int) (n1 : Int) (l2 : List Int) (n3 : Int) (n4 : Int) : gwalkL A tab F6 49 [true, false, true] (f42h42_1a n cs l0 n1 l2 n3 n4) (f42h42_1am n cs l0 n1 l2 n3 n4) =
  some ([true, A.inR .i64 (A.add n3 1), true, true, A.inR .i64 (A.add n4 1), true, hasB l0 n3, A.and true (Decidable.decide (List.length l0 ≤ 1000000)), true, true, !A.not (hasB (AV.toIs (A.nthA cs (A.nat n3))) n1), true, A.and true (Decidable.decide (List.length (AV.toIs (A.nthA cs (A.nat n3))) ≤ 1000000)), true, A.eqN 0 0, A.and (A.and (A.le 0 n3) (A.ltN (A.nat n3) (A.lenA cs))) (A.eqN 1 1), true, A.and (A.ltN 0 1) (A.ltN 1 2), true, A.lt n3 (A.int (A.lenA cs)), true, true, A.and (A.ltN 0 1) (A.ltN 1 2), true, true],
   f42h42_1a (n) (cs) (l0) (n1) (l2) (A.add n3 1) (A.add n4 1), f42h42_1am (n) (cs) (l0) (n1) (l2) (A.add n3 1) (A.add n4 1)) := by kernel_rfl
theorem f42p5 (A : Ar) (n : Int) (cs : List AV) (l0 : List Int) (n1 : Int) (l2 : List Int) (n3 : Int) (n4 : Int) : gwalkL A tab F6 49 [true, false, false] (f42h42_1a n cs l0 n1 l2 n3 n4) (f42h42_1am n cs l0 n1 l2 n3 n4) =
  some ([true, A.inR .i64 (A.add n3 1), true, true, A.inR .i64 (A.sub n4 1), true, !hasB l0 n3, A.and true (Decidable.decide (List.length l0 ≤ 1000000)), true, true, !A.not (hasB (AV.toIs (A.nthA cs (A.nat n3))) n1), true, A.and true (Decidable.decide (List.length (AV.toIs (A.nthA cs (A.nat n3))) ≤ 1000000)), true, A.eqN 0 0, A.and (A.and (A.le 0 n3) (A.ltN (A.nat n3) (A.lenA cs))) (A.eqN 1 1), true, A.and (A.ltN 0 1) (A.ltN 1 2), true, A.lt n3 (A.int (A.lenA cs)), true, true, A.and (A.ltN 0 1) (A.ltN 1 2), true, true],
   f42h42_1a (n) (cs) (l0) (n1) (l2) (A.add n3 1) (A.sub n4 1), f42h42_1am (n) (cs) (l0) (n1) (l2) (A.add n3 1) (A.sub n4 1)) := by kernel_rfl
theorem f42p6 (A : Ar) (n : Int) (cs : List AV) (l0 : List Int) (n1 : Int) (l2 : List Int) (n3 : Int) (n4 : Int) : gwalkL A tab F6 37 [false, true] (f42h42_1a n cs l0 n1 l2 n3 n4) (f42h42_1am n cs l0 n1 l2 n3 n4) =
  some ([true, A.inR .i64 (A.add n1 1), true, A.and (A.ltN (A.nat n1) (A.len l2)) (A.and (A.and true (A.eqN 0 0)) (A.and (A.eqN 1 1) (A.eqN 1 1))), A.and (A.eqN 1 1) (A.and (A.le 0 n1) (A.ltN (A.nat n1) (A.len l2))), A.inR .i64 (A.sub 1 (A.nth l2 (A.nat n1))), A.and (A.ltN (A.nat n1) (A.len l2)) (A.eqN 0 0), A.and (A.eqN 1 1) (A.and (A.le 0 n1) (A.ltN (A.nat n1) (A.len l2))), true, true, true, true, A.lt 0 n4, true, true, !A.lt n3 (A.int (A.lenA cs)), true, true, A.and (A.ltN 0 1) (A.ltN 1 2), true, true],
   f42h42_0a (n) (cs) (l0) (A.add n1 1) (A.set l2 (A.nat n1) (A.sub 1 (A.nth l2 (A.nat n1)))), f42h42_0am (n) (cs) (l0) (A.add n1 1) (A.set l2 (A.nat n1) (A.sub 1 (A.nth l2 (A.nat n1))))) := by kernel_rfl
theorem f42p7 (A : Ar) (n : Int) (cs : List AV) (l0 : List Int) (n1 : Int) (l2 : List Int) (n3 : Int) (n4 : Int) : gwalkL A tab F6 27 [false, false] (f42h42_1a n cs l0 n1 l2 n3 n4) (f42h42_1am n cs l0 n1 l2 n3 n4) =
  some ([true, A.inR .i64 (A.add n1 1), true, !A.lt 0 n4, true, true, !A.lt n3 (A.int (A.lenA cs)), true, true, A.and (A.ltN 0 1) (A.ltN 1 2), true, true],
   f42h42_0a (n) (cs) (l0) (A.add n1 1) (l2), f42h42_0am (n) (cs) (l0) (A.add n1 1) (l2)) := by kernel_rfl
def f37e (n : Int) (cs : List AV) (w : List Int) : List AFrame := [{ fn := 37, N := 16, env := [(0, AV.agg (Row.gen [AV.int .i64 n, AV.list (Row.big (Sh.ints .i64) cs)])), (1, AV.list (.ints .i64 w))], todo := [.code a37.code], defs := [], rnd := none, ret := false, res := [ARes.tmp 4, ARes.tmp 5] }]
theorem f37e_at (n : Int) (cs : List AV) (w : List Int) : enterA tab 37 [AV.agg (Row.gen [AV.int .i64 n, AV.list (Row.big (Sh.ints .i64) cs)]), AV.list (.ints .i64 w)] = some { fn := 37, N := 16, env := [(0, AV.agg (Row.gen [AV.int .i64 n, AV.list (Row.big (Sh.ints .i64) cs)])), (1, AV.list (.ints .i64 w))], todo := [.code a37.code], defs := [], rnd := none, ret := false, res := [ARes.tmp 4, ARes.tmp 5] } := rfl
theorem f37p0 (A : Ar) (n : Int) (cs : List AV) (w : List Int) : gfin A tab F5 27 [true] 37 (f37e n cs w) [] =
  some ([true, true, true, true, A.not (A.eq (parE n (iss cs) w) 0), true, true, true, A.and true (Decidable.decide (List.length cs ≤ 1000000 ∧ List.all cs few1 = true ∧ List.length w ≤ 1000000)), true, A.and (A.ltN 0 1) (A.leN (A.addN 0 2) 2), true, true, A.and true (A.ltN 0 2)],
   AV.tup [AV.nils, AV.int .i64 (parE n (iss cs) w)], none) := by kernel_rfl
theorem f37p1 (A : Ar) (n : Int) (cs : List AV) (w : List Int) : gfin A tab F5 30 [false] 37 (f37e n cs w) [] =
  some ([true, true, true, A.and true (Decidable.decide (parE n (iss cs) w = 0 ∧ List.all cs few1 = true)), true, A.and (A.ltN 0 1) (A.leN (A.addN 0 2) 2), !A.not (A.eq (parE n (iss cs) w) 0), true, true, true, A.and true (Decidable.decide (List.length cs ≤ 1000000 ∧ List.all cs few1 = true ∧ List.length w ≤ 1000000)), true, A.and (A.ltN 0 1) (A.leN (A.addN 0 2) 2), true, true, A.and true (A.ltN 0 2)],
   AV.tup [AV.list (.ints .i64 (unsS w 0 (iss cs))), AV.int .i64 0], none) := by kernel_rfl
end Go.Proofs.Ytimmgjppippdiaa

/- Contracts as a list. No condition. -/
namespace Go.Proofs.Ytimmgjppippdiaa
/-! ### A round -/
def moreS (wr : List Int) (b : Nat) : Nat → List (List Int) → Int
  | _, [] => 0
  | i, l :: cs => (if hasB l b = true then (if hasB wr i = true then 1 else -1) else 0) + moreS wr b (i + 1) cs
theorem moreS_app (wr : List Int) (b : Nat) : ∀ (s : Nat) (a c : List (List Int)), moreS wr b s (a ++ c) = moreS wr b s a + moreS wr b (s + a.length) c
  | s, [], c => by simp [moreS]
  | s, l :: a, c => by
    simp only [List.cons_append, moreS, moreS_app wr b (s + 1) a c, List.length_cons]
    rw [show s + 1 + a.length = s + (a.length + 1) by omega]; omega
theorem moreS_abs (wr : List Int) (b : Nat) : ∀ (s : Nat) (c : List (List Int)), -(c.length : Int) ≤ moreS wr b s c ∧ moreS wr b s c ≤ c.length
  | s, [] => by simp [moreS]
  | s, l :: c => by
    have := moreS_abs wr b (s + 1) c
    simp only [moreS, List.length_cons]
    split
    · split <;> omega
    · omega
def vN (N : Nat) (f : Nat → Int) : List Int := (List.range N).map f
theorem vN_len (N : Nat) (f : Nat → Int) : (vN N f).length = N := by simp [vN]
theorem vN_get {N : Nat} {f : Nat → Int} {b : Nat} (h : b < N) : (vN N f).getD b 0 = f b := by simp [vN, h]
theorem vN_ge {N : Nat} {f : Nat → Int} {b : Nat} (h : b < N) : (vN N f)[b]'(by rw [vN_len]; exact h) = f b := by simp [vN]
theorem vN_set {N : Nat} {f : Nat → Int} {p : Nat} (v : Int) : (vN N f).set p v = vN N (fun b => if b = p then v else f b) := by
  apply List.ext_getElem (by simp [vN])
  intro j h1 h2
  rw [List.getElem_set]
  simp only [vN, List.getElem_map, List.getElem_range]
  by_cases h : p = j
  · subst h; simp
  · rw [if_neg h, if_neg (Ne.symm h)]
theorem vN_congr {N : Nat} {f g : Nat → Int} (h : ∀ b, b < N → f b = g b) : vN N f = vN N g := List.map_congr_left fun b hb => h b (by simpa using hb)
theorem vN_self (w : List Int) : vN w.length (fun b => w.getD b 0) = w := by
  apply List.ext_getElem (by simp [vN])
  intro j h1 h2
  simp [vN, List.getD_eq_getElem?_getD, h2]
def flipG (w wr : List Int) (cs : List (List Int)) (b : Nat) : Int := if 0 < moreS wr b 0 cs then 1 - w.getD b 0 else w.getD b 0
def flipS (w : List Int) (cs : List (List Int)) : List Int := vN w.length (flipG w (unsS w 0 cs) cs)
theorem lineE_srt {n : Int} : ∀ {l : List Int} {prev : Int}, lineE n prev l = 0 → l.Pairwise (· < ·) ∧ ∀ x ∈ l, prev < x
  | [], _, _ => ⟨List.Pairwise.nil, fun x hx => by cases hx⟩
  | q :: l, prev, h => by
    simp only [lineE] at h
    split at h
    · cases h
    · split at h
      · cases h
      · rename_i h2
        have h2 : prev < q := Decidable.not_not.1 h2
        obtain ⟨i1, i2⟩ := lineE_srt h
        refine ⟨List.Pairwise.cons i2 i1, fun x hx => ?_⟩
        rcases List.mem_cons.1 hx with e | e
        · rw [e]; exact h2
        · have := i2 x e; omega
theorem scanE_srt {n : Int} : ∀ {cs : List (List Int)} {i : Nat}, (scanE n i cs).2 = 0 → ∀ l ∈ cs, l.Pairwise (· < ·)
  | [], _, _, l, hl => by cases hl
  | c :: cs, i, h, l, hl => by
    simp only [scanE] at h
    split at h
    · cases h
    · split at h
      · rename_i h1
        rcases List.mem_cons.1 hl with e | e
        · rw [e]; exact (lineE_srt h1).1
        · exact scanE_srt h l e
      · rename_i h1; exact absurd h h1
theorem parE_srt {n : Int} {cs : List AV} {w : List Int} (h : parE n (iss cs) w = 0) : ∀ (i : Nat) (hi : i < cs.length), (cs[i].toIs).Pairwise (· < ·) := by
  unfold parE at h
  split at h
  · rename_i h1; exact absurd h h1
  · rename_i h1
    have h1 := Decidable.not_not.1 h1
    unfold chkE at h1
    split at h1
    · cases h1
    · split at h1
      · cases h1
      · exact fun i hi => scanE_srt h1 _ (by simp only [iss, List.mem_map]; exact ⟨_, List.getElem_mem hi, rfl⟩)
theorem hasB_take {l : List Int} (hs : l.Pairwise (· < ·)) {k : Nat} (hk : k < l.length) : hasB (l.take k) l[k] = false := by
  rw [hasB, List.any_eq_false]
  intro x hx
  obtain ⟨j, hj, rfl⟩ := List.getElem_of_mem hx
  rw [List.length_take] at hj
  rw [List.getElem_take]
  have := (List.pairwise_iff_getElem.1 hs) j k (by omega) hk (by omega)
  simp; omega
theorem hasB_snoc (l : List Int) {k : Nat} (hk : k < l.length) (b : Int) : hasB (l.take (k + 1)) b = (hasB (l.take k) b || decide (l[k] = b)) := by
  rw [List.take_succ_eq_append_getElem hk]
  unfold hasB
  rw [List.any_append]
  simp only [List.any_cons, List.any_nil, Bool.or_false]
theorem xor_one {a : Int} (ha : a = 0 ∨ a = 1) : std.bits .xor .i64 a 1 = 1 - a := by rcases ha with rfl | rfl <;> rfl
section
variable {C : Ctx} (hC : C.P = Try.prog) {Q : List AFrame → AHeap → Prop}
include hC
theorem l42_in (cs : List AV) (w wr : List Int) (hf : cs.all few1 = true) (h : cs.length ≤ 16) (hwr : wr.length ≤ 1000000) (N : Nat) (hN : N ≤ 24) (b : Nat) (hb : b < N) (out : List Int) (hout : out.length = N) (hbit : out.getD b 0 = 0 ∨ out.getD b 0 = 1)
    (hk : Ev C (f42h42_0a N cs wr (b + 1 : Nat) (if 0 < moreS wr b 0 (iss cs) then out.set b (1 - out.getD b 0) else out)) (f42h42_0am N cs wr (b + 1 : Nat) (if 0 < moreS wr b 0 (iss cs) then out.set b (1 - out.getD b 0) else out)) Q) : ∀ (d i : Nat) (m : Int), cs.length - i = d → i ≤ cs.length →
    -(i : Int) ≤ m → m ≤ i → m + moreS wr b i ((iss cs).drop i) = moreS wr b 0 (iss cs) → Ev C (f42h42_1a N cs wr b out i m) (f42h42_1am N cs wr b out i m) Q := by
  intro d
  induction d with
  | zero =>
    intro i m hd hi h0 h1 he
    rw [List.drop_of_length_le (by rw [iss_len]; omega)] at he
    have he : m = moreS wr b 0 (iss cs) := by simpa [moreS] using he
    have hg : out.getD b 0 = out[b]'(by omega) := by simp [List.getD_eq_getElem?_getD, hout, hb]
    by_cases h2 : 0 < m
    · rw [if_pos (he ▸ h2)] at hk
      refine go hC F6_ok (f42p6 std N cs wr b out i m) ?_ ?_
      · rw [hg] at hbit
        simp [h2, hout, hb]
        omega
      · simpa using hk
    · rw [if_neg (he ▸ h2)] at hk
      exact go hC F6_ok (f42p7 std N cs wr b out i m) (by simp; omega) hk
  | succ d ih =>
    intro i m hd hi h0 h1 he
    have hlt : i < cs.length := by omega
    have hlt2 : i < (iss cs).length := by rw [iss_len]; exact hlt
    have hg : (iss cs)[i] = cs[i].toIs := by simp [iss]
    have h26 := few_get hf hlt
    rw [List.drop_eq_getElem_cons hlt2, moreS, hg] at he
    by_cases hb1 : hasB (cs[i].toIs) b = true
    · rw [if_pos hb1] at he
      by_cases hb2 : hasB wr i = true
      · rw [if_pos hb2] at he
        exact go hC F6_ok (f42p4 std N cs wr b out i m) (by simp [hlt, hb1, hb2]; omega) (ih (i + 1) (m + 1) (by omega) (by omega) (by omega) (by omega) (by omega))
      · rw [if_neg hb2] at he
        exact go hC F6_ok (f42p5 std N cs wr b out i m) (by simp [hlt, hb1, hb2]; omega) (ih (i + 1) (m - 1) (by omega) (by omega) (by omega) (by omega) (by omega))
    · rw [if_neg hb1] at he
      exact go hC F6_ok (f42p3 std N cs wr b out i m) (by simp [hlt, hb1]; omega) (ih (i + 1) m (by omega) (by omega) (by omega) (by omega) (by omega))
theorem l42_out (cs : List AV) (w wr : List Int) (hw : w.all bitB = true) (hf : cs.all few1 = true) (h : cs.length ≤ 16) (hwr : wr.length ≤ 1000000) (hN : w.length ≤ 24) : ∀ (d b : Nat), w.length - b = d → b ≤ w.length →
    Ev C (f42h42_0a w.length cs wr b (vN w.length fun j => if j < b then flipG w wr (iss cs) j else w.getD j 0)) (f42h42_0am w.length cs wr b (vN w.length fun j => if j < b then flipG w wr (iss cs) j else w.getD j 0)) (FinQ 42 (.row 0 0) (some ⟨3, 1, .ints .i64 (vN w.length (flipG w wr (iss cs)))⟩)) := by
  intro d
  induction d with
  | zero =>
    intro b hd hb
    refine fin hC F6_ok (f42p2 std w.length cs wr b _) (by simp; omega) rfl ?_
    rw [vN_congr (g := flipG w wr (iss cs)) (fun j hj => by rw [if_pos (by omega)])]
  | succ d ih =>
    intro b hd hb
    have hlt : b < w.length := by omega
    refine go hC F6_ok (f42p1 std w.length cs wr b _) (by simp; omega) ?_
    have hg : (vN w.length fun j => if j < b then flipG w wr (iss cs) j else w.getD j 0).getD b 0 = w.getD b 0 := by rw [vN_get hlt]; simp
    refine l42_in hC cs w wr hf h hwr w.length hN b hlt _ (vN_len _ _) (by rw [hg]; exact bit_get hw b) ?_ cs.length 0 0 (by omega) (by omega) (by omega) (by omega) (by simp)
    rw [hg]
    have := ih (b + 1) (by omega) (by omega)
    split
    · rename_i h0
      rw [vN_set, vN_congr (g := fun j => if j < b + 1 then flipG w wr (iss cs) j else w.getD j 0) (fun j _ => by
        by_cases e : j = b
        · subst e; simp [flipG, h0]
        · rw [if_neg e]
          by_cases e2 : j < b
          · rw [if_pos e2, if_pos (by omega)]
          · rw [if_neg e2, if_neg (by omega)])]
      exact this
    · rename_i h0
      rw [vN_congr (g := fun j => if j < b + 1 then flipG w wr (iss cs) j else w.getD j 0) (fun j _ => by
        by_cases e : j = b
        · subst e; simp [flipG, h0]
        · by_cases e2 : j < b
          · rw [if_pos e2, if_pos (by omega)]
          · rw [if_neg e2, if_neg (by omega)])]
      exact this
/-- the votes of one check -/
theorem l116_in (cs : List AV) (w wr : List Int) (N : Nat) (hN : N ≤ 24) (i : Nat) (hi : i < 1000000) (l : List Int) (ho : okL1 N l) (hs : l.Pairwise (· < ·)) (vote : Int) (hv : vote = 1 ∨ vote = -1) (m : Nat → Int) (hm : ∀ b, -1000000 ≤ m b ∧ m b ≤ 1000000)
    (hk : Ev C (f116h116_1a cs w wr cs.length (vN N fun b => m b + if hasB l b = true then vote else 0) (i + 1 : Nat)) (f116h116_1am cs w wr cs.length (vN N fun b => m b + if hasB l b = true then vote else 0) (i + 1 : Nat)) Q) : ∀ (d k : Nat), l.length - k = d → k ≤ l.length →
    Ev C (f116h116_2a cs w wr cs.length i l l.length vote k (vN N fun b => m b + if hasB (l.take k) b = true then vote else 0)) (f116h116_2am cs w wr cs.length i l l.length vote k (vN N fun b => m b + if hasB (l.take k) b = true then vote else 0)) Q := by
  intro d
  induction d with
  | zero =>
    intro k hd hkl
    have : k = l.length := by omega
    subst this
    rw [List.take_length]
    exact go hC F5_ok (f116p5 std cs w wr cs.length i l l.length vote l.length _) (by simp; omega) hk
  | succ d ih =>
    intro k hd hkl
    have hlt : k < l.length := by omega
    obtain ⟨p0, p1⟩ := okL1_get ho hlt
    have h26 := ho.1
    have hnot := hasB_take hs hlt
    have hcast : ((l[k].toNat : Nat) : Int) = l[k] := Int.toNat_of_nonneg p0
    have hval : (vN N fun b => m b + if hasB (l.take k) b = true then vote else 0).getD (l[k].toNat) 0 = m l[k].toNat := by
      rw [vN_get p1, hcast, hnot]; simp
    have hb := hm l[k].toNat
    have next := ih (k + 1) (by omega) (by omega)
    have e : (vN N fun b => m b + if hasB (l.take (k + 1)) b = true then vote else 0) = (vN N fun b => m b + if hasB (l.take k) b = true then vote else 0).set l[k].toNat (m l[k].toNat + vote) := by
      rw [vN_set]
      refine vN_congr fun b _ => ?_
      rw [hasB_snoc l hlt]
      by_cases e : b = l[k].toNat
      · subst e
        rw [if_pos rfl, hcast]; simp
      · rw [if_neg e]
        have : ¬ l[k] = (b : Int) := fun e2 => e (by rw [e2]; simp)
        simp [this]
    rw [e] at next
    have hval2 := hval
    rw [List.getD_eq_getElem?_getD] at hval2
    refine go hC F5_ok (f116p4 std cs w wr cs.length i l l.length vote k _) ?_ ?_
    · simp only [s_nth, s_nat, s_lt, s_le, s_len, vN_len, s_inR64, s_add]
      rw [show l.getD (Int.toNat (k : Int)) 0 = l[k] by simp [List.getD_eq_getElem?_getD, hlt], hval]
      simp [hlt, p0, p1]
      omega
    · simp only [s_nth, s_nat, s_set, s_add]
      rw [show l.getD (Int.toNat (k : Int)) 0 = l[k] by simp [List.getD_eq_getElem?_getD, hlt], hval]
      exact next
end
def okP (e : Int) (l : List Int) : List Int := if e = 0 then l else []
theorem u37_ok (n : Int) (cs : List AV) (w : List Int) (h : cs.length ≤ 1000000) (hf : cs.all few1 = true) (hw : w.length ≤ 1000000) : Pure Try.prog 37 [.agg (.gen [.int .i64 n, .list (.big (.ints .i64) cs)]), .list (.ints .i64 w)] (.tup [.list (.ints .i64 (okP (parE n (iss cs) w) (unsS w 0 (iss cs)))), .int .i64 (parE n (iss cs) w)]) none := by
  by_cases h0 : parE n (iss cs) w = 0
  · exact start (f37e_at n cs w) fun C hC => fin hC F5_ok (f37p1 std n cs w) (by rw [hf, h0]; simp [h, hw]) (by rw [h0]; simp [okP]) rfl
  · exact wk_tup (start (f37e_at n cs w) fun C hC => fin hC F5_ok (f37p0 std n cs w) (by rw [hf]; simp [h, hw, h0]) rfl rfl) ⟨.nil _ (by simp [okP, h0, Row.elems]), .same _, trivial⟩
def k37 : Ctr := ⟨37, 0, fun _ a => match a with | [.agg (.gen [.int .i64 n, .list (.big (.ints .i64) cs)]), .list (.ints .i64 w)] => some (decide (cs.length ≤ 1000000 ∧ cs.all few1 = true ∧ w.length ≤ 1000000), .tup [.list (.ints .i64 (okP (parE n (iss cs) w) (unsS w 0 (iss cs)))), .int .i64 (parE n (iss cs) w)], none) | _ => none⟩
theorem k37_ok : k37.OK Try.prog := fun pa args r fr h => by
  simp only [k37] at h
  split at h
  · simp only [Option.some.injEq, Prod.mk.injEq, decide_eq_true_eq] at h
    obtain ⟨h0, rfl, rfl⟩ := h
    exact u37_ok _ _ _ h0.1 h0.2.1 h0.2.2
  · cases h
def F7 : List Ctr := [k37] ++ F5
theorem F7_ok : CtrsOK Try.prog F7 := ⟨k37_ok, F5_ok⟩
end Go.Proofs.Ytimmgjppippdiaa
