/- Paths of functions, printed by the explorer (Gx). No condition. -/
import Derived.Test.YtimmgjppippdiaaR8
import Derived.KernelRfl
namespace Go.Proofs.Ytimmgjppippdiaa
set_option maxRecDepth 100000
set_option linter.unusedVariables false
def f103e (xs : List Int) (lo : Int) (hi : Int) : List AFrame := [{ fn := 103, N := 14, env := [(0, AV.list (.ints .i64 xs)), (1, AV.int .i64 lo), (2, AV.int .i64 hi)], todo := [.code a103.code], defs := [], rnd := none, ret := false, res := [ARes.tmp 6] }]
theorem f103e_at (xs : List Int) (lo : Int) (hi : Int) : enterA tab 103 [AV.list (.ints .i64 xs), AV.int .i64 lo, AV.int .i64 hi] = some { fn := 103, N := 14, env := [(0, AV.list (.ints .i64 xs)), (1, AV.int .i64 lo), (2, AV.int .i64 hi)], todo := [.code a103.code], defs := [], rnd := none, ret := false, res := [ARes.tmp 6] } := rfl
theorem f103p0 (A : Ar) (xs : List Int) (lo : Int) (hi : Int) : gfin A tab F1 35 [] 103 (f103e xs lo hi) [] =
  some ([true, true, A.and true true, true, true, true, true, true, true, A.and (A.and true (A.and (A.and (A.and (A.ltN 0 1) true) (A.and (A.and (A.ltN 0 1) true) true)) true)) (Decidable.decide (List.length xs ≤ 1000000)), true, true, true, true, true, true, A.and true (A.ltN 0 1), A.and true (A.ltN 0 1)],
   AV.int .i64 (unlessE (A.not (A.le 0 (idxF (outP lo hi) xs 0))) 2), none) := by kernel_rfl
def f152e (xs : List Int) (v : Int) : List AFrame := [{ fn := 152, N := 9, env := [(0, AV.list (.ints .i64 xs)), (1, AV.int .i64 v)], todo := [.code a152.code], defs := [], rnd := none, ret := false, res := [ARes.tmp 4] }]
theorem f152e_at (xs : List Int) (v : Int) : enterA tab 152 [AV.list (.ints .i64 xs), AV.int .i64 v] = some { fn := 152, N := 9, env := [(0, AV.list (.ints .i64 xs)), (1, AV.int .i64 v)], todo := [.code a152.code], defs := [], rnd := none, ret := false, res := [ARes.tmp 4] } := rfl
theorem f152p0 (A : Ar) (xs : List Int) (v : Int) : gfin A tab F1 13 [] 152 (f152e xs v) [] =
  some ([true, true, true, A.and true (Decidable.decide (List.length xs ≤ 1000000)), true, true, true],
   AV.bool (A.le 0 (idxF (fun x => Decidable.decide (v = x)) xs 0)), none) := by kernel_rfl
def f117e (xs : List Int) : List AFrame := [{ fn := 117, N := 6, env := [(0, AV.list (.ints .i64 xs))], todo := [.code a117.code], defs := [], rnd := none, ret := false, res := [ARes.tmp 2] }]
theorem f117e_at (xs : List Int) : enterA tab 117 [AV.list (.ints .i64 xs)] = some { fn := 117, N := 6, env := [(0, AV.list (.ints .i64 xs))], todo := [.code a117.code], defs := [], rnd := none, ret := false, res := [ARes.tmp 2] } := rfl
theorem f117p0 (A : Ar) (xs : List Int) : gfin A tab F1 17 [true] 117 (f117e xs) [] =
  some ([true, true, A.not (List.all xs bitB), true, A.and true (Decidable.decide (List.length xs ≤ 1000000)), true, true],
   AV.int .i64 2, none) := by kernel_rfl
theorem f117p1 (A : Ar) (xs : List Int) : gfin A tab F1 18 [false] 117 (f117e xs) [] =
  some ([true, true, !A.not (List.all xs bitB), true, A.and true (Decidable.decide (List.length xs ≤ 1000000)), true, true],
   AV.int .i64 0, none) := by kernel_rfl
def f113e (cs : List AV) : List AFrame := [{ fn := 113, N := 20, env := [(0, AV.list (Row.big (Sh.ints .i64) cs))], todo := [.code a113.code], defs := [], rnd := none, ret := false, res := [ARes.tmp 2] }]
theorem f113e_at (cs : List AV) : enterA tab 113 [AV.list (Row.big (Sh.ints .i64) cs)] = some { fn := 113, N := 20, env := [(0, AV.list (Row.big (Sh.ints .i64) cs))], todo := [.code a113.code], defs := [], rnd := none, ret := false, res := [ARes.tmp 2] } := rfl
def f113h113_0a (cs : List AV) : List AFrame := [{ fn := 113, N := 20, env := [(0, AV.list (Row.big (Sh.ints .i64) cs)), (3, AV.nils), (4, AV.int .i64 0)], todo := .code (ACode.gh [] l113_0) :: k113_0, defs := [], rnd := none, ret := false, res := [ARes.tmp 2] }]
def f113h113_0am (cs : List AV) : AHeap := []
def f113h113_0b (cs : List AV) (n0 : Int) (x1 : List AV) : List AFrame := [{ fn := 113, N := 20, env := [(0, AV.list (Row.big (Sh.ints .i64) cs)), (3, AV.row 113019 0), (4, AV.int .i64 n0)], todo := .code (ACode.gh [] l113_0) :: k113_0, defs := [], rnd := none, ret := false, res := [ARes.tmp 2] }]
def f113h113_0bm (cs : List AV) (n0 : Int) (x1 : List AV) : AHeap := [(113019, { base := 0, blks := [Blk.row 25 1 (Row.big (Sh.ints .i64) x1)] })]
theorem f113p0 (A : Ar) (cs : List AV) : gwalkL A tab F1 16 [] (f113e cs) [] =
  some ([true, true, true],
   f113h113_0a (cs), f113h113_0am (cs)) := by kernel_rfl
theorem f113p1 (A : Ar) (cs : List AV) : gwalkL A tab F1 32 [true] (f113h113_0a cs) (f113h113_0am cs) =
  some ([true, A.inR .i64 (A.add 0 1), true, true, A.and (A.and true (A.eqN 1 1)) (A.and (A.leN (A.lenA [AV.list (.ints .i64 (AV.toIs (A.nthA cs (A.nat 0))))]) 4294967296) (A.ltN 0 (A.lenA [AV.list (.ints .i64 (AV.toIs (A.nthA cs (A.nat 0))))]))), List.all [AV.list (.ints .i64 (AV.toIs (A.nthA cs (A.nat 0))))] fun x => AV.bx x && Nat.beq (flatLen A x) 1, A.and true (Decidable.decide (List.length (AV.toIs (A.nthA cs (A.nat 0))) ≤ 4294967296)), A.eqN 0 0, A.and (A.and (A.le 0 0) (A.ltN (A.nat 0) (A.lenA cs))) (A.eqN 1 1), true, true, true, A.lt 0 (A.int (A.lenA cs)), true, true, true, true],
   f113h113_0b (cs) (A.add 0 1) ([AV.list (.ints .i64 (AV.toIs (A.nthA cs (A.nat 0))))]), f113h113_0bm (cs) (A.add 0 1) ([AV.list (.ints .i64 (AV.toIs (A.nthA cs (A.nat 0))))])) := by kernel_rfl
theorem f113p2 (A : Ar) (cs : List AV) : gfin A tab F1 17 [false] 113 (f113h113_0a cs) (f113h113_0am cs) =
  some ([true, true, true, !A.lt 0 (A.int (A.lenA cs)), true, true, true, true],
   AV.nils, none) := by kernel_rfl
theorem f113p3 (A : Ar) (cs : List AV) (n0 : Int) (x1 : List AV) : gwalkL A tab F1 32 [true] (f113h113_0b cs n0 x1) (f113h113_0bm cs n0 x1) =
  some ([true, A.inR .i64 (A.add n0 1), true, true, A.and (A.and true (A.eqN 1 1)) (A.and (A.eqN 25 25) (A.and (A.eqN 1 1) (A.leN (A.addN (A.lenA x1) (A.lenA [AV.list (.ints .i64 (AV.toIs (A.nthA cs (A.nat n0))))])) 4294967296))), List.all [AV.list (.ints .i64 (AV.toIs (A.nthA cs (A.nat n0))))] fun x => AV.bx x && Nat.beq (flatLen A x) 1, A.and true (Decidable.decide (List.length (AV.toIs (A.nthA cs (A.nat n0))) ≤ 4294967296)), A.eqN 0 0, A.and (A.and (A.le 0 n0) (A.ltN (A.nat n0) (A.lenA cs))) (A.eqN 1 1), true, true, true, A.lt n0 (A.int (A.lenA cs)), true, true, true, true],
   f113h113_0b (cs) (A.add n0 1) (A.appA x1 [AV.list (.ints .i64 (AV.toIs (A.nthA cs (A.nat n0))))]), f113h113_0bm (cs) (A.add n0 1) (A.appA x1 [AV.list (.ints .i64 (AV.toIs (A.nthA cs (A.nat n0))))])) := by kernel_rfl
theorem f113p4 (A : Ar) (cs : List AV) (n0 : Int) (x1 : List AV) : gfin A tab F1 17 [false] 113 (f113h113_0b cs n0 x1) (f113h113_0bm cs n0 x1) =
  some ([true, true, true, !A.lt n0 (A.int (A.lenA cs)), true, true, true, true],
   AV.row 0 0, some { e := 25, sz := 1, r := Row.big (Sh.ints .i64) x1 }) := by kernel_rfl
def f115e (n : Int) (cs : List AV) (w : List Int) : List AFrame := [{ fn := 115, N := 40, env := [(0, AV.agg (Row.gen [AV.int .i64 n, AV.list (Row.big (Sh.ints .i64) cs)])), (1, AV.list (.ints .i64 w))], todo := [.code a115.code], defs := [], rnd := none, ret := false, res := [ARes.tmp 4] }]
theorem f115e_at (n : Int) (cs : List AV) (w : List Int) : enterA tab 115 [AV.agg (Row.gen [AV.int .i64 n, AV.list (Row.big (Sh.ints .i64) cs)]), AV.list (.ints .i64 w)] = some { fn := 115, N := 40, env := [(0, AV.agg (Row.gen [AV.int .i64 n, AV.list (Row.big (Sh.ints .i64) cs)])), (1, AV.list (.ints .i64 w))], todo := [.code a115.code], defs := [], rnd := none, ret := false, res := [ARes.tmp 4] } := rfl
def f115h115_0a (cs : List AV) (w : List Int) (n0 : Int) (n1 : Int) : List AFrame := [{ fn := 115, N := 40, env := [(1, AV.list (.ints .i64 w)), (5, AV.nils), (12, AV.list (Row.big (Sh.ints .i64) cs)), (13, AV.int .i64 n0), (14, AV.int .i64 n1)], todo := .code (ACode.gh [] l115_0) :: k115_0, defs := [], rnd := none, ret := false, res := [ARes.tmp 4] }]
def f115h115_0am (cs : List AV) (w : List Int) (n0 : Int) (n1 : Int) : AHeap := []
def f115h115_1a (cs : List AV) (w : List Int) (n0 : Int) (n1 : Int) (l2 : List Int) (n3 : Int) (n4 : Int) (n5 : Int) : List AFrame := [{ fn := 115, N := 40, env := [(1, AV.list (.ints .i64 w)), (5, AV.nils), (6, AV.int .i64 n1), (8, AV.int .i64 n4), (12, AV.list (Row.big (Sh.ints .i64) cs)), (13, AV.int .i64 n0), (14, AV.int .i64 n1), (19, AV.list (.ints .i64 l2)), (20, AV.int .i64 n3), (21, AV.int .i64 n5)], todo := .code (ACode.gh [] l115_1) :: k115_1, defs := [], rnd := none, ret := false, res := [ARes.tmp 4] }]
def f115h115_1am (cs : List AV) (w : List Int) (n0 : Int) (n1 : Int) (l2 : List Int) (n3 : Int) (n4 : Int) (n5 : Int) : AHeap := []
def f115h115_0b (cs : List AV) (w : List Int) (n0 : Int) (n6 : Int) (l7 : List Int) : List AFrame := [{ fn := 115, N := 40, env := [(1, AV.list (.ints .i64 w)), (5, AV.row 115038 0), (12, AV.list (Row.big (Sh.ints .i64) cs)), (13, AV.int .i64 n0), (14, AV.int .i64 n6)], todo := .code (ACode.gh [] l115_0) :: k115_0, defs := [], rnd := none, ret := false, res := [ARes.tmp 4] }]
def f115h115_0bm (cs : List AV) (w : List Int) (n0 : Int) (n6 : Int) (l7 : List Int) : AHeap := [(115038, { base := 0, blks := [Blk.row 3 1 (.ints .i64 l7)] })]
def f115h115_1b (cs : List AV) (w : List Int) (n0 : Int) (n6 : Int) (l7 : List Int) (l8 : List Int) (n9 : Int) (n10 : Int) (n11 : Int) : List AFrame := [{ fn := 115, N := 40, env := [(1, AV.list (.ints .i64 w)), (5, AV.row 115038 0), (6, AV.int .i64 n6), (8, AV.int .i64 n10), (12, AV.list (Row.big (Sh.ints .i64) cs)), (13, AV.int .i64 n0), (14, AV.int .i64 n6), (19, AV.list (.ints .i64 l8)), (20, AV.int .i64 n9), (21, AV.int .i64 n11)], todo := .code (ACode.gh [] l115_1) :: k115_1, defs := [], rnd := none, ret := false, res := [ARes.tmp 4] }]
def f115h115_1bm (cs : List AV) (w : List Int) (n0 : Int) (n6 : Int) (l7 : List Int) (l8 : List Int) (n9 : Int) (n10 : Int) (n11 : Int) : AHeap := [(115038, { base := 0, blks := [Blk.row 3 1 (.ints .i64 l7)] })]
theorem f115p0 (A : Ar) (n : Int) (cs : List AV) (w : List Int) : gwalkL A tab F1 20 [] (f115e n cs w) [] =
  some ([true, true, A.and (A.ltN 0 1) (A.ltN 1 2), true, true, true, A.and true (A.ltN 0 2)],
   f115h115_0a (cs) (w) (A.int (A.lenA cs)) (0), f115h115_0am (cs) (w) (A.int (A.lenA cs)) (0)) := by kernel_rfl
theorem f115p1 (A : Ar) (cs : List AV) (w : List Int) (n0 : Int) (n1 : Int) : gwalkL A tab F1 32 [true] (f115h115_0a cs w n0 n1) (f115h115_0am cs w n0 n1) =
  some ([true, true, true, true, true, true, A.eqN 0 0, A.and (A.and (A.le 0 n1) (A.ltN (A.nat n1) (A.lenA cs))) (A.eqN 1 1), true, A.lt n1 n0, true],
   f115h115_1a (cs) (w) (n0) (n1) (AV.toIs (A.nthA cs (A.nat n1))) (A.int (A.len (AV.toIs (A.nthA cs (A.nat n1))))) (0) (0), f115h115_1am (cs) (w) (n0) (n1) (AV.toIs (A.nthA cs (A.nat n1))) (A.int (A.len (AV.toIs (A.nthA cs (A.nat n1))))) (0) (0)) := by kernel_rfl
theorem f115p2 (A : Ar) (cs : List AV) (w : List Int) (n0 : Int) (n1 : Int) : gfin A tab F1 14 [false] 115 (f115h115_0a cs w n0 n1) (f115h115_0am cs w n0 n1) =
  some ([true, true, true, !A.lt n1 n0, true],
   AV.nils, none) := by kernel_rfl
theorem f115p3 (A : Ar) (cs : List AV) (w : List Int) (n0 : Int) (n1 : Int) (l2 : List Int) (n3 : Int) (n4 : Int) (n5 : Int) : gwalkL A tab F1 32 [true] (f115h115_1a cs w n0 n1 l2 n3 n4 n5) (f115h115_1am cs w n0 n1 l2 n3 n4 n5) =
  some ([true, A.inR .i64 (A.add n5 1), true, true, A.eqN 0 0, A.and (A.and (A.le 0 (A.nth l2 (A.nat n5))) (A.ltN (A.nat (A.nth l2 (A.nat n5))) (A.len w))) (A.eqN 1 1), true, true, true, true, A.eqN 0 0, A.and (A.and (A.le 0 n5) (A.ltN (A.nat n5) (A.len l2))) (A.eqN 1 1), A.lt n5 n3, true],
   f115h115_1a (cs) (w) (n0) (n1) (l2) (n3) (A.bits Go.BinOp.xor .i64 n4 (A.nth w (A.nat (A.nth l2 (A.nat n5))))) (A.add n5 1), f115h115_1am (cs) (w) (n0) (n1) (l2) (n3) (A.bits Go.BinOp.xor .i64 n4 (A.nth w (A.nat (A.nth l2 (A.nat n5))))) (A.add n5 1)) := by kernel_rfl
theorem f115p4 (A : Ar) (cs : List AV) (w : List Int) (n0 : Int) (n1 : Int) (l2 : List Int) (n3 : Int) (n4 : Int) (n5 : Int) : gwalkL A tab F1 28 [false, true] (f115h115_1a cs w n0 n1 l2 n3 n4 n5) (f115h115_1am cs w n0 n1 l2 n3 n4 n5) =
  some ([true, A.inR .i64 (A.add n1 1), true, A.and (A.and true (A.eqN 1 1)) (A.and (A.leN (A.len [n1]) 4294967296) (A.ltN 0 (A.len [n1]))), List.all [AV.int .i64 n1] fun x => AV.bx x && Nat.beq (flatLen A x) 1, true, true, A.eq n4 1, true, true, !A.lt n5 n3, true],
   f115h115_0b (cs) (w) (n0) (A.add n1 1) ([n1]), f115h115_0bm (cs) (w) (n0) (A.add n1 1) ([n1])) := by kernel_rfl
theorem f115p5 (A : Ar) (cs : List AV) (w : List Int) (n0 : Int) (n1 : Int) (l2 : List Int) (n3 : Int) (n4 : Int) (n5 : Int) : gwalkL A tab F1 22 [false, false] (f115h115_1a cs w n0 n1 l2 n3 n4 n5) (f115h115_1am cs w n0 n1 l2 n3 n4 n5) =
  some ([true, A.inR .i64 (A.add n1 1), !A.eq n4 1, true, true, !A.lt n5 n3, true],
   f115h115_0a (cs) (w) (n0) (A.add n1 1), f115h115_0am (cs) (w) (n0) (A.add n1 1)) := by kernel_rfl
theorem f115p6 (A : Ar) (cs : List AV) (w : List Int) (n0 : Int) (n6 : Int) (l7 : List Int) : gwalkL A tab F1 32 [true] (f115h115_0b cs w n0 n6 l7) (f115h115_0bm cs w n0 n6 l7) =
  some ([true, true, true, true, true, true, A.eqN 0 0, A.and (A.and (A.le 0 n6) (A.ltN (A.nat n6) (A.lenA cs))) (A.eqN 1 1), true, A.lt n6 n0, true],
   f115h115_1b (cs) (w) (n0) (n6) (l7) (AV.toIs (A.nthA cs (A.nat n6))) (A.int (A.len (AV.toIs (A.nthA cs (A.nat n6))))) (0) (0), f115h115_1bm (cs) (w) (n0) (n6) (l7) (AV.toIs (A.nthA cs (A.nat n6))) (A.int (A.len (AV.toIs (A.nthA cs (A.nat n6))))) (0) (0)) := by kernel_rfl
theorem f115p7 (A : Ar) (cs : List AV) (w : List Int) (n0 : Int) (n6 : Int) (l7 : List Int) : gfin A tab F1 14 [false] 115 (f115h115_0b cs w n0 n6 l7) (f115h115_0bm cs w n0 n6 l7) =
  some ([true, true, true, !A.lt n6 n0, true],
   AV.row 0 0, some { e := 3, sz := 1, r := .ints .i64 l7 }) := by kernel_rfl
theorem f115p8 (A : Ar) (cs : List AV) (w : List Int) (n0 : Int) (n6 : Int) (l7 : List Int) (l8 : List Int) (n9 : Int) (n10 : Int) (n11 : Int) : gwalkL A tab F1 32 [true] (f115h115_1b cs w n0 n6 l7 l8 n9 n10 n11) (f115h115_1bm cs w n0 n6 l7 l8 n9 n10 n11) =
  some ([true, A.inR .i64 (A.add n11 1), true, true, A.eqN 0 0, A.and (A.and (A.le 0 (A.nth l8 (A.nat n11))) (A.ltN (A.nat (A.nth l8 (A.nat n11))) (A.len w))) (A.eqN 1 1), true, true, true, true, A.eqN 0 0, A.and (A.and (A.le 0 n11) (A.ltN (A.nat n11) (A.len l8))) (A.eqN 1 1), A.lt n11 n9, true],
   f115h115_1b (cs) (w) (n0) (n6) (l7) (l8) (n9) (A.bits Go.BinOp.xor .i64 n10 (A.nth w (A.nat (A.nth l8 (A.nat n11))))) (A.add n11 1), f115h115_1bm (cs) (w) (n0) (n6) (l7) (l8) (n9) (A.bits Go.BinOp.xor .i64 n10 (A.nth w (A.nat (A.nth l8 (A.nat n11))))) (A.add n11 1)) := by kernel_rfl
theorem f115p9 (A : Ar) (cs : List AV) (w : List Int) (n0 : Int) (n6 : Int) (l7 : List Int) (l8 : List Int) (n9 : Int) (n10 : Int) (n11 : Int) : gwalkL A tab F1 28 [false, true] (f115h115_1b cs w n0 n6 l7 l8 n9 n10 n11) (f115h115_1bm cs w n0 n6 l7 l8 n9 n10 n11) =
  some ([true, A.inR .i64 (A.add n6 1), true, A.and (A.and true (A.eqN 1 1)) (A.and (A.eqN 3 3) (A.and (A.eqN 1 1) (A.leN (A.addN (A.len l7) (A.len [n6])) 4294967296))), List.all [AV.int .i64 n6] fun x => AV.bx x && Nat.beq (flatLen A x) 1, true, true, A.eq n10 1, true, true, !A.lt n11 n9, true],
   f115h115_0b (cs) (w) (n0) (A.add n6 1) (A.app l7 [n6]), f115h115_0bm (cs) (w) (n0) (A.add n6 1) (A.app l7 [n6])) := by kernel_rfl
theorem f115p10 (A : Ar) (cs : List AV) (w : List Int) (n0 : Int) (n6 : Int) (l7 : List Int) (l8 : List Int) (n9 : Int) (n10 : Int) (n11 : Int) : gwalkL A tab F1 22 [false, false] (f115h115_1b cs w n0 n6 l7 l8 n9 n10 n11) (f115h115_1bm cs w n0 n6 l7 l8 n9 n10 n11) =
  some ([true, A.inR .i64 (A.add n6 1), !A.eq n10 1, true, true, !A.lt n11 n9, true],
   f115h115_0b (cs) (w) (n0) (A.add n6 1) (l7), f115h115_0bm (cs) (w) (n0) (A.add n6 1) (l7)) := by kernel_rfl
def f41e (n : Int) (cs : List AV) (w : List Int) : List AFrame := [{ fn := 41, N := 47, env := [(0, AV.agg (Row.gen [AV.int .i64 n, AV.list (Row.big (Sh.ints .i64) cs)])), (1, AV.list (.ints .i64 w))], todo := [.code a41.code], defs := [], rnd := none, ret := false, res := [ARes.tmp 4] }]
theorem f41e_at (n : Int) (cs : List AV) (w : List Int) : enterA tab 41 [AV.agg (Row.gen [AV.int .i64 n, AV.list (Row.big (Sh.ints .i64) cs)]), AV.list (.ints .i64 w)] = some { fn := 41, N := 47, env := [(0, AV.agg (Row.gen [AV.int .i64 n, AV.list (Row.big (Sh.ints .i64) cs)])), (1, AV.list (.ints .i64 w))], todo := [.code a41.code], defs := [], rnd := none, ret := false, res := [ARes.tmp 4] } := rfl
def f41h41_0a (n : Int) (cs : List AV) (w : List Int) (n0 : Int) : List AFrame := [{ fn := 41, N := 47, env := [(1, AV.list (.ints .i64 w)), (2, AV.ptr 41003 0 0 0), (5, AV.nils), (6, AV.int .i64 n0)], todo := .code (ACode.gh [] l41_0) :: k41_0, defs := [], rnd := none, ret := false, res := [ARes.tmp 4] }]
def f41h41_0am (n : Int) (cs : List AV) (w : List Int) (n0 : Int) : AHeap := [(41003, { base := 0, blks := [Blk.row 48 2 (Row.gen [AV.agg (Row.gen [AV.int .i64 n, AV.list (Row.big (Sh.ints .i64) cs)])])] })]
def f41h41_1a (n : Int) (cs : List AV) (w : List Int) (n0 : Int) (n1 : Int) (n2 : Int) : List AFrame := [{ fn := 41, N := 47, env := [(1, AV.list (.ints .i64 w)), (2, AV.ptr 41003 0 0 0), (5, AV.nils), (6, AV.int .i64 n0), (7, AV.int .i64 n1), (8, AV.int .i64 n2)], todo := .code (ACode.gh [] l41_1) :: k41_1, defs := [], rnd := none, ret := false, res := [ARes.tmp 4] }]
def f41h41_1am (n : Int) (cs : List AV) (w : List Int) (n0 : Int) (n1 : Int) (n2 : Int) : AHeap := [(41003, { base := 0, blks := [Blk.row 48 2 (Row.gen [AV.agg (Row.gen [AV.int .i64 n, AV.list (Row.big (Sh.ints .i64) cs)])])] })]
def f41h41_0b (n : Int) (cs : List AV) (w : List Int) (n3 : Int) (l4 : List Int) : List AFrame := [{ fn := 41, N := 47, env := [(1, AV.list (.ints .i64 w)), (2, AV.ptr 41003 0 0 0), (5, AV.row 41046 0), (6, AV.int .i64 n3)], todo := .code (ACode.gh [] l41_0) :: k41_0, defs := [], rnd := none, ret := false, res := [ARes.tmp 4] }]
def f41h41_0bm (n : Int) (cs : List AV) (w : List Int) (n3 : Int) (l4 : List Int) : AHeap := [(41003, { base := 0, blks := [Blk.row 48 2 (Row.gen [AV.agg (Row.gen [AV.int .i64 n, AV.list (Row.big (Sh.ints .i64) cs)])])] }), (41046, { base := 0, blks := [Blk.row 3 1 (.ints .i64 l4)] })]
def f41h41_1b (n : Int) (cs : List AV) (w : List Int) (n3 : Int) (l4 : List Int) (n5 : Int) (n6 : Int) : List AFrame := [{ fn := 41, N := 47, env := [(1, AV.list (.ints .i64 w)), (2, AV.ptr 41003 0 0 0), (5, AV.row 41046 0), (6, AV.int .i64 n3), (7, AV.int .i64 n5), (8, AV.int .i64 n6)], todo := .code (ACode.gh [] l41_1) :: k41_1, defs := [], rnd := none, ret := false, res := [ARes.tmp 4] }]
def f41h41_1bm (n : Int) (cs : List AV) (w : List Int) (n3 : Int) (l4 : List Int) (n5 : Int) (n6 : Int) : AHeap := [(41003, { base := 0, blks := [Blk.row 48 2 (Row.gen [AV.agg (Row.gen [AV.int .i64 n, AV.list (Row.big (Sh.ints .i64) cs)])])] }), (41046, { base := 0, blks := [Blk.row 3 1 (.ints .i64 l4)] })]
theorem f41p0 (A : Ar) (n : Int) (cs : List AV) (w : List Int) : gwalkL A tab F1 17 [] (f41e n cs w) [] =
  some ([true, true, true, A.and true (A.ltN 0 2)],
   f41h41_0a (n) (cs) (w) (0), f41h41_0am (n) (cs) (w) (0)) := by kernel_rfl
theorem f41p1 (A : Ar) (n : Int) (cs : List AV) (w : List Int) (n0 : Int) : gwalkL A tab F1 26 [true] (f41h41_0a n cs w n0) (f41h41_0am n cs w n0) =
  some ([true, true, A.lt n0 (A.int (A.lenA cs)), true, true, A.and (A.ltN 0 1) (A.ltN 1 2), true, true],
   f41h41_1a (n) (cs) (w) (n0) (0) (0), f41h41_1am (n) (cs) (w) (n0) (0) (0)) := by kernel_rfl
theorem f41p2 (A : Ar) (n : Int) (cs : List AV) (w : List Int) (n0 : Int) : gfin A tab F1 18 [false] 41 (f41h41_0a n cs w n0) (f41h41_0am n cs w n0) =
  some ([true, true, true, !A.lt n0 (A.int (A.lenA cs)), true, true, A.and (A.ltN 0 1) (A.ltN 1 2), true, true],
   AV.nils, none) := by kernel_rfl
theorem f41p3 (A : Ar) (n : Int) (cs : List AV) (w : List Int) (n0 : Int) (n1 : Int) (n2 : Int) : gwalkL A tab F1 42 [true] (f41h41_1a n cs w n0 n1 n2) (f41h41_1am n cs w n0 n1 n2) =
  some ([true, A.inR .i64 (A.add n2 1), true, true, A.inR .i64 (A.add n1 (A.nth w (A.nat (A.nth (AV.toIs (A.nthA cs (A.nat n0))) (A.nat n2))))), A.eqN 0 0, A.and (A.and (A.le 0 (A.nth (AV.toIs (A.nthA cs (A.nat n0))) (A.nat n2))) (A.ltN (A.nat (A.nth (AV.toIs (A.nthA cs (A.nat n0))) (A.nat n2))) (A.len w))) (A.eqN 1 1), A.eqN 0 0, A.and (A.and (A.le 0 n2) (A.ltN (A.nat n2) (A.len (AV.toIs (A.nthA cs (A.nat n0)))))) (A.eqN 1 1), true, A.eqN 0 0, A.and (A.and (A.le 0 n0) (A.ltN (A.nat n0) (A.lenA cs))) (A.eqN 1 1), true, A.and (A.ltN 0 1) (A.ltN 1 2), true, true, true, A.lt n2 (A.int (A.len (AV.toIs (A.nthA cs (A.nat n0))))), true, true, A.eqN 0 0, A.and (A.and (A.le 0 n0) (A.ltN (A.nat n0) (A.lenA cs))) (A.eqN 1 1), true, A.and (A.ltN 0 1) (A.ltN 1 2), true, true],
   f41h41_1a (n) (cs) (w) (n0) (A.add n1 (A.nth w (A.nat (A.nth (AV.toIs (A.nthA cs (A.nat n0))) (A.nat n2))))) (A.add n2 1), f41h41_1am (n) (cs) (w) (n0) (A.add n1 (A.nth w (A.nat (A.nth (AV.toIs (A.nthA cs (A.nat n0))) (A.nat n2))))) (A.add n2 1)) := by kernel_rfl
theorem f41p4 (A : Ar) (n : Int) (cs : List AV) (w : List Int) (n0 : Int) (n1 : Int) (n2 : Int) : gwalkL A tab F1 38 [false, true] (f41h41_1a n cs w n0 n1 n2) (f41h41_1am n cs w n0 n1 n2) =
  some ([true, A.inR .i64 (A.add n0 1), true, true, A.and (A.and true (A.eqN 1 1)) (A.and (A.leN (A.len [n0]) 4294967296) (A.ltN 0 (A.len [n0]))), List.all [AV.int .i64 n0] fun x => AV.bx x && Nat.beq (flatLen A x) 1, true, true, A.eq (A.rem n1 2) 1, true, A.not (A.eq 2 0), true, !A.lt n2 (A.int (A.len (AV.toIs (A.nthA cs (A.nat n0))))), true, true, A.eqN 0 0, A.and (A.and (A.le 0 n0) (A.ltN (A.nat n0) (A.lenA cs))) (A.eqN 1 1), true, A.and (A.ltN 0 1) (A.ltN 1 2), true, true],
   f41h41_0b (n) (cs) (w) (A.add n0 1) ([n0]), f41h41_0bm (n) (cs) (w) (A.add n0 1) ([n0])) := by kernel_rfl
theorem f41p5 (A : Ar) (n : Int) (cs : List AV) (w : List Int) (n0 : Int) (n1 : Int) (n2 : Int) : gwalkL A tab F1 32 [false, false] (f41h41_1a n cs w n0 n1 n2) (f41h41_1am n cs w n0 n1 n2) =
  some ([true, A.inR .i64 (A.add n0 1), true, !A.eq (A.rem n1 2) 1, true, A.not (A.eq 2 0), true, !A.lt n2 (A.int (A.len (AV.toIs (A.nthA cs (A.nat n0))))), true, true, A.eqN 0 0, A.and (A.and (A.le 0 n0) (A.ltN (A.nat n0) (A.lenA cs))) (A.eqN 1 1), true, A.and (A.ltN 0 1) (A.ltN 1 2), true, true],
   f41h41_0a (n) (cs) (w) (A.add n0 1), f41h41_0am (n) (cs) (w) (A.add n0 1)) := by kernel_rfl
theorem f41p6 (A : Ar) (n : Int) (cs : List AV) (w : List Int) (n3 : Int) (l4 : List Int) : gwalkL A tab F1 26 [true] (f41h41_0b n cs w n3 l4) (f41h41_0bm n cs w n3 l4) =
  some ([true, true, A.lt n3 (A.int (A.lenA cs)), true, true, A.and (A.ltN 0 1) (A.ltN 1 2), true, true],
   f41h41_1b (n) (cs) (w) (n3) (l4) (0) (0), f41h41_1bm (n) (cs) (w) (n3) (l4) (0) (0)) := by kernel_rfl
theorem f41p7 (A : Ar) (n : Int) (cs : List AV) (w : List Int) (n3 : Int) (l4 : List Int) : gfin A tab F1 18 [false] 41 (f41h41_0b n cs w n3 l4) (f41h41_0bm n cs w n3 l4) =
  some ([true, true, true, !A.lt n3 (A.int (A.lenA cs)), true, true, A.and (A.ltN 0 1) (A.ltN 1 2), true, true],
   AV.row 0 0, some { e := 3, sz := 1, r := .ints .i64 l4 }) := by kernel_rfl
theorem f41p8 (A : Ar) (n : Int) (cs : List AV) (w : List Int) (n3 : Int) (l4 : List Int) (n5 : Int) (n6 : Int) : gwalkL A tab F1 42 [true] (f41h41_1b n cs w n3 l4 n5 n6) (f41h41_1bm n cs w n3 l4 n5 n6) =
  some ([true, A.inR .i64 (A.add n6 1), true, true, A.inR .i64 (A.add n5 (A.nth w (A.nat (A.nth (AV.toIs (A.nthA cs (A.nat n3))) (A.nat n6))))), A.eqN 0 0, A.and (A.and (A.le 0 (A.nth (AV.toIs (A.nthA cs (A.nat n3))) (A.nat n6))) (A.ltN (A.nat (A.nth (AV.toIs (A.nthA cs (A.nat n3))) (A.nat n6))) (A.len w))) (A.eqN 1 1), A.eqN 0 0, A.and (A.and (A.le 0 n6) (A.ltN (A.nat n6) (A.len (AV.toIs (A.nthA cs (A.nat n3)))))) (A.eqN 1 1), true, A.eqN 0 0, A.and (A.and (A.le 0 n3) (A.ltN (A.nat n3) (A.lenA cs))) (A.eqN 1 1), true, A.and (A.ltN 0 1) (A.ltN 1 2), true, true, true, A.lt n6 (A.int (A.len (AV.toIs (A.nthA cs (A.nat n3))))), true, true, A.eqN 0 0, A.and (A.and (A.le 0 n3) (A.ltN (A.nat n3) (A.lenA cs))) (A.eqN 1 1), true, A.and (A.ltN 0 1) (A.ltN 1 2), true, true],
   f41h41_1b (n) (cs) (w) (n3) (l4) (A.add n5 (A.nth w (A.nat (A.nth (AV.toIs (A.nthA cs (A.nat n3))) (A.nat n6))))) (A.add n6 1), f41h41_1bm (n) (cs) (w) (n3) (l4) (A.add n5 (A.nth w (A.nat (A.nth (AV.toIs (A.nthA cs (A.nat n3))) (A.nat n6))))) (A.add n6 1)) := by kernel_rfl
theorem f41p9 (A : Ar) (n : Int) (cs : List AV) (w : List Int) (n3 : Int) (l4 : List Int) (n5 : Int) (n6 : Int) : gwalkL A tab F1 38 [false, true] (f41h41_1b n cs w n3 l4 n5 n6) (f41h41_1bm n cs w n3 l4 n5 n6) =
  some ([true, A.inR .i64 (A.add n3 1), true, true, A.and (A.and true (A.eqN 1 1)) (A.and (A.eqN 3 3) (A.and (A.eqN 1 1) (A.leN (A.addN (A.len l4) (A.len [n3])) 4294967296))), List.all [AV.int .i64 n3] fun x => AV.bx x && Nat.beq (flatLen A x) 1, true, true, A.eq (A.rem n5 2) 1, true, A.not (A.eq 2 0), true, !A.lt n6 (A.int (A.len (AV.toIs (A.nthA cs (A.nat n3))))), true, true, A.eqN 0 0, A.and (A.and (A.le 0 n3) (A.ltN (A.nat n3) (A.lenA cs))) (A.eqN 1 1), true, A.and (A.ltN 0 1) (A.ltN 1 2), true, true],
   f41h41_0b (n) (cs) (w) (A.add n3 1) (A.app l4 [n3]), f41h41_0bm (n) (cs) (w) (A.add n3 1) (A.app l4 [n3])) := by kernel_rfl
theorem f41p10 (A : Ar) (n : Int) (cs : List AV) (w : List Int) (n3 : Int) (l4 : List Int) (n5 : Int) (n6 : Int) : gwalkL A tab F1 32 [false, false] (f41h41_1b n cs w n3 l4 n5 n6) (f41h41_1bm n cs w n3 l4 n5 n6) =
  some ([true, A.inR .i64 (A.add n3 1), true, !A.eq (A.rem n5 2) 1, true, A.not (A.eq 2 0), true, !A.lt n6 (A.int (A.len (AV.toIs (A.nthA cs (A.nat n3))))), true, true, A.eqN 0 0, A.and (A.and (A.le 0 n3) (A.ltN (A.nat n3) (A.lenA cs))) (A.eqN 1 1), true, A.and (A.ltN 0 1) (A.ltN 1 2), true, true],
   f41h41_0b (n) (cs) (w) (A.add n3 1) (l4), f41h41_0bm (n) (cs) (w) (A.add n3 1) (l4)) := by kernel_rfl
def f39e (n : Int) (cs : List AV) : List AFrame := [{ fn := 39, N := 76, env := [(0, AV.agg (Row.gen [AV.int .i64 n, AV.list (Row.big (Sh.ints .i64) cs)]))], todo := [.code a39.code], defs := [], rnd := none, ret := false, res := [ARes.tmp 2, ARes.tmp 3] }]
theorem f39e_at (n : Int) (cs : List AV) : enterA tab 39 [AV.agg (Row.gen [AV.int .i64 n, AV.list (Row.big (Sh.ints .i64) cs)])] = some { fn := 39, N := 76, env := [(0, AV.agg (Row.gen [AV.int .i64 n, AV.list (Row.big (Sh.ints .i64) cs)]))], todo := [.code a39.code], defs := [], rnd := none, ret := false, res := [ARes.tmp 2, ARes.tmp 3] } := rfl
def f39h39_0a (n : Int) (cs : List AV) (n0 : Int) : List AFrame := [{ fn := 39, N := 76, env := [(1, AV.ptr 39002 0 0 0), (4, AV.int .i64 n0)], todo := .code (ACode.gh [] l39_0) :: k39_0, defs := [], rnd := none, ret := false, res := [ARes.tmp 2, ARes.tmp 3] }]
def f39h39_0am (n : Int) (cs : List AV) (n0 : Int) : AHeap := [(39002, { base := 0, blks := [Blk.row 48 2 (Row.gen [AV.agg (Row.gen [AV.int .i64 n, AV.list (Row.big (Sh.ints .i64) cs)])])] })]
def f39h39_1a (n : Int) (cs : List AV) (n0 : Int) (n1 : Int) : List AFrame := [{ fn := 39, N := 76, env := [(1, AV.ptr 39002 0 0 0), (4, AV.int .i64 n0), (5, AV.int .i64 n1)], todo := .code (ACode.gh [] l39_1) :: k39_1, defs := [], rnd := none, ret := false, res := [ARes.tmp 2, ARes.tmp 3] }]
def f39h39_1am (n : Int) (cs : List AV) (n0 : Int) (n1 : Int) : AHeap := [(39002, { base := 0, blks := [Blk.row 48 2 (Row.gen [AV.agg (Row.gen [AV.int .i64 n, AV.list (Row.big (Sh.ints .i64) cs)])])] })]
theorem f39p0 (A : Ar) (n : Int) (cs : List AV) : gfin A tab F1 21 [true] 39 (f39e n cs) [] =
  some ([true, true, true, A.not (Decidable.decide (1 ≤ n ∧ n ≤ 24)), true, A.and true true, A.and (A.ltN 0 1) (A.ltN 0 2), true, true, true, A.and true (A.ltN 0 2)],
   AV.tup [AV.int .i64 0, AV.int .i64 2], none) := by kernel_rfl
theorem f39p1 (A : Ar) (n : Int) (cs : List AV) : gfin A tab F1 31 [false, true] 39 (f39e n cs) [] =
  some ([true, true, true, A.lt 16 (A.int (A.lenA cs)), true, true, A.and (A.ltN 0 1) (A.ltN 1 2), true, !A.not (Decidable.decide (1 ≤ n ∧ n ≤ 24)), true, A.and true true, A.and (A.ltN 0 1) (A.ltN 0 2), true, true, true, A.and true (A.ltN 0 2)],
   AV.tup [AV.int .i64 0, AV.int .i64 8], none) := by kernel_rfl
theorem f39p2 (A : Ar) (n : Int) (cs : List AV) : gwalkL A tab F1 34 [false, false] (f39e n cs) [] =
  some ([true, !A.lt 16 (A.int (A.lenA cs)), true, true, A.and (A.ltN 0 1) (A.ltN 1 2), true, !A.not (Decidable.decide (1 ≤ n ∧ n ≤ 24)), true, A.and true true, A.and (A.ltN 0 1) (A.ltN 0 2), true, true, true, A.and true (A.ltN 0 2)],
   f39h39_0a (n) (cs) (0), f39h39_0am (n) (cs) (0)) := by kernel_rfl
theorem f39p3 (A : Ar) (n : Int) (cs : List AV) (n0 : Int) : gfin A tab F1 34 [true, true] 39 (f39h39_0a n cs n0) (f39h39_0am n cs n0) =
  some ([true, true, true, true, A.eq (A.int (A.len (AV.toIs (A.nthA cs (A.nat n0))))) 0, true, true, A.eqN 0 0, A.and (A.and (A.le 0 n0) (A.ltN (A.nat n0) (A.lenA cs))) (A.eqN 1 1), true, A.and (A.ltN 0 1) (A.ltN 1 2), true, A.lt n0 (A.int (A.lenA cs)), true, true, A.and (A.ltN 0 1) (A.ltN 1 2), true, true],
   AV.tup [AV.int .i64 n0, AV.int .i64 10], none) := by kernel_rfl
theorem f39p4 (A : Ar) (n : Int) (cs : List AV) (n0 : Int) : gwalkL A tab F1 35 [true, false] (f39h39_0a n cs n0) (f39h39_0am n cs n0) =
  some ([true, !A.eq (A.int (A.len (AV.toIs (A.nthA cs (A.nat n0))))) 0, true, true, A.eqN 0 0, A.and (A.and (A.le 0 n0) (A.ltN (A.nat n0) (A.lenA cs))) (A.eqN 1 1), true, A.and (A.ltN 0 1) (A.ltN 1 2), true, A.lt n0 (A.int (A.lenA cs)), true, true, A.and (A.ltN 0 1) (A.ltN 1 2), true, true],
   f39h39_1a (n) (cs) (n0) (0), f39h39_1am (n) (cs) (n0) (0)) := by kernel_rfl
theorem f39p5 (A : Ar) (n : Int) (cs : List AV) (n0 : Int) : gfin A tab F1 18 [false] 39 (f39h39_0a n cs n0) (f39h39_0am n cs n0) =
  some ([true, true, true, !A.lt n0 (A.int (A.lenA cs)), true, true, A.and (A.ltN 0 1) (A.ltN 1 2), true, true],
   AV.tup [AV.int .i64 0, AV.int .i64 0], none) := by kernel_rfl
theorem f39p6 (A : Ar) (n : Int) (cs : List AV) (n0 : Int) (n1 : Int) : gfin A tab F1 30 [true, true] 39 (f39h39_1a n cs n0 n1) (f39h39_1am n cs n0 n1) =
  some ([true, true, true, true, A.not (Decidable.decide (0 ≤ A.nth (AV.toIs (A.nthA cs (A.nat n0))) (A.nat n1) ∧ A.nth (AV.toIs (A.nthA cs (A.nat n0))) (A.nat n1) ≤ A.sub n 1)), true, A.and true true, A.inR .i64 (A.sub n 1), A.and (A.ltN 0 1) (A.ltN 0 2), true, A.eqN 0 0, A.and (A.and (A.le 0 n1) (A.ltN (A.nat n1) (A.len (AV.toIs (A.nthA cs (A.nat n0)))))) (A.eqN 1 1), true, A.eqN 0 0, A.and (A.and (A.le 0 n0) (A.ltN (A.nat n0) (A.lenA cs))) (A.eqN 1 1), true, A.and (A.ltN 0 1) (A.ltN 1 2), true, A.lt n1 (A.int (A.len (AV.toIs (A.nthA cs (A.nat n0))))), true, true, A.eqN 0 0, A.and (A.and (A.le 0 n0) (A.ltN (A.nat n0) (A.lenA cs))) (A.eqN 1 1), true, A.and (A.ltN 0 1) (A.ltN 1 2), true, true],
   AV.tup [AV.int .i64 n0, AV.int .i64 6], none) := by kernel_rfl
theorem f39p7 (A : Ar) (n : Int) (cs : List AV) (n0 : Int) (n1 : Int) : gfin A tab F1 35 [true, false, true, true] 39 (f39h39_1a n cs n0 n1) (f39h39_1am n cs n0 n1) =
  some ([true, true, true, true, A.le (A.nth (AV.toIs (A.nthA cs (A.nat n0))) (A.nat n1)) (A.nth (AV.toIs (A.nthA cs (A.nat n0))) (A.nat (A.sub n1 1))), true, true, A.eqN 0 0, A.and (A.and (A.le 0 (A.sub n1 1)) (A.ltN (A.nat (A.sub n1 1)) (A.len (AV.toIs (A.nthA cs (A.nat n0)))))) (A.eqN 1 1), A.inR .i64 (A.sub n1 1), true, A.eqN 0 0, A.and (A.and (A.le 0 n0) (A.ltN (A.nat n0) (A.lenA cs))) (A.eqN 1 1), true, A.and (A.ltN 0 1) (A.ltN 1 2), true, A.eqN 0 0, A.and (A.and (A.le 0 n1) (A.ltN (A.nat n1) (A.len (AV.toIs (A.nthA cs (A.nat n0)))))) (A.eqN 1 1), true, A.eqN 0 0, A.and (A.and (A.le 0 n0) (A.ltN (A.nat n0) (A.lenA cs))) (A.eqN 1 1), true, A.and (A.ltN 0 1) (A.ltN 1 2), true, A.lt 0 n1, true, true, true, !A.not (Decidable.decide (0 ≤ A.nth (AV.toIs (A.nthA cs (A.nat n0))) (A.nat n1) ∧ A.nth (AV.toIs (A.nthA cs (A.nat n0))) (A.nat n1) ≤ A.sub n 1)), true, A.and true true, A.inR .i64 (A.sub n 1), A.and (A.ltN 0 1) (A.ltN 0 2), true, A.eqN 0 0, A.and (A.and (A.le 0 n1) (A.ltN (A.nat n1) (A.len (AV.toIs (A.nthA cs (A.nat n0)))))) (A.eqN 1 1), true, A.eqN 0 0, A.and (A.and (A.le 0 n0) (A.ltN (A.nat n0) (A.lenA cs))) (A.eqN 1 1), true, A.and (A.ltN 0 1) (A.ltN 1 2), true, A.lt n1 (A.int (A.len (AV.toIs (A.nthA cs (A.nat n0))))), true, true, A.eqN 0 0, A.and (A.and (A.le 0 n0) (A.ltN (A.nat n0) (A.lenA cs))) (A.eqN 1 1), true, A.and (A.ltN 0 1) (A.ltN 1 2), true, true],
   AV.tup [AV.int .i64 n0, AV.int .i64 9], none) := by kernel_rfl
theorem f39p8 (A : Ar) (n : Int) (cs : List AV) (n0 : Int) (n1 : Int) : gwalkL A tab F1 37 [true, false, true, false] (f39h39_1a n cs n0 n1) (f39h39_1am n cs n0 n1) =
  some ([true, A.inR .i64 (A.add n1 1), true, !A.le (A.nth (AV.toIs (A.nthA cs (A.nat n0))) (A.nat n1)) (A.nth (AV.toIs (A.nthA cs (A.nat n0))) (A.nat (A.sub n1 1))), true, true, A.eqN 0 0, A.and (A.and (A.le 0 (A.sub n1 1)) (A.ltN (A.nat (A.sub n1 1)) (A.len (AV.toIs (A.nthA cs (A.nat n0)))))) (A.eqN 1 1), A.inR .i64 (A.sub n1 1), true, A.eqN 0 0, A.and (A.and (A.le 0 n0) (A.ltN (A.nat n0) (A.lenA cs))) (A.eqN 1 1), true, A.and (A.ltN 0 1) (A.ltN 1 2), true, A.eqN 0 0, A.and (A.and (A.le 0 n1) (A.ltN (A.nat n1) (A.len (AV.toIs (A.nthA cs (A.nat n0)))))) (A.eqN 1 1), true, A.eqN 0 0, A.and (A.and (A.le 0 n0) (A.ltN (A.nat n0) (A.lenA cs))) (A.eqN 1 1), true, A.and (A.ltN 0 1) (A.ltN 1 2), true, A.lt 0 n1, true, true, true, !A.not (Decidable.decide (0 ≤ A.nth (AV.toIs (A.nthA cs (A.nat n0))) (A.nat n1) ∧ A.nth (AV.toIs (A.nthA cs (A.nat n0))) (A.nat n1) ≤ A.sub n 1)), true, A.and true true, A.inR .i64 (A.sub n 1), A.and (A.ltN 0 1) (A.ltN 0 2), true, A.eqN 0 0, A.and (A.and (A.le 0 n1) (A.ltN (A.nat n1) (A.len (AV.toIs (A.nthA cs (A.nat n0)))))) (A.eqN 1 1), true, A.eqN 0 0, A.and (A.and (A.le 0 n0) (A.ltN (A.nat n0) (A.lenA cs))) (A.eqN 1 1), true, A.and (A.ltN 0 1) (A.ltN 1 2), true, A.lt n1 (A.int (A.len (AV.toIs (A.nthA cs (A.nat n0))))), true, true, A.eqN 0 0, A.and (A.and (A.le 0 n0) (A.ltN (A.nat n0) (A.lenA cs))) (A.eqN 1 1), true, A.and (A.ltN 0 1) (A.ltN 1 2), true, true],
   f39h39_1a (n) (cs) (n0) (A.add n1 1), f39h39_1am (n) (cs) (n0) (A.add n1 1)) := by kernel_rfl
theorem f39p9 (A : Ar) (n : Int) (cs : List AV) (n0 : Int) (n1 : Int) : gwalkL A tab F1 37 [true, false, false, false] (f39h39_1a n cs n0 n1) (f39h39_1am n cs n0 n1) =
  some ([true, A.inR .i64 (A.add n1 1), true, true, true, true, true, true, true, true, true, true, true, true, true, true, true, true, true, true, true, true, true, !A.lt 0 n1, true, true, true, !A.not (Decidable.decide (0 ≤ A.nth (AV.toIs (A.nthA cs (A.nat n0))) (A.nat n1) ∧ A.nth (AV.toIs (A.nthA cs (A.nat n0))) (A.nat n1) ≤ A.sub n 1)), true, A.and true true, A.inR .i64 (A.sub n 1), A.and (A.ltN 0 1) (A.ltN 0 2), true, A.eqN 0 0, A.and (A.and (A.le 0 n1) (A.ltN (A.nat n1) (A.len (AV.toIs (A.nthA cs (A.nat n0)))))) (A.eqN 1 1), true, A.eqN 0 0, A.and (A.and (A.le 0 n0) (A.ltN (A.nat n0) (A.lenA cs))) (A.eqN 1 1), true, A.and (A.ltN 0 1) (A.ltN 1 2), true, A.lt n1 (A.int (A.len (AV.toIs (A.nthA cs (A.nat n0))))), true, true, A.eqN 0 0, A.and (A.and (A.le 0 n0) (A.ltN (A.nat n0) (A.lenA cs))) (A.eqN 1 1), true, A.and (A.ltN 0 1) (A.ltN 1 2), true, true],
   f39h39_1a (n) (cs) (n0) (A.add n1 1), f39h39_1am (n) (cs) (n0) (A.add n1 1)) := by kernel_rfl
theorem f39p10 (A : Ar) (n : Int) (cs : List AV) (n0 : Int) (n1 : Int) : gwalkL A tab F1 24 [false] (f39h39_1a n cs n0 n1) (f39h39_1am n cs n0 n1) =
  some ([true, A.inR .i64 (A.add n0 1), true, !A.lt n1 (A.int (A.len (AV.toIs (A.nthA cs (A.nat n0))))), true, true, A.eqN 0 0, A.and (A.and (A.le 0 n0) (A.ltN (A.nat n0) (A.lenA cs))) (A.eqN 1 1), true, A.and (A.ltN 0 1) (A.ltN 1 2), true, true],
   f39h39_0a (n) (cs) (A.add n0 1), f39h39_0am (n) (cs) (A.add n0 1)) := by kernel_rfl
def f35e (n : Int) (cs : List AV) : List AFrame := [{ fn := 35, N := 62, env := [(0, AV.agg (Row.gen [AV.int .i64 n, AV.list (Row.big (Sh.ints .i64) cs)]))], todo := [.code a35.code], defs := [], rnd := none, ret := false, res := [ARes.tmp 2, ARes.tmp 3] }]
theorem f35e_at (n : Int) (cs : List AV) : enterA tab 35 [AV.agg (Row.gen [AV.int .i64 n, AV.list (Row.big (Sh.ints .i64) cs)])] = some { fn := 35, N := 62, env := [(0, AV.agg (Row.gen [AV.int .i64 n, AV.list (Row.big (Sh.ints .i64) cs)]))], todo := [.code a35.code], defs := [], rnd := none, ret := false, res := [ARes.tmp 2, ARes.tmp 3] } := rfl
def f35h35_0a (n : Int) (cs : List AV) (n0 : Int) (n1 : Int) : List AFrame := [{ fn := 35, N := 62, env := [(1, AV.ptr 35002 0 0 0), (26, AV.list (Row.big (Sh.ints .i64) cs)), (27, AV.int .i64 n0), (28, AV.int .i64 n1)], todo := .code (ACode.gh [] l35_0) :: k35_0, defs := [], rnd := none, ret := false, res := [ARes.tmp 2, ARes.tmp 3] }]
def f35h35_0am (n : Int) (cs : List AV) (n0 : Int) (n1 : Int) : AHeap := [(35002, { base := 0, blks := [Blk.row 48 2 (Row.gen [AV.agg (Row.gen [AV.int .i64 n, AV.list (Row.big (Sh.ints .i64) cs)])])] })]
def f35h35_1a (n : Int) (cs : List AV) (n0 : Int) (n1 : Int) (l2 : List Int) (n3 : Int) (n4 : Int) (n5 : Int) : List AFrame := [{ fn := 35, N := 62, env := [(1, AV.ptr 35002 0 0 0), (5, AV.int .i64 n1), (7, AV.int .i64 n4), (26, AV.list (Row.big (Sh.ints .i64) cs)), (27, AV.int .i64 n0), (28, AV.int .i64 n1), (37, AV.list (.ints .i64 l2)), (38, AV.int .i64 n3), (39, AV.int .i64 n5)], todo := .code (ACode.gh [] l35_1) :: k35_1, defs := [], rnd := none, ret := false, res := [ARes.tmp 2, ARes.tmp 3] }]
def f35h35_1am (n : Int) (cs : List AV) (n0 : Int) (n1 : Int) (l2 : List Int) (n3 : Int) (n4 : Int) (n5 : Int) : AHeap := [(35002, { base := 0, blks := [Blk.row 48 2 (Row.gen [AV.agg (Row.gen [AV.int .i64 n, AV.list (Row.big (Sh.ints .i64) cs)])])] })]
theorem f35p0 (A : Ar) (n : Int) (cs : List AV) : gfin A tab F1 23 [true] 35 (f35e n cs) [] =
  some ([true, true, true, true, A.not (A.eq (firstE [unlessE (Decidable.decide (1 ≤ n ∧ n ≤ 24)) 2, unlessE (A.le (A.int (A.lenA cs)) 16) 8]) 0), true, true, true, A.and (A.and true true) (Decidable.decide (List.length [unlessE (Decidable.decide (1 ≤ n ∧ n ≤ 24)) 2, unlessE (A.le (A.int (A.lenA cs)) 16) 8] ≤ 1000000)), List.all [AV.int .i64 (unlessE (Decidable.decide (1 ≤ n ∧ n ≤ 24)) 2), AV.int .i64 (unlessE (A.le (A.int (A.lenA cs)) 16) 8)] fun x => AV.bx x && Nat.beq (flatLen A x) 1, A.and true true, true, true, A.and (A.ltN 0 1) (A.ltN 1 2), true, A.and true true, A.and true true, A.and (A.ltN 0 1) (A.ltN 0 2), true, true, true, A.and true (A.ltN 0 2)],
   AV.tup [AV.int .i64 0, AV.int .i64 (firstE [unlessE (Decidable.decide (1 ≤ n ∧ n ≤ 24)) 2, unlessE (A.le (A.int (A.lenA cs)) 16) 8])], none) := by kernel_rfl
theorem f35p1 (A : Ar) (n : Int) (cs : List AV) : gwalkL A tab F1 28 [false] (f35e n cs) [] =
  some ([true, true, A.and (A.ltN 0 1) (A.ltN 1 2), true, !A.not (A.eq (firstE [unlessE (Decidable.decide (1 ≤ n ∧ n ≤ 24)) 2, unlessE (A.le (A.int (A.lenA cs)) 16) 8]) 0), true, true, true, A.and (A.and true true) (Decidable.decide (List.length [unlessE (Decidable.decide (1 ≤ n ∧ n ≤ 24)) 2, unlessE (A.le (A.int (A.lenA cs)) 16) 8] ≤ 1000000)), List.all [AV.int .i64 (unlessE (Decidable.decide (1 ≤ n ∧ n ≤ 24)) 2), AV.int .i64 (unlessE (A.le (A.int (A.lenA cs)) 16) 8)] fun x => AV.bx x && Nat.beq (flatLen A x) 1, A.and true true, true, true, A.and (A.ltN 0 1) (A.ltN 1 2), true, A.and true true, A.and true true, A.and (A.ltN 0 1) (A.ltN 0 2), true, true, true, A.and true (A.ltN 0 2)],
   f35h35_0a (n) (cs) (A.int (A.lenA cs)) (0), f35h35_0am (n) (cs) (A.int (A.lenA cs)) (0)) := by kernel_rfl
theorem f35p2 (A : Ar) (n : Int) (cs : List AV) (n0 : Int) (n1 : Int) : gfin A tab F1 33 [true, true] 35 (f35h35_0a n cs n0 n1) (f35h35_0am n cs n0 n1) =
  some ([true, true, true, true, A.eq (A.int (A.len (AV.toIs (A.nthA cs (A.nat n1))))) 0, true, true, true, true, true, A.eqN 0 0, A.and (A.and (A.le 0 n1) (A.ltN (A.nat n1) (A.lenA cs))) (A.eqN 1 1), true, A.lt n1 n0, true],
   AV.tup [AV.int .i64 n1, AV.int .i64 10], none) := by kernel_rfl
theorem f35p3 (A : Ar) (n : Int) (cs : List AV) (n0 : Int) (n1 : Int) : gwalkL A tab F1 40 [true, false] (f35h35_0a n cs n0 n1) (f35h35_0am n cs n0 n1) =
  some ([true, true, true, true, !A.eq (A.int (A.len (AV.toIs (A.nthA cs (A.nat n1))))) 0, true, true, true, true, true, A.eqN 0 0, A.and (A.and (A.le 0 n1) (A.ltN (A.nat n1) (A.lenA cs))) (A.eqN 1 1), true, A.lt n1 n0, true],
   f35h35_1a (n) (cs) (n0) (n1) (AV.toIs (A.nthA cs (A.nat n1))) (A.int (A.len (AV.toIs (A.nthA cs (A.nat n1))))) (-1) (0), f35h35_1am (n) (cs) (n0) (n1) (AV.toIs (A.nthA cs (A.nat n1))) (A.int (A.len (AV.toIs (A.nthA cs (A.nat n1))))) (-1) (0)) := by kernel_rfl
theorem f35p4 (A : Ar) (n : Int) (cs : List AV) (n0 : Int) (n1 : Int) : gfin A tab F1 14 [false] 35 (f35h35_0a n cs n0 n1) (f35h35_0am n cs n0 n1) =
  some ([true, true, true, !A.lt n1 n0, true],
   AV.tup [AV.int .i64 0, AV.int .i64 0], none) := by kernel_rfl
theorem f35p5 (A : Ar) (n : Int) (cs : List AV) (n0 : Int) (n1 : Int) (l2 : List Int) (n3 : Int) (n4 : Int) (n5 : Int) : gfin A tab F1 48 [true, true] 35 (f35h35_1a n cs n0 n1 l2 n3 n4 n5) (f35h35_1am n cs n0 n1 l2 n3 n4 n5) =
  some ([true, true, true, true, true, A.not (A.eq (firstE [unlessE (Decidable.decide (0 ≤ A.nth l2 (A.nat n5) ∧ A.nth l2 (A.nat n5) ≤ A.sub n 1)) 6, unlessE (A.lt n4 (A.nth l2 (A.nat n5))) 9]) 0), true, true, true, A.and (A.and true true) (Decidable.decide (List.length [unlessE (Decidable.decide (0 ≤ A.nth l2 (A.nat n5) ∧ A.nth l2 (A.nat n5) ≤ A.sub n 1)) 6, unlessE (A.lt n4 (A.nth l2 (A.nat n5))) 9] ≤ 1000000)), List.all [AV.int .i64 (unlessE (Decidable.decide (0 ≤ A.nth l2 (A.nat n5) ∧ A.nth l2 (A.nat n5) ≤ A.sub n 1)) 6), AV.int .i64 (unlessE (A.lt n4 (A.nth l2 (A.nat n5))) 9)] fun x => AV.bx x && Nat.beq (flatLen A x) 1, A.and true true, true, true, true, A.and true true, A.and true true, A.inR .i64 (A.sub n 1), A.and (A.ltN 0 1) (A.ltN 0 2), true, true, true, A.eqN 0 0, A.and (A.and (A.le 0 n5) (A.ltN (A.nat n5) (A.len l2))) (A.eqN 1 1), A.lt n5 n3, true],
   AV.tup [AV.int .i64 n1, AV.int .i64 (firstE [unlessE (Decidable.decide (0 ≤ A.nth l2 (A.nat n5) ∧ A.nth l2 (A.nat n5) ≤ A.sub n 1)) 6, unlessE (A.lt n4 (A.nth l2 (A.nat n5))) 9])], none) := by kernel_rfl
theorem f35p6 (A : Ar) (n : Int) (cs : List AV) (n0 : Int) (n1 : Int) (l2 : List Int) (n3 : Int) (n4 : Int) (n5 : Int) : gwalkL A tab F1 52 [true, false] (f35h35_1a n cs n0 n1 l2 n3 n4 n5) (f35h35_1am n cs n0 n1 l2 n3 n4 n5) =
  some ([true, A.inR .i64 (A.add n5 1), true, true, !A.not (A.eq (firstE [unlessE (Decidable.decide (0 ≤ A.nth l2 (A.nat n5) ∧ A.nth l2 (A.nat n5) ≤ A.sub n 1)) 6, unlessE (A.lt n4 (A.nth l2 (A.nat n5))) 9]) 0), true, true, true, A.and (A.and true true) (Decidable.decide (List.length [unlessE (Decidable.decide (0 ≤ A.nth l2 (A.nat n5) ∧ A.nth l2 (A.nat n5) ≤ A.sub n 1)) 6, unlessE (A.lt n4 (A.nth l2 (A.nat n5))) 9] ≤ 1000000)), List.all [AV.int .i64 (unlessE (Decidable.decide (0 ≤ A.nth l2 (A.nat n5) ∧ A.nth l2 (A.nat n5) ≤ A.sub n 1)) 6), AV.int .i64 (unlessE (A.lt n4 (A.nth l2 (A.nat n5))) 9)] fun x => AV.bx x && Nat.beq (flatLen A x) 1, A.and true true, true, true, true, A.and true true, A.and true true, A.inR .i64 (A.sub n 1), A.and (A.ltN 0 1) (A.ltN 0 2), true, true, true, A.eqN 0 0, A.and (A.and (A.le 0 n5) (A.ltN (A.nat n5) (A.len l2))) (A.eqN 1 1), A.lt n5 n3, true],
   f35h35_1a (n) (cs) (n0) (n1) (l2) (n3) (A.nth l2 (A.nat n5)) (A.add n5 1), f35h35_1am (n) (cs) (n0) (n1) (l2) (n3) (A.nth l2 (A.nat n5)) (A.add n5 1)) := by kernel_rfl
theorem f35p7 (A : Ar) (n : Int) (cs : List AV) (n0 : Int) (n1 : Int) (l2 : List Int) (n3 : Int) (n4 : Int) (n5 : Int) : gwalkL A tab F1 15 [false] (f35h35_1a n cs n0 n1 l2 n3 n4 n5) (f35h35_1am n cs n0 n1 l2 n3 n4 n5) =
  some ([true, A.inR .i64 (A.add n1 1), !A.lt n5 n3, true],
   f35h35_0a (n) (cs) (n0) (A.add n1 1), f35h35_0am (n) (cs) (n0) (A.add n1 1)) := by kernel_rfl
end Go.Proofs.Ytimmgjppippdiaa

/- Contracts as a list. No condition. -/
namespace Go.Proofs.Ytimmgjppippdiaa
/-- a row that comes back, read as a list -/
theorem frz_row {f : FuncId} {args : List AV} {e sz : Nat} {r : Row} (h : Pure Try.prog f args (.row 0 0) (some ⟨e, sz + 1, r⟩)) (hp : r.pure = true) : Pure Try.prog f args (.list r) none := by
  intro w okA L vs hargs hok
  refine (h w okA L vs hargs hok).mono ?_
  rintro e' w' ⟨x, L', rfl, hb, hpo⟩
  obtain ⟨H, hr⟩ : HRel ⟨Try.prog, w, okA, []⟩ (frHeap (some ⟨e, sz + 1, r⟩)) L' w' ∧ RelC ⟨Try.prog, w, okA, []⟩ (frHeap (some ⟨e, sz + 1, r⟩)) L' w' (.row 0 0) x := hpo
  refine ⟨x, L', rfl, hb, ?_⟩
  show HRel _ (frHeap none) L' w' ∧ RelC _ (frHeap none) L' w' (.list r) x
  refine ⟨H.nil, ?_⟩
  have hbk : blk (frHeap (some ⟨e, sz + 1, r⟩)) 0 0 = .row e (sz + 1) r := rfl
  obtain ⟨ht, h0, h1, h2, h3, cur, h4, h5, h6, h7, h8⟩ := H.rowAt hbk
  have hl := H.live 0 0 (by rw [ht]; simp)
  cases hr with
  | row _ _ g o n c hn hlv =>
    obtain ⟨rfl, rfl, rfl, rfl⟩ := hlv.2 _ ht
    have hpa := pureL_flatAll hp
    exact .list r _ rfl ⟨L'.loc 0 0, 0, none⟩ _ _ (sz + 1) _ hl.2 (.inr ⟨hl.1, fun a i ht => absurd rfl ht⟩) rfl hn h3 h6.1.symm h7 (fun j v hj => h8 j v hj) hpa
      (fun j u v hu hv => ((h6.2 j u v hu hv).okmono (fun g _ ho => okOf_nil ho)).pure (AV.pureL_mem hpa hu))
theorem frz_nil {f : FuncId} {args : List AV} {r : Row} (h : Pure Try.prog f args .nils none) (hr : r.elems = []) : Pure Try.prog f args (.list r) none := by
  intro w okA L vs hargs hok
  refine (h w okA L vs hargs hok).mono ?_
  rintro e' w' ⟨x, L', rfl, hb, hpo⟩
  have hpo : HRel ⟨Try.prog, w, okA, []⟩ (frHeap none) L' w' ∧ RelC ⟨Try.prog, w, okA, []⟩ (frHeap none) L' w' .nils x := hpo
  exact ⟨x, L', rfl, hb, ⟨hpo.1, (Wk1.nil r hr).rel hpo.2⟩⟩
/-- nil, if there is nothing -/
def rvN : List Int → AV
  | [] => .nils
  | _ :: _ => .row 0 0
def rfN : List Int → Option Fresh
  | [] => none
  | x :: xs => some ⟨3, 1, .ints .i64 (x :: xs)⟩
theorem rvN_ne {o : List Int} (h : o ≠ []) : rvN o = .row 0 0 ∧ rfN o = some ⟨3, 1, .ints .i64 o⟩ := by
  cases o with
  | nil => exact absurd rfl h
  | cons x xs => exact ⟨rfl, rfl⟩
theorem pureN {f : FuncId} {args : List AV} {o : List Int} (h : Pure Try.prog f args (rvN o) (rfN o)) : Pure Try.prog f args (.list (.ints .i64 o)) newF := by
  cases o with
  | nil => exact new_nil h rfl
  | cons x xs => exact new_row (sz := 0) h rfl rfl
/-! ### Errors of numbers -/
def rngE (xs : List Int) (lo hi : Int) : Int := if xs.all (fun x => decide (lo ≤ x ∧ x ≤ hi)) = true then 0 else 2
theorem rng_ok (xs : List Int) (lo hi : Int) (h : xs.length ≤ 1000000) : Pure Try.prog 103 [.list (.ints .i64 xs), .int .i64 lo, .int .i64 hi] (.int .i64 (rngE xs lo hi)) none :=
  start (f103e_at xs lo hi) fun C hC => fin hC F1_ok (f103p0 std xs lo hi) (by simp [h]) (by
    have hn := @idxF_neg (outP lo hi) xs 0
    have hall : xs.all (fun x => decide (lo ≤ x ∧ x ≤ hi)) = true ↔ ∀ x ∈ xs, outP lo hi x = false := by simp [outP]
    by_cases h0 : idxF (outP lo hi) xs 0 < 0
    · rw [rngE, if_pos (hall.2 (hn.1 h0))]
      have : ¬ 0 ≤ idxF (outP lo hi) xs 0 := by omega
      simp [unlessE, this]
    · rw [rngE, if_neg (fun h => h0 (hn.2 (hall.1 h)))]
      have : 0 ≤ idxF (outP lo hi) xs 0 := by omega
      simp [unlessE, this]) rfl
theorem contains_ok (xs : List Int) (v : Int) (h : xs.length ≤ 1000000) : Pure Try.prog 152 [.list (.ints .i64 xs), .int .i64 v] (.bool (hasB xs v)) none :=
  start (f152e_at xs v) fun C hC => fin hC F1_ok (f152p0 std xs v) (by simp [h]) (by
    have hn := @idxF_neg (fun x => decide (v = x)) xs 0
    have hany : hasB xs v = false ↔ ∀ x ∈ xs, decide (v = x) = false := by
      simp [hasB]; exact ⟨fun h x hx e => h x hx e.symm, fun h x hx e => h x hx e.symm⟩
    by_cases h0 : idxF (fun x => decide (v = x)) xs 0 < 0
    · rw [hany.2 (hn.1 h0)]
      have : ¬ 0 ≤ idxF (fun x => decide (v = x)) xs 0 := by omega
      simp [this]
    · have h1 : hasB xs v = true := by
        cases hb : hasB xs v with
        | true => rfl
        | false => exact absurd (hn.2 (hany.1 hb)) h0
      rw [h1]
      have : 0 ≤ idxF (fun x => decide (v = x)) xs 0 := by omega
      simp [this]) rfl
def bitE (xs : List Int) : Int := if xs.all bitB = true then 0 else 2
theorem are_ok (xs : List Int) (h : xs.length ≤ 1000000) : Pure Try.prog 117 [.list (.ints .i64 xs)] (.int .i64 (bitE xs)) none :=
  start (f117e_at xs) fun C hC => by
    by_cases hb : xs.all bitB = true
    · exact fin hC F1_ok (f117p1 std xs) (by simp only [hb]; simp [h]) (by rw [bitE, if_pos hb]) rfl
    · exact fin hC F1_ok (f117p0 std xs) (by rw [Bool.not_eq_true] at hb; simp only [hb]; simp [h]) (by rw [bitE, if_neg hb]) rfl
/-! ### Copies of lists -/
def cpy (cs : List AV) : List AV := cs.map fun v => .list (.ints .i64 v.toIs)
theorem iss_cpy (cs : List AV) : iss (cpy cs) = iss cs := by simp [iss, cpy, AV.toIs]
theorem few_get {cs : List AV} (h : cs.all few1 = true) {i : Nat} (hi : i < cs.length) : (cs[i].toIs).length ≤ 26 := by
  have := List.all_eq_true.1 h cs[i] (List.getElem_mem hi)
  simpa [few1] using this
theorem l113 {C : Ctx} (hC : C.P = Try.prog) (cs : List AV) (h : cs.length ≤ 1000000) (hf : cs.all few1 = true) : ∀ (d i : Nat), cs.length - i = d → i ≤ cs.length →
    Ev C (f113h113_0b cs i (cpy (cs.take i))) (f113h113_0bm cs i (cpy (cs.take i))) (FinQ 113 (.row 0 0) (some ⟨25, 1, .big (.ints .i64) (cpy cs)⟩)) := by
  intro d
  induction d with
  | zero =>
    intro i hd hi
    have : i = cs.length := by omega
    subst this
    rw [List.take_length]
    exact fin hC F1_ok (f113p4 std cs cs.length (cpy cs)) (by simp) rfl rfl
  | succ d ih =>
    intro i hd hi
    have hlt : i < cs.length := by omega
    have hf1 := few_get hf hlt
    refine go hC F1_ok (f113p3 std cs i (cpy (cs.take i))) (by simp [hlt, cpy, List.all_cons, AV.bx, flatLen]; omega) ?_
    have := ih (i + 1) (by omega) (by omega)
    have e : cpy (cs.take (i + 1)) = std.appA (cpy (cs.take i)) [.list (.ints .i64 (AV.toIs (std.nthA cs (std.nat (i : Int)))))] := by
      show cpy _ = cpy _ ++ _
      unfold cpy
      rw [List.take_succ_eq_append_getElem hlt, List.map_append]
      congr 1
      simp [hlt]
    rw [e] at this
    exact this
theorem copies_ok (cs : List AV) (h : cs.length ≤ 1000000) (hf : cs.all few1 = true) : Pure Try.prog 113 [.list (.big (.ints .i64) cs)] (.list (.big (.ints .i64) (cpy cs))) none := by
  by_cases h0 : cs = []
  · subst h0
    exact frz_nil (start (f113e_at []) fun C hC => go hC F1_ok (f113p0 std []) (by simp) (fin hC F1_ok (f113p2 std []) (by simp) rfl rfl)) rfl
  · have hlt : 0 < cs.length := List.length_pos_iff.2 h0
    have hf1 := few_get hf hlt
    refine frz_row (e := 25) (sz := 0) (start (f113e_at cs) fun C hC => go hC F1_ok (f113p0 std cs) (by simp) (go hC F1_ok (f113p1 std cs) (by simp [hlt, AV.bx, flatLen]; omega) ?_)) rfl
    have := l113 hC cs h hf (cs.length - 1) 1 (by omega) (by omega)
    have e : cpy (cs.take 1) = [.list (.ints .i64 (AV.toIs (std.nthA cs (std.nat 0))))] := by
      cases cs with
      | nil => exact absurd rfl h0
      | cons c t => simp [cpy]
    rw [e] at this
    exact this
def k103 : Ctr := ⟨103, 0, fun _ a => match a with | [.list (.ints .i64 xs), .int .i64 lo, .int .i64 hi] => some (decide (xs.length ≤ 1000000), .int .i64 (rngE xs lo hi), none) | _ => none⟩
theorem k103_ok : k103.OK Try.prog := fun pa args r fr h => by
  simp only [k103] at h
  split at h
  · simp only [Option.some.injEq, Prod.mk.injEq, decide_eq_true_eq] at h
    obtain ⟨h0, rfl, rfl⟩ := h
    exact rng_ok _ _ _ h0
  · cases h
def k152 : Ctr := ⟨152, 0, fun _ a => match a with | [.list (.ints .i64 xs), .int .i64 v] => some (decide (xs.length ≤ 1000000), .bool (hasB xs v), none) | _ => none⟩
theorem k152_ok : k152.OK Try.prog := fun pa args r fr h => by
  simp only [k152] at h
  split at h
  · simp only [Option.some.injEq, Prod.mk.injEq, decide_eq_true_eq] at h
    obtain ⟨h0, rfl, rfl⟩ := h
    exact contains_ok _ _ h0
  · cases h
def k117 : Ctr := ⟨117, 0, fun _ a => match a with | [.list (.ints .i64 xs)] => some (decide (xs.length ≤ 1000000), .int .i64 (bitE xs), none) | _ => none⟩
theorem k117_ok : k117.OK Try.prog := fun pa args r fr h => by
  simp only [k117] at h
  split at h
  · simp only [Option.some.injEq, Prod.mk.injEq, decide_eq_true_eq] at h
    obtain ⟨h0, rfl, rfl⟩ := h
    exact are_ok _ h0
  · cases h
def k113 : Ctr := ⟨113, 0, fun _ a => match a with | [.list (.big (.ints .i64) cs)] => some (decide (cs.length ≤ 1000000 ∧ cs.all few1 = true), .list (.big (.ints .i64) (cpy cs)), none) | _ => none⟩
theorem k113_ok : k113.OK Try.prog := fun pa args r fr h => by
  simp only [k113] at h
  split at h
  · simp only [Option.some.injEq, Prod.mk.injEq, decide_eq_true_eq] at h
    obtain ⟨h0, rfl, rfl⟩ := h
    exact copies_ok _ h0.1 h0.2
  · cases h
def F2 : List Ctr := [k103, k152, k117, k113] ++ F1
theorem F2_ok : CtrsOK Try.prog F2 := ⟨k103_ok, ⟨k152_ok, ⟨k117_ok, ⟨k113_ok, F1_ok⟩⟩⟩⟩
end Go.Proofs.Ytimmgjppippdiaa
