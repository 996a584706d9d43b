/- Paths of functions, printed by the explorer (Gx). No condition. -/
import Derived.Test.YtjhdnpmojhkbjaaM5
import Derived.KernelRfl
namespace Go.Proofs.Ytjhdnpmojhkbjaa
set_option maxRecDepth 100000
set_option linter.unusedVariables false
def f140e (xs : List AV) (a : Int) (m : Int) (b : Int) : List AFrame := [{ fn := 140, N := 220, env := [(0, AV.row 0 0), (1, AV.int .i64 a), (2, AV.int .i64 m), (3, AV.int .i64 b), (4, AV.fn 119 [])], todo := [.code a140.code], defs := [], rnd := none, ret := false, res := [] }]
theorem f140e_at (xs : List AV) (a : Int) (m : Int) (b : Int) : enterA tab 140 [AV.row 0 0, AV.int .i64 a, AV.int .i64 m, AV.int .i64 b, AV.fn 119 []] = some { fn := 140, N := 220, env := [(0, AV.row 0 0), (1, AV.int .i64 a), (2, AV.int .i64 m), (3, AV.int .i64 b), (4, AV.fn 119 [])], todo := [.code a140.code], defs := [], rnd := none, ret := false, res := [] } := rfl
def f140em (xs : List AV) (a : Int) (m : Int) (b : Int) : AHeap := [(0, { base := 0, blks := [Blk.row 140 5 (Row.big (Sh.agg [Sh.int .i64, Sh.int .i64, Sh.int .i64, Sh.ints .i64, Sh.int .i64]) xs)] })]
def f140h140_4a (xs : List AV) (a : Int) (n0 : Int) (n1 : Int) : List AFrame := [{ fn := 140, N := 220, env := [(0, AV.row 0 0), (1, AV.int .i64 a), (4, AV.fn 119 []), (10, AV.int .i64 n0), (11, AV.int .i64 n1)], todo := .code (ACode.gh [] l140_4) :: k140_4, defs := [], rnd := none, ret := false, res := [] }]
def f140h140_4am (xs : List AV) (a : Int) (n0 : Int) (n1 : Int) : AHeap := [(0, { base := 0, blks := [Blk.row 140 5 (Row.big (Sh.agg [Sh.int .i64, Sh.int .i64, Sh.int .i64, Sh.ints .i64, Sh.int .i64]) xs)] })]
def f140h140_2a (xs : List AV) (m : Int) (n2 : Int) (n3 : Int) : List AFrame := [{ fn := 140, N := 220, env := [(0, AV.row 0 0), (2, AV.int .i64 m), (4, AV.fn 119 []), (14, AV.int .i64 n2), (15, AV.int .i64 n3)], todo := .code (ACode.gh [] l140_2) :: k140_2, defs := [], rnd := none, ret := false, res := [] }]
def f140h140_2am (xs : List AV) (m : Int) (n2 : Int) (n3 : Int) : AHeap := [(0, { base := 0, blks := [Blk.row 140 5 (Row.big (Sh.agg [Sh.int .i64, Sh.int .i64, Sh.int .i64, Sh.ints .i64, Sh.int .i64]) xs)] })]
def f140h140_0a (xs : List AV) (a : Int) (m : Int) (b : Int) (n4 : Int) (n5 : Int) (n6 : Int) (n7 : Int) (n8 : Int) : List AFrame := [{ fn := 140, N := 220, env := [(0, AV.row 0 0), (1, AV.int .i64 a), (2, AV.int .i64 m), (3, AV.int .i64 b), (4, AV.fn 119 []), (18, AV.int .i64 n4), (19, AV.int .i64 n5), (20, AV.int .i64 n6), (21, AV.int .i64 n7), (22, AV.int .i64 n8)], todo := .code (ACode.gh [] l140_0) :: k140_0, defs := [], rnd := none, ret := false, res := [] }]
def f140h140_0am (xs : List AV) (a : Int) (m : Int) (b : Int) (n4 : Int) (n5 : Int) (n6 : Int) (n7 : Int) (n8 : Int) : AHeap := [(0, { base := 0, blks := [Blk.row 140 5 (Row.big (Sh.agg [Sh.int .i64, Sh.int .i64, Sh.int .i64, Sh.ints .i64, Sh.int .i64]) xs)] })]
def f140h140_3a (n0 : Int) (n9 : Int) (x10 : List AV) : List AFrame := [{ fn := 140, N := 220, env := [(0, AV.row 0 0), (10, AV.int .i64 n0), (13, AV.int .i64 n9)], todo := .code (ACode.gh [] l140_3) :: k140_3, defs := [], rnd := none, ret := false, res := [] }]
def f140h140_3am (n0 : Int) (n9 : Int) (x10 : List AV) : AHeap := [(0, { base := 0, blks := [Blk.row 140 5 (Row.big (Sh.agg [Sh.int .i64, Sh.int .i64, Sh.int .i64, Sh.ints .i64, Sh.int .i64]) x10)] })]
def f140h140_1a (n2 : Int) (n11 : Int) (x12 : List AV) : List AFrame := [{ fn := 140, N := 220, env := [(0, AV.row 0 0), (14, AV.int .i64 n2), (17, AV.int .i64 n11)], todo := .code (ACode.gh [] l140_1) :: k140_1, defs := [], rnd := none, ret := false, res := [] }]
def f140h140_1am (n2 : Int) (n11 : Int) (x12 : List AV) : AHeap := [(0, { base := 0, blks := [Blk.row 140 5 (Row.big (Sh.agg [Sh.int .i64, Sh.int .i64, Sh.int .i64, Sh.ints .i64, Sh.int .i64]) x12)] })]
theorem f140p0 (A : Ar) (N : Nat) (xs : List AV) (a : Int) (m : Int) (b : Int) : gwalkL A tab (BO5 N) 23 [true] (f140e xs a m b) (f140em xs a m b) =
  some ([true, true, true, true, A.eq (A.sub m a) 1, true, A.inR .i64 (A.sub m a), true, true],
   f140h140_4a (xs) (a) (m) (b), f140h140_4am (xs) (a) (m) (b)) := by kernel_rfl
theorem f140p1 (A : Ar) (N : Nat) (xs : List AV) (a : Int) (m : Int) (b : Int) : gwalkL A tab (BO5 N) 33 [false, true] (f140e xs a m b) (f140em xs a m b) =
  some ([true, true, true, true, A.eq (A.sub b m) 1, true, A.inR .i64 (A.sub b m), true, true, !A.eq (A.sub m a) 1, true, A.inR .i64 (A.sub m a), true, true],
   f140h140_2a (xs) (m) (a) (m), f140h140_2am (xs) (m) (a) (m)) := by kernel_rfl
theorem f140p2 (A : Ar) (N : Nat) (xs : List AV) (a : Int) (m : Int) (b : Int) : gwalkL A tab (BO5 N) 72 [false, false, true] (f140e xs a m b) (f140em xs a m b) =
  some ([true, A.inR .i64 (A.sub (A.add (A.shr (A.add a b) 1) m) 1), true, true, true, true, A.inR .i64 (A.sub (A.add (A.shr (A.add a b) 1) m) b), true, true, A.lt (A.shr (A.add a b) 1) m, true, true, true, true, true, true, A.inR .i64 (A.add (A.shr (A.add a b) 1) m), true, true, true, A.inR .i64 (A.shr (A.add a b) 1), A.and (A.le 0 1) (A.ltN (A.nat 1) 64), A.inR .u64 (A.add a b), A.inR .i64 (A.add a b), true, true, !A.eq (A.sub b m) 1, true, A.inR .i64 (A.sub b m), true, true, !A.eq (A.sub m a) 1, true, A.inR .i64 (A.sub m a), true, true],
   f140h140_0a (xs) (a) (m) (b) (A.shr (A.add a b) 1) (A.add (A.shr (A.add a b) 1) m) (A.sub (A.add (A.shr (A.add a b) 1) m) b) (A.shr (A.add a b) 1) (A.sub (A.add (A.shr (A.add a b) 1) m) 1), f140h140_0am (xs) (a) (m) (b) (A.shr (A.add a b) 1) (A.add (A.shr (A.add a b) 1) m) (A.sub (A.add (A.shr (A.add a b) 1) m) b) (A.shr (A.add a b) 1) (A.sub (A.add (A.shr (A.add a b) 1) m) 1)) := by kernel_rfl
theorem f140p3 (A : Ar) (N : Nat) (xs : List AV) (a : Int) (m : Int) (b : Int) : gwalkL A tab (BO5 N) 70 [false, false, false] (f140e xs a m b) (f140em xs a m b) =
  some ([true, A.inR .i64 (A.sub (A.add (A.shr (A.add a b) 1) m) 1), true, true, true, true, true, !A.lt (A.shr (A.add a b) 1) m, true, true, true, true, true, true, A.inR .i64 (A.add (A.shr (A.add a b) 1) m), true, true, true, A.inR .i64 (A.shr (A.add a b) 1), A.and (A.le 0 1) (A.ltN (A.nat 1) 64), A.inR .u64 (A.add a b), A.inR .i64 (A.add a b), true, true, !A.eq (A.sub b m) 1, true, A.inR .i64 (A.sub b m), true, true, !A.eq (A.sub m a) 1, true, A.inR .i64 (A.sub m a), true, true],
   f140h140_0a (xs) (a) (m) (b) (A.shr (A.add a b) 1) (A.add (A.shr (A.add a b) 1) m) (a) (m) (A.sub (A.add (A.shr (A.add a b) 1) m) 1), f140h140_0am (xs) (a) (m) (b) (A.shr (A.add a b) 1) (A.add (A.shr (A.add a b) 1) m) (a) (m) (A.sub (A.add (A.shr (A.add a b) 1) m) 1)) := by kernel_rfl
theorem f140p4 (A : Ar) (N : Nat) (xs : List AV) (a : Int) (n0 : Int) (n1 : Int) : gwalkL A tab (BO5 N) 34 [true, true] (f140h140_4a xs a n0 n1) (f140h140_4am xs a n0 n1) =
  some ([true, A.inR .i64 (A.add (A.shr (A.add n0 n1) 1) 1), true, A.lt (cmp3 ((A.nthA xs (A.nat (A.shr (A.add n0 n1) 1))).cellAt 4).toI ((A.nthA xs (A.nat a)).cellAt 4).toI) 0, true, A.and true true, A.and (A.ltN (A.nat a) (A.lenA xs)) (A.leN (A.addN 0 5) 5), A.and (A.eqN 5 5) (A.and (A.le 0 a) (A.ltN (A.nat a) (A.lenA xs))), true, true, A.and (A.ltN (A.nat (A.shr (A.add n0 n1) 1)) (A.lenA xs)) (A.leN (A.addN 0 5) 5), A.and (A.eqN 5 5) (A.and (A.le 0 (A.shr (A.add n0 n1) 1)) (A.ltN (A.nat (A.shr (A.add n0 n1) 1)) (A.lenA xs))), true, true, true, true, A.inR .i64 (A.shr (A.add n0 n1) 1), A.and (A.le 0 1) (A.ltN (A.nat 1) 64), A.inR .u64 (A.add n0 n1), A.inR .i64 (A.add n0 n1), true, true, A.lt n0 n1, true, true, true],
   f140h140_4a (xs) (a) (A.add (A.shr (A.add n0 n1) 1) 1) (n1), f140h140_4am (xs) (a) (A.add (A.shr (A.add n0 n1) 1) 1) (n1)) := by kernel_rfl
theorem f140p5 (A : Ar) (N : Nat) (xs : List AV) (a : Int) (n0 : Int) (n1 : Int) : gwalkL A tab (BO5 N) 33 [true, false] (f140h140_4a xs a n0 n1) (f140h140_4am xs a n0 n1) =
  some ([true, true, !A.lt (cmp3 ((A.nthA xs (A.nat (A.shr (A.add n0 n1) 1))).cellAt 4).toI ((A.nthA xs (A.nat a)).cellAt 4).toI) 0, true, A.and true true, A.and (A.ltN (A.nat a) (A.lenA xs)) (A.leN (A.addN 0 5) 5), A.and (A.eqN 5 5) (A.and (A.le 0 a) (A.ltN (A.nat a) (A.lenA xs))), true, true, A.and (A.ltN (A.nat (A.shr (A.add n0 n1) 1)) (A.lenA xs)) (A.leN (A.addN 0 5) 5), A.and (A.eqN 5 5) (A.and (A.le 0 (A.shr (A.add n0 n1) 1)) (A.ltN (A.nat (A.shr (A.add n0 n1) 1)) (A.lenA xs))), true, true, true, true, A.inR .i64 (A.shr (A.add n0 n1) 1), A.and (A.le 0 1) (A.ltN (A.nat 1) 64), A.inR .u64 (A.add n0 n1), A.inR .i64 (A.add n0 n1), true, true, A.lt n0 n1, true, true, true],
   f140h140_4a (xs) (a) (n0) (A.shr (A.add n0 n1) 1), f140h140_4am (xs) (a) (n0) (A.shr (A.add n0 n1) 1)) := by kernel_rfl
theorem f140p6 (A : Ar) (N : Nat) (xs : List AV) (a : Int) (n0 : Int) (n1 : Int) : gwalkL A tab (BO5 N) 19 [false] (f140h140_4a xs a n0 n1) (f140h140_4am xs a n0 n1) =
  some ([true, true, !A.lt n0 n1, true, true, true],
   f140h140_3a (n0) (a) (xs), f140h140_3am (n0) (a) (xs)) := by kernel_rfl
theorem f140p7 (A : Ar) (N : Nat) (xs : List AV) (m : Int) (n2 : Int) (n3 : Int) : gwalkL A tab (BO5 N) 34 [true, true] (f140h140_2a xs m n2 n3) (f140h140_2am xs m n2 n3) =
  some ([true, A.inR .i64 (A.add (A.shr (A.add n2 n3) 1) 1), true, A.not (A.lt (cmp3 ((A.nthA xs (A.nat m)).cellAt 4).toI ((A.nthA xs (A.nat (A.shr (A.add n2 n3) 1))).cellAt 4).toI) 0), true, true, A.and true true, A.and (A.ltN (A.nat (A.shr (A.add n2 n3) 1)) (A.lenA xs)) (A.leN (A.addN 0 5) 5), A.and (A.eqN 5 5) (A.and (A.le 0 (A.shr (A.add n2 n3) 1)) (A.ltN (A.nat (A.shr (A.add n2 n3) 1)) (A.lenA xs))), true, true, A.and (A.ltN (A.nat m) (A.lenA xs)) (A.leN (A.addN 0 5) 5), A.and (A.eqN 5 5) (A.and (A.le 0 m) (A.ltN (A.nat m) (A.lenA xs))), true, true, true, true, A.inR .i64 (A.shr (A.add n2 n3) 1), A.and (A.le 0 1) (A.ltN (A.nat 1) 64), A.inR .u64 (A.add n2 n3), A.inR .i64 (A.add n2 n3), true, true, A.lt n2 n3, true, true, true],
   f140h140_2a (xs) (m) (A.add (A.shr (A.add n2 n3) 1) 1) (n3), f140h140_2am (xs) (m) (A.add (A.shr (A.add n2 n3) 1) 1) (n3)) := by kernel_rfl
theorem f140p8 (A : Ar) (N : Nat) (xs : List AV) (m : Int) (n2 : Int) (n3 : Int) : gwalkL A tab (BO5 N) 33 [true, false] (f140h140_2a xs m n2 n3) (f140h140_2am xs m n2 n3) =
  some ([true, true, !A.not (A.lt (cmp3 ((A.nthA xs (A.nat m)).cellAt 4).toI ((A.nthA xs (A.nat (A.shr (A.add n2 n3) 1))).cellAt 4).toI) 0), true, true, A.and true true, A.and (A.ltN (A.nat (A.shr (A.add n2 n3) 1)) (A.lenA xs)) (A.leN (A.addN 0 5) 5), A.and (A.eqN 5 5) (A.and (A.le 0 (A.shr (A.add n2 n3) 1)) (A.ltN (A.nat (A.shr (A.add n2 n3) 1)) (A.lenA xs))), true, true, A.and (A.ltN (A.nat m) (A.lenA xs)) (A.leN (A.addN 0 5) 5), A.and (A.eqN 5 5) (A.and (A.le 0 m) (A.ltN (A.nat m) (A.lenA xs))), true, true, true, true, A.inR .i64 (A.shr (A.add n2 n3) 1), A.and (A.le 0 1) (A.ltN (A.nat 1) 64), A.inR .u64 (A.add n2 n3), A.inR .i64 (A.add n2 n3), true, true, A.lt n2 n3, true, true, true],
   f140h140_2a (xs) (m) (n2) (A.shr (A.add n2 n3) 1), f140h140_2am (xs) (m) (n2) (A.shr (A.add n2 n3) 1)) := by kernel_rfl
theorem f140p9 (A : Ar) (N : Nat) (xs : List AV) (m : Int) (n2 : Int) (n3 : Int) : gwalkL A tab (BO5 N) 19 [false] (f140h140_2a xs m n2 n3) (f140h140_2am xs m n2 n3) =
  some ([true, true, !A.lt n2 n3, true, true, true],
   f140h140_1a (n2) (m) (xs), f140h140_1am (n2) (m) (xs)) := by kernel_rfl
theorem f140p10 (A : Ar) (N : Nat) (xs : List AV) (a : Int) (m : Int) (b : Int) (n4 : Int) (n5 : Int) (n6 : Int) (n7 : Int) (n8 : Int) : gwalkL A tab (BO5 N) 34 [true, true] (f140h140_0a xs a m b n4 n5 n6 n7 n8) (f140h140_0am xs a m b n4 n5 n6 n7 n8) =
  some ([true, A.inR .i64 (A.add (A.shr (A.add n6 n7) 1) 1), true, A.not (A.lt (cmp3 ((A.nthA xs (A.nat (A.sub n8 (A.shr (A.add n6 n7) 1)))).cellAt 4).toI ((A.nthA xs (A.nat (A.shr (A.add n6 n7) 1))).cellAt 4).toI) 0), true, true, A.and true true, A.and (A.ltN (A.nat (A.shr (A.add n6 n7) 1)) (A.lenA xs)) (A.leN (A.addN 0 5) 5), A.and (A.eqN 5 5) (A.and (A.le 0 (A.shr (A.add n6 n7) 1)) (A.ltN (A.nat (A.shr (A.add n6 n7) 1)) (A.lenA xs))), true, true, A.and (A.ltN (A.nat (A.sub n8 (A.shr (A.add n6 n7) 1))) (A.lenA xs)) (A.leN (A.addN 0 5) 5), A.and (A.eqN 5 5) (A.and (A.le 0 (A.sub n8 (A.shr (A.add n6 n7) 1))) (A.ltN (A.nat (A.sub n8 (A.shr (A.add n6 n7) 1))) (A.lenA xs))), A.inR .i64 (A.sub n8 (A.shr (A.add n6 n7) 1)), true, true, true, true, true, A.inR .i64 (A.shr (A.add n6 n7) 1), A.and (A.le 0 1) (A.ltN (A.nat 1) 64), A.inR .u64 (A.add n6 n7), A.inR .i64 (A.add n6 n7), true, true, A.lt n6 n7, true, true, true],
   f140h140_0a (xs) (a) (m) (b) (n4) (n5) (A.add (A.shr (A.add n6 n7) 1) 1) (n7) (n8), f140h140_0am (xs) (a) (m) (b) (n4) (n5) (A.add (A.shr (A.add n6 n7) 1) 1) (n7) (n8)) := by kernel_rfl
theorem f140p11 (A : Ar) (N : Nat) (xs : List AV) (a : Int) (m : Int) (b : Int) (n4 : Int) (n5 : Int) (n6 : Int) (n7 : Int) (n8 : Int) : gwalkL A tab (BO5 N) 33 [true, false] (f140h140_0a xs a m b n4 n5 n6 n7 n8) (f140h140_0am xs a m b n4 n5 n6 n7 n8) =
  some ([true, true, !A.not (A.lt (cmp3 ((A.nthA xs (A.nat (A.sub n8 (A.shr (A.add n6 n7) 1)))).cellAt 4).toI ((A.nthA xs (A.nat (A.shr (A.add n6 n7) 1))).cellAt 4).toI) 0), true, true, A.and true true, A.and (A.ltN (A.nat (A.shr (A.add n6 n7) 1)) (A.lenA xs)) (A.leN (A.addN 0 5) 5), A.and (A.eqN 5 5) (A.and (A.le 0 (A.shr (A.add n6 n7) 1)) (A.ltN (A.nat (A.shr (A.add n6 n7) 1)) (A.lenA xs))), true, true, A.and (A.ltN (A.nat (A.sub n8 (A.shr (A.add n6 n7) 1))) (A.lenA xs)) (A.leN (A.addN 0 5) 5), A.and (A.eqN 5 5) (A.and (A.le 0 (A.sub n8 (A.shr (A.add n6 n7) 1))) (A.ltN (A.nat (A.sub n8 (A.shr (A.add n6 n7) 1))) (A.lenA xs))), A.inR .i64 (A.sub n8 (A.shr (A.add n6 n7) 1)), true, true, true, true, true, A.inR .i64 (A.shr (A.add n6 n7) 1), A.and (A.le 0 1) (A.ltN (A.nat 1) 64), A.inR .u64 (A.add n6 n7), A.inR .i64 (A.add n6 n7), true, true, A.lt n6 n7, true, true, true],
   f140h140_0a (xs) (a) (m) (b) (n4) (n5) (n6) (A.shr (A.add n6 n7) 1) (n8), f140h140_0am (xs) (a) (m) (b) (n4) (n5) (n6) (A.shr (A.add n6 n7) 1) (n8)) := by kernel_rfl
theorem f140p12 (A : Ar) (N : Nat) (xs : List AV) (a : Int) (m : Int) (b : Int) (n4 : Int) (n5 : Int) (n6 : Int) (n7 : Int) (n8 : Int) : gfinM A tab (BO5 N) 83 [false, true, true, true, true, true, true, true, true, true, true, true, true, true, true, true] 140 (f140h140_0a xs a m b n4 n5 n6 n7 n8) (f140h140_0am xs a m b n4 n5 n6 n7 n8) =
  some ([true, A.and (decide (smB N (segN (Int.toNat a) (Int.toNat n4) (rotN (Int.toNat n6) (Int.toNat m) (Int.toNat (A.sub n5 n6)) xs)) n4 (A.sub n5 n6) b = true)) (A.and (A.eqN 140 140) (A.eqN 5 5)), true, true, true, true, true, A.lt (A.sub n5 n6) b, true, true, true, true, true, true, true, A.lt n4 (A.sub n5 n6), true, true, true, true, A.and (decide (smB N (rotN (Int.toNat n6) (Int.toNat m) (Int.toNat (A.sub n5 n6)) xs) a n6 n4 = true)) (A.and (A.eqN 140 140) (A.eqN 5 5)), true, true, true, true, true, A.lt n6 n4, true, true, true, true, true, true, true, A.lt a n6, true, true, true, true, A.and (decide (rotB xs n6 m (A.sub n5 n6) = true)) (A.and (A.eqN 140 140) (A.eqN 5 5)), true, true, true, true, true, A.lt m (A.sub n5 n6), true, true, true, true, true, true, true, A.lt n6 m, true, true, true, true, true, A.inR .i64 (A.sub n5 n6), true, true, !A.lt n6 n7, true, true, true],
   AV.tup [], 140, 5, Row.big (.agg [.int .i64, .int .i64, .int .i64, .ints .i64, .int .i64]) (segN (Int.toNat n4) (Int.toNat b) (segN (Int.toNat a) (Int.toNat n4) (rotN (Int.toNat n6) (Int.toNat m) (Int.toNat (A.sub n5 n6)) xs)))) := by kernel_rfl
theorem f140p13 (A : Ar) (N : Nat) (xs : List AV) (a : Int) (m : Int) (b : Int) (n4 : Int) (n5 : Int) (n6 : Int) (n7 : Int) (n8 : Int) : gfinM A tab (BO5 N) 76 [false, true, true, true, true, true, true, true, true, true, true, true, true, true, true, false] 140 (f140h140_0a xs a m b n4 n5 n6 n7 n8) (f140h140_0am xs a m b n4 n5 n6 n7 n8) =
  some ([true, !A.lt (A.sub n5 n6) b, true, true, true, true, true, true, true, A.lt n4 (A.sub n5 n6), true, true, true, true, A.and (decide (smB N (rotN (Int.toNat n6) (Int.toNat m) (Int.toNat (A.sub n5 n6)) xs) a n6 n4 = true)) (A.and (A.eqN 140 140) (A.eqN 5 5)), true, true, true, true, true, A.lt n6 n4, true, true, true, true, true, true, true, A.lt a n6, true, true, true, true, A.and (decide (rotB xs n6 m (A.sub n5 n6) = true)) (A.and (A.eqN 140 140) (A.eqN 5 5)), true, true, true, true, true, A.lt m (A.sub n5 n6), true, true, true, true, true, true, true, A.lt n6 m, true, true, true, true, true, A.inR .i64 (A.sub n5 n6), true, true, !A.lt n6 n7, true, true, true],
   AV.tup [], 140, 5, Row.big (.agg [.int .i64, .int .i64, .int .i64, .ints .i64, .int .i64]) (segN (Int.toNat a) (Int.toNat n4) (rotN (Int.toNat n6) (Int.toNat m) (Int.toNat (A.sub n5 n6)) xs))) := by kernel_rfl
theorem f140p14 (A : Ar) (N : Nat) (xs : List AV) (a : Int) (m : Int) (b : Int) (n4 : Int) (n5 : Int) (n6 : Int) (n7 : Int) (n8 : Int) : gfinM A tab (BO5 N) 76 [false, true, true, true, true, true, true, true, true, true, true, false, false, false, false, false] 140 (f140h140_0a xs a m b n4 n5 n6 n7 n8) (f140h140_0am xs a m b n4 n5 n6 n7 n8) =
  some ([true, true, true, true, true, true, true, true, true, !A.lt n4 (A.sub n5 n6), true, true, true, true, A.and (decide (smB N (rotN (Int.toNat n6) (Int.toNat m) (Int.toNat (A.sub n5 n6)) xs) a n6 n4 = true)) (A.and (A.eqN 140 140) (A.eqN 5 5)), true, true, true, true, true, A.lt n6 n4, true, true, true, true, true, true, true, A.lt a n6, true, true, true, true, A.and (decide (rotB xs n6 m (A.sub n5 n6) = true)) (A.and (A.eqN 140 140) (A.eqN 5 5)), true, true, true, true, true, A.lt m (A.sub n5 n6), true, true, true, true, true, true, true, A.lt n6 m, true, true, true, true, true, A.inR .i64 (A.sub n5 n6), true, true, !A.lt n6 n7, true, true, true],
   AV.tup [], 140, 5, Row.big (.agg [.int .i64, .int .i64, .int .i64, .ints .i64, .int .i64]) (segN (Int.toNat a) (Int.toNat n4) (rotN (Int.toNat n6) (Int.toNat m) (Int.toNat (A.sub n5 n6)) xs))) := by kernel_rfl
theorem f140p15 (A : Ar) (N : Nat) (xs : List AV) (a : Int) (m : Int) (b : Int) (n4 : Int) (n5 : Int) (n6 : Int) (n7 : Int) (n8 : Int) : gfinM A tab (BO5 N) 76 [false, true, true, true, true, true, true, true, true, true, false, true, true, true, true, true] 140 (f140h140_0a xs a m b n4 n5 n6 n7 n8) (f140h140_0am xs a m b n4 n5 n6 n7 n8) =
  some ([true, A.and (decide (smB N (rotN (Int.toNat n6) (Int.toNat m) (Int.toNat (A.sub n5 n6)) xs) n4 (A.sub n5 n6) b = true)) (A.and (A.eqN 140 140) (A.eqN 5 5)), true, true, true, true, true, A.lt (A.sub n5 n6) b, true, true, true, true, true, true, true, A.lt n4 (A.sub n5 n6), true, true, true, true, !A.lt n6 n4, true, true, true, true, true, true, true, A.lt a n6, true, true, true, true, A.and (decide (rotB xs n6 m (A.sub n5 n6) = true)) (A.and (A.eqN 140 140) (A.eqN 5 5)), true, true, true, true, true, A.lt m (A.sub n5 n6), true, true, true, true, true, true, true, A.lt n6 m, true, true, true, true, true, A.inR .i64 (A.sub n5 n6), true, true, !A.lt n6 n7, true, true, true],
   AV.tup [], 140, 5, Row.big (.agg [.int .i64, .int .i64, .int .i64, .ints .i64, .int .i64]) (segN (Int.toNat n4) (Int.toNat b) (rotN (Int.toNat n6) (Int.toNat m) (Int.toNat (A.sub n5 n6)) xs))) := by kernel_rfl
theorem f140p16 (A : Ar) (N : Nat) (xs : List AV) (a : Int) (m : Int) (b : Int) (n4 : Int) (n5 : Int) (n6 : Int) (n7 : Int) (n8 : Int) : gfinM A tab (BO5 N) 69 [false, true, true, true, true, true, true, true, true, true, false, true, true, true, true, false] 140 (f140h140_0a xs a m b n4 n5 n6 n7 n8) (f140h140_0am xs a m b n4 n5 n6 n7 n8) =
  some ([true, !A.lt (A.sub n5 n6) b, true, true, true, true, true, true, true, A.lt n4 (A.sub n5 n6), true, true, true, true, !A.lt n6 n4, true, true, true, true, true, true, true, A.lt a n6, true, true, true, true, A.and (decide (rotB xs n6 m (A.sub n5 n6) = true)) (A.and (A.eqN 140 140) (A.eqN 5 5)), true, true, true, true, true, A.lt m (A.sub n5 n6), true, true, true, true, true, true, true, A.lt n6 m, true, true, true, true, true, A.inR .i64 (A.sub n5 n6), true, true, !A.lt n6 n7, true, true, true],
   AV.tup [], 140, 5, Row.big (.agg [.int .i64, .int .i64, .int .i64, .ints .i64, .int .i64]) (rotN (Int.toNat n6) (Int.toNat m) (Int.toNat (A.sub n5 n6)) xs)) := by kernel_rfl
theorem f140p17 (A : Ar) (N : Nat) (xs : List AV) (a : Int) (m : Int) (b : Int) (n4 : Int) (n5 : Int) (n6 : Int) (n7 : Int) (n8 : Int) : gfinM A tab (BO5 N) 69 [false, true, true, true, true, true, true, true, true, true, false, false, false, false, false, false] 140 (f140h140_0a xs a m b n4 n5 n6 n7 n8) (f140h140_0am xs a m b n4 n5 n6 n7 n8) =
  some ([true, true, true, true, true, true, true, true, true, !A.lt n4 (A.sub n5 n6), true, true, true, true, !A.lt n6 n4, true, true, true, true, true, true, true, A.lt a n6, true, true, true, true, A.and (decide (rotB xs n6 m (A.sub n5 n6) = true)) (A.and (A.eqN 140 140) (A.eqN 5 5)), true, true, true, true, true, A.lt m (A.sub n5 n6), true, true, true, true, true, true, true, A.lt n6 m, true, true, true, true, true, A.inR .i64 (A.sub n5 n6), true, true, !A.lt n6 n7, true, true, true],
   AV.tup [], 140, 5, Row.big (.agg [.int .i64, .int .i64, .int .i64, .ints .i64, .int .i64]) (rotN (Int.toNat n6) (Int.toNat m) (Int.toNat (A.sub n5 n6)) xs)) := by kernel_rfl
theorem f140p18 (A : Ar) (N : Nat) (xs : List AV) (a : Int) (m : Int) (b : Int) (n4 : Int) (n5 : Int) (n6 : Int) (n7 : Int) (n8 : Int) : gfinM A tab (BO5 N) 76 [false, true, true, true, true, true, false, false, false, false, false, true, true, true, true, true] 140 (f140h140_0a xs a m b n4 n5 n6 n7 n8) (f140h140_0am xs a m b n4 n5 n6 n7 n8) =
  some ([true, A.and (decide (smB N (rotN (Int.toNat n6) (Int.toNat m) (Int.toNat (A.sub n5 n6)) xs) n4 (A.sub n5 n6) b = true)) (A.and (A.eqN 140 140) (A.eqN 5 5)), true, true, true, true, true, A.lt (A.sub n5 n6) b, true, true, true, true, true, true, true, A.lt n4 (A.sub n5 n6), true, true, true, true, true, true, true, true, true, true, true, true, !A.lt a n6, true, true, true, true, A.and (decide (rotB xs n6 m (A.sub n5 n6) = true)) (A.and (A.eqN 140 140) (A.eqN 5 5)), true, true, true, true, true, A.lt m (A.sub n5 n6), true, true, true, true, true, true, true, A.lt n6 m, true, true, true, true, true, A.inR .i64 (A.sub n5 n6), true, true, !A.lt n6 n7, true, true, true],
   AV.tup [], 140, 5, Row.big (.agg [.int .i64, .int .i64, .int .i64, .ints .i64, .int .i64]) (segN (Int.toNat n4) (Int.toNat b) (rotN (Int.toNat n6) (Int.toNat m) (Int.toNat (A.sub n5 n6)) xs))) := by kernel_rfl
theorem f140p19 (A : Ar) (N : Nat) (xs : List AV) (a : Int) (m : Int) (b : Int) (n4 : Int) (n5 : Int) (n6 : Int) (n7 : Int) (n8 : Int) : gfinM A tab (BO5 N) 69 [false, true, true, true, true, true, false, false, false, false, false, true, true, true, true, false] 140 (f140h140_0a xs a m b n4 n5 n6 n7 n8) (f140h140_0am xs a m b n4 n5 n6 n7 n8) =
  some ([true, !A.lt (A.sub n5 n6) b, true, true, true, true, true, true, true, A.lt n4 (A.sub n5 n6), true, true, true, true, true, true, true, true, true, true, true, true, !A.lt a n6, true, true, true, true, A.and (decide (rotB xs n6 m (A.sub n5 n6) = true)) (A.and (A.eqN 140 140) (A.eqN 5 5)), true, true, true, true, true, A.lt m (A.sub n5 n6), true, true, true, true, true, true, true, A.lt n6 m, true, true, true, true, true, A.inR .i64 (A.sub n5 n6), true, true, !A.lt n6 n7, true, true, true],
   AV.tup [], 140, 5, Row.big (.agg [.int .i64, .int .i64, .int .i64, .ints .i64, .int .i64]) (rotN (Int.toNat n6) (Int.toNat m) (Int.toNat (A.sub n5 n6)) xs)) := by kernel_rfl
theorem f140p20 (A : Ar) (N : Nat) (xs : List AV) (a : Int) (m : Int) (b : Int) (n4 : Int) (n5 : Int) (n6 : Int) (n7 : Int) (n8 : Int) : gfinM A tab (BO5 N) 69 [false, true, true, true, true, true, false, false, false, false, false, false, false, false, false, false] 140 (f140h140_0a xs a m b n4 n5 n6 n7 n8) (f140h140_0am xs a m b n4 n5 n6 n7 n8) =
  some ([true, true, true, true, true, true, true, true, true, !A.lt n4 (A.sub n5 n6), true, true, true, true, true, true, true, true, true, true, true, true, !A.lt a n6, true, true, true, true, A.and (decide (rotB xs n6 m (A.sub n5 n6) = true)) (A.and (A.eqN 140 140) (A.eqN 5 5)), true, true, true, true, true, A.lt m (A.sub n5 n6), true, true, true, true, true, true, true, A.lt n6 m, true, true, true, true, true, A.inR .i64 (A.sub n5 n6), true, true, !A.lt n6 n7, true, true, true],
   AV.tup [], 140, 5, Row.big (.agg [.int .i64, .int .i64, .int .i64, .ints .i64, .int .i64]) (rotN (Int.toNat n6) (Int.toNat m) (Int.toNat (A.sub n5 n6)) xs)) := by kernel_rfl
theorem f140p21 (A : Ar) (N : Nat) (xs : List AV) (a : Int) (m : Int) (b : Int) (n4 : Int) (n5 : Int) (n6 : Int) (n7 : Int) (n8 : Int) : gfinM A tab (BO5 N) 76 [false, true, true, true, true, false, true, true, true, true, true, true, true, true, true, true] 140 (f140h140_0a xs a m b n4 n5 n6 n7 n8) (f140h140_0am xs a m b n4 n5 n6 n7 n8) =
  some ([true, A.and (decide (smB N (segN (Int.toNat a) (Int.toNat n4) xs) n4 (A.sub n5 n6) b = true)) (A.and (A.eqN 140 140) (A.eqN 5 5)), true, true, true, true, true, A.lt (A.sub n5 n6) b, true, true, true, true, true, true, true, A.lt n4 (A.sub n5 n6), true, true, true, true, A.and (decide (smB N xs a n6 n4 = true)) (A.and (A.eqN 140 140) (A.eqN 5 5)), true, true, true, true, true, A.lt n6 n4, true, true, true, true, true, true, true, A.lt a n6, true, true, true, true, !A.lt m (A.sub n5 n6), true, true, true, true, true, true, true, A.lt n6 m, true, true, true, true, true, A.inR .i64 (A.sub n5 n6), true, true, !A.lt n6 n7, true, true, true],
   AV.tup [], 140, 5, Row.big (.agg [.int .i64, .int .i64, .int .i64, .ints .i64, .int .i64]) (segN (Int.toNat n4) (Int.toNat b) (segN (Int.toNat a) (Int.toNat n4) xs))) := by kernel_rfl
theorem f140p22 (A : Ar) (N : Nat) (xs : List AV) (a : Int) (m : Int) (b : Int) (n4 : Int) (n5 : Int) (n6 : Int) (n7 : Int) (n8 : Int) : gfinM A tab (BO5 N) 69 [false, true, true, true, true, false, true, true, true, true, true, true, true, true, true, false] 140 (f140h140_0a xs a m b n4 n5 n6 n7 n8) (f140h140_0am xs a m b n4 n5 n6 n7 n8) =
  some ([true, !A.lt (A.sub n5 n6) b, true, true, true, true, true, true, true, A.lt n4 (A.sub n5 n6), true, true, true, true, A.and (decide (smB N xs a n6 n4 = true)) (A.and (A.eqN 140 140) (A.eqN 5 5)), true, true, true, true, true, A.lt n6 n4, true, true, true, true, true, true, true, A.lt a n6, true, true, true, true, !A.lt m (A.sub n5 n6), true, true, true, true, true, true, true, A.lt n6 m, true, true, true, true, true, A.inR .i64 (A.sub n5 n6), true, true, !A.lt n6 n7, true, true, true],
   AV.tup [], 140, 5, Row.big (.agg [.int .i64, .int .i64, .int .i64, .ints .i64, .int .i64]) (segN (Int.toNat a) (Int.toNat n4) xs)) := by kernel_rfl
theorem f140p23 (A : Ar) (N : Nat) (xs : List AV) (a : Int) (m : Int) (b : Int) (n4 : Int) (n5 : Int) (n6 : Int) (n7 : Int) (n8 : Int) : gfinM A tab (BO5 N) 69 [false, true, true, true, true, false, true, true, true, true, true, false, false, false, false, false] 140 (f140h140_0a xs a m b n4 n5 n6 n7 n8) (f140h140_0am xs a m b n4 n5 n6 n7 n8) =
  some ([true, true, true, true, true, true, true, true, true, !A.lt n4 (A.sub n5 n6), true, true, true, true, A.and (decide (smB N xs a n6 n4 = true)) (A.and (A.eqN 140 140) (A.eqN 5 5)), true, true, true, true, true, A.lt n6 n4, true, true, true, true, true, true, true, A.lt a n6, true, true, true, true, !A.lt m (A.sub n5 n6), true, true, true, true, true, true, true, A.lt n6 m, true, true, true, true, true, A.inR .i64 (A.sub n5 n6), true, true, !A.lt n6 n7, true, true, true],
   AV.tup [], 140, 5, Row.big (.agg [.int .i64, .int .i64, .int .i64, .ints .i64, .int .i64]) (segN (Int.toNat a) (Int.toNat n4) xs)) := by kernel_rfl
theorem f140p24 (A : Ar) (N : Nat) (xs : List AV) (a : Int) (m : Int) (b : Int) (n4 : Int) (n5 : Int) (n6 : Int) (n7 : Int) (n8 : Int) : gfinM A tab (BO5 N) 69 [false, true, true, true, true, false, true, true, true, true, false, true, true, true, true, true] 140 (f140h140_0a xs a m b n4 n5 n6 n7 n8) (f140h140_0am xs a m b n4 n5 n6 n7 n8) =
  some ([true, A.and (decide (smB N xs n4 (A.sub n5 n6) b = true)) (A.and (A.eqN 140 140) (A.eqN 5 5)), true, true, true, true, true, A.lt (A.sub n5 n6) b, true, true, true, true, true, true, true, A.lt n4 (A.sub n5 n6), true, true, true, true, !A.lt n6 n4, true, true, true, true, true, true, true, A.lt a n6, true, true, true, true, !A.lt m (A.sub n5 n6), true, true, true, true, true, true, true, A.lt n6 m, true, true, true, true, true, A.inR .i64 (A.sub n5 n6), true, true, !A.lt n6 n7, true, true, true],
   AV.tup [], 140, 5, Row.big (.agg [.int .i64, .int .i64, .int .i64, .ints .i64, .int .i64]) (segN (Int.toNat n4) (Int.toNat b) xs)) := by kernel_rfl
theorem f140p25 (A : Ar) (N : Nat) (xs : List AV) (a : Int) (m : Int) (b : Int) (n4 : Int) (n5 : Int) (n6 : Int) (n7 : Int) (n8 : Int) : gfinM A tab (BO5 N) 62 [false, true, true, true, true, false, true, true, true, true, false, true, true, true, true, false] 140 (f140h140_0a xs a m b n4 n5 n6 n7 n8) (f140h140_0am xs a m b n4 n5 n6 n7 n8) =
  some ([true, !A.lt (A.sub n5 n6) b, true, true, true, true, true, true, true, A.lt n4 (A.sub n5 n6), true, true, true, true, !A.lt n6 n4, true, true, true, true, true, true, true, A.lt a n6, true, true, true, true, !A.lt m (A.sub n5 n6), true, true, true, true, true, true, true, A.lt n6 m, true, true, true, true, true, A.inR .i64 (A.sub n5 n6), true, true, !A.lt n6 n7, true, true, true],
   AV.tup [], 140, 5, Row.big (.agg [.int .i64, .int .i64, .int .i64, .ints .i64, .int .i64]) xs) := by kernel_rfl
theorem f140p26 (A : Ar) (N : Nat) (xs : List AV) (a : Int) (m : Int) (b : Int) (n4 : Int) (n5 : Int) (n6 : Int) (n7 : Int) (n8 : Int) : gfinM A tab (BO5 N) 62 [false, true, true, true, true, false, true, true, true, true, false, false, false, false, false, false] 140 (f140h140_0a xs a m b n4 n5 n6 n7 n8) (f140h140_0am xs a m b n4 n5 n6 n7 n8) =
  some ([true, true, true, true, true, true, true, true, true, !A.lt n4 (A.sub n5 n6), true, true, true, true, !A.lt n6 n4, true, true, true, true, true, true, true, A.lt a n6, true, true, true, true, !A.lt m (A.sub n5 n6), true, true, true, true, true, true, true, A.lt n6 m, true, true, true, true, true, A.inR .i64 (A.sub n5 n6), true, true, !A.lt n6 n7, true, true, true],
   AV.tup [], 140, 5, Row.big (.agg [.int .i64, .int .i64, .int .i64, .ints .i64, .int .i64]) xs) := by kernel_rfl
theorem f140p27 (A : Ar) (N : Nat) (xs : List AV) (a : Int) (m : Int) (b : Int) (n4 : Int) (n5 : Int) (n6 : Int) (n7 : Int) (n8 : Int) : gfinM A tab (BO5 N) 69 [false, true, true, true, true, false, false, false, false, false, false, true, true, true, true, true] 140 (f140h140_0a xs a m b n4 n5 n6 n7 n8) (f140h140_0am xs a m b n4 n5 n6 n7 n8) =
  some ([true, A.and (decide (smB N xs n4 (A.sub n5 n6) b = true)) (A.and (A.eqN 140 140) (A.eqN 5 5)), true, true, true, true, true, A.lt (A.sub n5 n6) b, true, true, true, true, true, true, true, A.lt n4 (A.sub n5 n6), true, true, true, true, true, true, true, true, true, true, true, true, !A.lt a n6, true, true, true, true, !A.lt m (A.sub n5 n6), true, true, true, true, true, true, true, A.lt n6 m, true, true, true, true, true, A.inR .i64 (A.sub n5 n6), true, true, !A.lt n6 n7, true, true, true],
   AV.tup [], 140, 5, Row.big (.agg [.int .i64, .int .i64, .int .i64, .ints .i64, .int .i64]) (segN (Int.toNat n4) (Int.toNat b) xs)) := by kernel_rfl
theorem f140p28 (A : Ar) (N : Nat) (xs : List AV) (a : Int) (m : Int) (b : Int) (n4 : Int) (n5 : Int) (n6 : Int) (n7 : Int) (n8 : Int) : gfinM A tab (BO5 N) 62 [false, true, true, true, true, false, false, false, false, false, false, true, true, true, true, false] 140 (f140h140_0a xs a m b n4 n5 n6 n7 n8) (f140h140_0am xs a m b n4 n5 n6 n7 n8) =
  some ([true, !A.lt (A.sub n5 n6) b, true, true, true, true, true, true, true, A.lt n4 (A.sub n5 n6), true, true, true, true, true, true, true, true, true, true, true, true, !A.lt a n6, true, true, true, true, !A.lt m (A.sub n5 n6), true, true, true, true, true, true, true, A.lt n6 m, true, true, true, true, true, A.inR .i64 (A.sub n5 n6), true, true, !A.lt n6 n7, true, true, true],
   AV.tup [], 140, 5, Row.big (.agg [.int .i64, .int .i64, .int .i64, .ints .i64, .int .i64]) xs) := by kernel_rfl
theorem f140p29 (A : Ar) (N : Nat) (xs : List AV) (a : Int) (m : Int) (b : Int) (n4 : Int) (n5 : Int) (n6 : Int) (n7 : Int) (n8 : Int) : gfinM A tab (BO5 N) 62 [false, true, true, true, true, false, false, false, false, false, false, false, false, false, false, false] 140 (f140h140_0a xs a m b n4 n5 n6 n7 n8) (f140h140_0am xs a m b n4 n5 n6 n7 n8) =
  some ([true, true, true, true, true, true, true, true, true, !A.lt n4 (A.sub n5 n6), true, true, true, true, true, true, true, true, true, true, true, true, !A.lt a n6, true, true, true, true, !A.lt m (A.sub n5 n6), true, true, true, true, true, true, true, A.lt n6 m, true, true, true, true, true, A.inR .i64 (A.sub n5 n6), true, true, !A.lt n6 n7, true, true, true],
   AV.tup [], 140, 5, Row.big (.agg [.int .i64, .int .i64, .int .i64, .ints .i64, .int .i64]) xs) := by kernel_rfl
theorem f140p30 (A : Ar) (N : Nat) (xs : List AV) (a : Int) (m : Int) (b : Int) (n4 : Int) (n5 : Int) (n6 : Int) (n7 : Int) (n8 : Int) : gfinM A tab (BO5 N) 76 [false, false, false, false, false, false, true, true, true, true, true, true, true, true, true, true] 140 (f140h140_0a xs a m b n4 n5 n6 n7 n8) (f140h140_0am xs a m b n4 n5 n6 n7 n8) =
  some ([true, A.and (decide (smB N (segN (Int.toNat a) (Int.toNat n4) xs) n4 (A.sub n5 n6) b = true)) (A.and (A.eqN 140 140) (A.eqN 5 5)), true, true, true, true, true, A.lt (A.sub n5 n6) b, true, true, true, true, true, true, true, A.lt n4 (A.sub n5 n6), true, true, true, true, A.and (decide (smB N xs a n6 n4 = true)) (A.and (A.eqN 140 140) (A.eqN 5 5)), true, true, true, true, true, A.lt n6 n4, true, true, true, true, true, true, true, A.lt a n6, true, true, true, true, true, true, true, true, true, true, true, true, !A.lt n6 m, true, true, true, true, true, A.inR .i64 (A.sub n5 n6), true, true, !A.lt n6 n7, true, true, true],
   AV.tup [], 140, 5, Row.big (.agg [.int .i64, .int .i64, .int .i64, .ints .i64, .int .i64]) (segN (Int.toNat n4) (Int.toNat b) (segN (Int.toNat a) (Int.toNat n4) xs))) := by kernel_rfl
theorem f140p31 (A : Ar) (N : Nat) (xs : List AV) (a : Int) (m : Int) (b : Int) (n4 : Int) (n5 : Int) (n6 : Int) (n7 : Int) (n8 : Int) : gfinM A tab (BO5 N) 69 [false, false, false, false, false, false, true, true, true, true, true, true, true, true, true, false] 140 (f140h140_0a xs a m b n4 n5 n6 n7 n8) (f140h140_0am xs a m b n4 n5 n6 n7 n8) =
  some ([true, !A.lt (A.sub n5 n6) b, true, true, true, true, true, true, true, A.lt n4 (A.sub n5 n6), true, true, true, true, A.and (decide (smB N xs a n6 n4 = true)) (A.and (A.eqN 140 140) (A.eqN 5 5)), true, true, true, true, true, A.lt n6 n4, true, true, true, true, true, true, true, A.lt a n6, true, true, true, true, true, true, true, true, true, true, true, true, !A.lt n6 m, true, true, true, true, true, A.inR .i64 (A.sub n5 n6), true, true, !A.lt n6 n7, true, true, true],
   AV.tup [], 140, 5, Row.big (.agg [.int .i64, .int .i64, .int .i64, .ints .i64, .int .i64]) (segN (Int.toNat a) (Int.toNat n4) xs)) := by kernel_rfl
theorem f140p32 (A : Ar) (N : Nat) (xs : List AV) (a : Int) (m : Int) (b : Int) (n4 : Int) (n5 : Int) (n6 : Int) (n7 : Int) (n8 : Int) : gfinM A tab (BO5 N) 69 [false, false, false, false, false, false, true, true, true, true, true, false, false, false, false, false] 140 (f140h140_0a xs a m b n4 n5 n6 n7 n8) (f140h140_0am xs a m b n4 n5 n6 n7 n8) =
  some ([true, true, true, true, true, true, true, true, true, !A.lt n4 (A.sub n5 n6), true, true, true, true, A.and (decide (smB N xs a n6 n4 = true)) (A.and (A.eqN 140 140) (A.eqN 5 5)), true, true, true, true, true, A.lt n6 n4, true, true, true, true, true, true, true, A.lt a n6, true, true, true, true, true, true, true, true, true, true, true, true, !A.lt n6 m, true, true, true, true, true, A.inR .i64 (A.sub n5 n6), true, true, !A.lt n6 n7, true, true, true],
   AV.tup [], 140, 5, Row.big (.agg [.int .i64, .int .i64, .int .i64, .ints .i64, .int .i64]) (segN (Int.toNat a) (Int.toNat n4) xs)) := by kernel_rfl
theorem f140p33 (A : Ar) (N : Nat) (xs : List AV) (a : Int) (m : Int) (b : Int) (n4 : Int) (n5 : Int) (n6 : Int) (n7 : Int) (n8 : Int) : gfinM A tab (BO5 N) 69 [false, false, false, false, false, false, true, true, true, true, false, true, true, true, true, true] 140 (f140h140_0a xs a m b n4 n5 n6 n7 n8) (f140h140_0am xs a m b n4 n5 n6 n7 n8) =
  some ([true, A.and (decide (smB N xs n4 (A.sub n5 n6) b = true)) (A.and (A.eqN 140 140) (A.eqN 5 5)), true, true, true, true, true, A.lt (A.sub n5 n6) b, true, true, true, true, true, true, true, A.lt n4 (A.sub n5 n6), true, true, true, true, !A.lt n6 n4, true, true, true, true, true, true, true, A.lt a n6, true, true, true, true, true, true, true, true, true, true, true, true, !A.lt n6 m, true, true, true, true, true, A.inR .i64 (A.sub n5 n6), true, true, !A.lt n6 n7, true, true, true],
   AV.tup [], 140, 5, Row.big (.agg [.int .i64, .int .i64, .int .i64, .ints .i64, .int .i64]) (segN (Int.toNat n4) (Int.toNat b) xs)) := by kernel_rfl
theorem f140p34 (A : Ar) (N : Nat) (xs : List AV) (a : Int) (m : Int) (b : Int) (n4 : Int) (n5 : Int) (n6 : Int) (n7 : Int) (n8 : Int) : gfinM A tab (BO5 N) 62 [false, false, false, false, false, false, true, true, true, true, false, true, true, true, true, false] 140 (f140h140_0a xs a m b n4 n5 n6 n7 n8) (f140h140_0am xs a m b n4 n5 n6 n7 n8) =
  some ([true, !A.lt (A.sub n5 n6) b, true, true, true, true, true, true, true, A.lt n4 (A.sub n5 n6), true, true, true, true, !A.lt n6 n4, true, true, true, true, true, true, true, A.lt a n6, true, true, true, true, true, true, true, true, true, true, true, true, !A.lt n6 m, true, true, true, true, true, A.inR .i64 (A.sub n5 n6), true, true, !A.lt n6 n7, true, true, true],
   AV.tup [], 140, 5, Row.big (.agg [.int .i64, .int .i64, .int .i64, .ints .i64, .int .i64]) xs) := by kernel_rfl
theorem f140p35 (A : Ar) (N : Nat) (xs : List AV) (a : Int) (m : Int) (b : Int) (n4 : Int) (n5 : Int) (n6 : Int) (n7 : Int) (n8 : Int) : gfinM A tab (BO5 N) 62 [false, false, false, false, false, false, true, true, true, true, false, false, false, false, false, false] 140 (f140h140_0a xs a m b n4 n5 n6 n7 n8) (f140h140_0am xs a m b n4 n5 n6 n7 n8) =
  some ([true, true, true, true, true, true, true, true, true, !A.lt n4 (A.sub n5 n6), true, true, true, true, !A.lt n6 n4, true, true, true, true, true, true, true, A.lt a n6, true, true, true, true, true, true, true, true, true, true, true, true, !A.lt n6 m, true, true, true, true, true, A.inR .i64 (A.sub n5 n6), true, true, !A.lt n6 n7, true, true, true],
   AV.tup [], 140, 5, Row.big (.agg [.int .i64, .int .i64, .int .i64, .ints .i64, .int .i64]) xs) := by kernel_rfl
theorem f140p36 (A : Ar) (N : Nat) (xs : List AV) (a : Int) (m : Int) (b : Int) (n4 : Int) (n5 : Int) (n6 : Int) (n7 : Int) (n8 : Int) : gfinM A tab (BO5 N) 69 [false, false, false, false, false, false, false, false, false, false, false, true, true, true, true, true] 140 (f140h140_0a xs a m b n4 n5 n6 n7 n8) (f140h140_0am xs a m b n4 n5 n6 n7 n8) =
  some ([true, A.and (decide (smB N xs n4 (A.sub n5 n6) b = true)) (A.and (A.eqN 140 140) (A.eqN 5 5)), true, true, true, true, true, A.lt (A.sub n5 n6) b, true, true, true, true, true, true, true, A.lt n4 (A.sub n5 n6), true, true, true, true, true, true, true, true, true, true, true, true, !A.lt a n6, true, true, true, true, true, true, true, true, true, true, true, true, !A.lt n6 m, true, true, true, true, true, A.inR .i64 (A.sub n5 n6), true, true, !A.lt n6 n7, true, true, true],
   AV.tup [], 140, 5, Row.big (.agg [.int .i64, .int .i64, .int .i64, .ints .i64, .int .i64]) (segN (Int.toNat n4) (Int.toNat b) xs)) := by kernel_rfl
theorem f140p37 (A : Ar) (N : Nat) (xs : List AV) (a : Int) (m : Int) (b : Int) (n4 : Int) (n5 : Int) (n6 : Int) (n7 : Int) (n8 : Int) : gfinM A tab (BO5 N) 62 [false, false, false, false, false, false, false, false, false, false, false, true, true, true, true, false] 140 (f140h140_0a xs a m b n4 n5 n6 n7 n8) (f140h140_0am xs a m b n4 n5 n6 n7 n8) =
  some ([true, !A.lt (A.sub n5 n6) b, true, true, true, true, true, true, true, A.lt n4 (A.sub n5 n6), true, true, true, true, true, true, true, true, true, true, true, true, !A.lt a n6, true, true, true, true, true, true, true, true, true, true, true, true, !A.lt n6 m, true, true, true, true, true, A.inR .i64 (A.sub n5 n6), true, true, !A.lt n6 n7, true, true, true],
   AV.tup [], 140, 5, Row.big (.agg [.int .i64, .int .i64, .int .i64, .ints .i64, .int .i64]) xs) := by kernel_rfl
theorem f140p38 (A : Ar) (N : Nat) (xs : List AV) (a : Int) (m : Int) (b : Int) (n4 : Int) (n5 : Int) (n6 : Int) (n7 : Int) (n8 : Int) : gfinM A tab (BO5 N) 62 [false, false, false, false, false, false, false, false, false, false, false, false, false, false, false, false] 140 (f140h140_0a xs a m b n4 n5 n6 n7 n8) (f140h140_0am xs a m b n4 n5 n6 n7 n8) =
  some ([true, true, true, true, true, true, true, true, true, !A.lt n4 (A.sub n5 n6), true, true, true, true, true, true, true, true, true, true, true, true, !A.lt a n6, true, true, true, true, true, true, true, true, true, true, true, true, !A.lt n6 m, true, true, true, true, true, A.inR .i64 (A.sub n5 n6), true, true, !A.lt n6 n7, true, true, true],
   AV.tup [], 140, 5, Row.big (.agg [.int .i64, .int .i64, .int .i64, .ints .i64, .int .i64]) xs) := by kernel_rfl
theorem f140p39 (A : Ar) (N : Nat) (n0 : Int) (n9 : Int) (x10 : List AV) : gwalkL A tab (BO5 N) 22 [true] (f140h140_3a n0 n9 x10) (f140h140_3am n0 n9 x10) =
  some ([true, A.inR .i64 (A.add n9 1), true, A.and (A.ltN (A.nat (A.add n9 1)) (A.lenA (A.setA x10 (A.nat n9) (AV.agg (Row.gen [.int .i64 ((A.nthA x10 (A.nat (A.add n9 1))).cellAt 0).toI, .int .i64 ((A.nthA x10 (A.nat (A.add n9 1))).cellAt 1).toI, .int .i64 ((A.nthA x10 (A.nat (A.add n9 1))).cellAt 2).toI, .list (.ints .i64 ((A.nthA x10 (A.nat (A.add n9 1))).cellAt 3).toIs), .int .i64 ((A.nthA x10 (A.nat (A.add n9 1))).cellAt 4).toI]))))) (A.eqN 5 5), A.and (A.eqN 5 5) (A.and (A.le 0 (A.add n9 1)) (A.ltN (A.nat (A.add n9 1)) (A.lenA (A.setA x10 (A.nat n9) (AV.agg (Row.gen [.int .i64 ((A.nthA x10 (A.nat (A.add n9 1))).cellAt 0).toI, .int .i64 ((A.nthA x10 (A.nat (A.add n9 1))).cellAt 1).toI, .int .i64 ((A.nthA x10 (A.nat (A.add n9 1))).cellAt 2).toI, .list (.ints .i64 ((A.nthA x10 (A.nat (A.add n9 1))).cellAt 3).toIs), .int .i64 ((A.nthA x10 (A.nat (A.add n9 1))).cellAt 4).toI])))))), A.and (A.ltN (A.nat n9) (A.lenA x10)) (A.eqN 5 5), A.and (A.eqN 5 5) (A.and (A.le 0 n9) (A.ltN (A.nat n9) (A.lenA x10))), A.and (A.ltN (A.nat n9) (A.lenA x10)) (A.leN (A.addN 0 5) 5), A.and (A.eqN 5 5) (A.and (A.le 0 n9) (A.ltN (A.nat n9) (A.lenA x10))), true, true, A.and (A.ltN (A.nat (A.add n9 1)) (A.lenA x10)) (A.leN (A.addN 0 5) 5), A.and (A.eqN 5 5) (A.and (A.le 0 (A.add n9 1)) (A.ltN (A.nat (A.add n9 1)) (A.lenA x10))), A.inR .i64 (A.add n9 1), true, true, A.inR .i64 (A.add n9 1), true, true, true, true, A.lt n9 (A.sub n0 1), true, A.inR .i64 (A.sub n0 1), true, true],
   f140h140_3a (n0) (A.add n9 1) (A.setA (A.setA x10 (A.nat n9) (AV.agg (Row.gen [.int .i64 ((A.nthA x10 (A.nat (A.add n9 1))).cellAt 0).toI, .int .i64 ((A.nthA x10 (A.nat (A.add n9 1))).cellAt 1).toI, .int .i64 ((A.nthA x10 (A.nat (A.add n9 1))).cellAt 2).toI, .list (.ints .i64 ((A.nthA x10 (A.nat (A.add n9 1))).cellAt 3).toIs), .int .i64 ((A.nthA x10 (A.nat (A.add n9 1))).cellAt 4).toI]))) (A.nat (A.add n9 1)) (AV.agg (Row.gen [.int .i64 ((A.nthA x10 (A.nat n9)).cellAt 0).toI, .int .i64 ((A.nthA x10 (A.nat n9)).cellAt 1).toI, .int .i64 ((A.nthA x10 (A.nat n9)).cellAt 2).toI, .list (.ints .i64 ((A.nthA x10 (A.nat n9)).cellAt 3).toIs), .int .i64 ((A.nthA x10 (A.nat n9)).cellAt 4).toI]))), f140h140_3am (n0) (A.add n9 1) (A.setA (A.setA x10 (A.nat n9) (AV.agg (Row.gen [.int .i64 ((A.nthA x10 (A.nat (A.add n9 1))).cellAt 0).toI, .int .i64 ((A.nthA x10 (A.nat (A.add n9 1))).cellAt 1).toI, .int .i64 ((A.nthA x10 (A.nat (A.add n9 1))).cellAt 2).toI, .list (.ints .i64 ((A.nthA x10 (A.nat (A.add n9 1))).cellAt 3).toIs), .int .i64 ((A.nthA x10 (A.nat (A.add n9 1))).cellAt 4).toI]))) (A.nat (A.add n9 1)) (AV.agg (Row.gen [.int .i64 ((A.nthA x10 (A.nat n9)).cellAt 0).toI, .int .i64 ((A.nthA x10 (A.nat n9)).cellAt 1).toI, .int .i64 ((A.nthA x10 (A.nat n9)).cellAt 2).toI, .list (.ints .i64 ((A.nthA x10 (A.nat n9)).cellAt 3).toIs), .int .i64 ((A.nthA x10 (A.nat n9)).cellAt 4).toI])))) := by kernel_rfl
theorem f140p40 (A : Ar) (N : Nat) (n0 : Int) (n9 : Int) (x10 : List AV) : gfinM A tab (BO5 N) 12 [false] 140 (f140h140_3a n0 n9 x10) (f140h140_3am n0 n9 x10) =
  some ([true, !A.lt n9 (A.sub n0 1), true, A.inR .i64 (A.sub n0 1), true, true],
   AV.tup [], 140, 5, Row.big (.agg [.int .i64, .int .i64, .int .i64, .ints .i64, .int .i64]) x10) := by kernel_rfl
theorem f140p41 (A : Ar) (N : Nat) (n2 : Int) (n11 : Int) (x12 : List AV) : gwalkL A tab (BO5 N) 21 [true] (f140h140_1a n2 n11 x12) (f140h140_1am n2 n11 x12) =
  some ([true, A.inR .i64 (A.sub n11 1), true, A.and (A.ltN (A.nat (A.sub n11 1)) (A.lenA (A.setA x12 (A.nat n11) (AV.agg (Row.gen [.int .i64 ((A.nthA x12 (A.nat (A.sub n11 1))).cellAt 0).toI, .int .i64 ((A.nthA x12 (A.nat (A.sub n11 1))).cellAt 1).toI, .int .i64 ((A.nthA x12 (A.nat (A.sub n11 1))).cellAt 2).toI, .list (.ints .i64 ((A.nthA x12 (A.nat (A.sub n11 1))).cellAt 3).toIs), .int .i64 ((A.nthA x12 (A.nat (A.sub n11 1))).cellAt 4).toI]))))) (A.eqN 5 5), A.and (A.eqN 5 5) (A.and (A.le 0 (A.sub n11 1)) (A.ltN (A.nat (A.sub n11 1)) (A.lenA (A.setA x12 (A.nat n11) (AV.agg (Row.gen [.int .i64 ((A.nthA x12 (A.nat (A.sub n11 1))).cellAt 0).toI, .int .i64 ((A.nthA x12 (A.nat (A.sub n11 1))).cellAt 1).toI, .int .i64 ((A.nthA x12 (A.nat (A.sub n11 1))).cellAt 2).toI, .list (.ints .i64 ((A.nthA x12 (A.nat (A.sub n11 1))).cellAt 3).toIs), .int .i64 ((A.nthA x12 (A.nat (A.sub n11 1))).cellAt 4).toI])))))), A.and (A.ltN (A.nat n11) (A.lenA x12)) (A.eqN 5 5), A.and (A.eqN 5 5) (A.and (A.le 0 n11) (A.ltN (A.nat n11) (A.lenA x12))), A.and (A.ltN (A.nat n11) (A.lenA x12)) (A.leN (A.addN 0 5) 5), A.and (A.eqN 5 5) (A.and (A.le 0 n11) (A.ltN (A.nat n11) (A.lenA x12))), true, true, A.and (A.ltN (A.nat (A.sub n11 1)) (A.lenA x12)) (A.leN (A.addN 0 5) 5), A.and (A.eqN 5 5) (A.and (A.le 0 (A.sub n11 1)) (A.ltN (A.nat (A.sub n11 1)) (A.lenA x12))), A.inR .i64 (A.sub n11 1), true, true, A.inR .i64 (A.sub n11 1), true, true, true, true, A.lt n2 n11, true, true, true],
   f140h140_1a (n2) (A.sub n11 1) (A.setA (A.setA x12 (A.nat n11) (AV.agg (Row.gen [.int .i64 ((A.nthA x12 (A.nat (A.sub n11 1))).cellAt 0).toI, .int .i64 ((A.nthA x12 (A.nat (A.sub n11 1))).cellAt 1).toI, .int .i64 ((A.nthA x12 (A.nat (A.sub n11 1))).cellAt 2).toI, .list (.ints .i64 ((A.nthA x12 (A.nat (A.sub n11 1))).cellAt 3).toIs), .int .i64 ((A.nthA x12 (A.nat (A.sub n11 1))).cellAt 4).toI]))) (A.nat (A.sub n11 1)) (AV.agg (Row.gen [.int .i64 ((A.nthA x12 (A.nat n11)).cellAt 0).toI, .int .i64 ((A.nthA x12 (A.nat n11)).cellAt 1).toI, .int .i64 ((A.nthA x12 (A.nat n11)).cellAt 2).toI, .list (.ints .i64 ((A.nthA x12 (A.nat n11)).cellAt 3).toIs), .int .i64 ((A.nthA x12 (A.nat n11)).cellAt 4).toI]))), f140h140_1am (n2) (A.sub n11 1) (A.setA (A.setA x12 (A.nat n11) (AV.agg (Row.gen [.int .i64 ((A.nthA x12 (A.nat (A.sub n11 1))).cellAt 0).toI, .int .i64 ((A.nthA x12 (A.nat (A.sub n11 1))).cellAt 1).toI, .int .i64 ((A.nthA x12 (A.nat (A.sub n11 1))).cellAt 2).toI, .list (.ints .i64 ((A.nthA x12 (A.nat (A.sub n11 1))).cellAt 3).toIs), .int .i64 ((A.nthA x12 (A.nat (A.sub n11 1))).cellAt 4).toI]))) (A.nat (A.sub n11 1)) (AV.agg (Row.gen [.int .i64 ((A.nthA x12 (A.nat n11)).cellAt 0).toI, .int .i64 ((A.nthA x12 (A.nat n11)).cellAt 1).toI, .int .i64 ((A.nthA x12 (A.nat n11)).cellAt 2).toI, .list (.ints .i64 ((A.nthA x12 (A.nat n11)).cellAt 3).toIs), .int .i64 ((A.nthA x12 (A.nat n11)).cellAt 4).toI])))) := by kernel_rfl
theorem f140p42 (A : Ar) (N : Nat) (n2 : Int) (n11 : Int) (x12 : List AV) : gfinM A tab (BO5 N) 11 [false] 140 (f140h140_1a n2 n11 x12) (f140h140_1am n2 n11 x12) =
  some ([true, !A.lt n2 n11, true, true, true],
   AV.tup [], 140, 5, Row.big (.agg [.int .i64, .int .i64, .int .i64, .ints .i64, .int .i64]) x12) := by kernel_rfl
end Go.Proofs.Ytjhdnpmojhkbjaa
/- The end of a merge: the two halves. No condition. -/
namespace Go.Proofs.Ytjhdnpmojhkbjaa
theorem sm_end {C : Ctx} (hC : C.P = Try.prog) {N : Nat} (hK : CtrsOK Try.prog (BO5 N)) (xs Z1 Z2 Z3 : List AV) (a m b mid n st r p : Int) (hst : ¬ st < r) (hin : -1000000 ≤ n - st ∧ n - st ≤ 1000000)
    (hrot : if st < m ∧ m < n - st then rotB xs st m (n - st) = true ∧ rotN st.toNat m.toNat (n - st).toNat xs = Z1 else xs = Z1)
    (hle : if a < st ∧ st < mid then smB N Z1 a st mid = true ∧ segN a.toNat mid.toNat Z1 = Z2 else Z1 = Z2)
    (hri : if mid < n - st ∧ n - st < b then smB N Z2 mid (n - st) b = true ∧ segN mid.toNat b.toNat Z2 = Z3 else Z2 = Z3) :
    Ev C (f140h140_0a xs a m b mid n st r p) (f140h140_0am xs a m b mid n st r p) (FinM 140 140 5 (.big shN Z3) (.tup [])) := by
  have hi : std.inR .i64 (std.sub n st) = true := by
    simp; omega
  have hi' : std.inR .i64 (n - st) = true := hi
  by_cases h1 : st < m
  · by_cases h2 : m < n - st
    · rw [if_pos ⟨h1, h2⟩] at hrot
      obtain ⟨g1, e1⟩ := hrot
      subst e1
      by_cases h3 : a < st
      · by_cases h4 : st < mid
        · rw [if_pos ⟨h3, h4⟩] at hle
          obtain ⟨g2, e2⟩ := hle
          subst e2
          by_cases h5 : mid < n - st
          · by_cases h6 : n - st < b
            · rw [if_pos ⟨h5, h6⟩] at hri
              obtain ⟨g3, e3⟩ := hri
              subst e3
              exact finM hC hK (f140p12 std N xs a m b mid n st r p) (by simp only [s_sub, s_lt, g1, g2, g3, h1, h2, h3, h4, h5, h6, hst, hi']; simp) rfl rfl rfl rfl
            · rw [if_neg (fun h => h6 h.2)] at hri
              subst hri
              exact finM hC hK (f140p13 std N xs a m b mid n st r p) (by simp only [s_sub, s_lt, g1, g2, h1, h2, h3, h4, h5, h6, hst, hi']; simp) rfl rfl rfl rfl
          · rw [if_neg (fun h => h5 h.1)] at hri
            subst hri
            exact finM hC hK (f140p14 std N xs a m b mid n st r p) (by simp only [s_sub, s_lt, g1, g2, h1, h2, h3, h4, h5, hst, hi']; simp) rfl rfl rfl rfl
        · rw [if_neg (fun h => h4 h.2)] at hle
          subst hle
          by_cases h5 : mid < n - st
          · by_cases h6 : n - st < b
            · rw [if_pos ⟨h5, h6⟩] at hri
              obtain ⟨g3, e3⟩ := hri
              subst e3
              exact finM hC hK (f140p15 std N xs a m b mid n st r p) (by simp only [s_sub, s_lt, g1, g3, h1, h2, h3, h4, h5, h6, hst, hi']; simp) rfl rfl rfl rfl
            · rw [if_neg (fun h => h6 h.2)] at hri
              subst hri
              exact finM hC hK (f140p16 std N xs a m b mid n st r p) (by simp only [s_sub, s_lt, g1, h1, h2, h3, h4, h5, h6, hst, hi']; simp) rfl rfl rfl rfl
          · rw [if_neg (fun h => h5 h.1)] at hri
            subst hri
            exact finM hC hK (f140p17 std N xs a m b mid n st r p) (by simp only [s_sub, s_lt, g1, h1, h2, h3, h4, h5, hst, hi']; simp) rfl rfl rfl rfl
      · rw [if_neg (fun h => h3 h.1)] at hle
        subst hle
        by_cases h5 : mid < n - st
        · by_cases h6 : n - st < b
          · rw [if_pos ⟨h5, h6⟩] at hri
            obtain ⟨g3, e3⟩ := hri
            subst e3
            exact finM hC hK (f140p18 std N xs a m b mid n st r p) (by simp only [s_sub, s_lt, g1, g3, h1, h2, h3, h5, h6, hst, hi']; simp) rfl rfl rfl rfl
          · rw [if_neg (fun h => h6 h.2)] at hri
            subst hri
            exact finM hC hK (f140p19 std N xs a m b mid n st r p) (by simp only [s_sub, s_lt, g1, h1, h2, h3, h5, h6, hst, hi']; simp) rfl rfl rfl rfl
        · rw [if_neg (fun h => h5 h.1)] at hri
          subst hri
          exact finM hC hK (f140p20 std N xs a m b mid n st r p) (by simp only [s_sub, s_lt, g1, h1, h2, h3, h5, hst, hi']; simp) rfl rfl rfl rfl
    · rw [if_neg (fun h => h2 h.2)] at hrot
      subst hrot
      by_cases h3 : a < st
      · by_cases h4 : st < mid
        · rw [if_pos ⟨h3, h4⟩] at hle
          obtain ⟨g2, e2⟩ := hle
          subst e2
          by_cases h5 : mid < n - st
          · by_cases h6 : n - st < b
            · rw [if_pos ⟨h5, h6⟩] at hri
              obtain ⟨g3, e3⟩ := hri
              subst e3
              exact finM hC hK (f140p21 std N xs a m b mid n st r p) (by simp only [s_sub, s_lt, g2, g3, h1, h2, h3, h4, h5, h6, hst, hi']; simp) rfl rfl rfl rfl
            · rw [if_neg (fun h => h6 h.2)] at hri
              subst hri
              exact finM hC hK (f140p22 std N xs a m b mid n st r p) (by simp only [s_sub, s_lt, g2, h1, h2, h3, h4, h5, h6, hst, hi']; simp) rfl rfl rfl rfl
          · rw [if_neg (fun h => h5 h.1)] at hri
            subst hri
            exact finM hC hK (f140p23 std N xs a m b mid n st r p) (by simp only [s_sub, s_lt, g2, h1, h2, h3, h4, h5, hst, hi']; simp) rfl rfl rfl rfl
        · rw [if_neg (fun h => h4 h.2)] at hle
          subst hle
          by_cases h5 : mid < n - st
          · by_cases h6 : n - st < b
            · rw [if_pos ⟨h5, h6⟩] at hri
              obtain ⟨g3, e3⟩ := hri
              subst e3
              exact finM hC hK (f140p24 std N xs a m b mid n st r p) (by simp only [s_sub, s_lt, g3, h1, h2, h3, h4, h5, h6, hst, hi']; simp) rfl rfl rfl rfl
            · rw [if_neg (fun h => h6 h.2)] at hri
              subst hri
              exact finM hC hK (f140p25 std N xs a m b mid n st r p) (by simp only [s_sub, s_lt, h1, h2, h3, h4, h5, h6, hst, hi']; simp) rfl rfl rfl rfl
          · rw [if_neg (fun h => h5 h.1)] at hri
            subst hri
            exact finM hC hK (f140p26 std N xs a m b mid n st r p) (by simp only [s_sub, s_lt, h1, h2, h3, h4, h5, hst, hi']; simp) rfl rfl rfl rfl
      · rw [if_neg (fun h => h3 h.1)] at hle
        subst hle
        by_cases h5 : mid < n - st
        · by_cases h6 : n - st < b
          · rw [if_pos ⟨h5, h6⟩] at hri
            obtain ⟨g3, e3⟩ := hri
            subst e3
            exact finM hC hK (f140p27 std N xs a m b mid n st r p) (by simp only [s_sub, s_lt, g3, h1, h2, h3, h5, h6, hst, hi']; simp) rfl rfl rfl rfl
          · rw [if_neg (fun h => h6 h.2)] at hri
            subst hri
            exact finM hC hK (f140p28 std N xs a m b mid n st r p) (by simp only [s_sub, s_lt, h1, h2, h3, h5, h6, hst, hi']; simp) rfl rfl rfl rfl
        · rw [if_neg (fun h => h5 h.1)] at hri
          subst hri
          exact finM hC hK (f140p29 std N xs a m b mid n st r p) (by simp only [s_sub, s_lt, h1, h2, h3, h5, hst, hi']; simp) rfl rfl rfl rfl
  · rw [if_neg (fun h => h1 h.1)] at hrot
    subst hrot
    by_cases h3 : a < st
    · by_cases h4 : st < mid
      · rw [if_pos ⟨h3, h4⟩] at hle
        obtain ⟨g2, e2⟩ := hle
        subst e2
        by_cases h5 : mid < n - st
        · by_cases h6 : n - st < b
          · rw [if_pos ⟨h5, h6⟩] at hri
            obtain ⟨g3, e3⟩ := hri
            subst e3
            exact finM hC hK (f140p30 std N xs a m b mid n st r p) (by simp only [s_sub, s_lt, g2, g3, h1, h3, h4, h5, h6, hst, hi']; simp) rfl rfl rfl rfl
          · rw [if_neg (fun h => h6 h.2)] at hri
            subst hri
            exact finM hC hK (f140p31 std N xs a m b mid n st r p) (by simp only [s_sub, s_lt, g2, h1, h3, h4, h5, h6, hst, hi']; simp) rfl rfl rfl rfl
        · rw [if_neg (fun h => h5 h.1)] at hri
          subst hri
          exact finM hC hK (f140p32 std N xs a m b mid n st r p) (by simp only [s_sub, s_lt, g2, h1, h3, h4, h5, hst, hi']; simp) rfl rfl rfl rfl
      · rw [if_neg (fun h => h4 h.2)] at hle
        subst hle
        by_cases h5 : mid < n - st
        · by_cases h6 : n - st < b
          · rw [if_pos ⟨h5, h6⟩] at hri
            obtain ⟨g3, e3⟩ := hri
            subst e3
            exact finM hC hK (f140p33 std N xs a m b mid n st r p) (by simp only [s_sub, s_lt, g3, h1, h3, h4, h5, h6, hst, hi']; simp) rfl rfl rfl rfl
          · rw [if_neg (fun h => h6 h.2)] at hri
            subst hri
            exact finM hC hK (f140p34 std N xs a m b mid n st r p) (by simp only [s_sub, s_lt, h1, h3, h4, h5, h6, hst, hi']; simp) rfl rfl rfl rfl
        · rw [if_neg (fun h => h5 h.1)] at hri
          subst hri
          exact finM hC hK (f140p35 std N xs a m b mid n st r p) (by simp only [s_sub, s_lt, h1, h3, h4, h5, hst, hi']; simp) rfl rfl rfl rfl
    · rw [if_neg (fun h => h3 h.1)] at hle
      subst hle
      by_cases h5 : mid < n - st
      · by_cases h6 : n - st < b
        · rw [if_pos ⟨h5, h6⟩] at hri
          obtain ⟨g3, e3⟩ := hri
          subst e3
          exact finM hC hK (f140p36 std N xs a m b mid n st r p) (by simp only [s_sub, s_lt, g3, h1, h3, h5, h6, hst, hi']; simp) rfl rfl rfl rfl
        · rw [if_neg (fun h => h6 h.2)] at hri
          subst hri
          exact finM hC hK (f140p37 std N xs a m b mid n st r p) (by simp only [s_sub, s_lt, h1, h3, h5, h6, hst, hi']; simp) rfl rfl rfl rfl
      · rw [if_neg (fun h => h5 h.1)] at hri
        subst hri
        exact finM hC hK (f140p38 std N xs a m b mid n st r p) (by simp only [s_sub, s_lt, h1, h3, h5, hst, hi']; simp) rfl rfl rfl rfl
end Go.Proofs.Ytjhdnpmojhkbjaa
/- The search of a merge. No condition. -/
namespace Go.Proofs.Ytjhdnpmojhkbjaa
theorem shr1 (x : Int) : std.shr x 1 = x / 2 := by
  rw [s_shr]
  show x.fdiv 2 = x / 2
  rw [Int.fdiv_eq_ediv_of_nonneg _ (by omega)]
def kAt (xs : List AV) (i : Int) : Int := keyN (xs.getD i.toNat .top)
theorem sm_search {C : Ctx} (hC : C.P = Try.prog) {N : Nat} (hK : CtrsOK Try.prog (BO5 N)) {Q : List AFrame → AHeap → Prop} (xs : List AV) (a m b mid n p lo hi : Int) (hL : xs.length < 1000000) (h0 : 0 ≤ lo) (hhi : hi ≤ xs.length) (hp0 : 0 ≤ p - hi + 1) (hp1 : p - lo < xs.length)
    (hq : ∀ st : Int, lo ≤ st → st ≤ hi → (lo < st → kAt xs (st - 1) ≤ kAt xs (p - (st - 1))) → (st < hi → kAt xs (p - st) < kAt xs st) → Ev C (f140h140_0a xs a m b mid n st st p) (f140h140_0am xs a m b mid n st st p) Q) :
    ∀ (d : Nat) (s r : Int), (r - s).toNat ≤ d → lo ≤ s → s ≤ r → r ≤ hi → (lo < s → kAt xs (s - 1) ≤ kAt xs (p - (s - 1))) → (r < hi → kAt xs (p - r) < kAt xs r) → Ev C (f140h140_0a xs a m b mid n s r p) (f140h140_0am xs a m b mid n s r p) Q := by
  intro d
  induction d with
  | zero =>
    intro s r hd h1 h2 h3 h4 h5
    have : s = r := by omega
    subst this
    exact hq s h1 h3 h4 h5
  | succ d ih =>
    intro s r hd h1 h2 h3 h4 h5
    by_cases he : s = r
    · subst he
      exact hq s h1 h3 h4 h5
    · have hc : std.shr (std.add s r) 1 = (s + r) / 2 := shr1 _
      obtain ⟨c, hcd⟩ : ∃ c, c = (s + r) / 2 := ⟨_, rfl⟩
      rw [← hcd] at hc
      have hc1 : s ≤ c := by omega
      have hc2 : c < r := by omega
      have u : std.inR .u64 (std.add s r) = true := decide_eq_true ⟨show (0 : Int) ≤ s + r by omega, show s + r ≤ 18446744073709551615 by omega⟩
      have hk : decide (cmp3 (AV.toI (AV.cellAt (xs.getD (p - c).toNat .top) 4)) (AV.toI (AV.cellAt (xs.getD c.toNat .top) 4)) < 0) = decide (kAt xs (p - c) < kAt xs c) := cmp3_neg _ _
      by_cases hlt : kAt xs (p - c) < kAt xs c
      · have hw := f140p11 std N xs a m b mid n s r p
        simp only [hc, s_nat, s_nthA, s_sub, s_lt, hk] at hw
        refine go hC hK hw ?_ (ih s c (by omega) h1 hc1 (by omega) h4 fun _ => hlt)
        simp only [u]
        simp [hlt]
        omega
      · have hw := f140p10 std N xs a m b mid n s r p
        simp only [hc, s_nat, s_nthA, s_sub, s_lt, hk] at hw
        refine go hC hK hw ?_ (ih (c + 1) r (by omega) (by omega) (by omega) h3 (fun _ => by rw [show c + 1 - 1 = c by omega]; omega) h5)
        simp only [u]
        simp [hlt]
        omega
end Go.Proofs.Ytjhdnpmojhkbjaa
/- Segments by their indices. No condition. -/
namespace Go.Proofs.Ytjhdnpmojhkbjaa
theorem sortedB_iff : ∀ {l : List AV}, sortedB l = true ↔ SortN l
  | [] => by simp [sortedB, SortN]
  | x :: l => by
    unfold sortedB SortN
    rw [List.pairwise_cons, Bool.and_eq_true, sortedB_iff, List.all_eq_true]
    simp [SortN]
theorem seg_at (xs : List AV) (i j k : Nat) (h1 : i + k < j) (h2 : j ≤ xs.length) : ((xs.take j).drop i)[k]? = some (xs.getD (i + k) .top) := by
  rw [List.getElem?_drop, List.getElem?_take_of_lt h1, List.getD_eq_getElem?_getD, List.getElem?_eq_getElem (by omega)]; rfl
theorem seg_len (xs : List AV) (i j : Nat) (h : j ≤ xs.length) : ((xs.take j).drop i).length = j - i := by simp; omega
theorem seg_get (xs : List AV) (i j k : Nat) (h1 : i + k < j) (h2 : j ≤ xs.length) (h3 : k < ((xs.take j).drop i).length) : keyN ((xs.take j).drop i)[k] = kAt xs ((i + k : Nat) : Int) := by
  have := seg_at xs i j k h1 h2
  rw [List.getElem?_eq_getElem h3] at this
  rw [Option.some.inj this, kAt, Int.toNat_natCast]
theorem seg_mono {xs : List AV} {i j : Nat} (h2 : j ≤ xs.length) (hs : SortN ((xs.take j).drop i)) {k l : Nat} (h3 : i ≤ k) (h4 : k ≤ l) (h5 : l < j) : kAt xs k ≤ kAt xs l := by
  by_cases e : k = l
  · subst e; exact Int.le_refl _
  · have hl := seg_len xs i j h2
    have := List.pairwise_iff_getElem.mp hs (k - i) (l - i) (by omega) (by omega) (by omega)
    rw [seg_get xs i j (k - i) (by omega) h2, seg_get xs i j (l - i) (by omega) h2] at this
    rw [show i + (k - i) = k by omega, show i + (l - i) = l by omega] at this
    exact this
theorem seg_sorted {xs : List AV} {i j : Nat} (h2 : j ≤ xs.length) (h : ∀ k l : Nat, i ≤ k → k ≤ l → l < j → kAt xs k ≤ kAt xs l) : SortN ((xs.take j).drop i) := by
  have hl := seg_len xs i j h2
  refine List.pairwise_iff_getElem.mpr fun p q hp hq hpq => ?_
  rw [seg_get xs i j p (by omega) h2, seg_get xs i j q (by omega) h2]
  exact h _ _ (by omega) (by omega) (by omega)
theorem seg_mem {xs : List AV} {i j : Nat} (h2 : j ≤ xs.length) {y : AV} (hy : y ∈ (xs.take j).drop i) : ∃ k : Nat, i ≤ k ∧ k < j ∧ keyN y = kAt xs k := by
  have hl := seg_len xs i j h2
  obtain ⟨p, hp, rfl⟩ := List.mem_iff_getElem.mp hy
  exact ⟨i + p, by omega, by omega, seg_get xs i j p (by omega) h2 hp⟩
theorem seg_app (xs : List AV) (a m b : Nat) (h1 : a ≤ m) (h2 : m ≤ b) : (xs.take m).drop a ++ (xs.take b).drop m = (xs.take b).drop a := by
  have e : (xs.take b).take m = xs.take m := by rw [List.take_take, Nat.min_eq_left h2]
  have := List.take_append_drop m (xs.take b)
  rw [e] at this
  conv => rhs; rw [← this]
  by_cases hm : (xs.take m).length = m
  · rw [List.drop_append_of_le_length (by omega)]
  · have : xs.length < m := by simp at hm; omega
    have e1 : (xs.take b).drop m = [] := by rw [List.drop_eq_nil_iff]; simp; omega
    rw [e1]; simp
theorem segN_of {xs P Z S : List AV} {a b : Nat} (h : xs = P ++ Z ++ S) (ha : P.length = a) (hb : P.length + Z.length = b) : segN a b xs = P ++ sortN Z ++ S := by
  subst h; subst ha; subst hb
  unfold segN
  rw [List.append_assoc P Z S, List.take_append_of_le_length (Nat.le_refl _), List.take_length, ← List.append_assoc]
  have e1 : (P ++ Z ++ S).take (P.length + Z.length) = P ++ Z := by
    rw [List.take_append_of_le_length (by simp), ← List.length_append, List.take_length]
  have e2 : (P ++ Z ++ S).drop (P.length + Z.length) = S := by
    rw [← List.length_append, List.drop_left]
  rw [e1, e2, List.drop_left]
theorem rotN_of {xs P U V S : List AV} {a m b : Nat} (h : xs = P ++ U ++ V ++ S) (ha : P.length = a) (hm : P.length + U.length = m) (hb : P.length + U.length + V.length = b) : rotN a m b xs = P ++ V ++ U ++ S := by
  subst h; subst ha; subst hm; subst hb
  unfold rotN
  have e1 : (P ++ U ++ V ++ S).take P.length = P := by simp [List.append_assoc]
  have e2 : (P ++ U ++ V ++ S).take (P.length + U.length) = P ++ U := by
    rw [List.append_assoc (P ++ U), ← List.length_append, List.take_left]
  have e3 : (P ++ U ++ V ++ S).take (P.length + U.length + V.length) = P ++ U ++ V := by
    rw [← List.length_append, ← List.length_append, List.take_left]
  have e4 : (P ++ U ++ V ++ S).drop (P.length + U.length + V.length) = S := by
    rw [← List.length_append, ← List.length_append, List.drop_left]
  have e5 : (P ++ U ++ V).drop (P.length + U.length) = V := by
    rw [← List.length_append, List.drop_left]
  rw [e1, e2, e3, e4, e5, List.drop_left]
end Go.Proofs.Ytjhdnpmojhkbjaa
/- A merge from the place that its search finds. No condition. -/
namespace Go.Proofs.Ytjhdnpmojhkbjaa
theorem seg_of {xs P Z S : List AV} {a b : Nat} (h : xs = P ++ Z ++ S) (ha : P.length = a) (hb : P.length + Z.length = b) : (xs.take b).drop a = Z := by
  subst h; subst ha; subst hb
  rw [← List.length_append, List.take_left, List.drop_left]
theorem smB_of {N : Nat} {xs P X V S : List AV} {a m b : Nat} (h : xs = P ++ X ++ V ++ S) (ha : P.length = a) (hm : P.length + X.length = m) (hb : P.length + X.length + V.length = b) (hX : 0 < X.length) (hV : 0 < V.length) (hL : xs.length < 1000000) (hn : numsB xs = true) (sX : SortN X) (sV : SortN V) (hN : b - a < N) : smB N xs a m b = true := by
  have hl : xs.length = P.length + X.length + V.length + S.length := by rw [h]; simp [Nat.add_assoc]
  unfold smB
  rw [hn, seg_of (xs := xs) (P := P) (Z := X) (S := V ++ S) (by rw [h]; simp) (by simp; omega) (by simp; omega), seg_of (xs := xs) (P := P ++ X) (Z := V) (S := S) h (by simp; omega) (by simp; omega), sortedB_iff.mpr sX, sortedB_iff.mpr sV]
  simp only [Bool.and_true, decide_eq_true_eq]
  omega
theorem sm_main {C : Ctx} (hC : C.P = Try.prog) {N : Nat} (hK : CtrsOK Try.prog (BO5 N)) (xs : List AV) (a m b mid s e : Nat) (p : Int) (h1 : a ≤ s) (h2 : s ≤ m) (h3 : m ≤ e) (h4 : e ≤ b) (h5 : b ≤ xs.length) (hmid : mid + m = s + e) (ham : a < mid) (hmb : mid < b) (hL : xs.length < 1000000) (hn : numsB xs = true) (hs1 : SortN ((xs.take m).drop a)) (hs2 : SortN ((xs.take b).drop m)) (hN : b - a ≤ N)
    (q1 : m < e → s < m → kAt xs ((e - 1 : Nat) : Int) < kAt xs s) (q2 : a < s → e < b → kAt xs ((s - 1 : Nat) : Int) ≤ kAt xs e) :
    Ev C (f140h140_0a xs a m b mid (mid + m) s s p) (f140h140_0am xs a m b mid (mid + m) s s p) (FinM 140 140 5 (.big shN (segN a b xs)) (.tup [])) := by
  obtain ⟨P, hP⟩ : ∃ P, P = xs.take a := ⟨_, rfl⟩
  obtain ⟨X, hX⟩ : ∃ X, X = (xs.take s).drop a := ⟨_, rfl⟩
  obtain ⟨U, hU⟩ : ∃ U, U = (xs.take m).drop s := ⟨_, rfl⟩
  obtain ⟨V, hV⟩ : ∃ V, V = (xs.take e).drop m := ⟨_, rfl⟩
  obtain ⟨Y, hY⟩ : ∃ Y, Y = (xs.take b).drop e := ⟨_, rfl⟩
  obtain ⟨S, hS⟩ : ∃ S, S = xs.drop b := ⟨_, rfl⟩
  have lP : P.length = a := by rw [hP]; simp; omega
  have lX : X.length = s - a := by rw [hX]; exact seg_len _ _ _ (by omega)
  have lU : U.length = m - s := by rw [hU]; exact seg_len _ _ _ (by omega)
  have lV : V.length = e - m := by rw [hV]; exact seg_len _ _ _ (by omega)
  have lY : Y.length = b - e := by rw [hY]; exact seg_len _ _ _ (by omega)
  have lS : S.length = xs.length - b := by rw [hS]; simp
  have eL : (xs.take m).drop a = X ++ U := by rw [hX, hU]; exact (seg_app xs a s m h1 h2).symm
  have eR : (xs.take b).drop m = V ++ Y := by rw [hV, hY]; exact (seg_app xs m e b h3 h4).symm
  have hxs : xs = P ++ (X ++ U) ++ (V ++ Y) ++ S := by
    rw [← eL, ← eR, hP, hS]; exact (cut4 xs a m b (by omega) (by omega)).symm
  have sX : SortN X := by rw [hX]; exact seg_sorted (by omega) fun k l r1 r2 r3 => seg_mono (by omega) hs1 r1 r2 (by omega)
  have sU : SortN U := by rw [hU]; exact seg_sorted (by omega) fun k l r1 r2 r3 => seg_mono (by omega) hs1 (by omega) r2 (by omega)
  have sV : SortN V := by rw [hV]; exact seg_sorted (by omega) fun k l r1 r2 r3 => seg_mono (by omega) hs2 r1 r2 (by omega)
  have sY : SortN Y := by rw [hY]; exact seg_sorted (by omega) fun k l r1 r2 r3 => seg_mono (by omega) hs2 (by omega) r2 (by omega)
  have cVU : ∀ v ∈ V, ∀ u ∈ U, keyN v < keyN u := by
    intro v hv u hu
    rw [hV] at hv; rw [hU] at hu
    obtain ⟨k, k1, k2, k3⟩ := seg_mem (by omega) hv
    obtain ⟨l, l1, l2, l3⟩ := seg_mem (by omega) hu
    have t1 := seg_mono (by omega) hs2 k1 (show k ≤ e - 1 by omega) (by omega)
    have t2 := seg_mono (by omega) hs1 (show a ≤ s by omega) l1 l2
    have t3 := q1 (by omega) (by omega)
    omega
  have cXY : ∀ x ∈ X, ∀ y ∈ Y, keyN x ≤ keyN y := by
    intro x hx y hy
    rw [hX] at hx; rw [hY] at hy
    obtain ⟨k, k1, k2, k3⟩ := seg_mem (by omega) hx
    obtain ⟨l, l1, l2, l3⟩ := seg_mem (by omega) hy
    have t1 := seg_mono (by omega) hs1 k1 (show k ≤ s - 1 by omega) (by omega)
    have t2 := seg_mono (by omega) hs2 (show m ≤ e by omega) l1 l2
    have t3 := q2 (by omega) (by omega)
    omega
  have n4 : numsB P = true ∧ numsB X = true ∧ numsB U = true ∧ numsB V = true ∧ numsB Y = true ∧ numsB S = true := by
    rw [hxs] at hn
    simp only [numsB_app, Bool.and_eq_true] at hn
    exact ⟨hn.1.1.1, hn.1.1.2.1, hn.1.1.2.2, hn.1.2.1, hn.1.2.2, hn.2⟩
  have nS : ∀ {l : List AV}, numsB l = true → numsB (sortN l) = true := fun hl => numsB_mem.mpr fun x hx => numsB_mem.mp hl x (mem_sort.mp hx)
  have e3 : segN a b xs = P ++ sortN (X ++ V) ++ sortN (U ++ Y) ++ S := by
    rw [segN_of (P := P) (Z := X ++ U ++ (V ++ Y)) (S := S) (by rw [hxs]; simp) lP (by simp; omega), merge_parts X U V Y (by rw [← eL]; exact hs1) (by rw [← eR]; exact hs2) cVU cXY]
    simp
  have i1 : ((mid : Int) + m) - s = (e : Int) := by omega
  rw [e3]
  refine sm_end hC hK xs (P ++ X ++ V ++ U ++ Y ++ S) (P ++ sortN (X ++ V) ++ U ++ Y ++ S) _ a m b mid (mid + m) s s p (by omega) (by omega) ?_ ?_ ?_
  · rw [i1]
    split
    · rename_i hc
      refine ⟨?_, ?_⟩
      · unfold rotB
        rw [hn]
        simp only [Bool.and_true, decide_eq_true_eq]
        omega
      · rw [Int.toNat_natCast, Int.toNat_natCast, Int.toNat_natCast, rotN_of (P := P ++ X) (U := U) (V := V) (S := Y ++ S) (by rw [hxs]; simp) (by simp; omega) (by simp; omega) (by simp; omega)]
        simp
    · rename_i hc
      rcases Nat.lt_or_ge s m with hsm | hsm
      · have : V = [] := List.eq_nil_of_length_eq_zero (by omega)
        rw [hxs, this]; simp
      · have : U = [] := List.eq_nil_of_length_eq_zero (by omega)
        rw [hxs, this]; simp
  · split
    · rename_i hc
      refine ⟨smB_of (P := P) (X := X) (V := V) (S := U ++ Y ++ S) (by simp) lP (by omega) (by omega) (by omega) (by omega) (by simp; omega) ?_ sX sV (by omega), ?_⟩
      · simp only [numsB_app, n4, Bool.and_self]
      · rw [Int.toNat_natCast, Int.toNat_natCast, segN_of (P := P) (Z := X ++ V) (S := U ++ Y ++ S) (by simp) lP (by simp; omega)]
        simp
    · rename_i hc
      have : sortN (X ++ V) = X ++ V := by
        rcases Nat.lt_or_ge a s with hsm | hsm
        · have : V = [] := List.eq_nil_of_length_eq_zero (by omega)
          rw [this, List.append_nil, sortN_same sX]
        · have : X = [] := List.eq_nil_of_length_eq_zero (by omega)
          rw [this, List.nil_append, sortN_same sV]
      rw [this]; simp
  · rw [i1]
    have lZ : (sortN (X ++ V)).length = X.length + V.length := by rw [sortN_len]; simp
    split
    · rename_i hc
      refine ⟨smB_of (P := P ++ sortN (X ++ V)) (X := U) (V := Y) (S := S) (by simp) (by simp; omega) (by simp; omega) (by simp; omega) (by omega) (by omega) (by simp; omega) ?_ sU sY (by omega), ?_⟩
      · have := nS (l := X ++ V) (by simp only [numsB_app, n4, Bool.and_self])
        simp only [numsB_app, n4, this, Bool.and_self]
      · rw [Int.toNat_natCast, Int.toNat_natCast, segN_of (P := P ++ sortN (X ++ V)) (Z := U ++ Y) (S := S) (by simp) (by simp; omega) (by simp; omega)]
    · rename_i hc
      have : sortN (U ++ Y) = U ++ Y := by
        rcases Nat.lt_or_ge mid e with hsm | hsm
        · have : Y = [] := List.eq_nil_of_length_eq_zero (by omega)
          rw [this, List.append_nil, sortN_same sU]
        · have : U = [] := List.eq_nil_of_length_eq_zero (by omega)
          rw [this, List.nil_append, sortN_same sY]
      rw [this]; simp
end Go.Proofs.Ytjhdnpmojhkbjaa
/- A merge with one element on a side. No condition. -/
namespace Go.Proofs.Ytjhdnpmojhkbjaa
theorem s4_search {C : Ctx} (hC : C.P = Try.prog) {N : Nat} (hK : CtrsOK Try.prog (BO5 N)) {Q : List AFrame → AHeap → Prop} (xs : List AV) (a lo hi : Int) (hL : xs.length < 1000000) (h0 : 0 ≤ lo) (hhi : hi ≤ xs.length) (ha : 0 ≤ a) (ha2 : a < xs.length)
    (hq : ∀ st : Int, lo ≤ st → st ≤ hi → (lo < st → kAt xs (st - 1) < kAt xs a) → (st < hi → kAt xs a ≤ kAt xs st) → Ev C (f140h140_3a st a []) (f140h140_3am st a xs) Q) :
    ∀ (d : Nat) (s r : Int), (r - s).toNat ≤ d → lo ≤ s → s ≤ r → r ≤ hi → (lo < s → kAt xs (s - 1) < kAt xs a) → (r < hi → kAt xs a ≤ kAt xs r) → Ev C (f140h140_4a xs a s r) (f140h140_4am xs a s r) Q := by
  intro d
  have hfin : ∀ s : Int, lo ≤ s → s ≤ hi → (lo < s → kAt xs (s - 1) < kAt xs a) → (s < hi → kAt xs a ≤ kAt xs s) → Ev C (f140h140_4a xs a s s) (f140h140_4am xs a s s) Q := fun s h1 h3 h4 h5 =>
    go hC hK (f140p6 std N xs a s s) (by simp) (hq s h1 h3 h4 h5)
  induction d with
  | zero =>
    intro s r hd h1 h2 h3 h4 h5
    have : s = r := by omega
    subst this
    exact hfin s h1 h3 h4 h5
  | succ d ih =>
    intro s r hd h1 h2 h3 h4 h5
    by_cases he : s = r
    · subst he
      exact hfin s h1 h3 h4 h5
    · have hc : std.shr (std.add s r) 1 = (s + r) / 2 := shr1 _
      obtain ⟨c, hcd⟩ : ∃ c, c = (s + r) / 2 := ⟨_, rfl⟩
      rw [← hcd] at hc
      have hc1 : s ≤ c := by omega
      have hc2 : c < r := by omega
      have u : std.inR .u64 (std.add s r) = true := decide_eq_true ⟨show (0 : Int) ≤ s + r by omega, show s + r ≤ 18446744073709551615 by omega⟩
      have hk : decide (cmp3 (AV.toI (AV.cellAt (xs.getD c.toNat .top) 4)) (AV.toI (AV.cellAt (xs.getD a.toNat .top) 4)) < 0) = decide (kAt xs c < kAt xs a) := cmp3_neg _ _
      by_cases hlt : kAt xs c < kAt xs a
      · have hw := f140p4 std N xs a s r
        simp only [hc, s_nat, s_nthA, s_lt, hk] at hw
        refine go hC hK hw ?_ (ih (c + 1) r (by omega) (by omega) (by omega) h3 (fun _ => by rw [show c + 1 - 1 = c by omega]; exact hlt) h5)
        simp only [u]
        simp [hlt]
        omega
      · have hw := f140p5 std N xs a s r
        simp only [hc, s_nat, s_nthA, s_lt, hk] at hw
        refine go hC hK hw ?_ (ih s c (by omega) h1 hc1 (by omega) h4 fun _ => by omega)
        simp only [u]
        simp [hlt]
        omega
theorem s2_search {C : Ctx} (hC : C.P = Try.prog) {N : Nat} (hK : CtrsOK Try.prog (BO5 N)) {Q : List AFrame → AHeap → Prop} (xs : List AV) (m lo hi : Int) (hL : xs.length < 1000000) (h0 : 0 ≤ lo) (hhi : hi ≤ xs.length) (ha : 0 ≤ m) (ha2 : m < xs.length)
    (hq : ∀ st : Int, lo ≤ st → st ≤ hi → (lo < st → kAt xs (st - 1) ≤ kAt xs m) → (st < hi → kAt xs m < kAt xs st) → Ev C (f140h140_1a st m []) (f140h140_1am st m xs) Q) :
    ∀ (d : Nat) (s r : Int), (r - s).toNat ≤ d → lo ≤ s → s ≤ r → r ≤ hi → (lo < s → kAt xs (s - 1) ≤ kAt xs m) → (r < hi → kAt xs m < kAt xs r) → Ev C (f140h140_2a xs m s r) (f140h140_2am xs m s r) Q := by
  intro d
  have hfin : ∀ s : Int, lo ≤ s → s ≤ hi → (lo < s → kAt xs (s - 1) ≤ kAt xs m) → (s < hi → kAt xs m < kAt xs s) → Ev C (f140h140_2a xs m s s) (f140h140_2am xs m s s) Q := fun s h1 h3 h4 h5 =>
    go hC hK (f140p9 std N xs m s s) (by simp) (hq s h1 h3 h4 h5)
  induction d with
  | zero =>
    intro s r hd h1 h2 h3 h4 h5
    have : s = r := by omega
    subst this
    exact hfin s h1 h3 h4 h5
  | succ d ih =>
    intro s r hd h1 h2 h3 h4 h5
    by_cases he : s = r
    · subst he
      exact hfin s h1 h3 h4 h5
    · have hc : std.shr (std.add s r) 1 = (s + r) / 2 := shr1 _
      obtain ⟨c, hcd⟩ : ∃ c, c = (s + r) / 2 := ⟨_, rfl⟩
      rw [← hcd] at hc
      have hc1 : s ≤ c := by omega
      have hc2 : c < r := by omega
      have u : std.inR .u64 (std.add s r) = true := decide_eq_true ⟨show (0 : Int) ≤ s + r by omega, show s + r ≤ 18446744073709551615 by omega⟩
      have hk : decide (cmp3 (AV.toI (AV.cellAt (xs.getD m.toNat .top) 4)) (AV.toI (AV.cellAt (xs.getD c.toNat .top) 4)) < 0) = decide (kAt xs m < kAt xs c) := cmp3_neg _ _
      by_cases hlt : kAt xs m < kAt xs c
      · have hw := f140p8 std N xs m s r
        simp only [hc, s_nat, s_nthA, s_lt, hk] at hw
        refine go hC hK hw ?_ (ih s c (by omega) h1 hc1 (by omega) h4 fun _ => hlt)
        simp only [u]
        simp [hlt]
        omega
      · have hw := f140p7 std N xs m s r
        simp only [hc, s_nat, s_nthA, s_lt, hk] at hw
        refine go hC hK hw ?_ (ih (c + 1) r (by omega) (by omega) (by omega) h3 (fun _ => by rw [show c + 1 - 1 = c by omega]; omega) h5)
        simp only [u]
        simp [hlt]
        omega
theorem swap_at (T q : List AV) (x y : AV) (j : Nat) (hj : j = T.length) : ((T ++ x :: y :: q).set j y).set (j + 1) x = T ++ y :: x :: q := by
  subst hj
  rw [List.set_append_right _ _ (Nat.le_refl _), List.set_append_right _ _ (by omega), Nat.sub_self, Nat.add_sub_cancel_left]; rfl
theorem swap_at' (T q : List AV) (x y : AV) (j : Nat) (hj : j = T.length) : ((T ++ x :: y :: q).set (j + 1) x).set j y = T ++ y :: x :: q := by
  subst hj
  rw [List.set_append_right _ _ (by omega), List.set_append_right _ _ (by omega), Nat.sub_self, Nat.add_sub_cancel_left]; rfl
theorem right_loop {C : Ctx} (hC : C.P = Try.prog) {N : Nat} (hK : CtrsOK Try.prog (BO5 N)) (x : AV) (S R : List AV) (hx : valN x = x) : ∀ (V P : List AV) (i : Int), i = (P.length : Int) + V.length + 1 → P.length + V.length + S.length + 1 < 1000000 → (∀ y ∈ V, valN y = y) → P ++ V ++ [x] ++ S = R →
    Ev C (f140h140_3a i (P.length : Int) []) (f140h140_3am i (P.length : Int) (P ++ [x] ++ V ++ S)) (FinM 140 140 5 (.big shN R) (.tup [])) := by
  intro V
  induction V with
  | nil =>
    intro P i hi hl _ hR
    subst hi
    have hw := f140p40 std N ((P.length : Int) + ([] : List AV).length + 1) P.length (P ++ [x] ++ [] ++ S)
    rw [show P ++ [x] ++ [] ++ S = R by rw [← hR]; simp] at hw ⊢
    exact finM hC hK hw (by simp; omega) rfl rfl rfl rfl
  | cons y V ih =>
    intro P i hi hl hv hR
    have hy : valN y = y := hv y (by simp)
    have hw := f140p39 std N i P.length (P ++ [x] ++ (y :: V) ++ S)
    have e0 : P ++ [x] ++ (y :: V) ++ S = P ++ x :: y :: (V ++ S) := by simp
    rw [e0] at hw ⊢
    have g1 : (P ++ x :: y :: (V ++ S)).getD P.length .top = x := getD_mid _ _ _ _ rfl
    have g2 : (P ++ x :: y :: (V ++ S)).getD (P.length + 1) .top = y := by
      rw [show P ++ x :: y :: (V ++ S) = (P ++ [x]) ++ y :: (V ++ S) by simp]
      exact getD_mid _ _ _ _ (by simp)
    have e1 : ((P.length : Int) + 1).toNat = P.length + 1 := by omega
    simp only [s_nat, s_nthA, s_setA, s_add, e1, g1, g2, Int.toNat_natCast] at hw
    rw [show (AV.agg (Row.gen [AV.int .i64 (AV.toI (AV.cellAt x 0)), AV.int .i64 (AV.toI (AV.cellAt x 1)), AV.int .i64 (AV.toI (AV.cellAt x 2)), AV.list (.ints .i64 (AV.toIs (AV.cellAt x 3))), AV.int .i64 (AV.toI (AV.cellAt x 4))])) = x from hx, show (AV.agg (Row.gen [AV.int .i64 (AV.toI (AV.cellAt y 0)), AV.int .i64 (AV.toI (AV.cellAt y 1)), AV.int .i64 (AV.toI (AV.cellAt y 2)), AV.list (.ints .i64 (AV.toIs (AV.cellAt y 3))), AV.int .i64 (AV.toI (AV.cellAt y 4))])) = y from hy, swap_at P (V ++ S) x y P.length rfl] at hw
    refine go hC hK hw ?_ ?_
    · simp only [List.length_cons] at hi hl
      simp
      omega
    · have := ih (P ++ [y]) i (by rw [hi]; simp; omega) (by simp at hl ⊢; omega) (fun z hz => hv z (by simp [hz])) (by rw [← hR]; simp)
      have e2 : ((P ++ [y]).length : Int) = (P.length : Int) + 1 := by simp
      rw [e2, show P ++ [y] ++ [x] ++ V ++ S = P ++ y :: x :: (V ++ S) by simp] at this
      exact this
theorem left_loop {C : Ctx} (hC : C.P = Try.prog) {N : Nat} (hK : CtrsOK Try.prog (BO5 N)) (y : AV) (P R : List AV) (hy : valN y = y) : ∀ (n : Nat) (U S : List AV) (k : Int), U.length = n → k = (P.length : Int) + U.length → P.length + U.length + S.length + 1 < 1000000 → (∀ z ∈ U, valN z = z) → P ++ [y] ++ U ++ S = R →
    Ev C (f140h140_1a (P.length : Int) k []) (f140h140_1am (P.length : Int) k (P ++ U ++ [y] ++ S)) (FinM 140 140 5 (.big shN R) (.tup [])) := by
  intro n
  induction n with
  | zero =>
    intro U S k hU hk hl _ hR
    have : U = [] := List.eq_nil_of_length_eq_zero hU
    subst this; subst hk
    have hw := f140p42 std N P.length ((P.length : Int) + ([] : List AV).length) (P ++ [] ++ [y] ++ S)
    rw [show P ++ [] ++ [y] ++ S = R by rw [← hR]; simp] at hw ⊢
    exact finM hC hK hw (by simp) rfl rfl rfl rfl
  | succ n ih =>
    intro U S k hU hk hl hv hR
    rcases List.eq_nil_or_concat U with rfl | ⟨T, x, rfl⟩
    · simp at hU
    · rw [List.concat_eq_append] at *
      have hx : valN x = x := hv x (by simp)
      have hT : T.length = n := by simpa using hU
      have e0 : P ++ (T ++ [x]) ++ [y] ++ S = (P ++ T) ++ x :: y :: S := by simp
      have hk' : k = ((P ++ T).length : Int) + 1 := by rw [hk]; simp; omega
      subst hk'
      have hw := f140p41 std N P.length (((P ++ T).length : Int) + 1) (P ++ (T ++ [x]) ++ [y] ++ S)
      rw [e0] at hw ⊢
      have g1 : ((P ++ T) ++ x :: y :: S).getD (P ++ T).length .top = x := getD_mid _ _ _ _ rfl
      have g2 : ((P ++ T) ++ x :: y :: S).getD ((P ++ T).length + 1) .top = y := by
        rw [show (P ++ T) ++ x :: y :: S = (P ++ T ++ [x]) ++ y :: S by simp]
        exact getD_mid _ _ _ _ (by rw [List.length_append (bs := [x])]; rfl)
      have e1 : (((P ++ T).length : Int) + 1).toNat = (P ++ T).length + 1 := by omega
      have e2 : (((P ++ T).length : Int) + 1) - 1 = (P ++ T).length := by omega
      simp only [s_nat, s_nthA, s_setA, s_sub, e1, e2, g1, g2, Int.toNat_natCast] at hw
      rw [show (AV.agg (Row.gen [AV.int .i64 (AV.toI (AV.cellAt x 0)), AV.int .i64 (AV.toI (AV.cellAt x 1)), AV.int .i64 (AV.toI (AV.cellAt x 2)), AV.list (.ints .i64 (AV.toIs (AV.cellAt x 3))), AV.int .i64 (AV.toI (AV.cellAt x 4))])) = x from hx, show (AV.agg (Row.gen [AV.int .i64 (AV.toI (AV.cellAt y 0)), AV.int .i64 (AV.toI (AV.cellAt y 1)), AV.int .i64 (AV.toI (AV.cellAt y 2)), AV.list (.ints .i64 (AV.toIs (AV.cellAt y 3))), AV.int .i64 (AV.toI (AV.cellAt y 4))])) = y from hy, swap_at' (P ++ T) S x y (P ++ T).length rfl] at hw
      refine go hC hK hw ?_ ?_
      · simp at hl
        simp
        omega
      · have := ih T ([x] ++ S) ((P ++ T).length : Int) hT (by simp) (by simp at hl ⊢; omega) (fun z hz => hv z (by simp [hz])) (by rw [← hR]; simp)
        rw [show P ++ T ++ [y] ++ ([x] ++ S) = (P ++ T) ++ y :: x :: S by simp] at this
        exact this
end Go.Proofs.Ytjhdnpmojhkbjaa
