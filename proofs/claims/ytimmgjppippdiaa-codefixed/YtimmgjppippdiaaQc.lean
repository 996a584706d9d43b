/- Paths of functions, printed by the explorer (Gx). No condition. -/
import Derived.Test.YtimmgjppippdiaaRg
import Derived.KernelRfl
namespace Go.Proofs.Ytimmgjppippdiaa
set_option maxRecDepth 100000
set_option linter.unusedVariables false
def f134e (n : Int) (c : Int) : List AFrame := [{ fn := 134, N := 23, env := [(0, AV.int .i64 n), (1, AV.int .i64 c)], todo := [.code a134.code], defs := [], rnd := none, ret := false, res := [ARes.tmp 4] }]
theorem f134e_at (n : Int) (c : Int) : enterA tab 134 [AV.int .i64 n, AV.int .i64 c] = some { fn := 134, N := 23, env := [(0, AV.int .i64 n), (1, AV.int .i64 c)], todo := [.code a134.code], defs := [], rnd := none, ret := false, res := [ARes.tmp 4] } := rfl
def f134h134_0a (n0 : Int) (l1 : List Int) (n2 : Int) : List AFrame := [{ fn := 134, N := 23, env := [(0, AV.int .i64 n2), (5, AV.row 134009 0), (6, AV.int .i64 n0)], todo := .code (ACode.gh [] l134_0) :: k134_0, defs := [], rnd := none, ret := false, res := [ARes.tmp 4] }]
def f134h134_0am (n0 : Int) (l1 : List Int) (n2 : Int) : AHeap := [(134009, { base := 0, blks := [Blk.row 3 1 (.ints .i64 l1)] })]
theorem f134p0 (A : Ar) (n : Int) (c : Int) : gwalkL A tab F9 20 [] (f134e n c) [] =
  some ([true, A.inR .i64 (A.sub c 1), true, true, A.and (A.le 0 c) (A.le c 4294967296), true, true],
   f134h134_0a (A.sub c 1) (A.rep (A.nat c) 0) (n), f134h134_0am (A.sub c 1) (A.rep (A.nat c) 0) (n)) := by kernel_rfl
theorem f134p1 (A : Ar) (n0 : Int) (l1 : List Int) (n2 : Int) : gwalkL A tab F9 33 [true] (f134h134_0a n0 l1 n2) (f134h134_0am n0 l1 n2) =
  some ([true, A.inR .i64 (A.sub n0 1), true, true, A.and (A.not (A.eq 2 0)) (A.inR .i64 (A.quo n2 2)), true, A.and (A.ltN (A.nat n0) (A.len l1)) (A.and (A.and true (A.eqN 0 0)) (A.and (A.eqN 1 1) (A.eqN 1 1))), A.and (A.eqN 1 1) (A.and (A.le 0 n0) (A.ltN (A.nat n0) (A.len l1))), A.not (A.eq 2 0), true, true, true, A.le 0 n0, true, true],
   f134h134_0a (A.sub n0 1) (A.set l1 (A.nat n0) (A.rem n2 2)) (A.quo n2 2), f134h134_0am (A.sub n0 1) (A.set l1 (A.nat n0) (A.rem n2 2)) (A.quo n2 2)) := by kernel_rfl
theorem f134p2 (A : Ar) (n0 : Int) (l1 : List Int) (n2 : Int) : gfin A tab F9 15 [false] 134 (f134h134_0a n0 l1 n2) (f134h134_0am n0 l1 n2) =
  some ([true, true, true, !A.le 0 n0, true, true],
   AV.row 0 0, some { e := 3, sz := 1, r := .ints .i64 l1 }) := by kernel_rfl
def f77e (xs : List Int) (ys : List Int) : List AFrame := [{ fn := 77, N := 25, env := [(0, AV.list (.ints .i64 xs)), (1, AV.list (.ints .i64 ys))], todo := [.code a77.code], defs := [], rnd := none, ret := false, res := [ARes.tmp 4] }]
theorem f77e_at (xs : List Int) (ys : List Int) : enterA tab 77 [AV.list (.ints .i64 xs), AV.list (.ints .i64 ys)] = some { fn := 77, N := 25, env := [(0, AV.list (.ints .i64 xs)), (1, AV.list (.ints .i64 ys))], todo := [.code a77.code], defs := [], rnd := none, ret := false, res := [ARes.tmp 4] } := rfl
def f77h77_0a (xs : List Int) (ys : List Int) (n0 : Int) (n1 : Int) : List AFrame := [{ fn := 77, N := 25, env := [(0, AV.list (.ints .i64 xs)), (1, AV.list (.ints .i64 ys)), (5, AV.int .i64 n0), (6, AV.int .i64 n1)], todo := .code (ACode.gh [] l77_0) :: k77_0, defs := [], rnd := none, ret := false, res := [ARes.tmp 4] }]
def f77h77_0am (xs : List Int) (ys : List Int) (n0 : Int) (n1 : Int) : AHeap := []
theorem f77p0 (A : Ar) (xs : List Int) (ys : List Int) : gwalkL A tab F9 16 [] (f77e xs ys) [] =
  some ([true, true, true],
   f77h77_0a (xs) (ys) (0) (0), f77h77_0am (xs) (ys) (0) (0)) := by kernel_rfl
theorem f77p1 (A : Ar) (xs : List Int) (ys : List Int) (n0 : Int) (n1 : Int) : gwalkL A tab F9 30 [true, true] (f77h77_0a xs ys n0 n1) (f77h77_0am xs ys n0 n1) =
  some ([true, A.inR .i64 (A.add n1 1), true, true, A.inR .i64 (A.add n0 1), true, A.not (A.eq (A.nth xs (A.nat n1)) (A.nth ys (A.nat n1))), true, A.eqN 0 0, A.and (A.and (A.le 0 n1) (A.ltN (A.nat n1) (A.len ys))) (A.eqN 1 1), true, true, A.eqN 0 0, A.and (A.and (A.le 0 n1) (A.ltN (A.nat n1) (A.len xs))) (A.eqN 1 1), true, true, A.lt n1 (A.int (A.len xs)), true, true, true, true],
   f77h77_0a (xs) (ys) (A.add n0 1) (A.add n1 1), f77h77_0am (xs) (ys) (A.add n0 1) (A.add n1 1)) := by kernel_rfl
theorem f77p2 (A : Ar) (xs : List Int) (ys : List Int) (n0 : Int) (n1 : Int) : gwalkL A tab F9 26 [true, false] (f77h77_0a xs ys n0 n1) (f77h77_0am xs ys n0 n1) =
  some ([true, A.inR .i64 (A.add n1 1), true, !A.not (A.eq (A.nth xs (A.nat n1)) (A.nth ys (A.nat n1))), true, A.eqN 0 0, A.and (A.and (A.le 0 n1) (A.ltN (A.nat n1) (A.len ys))) (A.eqN 1 1), true, true, A.eqN 0 0, A.and (A.and (A.le 0 n1) (A.ltN (A.nat n1) (A.len xs))) (A.eqN 1 1), true, true, A.lt n1 (A.int (A.len xs)), true, true, true, true],
   f77h77_0a (xs) (ys) (n0) (A.add n1 1), f77h77_0am (xs) (ys) (n0) (A.add n1 1)) := by kernel_rfl
theorem f77p3 (A : Ar) (xs : List Int) (ys : List Int) (n0 : Int) (n1 : Int) : gfin A tab F9 17 [false] 77 (f77h77_0a xs ys n0 n1) (f77h77_0am xs ys n0 n1) =
  some ([true, true, true, !A.lt n1 (A.int (A.len xs)), true, true, true, true],
   AV.int .i64 n0, none) := by kernel_rfl
def f132e (xs : List Int) (ys : List Int) : List AFrame := [{ fn := 132, N := 25, env := [(0, AV.list (.ints .i64 xs)), (1, AV.list (.ints .i64 ys))], todo := [.code a132.code], defs := [], rnd := none, ret := false, res := [ARes.tmp 4] }]
theorem f132e_at (xs : List Int) (ys : List Int) : enterA tab 132 [AV.list (.ints .i64 xs), AV.list (.ints .i64 ys)] = some { fn := 132, N := 25, env := [(0, AV.list (.ints .i64 xs)), (1, AV.list (.ints .i64 ys))], todo := [.code a132.code], defs := [], rnd := none, ret := false, res := [ARes.tmp 4] } := rfl
def f132h132_0a (xs : List Int) (ys : List Int) (n0 : Int) (n1 : Int) (n2 : Int) : List AFrame := [{ fn := 132, N := 25, env := [(0, AV.list (.ints .i64 xs)), (1, AV.list (.ints .i64 ys)), (5, AV.int .i64 n1), (8, AV.int .i64 n0), (9, AV.int .i64 n2)], todo := .code (ACode.gh [] l132_0) :: k132_0, defs := [], rnd := none, ret := false, res := [ARes.tmp 4] }]
def f132h132_0am (xs : List Int) (ys : List Int) (n0 : Int) (n1 : Int) (n2 : Int) : AHeap := []
theorem f132p0 (A : Ar) (xs : List Int) (ys : List Int) : gwalkL A tab F9 18 [] (f132e xs ys) [] =
  some ([true, true, true, true, true],
   f132h132_0a (xs) (ys) (A.int (A.len xs)) (0) (0), f132h132_0am (xs) (ys) (A.int (A.len xs)) (0) (0)) := by kernel_rfl
theorem f132p1 (A : Ar) (xs : List Int) (ys : List Int) (n0 : Int) (n1 : Int) (n2 : Int) : gwalkL A tab F9 23 [true] (f132h132_0a xs ys n0 n1 n2) (f132h132_0am xs ys n0 n1 n2) =
  some ([true, A.inR .i64 (A.add n2 1), true, A.inR .i64 (A.add n1 (A.bits Go.BinOp.xor .i64 (A.nth xs (A.nat n2)) (A.nth ys (A.nat n2)))), true, A.eqN 0 0, A.and (A.and (A.le 0 n2) (A.ltN (A.nat n2) (A.len ys))) (A.eqN 1 1), true, true, A.eqN 0 0, A.and (A.and (A.le 0 n2) (A.ltN (A.nat n2) (A.len xs))) (A.eqN 1 1), true, true, true, true, true, A.lt n2 n0, true],
   f132h132_0a (xs) (ys) (n0) (A.add n1 (A.bits Go.BinOp.xor .i64 (A.nth xs (A.nat n2)) (A.nth ys (A.nat n2)))) (A.add n2 1), f132h132_0am (xs) (ys) (n0) (A.add n1 (A.bits Go.BinOp.xor .i64 (A.nth xs (A.nat n2)) (A.nth ys (A.nat n2)))) (A.add n2 1)) := by kernel_rfl
theorem f132p2 (A : Ar) (xs : List Int) (ys : List Int) (n0 : Int) (n1 : Int) (n2 : Int) : gfin A tab F9 14 [false] 132 (f132h132_0a xs ys n0 n1 n2) (f132h132_0am xs ys n0 n1 n2) =
  some ([true, true, true, !A.lt n2 n0, true],
   AV.int .i64 n1, none) := by kernel_rfl
def f130e (n : Int) (cs : List AV) : List AFrame := [{ fn := 130, N := 7, env := [(0, AV.agg (Row.gen [AV.int .i64 n, AV.list (Row.big (Sh.ints .i64) cs)]))], todo := [.code a130.code], defs := [], rnd := none, ret := false, res := [ARes.tmp 2] }]
theorem f130e_at (n : Int) (cs : List AV) : enterA tab 130 [AV.agg (Row.gen [AV.int .i64 n, AV.list (Row.big (Sh.ints .i64) cs)])] = some { fn := 130, N := 7, env := [(0, AV.agg (Row.gen [AV.int .i64 n, AV.list (Row.big (Sh.ints .i64) cs)]))], todo := [.code a130.code], defs := [], rnd := none, ret := false, res := [ARes.tmp 2] } := rfl
theorem f130p0 (A : Ar) (n : Int) (cs : List AV) : gfin A tab F9 14 [] 130 (f130e n cs) [] =
  some ([true, true, A.and true true, true, A.and (A.ltN 0 1) (A.ltN 0 2), true, true, A.and true (A.ltN 0 2)],
   AV.int .i64 (unlessE (A.le n 14) 8), none) := by kernel_rfl
def f72e (n : Int) (cs : List AV) (w : List Int) (r : Int) : List AFrame := [{ fn := 72, N := 28, env := [(0, AV.agg (Row.gen [AV.int .i64 n, AV.list (Row.big (Sh.ints .i64) cs)])), (1, AV.list (.ints .i64 w)), (2, AV.int .i64 r)], todo := [.code a72.code], defs := [], rnd := none, ret := false, res := [ARes.tmp 6, ARes.tmp 7, ARes.tmp 8] }]
theorem f72e_at (n : Int) (cs : List AV) (w : List Int) (r : Int) : enterA tab 72 [AV.agg (Row.gen [AV.int .i64 n, AV.list (Row.big (Sh.ints .i64) cs)]), AV.list (.ints .i64 w), AV.int .i64 r] = some { fn := 72, N := 28, env := [(0, AV.agg (Row.gen [AV.int .i64 n, AV.list (Row.big (Sh.ints .i64) cs)])), (1, AV.list (.ints .i64 w)), (2, AV.int .i64 r)], todo := [.code a72.code], defs := [], rnd := none, ret := false, res := [ARes.tmp 6, ARes.tmp 7, ARes.tmp 8] } := rfl
def f72h72_0a (n : Int) (cs : List AV) (r : Int) (l0 : List Int) (n1 : Int) : List AFrame := [{ fn := 72, N := 28, env := [(2, AV.int .i64 r), (3, AV.ptr 72004 0 0 0), (9, AV.list (.ints .i64 l0)), (10, AV.int .i64 n1)], todo := .code (ACode.gh [] l72_0) :: k72_0, defs := [], rnd := none, ret := false, res := [ARes.tmp 6, ARes.tmp 7, ARes.tmp 8] }]
def f72h72_0am (n : Int) (cs : List AV) (r : Int) (l0 : List Int) (n1 : Int) : AHeap := [(72004, { base := 0, blks := [Blk.row 48 2 (Row.gen [AV.agg (Row.gen [AV.int .i64 n, AV.list (Row.big (Sh.ints .i64) cs)])])] })]
theorem f72p0 (A : Ar) (n : Int) (cs : List AV) (w : List Int) (r : Int) : gwalkL A tab F9 21 [] (f72e n cs w r) [] =
  some ([true, true, A.and true (Decidable.decide (List.length w ≤ 4294967296)), true, true, true, true, A.and true (A.ltN 0 2)],
   f72h72_0a (n) (cs) (r) (w) (0), f72h72_0am (n) (cs) (r) (w) (0)) := by kernel_rfl
theorem f72p1 (A : Ar) (n : Int) (cs : List AV) (r : Int) (l0 : List Int) (n1 : Int) : gfin A tab F9 31 [true, true] 72 (f72h72_0a n cs r l0 n1) (f72h72_0am n cs r l0 n1) =
  some ([true, true, true, true, true, true, A.eq (A.int (A.len (unsS l0 0 (iss cs)))) 0, true, true, A.and true (Decidable.decide (parE n (iss cs) l0 = 0 ∧ List.all cs few1 = true)), true, A.and (A.ltN 0 1) (A.leN (A.addN 0 2) 2), A.le n1 r, true, true, true],
   AV.tup [AV.list (.ints .i64 l0), AV.int .i64 n1, AV.bool true], none) := by kernel_rfl
theorem f72p2 (A : Ar) (n : Int) (cs : List AV) (r : Int) (l0 : List Int) (n1 : Int) : gwalkL A tab F9 37 [true, false] (f72h72_0a n cs r l0 n1) (f72h72_0am n cs r l0 n1) =
  some ([true, A.inR .i64 (A.add n1 1), true, true, A.and true (Decidable.decide (parE n (iss cs) l0 = 0 ∧ List.all cs few1 = true)), true, A.and (A.ltN 0 1) (A.leN (A.addN 0 2) 2), !A.eq (A.int (A.len (unsS l0 0 (iss cs)))) 0, true, true, A.and true (Decidable.decide (parE n (iss cs) l0 = 0 ∧ List.all cs few1 = true)), true, A.and (A.ltN 0 1) (A.leN (A.addN 0 2) 2), A.le n1 r, true, true, true],
   f72h72_0a (n) (cs) (r) (flipS l0 (iss cs)) (A.add n1 1), f72h72_0am (n) (cs) (r) (flipS l0 (iss cs)) (A.add n1 1)) := by kernel_rfl
theorem f72p3 (A : Ar) (n : Int) (cs : List AV) (r : Int) (l0 : List Int) (n1 : Int) : gfin A tab F9 17 [false] 72 (f72h72_0a n cs r l0 n1) (f72h72_0am n cs r l0 n1) =
  some ([true, true, true, true, !A.le n1 r, true, true, true],
   AV.tup [AV.nils, AV.int .i64 0, AV.bool false], none) := by kernel_rfl
def f67e (n : Int) (cs : List AV) (w : List Int) (r : Int) : List AFrame := [{ fn := 67, N := 41, env := [(0, AV.agg (Row.gen [AV.int .i64 n, AV.list (Row.big (Sh.ints .i64) cs)])), (1, AV.list (.ints .i64 w)), (2, AV.int .i64 r)], todo := [.code a67.code], defs := [], rnd := none, ret := false, res := [ARes.tmp 6, ARes.tmp 7, ARes.tmp 8] }]
theorem f67e_at (n : Int) (cs : List AV) (w : List Int) (r : Int) : enterA tab 67 [AV.agg (Row.gen [AV.int .i64 n, AV.list (Row.big (Sh.ints .i64) cs)]), AV.list (.ints .i64 w), AV.int .i64 r] = some { fn := 67, N := 41, env := [(0, AV.agg (Row.gen [AV.int .i64 n, AV.list (Row.big (Sh.ints .i64) cs)])), (1, AV.list (.ints .i64 w)), (2, AV.int .i64 r)], todo := [.code a67.code], defs := [], rnd := none, ret := false, res := [ARes.tmp 6, ARes.tmp 7, ARes.tmp 8] } := rfl
def f67h67_0a (n : Int) (cs : List AV) (w : List Int) (n0 : Int) : List AFrame := [{ fn := 67, N := 41, env := [(3, AV.ptr 67004 0 0 0), (10, AV.row 67025 0), (26, AV.int .i64 n0), (27, AV.int .i64 0)], todo := .code (ACode.gh [] l67_0) :: k67_0, defs := [], rnd := none, ret := false, res := [ARes.tmp 6, ARes.tmp 7, ARes.tmp 8] }]
def f67h67_0am (n : Int) (cs : List AV) (w : List Int) (n0 : Int) : AHeap := [(67004, { base := 0, blks := [Blk.row 48 2 (Row.gen [AV.agg (Row.gen [AV.int .i64 n, AV.list (Row.big (Sh.ints .i64) cs)])])] }), (67025, { base := 0, blks := [Blk.row 3 1 (.ints .i64 w)] })]
def f67h67_0b (n : Int) (cs : List AV) (n0 : Int) (l1 : List Int) (n2 : Int) : List AFrame := [{ fn := 67, N := 41, env := [(3, AV.ptr 67004 0 0 0), (10, AV.list (.ints .i64 l1)), (26, AV.int .i64 n0), (27, AV.int .i64 n2)], todo := .code (ACode.gh [] l67_0) :: k67_0, defs := [], rnd := none, ret := false, res := [ARes.tmp 6, ARes.tmp 7, ARes.tmp 8] }]
def f67h67_0bm (n : Int) (cs : List AV) (n0 : Int) (l1 : List Int) (n2 : Int) : AHeap := [(67004, { base := 0, blks := [Blk.row 48 2 (Row.gen [AV.agg (Row.gen [AV.int .i64 n, AV.list (Row.big (Sh.ints .i64) cs)])])] })]
theorem f67p0 (A : Ar) (n : Int) (cs : List AV) (w : List Int) (r : Int) : gfin A tab F9 35 [true] 67 (f67e n cs w r) [] =
  some ([true, true, true, true, true, A.not (A.eq (firstE [parE n (iss cs) w, unlessE (Decidable.decide (0 ≤ r ∧ r ≤ 30)) 2]) 0), true, true, true, A.and (A.and true true) (Decidable.decide (List.length [parE n (iss cs) w, unlessE (Decidable.decide (0 ≤ r ∧ r ≤ 30)) 2] ≤ 1000000)), List.all [AV.int .i64 (parE n (iss cs) w), AV.int .i64 (unlessE (Decidable.decide (0 ≤ r ∧ r ≤ 30)) 2)] fun x => AV.bx x && Nat.beq (flatLen A x) 1, A.and true true, A.and true true, true, A.and true (Decidable.decide (List.length cs ≤ 1000000 ∧ List.all cs few1 = true ∧ List.length w ≤ 1000000)), true, A.and (A.ltN 0 1) (A.leN (A.addN 0 2) 2), true, true, true, A.and true (A.ltN 0 2)],
   AV.tup [AV.nils, AV.int .i64 0, AV.int .i64 (firstE [parE n (iss cs) w, unlessE (Decidable.decide (0 ≤ r ∧ r ≤ 30)) 2])], none) := by kernel_rfl
theorem f67p1 (A : Ar) (n : Int) (cs : List AV) (w : List Int) (r : Int) : gwalkL A tab F9 44 [false] (f67e n cs w r) [] =
  some ([true, A.inR .i64 (A.add r 1), true, true, A.and true (Decidable.decide (0 < List.length w ∧ List.length w ≤ 4294967296)), true, !A.not (A.eq (firstE [parE n (iss cs) w, unlessE (Decidable.decide (0 ≤ r ∧ r ≤ 30)) 2]) 0), true, true, true, A.and (A.and true true) (Decidable.decide (List.length [parE n (iss cs) w, unlessE (Decidable.decide (0 ≤ r ∧ r ≤ 30)) 2] ≤ 1000000)), List.all [AV.int .i64 (parE n (iss cs) w), AV.int .i64 (unlessE (Decidable.decide (0 ≤ r ∧ r ≤ 30)) 2)] fun x => AV.bx x && Nat.beq (flatLen A x) 1, A.and true true, A.and true true, true, A.and true (Decidable.decide (List.length cs ≤ 1000000 ∧ List.all cs few1 = true ∧ List.length w ≤ 1000000)), true, A.and (A.ltN 0 1) (A.leN (A.addN 0 2) 2), true, true, true, A.and true (A.ltN 0 2)],
   f67h67_0a (n) (cs) (w) (A.add r 1), f67h67_0am (n) (cs) (w) (A.add r 1)) := by kernel_rfl
theorem f67p2 (A : Ar) (n : Int) (cs : List AV) (w : List Int) (n0 : Int) : gfin A tab F9 34 [true, true] 67 (f67h67_0a n cs w n0) (f67h67_0am n cs w n0) =
  some ([true, true, true, true, true, true, A.eq (A.int (A.len (unsS w 0 (iss cs)))) 0, true, true, A.and (A.and (A.and true (A.and true true)) (A.and true true)) (Decidable.decide (parE n (iss cs) w = 0 ∧ List.all cs few1 = true)), true, A.and (A.ltN 0 1) (A.leN (A.addN 0 2) 2), true, true, A.lt 0 n0, true],
   AV.tup [AV.row 0 0, AV.int .i64 0, AV.int .i64 0], some { e := 3, sz := 1, r := .ints .i64 w }) := by kernel_rfl
theorem f67p3 (A : Ar) (n : Int) (cs : List AV) (w : List Int) (n0 : Int) : gwalkL A tab F9 39 [true, false] (f67h67_0a n cs w n0) (f67h67_0am n cs w n0) =
  some ([true, A.inR .i64 (A.add 0 1), true, A.and (A.and (A.and true (A.and true true)) (A.and true true)) (Decidable.decide (parE n (iss cs) w = 0 ∧ List.all cs few1 = true)), true, A.and (A.ltN 0 1) (A.leN (A.addN 0 2) 2), !A.eq (A.int (A.len (unsS w 0 (iss cs)))) 0, true, true, A.and (A.and (A.and true (A.and true true)) (A.and true true)) (Decidable.decide (parE n (iss cs) w = 0 ∧ List.all cs few1 = true)), true, A.and (A.ltN 0 1) (A.leN (A.addN 0 2) 2), true, true, A.lt 0 n0, true],
   f67h67_0b (n) (cs) (n0) (flipS w (iss cs)) (A.add 0 1), f67h67_0bm (n) (cs) (n0) (flipS w (iss cs)) (A.add 0 1)) := by kernel_rfl
theorem f67p4 (A : Ar) (n : Int) (cs : List AV) (w : List Int) (n0 : Int) : gfin A tab F9 15 [false] 67 (f67h67_0a n cs w n0) (f67h67_0am n cs w n0) =
  some ([true, true, true, true, !A.lt 0 n0, true],
   AV.tup [AV.nils, AV.int .i64 0, AV.int .i64 27], none) := by kernel_rfl
theorem f67p5 (A : Ar) (n : Int) (cs : List AV) (n0 : Int) (l1 : List Int) (n2 : Int) : gfin A tab F9 34 [true, true] 67 (f67h67_0b n cs n0 l1 n2) (f67h67_0bm n cs n0 l1 n2) =
  some ([true, true, true, true, true, true, A.eq (A.int (A.len (unsS l1 0 (iss cs)))) 0, true, true, A.and true (Decidable.decide (parE n (iss cs) l1 = 0 ∧ List.all cs few1 = true)), true, A.and (A.ltN 0 1) (A.leN (A.addN 0 2) 2), true, true, A.lt n2 n0, true],
   AV.tup [AV.list (.ints .i64 l1), AV.int .i64 n2, AV.int .i64 0], none) := by kernel_rfl
theorem f67p6 (A : Ar) (n : Int) (cs : List AV) (n0 : Int) (l1 : List Int) (n2 : Int) : gwalkL A tab F9 39 [true, false] (f67h67_0b n cs n0 l1 n2) (f67h67_0bm n cs n0 l1 n2) =
  some ([true, A.inR .i64 (A.add n2 1), true, A.and true (Decidable.decide (parE n (iss cs) l1 = 0 ∧ List.all cs few1 = true)), true, A.and (A.ltN 0 1) (A.leN (A.addN 0 2) 2), !A.eq (A.int (A.len (unsS l1 0 (iss cs)))) 0, true, true, A.and true (Decidable.decide (parE n (iss cs) l1 = 0 ∧ List.all cs few1 = true)), true, A.and (A.ltN 0 1) (A.leN (A.addN 0 2) 2), true, true, A.lt n2 n0, true],
   f67h67_0b (n) (cs) (n0) (flipS l1 (iss cs)) (A.add n2 1), f67h67_0bm (n) (cs) (n0) (flipS l1 (iss cs)) (A.add n2 1)) := by kernel_rfl
theorem f67p7 (A : Ar) (n : Int) (cs : List AV) (n0 : Int) (l1 : List Int) (n2 : Int) : gfin A tab F9 15 [false] 67 (f67h67_0b n cs n0 l1 n2) (f67h67_0bm n cs n0 l1 n2) =
  some ([true, true, true, true, !A.lt n2 n0, true],
   AV.tup [AV.nils, AV.int .i64 0, AV.int .i64 27], none) := by kernel_rfl
end Go.Proofs.Ytimmgjppippdiaa
