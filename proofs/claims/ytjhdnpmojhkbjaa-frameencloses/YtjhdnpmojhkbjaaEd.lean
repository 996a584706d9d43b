/- Paths of functions, printed by the explorer (Gx). No condition. -/
import Derived.Test.YtjhdnpmojhkbjaaEb
import Derived.KernelRfl
namespace Go.Proofs.Ytjhdnpmojhkbjaa
set_option maxRecDepth 100000
set_option linter.unusedVariables false
def f8e (a : Int) (b : Int) (cs : List Int) (ws : List Int) (n : Int) (g : Int) : List AFrame := [{ fn := 8, N := 387, env := [(0, AV.agg (Row.gen [AV.int .i64 a, AV.int .i64 b, AV.list (.ints .i64 cs), AV.list (.ints .i64 ws)])), (1, AV.int .i64 n), (2, AV.int .i64 g)], todo := [.code a8.code], defs := [], rnd := none, ret := false, res := [ARes.tmp 6] }]
theorem f8e_at (a : Int) (b : Int) (cs : List Int) (ws : List Int) (n : Int) (g : Int) : enterA tab 8 [AV.agg (Row.gen [AV.int .i64 a, AV.int .i64 b, AV.list (.ints .i64 cs), AV.list (.ints .i64 ws)]), AV.int .i64 n, AV.int .i64 g] = some { fn := 8, N := 387, env := [(0, AV.agg (Row.gen [AV.int .i64 a, AV.int .i64 b, AV.list (.ints .i64 cs), AV.list (.ints .i64 ws)])), (1, AV.int .i64 n), (2, AV.int .i64 g)], todo := [.code a8.code], defs := [], rnd := none, ret := false, res := [ARes.tmp 6] } := rfl
def f8h8_0a (a : Int) (b : Int) (cs : List Int) (ws : List Int) (n : Int) (g : Int) : List AFrame := [{ fn := 8, N := 387, env := [(1, AV.int .i64 n), (2, AV.int .i64 g), (3, AV.ptr 8004 0 0 0), (7, AV.nils), (8, AV.int .i64 0)], todo := .code (ACode.gh [] l8_0) :: k8_0, defs := [], rnd := none, ret := false, res := [ARes.tmp 6] }]
def f8h8_0am (a : Int) (b : Int) (cs : List Int) (ws : List Int) (n : Int) (g : Int) : AHeap := [(8004, { base := 0, blks := [Blk.row 94 4 (Row.gen [AV.agg (Row.gen [AV.int .i64 a, AV.int .i64 b, AV.list (.ints .i64 cs), AV.list (.ints .i64 ws)])])] })]
def f8h8_0b (a : Int) (b : Int) (cs : List Int) (ws : List Int) (n : Int) (g : Int) (n0 : Int) (x1 : List AV) : List AFrame := [{ fn := 8, N := 387, env := [(1, AV.int .i64 n), (2, AV.int .i64 g), (3, AV.ptr 8004 0 0 0), (7, AV.row 8146 0), (8, AV.int .i64 n0)], todo := .code (ACode.gh [] l8_0) :: k8_0, defs := [], rnd := none, ret := false, res := [ARes.tmp 6] }]
def f8h8_0bm (a : Int) (b : Int) (cs : List Int) (ws : List Int) (n : Int) (g : Int) (n0 : Int) (x1 : List AV) : AHeap := [(8004, { base := 0, blks := [Blk.row 94 4 (Row.gen [AV.agg (Row.gen [AV.int .i64 a, AV.int .i64 b, AV.list (.ints .i64 cs), AV.list (.ints .i64 ws)])])] }), (8146, { base := 0, blks := [Blk.row 49 3 (Row.big (Sh.agg [Sh.int .i64, Sh.int .i64, Sh.int .i64]) x1)] })]
theorem f8p0 (A : Ar) (a : Int) (b : Int) (cs : List Int) (ws : List Int) (n : Int) (g : Int) : gfin A tab BEb 60 [false, true, true, true, true, true, true, true, true, true, true, true, true, true, true, true, true, true, true, true, true, true, true, true, true, true, true, true, true] 8 (f8e a b cs ws n g) [] =
  some ([A.and true (A.and true true), true, true, true, true, true, true, true, true, true, true, true, true, true, true, true, true, true, true, true, true, true, true, true, true, true, true, true, true, true, true, true, true, true, true, true, true, true, true, true, true, true, true, true, true, true, true, true, true, true, true, true, true, true, true, true, true, true, true, true, A.lt (A.int (A.len cs)) 3, true, true, true, A.and (A.ltN 0 1) (A.ltN 2 4), true, !A.not true, true, A.and true true, true, A.and true (A.ltN 0 4)],
   AV.bool true, none) := by kernel_rfl
theorem f8p1 (A : Ar) (a : Int) (b : Int) (cs : List Int) (ws : List Int) (n : Int) (g : Int) : gfin A tab BEb 60 [false, false, false, false, false, false, true, true, true, true, true, true, true, true, true, true, true, true, true, true, true, true, true, true, true, true, true, true, true] 8 (f8e a b cs ws n g) [] =
  some ([A.and true (A.and true true), true, true, true, true, true, true, true, true, true, true, true, true, true, true, true, true, true, true, true, true, true, true, true, true, true, true, true, true, true, true, true, true, true, true, true, true, true, true, true, true, true, true, true, true, true, true, true, true, A.lt 10 (A.int (A.len cs)), true, true, true, true, true, true, true, A.and (A.ltN 0 1) (A.ltN 2 4), true, true, !A.lt (A.int (A.len cs)) 3, true, true, true, A.and (A.ltN 0 1) (A.ltN 2 4), true, !A.not true, true, A.and true true, true, A.and true (A.ltN 0 4)],
   AV.bool true, none) := by kernel_rfl
theorem f8p2 (A : Ar) (a : Int) (b : Int) (cs : List Int) (ws : List Int) (n : Int) (g : Int) : gfin A tab BEb 60 [false, false, false, false, false, false, false, false, false, false, false, false, false, false, true, true, true, true, true, true, true, true, true, true, true, true, true, true, true] 8 (f8e a b cs ws n g) [] =
  some ([A.and true (A.and true true), true, true, true, true, true, true, true, true, true, true, true, true, true, true, true, true, true, true, true, true, true, true, true, true, true, true, true, true, true, true, true, A.not (A.eq (A.int (A.len ws)) (A.int (A.len cs))), true, true, true, true, true, true, true, A.and (A.ltN 0 1) (A.ltN 2 4), true, true, true, true, true, A.and (A.ltN 0 1) (A.ltN 3 4), true, true, !A.lt 10 (A.int (A.len cs)), true, true, true, true, true, true, true, A.and (A.ltN 0 1) (A.ltN 2 4), true, true, !A.lt (A.int (A.len cs)) 3, true, true, true, A.and (A.ltN 0 1) (A.ltN 2 4), true, !A.not true, true, A.and true true, true, A.and true (A.ltN 0 4)],
   AV.bool true, none) := by kernel_rfl
theorem f8p3 (A : Ar) (a : Int) (b : Int) (cs : List Int) (ws : List Int) (n : Int) (g : Int) : gfin A tab BEb 60 [false, false, false, false, false, false, false, false, false, false, false, false, false, false, false, false, false, false, false, true, true, true, true, true, true, true, true, true, true] 8 (f8e a b cs ws n g) [] =
  some ([A.and true (A.and true true), true, true, true, true, true, true, true, true, true, true, true, true, true, true, true, true, true, true, true, true, A.not (Decidable.decide (1000 ≤ a ∧ a ≤ 1000000)), true, true, true, true, true, A.and true true, true, A.and (A.ltN 0 1) (A.ltN 0 4), true, true, !A.not (A.eq (A.int (A.len ws)) (A.int (A.len cs))), true, true, true, true, true, true, true, A.and (A.ltN 0 1) (A.ltN 2 4), true, true, true, true, true, A.and (A.ltN 0 1) (A.ltN 3 4), true, true, !A.lt 10 (A.int (A.len cs)), true, true, true, true, true, true, true, A.and (A.ltN 0 1) (A.ltN 2 4), true, true, !A.lt (A.int (A.len cs)) 3, true, true, true, A.and (A.ltN 0 1) (A.ltN 2 4), true, !A.not true, true, A.and true true, true, A.and true (A.ltN 0 4)],
   AV.bool true, none) := by kernel_rfl
theorem f8p4 (A : Ar) (a : Int) (b : Int) (cs : List Int) (ws : List Int) (n : Int) (g : Int) : gfin A tab BEb 60 [false, false, false, false, false, false, false, false, false, false, false, false, false, false, false, false, false, false, false, false, false, false, false, false, true, true, true, true, true] 8 (f8e a b cs ws n g) [] =
  some ([A.and true (A.and true true), true, true, true, true, true, true, true, true, true, A.not (Decidable.decide (0 ≤ b ∧ b ≤ 100000)), true, true, true, true, true, A.and true true, true, A.and (A.ltN 0 1) (A.ltN 1 4), true, true, !A.not (Decidable.decide (1000 ≤ a ∧ a ≤ 1000000)), true, true, true, true, true, A.and true true, true, A.and (A.ltN 0 1) (A.ltN 0 4), true, true, !A.not (A.eq (A.int (A.len ws)) (A.int (A.len cs))), true, true, true, true, true, true, true, A.and (A.ltN 0 1) (A.ltN 2 4), true, true, true, true, true, A.and (A.ltN 0 1) (A.ltN 3 4), true, true, !A.lt 10 (A.int (A.len cs)), true, true, true, true, true, true, true, A.and (A.ltN 0 1) (A.ltN 2 4), true, true, !A.lt (A.int (A.len cs)) 3, true, true, true, A.and (A.ltN 0 1) (A.ltN 2 4), true, !A.not true, true, A.and true true, true, A.and true (A.ltN 0 4)],
   AV.bool true, none) := by kernel_rfl
theorem f8p5 (A : Ar) (a : Int) (b : Int) (cs : List Int) (ws : List Int) (n : Int) (g : Int) : gfin A tab BEb 60 [false, false, false, false, false, false, false, false, false, false, false, false, false, false, false, false, false, false, false, false, false, false, false, false, false, false, false, false, true] 8 (f8e a b cs ws n g) [] =
  some ([A.and true (A.and true true), true, A.not (Decidable.decide (0 ≤ n ∧ n ≤ 100000)), true, true, true, true, A.and true true, true, true, !A.not (Decidable.decide (0 ≤ b ∧ b ≤ 100000)), true, true, true, true, true, A.and true true, true, A.and (A.ltN 0 1) (A.ltN 1 4), true, true, !A.not (Decidable.decide (1000 ≤ a ∧ a ≤ 1000000)), true, true, true, true, true, A.and true true, true, A.and (A.ltN 0 1) (A.ltN 0 4), true, true, !A.not (A.eq (A.int (A.len ws)) (A.int (A.len cs))), true, true, true, true, true, true, true, A.and (A.ltN 0 1) (A.ltN 2 4), true, true, true, true, true, A.and (A.ltN 0 1) (A.ltN 3 4), true, true, !A.lt 10 (A.int (A.len cs)), true, true, true, true, true, true, true, A.and (A.ltN 0 1) (A.ltN 2 4), true, true, !A.lt (A.int (A.len cs)) 3, true, true, true, A.and (A.ltN 0 1) (A.ltN 2 4), true, !A.not true, true, A.and true true, true, A.and true (A.ltN 0 4)],
   AV.bool true, none) := by kernel_rfl
theorem f8p6 (A : Ar) (a : Int) (b : Int) (cs : List Int) (ws : List Int) (n : Int) (g : Int) : gwalkL A tab BEb 68 [false, false, false, false, false, false, false, false, false, false, false, false, false, false, false, false, false, false, false, false, false, false, false, false, false, false, false, false, false] (f8e a b cs ws n g) [] =
  some ([true, true, !A.not (Decidable.decide (0 ≤ n ∧ n ≤ 100000)), true, true, true, true, A.and true true, true, true, !A.not (Decidable.decide (0 ≤ b ∧ b ≤ 100000)), true, true, true, true, true, A.and true true, true, A.and (A.ltN 0 1) (A.ltN 1 4), true, true, !A.not (Decidable.decide (1000 ≤ a ∧ a ≤ 1000000)), true, true, true, true, true, A.and true true, true, A.and (A.ltN 0 1) (A.ltN 0 4), true, true, !A.not (A.eq (A.int (A.len ws)) (A.int (A.len cs))), true, true, true, true, true, true, true, A.and (A.ltN 0 1) (A.ltN 2 4), true, true, true, true, true, A.and (A.ltN 0 1) (A.ltN 3 4), true, true, !A.lt 10 (A.int (A.len cs)), true, true, true, true, true, true, true, A.and (A.ltN 0 1) (A.ltN 2 4), true, true, !A.lt (A.int (A.len cs)) 3, true, true, true, A.and (A.ltN 0 1) (A.ltN 2 4), true, !A.not true, true, A.and true true, true, A.and true (A.ltN 0 4)],
   f8h8_0a (a) (b) (cs) (ws) (n) (g), f8h8_0am (a) (b) (cs) (ws) (n) (g)) := by kernel_rfl
theorem f8p7 (A : Ar) (a : Int) (b : Int) (cs : List Int) (ws : List Int) (n : Int) (g : Int) : gfin A tab BEb 24 [true, true, true, true] 8 (f8h8_0a a b cs ws n g) (f8h8_0am a b cs ws n g) =
  some ([A.and true (A.and true true), true, true, true, true, true, true, true, true, true, true, true, true, true, true, true, true, true, true, true, true, true, true, true, true, true, true, true, true, true, A.not (Decidable.decide (0 ≤ A.nth cs (A.nat 0) ∧ A.nth cs (A.nat 0) ≤ 100000)), true, true, A.and true true, A.eqN 0 0, A.and (A.and (A.le 0 0) (A.ltN (A.nat 0) (A.len cs))) (A.eqN 1 1), true, A.and (A.ltN 0 1) (A.ltN 2 4), true, A.lt 0 (A.int (A.len cs)), true, true, A.and (A.ltN 0 1) (A.ltN 2 4), true, true],
   AV.bool true, none) := by kernel_rfl
theorem f8p8 (A : Ar) (a : Int) (b : Int) (cs : List Int) (ws : List Int) (n : Int) (g : Int) : gfin A tab BEb 24 [true, false, false, false, true] 8 (f8h8_0a a b cs ws n g) (f8h8_0am a b cs ws n g) =
  some ([A.and true (A.and true true), true, A.not (Decidable.decide (0 ≤ A.nth ws (A.nat 0) ∧ A.nth ws (A.nat 0) ≤ 1000)), true, true, A.and true true, A.eqN 0 0, A.and (A.and (A.le 0 0) (A.ltN (A.nat 0) (A.len ws))) (A.eqN 1 1), true, A.and (A.ltN 0 1) (A.ltN 3 4), true, true, true, true, true, true, true, true, true, true, true, true, true, true, true, true, true, !A.lt 0 0, true, true, true, !A.not (Decidable.decide (0 ≤ A.nth cs (A.nat 0) ∧ A.nth cs (A.nat 0) ≤ 100000)), true, true, A.and true true, A.eqN 0 0, A.and (A.and (A.le 0 0) (A.ltN (A.nat 0) (A.len cs))) (A.eqN 1 1), true, A.and (A.ltN 0 1) (A.ltN 2 4), true, A.lt 0 (A.int (A.len cs)), true, true, A.and (A.ltN 0 1) (A.ltN 2 4), true, true],
   AV.bool true, none) := by kernel_rfl
theorem f8p9 (A : Ar) (a : Int) (b : Int) (cs : List Int) (ws : List Int) (n : Int) (g : Int) : gwalkL A tab BEb 32 [true, false, false, false, false] (f8h8_0a a b cs ws n g) (f8h8_0am a b cs ws n g) =
  some ([true, A.inR .i64 (A.add 0 1), true, true, A.and (A.and true (A.eqN 3 3)) (A.and (A.leN (A.lenA [AV.agg (Row.gen [AV.int .i64 (A.nth cs (A.nat 0)), AV.int .i64 (A.sub (floorI (A.add (A.mul 100 a) (A.mul b (A.nth cs (A.nat 0)))) 100) (A.nth ws (A.nat 0))), AV.int .i64 (A.add (ceilI (A.add (A.mul 100 a) (A.mul b (A.nth cs (A.nat 0)))) 100) (A.nth ws (A.nat 0)))])]) 4294967296) (A.ltN 0 (A.lenA [AV.agg (Row.gen [AV.int .i64 (A.nth cs (A.nat 0)), AV.int .i64 (A.sub (floorI (A.add (A.mul 100 a) (A.mul b (A.nth cs (A.nat 0)))) 100) (A.nth ws (A.nat 0))), AV.int .i64 (A.add (ceilI (A.add (A.mul 100 a) (A.mul b (A.nth cs (A.nat 0)))) 100) (A.nth ws (A.nat 0)))])]))), List.all [AV.agg (Row.gen [AV.int .i64 (A.nth cs (A.nat 0)), AV.int .i64 (A.sub (floorI (A.add (A.mul 100 a) (A.mul b (A.nth cs (A.nat 0)))) 100) (A.nth ws (A.nat 0))), AV.int .i64 (A.add (ceilI (A.add (A.mul 100 a) (A.mul b (A.nth cs (A.nat 0)))) 100) (A.nth ws (A.nat 0)))])] fun x => AV.bx x && Nat.beq (flatLen A x) 3, A.and (A.and true (A.eqN 1 1)) (A.and (A.leN (A.addN 0 1) 3) (A.and (A.ltN 0 1) (A.and (A.and true (A.eqN 2 2)) (A.and (A.leN (A.addN 1 2) 3) (A.and (A.ltN 0 2) true))))), A.and (A.and true (A.eqN 1 1)) (A.and (A.leN (A.addN 0 1) 2) (A.and (A.ltN 0 1) (A.and (A.and true (A.eqN 1 1)) (A.and (A.leN (A.addN 1 1) 2) (A.and (A.ltN 0 1) true))))), A.inR .i64 (A.add (ceilI (A.add (A.mul 100 a) (A.mul b (A.nth cs (A.nat 0)))) 100) (A.nth ws (A.nat 0))), A.eqN 0 0, A.and (A.and (A.le 0 0) (A.ltN (A.nat 0) (A.len ws))) (A.eqN 1 1), true, A.and (A.ltN 0 1) (A.ltN 3 4), true, A.and true (Decidable.decide (((0 : Int) < 100 ∧ bigB 100 = true) ∧ -4000000000000000000 ≤ A.add (A.mul 100 a) (A.mul b (A.nth cs (A.nat 0))) ∧ A.add (A.mul 100 a) (A.mul b (A.nth cs (A.nat 0))) ≤ 4000000000000000000)), true, A.inR .i64 (A.sub (floorI (A.add (A.mul 100 a) (A.mul b (A.nth cs (A.nat 0)))) 100) (A.nth ws (A.nat 0))), A.eqN 0 0, A.and (A.and (A.le 0 0) (A.ltN (A.nat 0) (A.len ws))) (A.eqN 1 1), true, A.and (A.ltN 0 1) (A.ltN 3 4), true, A.and true (Decidable.decide (((0 : Int) < 100 ∧ bigB 100 = true) ∧ bigB (A.add (A.mul 100 a) (A.mul b (A.nth cs (A.nat 0)))) = true)), true, A.eqN 0 0, A.and (A.and (A.le 0 0) (A.ltN (A.nat 0) (A.len cs))) (A.eqN 1 1), true, A.and (A.ltN 0 1) (A.ltN 2 4), true, true, true, A.inR .i64 (A.add (A.mul 100 a) (A.mul b (A.nth cs (A.nat 0)))), A.inR .i64 (A.mul b (A.nth cs (A.nat 0))), A.eqN 0 0, A.and (A.and (A.le 0 0) (A.ltN (A.nat 0) (A.len cs))) (A.eqN 1 1), true, A.and (A.ltN 0 1) (A.ltN 2 4), true, A.and (A.ltN 0 1) (A.ltN 1 4), true, A.inR .i64 (A.mul 100 a), A.and (A.ltN 0 1) (A.ltN 0 4), true, !A.not (Decidable.decide (0 ≤ A.nth ws (A.nat 0) ∧ A.nth ws (A.nat 0) ≤ 1000)), true, true, A.and true true, A.eqN 0 0, A.and (A.and (A.le 0 0) (A.ltN (A.nat 0) (A.len ws))) (A.eqN 1 1), true, A.and (A.ltN 0 1) (A.ltN 3 4), true, true, true, true, true, true, true, true, true, true, true, true, true, true, true, true, true, !A.lt 0 0, true, true, true, !A.not (Decidable.decide (0 ≤ A.nth cs (A.nat 0) ∧ A.nth cs (A.nat 0) ≤ 100000)), true, true, A.and true true, A.eqN 0 0, A.and (A.and (A.le 0 0) (A.ltN (A.nat 0) (A.len cs))) (A.eqN 1 1), true, A.and (A.ltN 0 1) (A.ltN 2 4), true, A.lt 0 (A.int (A.len cs)), true, true, A.and (A.ltN 0 1) (A.ltN 2 4), true, true],
   f8h8_0b (a) (b) (cs) (ws) (n) (g) (A.add 0 1) ([AV.agg (Row.gen [AV.int .i64 (A.nth cs (A.nat 0)), AV.int .i64 (A.sub (floorI (A.add (A.mul 100 a) (A.mul b (A.nth cs (A.nat 0)))) 100) (A.nth ws (A.nat 0))), AV.int .i64 (A.add (ceilI (A.add (A.mul 100 a) (A.mul b (A.nth cs (A.nat 0)))) 100) (A.nth ws (A.nat 0)))])]), f8h8_0bm (a) (b) (cs) (ws) (n) (g) (A.add 0 1) ([AV.agg (Row.gen [AV.int .i64 (A.nth cs (A.nat 0)), AV.int .i64 (A.sub (floorI (A.add (A.mul 100 a) (A.mul b (A.nth cs (A.nat 0)))) 100) (A.nth ws (A.nat 0))), AV.int .i64 (A.add (ceilI (A.add (A.mul 100 a) (A.mul b (A.nth cs (A.nat 0)))) 100) (A.nth ws (A.nat 0)))])])) := by kernel_rfl
theorem f8p10 (A : Ar) (a : Int) (b : Int) (cs : List Int) (ws : List Int) (n : Int) (g : Int) (n0 : Int) (x1 : List AV) : gfin A tab BEb 24 [true, true, true, true] 8 (f8h8_0b a b cs ws n g n0 x1) (f8h8_0bm a b cs ws n g n0 x1) =
  some ([A.and true (A.and true true), true, true, true, true, true, true, true, true, true, true, true, true, true, true, true, true, true, true, true, true, true, true, true, true, true, true, true, true, true, A.not (Decidable.decide (0 ≤ A.nth cs (A.nat n0) ∧ A.nth cs (A.nat n0) ≤ 100000)), true, true, A.and true true, A.eqN 0 0, A.and (A.and (A.le 0 n0) (A.ltN (A.nat n0) (A.len cs))) (A.eqN 1 1), true, A.and (A.ltN 0 1) (A.ltN 2 4), true, A.lt n0 (A.int (A.len cs)), true, true, A.and (A.ltN 0 1) (A.ltN 2 4), true, true],
   AV.bool true, none) := by kernel_rfl
theorem f8p11 (A : Ar) (a : Int) (b : Int) (cs : List Int) (ws : List Int) (n : Int) (g : Int) (n0 : Int) (x1 : List AV) : gfin A tab BEb 24 [true, false, true, true, true] 8 (f8h8_0b a b cs ws n g n0 x1) (f8h8_0bm a b cs ws n g n0 x1) =
  some ([A.and true (A.and true true), true, true, true, true, true, true, true, true, true, true, A.le (A.nth cs (A.nat n0)) (A.nth cs (A.nat (A.sub n0 1))), true, true, true, true, A.eqN 0 0, A.and (A.and (A.le 0 (A.sub n0 1)) (A.ltN (A.nat (A.sub n0 1)) (A.len cs))) (A.eqN 1 1), A.inR .i64 (A.sub n0 1), true, A.and (A.ltN 0 1) (A.ltN 2 4), true, A.eqN 0 0, A.and (A.and (A.le 0 n0) (A.ltN (A.nat n0) (A.len cs))) (A.eqN 1 1), true, A.and (A.ltN 0 1) (A.ltN 2 4), true, A.lt 0 n0, true, true, true, !A.not (Decidable.decide (0 ≤ A.nth cs (A.nat n0) ∧ A.nth cs (A.nat n0) ≤ 100000)), true, true, A.and true true, A.eqN 0 0, A.and (A.and (A.le 0 n0) (A.ltN (A.nat n0) (A.len cs))) (A.eqN 1 1), true, A.and (A.ltN 0 1) (A.ltN 2 4), true, A.lt n0 (A.int (A.len cs)), true, true, A.and (A.ltN 0 1) (A.ltN 2 4), true, true],
   AV.bool true, none) := by kernel_rfl
theorem f8p12 (A : Ar) (a : Int) (b : Int) (cs : List Int) (ws : List Int) (n : Int) (g : Int) (n0 : Int) (x1 : List AV) : gfin A tab BEb 24 [true, false, true, false, true] 8 (f8h8_0b a b cs ws n g n0 x1) (f8h8_0bm a b cs ws n g n0 x1) =
  some ([A.and true (A.and true true), true, A.not (Decidable.decide (0 ≤ A.nth ws (A.nat n0) ∧ A.nth ws (A.nat n0) ≤ 1000)), true, true, A.and true true, A.eqN 0 0, A.and (A.and (A.le 0 n0) (A.ltN (A.nat n0) (A.len ws))) (A.eqN 1 1), true, A.and (A.ltN 0 1) (A.ltN 3 4), true, !A.le (A.nth cs (A.nat n0)) (A.nth cs (A.nat (A.sub n0 1))), true, true, true, true, A.eqN 0 0, A.and (A.and (A.le 0 (A.sub n0 1)) (A.ltN (A.nat (A.sub n0 1)) (A.len cs))) (A.eqN 1 1), A.inR .i64 (A.sub n0 1), true, A.and (A.ltN 0 1) (A.ltN 2 4), true, A.eqN 0 0, A.and (A.and (A.le 0 n0) (A.ltN (A.nat n0) (A.len cs))) (A.eqN 1 1), true, A.and (A.ltN 0 1) (A.ltN 2 4), true, A.lt 0 n0, true, true, true, !A.not (Decidable.decide (0 ≤ A.nth cs (A.nat n0) ∧ A.nth cs (A.nat n0) ≤ 100000)), true, true, A.and true true, A.eqN 0 0, A.and (A.and (A.le 0 n0) (A.ltN (A.nat n0) (A.len cs))) (A.eqN 1 1), true, A.and (A.ltN 0 1) (A.ltN 2 4), true, A.lt n0 (A.int (A.len cs)), true, true, A.and (A.ltN 0 1) (A.ltN 2 4), true, true],
   AV.bool true, none) := by kernel_rfl
theorem f8p13 (A : Ar) (a : Int) (b : Int) (cs : List Int) (ws : List Int) (n : Int) (g : Int) (n0 : Int) (x1 : List AV) : gwalkL A tab BEb 32 [true, false, true, false, false] (f8h8_0b a b cs ws n g n0 x1) (f8h8_0bm a b cs ws n g n0 x1) =
  some ([true, A.inR .i64 (A.add n0 1), true, true, A.and (A.and true (A.eqN 3 3)) (A.and (A.eqN 49 49) (A.and (A.eqN 3 3) (A.leN (A.addN (A.lenA x1) (A.lenA [AV.agg (Row.gen [AV.int .i64 (A.nth cs (A.nat n0)), AV.int .i64 (A.sub (floorI (A.add (A.mul 100 a) (A.mul b (A.nth cs (A.nat n0)))) 100) (A.nth ws (A.nat n0))), AV.int .i64 (A.add (ceilI (A.add (A.mul 100 a) (A.mul b (A.nth cs (A.nat n0)))) 100) (A.nth ws (A.nat n0)))])])) 4294967296))), List.all [AV.agg (Row.gen [AV.int .i64 (A.nth cs (A.nat n0)), AV.int .i64 (A.sub (floorI (A.add (A.mul 100 a) (A.mul b (A.nth cs (A.nat n0)))) 100) (A.nth ws (A.nat n0))), AV.int .i64 (A.add (ceilI (A.add (A.mul 100 a) (A.mul b (A.nth cs (A.nat n0)))) 100) (A.nth ws (A.nat n0)))])] fun x => AV.bx x && Nat.beq (flatLen A x) 3, A.and (A.and true (A.eqN 1 1)) (A.and (A.leN (A.addN 0 1) 3) (A.and (A.ltN 0 1) (A.and (A.and true (A.eqN 2 2)) (A.and (A.leN (A.addN 1 2) 3) (A.and (A.ltN 0 2) true))))), A.and (A.and true (A.eqN 1 1)) (A.and (A.leN (A.addN 0 1) 2) (A.and (A.ltN 0 1) (A.and (A.and true (A.eqN 1 1)) (A.and (A.leN (A.addN 1 1) 2) (A.and (A.ltN 0 1) true))))), A.inR .i64 (A.add (ceilI (A.add (A.mul 100 a) (A.mul b (A.nth cs (A.nat n0)))) 100) (A.nth ws (A.nat n0))), A.eqN 0 0, A.and (A.and (A.le 0 n0) (A.ltN (A.nat n0) (A.len ws))) (A.eqN 1 1), true, A.and (A.ltN 0 1) (A.ltN 3 4), true, A.and true (Decidable.decide (((0 : Int) < 100 ∧ bigB 100 = true) ∧ -4000000000000000000 ≤ A.add (A.mul 100 a) (A.mul b (A.nth cs (A.nat n0))) ∧ A.add (A.mul 100 a) (A.mul b (A.nth cs (A.nat n0))) ≤ 4000000000000000000)), true, A.inR .i64 (A.sub (floorI (A.add (A.mul 100 a) (A.mul b (A.nth cs (A.nat n0)))) 100) (A.nth ws (A.nat n0))), A.eqN 0 0, A.and (A.and (A.le 0 n0) (A.ltN (A.nat n0) (A.len ws))) (A.eqN 1 1), true, A.and (A.ltN 0 1) (A.ltN 3 4), true, A.and true (Decidable.decide (((0 : Int) < 100 ∧ bigB 100 = true) ∧ bigB (A.add (A.mul 100 a) (A.mul b (A.nth cs (A.nat n0)))) = true)), true, A.eqN 0 0, A.and (A.and (A.le 0 n0) (A.ltN (A.nat n0) (A.len cs))) (A.eqN 1 1), true, A.and (A.ltN 0 1) (A.ltN 2 4), true, true, true, A.inR .i64 (A.add (A.mul 100 a) (A.mul b (A.nth cs (A.nat n0)))), A.inR .i64 (A.mul b (A.nth cs (A.nat n0))), A.eqN 0 0, A.and (A.and (A.le 0 n0) (A.ltN (A.nat n0) (A.len cs))) (A.eqN 1 1), true, A.and (A.ltN 0 1) (A.ltN 2 4), true, A.and (A.ltN 0 1) (A.ltN 1 4), true, A.inR .i64 (A.mul 100 a), A.and (A.ltN 0 1) (A.ltN 0 4), true, !A.not (Decidable.decide (0 ≤ A.nth ws (A.nat n0) ∧ A.nth ws (A.nat n0) ≤ 1000)), true, true, A.and true true, A.eqN 0 0, A.and (A.and (A.le 0 n0) (A.ltN (A.nat n0) (A.len ws))) (A.eqN 1 1), true, A.and (A.ltN 0 1) (A.ltN 3 4), true, !A.le (A.nth cs (A.nat n0)) (A.nth cs (A.nat (A.sub n0 1))), true, true, true, true, A.eqN 0 0, A.and (A.and (A.le 0 (A.sub n0 1)) (A.ltN (A.nat (A.sub n0 1)) (A.len cs))) (A.eqN 1 1), A.inR .i64 (A.sub n0 1), true, A.and (A.ltN 0 1) (A.ltN 2 4), true, A.eqN 0 0, A.and (A.and (A.le 0 n0) (A.ltN (A.nat n0) (A.len cs))) (A.eqN 1 1), true, A.and (A.ltN 0 1) (A.ltN 2 4), true, A.lt 0 n0, true, true, true, !A.not (Decidable.decide (0 ≤ A.nth cs (A.nat n0) ∧ A.nth cs (A.nat n0) ≤ 100000)), true, true, A.and true true, A.eqN 0 0, A.and (A.and (A.le 0 n0) (A.ltN (A.nat n0) (A.len cs))) (A.eqN 1 1), true, A.and (A.ltN 0 1) (A.ltN 2 4), true, A.lt n0 (A.int (A.len cs)), true, true, A.and (A.ltN 0 1) (A.ltN 2 4), true, true],
   f8h8_0b (a) (b) (cs) (ws) (n) (g) (A.add n0 1) (A.appA x1 [AV.agg (Row.gen [AV.int .i64 (A.nth cs (A.nat n0)), AV.int .i64 (A.sub (floorI (A.add (A.mul 100 a) (A.mul b (A.nth cs (A.nat n0)))) 100) (A.nth ws (A.nat n0))), AV.int .i64 (A.add (ceilI (A.add (A.mul 100 a) (A.mul b (A.nth cs (A.nat n0)))) 100) (A.nth ws (A.nat n0)))])]), f8h8_0bm (a) (b) (cs) (ws) (n) (g) (A.add n0 1) (A.appA x1 [AV.agg (Row.gen [AV.int .i64 (A.nth cs (A.nat n0)), AV.int .i64 (A.sub (floorI (A.add (A.mul 100 a) (A.mul b (A.nth cs (A.nat n0)))) 100) (A.nth ws (A.nat n0))), AV.int .i64 (A.add (ceilI (A.add (A.mul 100 a) (A.mul b (A.nth cs (A.nat n0)))) 100) (A.nth ws (A.nat n0)))])])) := by kernel_rfl
theorem f8p17 (A : Ar) (a : Int) (b : Int) (cs : List Int) (ws : List Int) (n : Int) (g : Int) (n0 : Int) (x1 : List AV) : gfin A tab BEb 248 [false, false, false, false, false, false, false, false, false, false, false, false, false, false, false, false, false, false, false, false, false, false, false, false, false, false, false, false, false, false, false, false, false, false, true, false, false, false, false, false, false, false, false, false, false, false, false, false, false, false, false, false, false, false, false, false, false, false, false, false, false, false, false, false, false, false, false, false, false, false, false, false, false, false, false, false, false, false, false, false, false, false, false, false, false, false, false, false, false, false, false, false, false, false, false, false, false, false, true] 8 (f8h8_0b a b cs ws n g n0 x1) (f8h8_0bm a b cs ws n g n0 x1) =
  some ([A.and true (A.and true true), true, true, true, A.not (Decidable.decide (0 ≤ (tmV (A.subA x1 0 (A.subN (A.nat (A.sub (A.int (A.lenA x1)) 1)) 0)) (AV.toI (AV.cellAt (A.nthA x1 (A.nat (A.sub (A.int (A.lenA x1)) 1))) 0))).2 ∧ (tmV (A.subA x1 0 (A.subN (A.nat (A.sub (A.int (A.lenA x1)) 1)) 0)) (AV.toI (AV.cellAt (A.nthA x1 (A.nat (A.sub (A.int (A.lenA x1)) 1))) 0))).2 ≤ 999999999999)), true, true, true, true, A.and true true, true, A.and (A.ltN 0 1) (A.ltN 1 2), true, true, !A.not (A.eq (tmE (A.subA x1 0 (A.subN (A.nat (A.sub (A.int (A.lenA x1)) 1)) 0)) (AV.toI (AV.cellAt (A.nthA x1 (A.nat (A.sub (A.int (A.lenA x1)) 1))) 0))) 0), true, true, true, true, A.and (A.ltN 0 1) (A.eqN 2 2), A.and true (A.ltN 0 2), true, true, true, A.and true (Decidable.decide (List.length (A.subA x1 0 (A.subN (A.nat (A.sub (A.int (A.lenA x1)) 1)) 0)) ≤ 1000000)), A.and (A.ltN (A.nat (A.sub (A.int (A.lenA x1)) 1)) (A.lenA x1)) (A.ltN 0 3), true, A.and (A.eqN 3 3) (A.and (A.le 0 (A.sub (A.int (A.lenA x1)) 1)) (A.ltN (A.nat (A.sub (A.int (A.lenA x1)) 1)) (A.lenA x1))), true, true, A.and (A.and (A.leN (A.addN 0 (A.subN (A.nat (A.sub (A.int (A.lenA x1)) 1)) 0)) (A.lenA x1)) true) (Decidable.decide (List.length (A.subA x1 0 (A.subN (A.nat (A.sub (A.int (A.lenA x1)) 1)) 0)) ≤ 1000000)), A.and (A.and true (A.le 0 (A.sub (A.int (A.lenA x1)) 1))) (A.and (A.and (A.leN 0 (A.nat (A.sub (A.int (A.lenA x1)) 1))) (A.leN (A.nat (A.sub (A.int (A.lenA x1)) 1)) (A.lenA x1))) (A.and (A.eqN 3 3) true)), true, true, true, A.inR .i64 (A.sub (A.int (A.lenA x1)) 1), true, true, !A.lt (cmpI (rtV (A.appA (A.subA x1 0 (A.subN (A.nat (modI g (A.int (A.lenA x1)))) 0)) (A.subA x1 (A.nat (A.add (modI g (A.int (A.lenA x1))) 1)) (A.subN (A.lenA x1) (A.nat (A.add (modI g (A.int (A.lenA x1))) 1)))))).snd.snd.1 (rtV (A.appA (A.subA x1 0 (A.subN (A.nat (modI g (A.int (A.lenA x1)))) 0)) (A.subA x1 (A.nat (A.add (modI g (A.int (A.lenA x1))) 1)) (A.subN (A.lenA x1) (A.nat (A.add (modI g (A.int (A.lenA x1))) 1)))))).snd.snd.2 (rtV x1).snd.snd.1 (rtV x1).snd.snd.2) 0, true, true, true, true, A.and true (Decidable.decide (((0 < (rtV (A.appA (A.subA x1 0 (A.subN (A.nat (modI g (A.int (A.lenA x1)))) 0)) (A.subA x1 (A.nat (A.add (modI g (A.int (A.lenA x1))) 1)) (A.subN (A.lenA x1) (A.nat (A.add (modI g (A.int (A.lenA x1))) 1)))))).snd.snd.2 ∧ 0 < (rtV x1).snd.snd.2) ∧ medB (rtV (A.appA (A.subA x1 0 (A.subN (A.nat (modI g (A.int (A.lenA x1)))) 0)) (A.subA x1 (A.nat (A.add (modI g (A.int (A.lenA x1))) 1)) (A.subN (A.lenA x1) (A.nat (A.add (modI g (A.int (A.lenA x1))) 1)))))).snd.snd.1 = true ∧ medB (rtV (A.appA (A.subA x1 0 (A.subN (A.nat (modI g (A.int (A.lenA x1)))) 0)) (A.subA x1 (A.nat (A.add (modI g (A.int (A.lenA x1))) 1)) (A.subN (A.lenA x1) (A.nat (A.add (modI g (A.int (A.lenA x1))) 1)))))).snd.snd.2 = true) ∧ medB (rtV x1).snd.snd.1 = true ∧ medB (rtV x1).snd.snd.2 = true)), true, A.and (A.ltN 0 1) (A.ltN 3 4), true, true, true, true, true, A.and (A.ltN 0 1) (A.ltN 2 4), true, true, true, true, true, A.and (A.ltN 0 1) (A.ltN 3 4), true, true, true, true, true, A.and (A.ltN 0 1) (A.ltN 2 4), true, true, true, true, !A.lt 0 (cmpI (rtV (A.appA (A.subA x1 0 (A.subN (A.nat (modI g (A.int (A.lenA x1)))) 0)) (A.subA x1 (A.nat (A.add (modI g (A.int (A.lenA x1))) 1)) (A.subN (A.lenA x1) (A.nat (A.add (modI g (A.int (A.lenA x1))) 1)))))).1 (rtV (A.appA (A.subA x1 0 (A.subN (A.nat (modI g (A.int (A.lenA x1)))) 0)) (A.subA x1 (A.nat (A.add (modI g (A.int (A.lenA x1))) 1)) (A.subN (A.lenA x1) (A.nat (A.add (modI g (A.int (A.lenA x1))) 1)))))).snd.1 (rtV x1).1 (rtV x1).snd.1), true, true, true, true, true, A.and true (Decidable.decide (((0 < (rtV (A.appA (A.subA x1 0 (A.subN (A.nat (modI g (A.int (A.lenA x1)))) 0)) (A.subA x1 (A.nat (A.add (modI g (A.int (A.lenA x1))) 1)) (A.subN (A.lenA x1) (A.nat (A.add (modI g (A.int (A.lenA x1))) 1)))))).snd.1 ∧ 0 < (rtV x1).snd.1) ∧ medB (rtV (A.appA (A.subA x1 0 (A.subN (A.nat (modI g (A.int (A.lenA x1)))) 0)) (A.subA x1 (A.nat (A.add (modI g (A.int (A.lenA x1))) 1)) (A.subN (A.lenA x1) (A.nat (A.add (modI g (A.int (A.lenA x1))) 1)))))).1 = true ∧ medB (rtV (A.appA (A.subA x1 0 (A.subN (A.nat (modI g (A.int (A.lenA x1)))) 0)) (A.subA x1 (A.nat (A.add (modI g (A.int (A.lenA x1))) 1)) (A.subN (A.lenA x1) (A.nat (A.add (modI g (A.int (A.lenA x1))) 1)))))).snd.1 = true) ∧ medB (rtV x1).1 = true ∧ medB (rtV x1).snd.1 = true)), true, A.and (A.ltN 0 1) (A.ltN 1 4), true, true, true, true, true, A.and (A.ltN 0 1) (A.ltN 0 4), true, true, true, true, true, A.and (A.ltN 0 1) (A.ltN 1 4), true, true, true, true, true, A.and (A.ltN 0 1) (A.ltN 0 4), true, true, true, true, !A.lt (tmV (A.appA (A.subA x1 0 (A.subN (A.nat (modI g (A.int (A.lenA x1)))) 0)) (A.subA x1 (A.nat (A.add (modI g (A.int (A.lenA x1))) 1)) (A.subN (A.lenA x1) (A.nat (A.add (modI g (A.int (A.lenA x1))) 1))))) n).2 (tmV x1 n).2, true, true, true, true, true, A.and (A.ltN 0 1) (A.ltN 1 2), true, true, true, A.and (A.ltN 0 1) (A.ltN 1 2), true, true, !A.lt (tmV x1 n).1 (tmV (A.appA (A.subA x1 0 (A.subN (A.nat (modI g (A.int (A.lenA x1)))) 0)) (A.subA x1 (A.nat (A.add (modI g (A.int (A.lenA x1))) 1)) (A.subN (A.lenA x1) (A.nat (A.add (modI g (A.int (A.lenA x1))) 1))))) n).1, true, true, true, true, true, A.and (A.ltN 0 1) (A.ltN 0 2), true, true, true, A.and (A.ltN 0 1) (A.ltN 0 2), true, true, !A.not (lowI (rtV (A.appA (A.subA x1 0 (A.subN (A.nat (modI g (A.int (A.lenA x1)))) 0)) (A.subA x1 (A.nat (A.add (modI g (A.int (A.lenA x1))) 1)) (A.subN (A.lenA x1) (A.nat (A.add (modI g (A.int (A.lenA x1))) 1)))))).snd.snd.1 (rtV (A.appA (A.subA x1 0 (A.subN (A.nat (modI g (A.int (A.lenA x1)))) 0)) (A.subA x1 (A.nat (A.add (modI g (A.int (A.lenA x1))) 1)) (A.subN (A.lenA x1) (A.nat (A.add (modI g (A.int (A.lenA x1))) 1)))))).snd.snd.2), true, true, true, true, true, A.and true (Decidable.decide (bigB (rtV (A.appA (A.subA x1 0 (A.subN (A.nat (modI g (A.int (A.lenA x1)))) 0)) (A.subA x1 (A.nat (A.add (modI g (A.int (A.lenA x1))) 1)) (A.subN (A.lenA x1) (A.nat (A.add (modI g (A.int (A.lenA x1))) 1)))))).snd.snd.1 = true ∧ bigB (rtV (A.appA (A.subA x1 0 (A.subN (A.nat (modI g (A.int (A.lenA x1)))) 0)) (A.subA x1 (A.nat (A.add (modI g (A.int (A.lenA x1))) 1)) (A.subN (A.lenA x1) (A.nat (A.add (modI g (A.int (A.lenA x1))) 1)))))).snd.snd.2 = true)), true, A.and (A.ltN 0 1) (A.leN (A.addN 2 2) 4), true, true, !A.not (lowI (rtV (A.appA (A.subA x1 0 (A.subN (A.nat (modI g (A.int (A.lenA x1)))) 0)) (A.subA x1 (A.nat (A.add (modI g (A.int (A.lenA x1))) 1)) (A.subN (A.lenA x1) (A.nat (A.add (modI g (A.int (A.lenA x1))) 1)))))).1 (rtV (A.appA (A.subA x1 0 (A.subN (A.nat (modI g (A.int (A.lenA x1)))) 0)) (A.subA x1 (A.nat (A.add (modI g (A.int (A.lenA x1))) 1)) (A.subN (A.lenA x1) (A.nat (A.add (modI g (A.int (A.lenA x1))) 1)))))).snd.1), true, true, true, true, true, A.and true (Decidable.decide (bigB (rtV (A.appA (A.subA x1 0 (A.subN (A.nat (modI g (A.int (A.lenA x1)))) 0)) (A.subA x1 (A.nat (A.add (modI g (A.int (A.lenA x1))) 1)) (A.subN (A.lenA x1) (A.nat (A.add (modI g (A.int (A.lenA x1))) 1)))))).1 = true ∧ bigB (rtV (A.appA (A.subA x1 0 (A.subN (A.nat (modI g (A.int (A.lenA x1)))) 0)) (A.subA x1 (A.nat (A.add (modI g (A.int (A.lenA x1))) 1)) (A.subN (A.lenA x1) (A.nat (A.add (modI g (A.int (A.lenA x1))) 1)))))).snd.1 = true)), true, A.and (A.ltN 0 1) (A.leN (A.addN 0 2) 4), true, true, !A.not (A.eq (tmE (A.appA (A.subA x1 0 (A.subN (A.nat (modI g (A.int (A.lenA x1)))) 0)) (A.subA x1 (A.nat (A.add (modI g (A.int (A.lenA x1))) 1)) (A.subN (A.lenA x1) (A.nat (A.add (modI g (A.int (A.lenA x1))) 1))))) n) 0), true, true, true, true, true, true, !A.not (A.eq (rtE (A.appA (A.subA x1 0 (A.subN (A.nat (modI g (A.int (A.lenA x1)))) 0)) (A.subA x1 (A.nat (A.add (modI g (A.int (A.lenA x1))) 1)) (A.subN (A.lenA x1) (A.nat (A.add (modI g (A.int (A.lenA x1))) 1)))))) 0), true, true, true, true, A.and (A.ltN 0 1) (A.eqN 2 2), A.and true (A.ltN 0 2), true, true, true, A.and (A.and true (A.and true true)) (Decidable.decide (List.length (A.appA (A.subA x1 0 (A.subN (A.nat (modI g (A.int (A.lenA x1)))) 0)) (A.subA x1 (A.nat (A.add (modI g (A.int (A.lenA x1))) 1)) (A.subN (A.lenA x1) (A.nat (A.add (modI g (A.int (A.lenA x1))) 1))))) ≤ 1000000)), true, true, true, A.and (A.ltN 0 1) (A.eqN 4 4), A.and true (A.ltN 0 (A.len [0, 0, 0, 0])), true, true, true, A.and true (Decidable.decide (List.length (A.appA (A.subA x1 0 (A.subN (A.nat (modI g (A.int (A.lenA x1)))) 0)) (A.subA x1 (A.nat (A.add (modI g (A.int (A.lenA x1))) 1)) (A.subN (A.lenA x1) (A.nat (A.add (modI g (A.int (A.lenA x1))) 1))))) ≤ 1000000)), A.and (A.and true true) (Decidable.decide (List.length (A.appA (A.subA x1 0 (A.subN (A.nat (modI g (A.int (A.lenA x1)))) 0)) (A.subA x1 (A.nat (A.add (modI g (A.int (A.lenA x1))) 1)) (A.subN (A.lenA x1) (A.nat (A.add (modI g (A.int (A.lenA x1))) 1))))) ≤ 1000000)), true, true, A.and (A.and (A.leN (A.addN (A.nat (A.add (modI g (A.int (A.lenA x1))) 1)) (A.subN (A.lenA x1) (A.nat (A.add (modI g (A.int (A.lenA x1))) 1)))) (A.lenA x1)) (A.eqN 3 3)) (A.and (A.eqN 49 49) (A.and (A.eqN 3 3) (A.leN (A.addN (A.lenA (A.subA x1 0 (A.subN (A.nat (modI g (A.int (A.lenA x1)))) 0))) (A.lenA (A.subA x1 (A.nat (A.add (modI g (A.int (A.lenA x1))) 1)) (A.subN (A.lenA x1) (A.nat (A.add (modI g (A.int (A.lenA x1))) 1)))))) 4294967296))), A.and (A.and (A.le 0 (A.add (modI g (A.int (A.lenA x1))) 1)) true) (A.and (A.and (A.leN (A.nat (A.add (modI g (A.int (A.lenA x1))) 1)) (A.lenA x1)) (A.leN (A.lenA x1) (A.lenA x1))) (A.and (A.eqN 3 3) true)), A.inR .i64 (A.add (modI g (A.int (A.lenA x1))) 1), true, true, A.and (A.and (A.leN (A.addN 0 (A.subN (A.nat (modI g (A.int (A.lenA x1)))) 0)) (A.lenA x1)) true) (Decidable.decide (List.length (A.subA x1 0 (A.subN (A.nat (modI g (A.int (A.lenA x1)))) 0)) ≤ 1000000)), A.and (A.and true (A.le 0 (modI g (A.int (A.lenA x1))))) (A.and (A.and (A.leN 0 (A.nat (modI g (A.int (A.lenA x1))))) (A.leN (A.nat (modI g (A.int (A.lenA x1)))) (A.lenA x1))) (A.and (A.eqN 3 3) true)), true, true, true, A.and true (Decidable.decide (1 ≤ A.int (A.lenA x1) ∧ A.int (A.lenA x1) ≤ 1000000000000)), true, true, true, !A.lt (tmV x1 n).2 (ceilI (A.add (A.mul 100 a) (A.mul b n)) 100), true, true, A.and true (Decidable.decide (((0 : Int) < 100 ∧ bigB 100 = true) ∧ -4000000000000000000 ≤ A.add (A.mul 100 a) (A.mul b n) ∧ A.add (A.mul 100 a) (A.mul b n) ≤ 4000000000000000000)), true, A.and (A.ltN 0 1) (A.ltN 1 2), true, !A.lt (floorI (A.add (A.mul 100 a) (A.mul b n)) 100) (tmV x1 n).1, true, true, true, A.and true (Decidable.decide (((0 : Int) < 100 ∧ bigB 100 = true) ∧ bigB (A.add (A.mul 100 a) (A.mul b n)) = true)), true, A.and (A.ltN 0 1) (A.ltN 0 2), true, !A.lt 0 (cmpI b 100 (rtV x1).snd.snd.1 (rtV x1).snd.snd.2), true, true, true, A.and true (Decidable.decide ((((0 : Int) < 100 ∧ 0 < (rtV x1).snd.snd.2) ∧ medB b = true ∧ medB 100 = true) ∧ medB (rtV x1).snd.snd.1 = true ∧ medB (rtV x1).snd.snd.2 = true)), A.and (A.ltN 0 1) (A.ltN 3 4), true, true, A.and (A.ltN 0 1) (A.ltN 2 4), true, true, A.and (A.ltN 0 1) (A.ltN 1 4), true, !A.lt 0 (cmpI (rtV x1).1 (rtV x1).snd.1 b 100), true, true, A.and true (Decidable.decide (((0 < (rtV x1).snd.1 ∧ (0 : Int) < 100) ∧ medB (rtV x1).1 = true ∧ medB (rtV x1).snd.1 = true) ∧ medB b = true ∧ medB 100 = true)), A.and (A.ltN 0 1) (A.ltN 1 4), true, A.and (A.ltN 0 1) (A.ltN 1 4), true, true, A.and (A.ltN 0 1) (A.ltN 0 4), true, true, true, A.inR .i64 (A.add (A.mul 100 a) (A.mul b n)), A.inR .i64 (A.mul b n), true, A.and (A.ltN 0 1) (A.ltN 1 4), true, A.inR .i64 (A.mul 100 a), A.and (A.ltN 0 1) (A.ltN 0 4), true, !A.not (A.eq (tmE x1 n) 0), true, true, true, true, true, !A.not (lowI (rtV x1).snd.snd.1 (rtV x1).snd.snd.2), true, true, true, true, true, A.and true (Decidable.decide (bigB (rtV x1).snd.snd.1 = true ∧ bigB (rtV x1).snd.snd.2 = true)), true, A.and (A.ltN 0 1) (A.leN (A.addN 2 2) 4), true, true, !A.not (lowI (rtV x1).1 (rtV x1).snd.1), true, true, true, true, true, A.and true (Decidable.decide (bigB (rtV x1).1 = true ∧ bigB (rtV x1).snd.1 = true)), true, A.and (A.ltN 0 1) (A.leN (A.addN 0 2) 4), true, true, !A.not (A.eq (rtE x1) 0), true, true, true, true, true, true, !A.not (Decidable.decide (List.map prP (pieA x1) = List.map prP [AV.agg (Row.gen [AV.int .i64 0, AV.int .i64 (A.sub (A.int (A.lenA x1)) 1)])])), true, true, true, true, true, A.and (A.and true (A.and true true)) (Decidable.decide (List.length (pieA x1) ≤ 1000000)), true, List.all [AV.agg (Row.gen [AV.int .i64 0, AV.int .i64 (A.sub (A.int (A.lenA x1)) 1)])] fun x => AV.bx x && Nat.beq (flatLen A x) 2, true, A.and (A.and true (A.eqN 1 1)) (A.and (A.leN (A.addN 1 1) 2) (A.and (A.ltN 0 1) true)), true, A.inR .i64 (A.sub (A.int (A.lenA x1)) 1), true, true, true, true, true, true, !A.not (A.eq (chkP x1).2 0), true, true, true, true, A.and (A.ltN 0 1) (A.eqN 2 2), A.and true (A.ltN 0 2), true, true, true, A.and true (Decidable.decide (List.length x1 ≤ 1000000)), true, A.and (A.and true true) (Decidable.decide (List.length x1 ≤ 1000000)), true, true, A.and (A.ltN 0 1) (A.eqN 4 4), A.and true (A.ltN 0 (A.len [0, 0, 0, 0])), true, true, true, A.and true (Decidable.decide (List.length x1 ≤ 1000000)), A.and (A.and true true) (Decidable.decide (List.length x1 ≤ 1000000)), true, true, true, true, true, true, A.and true (Decidable.decide (List.length x1 ≤ 1000000)), A.and (A.and true true) (Decidable.decide (List.length x1 ≤ 1000000)), true, !A.lt n0 (A.int (A.len cs)), true, true, A.and (A.ltN 0 1) (A.ltN 2 4), true, true],
   AV.bool (A.eq (tmE (A.subA x1 0 (A.subN (A.nat (A.sub (A.int (A.lenA x1)) 1)) 0)) (AV.toI (AV.cellAt (A.nthA x1 (A.nat (A.sub (A.int (A.lenA x1)) 1))) 0))) 0), none) := by kernel_rfl
theorem f8p18 (A : Ar) (a : Int) (b : Int) (cs : List Int) (ws : List Int) (n : Int) (g : Int) (n0 : Int) (x1 : List AV) : gfin A tab BEb 293 [false, false, false, false, false, false, false, false, false, false, false, false, false, false, false, false, false, false, false, false, false, false, false, false, false, false, false, false, false, false, false, false, false, false, true, false, false, false, false, false, false, false, false, false, false, false, false, false, false, false, false, false, false, false, false, false, false, false, false, false, false, false, false, false, false, false, false, false, false, false, false, false, false, false, false, false, false, false, false, false, false, false, false, false, false, false, false, false, false, false, false, false, false, false, false, false, false, false, false, true, true, true, true, true, true, true, true, true, true, true] 8 (f8h8_0b a b cs ws n g n0 x1) (f8h8_0bm a b cs ws n g n0 x1) =
  some ([A.and true (A.and true true), true, true, true, A.and (A.and true (A.and true true)) (Decidable.decide (List.length (pieA (A.setA x1 (A.nat (A.sub (A.int (A.lenA x1)) 1)) (AV.agg (Row.blit A (Row.gen (viewL [Sh.int .i64, Sh.int .i64, Sh.int .i64] 0 (A.nthA x1 (A.nat (A.sub (A.int (A.lenA x1)) 1))))) 1 (Row.gen [AV.int .i64 (A.add (tmV (A.subA x1 0 (A.subN (A.nat (A.sub (A.int (A.lenA x1)) 1)) 0)) (AV.toI (AV.cellAt (A.nthA x1 (A.nat (A.sub (A.int (A.lenA x1)) 1))) 0))).2 1), AV.int .i64 (A.add (tmV (A.subA x1 0 (A.subN (A.nat (A.sub (A.int (A.lenA x1)) 1)) 0)) (AV.toI (AV.cellAt (A.nthA x1 (A.nat (A.sub (A.int (A.lenA x1)) 1))) 0))).2 1)]))))) ≤ 1000000)), true, List.all [AV.agg (Row.gen [AV.int .i64 0, AV.int .i64 (A.sub (A.sub (A.int (A.lenA x1)) 1) 1)]), AV.agg (Row.gen [AV.int .i64 (A.sub (A.int (A.lenA x1)) 1), AV.int .i64 (A.sub (A.int (A.lenA x1)) 1)])] fun x => AV.bx x && Nat.beq (flatLen A x) 2, true, A.and (A.and true (A.eqN 1 1)) (A.and (A.leN (A.addN 0 1) 2) (A.and (A.ltN 0 1) (A.and (A.and true (A.eqN 1 1)) (A.and (A.leN (A.addN 1 1) 2) (A.and (A.ltN 0 1) true))))), true, true, true, true, true, A.and (A.and true (A.eqN 1 1)) (A.and (A.leN (A.addN 1 1) 2) (A.and (A.ltN 0 1) true)), true, A.inR .i64 (A.sub (A.sub (A.int (A.lenA x1)) 1) 1), true, true, true, true, A.eq (chkP (A.setA x1 (A.nat (A.sub (A.int (A.lenA x1)) 1)) (AV.agg (Row.blit A (Row.gen (viewL [Sh.int .i64, Sh.int .i64, Sh.int .i64] 0 (A.nthA x1 (A.nat (A.sub (A.int (A.lenA x1)) 1))))) 1 (Row.gen [AV.int .i64 (A.add (tmV (A.subA x1 0 (A.subN (A.nat (A.sub (A.int (A.lenA x1)) 1)) 0)) (AV.toI (AV.cellAt (A.nthA x1 (A.nat (A.sub (A.int (A.lenA x1)) 1))) 0))).2 1), AV.int .i64 (A.add (tmV (A.subA x1 0 (A.subN (A.nat (A.sub (A.int (A.lenA x1)) 1)) 0)) (AV.toI (AV.cellAt (A.nthA x1 (A.nat (A.sub (A.int (A.lenA x1)) 1))) 0))).2 1)]))))).2 0, true, true, true, true, true, true, true, true, A.and (A.and true true) (Decidable.decide (List.length (A.setA x1 (A.nat (A.sub (A.int (A.lenA x1)) 1)) (AV.agg (Row.blit A (Row.gen (viewL [Sh.int .i64, Sh.int .i64, Sh.int .i64] 0 (A.nthA x1 (A.nat (A.sub (A.int (A.lenA x1)) 1))))) 1 (Row.gen [AV.int .i64 (A.add (tmV (A.subA x1 0 (A.subN (A.nat (A.sub (A.int (A.lenA x1)) 1)) 0)) (AV.toI (AV.cellAt (A.nthA x1 (A.nat (A.sub (A.int (A.lenA x1)) 1))) 0))).2 1), AV.int .i64 (A.add (tmV (A.subA x1 0 (A.subN (A.nat (A.sub (A.int (A.lenA x1)) 1)) 0)) (AV.toI (AV.cellAt (A.nthA x1 (A.nat (A.sub (A.int (A.lenA x1)) 1))) 0))).2 1)])))) ≤ 1000000)), true, A.and (A.ltN (A.nat (A.sub (A.int (A.lenA x1)) 1)) (A.lenA x1)) (A.and (A.eqN 2 2) (A.leN (A.addN 1 2) 3)), true, A.and (A.eqN 3 3) (A.and (A.le 0 (A.sub (A.int (A.lenA x1)) 1)) (A.ltN (A.nat (A.sub (A.int (A.lenA x1)) 1)) (A.lenA x1))), A.and (A.and true (A.eqN 1 1)) (A.and (A.leN (A.addN 0 1) 2) (A.and (A.ltN 0 1) (A.and (A.and true (A.eqN 1 1)) (A.and (A.leN (A.addN 1 1) 2) (A.and (A.ltN 0 1) true))))), A.inR .i64 (A.add (tmV (A.subA x1 0 (A.subN (A.nat (A.sub (A.int (A.lenA x1)) 1)) 0)) (AV.toI (AV.cellAt (A.nthA x1 (A.nat (A.sub (A.int (A.lenA x1)) 1))) 0))).2 1), A.and (A.ltN 0 1) (A.ltN 1 2), true, A.inR .i64 (A.add (tmV (A.subA x1 0 (A.subN (A.nat (A.sub (A.int (A.lenA x1)) 1)) 0)) (AV.toI (AV.cellAt (A.nthA x1 (A.nat (A.sub (A.int (A.lenA x1)) 1))) 0))).2 1), A.and (A.ltN 0 1) (A.ltN 1 2), true, true, true, true, A.and (A.and true true) (Decidable.decide (List.length x1 ≤ 1000000)), true, !A.not (Decidable.decide (0 ≤ (tmV (A.subA x1 0 (A.subN (A.nat (A.sub (A.int (A.lenA x1)) 1)) 0)) (AV.toI (AV.cellAt (A.nthA x1 (A.nat (A.sub (A.int (A.lenA x1)) 1))) 0))).2 ∧ (tmV (A.subA x1 0 (A.subN (A.nat (A.sub (A.int (A.lenA x1)) 1)) 0)) (AV.toI (AV.cellAt (A.nthA x1 (A.nat (A.sub (A.int (A.lenA x1)) 1))) 0))).2 ≤ 999999999999)), true, true, true, true, A.and true true, true, A.and (A.ltN 0 1) (A.ltN 1 2), true, true, !A.not (A.eq (tmE (A.subA x1 0 (A.subN (A.nat (A.sub (A.int (A.lenA x1)) 1)) 0)) (AV.toI (AV.cellAt (A.nthA x1 (A.nat (A.sub (A.int (A.lenA x1)) 1))) 0))) 0), true, true, true, true, A.and (A.ltN 0 1) (A.eqN 2 2), A.and true (A.ltN 0 2), true, true, true, A.and true (Decidable.decide (List.length (A.subA x1 0 (A.subN (A.nat (A.sub (A.int (A.lenA x1)) 1)) 0)) ≤ 1000000)), A.and (A.ltN (A.nat (A.sub (A.int (A.lenA x1)) 1)) (A.lenA x1)) (A.ltN 0 3), true, A.and (A.eqN 3 3) (A.and (A.le 0 (A.sub (A.int (A.lenA x1)) 1)) (A.ltN (A.nat (A.sub (A.int (A.lenA x1)) 1)) (A.lenA x1))), true, true, A.and (A.and (A.leN (A.addN 0 (A.subN (A.nat (A.sub (A.int (A.lenA x1)) 1)) 0)) (A.lenA x1)) true) (Decidable.decide (List.length (A.subA x1 0 (A.subN (A.nat (A.sub (A.int (A.lenA x1)) 1)) 0)) ≤ 1000000)), A.and (A.and true (A.le 0 (A.sub (A.int (A.lenA x1)) 1))) (A.and (A.and (A.leN 0 (A.nat (A.sub (A.int (A.lenA x1)) 1))) (A.leN (A.nat (A.sub (A.int (A.lenA x1)) 1)) (A.lenA x1))) (A.and (A.eqN 3 3) true)), true, true, true, A.inR .i64 (A.sub (A.int (A.lenA x1)) 1), true, true, !A.lt (cmpI (rtV (A.appA (A.subA x1 0 (A.subN (A.nat (modI g (A.int (A.lenA x1)))) 0)) (A.subA x1 (A.nat (A.add (modI g (A.int (A.lenA x1))) 1)) (A.subN (A.lenA x1) (A.nat (A.add (modI g (A.int (A.lenA x1))) 1)))))).snd.snd.1 (rtV (A.appA (A.subA x1 0 (A.subN (A.nat (modI g (A.int (A.lenA x1)))) 0)) (A.subA x1 (A.nat (A.add (modI g (A.int (A.lenA x1))) 1)) (A.subN (A.lenA x1) (A.nat (A.add (modI g (A.int (A.lenA x1))) 1)))))).snd.snd.2 (rtV x1).snd.snd.1 (rtV x1).snd.snd.2) 0, true, true, true, true, A.and true (Decidable.decide (((0 < (rtV (A.appA (A.subA x1 0 (A.subN (A.nat (modI g (A.int (A.lenA x1)))) 0)) (A.subA x1 (A.nat (A.add (modI g (A.int (A.lenA x1))) 1)) (A.subN (A.lenA x1) (A.nat (A.add (modI g (A.int (A.lenA x1))) 1)))))).snd.snd.2 ∧ 0 < (rtV x1).snd.snd.2) ∧ medB (rtV (A.appA (A.subA x1 0 (A.subN (A.nat (modI g (A.int (A.lenA x1)))) 0)) (A.subA x1 (A.nat (A.add (modI g (A.int (A.lenA x1))) 1)) (A.subN (A.lenA x1) (A.nat (A.add (modI g (A.int (A.lenA x1))) 1)))))).snd.snd.1 = true ∧ medB (rtV (A.appA (A.subA x1 0 (A.subN (A.nat (modI g (A.int (A.lenA x1)))) 0)) (A.subA x1 (A.nat (A.add (modI g (A.int (A.lenA x1))) 1)) (A.subN (A.lenA x1) (A.nat (A.add (modI g (A.int (A.lenA x1))) 1)))))).snd.snd.2 = true) ∧ medB (rtV x1).snd.snd.1 = true ∧ medB (rtV x1).snd.snd.2 = true)), true, A.and (A.ltN 0 1) (A.ltN 3 4), true, true, true, true, true, A.and (A.ltN 0 1) (A.ltN 2 4), true, true, true, true, true, A.and (A.ltN 0 1) (A.ltN 3 4), true, true, true, true, true, A.and (A.ltN 0 1) (A.ltN 2 4), true, true, true, true, !A.lt 0 (cmpI (rtV (A.appA (A.subA x1 0 (A.subN (A.nat (modI g (A.int (A.lenA x1)))) 0)) (A.subA x1 (A.nat (A.add (modI g (A.int (A.lenA x1))) 1)) (A.subN (A.lenA x1) (A.nat (A.add (modI g (A.int (A.lenA x1))) 1)))))).1 (rtV (A.appA (A.subA x1 0 (A.subN (A.nat (modI g (A.int (A.lenA x1)))) 0)) (A.subA x1 (A.nat (A.add (modI g (A.int (A.lenA x1))) 1)) (A.subN (A.lenA x1) (A.nat (A.add (modI g (A.int (A.lenA x1))) 1)))))).snd.1 (rtV x1).1 (rtV x1).snd.1), true, true, true, true, true, A.and true (Decidable.decide (((0 < (rtV (A.appA (A.subA x1 0 (A.subN (A.nat (modI g (A.int (A.lenA x1)))) 0)) (A.subA x1 (A.nat (A.add (modI g (A.int (A.lenA x1))) 1)) (A.subN (A.lenA x1) (A.nat (A.add (modI g (A.int (A.lenA x1))) 1)))))).snd.1 ∧ 0 < (rtV x1).snd.1) ∧ medB (rtV (A.appA (A.subA x1 0 (A.subN (A.nat (modI g (A.int (A.lenA x1)))) 0)) (A.subA x1 (A.nat (A.add (modI g (A.int (A.lenA x1))) 1)) (A.subN (A.lenA x1) (A.nat (A.add (modI g (A.int (A.lenA x1))) 1)))))).1 = true ∧ medB (rtV (A.appA (A.subA x1 0 (A.subN (A.nat (modI g (A.int (A.lenA x1)))) 0)) (A.subA x1 (A.nat (A.add (modI g (A.int (A.lenA x1))) 1)) (A.subN (A.lenA x1) (A.nat (A.add (modI g (A.int (A.lenA x1))) 1)))))).snd.1 = true) ∧ medB (rtV x1).1 = true ∧ medB (rtV x1).snd.1 = true)), true, A.and (A.ltN 0 1) (A.ltN 1 4), true, true, true, true, true, A.and (A.ltN 0 1) (A.ltN 0 4), true, true, true, true, true, A.and (A.ltN 0 1) (A.ltN 1 4), true, true, true, true, true, A.and (A.ltN 0 1) (A.ltN 0 4), true, true, true, true, !A.lt (tmV (A.appA (A.subA x1 0 (A.subN (A.nat (modI g (A.int (A.lenA x1)))) 0)) (A.subA x1 (A.nat (A.add (modI g (A.int (A.lenA x1))) 1)) (A.subN (A.lenA x1) (A.nat (A.add (modI g (A.int (A.lenA x1))) 1))))) n).2 (tmV x1 n).2, true, true, true, true, true, A.and (A.ltN 0 1) (A.ltN 1 2), true, true, true, A.and (A.ltN 0 1) (A.ltN 1 2), true, true, !A.lt (tmV x1 n).1 (tmV (A.appA (A.subA x1 0 (A.subN (A.nat (modI g (A.int (A.lenA x1)))) 0)) (A.subA x1 (A.nat (A.add (modI g (A.int (A.lenA x1))) 1)) (A.subN (A.lenA x1) (A.nat (A.add (modI g (A.int (A.lenA x1))) 1))))) n).1, true, true, true, true, true, A.and (A.ltN 0 1) (A.ltN 0 2), true, true, true, A.and (A.ltN 0 1) (A.ltN 0 2), true, true, !A.not (lowI (rtV (A.appA (A.subA x1 0 (A.subN (A.nat (modI g (A.int (A.lenA x1)))) 0)) (A.subA x1 (A.nat (A.add (modI g (A.int (A.lenA x1))) 1)) (A.subN (A.lenA x1) (A.nat (A.add (modI g (A.int (A.lenA x1))) 1)))))).snd.snd.1 (rtV (A.appA (A.subA x1 0 (A.subN (A.nat (modI g (A.int (A.lenA x1)))) 0)) (A.subA x1 (A.nat (A.add (modI g (A.int (A.lenA x1))) 1)) (A.subN (A.lenA x1) (A.nat (A.add (modI g (A.int (A.lenA x1))) 1)))))).snd.snd.2), true, true, true, true, true, A.and true (Decidable.decide (bigB (rtV (A.appA (A.subA x1 0 (A.subN (A.nat (modI g (A.int (A.lenA x1)))) 0)) (A.subA x1 (A.nat (A.add (modI g (A.int (A.lenA x1))) 1)) (A.subN (A.lenA x1) (A.nat (A.add (modI g (A.int (A.lenA x1))) 1)))))).snd.snd.1 = true ∧ bigB (rtV (A.appA (A.subA x1 0 (A.subN (A.nat (modI g (A.int (A.lenA x1)))) 0)) (A.subA x1 (A.nat (A.add (modI g (A.int (A.lenA x1))) 1)) (A.subN (A.lenA x1) (A.nat (A.add (modI g (A.int (A.lenA x1))) 1)))))).snd.snd.2 = true)), true, A.and (A.ltN 0 1) (A.leN (A.addN 2 2) 4), true, true, !A.not (lowI (rtV (A.appA (A.subA x1 0 (A.subN (A.nat (modI g (A.int (A.lenA x1)))) 0)) (A.subA x1 (A.nat (A.add (modI g (A.int (A.lenA x1))) 1)) (A.subN (A.lenA x1) (A.nat (A.add (modI g (A.int (A.lenA x1))) 1)))))).1 (rtV (A.appA (A.subA x1 0 (A.subN (A.nat (modI g (A.int (A.lenA x1)))) 0)) (A.subA x1 (A.nat (A.add (modI g (A.int (A.lenA x1))) 1)) (A.subN (A.lenA x1) (A.nat (A.add (modI g (A.int (A.lenA x1))) 1)))))).snd.1), true, true, true, true, true, A.and true (Decidable.decide (bigB (rtV (A.appA (A.subA x1 0 (A.subN (A.nat (modI g (A.int (A.lenA x1)))) 0)) (A.subA x1 (A.nat (A.add (modI g (A.int (A.lenA x1))) 1)) (A.subN (A.lenA x1) (A.nat (A.add (modI g (A.int (A.lenA x1))) 1)))))).1 = true ∧ bigB (rtV (A.appA (A.subA x1 0 (A.subN (A.nat (modI g (A.int (A.lenA x1)))) 0)) (A.subA x1 (A.nat (A.add (modI g (A.int (A.lenA x1))) 1)) (A.subN (A.lenA x1) (A.nat (A.add (modI g (A.int (A.lenA x1))) 1)))))).snd.1 = true)), true, A.and (A.ltN 0 1) (A.leN (A.addN 0 2) 4), true, true, !A.not (A.eq (tmE (A.appA (A.subA x1 0 (A.subN (A.nat (modI g (A.int (A.lenA x1)))) 0)) (A.subA x1 (A.nat (A.add (modI g (A.int (A.lenA x1))) 1)) (A.subN (A.lenA x1) (A.nat (A.add (modI g (A.int (A.lenA x1))) 1))))) n) 0), true, true, true, true, true, true, !A.not (A.eq (rtE (A.appA (A.subA x1 0 (A.subN (A.nat (modI g (A.int (A.lenA x1)))) 0)) (A.subA x1 (A.nat (A.add (modI g (A.int (A.lenA x1))) 1)) (A.subN (A.lenA x1) (A.nat (A.add (modI g (A.int (A.lenA x1))) 1)))))) 0), true, true, true, true, A.and (A.ltN 0 1) (A.eqN 2 2), A.and true (A.ltN 0 2), true, true, true, A.and (A.and true (A.and true true)) (Decidable.decide (List.length (A.appA (A.subA x1 0 (A.subN (A.nat (modI g (A.int (A.lenA x1)))) 0)) (A.subA x1 (A.nat (A.add (modI g (A.int (A.lenA x1))) 1)) (A.subN (A.lenA x1) (A.nat (A.add (modI g (A.int (A.lenA x1))) 1))))) ≤ 1000000)), true, true, true, A.and (A.ltN 0 1) (A.eqN 4 4), A.and true (A.ltN 0 (A.len [0, 0, 0, 0])), true, true, true, A.and true (Decidable.decide (List.length (A.appA (A.subA x1 0 (A.subN (A.nat (modI g (A.int (A.lenA x1)))) 0)) (A.subA x1 (A.nat (A.add (modI g (A.int (A.lenA x1))) 1)) (A.subN (A.lenA x1) (A.nat (A.add (modI g (A.int (A.lenA x1))) 1))))) ≤ 1000000)), A.and (A.and true true) (Decidable.decide (List.length (A.appA (A.subA x1 0 (A.subN (A.nat (modI g (A.int (A.lenA x1)))) 0)) (A.subA x1 (A.nat (A.add (modI g (A.int (A.lenA x1))) 1)) (A.subN (A.lenA x1) (A.nat (A.add (modI g (A.int (A.lenA x1))) 1))))) ≤ 1000000)), true, true, A.and (A.and (A.leN (A.addN (A.nat (A.add (modI g (A.int (A.lenA x1))) 1)) (A.subN (A.lenA x1) (A.nat (A.add (modI g (A.int (A.lenA x1))) 1)))) (A.lenA x1)) (A.eqN 3 3)) (A.and (A.eqN 49 49) (A.and (A.eqN 3 3) (A.leN (A.addN (A.lenA (A.subA x1 0 (A.subN (A.nat (modI g (A.int (A.lenA x1)))) 0))) (A.lenA (A.subA x1 (A.nat (A.add (modI g (A.int (A.lenA x1))) 1)) (A.subN (A.lenA x1) (A.nat (A.add (modI g (A.int (A.lenA x1))) 1)))))) 4294967296))), A.and (A.and (A.le 0 (A.add (modI g (A.int (A.lenA x1))) 1)) true) (A.and (A.and (A.leN (A.nat (A.add (modI g (A.int (A.lenA x1))) 1)) (A.lenA x1)) (A.leN (A.lenA x1) (A.lenA x1))) (A.and (A.eqN 3 3) true)), A.inR .i64 (A.add (modI g (A.int (A.lenA x1))) 1), true, true, A.and (A.and (A.leN (A.addN 0 (A.subN (A.nat (modI g (A.int (A.lenA x1)))) 0)) (A.lenA x1)) true) (Decidable.decide (List.length (A.subA x1 0 (A.subN (A.nat (modI g (A.int (A.lenA x1)))) 0)) ≤ 1000000)), A.and (A.and true (A.le 0 (modI g (A.int (A.lenA x1))))) (A.and (A.and (A.leN 0 (A.nat (modI g (A.int (A.lenA x1))))) (A.leN (A.nat (modI g (A.int (A.lenA x1)))) (A.lenA x1))) (A.and (A.eqN 3 3) true)), true, true, true, A.and true (Decidable.decide (1 ≤ A.int (A.lenA x1) ∧ A.int (A.lenA x1) ≤ 1000000000000)), true, true, true, !A.lt (tmV x1 n).2 (ceilI (A.add (A.mul 100 a) (A.mul b n)) 100), true, true, A.and true (Decidable.decide (((0 : Int) < 100 ∧ bigB 100 = true) ∧ -4000000000000000000 ≤ A.add (A.mul 100 a) (A.mul b n) ∧ A.add (A.mul 100 a) (A.mul b n) ≤ 4000000000000000000)), true, A.and (A.ltN 0 1) (A.ltN 1 2), true, !A.lt (floorI (A.add (A.mul 100 a) (A.mul b n)) 100) (tmV x1 n).1, true, true, true, A.and true (Decidable.decide (((0 : Int) < 100 ∧ bigB 100 = true) ∧ bigB (A.add (A.mul 100 a) (A.mul b n)) = true)), true, A.and (A.ltN 0 1) (A.ltN 0 2), true, !A.lt 0 (cmpI b 100 (rtV x1).snd.snd.1 (rtV x1).snd.snd.2), true, true, true, A.and true (Decidable.decide ((((0 : Int) < 100 ∧ 0 < (rtV x1).snd.snd.2) ∧ medB b = true ∧ medB 100 = true) ∧ medB (rtV x1).snd.snd.1 = true ∧ medB (rtV x1).snd.snd.2 = true)), A.and (A.ltN 0 1) (A.ltN 3 4), true, true, A.and (A.ltN 0 1) (A.ltN 2 4), true, true, A.and (A.ltN 0 1) (A.ltN 1 4), true, !A.lt 0 (cmpI (rtV x1).1 (rtV x1).snd.1 b 100), true, true, A.and true (Decidable.decide (((0 < (rtV x1).snd.1 ∧ (0 : Int) < 100) ∧ medB (rtV x1).1 = true ∧ medB (rtV x1).snd.1 = true) ∧ medB b = true ∧ medB 100 = true)), A.and (A.ltN 0 1) (A.ltN 1 4), true, A.and (A.ltN 0 1) (A.ltN 1 4), true, true, A.and (A.ltN 0 1) (A.ltN 0 4), true, true, true, A.inR .i64 (A.add (A.mul 100 a) (A.mul b n)), A.inR .i64 (A.mul b n), true, A.and (A.ltN 0 1) (A.ltN 1 4), true, A.inR .i64 (A.mul 100 a), A.and (A.ltN 0 1) (A.ltN 0 4), true, !A.not (A.eq (tmE x1 n) 0), true, true, true, true, true, !A.not (lowI (rtV x1).snd.snd.1 (rtV x1).snd.snd.2), true, true, true, true, true, A.and true (Decidable.decide (bigB (rtV x1).snd.snd.1 = true ∧ bigB (rtV x1).snd.snd.2 = true)), true, A.and (A.ltN 0 1) (A.leN (A.addN 2 2) 4), true, true, !A.not (lowI (rtV x1).1 (rtV x1).snd.1), true, true, true, true, true, A.and true (Decidable.decide (bigB (rtV x1).1 = true ∧ bigB (rtV x1).snd.1 = true)), true, A.and (A.ltN 0 1) (A.leN (A.addN 0 2) 4), true, true, !A.not (A.eq (rtE x1) 0), true, true, true, true, true, true, !A.not (Decidable.decide (List.map prP (pieA x1) = List.map prP [AV.agg (Row.gen [AV.int .i64 0, AV.int .i64 (A.sub (A.int (A.lenA x1)) 1)])])), true, true, true, true, true, A.and (A.and true (A.and true true)) (Decidable.decide (List.length (pieA x1) ≤ 1000000)), true, List.all [AV.agg (Row.gen [AV.int .i64 0, AV.int .i64 (A.sub (A.int (A.lenA x1)) 1)])] fun x => AV.bx x && Nat.beq (flatLen A x) 2, true, A.and (A.and true (A.eqN 1 1)) (A.and (A.leN (A.addN 1 1) 2) (A.and (A.ltN 0 1) true)), true, A.inR .i64 (A.sub (A.int (A.lenA x1)) 1), true, true, true, true, true, true, !A.not (A.eq (chkP x1).2 0), true, true, true, true, A.and (A.ltN 0 1) (A.eqN 2 2), A.and true (A.ltN 0 2), true, true, true, A.and true (Decidable.decide (List.length x1 ≤ 1000000)), true, A.and (A.and true true) (Decidable.decide (List.length x1 ≤ 1000000)), true, true, A.and (A.ltN 0 1) (A.eqN 4 4), A.and true (A.ltN 0 (A.len [0, 0, 0, 0])), true, true, true, A.and true (Decidable.decide (List.length x1 ≤ 1000000)), A.and (A.and true true) (Decidable.decide (List.length x1 ≤ 1000000)), true, true, true, true, true, true, A.and true (Decidable.decide (List.length x1 ≤ 1000000)), A.and (A.and true true) (Decidable.decide (List.length x1 ≤ 1000000)), true, !A.lt n0 (A.int (A.len cs)), true, true, A.and (A.ltN 0 1) (A.ltN 2 4), true, true],
   AV.bool (Decidable.decide (List.map prP (pieA (A.setA x1 (A.nat (A.sub (A.int (A.lenA x1)) 1)) (AV.agg (Row.blit A (Row.gen (viewL [Sh.int .i64, Sh.int .i64, Sh.int .i64] 0 (A.nthA x1 (A.nat (A.sub (A.int (A.lenA x1)) 1))))) 1 (Row.gen [AV.int .i64 (A.add (tmV (A.subA x1 0 (A.subN (A.nat (A.sub (A.int (A.lenA x1)) 1)) 0)) (AV.toI (AV.cellAt (A.nthA x1 (A.nat (A.sub (A.int (A.lenA x1)) 1))) 0))).2 1), AV.int .i64 (A.add (tmV (A.subA x1 0 (A.subN (A.nat (A.sub (A.int (A.lenA x1)) 1)) 0)) (AV.toI (AV.cellAt (A.nthA x1 (A.nat (A.sub (A.int (A.lenA x1)) 1))) 0))).2 1)]))))) = List.map prP [AV.agg (Row.gen [AV.int .i64 0, AV.int .i64 (A.sub (A.sub (A.int (A.lenA x1)) 1) 1)]), AV.agg (Row.gen [AV.int .i64 (A.sub (A.int (A.lenA x1)) 1), AV.int .i64 (A.sub (A.int (A.lenA x1)) 1)])])), none) := by kernel_rfl
end Go.Proofs.Ytjhdnpmojhkbjaa
/- The true clock: pairs around a line. No condition. -/
namespace Go.Proofs.Ytjhdnpmojhkbjaa
theorem chkL_mk : ∀ {ps : List AV} {last : Int} {i : Nat}, (∀ p ∈ ps, okP (pC p) (pL p) (pH p) = true ∧ pL p ≤ pH p ∧ last < pC p) → ps.Pairwise (fun p q => pC p < pC q) → (chkL last i ps).2 = 0
  | [], _, _, _, _ => rfl
  | p :: ps, last, i, h, hp => by
    have h1 := h p List.mem_cons_self
    rw [List.pairwise_cons] at hp
    rw [chkL, if_pos h1.1, if_pos ⟨h1.2.1, h1.2.2⟩]
    exact chkL_mk (fun q hq => ⟨(h q (List.mem_cons_of_mem _ hq)).1, (h q (List.mem_cons_of_mem _ hq)).2.1, hp.1 q hq⟩) hp.2
theorem chkP_mk {ps : List AV} (h : ∀ p ∈ ps, okP (pC p) (pL p) (pH p) = true ∧ pL p ≤ pH p) (hp : ps.Pairwise (fun p q => pC p < pC q)) (h0 : 0 < ps.length) (hl : ps.length ≤ 20) : (chkP ps).2 = 0 := by
  rw [chkP, if_neg (by omega), if_neg (by omega)]
  refine chkL_mk (fun p hpm => ⟨(h p hpm).1, (h p hpm).2, ?_⟩) hp
  have := (h p hpm).1
  simp only [okP, decide_eq_true_eq] at this
  omega
theorem chk_sub {ps qs : List AV} (hc : (chkP ps).2 = 0) (hs : qs.Sublist ps) (h0 : 0 < qs.length) : (chkP qs).2 = 0 := by
  obtain ⟨h1, h2⟩ := chkP_all hc
  have h3 := lo_hi hc
  have h4 := (chkP_ok hc).2.1
  exact chkP_mk (fun p hp => ⟨h1 p (hs.subset hp), h3 p (hs.subset hp)⟩) (h2.sublist hs) h0 (Nat.le_trans hs.length_le h4)
theorem feas_sub {ps qs : List AV} (hs : ∀ p ∈ qs, p ∈ ps) {n s T : Rat} (h : feasL ps n s T) : feasL qs n s T := fun p hp => h p (hs p hp)
theorem feas_line {ps : List AV} (hc : (chkP ps).2 = 0) (h2 : 2 ≤ ps.length) {n s T : Rat} (h : feasL ps n s T) : lineS ps = true := by
  have G := chk_good hc h2
  obtain ⟨h0, h1⟩ := feas_rate G h
  exact (lineS_iff G).2 (Rat.le_trans h0 h1)
theorem feas_lnE {ps : List AV} (hc : (chkP ps).2 = 0) (h2 : 2 ≤ ps.length) {n s T : Rat} (h : feasL ps n s T) : lnE ps = 0 := by
  rw [lnE, if_pos hc, if_neg (by omega), if_pos (feas_line hc h2 h)]
theorem rate_ind {ps : List AV} (hq : allQ ps) (h2 : 2 ≤ ps.length) (A B : Int → Int → Prop) (hA : ∀ q ∈ ps, ∀ p ∈ ps, okQ q p → A (lN (pL q - pH p) (pC q - pC p)) (lD (pL q - pH p) (pC q - pC p))) (hB : ∀ q ∈ ps, ∀ p ∈ ps, okQ q p → B (lN (pH q - pL p) (pC q - pC p)) (lD (pH q - pL p) (pC q - pC p))) : A (rateP ps).1 (rateP ps).2.1 ∧ B (rateP ps).2.2.1 (rateP ps).2.2.2 := by
  have hm : ∀ s n : R4, A s.1 s.2.1 ∧ B s.2.2.1 s.2.2.2 → A n.1 n.2.1 ∧ B n.2.2.1 n.2.2.2 → A (rmrg s n).1 (rmrg s n).2.1 ∧ B (rmrg s n).2.2.1 (rmrg s n).2.2.2 := fun s n hs hn => by
    unfold rmrg
    split <;> split <;> first | exact hn | exact hs | exact ⟨hn.1, hs.2⟩ | exact ⟨hs.1, hn.2⟩
  have hin : ∀ (q : AV) (l : List AV) (s : R4), q ∈ ps → (∀ p ∈ l, p ∈ ps ∧ okQ q p) → A s.1 s.2.1 ∧ B s.2.2.1 s.2.2.2 → A (rinP q s l).1 (rinP q s l).2.1 ∧ B (rinP q s l).2.2.1 (rinP q s l).2.2.2 := by
    intro q l
    induction l with
    | nil => intro s _ _ h; exact h
    | cons p l ih =>
      intro s hqm hl hs
      have hp := hl p List.mem_cons_self
      rw [rinP]
      exact ih _ hqm (fun x hx => hl x (List.mem_cons_of_mem _ hx)) (hm _ _ hs ⟨hA q hqm p hp.1 hp.2, hB q hqm p hp.1 hp.2⟩)
  have hgo : ∀ (d i : Nat) (s : R4), i + d = ps.length → A s.1 s.2.1 ∧ B s.2.2.1 s.2.2.2 → A (rgoP ps d i s).1 (rgoP ps d i s).2.1 ∧ B (rgoP ps d i s).2.2.1 (rgoP ps d i s).2.2.2 := by
    intro d
    induction d with
    | zero => intro i s _ h; exact h
    | succ d ih =>
      intro i s hi hs
      have hlt : i < ps.length := by omega
      have e : ps.getD i (.int .i64 0) = ps[i] := by simp [hlt]
      have ht := rtake hq hlt
      rw [rgoP]
      rw [e] at ht ⊢
      exact ih (i + 1) _ (by omega) (hin _ _ _ (by simp) (fun p hp => ⟨List.mem_of_mem_take hp, ht p hp⟩) hs)
  have h0 : 0 < ps.length := by omega
  have h1 : 1 < ps.length := by omega
  have e1 : ps.getD 1 (.int .i64 0) = ps[1] := by simp [h1]
  have e0 : ps.getD 0 (.int .i64 0) = ps[0] := by simp [h0]
  have hok := hq 1 0 h1 (by omega)
  rw [e1, e0] at hok
  rw [rateP, e1, e0]
  exact hgo _ _ _ (by omega) ⟨hA _ (by simp) _ (by simp) hok, hB _ (by simp) _ (by simp) hok⟩
theorem low_gcd (n : Int) {d : Int} (hd : 0 < d) : (Int.gcd (lN n d) (lD n d) : Int) = 1 := by
  unfold lN lD
  obtain ⟨n', hn⟩ : ((Int.gcd n d : Nat) : Int) ∣ n := Int.gcd_dvd_left _ _
  obtain ⟨d', hd'⟩ : ((Int.gcd n d : Nat) : Int) ∣ d := Int.gcd_dvd_right _ _
  have hg : 0 < Int.gcd n d := by
    rcases Nat.eq_zero_or_pos (Int.gcd n d) with h | h
    · rw [h] at hd'; omega
    · exact h
  have hg2 : ((Int.gcd n d : Nat) : Int) ≠ 0 := by omega
  have key : Int.gcd n d = Int.gcd n d * Int.gcd n' d' := by
    have h := Int.gcd_mul_left ((Int.gcd n d : Nat) : Int) n' d'
    rw [← hn, ← hd'] at h
    simpa using h
  generalize Int.gcd n d = g at *
  subst hn
  subst hd'
  rw [Int.mul_tdiv_cancel_left _ hg2, Int.mul_tdiv_cancel_left _ hg2]
  have : Int.gcd n' d' = 1 := Nat.eq_of_mul_eq_mul_left hg (by omega)
  rw [this]; rfl
theorem rate_low {ps : List AV} (hc : (chkP ps).2 = 0) (h2 : 2 ≤ ps.length) : lowI (rateP ps).1 (rateP ps).2.1 = true ∧ lowI (rateP ps).2.2.1 (rateP ps).2.2.2 = true := by
  have h := rate_ind (chkP_ok hc).2.2 h2 (fun a b => lowI a b = true) (fun a b => lowI a b = true)
    (fun q _ p _ hok => decide_eq_true ⟨(low_rng _ hok.1.1).2.1, low_gcd _ hok.1.1⟩) (fun q _ p _ hok => decide_eq_true ⟨(low_rng _ hok.1.1).2.1, low_gcd _ hok.1.1⟩)
  exact h
theorem rate_small {ps : List AV} (hc : (chkP ps).2 = 0) (h2 : 2 ≤ ps.length) (hs : ∀ p ∈ ps, pL p ≤ 1000000000 ∧ pH p ≤ 1000000000) : smR (rateP ps) = true := by
  have hp := (chkP_all hc).1
  have h := rate_ind (chkP_ok hc).2.2 h2 (fun a _ => -1000000000 ≤ a ∧ a ≤ 1000000000) (fun a _ => -1000000000 ≤ a ∧ a ≤ 1000000000)
    (fun q hq p hpm hok => by
      have r := (low_rng (pL q - pH p) hok.1.1).1
      have a := hs q hq; have b := hs p hpm; have c := hp q hq; have d := hp p hpm
      simp only [okP, decide_eq_true_eq] at c d
      omega)
    (fun q hq p hpm hok => by
      have r := (low_rng (pH q - pL p) hok.1.1).1
      have a := hs q hq; have b := hs p hpm; have c := hp q hq; have d := hp p hpm
      simp only [okP, decide_eq_true_eq] at c d
      omega)
  rw [smR, decide_eq_true h.1, decide_eq_true h.2]; rfl
theorem rt_ok {ps : List AV} (hc : (chkP ps).2 = 0) (h2 : 2 ≤ ps.length) (hs : ∀ p ∈ ps, pL p ≤ 1000000000 ∧ pH p ≤ 1000000000) {n s T : Rat} (h : feasL ps n s T) : rtE ps = 0 ∧ rtV ps = rateP ps := by
  have e : rtE ps = 0 := by rw [rtE, if_pos hc, if_neg (by omega), if_pos (feas_line hc h2 h), if_pos (rate_small hc h2 hs)]
  exact ⟨e, by rw [rtV, if_pos e]⟩
theorem rate_wide {ps qs : List AV} (G : Good2 ps) (G' : Good2 qs) (hs : ∀ p ∈ qs, p ∈ ps) : r0Q qs ≤ r0Q ps ∧ r1Q ps ≤ r1Q qs := by
  obtain ⟨q, hq, p, hp, hlt, e⟩ := G'.lo1
  obtain ⟨q', hq', p', hp', hlt', e'⟩ := G'.hi1
  rw [e, e']
  exact ⟨G.lo2 q (hs q hq) p (hs p hp) hlt, G.hi2 q' (hs q' hq') p' (hs p' hp') hlt'⟩
theorem time_wide {ps qs : List AV} {n lo hi lo' hi' : Int} (h : TimeS ps n lo hi) (h' : TimeS qs n lo' hi') (hs : ∀ p ∈ qs, p ∈ ps) : lo' ≤ lo ∧ hi ≤ hi' := by
  obtain ⟨s, T, hf, i1⟩ := h.atLo
  obtain ⟨s', T', hf', i2⟩ := h.atHi
  exact ⟨(i1 _).2 (h'.enc s T (feas_sub hs hf)).1, (i2 _).2 (h'.enc s' T' (feas_sub hs hf')).2⟩
theorem pcs_one {ps : List AV} (h : ∀ k, 2 ≤ k → k ≤ ps.length → lineB (ps.take k) = true) : ∀ (n i : Nat), 1 ≤ i → i + n = ps.length → pcsP ps n 0 i = [(0, (ps.length : Int) - 1)]
  | 0, i, h1, hi => by rw [pcsP]; have : i = ps.length := by omega
                       rw [this]; rfl
  | n + 1, i, h1, hi => by
    rw [pcsP, List.drop_zero, Nat.sub_zero, if_pos (h (i + 1) (by omega) (by omega))]
    exact pcs_one h n (i + 1) (by omega) (by omega)
theorem pcs_two {ps : List AV} (h2 : 2 ≤ ps.length) (h : ∀ k, 2 ≤ k → k < ps.length → lineB (ps.take k) = true) (hn : lineB ps ≠ true) : ∀ (n i : Nat), 1 ≤ i → i + (n + 1) = ps.length → pcsP ps (n + 1) 0 i = [(0, (ps.length : Int) - 2), ((ps.length : Int) - 1, (ps.length : Int) - 1)]
  | 0, i, h1, hi => by
    have ht : ps.take (i + 1) = ps := List.take_of_length_le (by omega)
    rw [pcsP, List.drop_zero, Nat.sub_zero, ht, if_neg hn, pcsP]
    have : (ps.length : Int) = i + 1 := by omega
    rw [this]
    simp only [List.cons.injEq, Prod.mk.injEq, and_true]
    refine ⟨⟨rfl, by omega⟩, by omega, by omega⟩
  | n + 1, i, h1, hi => by
    rw [pcsP, List.drop_zero, Nat.sub_zero, if_pos (h (i + 1) (by omega) (by omega))]
    exact pcs_two h2 h hn n (i + 1) (by omega) (by omega)
theorem take_line {ps : List AV} (hc : (chkP ps).2 = 0) {n s T : Rat} (hf : feasL ps n s T) (k : Nat) (h2 : 2 ≤ k) (hk : k ≤ ps.length) : lineB (ps.take k) = true := by
  have hl : (ps.take k).length = k := by rw [List.length_take]; omega
  have h1 := feas_line (ps := ps.take k) (chk_sub hc (List.take_sublist k ps) (by omega)) (by omega) (feas_sub (fun p hp => List.mem_of_mem_take hp) hf)
  rw [lineB, Bool.or_eq_true]; exact .inr h1
theorem pie_one {ps : List AV} (hc : (chkP ps).2 = 0) (h2 : 2 ≤ ps.length) {n s T : Rat} (hf : feasL ps n s T) : pieA ps = [mkR (0, (ps.length : Int) - 1)] := by
  rw [pieA, if_pos hc, pcs_one (fun k a b => take_line hc hf k a b) _ _ (by omega) (by omega)]; rfl
end Go.Proofs.Ytjhdnpmojhkbjaa
/- FrameEncloses: the law returns true. No condition. -/
namespace Go.Proofs.Ytjhdnpmojhkbjaa
set_option maxRecDepth 20000
def farP (q : AV) (v : Int) : AV := .agg (.gen [.int .i64 (pC q), .int .i64 v, .int .i64 v])
theorem far_piece {ini : List AV} {q : AV} (hc : (chkP (ini ++ [q])).2 = 0) (h2 : 2 ≤ ini.length) {n s T : Rat} (hf : feasL (ini ++ [q]) n s T) {lo hi : Int} (ht : TimeS ini (pC q) lo hi) (hv : 0 ≤ hi + 1 ∧ hi + 1 ≤ 1000000000000) :
    (chkP (ini ++ [farP q (hi + 1)])).2 = 0 ∧ pieA (ini ++ [farP q (hi + 1)]) = [mkR (0, (ini.length : Int) - 1), mkR ((ini.length : Int), (ini.length : Int))] := by
  obtain ⟨ha, hasc⟩ := chkP_all hc
  have hlo := lo_hi hc
  have hl := (chkP_ok hc).2.1
  rw [List.length_append, List.length_singleton] at hl
  have hq := ha q (by simp)
  rw [List.pairwise_append] at hasc
  have e0 : pC (farP q (hi + 1)) = pC q := rfl
  have e1 : pL (farP q (hi + 1)) = hi + 1 := rfl
  have e2 : pH (farP q (hi + 1)) = hi + 1 := rfl
  have hcf : (chkP (ini ++ [farP q (hi + 1)])).2 = 0 := by
    refine chkP_mk (fun p hp => ?_) ?_ (by simp) (by rw [List.length_append, List.length_singleton]; exact hl)
    · rcases List.mem_append.1 hp with hp | hp
      · exact ⟨ha p (by simp [hp]), hlo p (by simp [hp])⟩
      · rw [List.mem_singleton] at hp
        subst hp
        rw [e0, e1, e2]
        simp only [okP, decide_eq_true_eq] at hq ⊢
        omega
    · rw [List.pairwise_append]
      refine ⟨hasc.1, by simp, fun p hp x hx => ?_⟩
      rw [List.mem_singleton] at hx
      subst hx
      rw [e0]; exact hasc.2.2 p hp q (by simp)
  have hlf : (ini ++ [farP q (hi + 1)]).length = ini.length + 1 := by simp
  refine ⟨hcf, ?_⟩
  have hno : lineB (ini ++ [farP q (hi + 1)]) ≠ true := by
    intro hb
    have hs : lineS (ini ++ [farP q (hi + 1)]) = true := by
      rw [lineB, Bool.or_eq_true, decide_eq_true_eq] at hb
      rcases hb with hb | hb
      · omega
      · exact hb
    have hln : lnE (ini ++ [farP q (hi + 1)]) = 0 := by rw [lnE, if_pos hcf, if_neg (by omega), if_pos hs]
    obtain ⟨lo2, hi2, hT⟩ := time_same hln (pC q)
    obtain ⟨s2, T2, hf2, _⟩ := hT.atLo
    have h3 := at_pair hf2 (p := farP q (hi + 1)) (by simp) rfl
    have h4 := (ht.enc s2 T2 (feas_sub (fun p hp => by simp [hp]) hf2)).2
    have h5 : lQ (farP q (hi + 1)) = ((hi + 1 : Int) : Rat) := rfl
    rw [h5] at h3
    have h6 := castQ.1 (Rat.le_trans h3.1 h4)
    omega
  have hpre : ∀ k, 2 ≤ k → k < (ini ++ [farP q (hi + 1)]).length → lineB ((ini ++ [farP q (hi + 1)]).take k) = true := fun k h3 h4 => by
    have e3 : (ini ++ [farP q (hi + 1)]).take k = (ini ++ [q]).take k := by
      rw [List.take_append_of_le_length (by omega), List.take_append_of_le_length (by omega)]
    rw [e3]
    exact take_line hc hf k h3 (by rw [List.length_append, List.length_singleton]; omega)
  rw [pieA, if_pos hcf, hlf, show ini.length + 1 - 1 = (ini.length - 1) + 1 by omega, pcs_two (by omega) hpre hno (ini.length - 1) 1 (by omega) (by omega), hlf]
  simp only [List.map_cons, List.map_nil, List.cons.injEq, and_true]
  constructor
  · congr 2; omega
  · congr 2 <;> omega
structure Around (a b : Int) (p : AV) : Prop where
  c : 0 ≤ pC p ∧ pC p ≤ 100000
  l : 0 ≤ pL p
  h : pH p ≤ 1000000000
  lo : pL p ≤ floorI (100 * a + b * pC p) 100
  hi : ceilI (100 * a + b * pC p) 100 ≤ pH p
theorem big_N {a b c : Int} (ha : 1000 ≤ a ∧ a ≤ 1000000) (hb : 0 ≤ b ∧ b ≤ 100000) (hc : 0 ≤ c ∧ c ≤ 100000) : 0 ≤ b * c ∧ b * c ≤ 10000000000 ∧ (1000 ≤ floorI (100 * a + b * c) 100 ∧ floorI (100 * a + b * c) 100 ≤ 101000000) ∧ (1000 ≤ ceilI (100 * a + b * c) 100 ∧ ceilI (100 * a + b * c) 100 ≤ 101000000) := by
  have h0 : 0 ≤ b * c := Int.mul_nonneg hb.1 hc.1
  have h1 := mulB (x := b) (y := c) (A := 100000) (B := 100000) (by omega) (by omega) (by omega) (by omega)
  have h2 := floorI_rng (100 * a + b * c) (d := 100) (by omega)
  have h3 := floorI_rng (-(100 * a + b * c)) (d := 100) (by omega)
  unfold ceilI
  omega
theorem around_mk {a b c w : Int} (ha : 1000 ≤ a ∧ a ≤ 1000000) (hb : 0 ≤ b ∧ b ≤ 100000) (hc : 0 ≤ c ∧ c ≤ 100000) (hw : 0 ≤ w ∧ w ≤ 1000) : Around a b (.agg (.gen [.int .i64 c, .int .i64 (floorI (100 * a + b * c) 100 - w), .int .i64 (ceilI (100 * a + b * c) 100 + w)])) := by
  have h := big_N ha hb hc
  refine ⟨hc, ?_, ?_, ?_, ?_⟩
  · show 0 ≤ floorI (100 * a + b * c) 100 - w; omega
  · show ceilI (100 * a + b * c) 100 + w ≤ 1000000000; omega
  · show floorI (100 * a + b * c) 100 - w ≤ floorI (100 * a + b * c) 100; omega
  · show ceilI (100 * a + b * c) 100 ≤ ceilI (100 * a + b * c) 100 + w; omega
theorem floor_ceil (m : Int) {d : Int} (hd : 0 < d) : floorI m d ≤ ceilI m d := by
  have h1 := (floorQ (m := m) hd _).1 (Int.le_refl _)
  have h2 := (ceilQ (m := m) hd _).1 (Int.le_refl _)
  exact castQ.1 (Rat.le_trans h1 h2)
theorem around_chk {a b : Int} {ps : List AV} (h : ∀ p ∈ ps, Around a b p) (hp : ps.Pairwise (fun p q => pC p < pC q)) (h0 : 0 < ps.length) (hl : ps.length ≤ 20) : (chkP ps).2 = 0 := by
  refine chkP_mk (fun p hpm => ?_) hp h0 hl
  have A := h p hpm
  have := floor_ceil (100 * a + b * pC p) (d := 100) (by omega)
  have := A.c; have := A.l; have := A.h; have := A.lo; have := A.hi
  simp only [okP, decide_eq_true_eq]
  omega
theorem around_feas {a b : Int} {ps : List AV} (h : ∀ p ∈ ps, Around a b p) (n : Int) : feasL ps n ((b : Rat) / 100) (((100 * a + b * n : Int) : Rat) / ((100 : Int) : Rat)) := fun p hp => by
  have A := h p hp
  have e : ((100 * a + b * n : Int) : Rat) / ((100 : Int) : Rat) + (b : Rat) / 100 * (cQ p - n) = ((100 * a + b * pC p : Int) : Rat) / ((100 : Int) : Rat) := by
    unfold cQ; push_cast; grind
  rw [e]
  have h1 := (floorQ (m := 100 * a + b * pC p) (d := 100) (by omega) _).1 A.lo
  have h2 := (ceilQ (m := 100 * a + b * pC p) (d := 100) (by omega) _).1 A.hi
  exact ⟨h1, h2⟩
theorem rates_num {ps : List AV} (hc : (chkP ps).2 = 0) (h2 : 2 ≤ ps.length) : (((-1000000000000 ≤ (rateP ps).1 ∧ (rateP ps).1 ≤ 1000000000000) ∧ 0 < (rateP ps).2.1 ∧ (rateP ps).2.1 ≤ 1000000)) ∧ ((-1000000000000 ≤ (rateP ps).2.2.1 ∧ (rateP ps).2.2.1 ≤ 1000000000000) ∧ 0 < (rateP ps).2.2.2 ∧ (rateP ps).2.2.2 ≤ 1000000) :=
  (chk_good hc h2).rng
theorem cmp_le {n d m k : Int} (hd : 0 < d) (hk : 0 < k) (h : qd n d ≤ qd m k) : ¬ 0 < cmpI n d m k := by
  have h1 := cmp_pos n d m k
  have h2 := ltF_Q (a := m) (b := k) (c := n) (d := d) hk hd
  intro hc
  rw [decide_eq_true hc] at h1
  exact h2.1 h1.symm h
theorem cmp_ge {n d m k : Int} (hd : 0 < d) (hk : 0 < k) (h : qd m k ≤ qd n d) : ¬ cmpI n d m k < 0 := by
  have h1 := cmp_neg n d m k
  have h2 := ltF_Q (a := n) (b := d) (c := m) (d := k) hd hk
  intro hc
  rw [decide_eq_true hc] at h1
  exact h2.1 h1.symm h
theorem medR {ps : List AV} (hc : (chkP ps).2 = 0) (h2 : 2 ≤ ps.length) : medB (rateP ps).1 = true ∧ medB (rateP ps).2.1 = true ∧ medB (rateP ps).2.2.1 = true ∧ medB (rateP ps).2.2.2 = true ∧ bigB (rateP ps).1 = true ∧ bigB (rateP ps).2.1 = true ∧ bigB (rateP ps).2.2.1 = true ∧ bigB (rateP ps).2.2.2 = true := by
  have := rates_num hc h2
  simp only [medB, bigB, decide_eq_true_eq]
  omega
theorem lencl {C : Ctx} (hC : C.P = Try.prog) (a b : Int) (cs ws : List Int) (n g : Int) (x1 : List AV) (ha : 1000 ≤ a ∧ a ≤ 1000000) (hb : 0 ≤ b ∧ b ≤ 100000) (hn : 0 ≤ n ∧ n ≤ 100000) (h3 : 3 ≤ x1.length) (h10 : x1.length ≤ 10) (hcl : cs.length = x1.length) (hA : ∀ p ∈ x1, Around a b p) (hasc : x1.Pairwise (fun p q => pC p < pC q)) :
    Ev C (f8h8_0b a b cs ws n g cs.length x1) (f8h8_0bm a b cs ws n g cs.length x1) (FinQ 8 (.bool true) none) := by
  have hl : x1.length ≤ 1000000 := by omega
  have hc := around_chk hA hasc (by omega) (by omega)
  have hf := fun m => around_feas hA m
  have hsm : ∀ p ∈ x1, pL p ≤ 1000000000 ∧ pH p ≤ 1000000000 := fun p hp => by
    have A := hA p hp
    have := floor_ceil (100 * a + b * pC p) (d := 100) (by omega)
    have := A.h; have := A.lo; have := A.hi
    omega
  have hrt := rt_ok hc (by omega) hsm (hf n)
  have hlow := rate_low hc (by omega)
  have hmed := medR hc (by omega)
  have hrn := rates_num hc (by omega)
  have G := chk_good hc (by omega)
  have hln := feas_lnE hc (by omega) (hf n)
  obtain ⟨lo, hi, hT⟩ := time_same hln n
  have htE : tmE x1 n = 0 := by rw [tmE, if_pos hln, if_pos (by omega)]
  have htV : tmV x1 n = (lo, hi) := by rw [tmV, if_pos htE, hT.prog]
  have hpie := pie_one hc (by omega) (hf n)
  obtain ⟨hr0, hr1⟩ := feas_rate G (hf n)
  have hbq : (b : Rat) / 100 = qd b 100 := rfl
  rw [hbq] at hr0 hr1
  have hN := big_N ha hb hn
  have henc := hT.enc _ _ (hf n)
  have hlo : lo ≤ floorI (100 * a + b * n) 100 := (floorQ (by omega) _).2 henc.1
  have hhi : ceilI (100 * a + b * n) 100 ≤ hi := (ceilQ (by omega) _).2 henc.2
  -- the index that goes
  obtain ⟨K, hK⟩ : ∃ K : Nat, modI g (x1.length : Int) = K ∧ K < x1.length := by
    have h1 := Int.lt_tmod_of_pos g (show 0 < (x1.length : Int) by omega)
    have h2 := Int.tmod_lt_of_pos g (show 0 < (x1.length : Int) by omega)
    have : 0 ≤ modI g (x1.length : Int) ∧ modI g (x1.length : Int) < x1.length := by
      unfold modI
      split <;> omega
    exact ⟨(modI g (x1.length : Int)).toNat, by omega, by omega⟩
  have eLess : std.appA (std.subA x1 0 (std.subN (std.nat (modI g (std.int (std.lenA x1)))) 0)) (std.subA x1 (std.nat (std.add (modI g (std.int (std.lenA x1))) 1)) (std.subN (std.lenA x1) (std.nat (std.add (modI g (std.int (std.lenA x1))) 1)))) = x1.take K ++ x1.drop (K + 1) := by
    have e1 : std.int (std.lenA x1) = (x1.length : Int) := by simp
    rw [e1, hK.1]
    have e2 : std.nat (K : Int) = K := rfl
    have e3 : std.nat (std.add (K : Int) 1) = K + 1 := by simp
    rw [e2, e3]
    simp only [s_appA, s_subA, s_subN, s_lenA, List.drop_zero, Nat.sub_zero]
    have e4 : List.take (x1.length - (K + 1)) (x1.drop (K + 1)) = x1.drop (K + 1) := List.take_of_length_le (by rw [List.length_drop]; exact Nat.le_refl _)
    rw [e4]
  obtain ⟨less, hless⟩ : ∃ less, less = x1.take K ++ x1.drop (K + 1) := ⟨_, rfl⟩
  have hsubl : less.Sublist x1 := by rw [hless, ← List.eraseIdx_eq_take_drop_succ]; exact List.eraseIdx_sublist x1 K
  have hll : less.length = x1.length - 1 := by rw [hless, List.length_append, List.length_take, List.length_drop]; omega
  have hcL := chk_sub hc hsubl (by omega)
  have hfL := feas_sub (fun p hp => hsubl.subset hp) (hf n)
  have hrtL := rt_ok hcL (by omega) (fun p hp => hsm p (hsubl.subset hp)) hfL
  have hlowL := rate_low hcL (by omega)
  have hmedL := medR hcL (by omega)
  have hrnL := rates_num hcL (by omega)
  have hlnL := feas_lnE hcL (by omega) hfL
  obtain ⟨lo', hi', hT'⟩ := time_same hlnL n
  have htEL : tmE less n = 0 := by rw [tmE, if_pos hlnL, if_pos (by omega)]
  have htVL : tmV less n = (lo', hi') := by rw [tmV, if_pos htEL, hT'.prog]
  have hwide := time_wide hT hT' (fun p hp => hsubl.subset hp)
  have hrw := rate_wide G (chk_good hcL (by omega)) (fun p hp => hsubl.subset hp)
  rw [← hless] at eLess
  -- the last pair
  have hlast : x1.length - 1 < x1.length := by omega
  have hsplit : x1 = x1.take (x1.length - 1) ++ [x1[x1.length - 1]] := by
    rw [← List.take_succ_eq_append_getElem hlast, show x1.length - 1 + 1 = x1.length by omega, List.take_length]
  have eI : std.subA x1 0 (std.subN (std.nat (std.sub (std.int (std.lenA x1)) 1)) 0) = x1.take (x1.length - 1) := by
    have : std.nat (std.sub (std.int (std.lenA x1)) 1) = x1.length - 1 := by simp <;> omega
    rw [this]; simp
  have eQ : std.nthA x1 (std.nat (std.sub (std.int (std.lenA x1)) 1)) = x1[x1.length - 1] := by
    have : std.nat (std.sub (std.int (std.lenA x1)) 1) = x1.length - 1 := by simp <;> omega
    rw [this]; simp [hlast]
  have hQm : x1[x1.length - 1] ∈ x1 := by simp
  have hQc := (hA _ hQm).c
  have gC : (x1[x1.length - 1].cellAt 0).toI = pC x1[x1.length - 1] := rfl
  obtain ⟨ini, hini⟩ : ∃ ini, ini = x1.take (x1.length - 1) := ⟨_, rfl⟩
  obtain ⟨q, hq⟩ : ∃ q, q = x1[x1.length - 1] := ⟨_, rfl⟩
  rw [← hini] at eI hsplit
  rw [← hq] at eQ hsplit hQc gC
  have hinil : ini.length = x1.length - 1 := by rw [hini, List.length_take]; omega
  have hsubI : ini.Sublist x1 := by rw [hini]; exact List.take_sublist _ _
  have hcI := chk_sub hc hsubI (by omega)
  have hfI := feas_sub (fun p hp => hsubI.subset hp) (hf n)
  have hlnI := feas_lnE hcI (by omega) hfI
  obtain ⟨loI, hiI, hTI⟩ := time_same hlnI (pC q)
  have htEI : tmE ini (pC q) = 0 := by rw [tmE, if_pos hlnI, if_pos (by omega)]
  have htVI : tmV ini (pC q) = (loI, hiI) := by rw [tmV, if_pos htEI, hTI.prog]
  have c1 : ((0 < (rateP x1).2.1 ∧ (0 : Int) < 100) ∧ medB (rateP x1).1 = true ∧ medB (rateP x1).2.1 = true) ∧ medB b = true ∧ medB 100 = true := ⟨⟨⟨hrn.1.2.1, by omega⟩, hmed.1, hmed.2.1⟩, by simp only [medB, decide_eq_true_eq]; omega, rfl⟩
  have c2 : (((0 : Int) < 100 ∧ 0 < (rateP x1).2.2.2) ∧ medB b = true ∧ medB 100 = true) ∧ medB (rateP x1).2.2.1 = true ∧ medB (rateP x1).2.2.2 = true := ⟨⟨⟨by omega, hrn.2.2.1⟩, by simp only [medB, decide_eq_true_eq]; omega, rfl⟩, hmed.2.2.1, hmed.2.2.2.1⟩
  have c3 : ((0 : Int) < 100 ∧ bigB 100 = true) ∧ bigB (100 * a + b * n) = true := ⟨⟨by omega, rfl⟩, by simp only [bigB, decide_eq_true_eq]; omega⟩
  have c4 : ((0 : Int) < 100 ∧ bigB 100 = true) ∧ -4000000000000000000 ≤ 100 * a + b * n ∧ 100 * a + b * n ≤ 4000000000000000000 := ⟨⟨by omega, rfl⟩, by omega⟩
  have c5 : ((0 < (rateP less).2.1 ∧ 0 < (rateP x1).2.1) ∧ medB (rateP less).1 = true ∧ medB (rateP less).2.1 = true) ∧ medB (rateP x1).1 = true ∧ medB (rateP x1).2.1 = true := ⟨⟨⟨hrnL.1.2.1, hrn.1.2.1⟩, hmedL.1, hmedL.2.1⟩, hmed.1, hmed.2.1⟩
  have c6 : ((0 < (rateP less).2.2.2 ∧ 0 < (rateP x1).2.2.2) ∧ medB (rateP less).2.2.1 = true ∧ medB (rateP less).2.2.2 = true) ∧ medB (rateP x1).2.2.1 = true ∧ medB (rateP x1).2.2.2 = true := ⟨⟨⟨hrnL.2.2.1, hrn.2.2.1⟩, hmedL.2.2.1, hmedL.2.2.2.1⟩, hmed.2.2.1, hmed.2.2.2.1⟩
  have m1 := cmp_le hrn.1.2.1 (by omega : (0 : Int) < 100) hr0
  have m2 := cmp_le (by omega : (0 : Int) < 100) hrn.2.2.1 hr1
  have m3 := cmp_le hrnL.1.2.1 hrn.1.2.1 hrw.1
  have m4 := cmp_ge hrnL.2.2.1 hrn.2.2.1 hrw.2
  have b1 : bigB (rateP x1).1 = true ∧ bigB (rateP x1).2.1 = true := ⟨hmed.2.2.2.2.1, hmed.2.2.2.2.2.1⟩
  have b2 : bigB (rateP x1).2.2.1 = true ∧ bigB (rateP x1).2.2.2 = true := ⟨hmed.2.2.2.2.2.2.1, hmed.2.2.2.2.2.2.2⟩
  have b3 : bigB (rateP less).1 = true ∧ bigB (rateP less).2.1 = true := ⟨hmedL.2.2.2.2.1, hmedL.2.2.2.2.2.1⟩
  have b4 : bigB (rateP less).2.2.1 = true ∧ bigB (rateP less).2.2.2 = true := ⟨hmedL.2.2.2.2.2.2.1, hmedL.2.2.2.2.2.2.2⟩
  have hcI' : 1 ≤ (x1.length : Int) ∧ (x1.length : Int) ≤ 1000000000000 := by omega
  have z1 : bigB 100 = true := rfl
  have z2 : prP (mkR (0, (x1.length : Int) - 1)) = prP (AV.agg (Row.gen [AV.int .i64 0, AV.int .i64 ((x1.length : Int) - 1)])) := rfl
  by_cases hv : 0 ≤ hiI ∧ hiI ≤ 999999999999
  · have hfar := far_piece (ini := ini) (q := q) (by rw [← hsplit]; exact hc) (by omega) (by rw [← hsplit]; exact hf n) hTI (by omega)
    have eB : ∀ v : Int, AV.agg (Row.blit std (Row.gen (viewL [Sh.int .i64, Sh.int .i64, Sh.int .i64] 0 q)) 1 (Row.gen [AV.int .i64 v, AV.int .i64 v])) = farP q v := fun v => rfl
    have eS : ∀ y, std.setA x1 (std.nat (std.sub (std.int (std.lenA x1)) 1)) y = ini ++ [y] := fun y => by
      have e5 : std.nat (std.sub (std.int (std.lenA x1)) 1) = x1.length - 1 := by simp <;> omega
      rw [e5, s_setA, List.set_eq_take_append_cons_drop, if_pos hlast, ← hini, List.drop_of_length_le (by omega)]
    refine fin hC BEb_ok (f8p18 std a b cs ws n g _ x1) ?_ ?_ rfl
    · simp only [eLess, eI, eQ, gC]
      simp only [htVI, htEI, htE, htV, htEL, htVL, hrt.1, hrt.2, hrtL.1, hrtL.2, hlow.1, hlow.2, hlowL.1, hlowL.2, hpie, s_add, s_mul, eB, eS, hfar.1, hfar.2, decide_eq_true c1, decide_eq_true c2, decide_eq_true c3, decide_eq_true c4, decide_eq_true c5, decide_eq_true c6, decide_eq_true b1, decide_eq_true b2, decide_eq_true b3, decide_eq_true b4, decide_eq_true hv, m1, m2, m3, m4]
      simp [z1, z2, c3.2, hc, hcI']
      omega
    · simp only [eI, eQ, gC]
      simp only [htVI, s_add, eB, eS, hfar.2]
      have e6 : ((x1.length : Int) - 1 - 1) = (ini.length : Int) - 1 := by omega
      have e7 : ((x1.length : Int) - 1) = (ini.length : Int) := by omega
      simp [e6, e7]
      exact ⟨rfl, rfl⟩
  · refine fin hC BEb_ok (f8p17 std a b cs ws n g _ x1) ?_ ?_ rfl
    · simp only [eLess, eI, eQ, gC]
      simp only [htVI, htEI, htE, htV, htEL, htVL, hrt.1, hrt.2, hrtL.1, hrtL.2, hlow.1, hlow.2, hlowL.1, hlowL.2, hpie, s_add, s_mul, decide_eq_true c1, decide_eq_true c2, decide_eq_true c3, decide_eq_true c4, decide_eq_true c5, decide_eq_true c6, decide_eq_true b1, decide_eq_true b2, decide_eq_true b3, decide_eq_true b4, decide_eq_false hv, m1, m2, m3, m4]
      simp [z1, z2, c3.2, hc, hcI']
      omega
    · simp only [eI, eQ, gC, htEI]; simp
end Go.Proofs.Ytjhdnpmojhkbjaa
