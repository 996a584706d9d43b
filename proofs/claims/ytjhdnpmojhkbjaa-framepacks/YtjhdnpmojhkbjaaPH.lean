/- Paths of functions, printed by the explorer (Gx). No condition. -/
import Derived.Test.YtjhdnpmojhkbjaaA5
import Derived.KernelRfl
namespace Go.Proofs.Ytjhdnpmojhkbjaa
set_option maxRecDepth 100000
set_option linter.unusedVariables false
def f30e (a : Int) (b : Int) (ds : List Int) : List AFrame := [{ fn := 30, N := 22, env := [(0, AV.agg (Row.gen [AV.int .i64 a, AV.int .i64 b, AV.list (.ints .i64 ds)]))], todo := [.code a30.code], defs := [], rnd := none, ret := false, res := [ARes.tmp 2] }]
theorem f30e_at (a : Int) (b : Int) (ds : List Int) : enterA tab 30 [AV.agg (Row.gen [AV.int .i64 a, AV.int .i64 b, AV.list (.ints .i64 ds)])] = some { fn := 30, N := 22, env := [(0, AV.agg (Row.gen [AV.int .i64 a, AV.int .i64 b, AV.list (.ints .i64 ds)]))], todo := [.code a30.code], defs := [], rnd := none, ret := false, res := [ARes.tmp 2] } := rfl
theorem f30p0 (A : Ar) (a : Int) (b : Int) (ds : List Int) : gfin A tab B5 9 [true] 30 (f30e a b ds) [] =
  some ([A.and true (A.and true true), true, A.and (A.and true true) (Decidable.decide (List.length [unlessE (byteB b) 2, unlessE (A.le (A.int (A.len ds)) 40) 8, bytesE ds] ≤ 1000000)), List.all [AV.int .i64 (unlessE (byteB b) 2), AV.int .i64 (unlessE (A.le (A.int (A.len ds)) 40) 8), AV.int .i64 (bytesE ds)] fun x => AV.bx x && Nat.beq (flatLen A x) 1, A.and true (Decidable.decide (List.length ds ≤ 1000000)), A.and (A.ltN 0 1) (A.ltN 2 3), true, A.and true true, true, true, A.and (A.ltN 0 1) (A.ltN 2 3), true, A.and true true, true, A.and true true, A.and (A.ltN 0 1) (A.ltN 1 3), true, byteB a, true, A.and true true, A.and (A.ltN 0 1) (A.ltN 0 3), true, true, A.and true (A.ltN 0 3)],
   AV.int .i64 (firstE [unlessE (byteB b) 2, unlessE (A.le (A.int (A.len ds)) 40) 8, bytesE ds]), none) := by kernel_rfl
theorem f30p1 (A : Ar) (a : Int) (b : Int) (ds : List Int) : gfin A tab B5 9 [false] 30 (f30e a b ds) [] =
  some ([A.and true (A.and true true), true, A.and (A.and true true) (Decidable.decide (List.length [2, unlessE (A.le (A.int (A.len ds)) 40) 8, bytesE ds] ≤ 1000000)), List.all [AV.int .i64 2, AV.int .i64 (unlessE (A.le (A.int (A.len ds)) 40) 8), AV.int .i64 (bytesE ds)] fun x => AV.bx x && Nat.beq (flatLen A x) 1, A.and true (Decidable.decide (List.length ds ≤ 1000000)), A.and (A.ltN 0 1) (A.ltN 2 3), true, A.and true true, true, true, A.and (A.ltN 0 1) (A.ltN 2 3), true, A.and true true, true, true, true, true, !byteB a, true, A.and true true, A.and (A.ltN 0 1) (A.ltN 0 3), true, true, A.and true (A.ltN 0 3)],
   AV.int .i64 (firstE [2, unlessE (A.le (A.int (A.len ds)) 40) 8, bytesE ds]), none) := by kernel_rfl
def f32e (a : Int) (b : Int) (ds : List Int) : List AFrame := [{ fn := 32, N := 20, env := [(0, AV.agg (Row.gen [AV.int .i64 a, AV.int .i64 b, AV.list (.ints .i64 ds)]))], todo := [.code a32.code], defs := [], rnd := none, ret := false, res := [ARes.tmp 2] }]
theorem f32e_at (a : Int) (b : Int) (ds : List Int) : enterA tab 32 [AV.agg (Row.gen [AV.int .i64 a, AV.int .i64 b, AV.list (.ints .i64 ds)])] = some { fn := 32, N := 20, env := [(0, AV.agg (Row.gen [AV.int .i64 a, AV.int .i64 b, AV.list (.ints .i64 ds)]))], todo := [.code a32.code], defs := [], rnd := none, ret := false, res := [ARes.tmp 2] } := rfl
theorem f32p0 (A : Ar) (a : Int) (b : Int) (ds : List Int) : gfin A tab B5 26 [true, true, true, true, true, true] 32 (f32e a b ds) [] =
  some ([A.and true (A.and true true), true, true, true, true, true, true, true, true, true, true, true, A.not (Decidable.decide (0 ≤ a ∧ a ≤ 255)), true, true, A.and true true, A.and (A.ltN 0 1) (A.ltN 0 3), true, true, A.and true (A.ltN 0 3)],
   AV.int .i64 2, none) := by kernel_rfl
theorem f32p1 (A : Ar) (a : Int) (b : Int) (ds : List Int) : gfin A tab B5 26 [false, false, false, false, false, true] 32 (f32e a b ds) [] =
  some ([A.and true (A.and true true), true, A.not (Decidable.decide (0 ≤ b ∧ b ≤ 255)), true, true, true, true, A.and true true, true, A.and (A.ltN 0 1) (A.ltN 1 3), true, true, !A.not (Decidable.decide (0 ≤ a ∧ a ≤ 255)), true, true, A.and true true, A.and (A.ltN 0 1) (A.ltN 0 3), true, true, A.and true (A.ltN 0 3)],
   AV.int .i64 2, none) := by kernel_rfl
theorem f32p2 (A : Ar) (a : Int) (b : Int) (ds : List Int) : gfin A tab B5 36 [false, false, false, false, false, false, true] 32 (f32e a b ds) [] =
  some ([A.and true (A.and true true), true, A.lt 40 (A.int (A.len ds)), true, true, A.and (A.ltN 0 1) (A.ltN 2 3), true, !A.not (Decidable.decide (0 ≤ b ∧ b ≤ 255)), true, true, true, true, A.and true true, true, A.and (A.ltN 0 1) (A.ltN 1 3), true, true, !A.not (Decidable.decide (0 ≤ a ∧ a ≤ 255)), true, true, A.and true true, A.and (A.ltN 0 1) (A.ltN 0 3), true, true, A.and true (A.ltN 0 3)],
   AV.int .i64 8, none) := by kernel_rfl
theorem f32p3 (A : Ar) (a : Int) (b : Int) (ds : List Int) : gfin A tab B5 40 [false, false, false, false, false, false, false] 32 (f32e a b ds) [] =
  some ([A.and true (A.and true true), true, A.and true (Decidable.decide (List.length ds ≤ 1000000)), A.and (A.ltN 0 1) (A.ltN 2 3), true, !A.lt 40 (A.int (A.len ds)), true, true, A.and (A.ltN 0 1) (A.ltN 2 3), true, !A.not (Decidable.decide (0 ≤ b ∧ b ≤ 255)), true, true, true, true, A.and true true, true, A.and (A.ltN 0 1) (A.ltN 1 3), true, true, !A.not (Decidable.decide (0 ≤ a ∧ a ≤ 255)), true, true, A.and true true, A.and (A.ltN 0 1) (A.ltN 0 3), true, true, A.and true (A.ltN 0 3)],
   AV.int .i64 (bytesE ds), none) := by kernel_rfl
def f31e (a : Int) (b : Int) (ds : List Int) : List AFrame := [{ fn := 31, N := 8, env := [(0, AV.agg (Row.gen [AV.int .i64 a, AV.int .i64 b, AV.list (.ints .i64 ds)]))], todo := [.code a31.code], defs := [], rnd := none, ret := false, res := [ARes.cell 2 true 3] }]
theorem f31e_at (a : Int) (b : Int) (ds : List Int) : enterA tab 31 [AV.agg (Row.gen [AV.int .i64 a, AV.int .i64 b, AV.list (.ints .i64 ds)])] = some { fn := 31, N := 8, env := [(0, AV.agg (Row.gen [AV.int .i64 a, AV.int .i64 b, AV.list (.ints .i64 ds)]))], todo := [.code a31.code], defs := [], rnd := none, ret := false, res := [ARes.cell 2 true 3] } := rfl
theorem f31p0 (A : Ar) (a : Int) (b : Int) (ds : List Int) : gfin A tab B5 19 [] 31 (f31e a b ds) [] =
  some ([A.and (A.and (A.and (A.ltN 0 1) (A.leN (A.addN 0 3) 3)) true) (A.and true true), A.and (A.ltN 0 1) (A.eqN 3 3), A.and (A.ltN 0 1) (A.leN (A.addN 0 3) 3), A.and (A.ltN 0 1) (A.and (A.and true (A.eqN 1 1)) (A.ltN 2 3)), true, A.and true (Decidable.decide (List.length ds ≤ 4294967296)), A.and (A.ltN 0 1) (A.ltN 2 3), true, A.and true (A.ltN 0 3), A.and true (A.ltN 0 3)],
   AV.agg (Row.gen [AV.int .i64 a, AV.int .i64 b, AV.list (.ints .i64 ds)]), none) := by kernel_rfl
def f29e (ps : List AV) : List AFrame := [{ fn := 29, N := 20, env := [(0, AV.list (Row.big (Sh.agg [Sh.int .i64, Sh.int .i64, Sh.ints .i64]) ps))], todo := [.code a29.code], defs := [], rnd := none, ret := false, res := [ARes.tmp 2] }]
theorem f29e_at (ps : List AV) : enterA tab 29 [AV.list (Row.big (Sh.agg [Sh.int .i64, Sh.int .i64, Sh.ints .i64]) ps)] = some { fn := 29, N := 20, env := [(0, AV.list (Row.big (Sh.agg [Sh.int .i64, Sh.int .i64, Sh.ints .i64]) ps))], todo := [.code a29.code], defs := [], rnd := none, ret := false, res := [ARes.tmp 2] } := rfl
def f29h29_0a (ps : List AV) (n0 : Int) : List AFrame := [{ fn := 29, N := 20, env := [(0, AV.list (Row.big (Sh.agg [Sh.int .i64, Sh.int .i64, Sh.ints .i64]) ps)), (3, AV.int .i64 n0)], todo := .code (ACode.gh [] l29_0) :: k29_0, defs := [], rnd := none, ret := false, res := [ARes.tmp 2] }]
def f29h29_0am (ps : List AV) (n0 : Int) : AHeap := []
theorem f29p0 (A : Ar) (ps : List AV) : gfin A tab B5 17 [true] 29 (f29e ps) [] =
  some ([A.and true (A.and true true), true, A.lt 22 (A.int (A.lenA ps)), true, true, true, true],
   AV.bool false, none) := by kernel_rfl
theorem f29p1 (A : Ar) (ps : List AV) : gwalkL A tab B5 21 [false] (f29e ps) [] =
  some ([true, !A.lt 22 (A.int (A.lenA ps)), true, true, true, true],
   f29h29_0a (ps) (0), f29h29_0am (ps) (0)) := by kernel_rfl
theorem f29p2 (A : Ar) (ps : List AV) (n0 : Int) : gfin A tab B5 30 [true, true] 29 (f29h29_0a ps n0) (f29h29_0am ps n0) =
  some ([A.and true (A.and true true), true, A.lt 42 (A.int (A.len (AV.toIs (AV.cellAt (A.nthA ps (A.nat n0)) 2)))), true, true, A.ltN 2 3, true, A.and (A.and (A.le 0 n0) (A.ltN (A.nat n0) (A.lenA ps))) (A.eqN 3 3), true, true, A.lt n0 (A.int (A.lenA ps)), true, true, true, true],
   AV.bool false, none) := by kernel_rfl
theorem f29p3 (A : Ar) (ps : List AV) (n0 : Int) : gwalkL A tab B5 34 [true, false] (f29h29_0a ps n0) (f29h29_0am ps n0) =
  some ([true, A.inR .i64 (A.add n0 1), true, !A.lt 42 (A.int (A.len (AV.toIs (AV.cellAt (A.nthA ps (A.nat n0)) 2)))), true, true, A.ltN 2 3, true, A.and (A.and (A.le 0 n0) (A.ltN (A.nat n0) (A.lenA ps))) (A.eqN 3 3), true, true, A.lt n0 (A.int (A.lenA ps)), true, true, true, true],
   f29h29_0a (ps) (A.add n0 1), f29h29_0am (ps) (A.add n0 1)) := by kernel_rfl
theorem f29p4 (A : Ar) (ps : List AV) (n0 : Int) : gfin A tab B5 16 [false] 29 (f29h29_0a ps n0) (f29h29_0am ps n0) =
  some ([A.and true (A.and true true), true, !A.lt n0 (A.int (A.lenA ps)), true, true, true, true],
   AV.bool true, none) := by kernel_rfl
def f38e (fs : List AV) (gs : List AV) : List AFrame := [{ fn := 38, N := 27, env := [(0, AV.list (Row.big (Sh.agg [Sh.int .i64, Sh.int .i64, Sh.int .i64, Sh.ints .i64]) fs)), (1, AV.list (Row.big (Sh.agg [Sh.int .i64, Sh.int .i64, Sh.int .i64, Sh.ints .i64]) gs))], todo := [.code a38.code], defs := [], rnd := none, ret := false, res := [ARes.tmp 4] }]
theorem f38e_at (fs : List AV) (gs : List AV) : enterA tab 38 [AV.list (Row.big (Sh.agg [Sh.int .i64, Sh.int .i64, Sh.int .i64, Sh.ints .i64]) fs), AV.list (Row.big (Sh.agg [Sh.int .i64, Sh.int .i64, Sh.int .i64, Sh.ints .i64]) gs)] = some { fn := 38, N := 27, env := [(0, AV.list (Row.big (Sh.agg [Sh.int .i64, Sh.int .i64, Sh.int .i64, Sh.ints .i64]) fs)), (1, AV.list (Row.big (Sh.agg [Sh.int .i64, Sh.int .i64, Sh.int .i64, Sh.ints .i64]) gs))], todo := [.code a38.code], defs := [], rnd := none, ret := false, res := [ARes.tmp 4] } := rfl
def f38h38_0a (fs : List AV) (gs : List AV) (n0 : Int) : List AFrame := [{ fn := 38, N := 27, env := [(0, AV.list (Row.big (Sh.agg [Sh.int .i64, Sh.int .i64, Sh.int .i64, Sh.ints .i64]) fs)), (1, AV.list (Row.big (Sh.agg [Sh.int .i64, Sh.int .i64, Sh.int .i64, Sh.ints .i64]) gs)), (5, AV.int .i64 n0)], todo := .code (ACode.gh [] l38_0) :: k38_0, defs := [], rnd := none, ret := false, res := [ARes.tmp 4] }]
def f38h38_0am (fs : List AV) (gs : List AV) (n0 : Int) : AHeap := []
theorem f38p0 (A : Ar) (fs : List AV) (gs : List AV) : gfin A tab B5 19 [true] 38 (f38e fs gs) [] =
  some ([A.and true (A.and true true), true, A.not (A.eq (A.int (A.lenA fs)) (A.int (A.lenA gs))), true, true, true, true, true, true],
   AV.bool false, none) := by kernel_rfl
theorem f38p1 (A : Ar) (fs : List AV) (gs : List AV) : gwalkL A tab B5 23 [false] (f38e fs gs) [] =
  some ([true, !A.not (A.eq (A.int (A.lenA fs)) (A.int (A.lenA gs))), true, true, true, true, true, true],
   f38h38_0a (fs) (gs) (0), f38h38_0am (fs) (gs) (0)) := by kernel_rfl
theorem f38p2 (A : Ar) (fs : List AV) (gs : List AV) (n0 : Int) : gfin A tab B5 22 [true, true] 38 (f38h38_0a fs gs n0) (f38h38_0am fs gs n0) =
  some ([A.and true (A.and true true), true, A.not (Decidable.decide (AV.toI (AV.cellAt (A.nthA fs (A.nat n0)) 0) = AV.toI (AV.cellAt (A.nthA gs (A.nat n0)) 0) ∧ AV.toI (AV.cellAt (A.nthA fs (A.nat n0)) 1) = AV.toI (AV.cellAt (A.nthA gs (A.nat n0)) 1) ∧ AV.toI (AV.cellAt (A.nthA fs (A.nat n0)) 2) = AV.toI (AV.cellAt (A.nthA gs (A.nat n0)) 2) ∧ AV.toIs (AV.cellAt (A.nthA fs (A.nat n0)) 3) = AV.toIs (AV.cellAt (A.nthA gs (A.nat n0)) 3))), true, A.and true (Decidable.decide (List.length (AV.toIs (AV.cellAt (A.nthA fs (A.nat n0)) 3)) ≤ 1000000)), A.leN (A.addN 0 4) 4, A.and (A.and (A.le 0 n0) (A.ltN (A.nat n0) (A.lenA gs))) (A.eqN 4 4), true, true, A.leN (A.addN 0 4) 4, A.and (A.and (A.le 0 n0) (A.ltN (A.nat n0) (A.lenA fs))) (A.eqN 4 4), true, true, A.lt n0 (A.int (A.lenA fs)), true, true, true, true],
   AV.bool false, none) := by kernel_rfl
theorem f38p3 (A : Ar) (fs : List AV) (gs : List AV) (n0 : Int) : gwalkL A tab B5 26 [true, false] (f38h38_0a fs gs n0) (f38h38_0am fs gs n0) =
  some ([true, A.inR .i64 (A.add n0 1), true, !A.not (Decidable.decide (AV.toI (AV.cellAt (A.nthA fs (A.nat n0)) 0) = AV.toI (AV.cellAt (A.nthA gs (A.nat n0)) 0) ∧ AV.toI (AV.cellAt (A.nthA fs (A.nat n0)) 1) = AV.toI (AV.cellAt (A.nthA gs (A.nat n0)) 1) ∧ AV.toI (AV.cellAt (A.nthA fs (A.nat n0)) 2) = AV.toI (AV.cellAt (A.nthA gs (A.nat n0)) 2) ∧ AV.toIs (AV.cellAt (A.nthA fs (A.nat n0)) 3) = AV.toIs (AV.cellAt (A.nthA gs (A.nat n0)) 3))), true, A.and true (Decidable.decide (List.length (AV.toIs (AV.cellAt (A.nthA fs (A.nat n0)) 3)) ≤ 1000000)), A.leN (A.addN 0 4) 4, A.and (A.and (A.le 0 n0) (A.ltN (A.nat n0) (A.lenA gs))) (A.eqN 4 4), true, true, A.leN (A.addN 0 4) 4, A.and (A.and (A.le 0 n0) (A.ltN (A.nat n0) (A.lenA fs))) (A.eqN 4 4), true, true, A.lt n0 (A.int (A.lenA fs)), true, true, true, true],
   f38h38_0a (fs) (gs) (A.add n0 1), f38h38_0am (fs) (gs) (A.add n0 1)) := by kernel_rfl
theorem f38p4 (A : Ar) (fs : List AV) (gs : List AV) (n0 : Int) : gfin A tab B5 16 [false] 38 (f38h38_0a fs gs n0) (f38h38_0am fs gs n0) =
  some ([A.and true (A.and true true), true, !A.lt n0 (A.int (A.lenA fs)), true, true, true, true],
   AV.bool true, none) := by kernel_rfl
end Go.Proofs.Ytjhdnpmojhkbjaa
