/- Paths of functions, printed by the explorer (Gx). No condition. -/
import Derived.Test.YtimmgjppippdiaaR0
import Derived.KernelRfl
import Derived.Test.YtimmgjppippdiaaR1
namespace Go.Proofs.Ytimmgjppippdiaa
set_option maxRecDepth 100000
set_option linter.unusedVariables false
def f164e (xs : List Int) (lo : Int) (hi : Int) : List AFrame := [{ fn := 164, N := 19, env := [(0, AV.list (.ints .i64 xs)), (1, AV.fn 150 [AV.eptr (AV.int .i64 lo) 0, AV.eptr (AV.int .i64 hi) 0])], todo := [.code a164.code], defs := [], rnd := none, ret := false, res := [ARes.tmp 4] }]
theorem f164e_at (xs : List Int) (lo : Int) (hi : Int) : enterA tab 164 [AV.list (.ints .i64 xs), AV.fn 150 [AV.eptr (AV.int .i64 lo) 0, AV.eptr (AV.int .i64 hi) 0]] = some { fn := 164, N := 19, env := [(0, AV.list (.ints .i64 xs)), (1, AV.fn 150 [AV.eptr (AV.int .i64 lo) 0, AV.eptr (AV.int .i64 hi) 0])], todo := [.code a164.code], defs := [], rnd := none, ret := false, res := [ARes.tmp 4] } := rfl
def f164h164_0a (xs : List Int) (lo : Int) (hi : Int) (n0 : Int) (n1 : Int) : List AFrame := [{ fn := 164, N := 19, env := [(0, AV.list (.ints .i64 xs)), (1, AV.fn 150 [AV.eptr (AV.int .i64 lo) 0, AV.eptr (AV.int .i64 hi) 0]), (7, AV.int .i64 n0), (8, AV.int .i64 n1)], todo := .code (ACode.gh [] l164_0) :: k164_0, defs := [], rnd := none, ret := false, res := [ARes.tmp 4] }]
def f164h164_0am (xs : List Int) (lo : Int) (hi : Int) (n0 : Int) (n1 : Int) : AHeap := []
theorem f164p0 (A : Ar) (xs : List Int) (lo : Int) (hi : Int) : gwalkL A tab E0 14 [] (f164e xs lo hi) [] =
  some ([true, true, true, true],
   f164h164_0a (xs) (lo) (hi) (A.int (A.len xs)) (0), f164h164_0am (xs) (lo) (hi) (A.int (A.len xs)) (0)) := by kernel_rfl
theorem f164p1 (A : Ar) (xs : List Int) (lo : Int) (hi : Int) (n0 : Int) (n1 : Int) : gfin A tab E0 65 [true, true, true, true, true, true] 164 (f164h164_0a xs lo hi n0 n1) (f164h164_0am xs lo hi n0 n1) =
  some ([true, true, true, A.not (A.le (A.nth xs (A.nat n1)) hi), true, true, true, true, true, true, true, true, true, true, true, true, A.le lo (A.nth xs (A.nat n1)), true, true, true, true, true, A.eqN 0 0, A.eqN 0 0, true, true, A.eqN 0 0, A.and (A.and (A.le 0 n1) (A.ltN (A.nat n1) (A.len xs))) (A.eqN 1 1), true, true, true, true, true, A.lt n1 n0, true],
   AV.int .i64 n1, none) := by kernel_rfl
theorem f164p2 (A : Ar) (xs : List Int) (lo : Int) (hi : Int) (n0 : Int) (n1 : Int) : gwalkL A tab E0 67 [true, true, true, true, true, false] (f164h164_0a xs lo hi n0 n1) (f164h164_0am xs lo hi n0 n1) =
  some ([true, A.inR .i64 (A.add n1 1), !A.not (A.le (A.nth xs (A.nat n1)) hi), true, true, true, true, true, true, true, true, true, true, true, true, A.le lo (A.nth xs (A.nat n1)), true, true, true, true, true, A.eqN 0 0, A.eqN 0 0, true, true, A.eqN 0 0, A.and (A.and (A.le 0 n1) (A.ltN (A.nat n1) (A.len xs))) (A.eqN 1 1), true, true, true, true, true, A.lt n1 n0, true],
   f164h164_0a (xs) (lo) (hi) (n0) (A.add n1 1), f164h164_0am (xs) (lo) (hi) (n0) (A.add n1 1)) := by kernel_rfl
theorem f164p3 (A : Ar) (xs : List Int) (lo : Int) (hi : Int) (n0 : Int) (n1 : Int) : gfin A tab E0 65 [true, false, false, false, false, true] 164 (f164h164_0a xs lo hi n0 n1) (f164h164_0am xs lo hi n0 n1) =
  some ([true, true, true, A.not false, true, true, true, true, true, true, true, true, true, true, true, true, !A.le lo (A.nth xs (A.nat n1)), true, true, true, true, true, A.eqN 0 0, A.eqN 0 0, true, true, A.eqN 0 0, A.and (A.and (A.le 0 n1) (A.ltN (A.nat n1) (A.len xs))) (A.eqN 1 1), true, true, true, true, true, A.lt n1 n0, true],
   AV.int .i64 n1, none) := by kernel_rfl
theorem f164p4 (A : Ar) (xs : List Int) (lo : Int) (hi : Int) (n0 : Int) (n1 : Int) : gfin A tab E0 13 [false] 164 (f164h164_0a xs lo hi n0 n1) (f164h164_0am xs lo hi n0 n1) =
  some ([true, true, !A.lt n1 n0, true],
   AV.int .i64 (-1), none) := by kernel_rfl
def f165e (xs : List Int) (v : Int) : List AFrame := [{ fn := 165, N := 19, env := [(0, AV.list (.ints .i64 xs)), (1, AV.int .i64 v)], todo := [.code a165.code], defs := [], rnd := none, ret := false, res := [ARes.tmp 4] }]
theorem f165e_at (xs : List Int) (v : Int) : enterA tab 165 [AV.list (.ints .i64 xs), AV.int .i64 v] = some { fn := 165, N := 19, env := [(0, AV.list (.ints .i64 xs)), (1, AV.int .i64 v)], todo := [.code a165.code], defs := [], rnd := none, ret := false, res := [ARes.tmp 4] } := rfl
def f165h165_0a (xs : List Int) (v : Int) (n0 : Int) (n1 : Int) : List AFrame := [{ fn := 165, N := 19, env := [(0, AV.list (.ints .i64 xs)), (1, AV.int .i64 v), (7, AV.int .i64 n0), (8, AV.int .i64 n1)], todo := .code (ACode.gh [] l165_0) :: k165_0, defs := [], rnd := none, ret := false, res := [ARes.tmp 4] }]
def f165h165_0am (xs : List Int) (v : Int) (n0 : Int) (n1 : Int) : AHeap := []
theorem f165p0 (A : Ar) (xs : List Int) (v : Int) : gwalkL A tab E0 14 [] (f165e xs v) [] =
  some ([true, true, true, true],
   f165h165_0a (xs) (v) (A.int (A.len xs)) (0), f165h165_0am (xs) (v) (A.int (A.len xs)) (0)) := by kernel_rfl
theorem f165p1 (A : Ar) (xs : List Int) (v : Int) (n0 : Int) (n1 : Int) : gfin A tab E0 31 [true, true] 165 (f165h165_0a xs v n0 n1) (f165h165_0am xs v n0 n1) =
  some ([true, true, true, A.eq v (A.nth xs (A.nat n1)), true, A.eqN 0 0, A.and (A.and (A.le 0 n1) (A.ltN (A.nat n1) (A.len xs))) (A.eqN 1 1), true, true, true, true, true, A.lt n1 n0, true],
   AV.int .i64 n1, none) := by kernel_rfl
theorem f165p2 (A : Ar) (xs : List Int) (v : Int) (n0 : Int) (n1 : Int) : gwalkL A tab E0 33 [true, false] (f165h165_0a xs v n0 n1) (f165h165_0am xs v n0 n1) =
  some ([true, A.inR .i64 (A.add n1 1), !A.eq v (A.nth xs (A.nat n1)), true, A.eqN 0 0, A.and (A.and (A.le 0 n1) (A.ltN (A.nat n1) (A.len xs))) (A.eqN 1 1), true, true, true, true, true, A.lt n1 n0, true],
   f165h165_0a (xs) (v) (n0) (A.add n1 1), f165h165_0am (xs) (v) (n0) (A.add n1 1)) := by kernel_rfl
theorem f165p3 (A : Ar) (xs : List Int) (v : Int) (n0 : Int) (n1 : Int) : gfin A tab E0 13 [false] 165 (f165h165_0a xs v n0 n1) (f165h165_0am xs v n0 n1) =
  some ([true, true, !A.lt n1 n0, true],
   AV.int .i64 (-1), none) := by kernel_rfl
def f49e (xs : List Int) (v : Int) : List AFrame := [{ fn := 49, N := 18, env := [(0, AV.list (.ints .i64 xs)), (1, AV.int .i64 v)], todo := [.code a49.code], defs := [], rnd := none, ret := false, res := [ARes.tmp 4] }]
theorem f49e_at (xs : List Int) (v : Int) : enterA tab 49 [AV.list (.ints .i64 xs), AV.int .i64 v] = some { fn := 49, N := 18, env := [(0, AV.list (.ints .i64 xs)), (1, AV.int .i64 v)], todo := [.code a49.code], defs := [], rnd := none, ret := false, res := [ARes.tmp 4] } := rfl
def f49h49_0a (xs : List Int) (v : Int) (n0 : Int) : List AFrame := [{ fn := 49, N := 18, env := [(0, AV.list (.ints .i64 xs)), (1, AV.int .i64 v), (5, AV.int .i64 n0)], todo := .code (ACode.gh [] l49_0) :: k49_0, defs := [], rnd := none, ret := false, res := [ARes.tmp 4] }]
def f49h49_0am (xs : List Int) (v : Int) (n0 : Int) : AHeap := []
theorem f49p0 (A : Ar) (xs : List Int) (v : Int) : gwalkL A tab E0 12 [] (f49e xs v) [] =
  some ([true, true],
   f49h49_0a (xs) (v) (0), f49h49_0am (xs) (v) (0)) := by kernel_rfl
theorem f49p1 (A : Ar) (xs : List Int) (v : Int) (n0 : Int) : gfin A tab E0 28 [true, true] 49 (f49h49_0a xs v n0) (f49h49_0am xs v n0) =
  some ([true, true, A.eq (A.nth xs (A.nat n0)) v, true, true, A.eqN 0 0, A.and (A.and (A.le 0 n0) (A.ltN (A.nat n0) (A.len xs))) (A.eqN 1 1), true, true, A.lt n0 (A.int (A.len xs)), true, true, true, true],
   AV.bool true, none) := by kernel_rfl
theorem f49p2 (A : Ar) (xs : List Int) (v : Int) (n0 : Int) : gwalkL A tab E0 32 [true, false] (f49h49_0a xs v n0) (f49h49_0am xs v n0) =
  some ([true, A.inR .i64 (A.add n0 1), true, !A.eq (A.nth xs (A.nat n0)) v, true, true, A.eqN 0 0, A.and (A.and (A.le 0 n0) (A.ltN (A.nat n0) (A.len xs))) (A.eqN 1 1), true, true, A.lt n0 (A.int (A.len xs)), true, true, true, true],
   f49h49_0a (xs) (v) (A.add n0 1), f49h49_0am (xs) (v) (A.add n0 1)) := by kernel_rfl
theorem f49p3 (A : Ar) (xs : List Int) (v : Int) (n0 : Int) : gfin A tab E0 16 [false] 49 (f49h49_0a xs v n0) (f49h49_0am xs v n0) =
  some ([true, true, !A.lt n0 (A.int (A.len xs)), true, true, true, true],
   AV.bool false, none) := by kernel_rfl
def f48e (xs : List Int) : List AFrame := [{ fn := 48, N := 22, env := [(0, AV.list (.ints .i64 xs))], todo := [.code a48.code], defs := [], rnd := none, ret := false, res := [ARes.tmp 2] }]
theorem f48e_at (xs : List Int) : enterA tab 48 [AV.list (.ints .i64 xs)] = some { fn := 48, N := 22, env := [(0, AV.list (.ints .i64 xs))], todo := [.code a48.code], defs := [], rnd := none, ret := false, res := [ARes.tmp 2] } := rfl
def f48h48_0a (xs : List Int) (n0 : Int) : List AFrame := [{ fn := 48, N := 22, env := [(0, AV.list (.ints .i64 xs)), (3, AV.int .i64 n0)], todo := .code (ACode.gh [] l48_0) :: k48_0, defs := [], rnd := none, ret := false, res := [ARes.tmp 2] }]
def f48h48_0am (xs : List Int) (n0 : Int) : AHeap := []
theorem f48p0 (A : Ar) (xs : List Int) : gwalkL A tab E0 12 [] (f48e xs) [] =
  some ([true, true],
   f48h48_0a (xs) (0), f48h48_0am (xs) (0)) := by kernel_rfl
theorem f48p1 (A : Ar) (xs : List Int) (n0 : Int) : gfin A tab E0 35 [true, true, true, true, true, true, true, true] 48 (f48h48_0a xs n0) (f48h48_0am xs n0) =
  some ([true, true, A.not (A.eq (A.nth xs (A.nat n0)) 1), true, true, true, true, A.eqN 0 0, true, A.and (A.and (A.le 0 n0) (A.ltN (A.nat n0) (A.len xs))) (A.eqN 1 1), true, true, true, true, A.not (A.eq (A.nth xs (A.nat n0)) 0), true, true, A.eqN 0 0, A.and (A.and (A.le 0 n0) (A.ltN (A.nat n0) (A.len xs))) (A.eqN 1 1), true, true, A.lt n0 (A.int (A.len xs)), true, true, true, true],
   AV.bool false, none) := by kernel_rfl
theorem f48p2 (A : Ar) (xs : List Int) (n0 : Int) : gwalkL A tab E0 39 [true, true, true, true, true, true, true, false] (f48h48_0a xs n0) (f48h48_0am xs n0) =
  some ([true, A.inR .i64 (A.add n0 1), true, !A.not (A.eq (A.nth xs (A.nat n0)) 1), true, true, true, true, A.eqN 0 0, true, A.and (A.and (A.le 0 n0) (A.ltN (A.nat n0) (A.len xs))) (A.eqN 1 1), true, true, true, true, A.not (A.eq (A.nth xs (A.nat n0)) 0), true, true, A.eqN 0 0, A.and (A.and (A.le 0 n0) (A.ltN (A.nat n0) (A.len xs))) (A.eqN 1 1), true, true, A.lt n0 (A.int (A.len xs)), true, true, true, true],
   f48h48_0a (xs) (A.add n0 1), f48h48_0am (xs) (A.add n0 1)) := by kernel_rfl
theorem f48p3 (A : Ar) (xs : List Int) (n0 : Int) : gwalkL A tab E0 39 [true, false, false, false, false, false, false, false] (f48h48_0a xs n0) (f48h48_0am xs n0) =
  some ([true, A.inR .i64 (A.add n0 1), true, true, true, true, true, true, true, true, true, true, true, true, true, !A.not (A.eq (A.nth xs (A.nat n0)) 0), true, true, A.eqN 0 0, A.and (A.and (A.le 0 n0) (A.ltN (A.nat n0) (A.len xs))) (A.eqN 1 1), true, true, A.lt n0 (A.int (A.len xs)), true, true, true, true],
   f48h48_0a (xs) (A.add n0 1), f48h48_0am (xs) (A.add n0 1)) := by kernel_rfl
theorem f48p4 (A : Ar) (xs : List Int) (n0 : Int) : gfin A tab E0 16 [false] 48 (f48h48_0a xs n0) (f48h48_0am xs n0) =
  some ([true, true, !A.lt n0 (A.int (A.len xs)), true, true, true, true],
   AV.bool true, none) := by kernel_rfl
def f129e (xs : List Int) : List AFrame := [{ fn := 129, N := 8, env := [(0, AV.list (.ints .i64 xs))], todo := [.code a129.code], defs := [], rnd := none, ret := false, res := [ARes.tmp 2] }]
theorem f129e_at (xs : List Int) : enterA tab 129 [AV.list (.ints .i64 xs)] = some { fn := 129, N := 8, env := [(0, AV.list (.ints .i64 xs))], todo := [.code a129.code], defs := [], rnd := none, ret := false, res := [ARes.tmp 2] } := rfl
theorem f129p0 (A : Ar) (xs : List Int) : gfin A tab E0 20 [false] 129 (f129e xs) [] =
  some ([true, true, A.and (A.and true (A.eqN 1 1)) (A.and (A.eqN 3 3) (A.and (A.eqN 1 1) (A.leN (A.addN 0 (A.len xs)) 4294967296))), true, List.all [] fun x => AV.bx x && Nat.beq (flatLen A x) 1, true, A.ltN 0 (A.len xs), true, true],
   AV.row 0 0, some { e := 3, sz := 1, r := .ints .i64 xs }) := by kernel_rfl
def f34e (n : Int) (cs : List AV) : List AFrame := [{ fn := 34, N := 22, env := [(0, AV.agg (Row.gen [AV.int .i64 n, AV.list (Row.big (Sh.ints .i64) cs)]))], todo := [.code a34.code], defs := [], rnd := none, ret := false, res := [ARes.tmp 2] }]
theorem f34e_at (n : Int) (cs : List AV) : enterA tab 34 [AV.agg (Row.gen [AV.int .i64 n, AV.list (Row.big (Sh.ints .i64) cs)])] = some { fn := 34, N := 22, env := [(0, AV.agg (Row.gen [AV.int .i64 n, AV.list (Row.big (Sh.ints .i64) cs)]))], todo := [.code a34.code], defs := [], rnd := none, ret := false, res := [ARes.tmp 2] } := rfl
def f34h34_0a (n : Int) (cs : List AV) (n0 : Int) : List AFrame := [{ fn := 34, N := 22, env := [(1, AV.ptr 34002 0 0 0), (3, AV.int .i64 n0)], todo := .code (ACode.gh [] l34_0) :: k34_0, defs := [], rnd := none, ret := false, res := [ARes.tmp 2] }]
def f34h34_0am (n : Int) (cs : List AV) (n0 : Int) : AHeap := [(34002, { base := 0, blks := [Blk.row 48 2 (Row.gen [AV.agg (Row.gen [AV.int .i64 n, AV.list (Row.big (Sh.ints .i64) cs)])])] })]
theorem f34p0 (A : Ar) (n : Int) (cs : List AV) : gfin A tab E0 19 [true] 34 (f34e n cs) [] =
  some ([true, true, A.lt 18 (A.int (A.lenA cs)), true, true, A.and (A.ltN 0 1) (A.ltN 1 2), true, true, A.and true (A.ltN 0 2)],
   AV.bool false, none) := by kernel_rfl
theorem f34p1 (A : Ar) (n : Int) (cs : List AV) : gwalkL A tab E0 23 [false] (f34e n cs) [] =
  some ([true, !A.lt 18 (A.int (A.lenA cs)), true, true, A.and (A.ltN 0 1) (A.ltN 1 2), true, true, A.and true (A.ltN 0 2)],
   f34h34_0a (n) (cs) (0), f34h34_0am (n) (cs) (0)) := by kernel_rfl
theorem f34p2 (A : Ar) (n : Int) (cs : List AV) (n0 : Int) : gfin A tab E0 31 [true, true] 34 (f34h34_0a n cs n0) (f34h34_0am n cs n0) =
  some ([true, true, A.lt 26 (A.int (A.len (AV.toIs (A.nthA cs (A.nat n0))))), true, true, A.eqN 0 0, A.and (A.and (A.le 0 n0) (A.ltN (A.nat n0) (A.lenA cs))) (A.eqN 1 1), true, A.and (A.ltN 0 1) (A.ltN 1 2), true, A.lt n0 (A.int (A.lenA cs)), true, true, A.and (A.ltN 0 1) (A.ltN 1 2), true, true],
   AV.bool false, none) := by kernel_rfl
theorem f34p3 (A : Ar) (n : Int) (cs : List AV) (n0 : Int) : gwalkL A tab E0 35 [true, false] (f34h34_0a n cs n0) (f34h34_0am n cs n0) =
  some ([true, A.inR .i64 (A.add n0 1), true, !A.lt 26 (A.int (A.len (AV.toIs (A.nthA cs (A.nat n0))))), true, true, A.eqN 0 0, A.and (A.and (A.le 0 n0) (A.ltN (A.nat n0) (A.lenA cs))) (A.eqN 1 1), true, A.and (A.ltN 0 1) (A.ltN 1 2), true, A.lt n0 (A.int (A.lenA cs)), true, true, A.and (A.ltN 0 1) (A.ltN 1 2), true, true],
   f34h34_0a (n) (cs) (A.add n0 1), f34h34_0am (n) (cs) (A.add n0 1)) := by kernel_rfl
theorem f34p4 (A : Ar) (n : Int) (cs : List AV) (n0 : Int) : gfin A tab E0 17 [false] 34 (f34h34_0a n cs n0) (f34h34_0am n cs n0) =
  some ([true, true, !A.lt n0 (A.int (A.lenA cs)), true, true, A.and (A.ltN 0 1) (A.ltN 1 2), true, true],
   AV.bool true, none) := by kernel_rfl
end Go.Proofs.Ytimmgjppippdiaa

/- Contracts as a list. No condition. -/
namespace Go.Proofs.Ytimmgjppippdiaa
@[simp] theorem s_lenA (l : List AV) : std.lenA l = l.length := rfl
@[simp] theorem s_nthA (l : List AV) (j : Nat) : std.nthA l j = l.getD j .top := rfl
@[simp] theorem s_appA (a b : List AV) : std.appA a b = a ++ b := rfl
@[simp] theorem s_setA (l : List AV) (j : Nat) (x : AV) : std.setA l j x = l.set j x := rfl
/-- the first place, from i on, at which p holds -/
def idxF (p : Int → Bool) : List Int → Nat → Int
  | [], _ => -1
  | x :: xs, i => if p x = true then i else idxF p xs (i + 1)
theorem idxF_neg {p : Int → Bool} : ∀ {xs : List Int} {i : Nat}, idxF p xs i < 0 ↔ ∀ x ∈ xs, p x = false
  | [], i => by simp [idxF]
  | x :: xs, i => by
    simp only [idxF]
    split
    · rename_i h; simp [h]
    · rename_i h; rw [idxF_neg]; simp [h]
def hasB (xs : List Int) (v : Int) : Bool := xs.any fun x => decide (x = v)
def bitB (x : Int) : Bool := decide (x = 0 ∨ x = 1)
def few1 (v : AV) : Bool := decide (v.toIs.length ≤ 26)
def iss (cs : List AV) : List (List Int) := cs.map AV.toIs
def outP (lo hi : Int) (x : Int) : Bool := !decide (lo ≤ x ∧ x ≤ hi)
section
variable {C : Ctx} (hC : C.P = Try.prog)
include hC
theorem l164 (xs : List Int) (lo hi : Int) (hlen : xs.length ≤ 1000000) : ∀ (d i : Nat), xs.length - i = d → i ≤ xs.length →
    Ev C (f164h164_0a xs lo hi xs.length i) (f164h164_0am xs lo hi xs.length i) (FinQ 164 (.int .i64 (idxF (outP lo hi) (xs.drop i) i)) none) := by
  intro d
  induction d with
  | zero =>
    intro i hd hi'
    exact fin hC E0_ok (f164p4 std xs lo hi xs.length i) (by simp; omega) (by rw [List.drop_of_length_le (by omega)]; rfl) rfl
  | succ d ih =>
    intro i hd hi'
    have hlt : i < xs.length := by omega
    rw [List.drop_eq_getElem_cons hlt, idxF]
    by_cases h1 : lo ≤ xs[i]
    · by_cases h2 : xs[i] ≤ hi
      · rw [if_neg (by simp [outP, h1, h2])]
        exact go hC E0_ok (f164p2 std xs lo hi xs.length i) (by simp [hlt, h1, h2]; omega) (ih (i + 1) (by omega) (by omega))
      · exact fin hC E0_ok (f164p1 std xs lo hi xs.length i) (by simp [hlt, h1]; omega) (by rw [if_pos (by simp [outP, h2])]) rfl
    · exact fin hC E0_ok (f164p3 std xs lo hi xs.length i) (by simp [hlt]; omega) (by rw [if_pos (by simp [outP]; omega)]) rfl
theorem l165 (xs : List Int) (v : Int) (hlen : xs.length ≤ 1000000) : ∀ (d i : Nat), xs.length - i = d → i ≤ xs.length →
    Ev C (f165h165_0a xs v xs.length i) (f165h165_0am xs v xs.length i) (FinQ 165 (.int .i64 (idxF (fun x => decide (v = x)) (xs.drop i) i)) none) := by
  intro d
  induction d with
  | zero =>
    intro i hd hi'
    exact fin hC E0_ok (f165p3 std xs v xs.length i) (by simp; omega) (by rw [List.drop_of_length_le (by omega)]; rfl) rfl
  | succ d ih =>
    intro i hd hi'
    have hlt : i < xs.length := by omega
    rw [List.drop_eq_getElem_cons hlt, idxF]
    by_cases h1 : v = xs[i]
    · exact fin hC E0_ok (f165p1 std xs v xs.length i) (by simp [hlt, h1]) (by rw [if_pos (by simpa using h1)]) rfl
    · rw [if_neg (by simpa using h1)]
      exact go hC E0_ok (f165p2 std xs v xs.length i) (by simp [hlt, h1]; omega) (ih (i + 1) (by omega) (by omega))
theorem l49 (xs : List Int) (v : Int) (hlen : xs.length ≤ 1000000) : ∀ (d i : Nat), xs.length - i = d → i ≤ xs.length →
    Ev C (f49h49_0a xs v i) (f49h49_0am xs v i) (FinQ 49 (.bool (hasB (xs.drop i) v)) none) := by
  intro d
  induction d with
  | zero =>
    intro i hd hi'
    exact fin hC E0_ok (f49p3 std xs v i) (by simp; omega) (by rw [List.drop_of_length_le (by omega)]; rfl) rfl
  | succ d ih =>
    intro i hd hi'
    have hlt : i < xs.length := by omega
    rw [List.drop_eq_getElem_cons hlt, hasB, List.any_cons]
    by_cases h1 : xs[i] = v
    · exact fin hC E0_ok (f49p1 std xs v i) (by simp [hlt, h1]) (by rw [decide_eq_true h1, Bool.true_or]) rfl
    · rw [decide_eq_false h1, Bool.false_or]
      exact go hC E0_ok (f49p2 std xs v i) (by simp [hlt, h1]; omega) (ih (i + 1) (by omega) (by omega))
theorem l48 (xs : List Int) (hlen : xs.length ≤ 1000000) : ∀ (d i : Nat), xs.length - i = d → i ≤ xs.length →
    Ev C (f48h48_0a xs i) (f48h48_0am xs i) (FinQ 48 (.bool ((xs.drop i).all bitB)) none) := by
  intro d
  induction d with
  | zero =>
    intro i hd hi'
    exact fin hC E0_ok (f48p4 std xs i) (by simp; omega) (by rw [List.drop_of_length_le (by omega)]; rfl) rfl
  | succ d ih =>
    intro i hd hi'
    have hlt : i < xs.length := by omega
    have := ih (i + 1) (by omega) (by omega)
    rw [List.drop_eq_getElem_cons hlt, List.all_cons]
    by_cases h0 : xs[i] = 0
    · rw [show bitB xs[i] = true by simp [bitB, h0], Bool.true_and]
      exact go hC E0_ok (f48p3 std xs i) (by simp [hlt, h0]; omega) this
    · by_cases h1 : xs[i] = 1
      · rw [show bitB xs[i] = true by simp [bitB, h1], Bool.true_and]
        exact go hC E0_ok (f48p2 std xs i) (by simp [hlt, h1]; omega) this
      · rw [show bitB xs[i] = false by simp [bitB, h0, h1], Bool.false_and]
        exact fin hC E0_ok (f48p1 std xs i) (by simp [hlt, h0, h1]) rfl rfl
theorem l34 (n : Int) (cs : List AV) (hlen : cs.length ≤ 1000000) : ∀ (d i : Nat), cs.length - i = d → i ≤ cs.length →
    Ev C (f34h34_0a n cs i) (f34h34_0am n cs i) (FinQ 34 (.bool ((cs.drop i).all few1)) none) := by
  intro d
  induction d with
  | zero =>
    intro i hd hi'
    exact fin hC E0_ok (f34p4 std n cs i) (by simp; omega) (by rw [List.drop_of_length_le (by omega)]; rfl) rfl
  | succ d ih =>
    intro i hd hi'
    have hlt : i < cs.length := by omega
    rw [List.drop_eq_getElem_cons hlt, List.all_cons]
    by_cases h1 : (cs[i].toIs).length ≤ 26
    · rw [show few1 cs[i] = true by simp [few1, h1], Bool.true_and]
      exact go hC E0_ok (f34p3 std n cs i) (by simp [hlt]; omega) (ih (i + 1) (by omega) (by omega))
    · rw [show few1 cs[i] = false by simp [few1]; omega, Bool.false_and]
      exact fin hC E0_ok (f34p2 std n cs i) (by simp [hlt]; omega) rfl rfl
end
theorem idx164_ok (xs : List Int) (lo hi : Int) (hlen : xs.length ≤ 1000000) : Pure Try.prog 164 [.list (.ints .i64 xs), .fn 150 [.eptr (.int .i64 lo) 0, .eptr (.int .i64 hi) 0]] (.int .i64 (idxF (outP lo hi) xs 0)) none :=
  start (f164e_at xs lo hi) fun C hC => go hC E0_ok (f164p0 std xs lo hi) (by simp) (l164 hC xs lo hi hlen xs.length 0 (by omega) (by omega))
theorem idx165_ok (xs : List Int) (v : Int) (hlen : xs.length ≤ 1000000) : Pure Try.prog 165 [.list (.ints .i64 xs), .int .i64 v] (.int .i64 (idxF (fun x => decide (v = x)) xs 0)) none :=
  start (f165e_at xs v) fun C hC => go hC E0_ok (f165p0 std xs v) (by simp) (l165 hC xs v hlen xs.length 0 (by omega) (by omega))
theorem has_ok (xs : List Int) (v : Int) (hlen : xs.length ≤ 1000000) : Pure Try.prog 49 [.list (.ints .i64 xs), .int .i64 v] (.bool (hasB xs v)) none :=
  start (f49e_at xs v) fun C hC => go hC E0_ok (f49p0 std xs v) (by simp) (l49 hC xs v hlen xs.length 0 (by omega) (by omega))
theorem bits_ok (xs : List Int) (hlen : xs.length ≤ 1000000) : Pure Try.prog 48 [.list (.ints .i64 xs)] (.bool (xs.all bitB)) none :=
  start (f48e_at xs) fun C hC => go hC E0_ok (f48p0 std xs) (by simp) (l48 hC xs hlen xs.length 0 (by omega) (by omega))
theorem clone_ok (xs : List Int) (h : 0 < xs.length ∧ xs.length ≤ 4294967296) : Pure Try.prog 129 [.list (.ints .i64 xs)] (.row 0 0) (some ⟨3, 1, .ints .i64 xs⟩) :=
  start (f129e_at xs) fun C hC => fin hC E0_ok (f129p0 std xs) (by simp; omega) rfl rfl
def fewC (cs : List AV) : Bool := decide (cs.length ≤ 18) && cs.all few1
theorem fewC_ok (n : Int) (cs : List AV) : Pure Try.prog 34 [.agg (.gen [.int .i64 n, .list (.big (.ints .i64) cs)])] (.bool (fewC cs)) none :=
  start (f34e_at n cs) fun C hC => by
    by_cases h : cs.length ≤ 18
    · have e : fewC cs = (cs.drop 0).all few1 := by simp [fewC, h]
      rw [e]
      exact go hC E0_ok (f34p1 std n cs) (by simp; omega) (l34 hC n cs (by omega) cs.length 0 (by omega) (by omega))
    · exact fin hC E0_ok (f34p0 std n cs) (by simp; omega) (by rw [fewC, decide_eq_false h, Bool.false_and]) rfl
def k20 : Ctr := ⟨20, 0, fun _ a => match a with | [.list (.ints .i64 xs)] => some (decide (xs.length ≤ 4294967296), .list (.ints .i64 xs), newF) | _ => none⟩
theorem k20_ok : k20.OK Try.prog := fun pa args r fr h => by
  simp only [k20] at h
  split at h
  · simp only [Option.some.injEq, Prod.mk.injEq, decide_eq_true_eq] at h
    obtain ⟨h0, rfl, rfl⟩ := h
    exact copy_new _ h0
  · cases h
def k23 : Ctr := ⟨23, 0, fun _ a => match a with | [.list (.ints .i64 xs), .list (.ints .i64 ys)] => some (decide (xs.length ≤ 1000000), .bool (decide (xs = ys)), none) | _ => none⟩
theorem k23_ok : k23.OK Try.prog := fun pa args r fr h => by
  simp only [k23] at h
  split at h
  · simp only [Option.some.injEq, Prod.mk.injEq, decide_eq_true_eq] at h
    obtain ⟨h0, rfl, rfl⟩ := h
    exact ints_ok _ _ h0
  · cases h
def k34 : Ctr := ⟨34, 0, fun _ a => match a with | [.agg (.gen [.int .i64 n, .list (.big (.ints .i64) cs)])] => some (true, .bool (fewC cs), none) | _ => none⟩
theorem k34_ok : k34.OK Try.prog := fun pa args r fr h => by
  simp only [k34] at h
  split at h
  · cases h
    exact fewC_ok _ _
  · cases h
def k45 : Ctr := ⟨45, 0, fun _ a => match a with | [.int .i64 n, .int .i64 a, .int .i64 b] => some (true, .bool (decide (a ≤ n ∧ n ≤ b)), none) | _ => none⟩
theorem k45_ok : k45.OK Try.prog := fun pa args r fr h => by
  simp only [k45] at h
  split at h
  · cases h
    exact within45_ok _ _ _
  · cases h
def k48 : Ctr := ⟨48, 0, fun _ a => match a with | [.list (.ints .i64 xs)] => some (decide (xs.length ≤ 1000000), .bool (xs.all bitB), none) | _ => none⟩
theorem k48_ok : k48.OK Try.prog := fun pa args r fr h => by
  simp only [k48] at h
  split at h
  · simp only [Option.some.injEq, Prod.mk.injEq, decide_eq_true_eq] at h
    obtain ⟨h0, rfl, rfl⟩ := h
    exact bits_ok _ h0
  · cases h
def k49 : Ctr := ⟨49, 0, fun _ a => match a with | [.list (.ints .i64 xs), .int .i64 v] => some (decide (xs.length ≤ 1000000), .bool (hasB xs v), none) | _ => none⟩
theorem k49_ok : k49.OK Try.prog := fun pa args r fr h => by
  simp only [k49] at h
  split at h
  · simp only [Option.some.injEq, Prod.mk.injEq, decide_eq_true_eq] at h
    obtain ⟨h0, rfl, rfl⟩ := h
    exact has_ok _ _ h0
  · cases h
def k105 : Ctr := ⟨105, 0, fun _ a => match a with | [.list (.ints .i64 xs)] => some (decide (xs.length ≤ 1000000), .int .i64 (firstE xs), none) | _ => none⟩
theorem k105_ok : k105.OK Try.prog := fun pa args r fr h => by
  simp only [k105] at h
  split at h
  · simp only [Option.some.injEq, Prod.mk.injEq, decide_eq_true_eq] at h
    obtain ⟨h0, rfl, rfl⟩ := h
    exact first_ok _ h0
  · cases h
def k111 : Ctr := ⟨111, 0, fun _ a => match a with | [.bool b, .int .i64 e] => some (true, .int .i64 (unlessE b e), none) | _ => none⟩
theorem k111_ok : k111.OK Try.prog := fun pa args r fr h => by
  simp only [k111] at h
  split at h
  · cases h
    exact unless_ok _ _
  · cases h
def k112 : Ctr := ⟨112, 0, fun _ a => match a with | [.int .i64 n, .int .i64 a, .int .i64 b] => some (true, .bool (decide (a ≤ n ∧ n ≤ b)), none) | _ => none⟩
theorem k112_ok : k112.OK Try.prog := fun pa args r fr h => by
  simp only [k112] at h
  split at h
  · cases h
    exact within112_ok _ _ _
  · cases h
def k129 : Ctr := ⟨129, 0, fun _ a => match a with | [.list (.ints .i64 xs)] => some (decide (0 < xs.length ∧ xs.length ≤ 4294967296), .row 0 0, (some ⟨3, 1, .ints .i64 xs⟩)) | _ => none⟩
theorem k129_ok : k129.OK Try.prog := fun pa args r fr h => by
  simp only [k129] at h
  split at h
  · simp only [Option.some.injEq, Prod.mk.injEq, decide_eq_true_eq] at h
    obtain ⟨h0, rfl, rfl⟩ := h
    exact clone_ok _ h0
  · cases h
def k164 : Ctr := ⟨164, 0, fun _ a => match a with | [.list (.ints .i64 xs), .fn 150 [.eptr (.int .i64 lo) 0, .eptr (.int .i64 hi) 0]] => some (decide (xs.length ≤ 1000000), .int .i64 (idxF (outP lo hi) xs 0), none) | _ => none⟩
theorem k164_ok : k164.OK Try.prog := fun pa args r fr h => by
  simp only [k164] at h
  split at h
  · simp only [Option.some.injEq, Prod.mk.injEq, decide_eq_true_eq] at h
    obtain ⟨h0, rfl, rfl⟩ := h
    exact idx164_ok _ _ _ h0
  · cases h
def k165 : Ctr := ⟨165, 0, fun _ a => match a with | [.list (.ints .i64 xs), .int .i64 v] => some (decide (xs.length ≤ 1000000), .int .i64 (idxF (fun x => decide (v = x)) xs 0), none) | _ => none⟩
theorem k165_ok : k165.OK Try.prog := fun pa args r fr h => by
  simp only [k165] at h
  split at h
  · simp only [Option.some.injEq, Prod.mk.injEq, decide_eq_true_eq] at h
    obtain ⟨h0, rfl, rfl⟩ := h
    exact idx165_ok _ _ h0
  · cases h
def F1 : List Ctr := [k20, k23, k34, k45, k48, k49, k105, k111, k112, k129, k164, k165]
theorem F1_ok : CtrsOK Try.prog F1 := ⟨k20_ok, ⟨k23_ok, ⟨k34_ok, ⟨k45_ok, ⟨k48_ok, ⟨k49_ok, ⟨k105_ok, ⟨k111_ok, ⟨k112_ok, ⟨k129_ok, ⟨k164_ok, ⟨k165_ok, trivial⟩⟩⟩⟩⟩⟩⟩⟩⟩⟩⟩⟩
end Go.Proofs.Ytimmgjppippdiaa
