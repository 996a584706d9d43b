/- Paths of functions, printed by the explorer (Gx). No condition. -/
import Derived.Test.YtjhdnpmojhkbjaaNf
import Derived.KernelRfl
namespace Go.Proofs.Ytjhdnpmojhkbjaa
set_option maxRecDepth 100000
set_option linter.unusedVariables false
def ZCG (a : Int) (b : Int) (c : Int) (fs : List AV) : AFrame := { fn := 22, N := 101, env := [(0, AV.agg (Row.gen [AV.int .i64 a, AV.int .i64 b])), (1, AV.int .i64 c), (2, AV.list (Row.big (Sh.agg [Sh.int .i64, Sh.int .i64, Sh.int .i64, Sh.ints .i64]) fs))], todo := [.code a22.code], defs := [], rnd := none, ret := false, res := [ARes.tmp 6] }
def ZKq (a : Int) (b : Int) (c : Int) (fs : List AV) : List AFrame := [(ZCG a b c fs)]
theorem ZpL (a : Int) (b : Int) (c : Int) (fs : List AV) : Zal tab 22 [AV.agg (Row.gen [AV.int .i64 a, AV.int .i64 b]), AV.int .i64 c, AV.list (Row.big (Sh.agg [Sh.int .i64, Sh.int .i64, Sh.int .i64, Sh.ints .i64]) fs)] = some (ZCG a b c fs) := rfl
def Zbl (a b : Int) (x0 : List AV) (l1 : List Int) (n2 : Int) (b3 : Bool) : List AFrame := [{ fn := 22, N := 101, env := [(3, AV.ptr 22004 0 0 0), (7, AV.list (Row.big (Sh.agg [Sh.int .i64, Sh.int .i64, Sh.int .i64, Sh.ints .i64]) x0)), (8, AV.list (.ints .i64 l1)), (9, AV.nils), (10, AV.bool b3), (11, AV.nils), (12, AV.int .i64 n2)], todo := .code (ACode.gh [] Zq2) :: Zr2, defs := [], rnd := none, ret := false, res := [ARes.tmp 6] }]
def ZaY (a : Int) (b : Int) (x0 : List AV) (l1 : List Int) (n2 : Int) (b3 : Bool) : Zaa := [(22004, { base := 0, blks := [Blk.row 23 2 (Row.gen [AV.agg (Row.gen [AV.int .i64 a, AV.int .i64 b])])] })]
abbrev Zb4 (a : Int) (b : Int) (x0 : List AV) (l1 : List Int) (n2 : Int) (b3 : Bool) : List AFrame × Zaa := (Zbl a b x0 l1 n2 b3, ZaY a b x0 l1 n2 b3)
def ZfM (a b : Int) (x0 : List AV) (l1 : List Int) (n4 n5 n6 n7 : Int) (l8 : List Int) (b9 : Bool) (n10 : Int) : List AFrame := [{ fn := 22, N := 101, env := [(3, AV.ptr 22004 0 0 0), (7, AV.list (Row.big (Sh.agg [Sh.int .i64, Sh.int .i64, Sh.int .i64, Sh.ints .i64]) x0)), (8, AV.list (.ints .i64 l1)), (9, AV.nils), (10, AV.bool b9), (11, AV.nils), (12, AV.int .i64 n10), (13, AV.ptr 22014 0 0 0), (15, AV.int .i64 n4)], todo := .code (ACode.gh [] Zq7) :: ZrE, defs := [], rnd := none, ret := false, res := [ARes.tmp 6] }]
def ZeQ (a : Int) (b : Int) (x0 : List AV) (l1 : List Int) (n4 : Int) (n5 : Int) (n6 : Int) (n7 : Int) (l8 : List Int) (b9 : Bool) (n10 : Int) : Zaa := [(22004, { base := 0, blks := [Blk.row 23 2 (Row.gen [AV.agg (Row.gen [AV.int .i64 a, AV.int .i64 b])])] }), (22014, { base := 0, blks := [Blk.row 74 4 (Row.gen [AV.agg (Row.gen [AV.int .i64 n5, AV.int .i64 n6, AV.int .i64 n7, AV.list (.ints .i64 l8)])])] })]
abbrev Zb7 (a : Int) (b : Int) (x0 : List AV) (l1 : List Int) (n4 : Int) (n5 : Int) (n6 : Int) (n7 : Int) (l8 : List Int) (b9 : Bool) (n10 : Int) : List AFrame × Zaa := (ZfM a b x0 l1 n4 n5 n6 n7 l8 b9 n10, ZeQ a b x0 l1 n4 n5 n6 n7 l8 b9 n10)
def Zdy (a b : Int) (x0 : List AV) (l1 : List Int) (n11 : Int) (l12 : List Int) (n13 n14 n15 n16 : Int) (l17 : List Int) (b18 : Bool) : List AFrame := [{ fn := 22, N := 101, env := [(3, AV.ptr 22004 0 0 0), (7, AV.list (Row.big (Sh.agg [Sh.int .i64, Sh.int .i64, Sh.int .i64, Sh.ints .i64]) x0)), (8, AV.list (.ints .i64 l1)), (9, AV.nils), (10, AV.bool b18), (11, AV.row 22080 0), (12, AV.int .i64 n13), (13, AV.ptr 22014 0 0 0), (15, AV.int .i64 n11)], todo := .code (ACode.gh [] Zq7) :: ZrE, defs := [], rnd := none, ret := false, res := [ARes.tmp 6] }]
def ZcK (a : Int) (b : Int) (x0 : List AV) (l1 : List Int) (n11 : Int) (l12 : List Int) (n13 : Int) (n14 : Int) (n15 : Int) (n16 : Int) (l17 : List Int) (b18 : Bool) : Zaa := [(22004, { base := 0, blks := [Blk.row 23 2 (Row.gen [AV.agg (Row.gen [AV.int .i64 a, AV.int .i64 b])])] }), (22014, { base := 0, blks := [Blk.row 74 4 (Row.gen [AV.agg (Row.gen [AV.int .i64 n14, AV.int .i64 n15, AV.int .i64 n16, AV.list (.ints .i64 l17)])])] }), (22080, { base := 0, blks := [Blk.row 3 1 (.ints .i64 l12)] })]
abbrev Zgm (a : Int) (b : Int) (x0 : List AV) (l1 : List Int) (n11 : Int) (l12 : List Int) (n13 : Int) (n14 : Int) (n15 : Int) (n16 : Int) (l17 : List Int) (b18 : Bool) : List AFrame × Zaa := (Zdy a b x0 l1 n11 l12 n13 n14 n15 n16 l17 b18, ZcK a b x0 l1 n11 l12 n13 n14 n15 n16 l17 b18)
def Zfk (a b : Int) (x0 : List AV) (l1 : List Int) (n19 : Int) (x20 : List AV) (n21 n22 n23 n24 : Int) (l25 : List Int) (b26 : Bool) : List AFrame := [{ fn := 22, N := 101, env := [(3, AV.ptr 22004 0 0 0), (7, AV.list (Row.big (Sh.agg [Sh.int .i64, Sh.int .i64, Sh.int .i64, Sh.ints .i64]) x0)), (8, AV.list (.ints .i64 l1)), (9, AV.row 22100 0), (10, AV.bool b26), (11, AV.nils), (12, AV.int .i64 n21), (13, AV.ptr 22014 0 0 0), (15, AV.int .i64 n19)], todo := .code (ACode.gh [] Zq7) :: ZrE, defs := [], rnd := none, ret := false, res := [ARes.tmp 6] }]
def ZeF (a : Int) (b : Int) (x0 : List AV) (l1 : List Int) (n19 : Int) (x20 : List AV) (n21 : Int) (n22 : Int) (n23 : Int) (n24 : Int) (l25 : List Int) (b26 : Bool) : Zaa := [(22004, { base := 0, blks := [Blk.row 23 2 (Row.gen [AV.agg (Row.gen [AV.int .i64 a, AV.int .i64 b])])] }), (22014, { base := 0, blks := [Blk.row 74 4 (Row.gen [AV.agg (Row.gen [AV.int .i64 n22, AV.int .i64 n23, AV.int .i64 n24, AV.list (.ints .i64 l25)])])] }), (22100, { base := 0, blks := [Blk.row 57 3 (Row.big (Sh.agg [Sh.int .i64, Sh.int .i64, Sh.ints .i64]) x20)] })]
abbrev Zbn (a : Int) (b : Int) (x0 : List AV) (l1 : List Int) (n19 : Int) (x20 : List AV) (n21 : Int) (n22 : Int) (n23 : Int) (n24 : Int) (l25 : List Int) (b26 : Bool) : List AFrame × Zaa := (Zfk a b x0 l1 n19 x20 n21 n22 n23 n24 l25 b26, ZeF a b x0 l1 n19 x20 n21 n22 n23 n24 l25 b26)
def Zcm (a b : Int) (x0 : List AV) (l1 l12 : List Int) (b18 : Bool) (n27 : Int) : List AFrame := [{ fn := 22, N := 101, env := [(3, AV.ptr 22004 0 0 0), (7, AV.list (Row.big (Sh.agg [Sh.int .i64, Sh.int .i64, Sh.int .i64, Sh.ints .i64]) x0)), (8, AV.list (.ints .i64 l1)), (9, AV.nils), (10, AV.bool b18), (11, AV.row 22080 0), (12, AV.int .i64 n27)], todo := .code (ACode.gh [] Zq2) :: Zr2, defs := [], rnd := none, ret := false, res := [ARes.tmp 6] }]
def ZbM (a : Int) (b : Int) (x0 : List AV) (l1 : List Int) (l12 : List Int) (b18 : Bool) (n27 : Int) : Zaa := [(22004, { base := 0, blks := [Blk.row 23 2 (Row.gen [AV.agg (Row.gen [AV.int .i64 a, AV.int .i64 b])])] }), (22080, { base := 0, blks := [Blk.row 3 1 (.ints .i64 l12)] })]
abbrev Znk (a : Int) (b : Int) (x0 : List AV) (l1 : List Int) (l12 : List Int) (b18 : Bool) (n27 : Int) : List AFrame × Zaa := (Zcm a b x0 l1 l12 b18 n27, ZbM a b x0 l1 l12 b18 n27)
def ZdE (a b : Int) (x0 : List AV) (l1 : List Int) (x20 : List AV) (n28 : Int) (l29 : List Int) (n30 n31 n32 n33 : Int) (l34 : List Int) (b35 : Bool) : List AFrame := [{ fn := 22, N := 101, env := [(3, AV.ptr 22004 0 0 0), (7, AV.list (Row.big (Sh.agg [Sh.int .i64, Sh.int .i64, Sh.int .i64, Sh.ints .i64]) x0)), (8, AV.list (.ints .i64 l1)), (9, AV.row 22100 0), (10, AV.bool b35), (11, AV.row 22080 0), (12, AV.int .i64 n30), (13, AV.ptr 22014 0 0 0), (15, AV.int .i64 n28)], todo := .code (ACode.gh [] Zq7) :: ZrE, defs := [], rnd := none, ret := false, res := [ARes.tmp 6] }]
def Zcz (a : Int) (b : Int) (x0 : List AV) (l1 : List Int) (x20 : List AV) (n28 : Int) (l29 : List Int) (n30 : Int) (n31 : Int) (n32 : Int) (n33 : Int) (l34 : List Int) (b35 : Bool) : Zaa := [(22004, { base := 0, blks := [Blk.row 23 2 (Row.gen [AV.agg (Row.gen [AV.int .i64 a, AV.int .i64 b])])] }), (22014, { base := 0, blks := [Blk.row 74 4 (Row.gen [AV.agg (Row.gen [AV.int .i64 n31, AV.int .i64 n32, AV.int .i64 n33, AV.list (.ints .i64 l34)])])] }), (22080, { base := 0, blks := [Blk.row 3 1 (.ints .i64 l29)] }), (22100, { base := 0, blks := [Blk.row 57 3 (Row.big (Sh.agg [Sh.int .i64, Sh.int .i64, Sh.ints .i64]) x20)] })]
abbrev Zga (a : Int) (b : Int) (x0 : List AV) (l1 : List Int) (x20 : List AV) (n28 : Int) (l29 : List Int) (n30 : Int) (n31 : Int) (n32 : Int) (n33 : Int) (l34 : List Int) (b35 : Bool) : List AFrame × Zaa := (ZdE a b x0 l1 x20 n28 l29 n30 n31 n32 n33 l34 b35, Zcz a b x0 l1 x20 n28 l29 n30 n31 n32 n33 l34 b35)
def Zbh (a b : Int) (x0 : List AV) (l1 : List Int) (x20 : List AV) (n36 : Int) (b37 : Bool) : List AFrame := [{ fn := 22, N := 101, env := [(3, AV.ptr 22004 0 0 0), (7, AV.list (Row.big (Sh.agg [Sh.int .i64, Sh.int .i64, Sh.int .i64, Sh.ints .i64]) x0)), (8, AV.list (.ints .i64 l1)), (9, AV.row 22100 0), (10, AV.bool b37), (11, AV.nils), (12, AV.int .i64 n36)], todo := .code (ACode.gh [] Zq2) :: Zr2, defs := [], rnd := none, ret := false, res := [ARes.tmp 6] }]
def ZaX (a : Int) (b : Int) (x0 : List AV) (l1 : List Int) (x20 : List AV) (n36 : Int) (b37 : Bool) : Zaa := [(22004, { base := 0, blks := [Blk.row 23 2 (Row.gen [AV.agg (Row.gen [AV.int .i64 a, AV.int .i64 b])])] }), (22100, { base := 0, blks := [Blk.row 57 3 (Row.big (Sh.agg [Sh.int .i64, Sh.int .i64, Sh.ints .i64]) x20)] })]
abbrev ZcC (a : Int) (b : Int) (x0 : List AV) (l1 : List Int) (x20 : List AV) (n36 : Int) (b37 : Bool) : List AFrame × Zaa := (Zbh a b x0 l1 x20 n36 b37, ZaX a b x0 l1 x20 n36 b37)
def Zcp (a b : Int) (x0 : List AV) (l1 : List Int) (x20 : List AV) (l29 : List Int) (b35 : Bool) (n38 : Int) : List AFrame := [{ fn := 22, N := 101, env := [(3, AV.ptr 22004 0 0 0), (7, AV.list (Row.big (Sh.agg [Sh.int .i64, Sh.int .i64, Sh.int .i64, Sh.ints .i64]) x0)), (8, AV.list (.ints .i64 l1)), (9, AV.row 22100 0), (10, AV.bool b35), (11, AV.row 22080 0), (12, AV.int .i64 n38)], todo := .code (ACode.gh [] Zq2) :: Zr2, defs := [], rnd := none, ret := false, res := [ARes.tmp 6] }]
def ZbG (a : Int) (b : Int) (x0 : List AV) (l1 : List Int) (x20 : List AV) (l29 : List Int) (b35 : Bool) (n38 : Int) : Zaa := [(22004, { base := 0, blks := [Blk.row 23 2 (Row.gen [AV.agg (Row.gen [AV.int .i64 a, AV.int .i64 b])])] }), (22080, { base := 0, blks := [Blk.row 3 1 (.ints .i64 l29)] }), (22100, { base := 0, blks := [Blk.row 57 3 (Row.big (Sh.agg [Sh.int .i64, Sh.int .i64, Sh.ints .i64]) x20)] })]
abbrev Zof (a : Int) (b : Int) (x0 : List AV) (l1 : List Int) (x20 : List AV) (l29 : List Int) (b35 : Bool) (n38 : Int) : List AFrame × Zaa := (Zcp a b x0 l1 x20 l29 b35 n38, ZbG a b x0 l1 x20 l29 b35 n38)
theorem ZJh (A : Ar) (a b c : Int) (fs : List AV) : Zac A tab BOr 37 [] (ZKq a b c fs) [] =
  some (tr [9, 4] [decide (nmB fs = true)],
   Zb4 (a) (b) ((Zd4 c fs).1) ((Zd4 c fs).2) (0) (false)) := by kernel_rfl
theorem ZH0 (A : Ar) (a b : Int) (x0 : List AV) (l1 : List Int) (n2 : Int) (b3 : Bool) : Zac A tab BOr 58 [true, true, true, true, true, true] (Zbl a b x0 l1 n2 b3) (ZaY a b x0 l1 n2 b3) =
  some (tr [1, 1, 3, 16, 2, 1, 0, 3, 2, 5, 2, 4] [A.inR .i64 (A.add n2 1), A.eq ((A.nthA x0 (A.nat n2)).cellAt 2).toI 255, A.not false, A.not (A.eq (A.nth l1 (A.nat n2)) (A.add (A.nth l1 (A.nat (A.sub n2 1))) 1)), A.inR .i64 (A.add (A.nth l1 (A.nat (A.sub n2 1))) 1), Zab (Zab (A.le 0 (A.sub n2 1)) (Nat.blt (A.nat (A.sub n2 1)) (A.len l1))) true, A.inR .i64 (A.sub n2 1), Zab (Zab (A.le 0 n2) (Nat.blt (A.nat n2) (A.len l1))) true, b3, Zab (Zab (A.le 0 n2) (Nat.blt (A.nat n2) (A.lenA x0))) true, A.lt n2 (A.int (A.lenA x0))],
   Zb4 (a) (b) (x0) (l1) (A.add n2 1) (false)) := by kernel_rfl
theorem ZJN (A : Ar) (a b : Int) (x0 : List AV) (l1 : List Int) (n2 : Int) (b3 : Bool) : Zac A tab BOr 60 [true, true, true, true, true, false] (Zbl a b x0 l1 n2 b3) (ZaY a b x0 l1 n2 b3) =
  some (tr [6, 3, 16, 2, 1, 0, 3, 2, 5, 2, 4] [!A.eq ((A.nthA x0 (A.nat n2)).cellAt 2).toI 255, A.not false, A.not (A.eq (A.nth l1 (A.nat n2)) (A.add (A.nth l1 (A.nat (A.sub n2 1))) 1)), A.inR .i64 (A.add (A.nth l1 (A.nat (A.sub n2 1))) 1), Zab (Zab (A.le 0 (A.sub n2 1)) (Nat.blt (A.nat (A.sub n2 1)) (A.len l1))) true, A.inR .i64 (A.sub n2 1), Zab (Zab (A.le 0 n2) (Nat.blt (A.nat n2) (A.len l1))) true, b3, Zab (Zab (A.le 0 n2) (Nat.blt (A.nat n2) (A.lenA x0))) true, A.lt n2 (A.int (A.lenA x0))],
   Zb7 (a) (b) (x0) (l1) ((A.nthA x0 (A.nat n2)).cellAt 2).toI ((A.nthA x0 (A.nat n2)).cellAt 0).toI ((A.nthA x0 (A.nat n2)).cellAt 1).toI ((A.nthA x0 (A.nat n2)).cellAt 2).toI ((A.nthA x0 (A.nat n2)).cellAt 3).toIs (true) (n2)) := by kernel_rfl
theorem ZIA (A : Ar) (a b : Int) (x0 : List AV) (l1 : List Int) (n2 : Int) (b3 : Bool) : Zac A tab BOr 58 [true, true, false, true, true, true] (Zbl a b x0 l1 n2 b3) (ZaY a b x0 l1 n2 b3) =
  some (tr [1, 1, 3, 5, 10, 2, 1, 0, 3, 2, 5, 2, 4] [A.inR .i64 (A.add n2 1), A.eq ((A.nthA x0 (A.nat n2)).cellAt 2).toI 255, A.not false, A.not (A.eq ((A.nthA x0 (A.nat n2)).cellAt 2).toI 0), !A.not (A.eq (A.nth l1 (A.nat n2)) (A.add (A.nth l1 (A.nat (A.sub n2 1))) 1)), A.inR .i64 (A.add (A.nth l1 (A.nat (A.sub n2 1))) 1), Zab (Zab (A.le 0 (A.sub n2 1)) (Nat.blt (A.nat (A.sub n2 1)) (A.len l1))) true, A.inR .i64 (A.sub n2 1), Zab (Zab (A.le 0 n2) (Nat.blt (A.nat n2) (A.len l1))) true, b3, Zab (Zab (A.le 0 n2) (Nat.blt (A.nat n2) (A.lenA x0))) true, A.lt n2 (A.int (A.lenA x0))],
   Zb4 (a) (b) (x0) (l1) (A.add n2 1) (false)) := by kernel_rfl
theorem ZHt (A : Ar) (a b : Int) (x0 : List AV) (l1 : List Int) (n2 : Int) (b3 : Bool) : Zac A tab BOr 60 [true, true, false, true, true, false] (Zbl a b x0 l1 n2 b3) (ZaY a b x0 l1 n2 b3) =
  some (tr [6, 3, 5, 10, 2, 1, 0, 3, 2, 5, 2, 4] [!A.eq ((A.nthA x0 (A.nat n2)).cellAt 2).toI 255, A.not false, A.not (A.eq ((A.nthA x0 (A.nat n2)).cellAt 2).toI 0), !A.not (A.eq (A.nth l1 (A.nat n2)) (A.add (A.nth l1 (A.nat (A.sub n2 1))) 1)), A.inR .i64 (A.add (A.nth l1 (A.nat (A.sub n2 1))) 1), Zab (Zab (A.le 0 (A.sub n2 1)) (Nat.blt (A.nat (A.sub n2 1)) (A.len l1))) true, A.inR .i64 (A.sub n2 1), Zab (Zab (A.le 0 n2) (Nat.blt (A.nat n2) (A.len l1))) true, b3, Zab (Zab (A.le 0 n2) (Nat.blt (A.nat n2) (A.lenA x0))) true, A.lt n2 (A.int (A.lenA x0))],
   Zb7 (a) (b) (x0) (l1) ((A.nthA x0 (A.nat n2)).cellAt 2).toI ((A.nthA x0 (A.nat n2)).cellAt 0).toI ((A.nthA x0 (A.nat n2)).cellAt 1).toI ((A.nthA x0 (A.nat n2)).cellAt 2).toI ((A.nthA x0 (A.nat n2)).cellAt 3).toIs (true) (n2)) := by kernel_rfl
theorem ZGI (A : Ar) (a b : Int) (x0 : List AV) (l1 : List Int) (n2 : Int) (b3 : Bool) : Zac A tab BOr 48 [true, true, false, false, false] (Zbl a b x0 l1 n2 b3) (ZaY a b x0 l1 n2 b3) =
  some (tr [2, 3, 10, 2, 1, 0, 3, 2, 5, 2, 4] [!A.not b3, !A.not (A.eq ((A.nthA x0 (A.nat n2)).cellAt 2).toI 0), !A.not (A.eq (A.nth l1 (A.nat n2)) (A.add (A.nth l1 (A.nat (A.sub n2 1))) 1)), A.inR .i64 (A.add (A.nth l1 (A.nat (A.sub n2 1))) 1), Zab (Zab (A.le 0 (A.sub n2 1)) (Nat.blt (A.nat (A.sub n2 1)) (A.len l1))) true, A.inR .i64 (A.sub n2 1), Zab (Zab (A.le 0 n2) (Nat.blt (A.nat n2) (A.len l1))) true, b3, Zab (Zab (A.le 0 n2) (Nat.blt (A.nat n2) (A.lenA x0))) true, A.lt n2 (A.int (A.lenA x0))],
   Zb7 (a) (b) (x0) (l1) (0) ((A.nthA x0 (A.nat n2)).cellAt 0).toI ((A.nthA x0 (A.nat n2)).cellAt 1).toI ((A.nthA x0 (A.nat n2)).cellAt 2).toI ((A.nthA x0 (A.nat n2)).cellAt 3).toIs (b3) (n2)) := by kernel_rfl
theorem ZHY (A : Ar) (a b : Int) (x0 : List AV) (l1 : List Int) (n2 : Int) (b3 : Bool) : Zac A tab BOr 55 [true, false, false, true, true] (Zbl a b x0 l1 n2 b3) (ZaY a b x0 l1 n2 b3) =
  some (tr [1, 1, 3, 26, 5, 2, 4] [A.inR .i64 (A.add n2 1), A.eq ((A.nthA x0 (A.nat n2)).cellAt 2).toI 255, A.not b3, !b3, Zab (Zab (A.le 0 n2) (Nat.blt (A.nat n2) (A.lenA x0))) true, A.lt n2 (A.int (A.lenA x0))],
   Zb4 (a) (b) (x0) (l1) (A.add n2 1) (b3)) := by kernel_rfl
theorem ZI1 (A : Ar) (a b : Int) (x0 : List AV) (l1 : List Int) (n2 : Int) (b3 : Bool) : Zac A tab BOr 57 [true, false, false, true, false] (Zbl a b x0 l1 n2 b3) (ZaY a b x0 l1 n2 b3) =
  some (tr [6, 3, 26, 5, 2, 4] [!A.eq ((A.nthA x0 (A.nat n2)).cellAt 2).toI 255, A.not b3, !b3, Zab (Zab (A.le 0 n2) (Nat.blt (A.nat n2) (A.lenA x0))) true, A.lt n2 (A.int (A.lenA x0))],
   Zb7 (a) (b) (x0) (l1) ((A.nthA x0 (A.nat n2)).cellAt 2).toI ((A.nthA x0 (A.nat n2)).cellAt 0).toI ((A.nthA x0 (A.nat n2)).cellAt 1).toI ((A.nthA x0 (A.nat n2)).cellAt 2).toI ((A.nthA x0 (A.nat n2)).cellAt 3).toIs (true) (n2)) := by kernel_rfl
theorem ZBt (A : Ar) (a b : Int) (x0 : List AV) (l1 : List Int) (n2 : Int) (b3 : Bool) : ZaD A tab BOr 17 [false] 22 (Zbl a b x0 l1 n2 b3) (ZaY a b x0 l1 n2 b3) =
  some (tr [3, 4] [!A.lt n2 (A.int (A.lenA x0))],
   AV.nils, none) := by kernel_rfl
theorem ZIY (A : Ar) (a b : Int) (x0 : List AV) (l1 : List Int) (n4 n5 n6 n7 : Int) (l8 : List Int) (b9 : Bool) (n10 : Int) : Zac A tab BOr 33 [true, true, true] (ZfM a b x0 l1 n4 n5 n6 n7 l8 b9 n10) (ZeQ a b x0 l1 n4 n5 n6 n7 l8 b9 n10) =
  some (tr [1, 1, 1, 2, 0, 1, 5, 5] [A.inR .i64 (A.add n4 1), A.lt 0 (ZaM (A.app [] [A.nth l8 (A.nat n4)])), decide (Zc7 (A.app [] [A.nth l8 (A.nat n4)]) = true), Nat.ble (A.len [] + A.len [A.nth l8 (A.nat n4)]) 4294967296, List.all [AV.int .i64 (A.nth l8 (A.nat n4))] fun x => AV.bx x && Nat.beq (Zae A x) 1, Zab (Zab (A.le 0 n4) (Nat.blt (A.nat n4) (A.len l8))) true, A.lt n4 (A.int (A.len l8))],
   Zgm (a) (b) (x0) (l1) (A.add n4 1) (A.app [] [A.nth l8 (A.nat n4)]) (n10) (n5) (n6) (n7) (l8) (b9)) := by kernel_rfl
theorem ZCd (A : Ar) (a b : Int) (x0 : List AV) (l1 : List Int) (n4 n5 n6 n7 : Int) (l8 : List Int) (b9 : Bool) (n10 : Int) : Zac A tab BOr 20 [false] (ZfM a b x0 l1 n4 n5 n6 n7 l8 b9 n10) (ZeQ a b x0 l1 n4 n5 n6 n7 l8 b9 n10) =
  some (tr [1, 1, 5] [A.inR .i64 (A.add n10 1), !A.lt n4 (A.int (A.len l8))],
   Zb4 (a) (b) (x0) (l1) (A.add n10 1) (b9)) := by kernel_rfl
theorem ZDP (A : Ar) (a b : Int) (x0 : List AV) (l1 : List Int) (n11 : Int) (l12 : List Int) (n13 n14 n15 n16 : Int) (l17 : List Int) (b18 : Bool) : Zac A tab BOr 33 [true, true, true] (Zdy a b x0 l1 n11 l12 n13 n14 n15 n16 l17 b18) (ZcK a b x0 l1 n11 l12 n13 n14 n15 n16 l17 b18) =
  some (tr [1, 1, 1, 2, 0, 1, 3, 1, 5] [A.inR .i64 (A.add n11 1), A.lt 0 (ZaM (A.app l12 [A.nth l17 (A.nat n11)])), decide (Zc7 (A.app l12 [A.nth l17 (A.nat n11)]) = true), Nat.ble (A.len l12 + A.len [A.nth l17 (A.nat n11)]) 4294967296, List.all [AV.int .i64 (A.nth l17 (A.nat n11))] fun x => AV.bx x && Nat.beq (Zae A x) 1, Zab (Zab (A.le 0 n11) (Nat.blt (A.nat n11) (A.len l17))) true, decide (List.length l12 ≤ 4294967296), A.lt n11 (A.int (A.len l17))],
   Zgm (a) (b) (x0) (l1) (A.add n11 1) (A.app l12 [A.nth l17 (A.nat n11)]) (n13) (n14) (n15) (n16) (l17) (b18)) := by kernel_rfl
theorem ZFE (A : Ar) (a b : Int) (x0 : List AV) (l1 : List Int) (n11 : Int) (l12 : List Int) (n13 n14 n15 n16 : Int) (l17 : List Int) (b18 : Bool) : Zac A tab BOr 47 [true, true, false, true, false] (Zdy a b x0 l1 n11 l12 n13 n14 n15 n16 l17 b18) (ZcK a b x0 l1 n11 l12 n13 n14 n15 n16 l17 b18) =
  some (tr [1, 3, 0, 1, 0, 1, 0, 1, 0, 2, 1, 0, 1, 1, 2, 0, 1, 3, 1, 5] [A.inR .i64 (A.add n11 1), Zab (Nat.ble (A.lenA [AV.agg (Row.gen [.int .i64 (A.nth (A.app l12 [A.nth l17 (A.nat n11)]) (A.nat 0)), .int .i64 (A.nth (A.app l12 [A.nth l17 (A.nat n11)]) (A.nat 1)), .list (.ints .i64 (A.sub3 (A.app l12 [A.nth l17 (A.nat n11)]) (A.nat 3) (A.len (A.app l12 [A.nth l17 (A.nat n11)]) - A.nat 3)))])]) 4294967296) (Nat.blt 0 (A.lenA [AV.agg (Row.gen [.int .i64 (A.nth (A.app l12 [A.nth l17 (A.nat n11)]) (A.nat 0)), .int .i64 (A.nth (A.app l12 [A.nth l17 (A.nat n11)]) (A.nat 1)), .list (.ints .i64 (A.sub3 (A.app l12 [A.nth l17 (A.nat n11)]) (A.nat 3) (A.len (A.app l12 [A.nth l17 (A.nat n11)]) - A.nat 3)))])])), List.all [AV.agg (Row.gen [.int .i64 (A.nth (A.app l12 [A.nth l17 (A.nat n11)]) (A.nat 0)), .int .i64 (A.nth (A.app l12 [A.nth l17 (A.nat n11)]) (A.nat 1)), .list (.ints .i64 (A.sub3 (A.app l12 [A.nth l17 (A.nat n11)]) (A.nat 3) (A.len (A.app l12 [A.nth l17 (A.nat n11)]) - A.nat 3)))])] fun x => AV.bx x && Nat.beq (Zae A x) 3, Zab (Zab (Nat.ble (A.nat 3 + (A.len (A.app l12 [A.nth l17 (A.nat n11)]) - A.nat 3)) (A.len (A.app l12 [A.nth l17 (A.nat n11)]))) true) (decide (List.length (A.sub3 (A.app l12 [A.nth l17 (A.nat n11)]) (A.nat 3) (A.len (A.app l12 [A.nth l17 (A.nat n11)]) - A.nat 3)) ≤ 4294967296)), Zab (Zab (A.le 0 3) true) (Zab (Zab (Nat.ble (A.nat 3) (A.len (A.app l12 [A.nth l17 (A.nat n11)]))) (Nat.ble (A.len (A.app l12 [A.nth l17 (A.nat n11)])) (A.len (A.app l12 [A.nth l17 (A.nat n11)])))) true), Zab (Nat.blt (A.nat 1) (A.len (A.app l12 [A.nth l17 (A.nat n11)]))) true, Zab (A.le 0 1) (Nat.blt (A.nat 1) (A.len (A.app l12 [A.nth l17 (A.nat n11)]))), Zab (Nat.blt (A.nat 0) (A.len (A.app l12 [A.nth l17 (A.nat n11)]))) true, Zab (A.le 0 0) (Nat.blt (A.nat 0) (A.len (A.app l12 [A.nth l17 (A.nat n11)]))), A.not (A.eq (A.nth (A.app l12 [A.nth l17 (A.nat n11)]) (A.nat 0)) 255), Zab (Nat.blt (A.nat 0) (A.len (A.app l12 [A.nth l17 (A.nat n11)]))) true, Zab (A.le 0 0) (Nat.blt (A.nat 0) (A.len (A.app l12 [A.nth l17 (A.nat n11)]))), !A.lt 0 (ZaM (A.app l12 [A.nth l17 (A.nat n11)])), decide (Zc7 (A.app l12 [A.nth l17 (A.nat n11)]) = true), Nat.ble (A.len l12 + A.len [A.nth l17 (A.nat n11)]) 4294967296, List.all [AV.int .i64 (A.nth l17 (A.nat n11))] fun x => AV.bx x && Nat.beq (Zae A x) 1, Zab (Zab (A.le 0 n11) (Nat.blt (A.nat n11) (A.len l17))) true, decide (List.length l12 ≤ 4294967296), A.lt n11 (A.int (A.len l17))],
   Zbn (a) (b) (x0) (l1) (A.add n11 1) ([AV.agg (Row.gen [.int .i64 (A.nth (A.app l12 [A.nth l17 (A.nat n11)]) (A.nat 0)), .int .i64 (A.nth (A.app l12 [A.nth l17 (A.nat n11)]) (A.nat 1)), .list (.ints .i64 (A.sub3 (A.app l12 [A.nth l17 (A.nat n11)]) (A.nat 3) (A.len (A.app l12 [A.nth l17 (A.nat n11)]) - A.nat 3)))])]) (n13) (n14) (n15) (n16) (l17) (b18)) := by kernel_rfl
theorem ZCg (A : Ar) (a b : Int) (x0 : List AV) (l1 : List Int) (n11 : Int) (l12 : List Int) (n13 n14 n15 n16 : Int) (l17 : List Int) (b18 : Bool) : Zac A tab BOr 47 [true, true, false, false] (Zdy a b x0 l1 n11 l12 n13 n14 n15 n16 l17 b18) (ZcK a b x0 l1 n11 l12 n13 n14 n15 n16 l17 b18) =
  some (tr [1, 2, 1, 0, 1, 1, 2, 0, 1, 3, 1, 5] [A.inR .i64 (A.add n11 1), !A.not (A.eq (A.nth (A.app l12 [A.nth l17 (A.nat n11)]) (A.nat 0)) 255), Zab (Nat.blt (A.nat 0) (A.len (A.app l12 [A.nth l17 (A.nat n11)]))) true, Zab (A.le 0 0) (Nat.blt (A.nat 0) (A.len (A.app l12 [A.nth l17 (A.nat n11)]))), !A.lt 0 (ZaM (A.app l12 [A.nth l17 (A.nat n11)])), decide (Zc7 (A.app l12 [A.nth l17 (A.nat n11)]) = true), Nat.ble (A.len l12 + A.len [A.nth l17 (A.nat n11)]) 4294967296, List.all [AV.int .i64 (A.nth l17 (A.nat n11))] fun x => AV.bx x && Nat.beq (Zae A x) 1, Zab (Zab (A.le 0 n11) (Nat.blt (A.nat n11) (A.len l17))) true, decide (List.length l12 ≤ 4294967296), A.lt n11 (A.int (A.len l17))],
   Zb7 (a) (b) (x0) (l1) (A.add n11 1) (n14) (n15) (n16) (l17) (b18) (n13)) := by kernel_rfl
theorem ZC6 (A : Ar) (a b : Int) (x0 : List AV) (l1 : List Int) (n11 : Int) (l12 : List Int) (n13 n14 n15 n16 : Int) (l17 : List Int) (b18 : Bool) : Zac A tab BOr 20 [false] (Zdy a b x0 l1 n11 l12 n13 n14 n15 n16 l17 b18) (ZcK a b x0 l1 n11 l12 n13 n14 n15 n16 l17 b18) =
  some (tr [1, 1, 5] [A.inR .i64 (A.add n13 1), !A.lt n11 (A.int (A.len l17))],
   Znk (a) (b) (x0) (l1) (l12) (b18) (A.add n13 1)) := by kernel_rfl
theorem ZD5 (A : Ar) (a b : Int) (x0 : List AV) (l1 : List Int) (n19 : Int) (x20 : List AV) (n21 n22 n23 n24 : Int) (l25 : List Int) (b26 : Bool) : Zac A tab BOr 33 [true, true, true] (Zfk a b x0 l1 n19 x20 n21 n22 n23 n24 l25 b26) (ZeF a b x0 l1 n19 x20 n21 n22 n23 n24 l25 b26) =
  some (tr [1, 1, 1, 2, 0, 1, 5, 5] [A.inR .i64 (A.add n19 1), A.lt 0 (ZaM (A.app [] [A.nth l25 (A.nat n19)])), decide (Zc7 (A.app [] [A.nth l25 (A.nat n19)]) = true), Nat.ble (A.len [] + A.len [A.nth l25 (A.nat n19)]) 4294967296, List.all [AV.int .i64 (A.nth l25 (A.nat n19))] fun x => AV.bx x && Nat.beq (Zae A x) 1, Zab (Zab (A.le 0 n19) (Nat.blt (A.nat n19) (A.len l25))) true, A.lt n19 (A.int (A.len l25))],
   Zga (a) (b) (x0) (l1) (x20) (A.add n19 1) (A.app [] [A.nth l25 (A.nat n19)]) (n21) (n22) (n23) (n24) (l25) (b26)) := by kernel_rfl
theorem ZCV (A : Ar) (a b : Int) (x0 : List AV) (l1 : List Int) (n19 : Int) (x20 : List AV) (n21 n22 n23 n24 : Int) (l25 : List Int) (b26 : Bool) : Zac A tab BOr 20 [false] (Zfk a b x0 l1 n19 x20 n21 n22 n23 n24 l25 b26) (ZeF a b x0 l1 n19 x20 n21 n22 n23 n24 l25 b26) =
  some (tr [1, 1, 5] [A.inR .i64 (A.add n21 1), !A.lt n19 (A.int (A.len l25))],
   ZcC (a) (b) (x0) (l1) (x20) (A.add n21 1) (b26)) := by kernel_rfl
theorem ZFz (A : Ar) (a b : Int) (x0 : List AV) (l1 l12 : List Int) (b18 : Bool) (n27 : Int) : Zac A tab BOr 58 [true, true, true, true, true, true] (Zcm a b x0 l1 l12 b18 n27) (ZbM a b x0 l1 l12 b18 n27) =
  some (tr [1, 1, 3, 16, 2, 1, 0, 3, 2, 5, 2, 4] [A.inR .i64 (A.add n27 1), A.eq ((A.nthA x0 (A.nat n27)).cellAt 2).toI 255, A.not false, A.not (A.eq (A.nth l1 (A.nat n27)) (A.add (A.nth l1 (A.nat (A.sub n27 1))) 1)), A.inR .i64 (A.add (A.nth l1 (A.nat (A.sub n27 1))) 1), Zab (Zab (A.le 0 (A.sub n27 1)) (Nat.blt (A.nat (A.sub n27 1)) (A.len l1))) true, A.inR .i64 (A.sub n27 1), Zab (Zab (A.le 0 n27) (Nat.blt (A.nat n27) (A.len l1))) true, b18, Zab (Zab (A.le 0 n27) (Nat.blt (A.nat n27) (A.lenA x0))) true, A.lt n27 (A.int (A.lenA x0))],
   Zb4 (a) (b) (x0) (l1) (A.add n27 1) (false)) := by kernel_rfl
theorem ZCT (A : Ar) (a b : Int) (x0 : List AV) (l1 l12 : List Int) (b18 : Bool) (n27 : Int) : Zac A tab BOr 60 [true, true, true, true, true, false] (Zcm a b x0 l1 l12 b18 n27) (ZbM a b x0 l1 l12 b18 n27) =
  some (tr [6, 3, 16, 2, 1, 0, 3, 2, 5, 2, 4] [!A.eq ((A.nthA x0 (A.nat n27)).cellAt 2).toI 255, A.not false, A.not (A.eq (A.nth l1 (A.nat n27)) (A.add (A.nth l1 (A.nat (A.sub n27 1))) 1)), A.inR .i64 (A.add (A.nth l1 (A.nat (A.sub n27 1))) 1), Zab (Zab (A.le 0 (A.sub n27 1)) (Nat.blt (A.nat (A.sub n27 1)) (A.len l1))) true, A.inR .i64 (A.sub n27 1), Zab (Zab (A.le 0 n27) (Nat.blt (A.nat n27) (A.len l1))) true, b18, Zab (Zab (A.le 0 n27) (Nat.blt (A.nat n27) (A.lenA x0))) true, A.lt n27 (A.int (A.lenA x0))],
   Zb7 (a) (b) (x0) (l1) ((A.nthA x0 (A.nat n27)).cellAt 2).toI ((A.nthA x0 (A.nat n27)).cellAt 0).toI ((A.nthA x0 (A.nat n27)).cellAt 1).toI ((A.nthA x0 (A.nat n27)).cellAt 2).toI ((A.nthA x0 (A.nat n27)).cellAt 3).toIs (true) (n27)) := by kernel_rfl
theorem ZFj (A : Ar) (a b : Int) (x0 : List AV) (l1 l12 : List Int) (b18 : Bool) (n27 : Int) : Zac A tab BOr 58 [true, true, false, true, true, true] (Zcm a b x0 l1 l12 b18 n27) (ZbM a b x0 l1 l12 b18 n27) =
  some (tr [1, 1, 3, 5, 3, 6, 2, 1, 0, 3, 2, 5, 2, 4] [A.inR .i64 (A.add n27 1), A.eq ((A.nthA x0 (A.nat n27)).cellAt 2).toI 255, A.not false, A.not (A.eq ((A.nthA x0 (A.nat n27)).cellAt 2).toI (Zec a l12 ((A.nthA x0 (A.nat n27)).cellAt 3).toIs)), decide (ZnX a l12 ((A.nthA x0 (A.nat n27)).cellAt 3).toIs = true), !A.not (A.eq (A.nth l1 (A.nat n27)) (A.add (A.nth l1 (A.nat (A.sub n27 1))) 1)), A.inR .i64 (A.add (A.nth l1 (A.nat (A.sub n27 1))) 1), Zab (Zab (A.le 0 (A.sub n27 1)) (Nat.blt (A.nat (A.sub n27 1)) (A.len l1))) true, A.inR .i64 (A.sub n27 1), Zab (Zab (A.le 0 n27) (Nat.blt (A.nat n27) (A.len l1))) true, b18, Zab (Zab (A.le 0 n27) (Nat.blt (A.nat n27) (A.lenA x0))) true, A.lt n27 (A.int (A.lenA x0))],
   Zb4 (a) (b) (x0) (l1) (A.add n27 1) (false)) := by kernel_rfl
theorem ZBV (A : Ar) (a b : Int) (x0 : List AV) (l1 l12 : List Int) (b18 : Bool) (n27 : Int) : Zac A tab BOr 60 [true, true, false, true, true, false] (Zcm a b x0 l1 l12 b18 n27) (ZbM a b x0 l1 l12 b18 n27) =
  some (tr [6, 3, 5, 3, 6, 2, 1, 0, 3, 2, 5, 2, 4] [!A.eq ((A.nthA x0 (A.nat n27)).cellAt 2).toI 255, A.not false, A.not (A.eq ((A.nthA x0 (A.nat n27)).cellAt 2).toI (Zec a l12 ((A.nthA x0 (A.nat n27)).cellAt 3).toIs)), decide (ZnX a l12 ((A.nthA x0 (A.nat n27)).cellAt 3).toIs = true), !A.not (A.eq (A.nth l1 (A.nat n27)) (A.add (A.nth l1 (A.nat (A.sub n27 1))) 1)), A.inR .i64 (A.add (A.nth l1 (A.nat (A.sub n27 1))) 1), Zab (Zab (A.le 0 (A.sub n27 1)) (Nat.blt (A.nat (A.sub n27 1)) (A.len l1))) true, A.inR .i64 (A.sub n27 1), Zab (Zab (A.le 0 n27) (Nat.blt (A.nat n27) (A.len l1))) true, b18, Zab (Zab (A.le 0 n27) (Nat.blt (A.nat n27) (A.lenA x0))) true, A.lt n27 (A.int (A.lenA x0))],
   Zb7 (a) (b) (x0) (l1) ((A.nthA x0 (A.nat n27)).cellAt 2).toI ((A.nthA x0 (A.nat n27)).cellAt 0).toI ((A.nthA x0 (A.nat n27)).cellAt 1).toI ((A.nthA x0 (A.nat n27)).cellAt 2).toI ((A.nthA x0 (A.nat n27)).cellAt 3).toIs (true) (n27)) := by kernel_rfl
theorem ZFT (A : Ar) (a b : Int) (x0 : List AV) (l1 l12 : List Int) (b18 : Bool) (n27 : Int) : Zac A tab BOr 48 [true, true, false, false, false] (Zcm a b x0 l1 l12 b18 n27) (ZbM a b x0 l1 l12 b18 n27) =
  some (tr [2, 3, 3, 6, 2, 1, 0, 3, 2, 5, 2, 4] [!A.not b18, !A.not (A.eq ((A.nthA x0 (A.nat n27)).cellAt 2).toI (Zec a l12 ((A.nthA x0 (A.nat n27)).cellAt 3).toIs)), decide (ZnX a l12 ((A.nthA x0 (A.nat n27)).cellAt 3).toIs = true), !A.not (A.eq (A.nth l1 (A.nat n27)) (A.add (A.nth l1 (A.nat (A.sub n27 1))) 1)), A.inR .i64 (A.add (A.nth l1 (A.nat (A.sub n27 1))) 1), Zab (Zab (A.le 0 (A.sub n27 1)) (Nat.blt (A.nat (A.sub n27 1)) (A.len l1))) true, A.inR .i64 (A.sub n27 1), Zab (Zab (A.le 0 n27) (Nat.blt (A.nat n27) (A.len l1))) true, b18, Zab (Zab (A.le 0 n27) (Nat.blt (A.nat n27) (A.lenA x0))) true, A.lt n27 (A.int (A.lenA x0))],
   Zgm (a) (b) (x0) (l1) (0) (l12) (n27) ((A.nthA x0 (A.nat n27)).cellAt 0).toI ((A.nthA x0 (A.nat n27)).cellAt 1).toI ((A.nthA x0 (A.nat n27)).cellAt 2).toI ((A.nthA x0 (A.nat n27)).cellAt 3).toIs (b18)) := by kernel_rfl
theorem ZFQ (A : Ar) (a b : Int) (x0 : List AV) (l1 l12 : List Int) (b18 : Bool) (n27 : Int) : ZaD A tab BOr 17 [false] 22 (Zcm a b x0 l1 l12 b18 n27) (ZbM a b x0 l1 l12 b18 n27) =
  some (tr [3, 4] [!A.lt n27 (A.int (A.lenA x0))],
   AV.nils, none) := by kernel_rfl
theorem ZBf (A : Ar) (a b : Int) (x0 : List AV) (l1 : List Int) (x20 : List AV) (n28 : Int) (l29 : List Int) (n30 n31 n32 n33 : Int) (l34 : List Int) (b35 : Bool) : Zac A tab BOr 33 [true, true, true] (ZdE a b x0 l1 x20 n28 l29 n30 n31 n32 n33 l34 b35) (Zcz a b x0 l1 x20 n28 l29 n30 n31 n32 n33 l34 b35) =
  some (tr [1, 1, 1, 2, 0, 1, 3, 1, 5] [A.inR .i64 (A.add n28 1), A.lt 0 (ZaM (A.app l29 [A.nth l34 (A.nat n28)])), decide (Zc7 (A.app l29 [A.nth l34 (A.nat n28)]) = true), Nat.ble (A.len l29 + A.len [A.nth l34 (A.nat n28)]) 4294967296, List.all [AV.int .i64 (A.nth l34 (A.nat n28))] fun x => AV.bx x && Nat.beq (Zae A x) 1, Zab (Zab (A.le 0 n28) (Nat.blt (A.nat n28) (A.len l34))) true, decide (List.length l29 ≤ 4294967296), A.lt n28 (A.int (A.len l34))],
   Zga (a) (b) (x0) (l1) (x20) (A.add n28 1) (A.app l29 [A.nth l34 (A.nat n28)]) (n30) (n31) (n32) (n33) (l34) (b35)) := by kernel_rfl
theorem ZEx (A : Ar) (a b : Int) (x0 : List AV) (l1 : List Int) (x20 : List AV) (n28 : Int) (l29 : List Int) (n30 n31 n32 n33 : Int) (l34 : List Int) (b35 : Bool) : Zac A tab BOr 47 [true, true, false, true, false] (ZdE a b x0 l1 x20 n28 l29 n30 n31 n32 n33 l34 b35) (Zcz a b x0 l1 x20 n28 l29 n30 n31 n32 n33 l34 b35) =
  some (tr [1, 3, 0, 1, 0, 1, 0, 1, 0, 2, 1, 0, 1, 1, 2, 0, 1, 3, 1, 5] [A.inR .i64 (A.add n28 1), Nat.ble (A.lenA x20 + A.lenA [AV.agg (Row.gen [.int .i64 (A.nth (A.app l29 [A.nth l34 (A.nat n28)]) (A.nat 0)), .int .i64 (A.nth (A.app l29 [A.nth l34 (A.nat n28)]) (A.nat 1)), .list (.ints .i64 (A.sub3 (A.app l29 [A.nth l34 (A.nat n28)]) (A.nat 3) (A.len (A.app l29 [A.nth l34 (A.nat n28)]) - A.nat 3)))])]) 4294967296, List.all [AV.agg (Row.gen [.int .i64 (A.nth (A.app l29 [A.nth l34 (A.nat n28)]) (A.nat 0)), .int .i64 (A.nth (A.app l29 [A.nth l34 (A.nat n28)]) (A.nat 1)), .list (.ints .i64 (A.sub3 (A.app l29 [A.nth l34 (A.nat n28)]) (A.nat 3) (A.len (A.app l29 [A.nth l34 (A.nat n28)]) - A.nat 3)))])] fun x => AV.bx x && Nat.beq (Zae A x) 3, Zab (Zab (Nat.ble (A.nat 3 + (A.len (A.app l29 [A.nth l34 (A.nat n28)]) - A.nat 3)) (A.len (A.app l29 [A.nth l34 (A.nat n28)]))) true) (decide (List.length (A.sub3 (A.app l29 [A.nth l34 (A.nat n28)]) (A.nat 3) (A.len (A.app l29 [A.nth l34 (A.nat n28)]) - A.nat 3)) ≤ 4294967296)), Zab (Zab (A.le 0 3) true) (Zab (Zab (Nat.ble (A.nat 3) (A.len (A.app l29 [A.nth l34 (A.nat n28)]))) (Nat.ble (A.len (A.app l29 [A.nth l34 (A.nat n28)])) (A.len (A.app l29 [A.nth l34 (A.nat n28)])))) true), Zab (Nat.blt (A.nat 1) (A.len (A.app l29 [A.nth l34 (A.nat n28)]))) true, Zab (A.le 0 1) (Nat.blt (A.nat 1) (A.len (A.app l29 [A.nth l34 (A.nat n28)]))), Zab (Nat.blt (A.nat 0) (A.len (A.app l29 [A.nth l34 (A.nat n28)]))) true, Zab (A.le 0 0) (Nat.blt (A.nat 0) (A.len (A.app l29 [A.nth l34 (A.nat n28)]))), A.not (A.eq (A.nth (A.app l29 [A.nth l34 (A.nat n28)]) (A.nat 0)) 255), Zab (Nat.blt (A.nat 0) (A.len (A.app l29 [A.nth l34 (A.nat n28)]))) true, Zab (A.le 0 0) (Nat.blt (A.nat 0) (A.len (A.app l29 [A.nth l34 (A.nat n28)]))), !A.lt 0 (ZaM (A.app l29 [A.nth l34 (A.nat n28)])), decide (Zc7 (A.app l29 [A.nth l34 (A.nat n28)]) = true), Nat.ble (A.len l29 + A.len [A.nth l34 (A.nat n28)]) 4294967296, List.all [AV.int .i64 (A.nth l34 (A.nat n28))] fun x => AV.bx x && Nat.beq (Zae A x) 1, Zab (Zab (A.le 0 n28) (Nat.blt (A.nat n28) (A.len l34))) true, decide (List.length l29 ≤ 4294967296), A.lt n28 (A.int (A.len l34))],
   Zbn (a) (b) (x0) (l1) (A.add n28 1) (A.appA x20 [AV.agg (Row.gen [.int .i64 (A.nth (A.app l29 [A.nth l34 (A.nat n28)]) (A.nat 0)), .int .i64 (A.nth (A.app l29 [A.nth l34 (A.nat n28)]) (A.nat 1)), .list (.ints .i64 (A.sub3 (A.app l29 [A.nth l34 (A.nat n28)]) (A.nat 3) (A.len (A.app l29 [A.nth l34 (A.nat n28)]) - A.nat 3)))])]) (n30) (n31) (n32) (n33) (l34) (b35)) := by kernel_rfl
theorem ZDj (A : Ar) (a b : Int) (x0 : List AV) (l1 : List Int) (x20 : List AV) (n28 : Int) (l29 : List Int) (n30 n31 n32 n33 : Int) (l34 : List Int) (b35 : Bool) : Zac A tab BOr 47 [true, true, false, false] (ZdE a b x0 l1 x20 n28 l29 n30 n31 n32 n33 l34 b35) (Zcz a b x0 l1 x20 n28 l29 n30 n31 n32 n33 l34 b35) =
  some (tr [1, 2, 1, 0, 1, 1, 2, 0, 1, 3, 1, 5] [A.inR .i64 (A.add n28 1), !A.not (A.eq (A.nth (A.app l29 [A.nth l34 (A.nat n28)]) (A.nat 0)) 255), Zab (Nat.blt (A.nat 0) (A.len (A.app l29 [A.nth l34 (A.nat n28)]))) true, Zab (A.le 0 0) (Nat.blt (A.nat 0) (A.len (A.app l29 [A.nth l34 (A.nat n28)]))), !A.lt 0 (ZaM (A.app l29 [A.nth l34 (A.nat n28)])), decide (Zc7 (A.app l29 [A.nth l34 (A.nat n28)]) = true), Nat.ble (A.len l29 + A.len [A.nth l34 (A.nat n28)]) 4294967296, List.all [AV.int .i64 (A.nth l34 (A.nat n28))] fun x => AV.bx x && Nat.beq (Zae A x) 1, Zab (Zab (A.le 0 n28) (Nat.blt (A.nat n28) (A.len l34))) true, decide (List.length l29 ≤ 4294967296), A.lt n28 (A.int (A.len l34))],
   Zbn (a) (b) (x0) (l1) (A.add n28 1) (x20) (n30) (n31) (n32) (n33) (l34) (b35)) := by kernel_rfl
theorem ZCU (A : Ar) (a b : Int) (x0 : List AV) (l1 : List Int) (x20 : List AV) (n28 : Int) (l29 : List Int) (n30 n31 n32 n33 : Int) (l34 : List Int) (b35 : Bool) : Zac A tab BOr 20 [false] (ZdE a b x0 l1 x20 n28 l29 n30 n31 n32 n33 l34 b35) (Zcz a b x0 l1 x20 n28 l29 n30 n31 n32 n33 l34 b35) =
  some (tr [1, 1, 5] [A.inR .i64 (A.add n30 1), !A.lt n28 (A.int (A.len l34))],
   Zof (a) (b) (x0) (l1) (x20) (l29) (b35) (A.add n30 1)) := by kernel_rfl
theorem ZEo (A : Ar) (a b : Int) (x0 : List AV) (l1 : List Int) (x20 : List AV) (n36 : Int) (b37 : Bool) : Zac A tab BOr 58 [true, true, true, true, true, true] (Zbh a b x0 l1 x20 n36 b37) (ZaX a b x0 l1 x20 n36 b37) =
  some (tr [1, 1, 3, 16, 2, 1, 0, 3, 2, 5, 2, 4] [A.inR .i64 (A.add n36 1), A.eq ((A.nthA x0 (A.nat n36)).cellAt 2).toI 255, A.not false, A.not (A.eq (A.nth l1 (A.nat n36)) (A.add (A.nth l1 (A.nat (A.sub n36 1))) 1)), A.inR .i64 (A.add (A.nth l1 (A.nat (A.sub n36 1))) 1), Zab (Zab (A.le 0 (A.sub n36 1)) (Nat.blt (A.nat (A.sub n36 1)) (A.len l1))) true, A.inR .i64 (A.sub n36 1), Zab (Zab (A.le 0 n36) (Nat.blt (A.nat n36) (A.len l1))) true, b37, Zab (Zab (A.le 0 n36) (Nat.blt (A.nat n36) (A.lenA x0))) true, A.lt n36 (A.int (A.lenA x0))],
   ZcC (a) (b) (x0) (l1) (x20) (A.add n36 1) (false)) := by kernel_rfl
theorem ZA3 (A : Ar) (a b : Int) (x0 : List AV) (l1 : List Int) (x20 : List AV) (n36 : Int) (b37 : Bool) : Zac A tab BOr 60 [true, true, true, true, true, false] (Zbh a b x0 l1 x20 n36 b37) (ZaX a b x0 l1 x20 n36 b37) =
  some (tr [6, 3, 16, 2, 1, 0, 3, 2, 5, 2, 4] [!A.eq ((A.nthA x0 (A.nat n36)).cellAt 2).toI 255, A.not false, A.not (A.eq (A.nth l1 (A.nat n36)) (A.add (A.nth l1 (A.nat (A.sub n36 1))) 1)), A.inR .i64 (A.add (A.nth l1 (A.nat (A.sub n36 1))) 1), Zab (Zab (A.le 0 (A.sub n36 1)) (Nat.blt (A.nat (A.sub n36 1)) (A.len l1))) true, A.inR .i64 (A.sub n36 1), Zab (Zab (A.le 0 n36) (Nat.blt (A.nat n36) (A.len l1))) true, b37, Zab (Zab (A.le 0 n36) (Nat.blt (A.nat n36) (A.lenA x0))) true, A.lt n36 (A.int (A.lenA x0))],
   Zbn (a) (b) (x0) (l1) ((A.nthA x0 (A.nat n36)).cellAt 2).toI (x20) (n36) ((A.nthA x0 (A.nat n36)).cellAt 0).toI ((A.nthA x0 (A.nat n36)).cellAt 1).toI ((A.nthA x0 (A.nat n36)).cellAt 2).toI ((A.nthA x0 (A.nat n36)).cellAt 3).toIs (true)) := by kernel_rfl
theorem ZBG (A : Ar) (a b : Int) (x0 : List AV) (l1 : List Int) (x20 : List AV) (n36 : Int) (b37 : Bool) : Zac A tab BOr 58 [true, true, false, true, true, true] (Zbh a b x0 l1 x20 n36 b37) (ZaX a b x0 l1 x20 n36 b37) =
  some (tr [1, 1, 3, 5, 10, 2, 1, 0, 3, 2, 5, 2, 4] [A.inR .i64 (A.add n36 1), A.eq ((A.nthA x0 (A.nat n36)).cellAt 2).toI 255, A.not false, A.not (A.eq ((A.nthA x0 (A.nat n36)).cellAt 2).toI 0), !A.not (A.eq (A.nth l1 (A.nat n36)) (A.add (A.nth l1 (A.nat (A.sub n36 1))) 1)), A.inR .i64 (A.add (A.nth l1 (A.nat (A.sub n36 1))) 1), Zab (Zab (A.le 0 (A.sub n36 1)) (Nat.blt (A.nat (A.sub n36 1)) (A.len l1))) true, A.inR .i64 (A.sub n36 1), Zab (Zab (A.le 0 n36) (Nat.blt (A.nat n36) (A.len l1))) true, b37, Zab (Zab (A.le 0 n36) (Nat.blt (A.nat n36) (A.lenA x0))) true, A.lt n36 (A.int (A.lenA x0))],
   ZcC (a) (b) (x0) (l1) (x20) (A.add n36 1) (false)) := by kernel_rfl
theorem ZAj (A : Ar) (a b : Int) (x0 : List AV) (l1 : List Int) (x20 : List AV) (n36 : Int) (b37 : Bool) : Zac A tab BOr 60 [true, true, false, true, true, false] (Zbh a b x0 l1 x20 n36 b37) (ZaX a b x0 l1 x20 n36 b37) =
  some (tr [6, 3, 5, 10, 2, 1, 0, 3, 2, 5, 2, 4] [!A.eq ((A.nthA x0 (A.nat n36)).cellAt 2).toI 255, A.not false, A.not (A.eq ((A.nthA x0 (A.nat n36)).cellAt 2).toI 0), !A.not (A.eq (A.nth l1 (A.nat n36)) (A.add (A.nth l1 (A.nat (A.sub n36 1))) 1)), A.inR .i64 (A.add (A.nth l1 (A.nat (A.sub n36 1))) 1), Zab (Zab (A.le 0 (A.sub n36 1)) (Nat.blt (A.nat (A.sub n36 1)) (A.len l1))) true, A.inR .i64 (A.sub n36 1), Zab (Zab (A.le 0 n36) (Nat.blt (A.nat n36) (A.len l1))) true, b37, Zab (Zab (A.le 0 n36) (Nat.blt (A.nat n36) (A.lenA x0))) true, A.lt n36 (A.int (A.lenA x0))],
   Zbn (a) (b) (x0) (l1) ((A.nthA x0 (A.nat n36)).cellAt 2).toI (x20) (n36) ((A.nthA x0 (A.nat n36)).cellAt 0).toI ((A.nthA x0 (A.nat n36)).cellAt 1).toI ((A.nthA x0 (A.nat n36)).cellAt 2).toI ((A.nthA x0 (A.nat n36)).cellAt 3).toIs (true)) := by kernel_rfl
theorem ZAd (A : Ar) (a b : Int) (x0 : List AV) (l1 : List Int) (x20 : List AV) (n36 : Int) (b37 : Bool) : Zac A tab BOr 48 [true, true, false, false, false] (Zbh a b x0 l1 x20 n36 b37) (ZaX a b x0 l1 x20 n36 b37) =
  some (tr [2, 3, 10, 2, 1, 0, 3, 2, 5, 2, 4] [!A.not b37, !A.not (A.eq ((A.nthA x0 (A.nat n36)).cellAt 2).toI 0), !A.not (A.eq (A.nth l1 (A.nat n36)) (A.add (A.nth l1 (A.nat (A.sub n36 1))) 1)), A.inR .i64 (A.add (A.nth l1 (A.nat (A.sub n36 1))) 1), Zab (Zab (A.le 0 (A.sub n36 1)) (Nat.blt (A.nat (A.sub n36 1)) (A.len l1))) true, A.inR .i64 (A.sub n36 1), Zab (Zab (A.le 0 n36) (Nat.blt (A.nat n36) (A.len l1))) true, b37, Zab (Zab (A.le 0 n36) (Nat.blt (A.nat n36) (A.lenA x0))) true, A.lt n36 (A.int (A.lenA x0))],
   Zbn (a) (b) (x0) (l1) (0) (x20) (n36) ((A.nthA x0 (A.nat n36)).cellAt 0).toI ((A.nthA x0 (A.nat n36)).cellAt 1).toI ((A.nthA x0 (A.nat n36)).cellAt 2).toI ((A.nthA x0 (A.nat n36)).cellAt 3).toIs (b37)) := by kernel_rfl
theorem ZzV (A : Ar) (a b : Int) (x0 : List AV) (l1 : List Int) (x20 : List AV) (n36 : Int) (b37 : Bool) : Zac A tab BOr 55 [true, false, false, true, true] (Zbh a b x0 l1 x20 n36 b37) (ZaX a b x0 l1 x20 n36 b37) =
  some (tr [1, 1, 3, 26, 5, 2, 4] [A.inR .i64 (A.add n36 1), A.eq ((A.nthA x0 (A.nat n36)).cellAt 2).toI 255, A.not b37, !b37, Zab (Zab (A.le 0 n36) (Nat.blt (A.nat n36) (A.lenA x0))) true, A.lt n36 (A.int (A.lenA x0))],
   ZcC (a) (b) (x0) (l1) (x20) (A.add n36 1) (b37)) := by kernel_rfl
theorem ZGe (A : Ar) (a b : Int) (x0 : List AV) (l1 : List Int) (x20 : List AV) (n36 : Int) (b37 : Bool) : Zac A tab BOr 57 [true, false, false, true, false] (Zbh a b x0 l1 x20 n36 b37) (ZaX a b x0 l1 x20 n36 b37) =
  some (tr [6, 3, 26, 5, 2, 4] [!A.eq ((A.nthA x0 (A.nat n36)).cellAt 2).toI 255, A.not b37, !b37, Zab (Zab (A.le 0 n36) (Nat.blt (A.nat n36) (A.lenA x0))) true, A.lt n36 (A.int (A.lenA x0))],
   Zbn (a) (b) (x0) (l1) ((A.nthA x0 (A.nat n36)).cellAt 2).toI (x20) (n36) ((A.nthA x0 (A.nat n36)).cellAt 0).toI ((A.nthA x0 (A.nat n36)).cellAt 1).toI ((A.nthA x0 (A.nat n36)).cellAt 2).toI ((A.nthA x0 (A.nat n36)).cellAt 3).toIs (true)) := by kernel_rfl
theorem Zt8 (A : Ar) (a b : Int) (x0 : List AV) (l1 : List Int) (x20 : List AV) (n36 : Int) (b37 : Bool) : ZaD A tab BOr 17 [false] 22 (Zbh a b x0 l1 x20 n36 b37) (ZaX a b x0 l1 x20 n36 b37) =
  some (tr [3, 4] [!A.lt n36 (A.int (A.lenA x0))],
   AV.row 0 0, some { e := 57, sz := 3, r := Row.big (.agg [.int .i64, .int .i64, .ints .i64]) x20 }) := by kernel_rfl
theorem ZF5 (A : Ar) (a b : Int) (x0 : List AV) (l1 : List Int) (x20 : List AV) (l29 : List Int) (b35 : Bool) (n38 : Int) : Zac A tab BOr 58 [true, true, true, true, true, true] (Zcp a b x0 l1 x20 l29 b35 n38) (ZbG a b x0 l1 x20 l29 b35 n38) =
  some (tr [1, 1, 3, 16, 2, 1, 0, 3, 2, 5, 2, 4] [A.inR .i64 (A.add n38 1), A.eq ((A.nthA x0 (A.nat n38)).cellAt 2).toI 255, A.not false, A.not (A.eq (A.nth l1 (A.nat n38)) (A.add (A.nth l1 (A.nat (A.sub n38 1))) 1)), A.inR .i64 (A.add (A.nth l1 (A.nat (A.sub n38 1))) 1), Zab (Zab (A.le 0 (A.sub n38 1)) (Nat.blt (A.nat (A.sub n38 1)) (A.len l1))) true, A.inR .i64 (A.sub n38 1), Zab (Zab (A.le 0 n38) (Nat.blt (A.nat n38) (A.len l1))) true, b35, Zab (Zab (A.le 0 n38) (Nat.blt (A.nat n38) (A.lenA x0))) true, A.lt n38 (A.int (A.lenA x0))],
   ZcC (a) (b) (x0) (l1) (x20) (A.add n38 1) (false)) := by kernel_rfl
theorem ZEq (A : Ar) (a b : Int) (x0 : List AV) (l1 : List Int) (x20 : List AV) (l29 : List Int) (b35 : Bool) (n38 : Int) : Zac A tab BOr 60 [true, true, true, true, true, false] (Zcp a b x0 l1 x20 l29 b35 n38) (ZbG a b x0 l1 x20 l29 b35 n38) =
  some (tr [6, 3, 16, 2, 1, 0, 3, 2, 5, 2, 4] [!A.eq ((A.nthA x0 (A.nat n38)).cellAt 2).toI 255, A.not false, A.not (A.eq (A.nth l1 (A.nat n38)) (A.add (A.nth l1 (A.nat (A.sub n38 1))) 1)), A.inR .i64 (A.add (A.nth l1 (A.nat (A.sub n38 1))) 1), Zab (Zab (A.le 0 (A.sub n38 1)) (Nat.blt (A.nat (A.sub n38 1)) (A.len l1))) true, A.inR .i64 (A.sub n38 1), Zab (Zab (A.le 0 n38) (Nat.blt (A.nat n38) (A.len l1))) true, b35, Zab (Zab (A.le 0 n38) (Nat.blt (A.nat n38) (A.lenA x0))) true, A.lt n38 (A.int (A.lenA x0))],
   Zbn (a) (b) (x0) (l1) ((A.nthA x0 (A.nat n38)).cellAt 2).toI (x20) (n38) ((A.nthA x0 (A.nat n38)).cellAt 0).toI ((A.nthA x0 (A.nat n38)).cellAt 1).toI ((A.nthA x0 (A.nat n38)).cellAt 2).toI ((A.nthA x0 (A.nat n38)).cellAt 3).toIs (true)) := by kernel_rfl
theorem ZBO (A : Ar) (a b : Int) (x0 : List AV) (l1 : List Int) (x20 : List AV) (l29 : List Int) (b35 : Bool) (n38 : Int) : Zac A tab BOr 58 [true, true, false, true, true, true] (Zcp a b x0 l1 x20 l29 b35 n38) (ZbG a b x0 l1 x20 l29 b35 n38) =
  some (tr [1, 1, 3, 5, 3, 6, 2, 1, 0, 3, 2, 5, 2, 4] [A.inR .i64 (A.add n38 1), A.eq ((A.nthA x0 (A.nat n38)).cellAt 2).toI 255, A.not false, A.not (A.eq ((A.nthA x0 (A.nat n38)).cellAt 2).toI (Zec a l29 ((A.nthA x0 (A.nat n38)).cellAt 3).toIs)), decide (ZnX a l29 ((A.nthA x0 (A.nat n38)).cellAt 3).toIs = true), !A.not (A.eq (A.nth l1 (A.nat n38)) (A.add (A.nth l1 (A.nat (A.sub n38 1))) 1)), A.inR .i64 (A.add (A.nth l1 (A.nat (A.sub n38 1))) 1), Zab (Zab (A.le 0 (A.sub n38 1)) (Nat.blt (A.nat (A.sub n38 1)) (A.len l1))) true, A.inR .i64 (A.sub n38 1), Zab (Zab (A.le 0 n38) (Nat.blt (A.nat n38) (A.len l1))) true, b35, Zab (Zab (A.le 0 n38) (Nat.blt (A.nat n38) (A.lenA x0))) true, A.lt n38 (A.int (A.lenA x0))],
   ZcC (a) (b) (x0) (l1) (x20) (A.add n38 1) (false)) := by kernel_rfl
theorem Zz9 (A : Ar) (a b : Int) (x0 : List AV) (l1 : List Int) (x20 : List AV) (l29 : List Int) (b35 : Bool) (n38 : Int) : Zac A tab BOr 60 [true, true, false, true, true, false] (Zcp a b x0 l1 x20 l29 b35 n38) (ZbG a b x0 l1 x20 l29 b35 n38) =
  some (tr [6, 3, 5, 3, 6, 2, 1, 0, 3, 2, 5, 2, 4] [!A.eq ((A.nthA x0 (A.nat n38)).cellAt 2).toI 255, A.not false, A.not (A.eq ((A.nthA x0 (A.nat n38)).cellAt 2).toI (Zec a l29 ((A.nthA x0 (A.nat n38)).cellAt 3).toIs)), decide (ZnX a l29 ((A.nthA x0 (A.nat n38)).cellAt 3).toIs = true), !A.not (A.eq (A.nth l1 (A.nat n38)) (A.add (A.nth l1 (A.nat (A.sub n38 1))) 1)), A.inR .i64 (A.add (A.nth l1 (A.nat (A.sub n38 1))) 1), Zab (Zab (A.le 0 (A.sub n38 1)) (Nat.blt (A.nat (A.sub n38 1)) (A.len l1))) true, A.inR .i64 (A.sub n38 1), Zab (Zab (A.le 0 n38) (Nat.blt (A.nat n38) (A.len l1))) true, b35, Zab (Zab (A.le 0 n38) (Nat.blt (A.nat n38) (A.lenA x0))) true, A.lt n38 (A.int (A.lenA x0))],
   Zbn (a) (b) (x0) (l1) ((A.nthA x0 (A.nat n38)).cellAt 2).toI (x20) (n38) ((A.nthA x0 (A.nat n38)).cellAt 0).toI ((A.nthA x0 (A.nat n38)).cellAt 1).toI ((A.nthA x0 (A.nat n38)).cellAt 2).toI ((A.nthA x0 (A.nat n38)).cellAt 3).toIs (true)) := by kernel_rfl
theorem ZD3 (A : Ar) (a b : Int) (x0 : List AV) (l1 : List Int) (x20 : List AV) (l29 : List Int) (b35 : Bool) (n38 : Int) : Zac A tab BOr 48 [true, true, false, false, false] (Zcp a b x0 l1 x20 l29 b35 n38) (ZbG a b x0 l1 x20 l29 b35 n38) =
  some (tr [2, 3, 3, 6, 2, 1, 0, 3, 2, 5, 2, 4] [!A.not b35, !A.not (A.eq ((A.nthA x0 (A.nat n38)).cellAt 2).toI (Zec a l29 ((A.nthA x0 (A.nat n38)).cellAt 3).toIs)), decide (ZnX a l29 ((A.nthA x0 (A.nat n38)).cellAt 3).toIs = true), !A.not (A.eq (A.nth l1 (A.nat n38)) (A.add (A.nth l1 (A.nat (A.sub n38 1))) 1)), A.inR .i64 (A.add (A.nth l1 (A.nat (A.sub n38 1))) 1), Zab (Zab (A.le 0 (A.sub n38 1)) (Nat.blt (A.nat (A.sub n38 1)) (A.len l1))) true, A.inR .i64 (A.sub n38 1), Zab (Zab (A.le 0 n38) (Nat.blt (A.nat n38) (A.len l1))) true, b35, Zab (Zab (A.le 0 n38) (Nat.blt (A.nat n38) (A.lenA x0))) true, A.lt n38 (A.int (A.lenA x0))],
   Zga (a) (b) (x0) (l1) (x20) (0) (l29) (n38) ((A.nthA x0 (A.nat n38)).cellAt 0).toI ((A.nthA x0 (A.nat n38)).cellAt 1).toI ((A.nthA x0 (A.nat n38)).cellAt 2).toI ((A.nthA x0 (A.nat n38)).cellAt 3).toIs (b35)) := by kernel_rfl
theorem ZD9 (A : Ar) (a b : Int) (x0 : List AV) (l1 : List Int) (x20 : List AV) (l29 : List Int) (b35 : Bool) (n38 : Int) : ZaD A tab BOr 17 [false] 22 (Zcp a b x0 l1 x20 l29 b35 n38) (ZbG a b x0 l1 x20 l29 b35 n38) =
  some (tr [3, 4] [!A.lt n38 (A.int (A.lenA x0))],
   AV.row 0 0, some { e := 57, sz := 3, r := Row.big (.agg [.int .i64, .int .i64, .ints .i64]) x20 }) := by kernel_rfl
end Go.Proofs.Ytjhdnpmojhkbjaa
/- The reference's extraction. No condition. -/
namespace Go.Proofs.Ytjhdnpmojhkbjaa
def ZlH (C : Ctx) (a b : Int) (x0 : List AV) (l1 : List Int) (i : Int) (Q : List AFrame → Zaa → Prop) : Option (List Int) → List AV → Prop
  | none, [] => Ev C (Zbl a b x0 l1 i false) (ZaY a b x0 l1 i false) Q
  | some [], [] => Ev C (Zbl a b x0 l1 i true) (ZaY a b x0 l1 i true) Q
  | some (q :: p), [] => Ev C (Zcm a b x0 l1 (q :: p) true i) (ZbM a b x0 l1 (q :: p) true i) Q
  | none, y :: Y => Ev C (Zbh a b x0 l1 (y :: Y) i false) (ZaX a b x0 l1 (y :: Y) i false) Q
  | some [], y :: Y => Ev C (Zbh a b x0 l1 (y :: Y) i true) (ZaX a b x0 l1 (y :: Y) i true) Q
  | some (q :: p), y :: Y => Ev C (Zcp a b x0 l1 (y :: Y) (q :: p) true i) (ZbG a b x0 l1 (y :: Y) (q :: p) true i) Q
def ZKz (C : Ctx) (a b : Int) (x0 : List AV) (l1 : List Int) (k i u v w : Int) (ds : List Int) (Q : List AFrame → Zaa → Prop) : List Int → List AV → Prop
  | [], [] => Ev C (ZfM a b x0 l1 k u v w ds true i) (ZeQ a b x0 l1 k u v w ds true i) Q
  | q :: p, [] => Ev C (Zdy a b x0 l1 k (q :: p) i u v w ds true) (ZcK a b x0 l1 k (q :: p) i u v w ds true) Q
  | [], y :: Y => Ev C (Zfk a b x0 l1 k (y :: Y) i u v w ds true) (ZeF a b x0 l1 k (y :: Y) i u v w ds true) Q
  | q :: p, y :: Y => Ev C (ZdE a b x0 l1 (y :: Y) k (q :: p) i u v w ds true) (Zcz a b x0 l1 (y :: Y) k (q :: p) i u v w ds true) Q
theorem Zsv {p : List Int} (h : bytP p) (hl : p.length ≤ 1000) : Zc7 p = true := by
  unfold Zc7
  have := Zbo h 2
  simp only [Bool.and_eq_true, decide_eq_true_eq]
  omega
section
variable {C : Ctx} (hC : C.P = Try.prog) {Q : List AFrame → Zaa → Prop} (a b : Int) (x0 : List AV) (l1 : List Int) (i u v w : Int) (hi : 0 ≤ i ∧ i ≤ 100000) (ds : List Int) (hds : bytP ds) (hdl : ds.length ≤ 500)
include hC hi hds hdl
theorem ZFJ : ∀ (d k : Nat) (p : List Int) (X : List AV), ds.length - k = d → k ≤ ds.length → bytP p → p.length + d ≤ 900 → 0 < ZaM p → X.length + d ≤ 1000000 →
    ZlH C a b x0 l1 (i + 1) Q (some (ZjB p (ds.drop k)).2) (X ++ (ZjB p (ds.drop k)).1) → ZKz C a b x0 l1 k i u v w ds Q p X := by
  intro d
  induction d with
  | zero =>
    intro k p X hd hk hp hpl hn hX hq
    rw [List.drop_of_length_le (by omega), ZjB, List.append_nil] at hq
    match p, X, hq with
    | [], [], hq => exact go hC Zay (ZCd std a b x0 l1 (k : Int) u v w ds true i) (by simp; omega) hq
    | q :: p, [], hq => exact go hC Zay (ZC6 std a b x0 l1 (k : Int) (q :: p) i u v w ds true) (by simp; omega) hq
    | [], y :: Y, hq => exact go hC Zay (ZCV std a b x0 l1 (k : Int) (y :: Y) i u v w ds true) (by simp; omega) hq
    | q :: p, y :: Y, hq => exact go hC Zay (ZCU std a b x0 l1 (y :: Y) (k : Int) (q :: p) i u v w ds true) (by simp; omega) hq
  | succ d ih =>
    intro k p X hd hk hp hpl hn hX hq
    have hlt : k < ds.length := by omega
    have e1 : ds.getD k 0 = ds[k] := by simp [hlt]
    have hbk : 0 ≤ ds[k] ∧ ds[k] ≤ 255 := hds _ (List.getElem_mem hlt)
    have hpb : bytP (p ++ [ds[k]]) := hp.app (fun x hx => by rw [List.mem_singleton] at hx; rw [hx]; exact hbk)
    have hlb : (p ++ [ds[k]]).length = p.length + 1 := by simp
    have hNB : Zc7 (p ++ [ds[k]]) = true := Zsv hpb (by omega)
    rw [List.drop_eq_getElem_cons hlt, ZjB] at hq
    by_cases h1 : 0 < ZaM (p ++ [ds[k]])
    · rw [if_pos h1] at hq
      have hi2 := ih (k + 1) (p ++ [ds[k]]) X (by omega) (by omega) hpb (by omega) h1 (by omega) hq
      match p, X, hi2 with
      | [], [], hi2 =>
        have hw := ZIY std a b x0 l1 (k : Int) u v w ds true i
        simp only [Zam, Za0, ZkL, ZaP, Zdt, Int.toNat_natCast, show ∀ n : Nat, std.add (n : Int) 1 = ((n + 1 : Nat) : Int) from fun _ => rfl, e1] at hw
        rw [hNB] at hw
        refine go hC Zay hw ?_ hi2
        clear hi2 hw hq
        try simp only [List.length_cons] at hpl hlb
        generalize hrr : [] ++ [ds[k]] = r at *
        generalize ZaM r = nn at *
        simp [hlt, h1, AV.bx, Zae]
        omega
      | q :: p, [], hi2 =>
        have hw := ZDP std a b x0 l1 (k : Int) (q :: p) i u v w ds true
        simp only [Zam, Za0, ZkL, ZaP, Zdt, Int.toNat_natCast, show ∀ n : Nat, std.add (n : Int) 1 = ((n + 1 : Nat) : Int) from fun _ => rfl, e1] at hw
        rw [hNB] at hw
        refine go hC Zay hw ?_ hi2
        clear hi2 hw hq
        try simp only [List.length_cons] at hpl hlb
        generalize hrr : q :: p ++ [ds[k]] = r at *
        generalize ZaM r = nn at *
        simp [hlt, h1, AV.bx, Zae]
        omega
      | [], y :: Y, hi2 =>
        have hw := ZD5 std a b x0 l1 (k : Int) (y :: Y) i u v w ds true
        simp only [Zam, Za0, ZkL, ZaP, Zdt, Int.toNat_natCast, show ∀ n : Nat, std.add (n : Int) 1 = ((n + 1 : Nat) : Int) from fun _ => rfl, e1] at hw
        rw [hNB] at hw
        refine go hC Zay hw ?_ hi2
        clear hi2 hw hq
        try simp only [List.length_cons] at hpl hlb
        generalize hrr : [] ++ [ds[k]] = r at *
        generalize ZaM r = nn at *
        simp [hlt, h1, AV.bx, Zae]
        omega
      | q :: p, y :: Y, hi2 =>
        have hw := ZBf std a b x0 l1 (y :: Y) (k : Int) (q :: p) i u v w ds true
        simp only [Zam, Za0, ZkL, ZaP, Zdt, Int.toNat_natCast, show ∀ n : Nat, std.add (n : Int) 1 = ((n + 1 : Nat) : Int) from fun _ => rfl, e1] at hw
        rw [hNB] at hw
        refine go hC Zay hw ?_ hi2
        clear hi2 hw hq
        try simp only [List.length_cons] at hpl hlb
        generalize hrr : q :: p ++ [ds[k]] = r at *
        generalize ZaM r = nn at *
        simp [hlt, h1, AV.bx, Zae]
        omega
    · rw [if_neg h1] at hq
      have h3 : 3 ≤ (p ++ [ds[k]]).length := by
        rw [ZdP] at h1
        omega
      match p, X, hq with
      | [], _, _ => simp at h3
      | q :: p, [], hq =>
        have hdl3 : ((q :: p ++ [ds[k]]).drop 3).length ≤ 4294967296 := by rw [List.length_drop]; omega
        have htk : ((q :: p ++ [ds[k]]).drop 3).take ((q :: p ++ [ds[k]]).length - 3) = (q :: p ++ [ds[k]]).drop 3 := List.take_of_length_le (by rw [List.length_drop]; omega)
        by_cases h2 : (q :: p ++ [ds[k]]).getD 0 0 = 255
        · rw [if_pos h2, List.nil_append] at hq
          have hi2 := ih (k + 1) [] [] (by omega) (by omega) (fun x hx => by simp at hx) (by simp; omega) (by simp [ZaM]) (by omega) hq
          have hw := ZCg std a b x0 l1 (k : Int) (q :: p) i u v w ds true
          simp only [Zam, Za0, ZkL, ZaP, Zdt, Int.toNat_natCast, show ∀ n : Nat, std.add (n : Int) 1 = ((n + 1 : Nat) : Int) from fun _ => rfl, e1, show Int.toNat 0 = 0 from rfl] at hw
          rw [hNB] at hw
          refine go hC Zay hw ?_ hi2
          clear hi2 hw hq
          simp only [List.length_cons] at hpl hlb
          generalize q :: p ++ [ds[k]] = r at *
          generalize r.getD 0 0 = r0 at *
          generalize ZaM r = nn at *
          simp [hlt, h2, h1, AV.bx, Zae, Row.len]
          omega
        · rw [if_neg h2, ← List.append_assoc] at hq
          have hi2 := ih (k + 1) [] ([] ++ [AV.agg (Row.gen [AV.int .i64 ((q :: p ++ [ds[k]]).getD 0 0), AV.int .i64 ((q :: p ++ [ds[k]]).getD 1 0), AV.list (.ints .i64 ((q :: p ++ [ds[k]]).drop 3))])]) (by omega) (by omega) (fun x hx => by simp at hx) (by simp; omega) (by simp [ZaM]) (by rw [List.length_append, List.length_singleton]; omega) hq
          have hw := ZFE std a b x0 l1 (k : Int) (q :: p) i u v w ds true
          simp only [Zam, Za0, ZkL, ZaP, Zdt, ZdY, Int.toNat_natCast, show ∀ n : Nat, std.add (n : Int) 1 = ((n + 1 : Nat) : Int) from fun _ => rfl, e1, show Int.toNat 0 = 0 from rfl, show Int.toNat 1 = 1 from rfl, show Int.toNat 3 = 3 from rfl] at hw
          rw [hNB, htk] at hw
          refine go hC Zay hw ?_ hi2
          clear hi2 hw hq
          simp only [List.length_cons, List.length_nil] at hpl hlb hX
          generalize hrr : q :: p ++ [ds[k]] = r at *
          generalize r.getD 0 0 = r0 at *
          generalize r.getD 1 0 = r1 at *
          generalize ZaM r = nn at *
          generalize r.drop 3 = D at *
          simp [hlt, h2, h1, AV.bx, Zae, Row.len]
          omega
      | q :: p, y :: Y, hq =>
        have hdl3 : ((q :: p ++ [ds[k]]).drop 3).length ≤ 4294967296 := by rw [List.length_drop]; omega
        have htk : ((q :: p ++ [ds[k]]).drop 3).take ((q :: p ++ [ds[k]]).length - 3) = (q :: p ++ [ds[k]]).drop 3 := List.take_of_length_le (by rw [List.length_drop]; omega)
        by_cases h2 : (q :: p ++ [ds[k]]).getD 0 0 = 255
        · rw [if_pos h2, List.nil_append] at hq
          have hi2 := ih (k + 1) [] (y :: Y) (by omega) (by omega) (fun x hx => by simp at hx) (by simp; omega) (by simp [ZaM]) (by omega) hq
          have hw := ZDj std a b x0 l1 (y :: Y) (k : Int) (q :: p) i u v w ds true
          simp only [Zam, Za0, ZkL, ZaP, Zdt, Int.toNat_natCast, show ∀ n : Nat, std.add (n : Int) 1 = ((n + 1 : Nat) : Int) from fun _ => rfl, e1, show Int.toNat 0 = 0 from rfl] at hw
          rw [hNB] at hw
          refine go hC Zay hw ?_ hi2
          clear hi2 hw hq
          simp only [List.length_cons] at hpl hlb
          generalize q :: p ++ [ds[k]] = r at *
          generalize r.getD 0 0 = r0 at *
          generalize ZaM r = nn at *
          simp [hlt, h2, h1, AV.bx, Zae, Row.len]
          omega
        · rw [if_neg h2, ← List.append_assoc] at hq
          have hi2 := ih (k + 1) [] ((y :: Y) ++ [AV.agg (Row.gen [AV.int .i64 ((q :: p ++ [ds[k]]).getD 0 0), AV.int .i64 ((q :: p ++ [ds[k]]).getD 1 0), AV.list (.ints .i64 ((q :: p ++ [ds[k]]).drop 3))])]) (by omega) (by omega) (fun x hx => by simp at hx) (by simp; omega) (by simp [ZaM]) (by rw [List.length_append, List.length_singleton]; omega) hq
          have hw := ZEx std a b x0 l1 (y :: Y) (k : Int) (q :: p) i u v w ds true
          simp only [Zam, Za0, ZkL, ZaP, Zdt, ZdY, ZiW, Int.toNat_natCast, show ∀ n : Nat, std.add (n : Int) 1 = ((n + 1 : Nat) : Int) from fun _ => rfl, e1, show Int.toNat 0 = 0 from rfl, show Int.toNat 1 = 1 from rfl, show Int.toNat 3 = 3 from rfl] at hw
          rw [hNB, htk] at hw
          refine go hC Zay hw ?_ hi2
          clear hi2 hw hq
          simp only [List.length_cons] at hpl hlb hX
          generalize hrr : q :: p ++ [ds[k]] = r at *
          generalize r.getD 0 0 = r0 at *
          generalize r.getD 1 0 = r1 at *
          generalize ZaM r = nn at *
          generalize r.drop 3 = D at *
          simp [hlt, h2, h1, AV.bx, Zae, Row.len]
          omega
end
section
variable {C : Ctx} (hC : C.P = Try.prog) {Q : List AFrame → Zaa → Prop} (L : List AV) (a b : Int) (ha : 4 ≤ a ∧ a ≤ 24) (i : Nat) (hi : i < L.length) (hL : L.length ≤ 1000) (hk : ∀ x ∈ L, -400000 ≤ Zah x ∧ Zah x ≤ 400000) (hx : okX a L[i])
include hC ha hi hL hk hx
theorem ZbP (p : List Int) (X : List AV) (k : Nat) (hp : bytP p) (hpl : p.length ≤ 300) (hn : 0 < ZaM p) (hX : X.length ≤ 500000) (u v w : Int) (hkd : k ≤ (dsN L[i]).length)
    (hq : ZlH C a b (L.map Zaq) (L.map Zah) ((i : Int) + 1) Q (some (eat (p ++ (dsN L[i]).drop k)).2) (X ++ (eat (p ++ (dsN L[i]).drop k)).1)) : ZKz C a b (L.map Zaq) (L.map Zah) k i u v w (dsN L[i]) Q p X := by
  have _ := hk
  obtain ⟨hf, hl, hb⟩ := hx
  refine ZFJ hC a b (L.map Zaq) (L.map Zah) i u v w ⟨by omega, by omega⟩ (dsN L[i]) hb (by omega) _ k p X rfl hkd hp (by omega) hn (by omega) ?_
  rw [ZjH _ p hp (hb.drop k) hn]
  exact hq
section
variable (last : Int)
theorem ZMA  (hq : ZlH C a b (L.map Zaq) (L.map Zah) ((i : Int) + 1) Q (Zfg none last L[i]) ([] ++ Zfh none last L[i])) : ZlH C a b (L.map Zaq) (L.map Zah) i Q none [] := by
  have hgx : (L.map Zaq).getD i .top = Zaq L[i] := by simp [hi]
  have hgk : (L.map Zah).getD i 0 = Zah L[i] := by simp [hi]
  have hlm : (L.map Zaq).length = L.length := List.length_map _
  have hlk : (L.map Zah).length = L.length := List.length_map _
  have ei : ((i : Int) - 1).toNat = i - 1 := by omega
  have hxx := hx
  obtain ⟨hf, hl, hb⟩ := hx
  unfold Zfg Zfh Zk7 at hq
  rw [show Zdj none last L[i] = none from rfl] at hq
  dsimp only at hq
  by_cases h5 : fiN L[i] = 255
  · rw [if_pos h5] at hq
    have hw := ZHY std a b (L.map Zaq) (L.map Zah) (i : Int) false
    simp only [Zam, Zai, ZaJ, ZaV, Int.toNat_natCast, hgx, hlm, show (AV.cellAt (Zaq L[i]) 2).toI = fiN L[i] from rfl] at hw
    refine go hC Zay hw ?_ (by simp at hq; exact hq)
    clear hq hw
    generalize fiN L[i] = f at *
    simp [hi, h5] <;> omega
  · rw [if_neg h5] at hq
    have hw := ZI1 std a b (L.map Zaq) (L.map Zah) (i : Int) false
    simp only [Zam, Zai, ZaJ, Int.toNat_natCast, hgx, hlm, show (AV.cellAt (Zaq L[i]) 2).toI = fiN L[i] from rfl, show (AV.cellAt (Zaq L[i]) 3).toIs = dsN L[i] from rfl] at hw
    have hin := ZbP hC L a b ha i hi hL hk hxx [] [] (fiN L[i]).toNat (fun x hx => by simp at hx) (by simp) (by simp [ZaM]) (by first | exact hY | simp) (AV.cellAt (Zaq L[i]) 0).toI (AV.cellAt (Zaq L[i]) 1).toI (fiN L[i]) (by omega) (by simpa using hq)
    rw [show ((fiN L[i]).toNat : Int) = fiN L[i] by omega] at hin
    refine go hC Zay hw ?_ hin
    clear hq hw hin
    generalize fiN L[i] = f at *
    generalize dsN L[i] = ds at *
    simp [hi, h5] <;> omega
theorem ZLJ (y : AV) (Y : List AV) (hY : (y :: Y).length ≤ 500000) (hq : ZlH C a b (L.map Zaq) (L.map Zah) ((i : Int) + 1) Q (Zfg none last L[i]) ((y :: Y) ++ Zfh none last L[i])) : ZlH C a b (L.map Zaq) (L.map Zah) i Q none (y :: Y) := by
  have hgx : (L.map Zaq).getD i .top = Zaq L[i] := by simp [hi]
  have hgk : (L.map Zah).getD i 0 = Zah L[i] := by simp [hi]
  have hlm : (L.map Zaq).length = L.length := List.length_map _
  have hlk : (L.map Zah).length = L.length := List.length_map _
  have ei : ((i : Int) - 1).toNat = i - 1 := by omega
  have hxx := hx
  obtain ⟨hf, hl, hb⟩ := hx
  unfold Zfg Zfh Zk7 at hq
  rw [show Zdj none last L[i] = none from rfl] at hq
  dsimp only at hq
  by_cases h5 : fiN L[i] = 255
  · rw [if_pos h5] at hq
    have hw := ZzV std a b (L.map Zaq) (L.map Zah) (y :: Y) (i : Int) false
    simp only [Zam, Zai, ZaJ, ZaV, Int.toNat_natCast, hgx, hlm, show (AV.cellAt (Zaq L[i]) 2).toI = fiN L[i] from rfl] at hw
    refine go hC Zay hw ?_ (by simp at hq; exact hq)
    clear hq hw
    generalize fiN L[i] = f at *
    simp [hi, h5] <;> omega
  · rw [if_neg h5] at hq
    have hw := ZGe std a b (L.map Zaq) (L.map Zah) (y :: Y) (i : Int) false
    simp only [Zam, Zai, ZaJ, Int.toNat_natCast, hgx, hlm, show (AV.cellAt (Zaq L[i]) 2).toI = fiN L[i] from rfl, show (AV.cellAt (Zaq L[i]) 3).toIs = dsN L[i] from rfl] at hw
    have hin := ZbP hC L a b ha i hi hL hk hxx [] (y :: Y) (fiN L[i]).toNat (fun x hx => by simp at hx) (by simp) (by simp [ZaM]) (by first | exact hY | simp) (AV.cellAt (Zaq L[i]) 0).toI (AV.cellAt (Zaq L[i]) 1).toI (fiN L[i]) (by omega) (by simpa using hq)
    rw [show ((fiN L[i]).toNat : Int) = fiN L[i] by omega] at hin
    refine go hC Zay hw ?_ hin
    clear hq hw hin
    generalize fiN L[i] = f at *
    generalize dsN L[i] = ds at *
    simp [hi, h5] <;> omega
end
theorem ZLp  (hp : okS (some [])) (hi0 : 0 < i) (hq : ZlH C a b (L.map Zaq) (L.map Zah) ((i : Int) + 1) Q (Zfg (some []) (Zah L[i - 1]) L[i]) ([] ++ Zfh (some []) (Zah L[i - 1]) L[i])) : ZlH C a b (L.map Zaq) (L.map Zah) i Q (some []) [] := by
  have hgx : (L.map Zaq).getD i .top = Zaq L[i] := by simp [hi]
  have hgk : (L.map Zah).getD i 0 = Zah L[i] := by simp [hi]
  have hgl : (L.map Zah).getD (i - 1) 0 = Zah L[i - 1] := by simp [show i - 1 < L.length by omega]
  have hlm : (L.map Zaq).length = L.length := List.length_map _
  have hlk : (L.map Zah).length = L.length := List.length_map _
  have ei : ((i : Int) - 1).toNat = i - 1 := by omega
  have hk1 := hk L[i] (List.getElem_mem hi)
  have hk2 := hk (L[i - 1]'(by omega)) (List.getElem_mem _)
  have hxx := hx
  obtain ⟨hf, hl, hb⟩ := hx
  obtain ⟨q1, q2, q3⟩ := hp
  have hex : Zec (dsN L[i]).length [] (dsN L[i]) = 0 := rfl
  unfold Zfg Zfh Zk7 Zdj at hq
  dsimp only at hq
  rw [hex] at hq
  by_cases h6 : Zah L[i] = Zah L[i - 1] + 1
  · by_cases h7 : fiN L[i] = 0
    · rw [if_pos ⟨h6, h7⟩] at hq
      dsimp only at hq
      have hw := ZGI std a b (L.map Zaq) (L.map Zah) (i : Int) true
      simp only [Zam, Za0, Zai, ZaP, ZaJ, Zax, ZaV, Int.toNat_natCast, hgx, hgk, ei, hlm, hlk, show (AV.cellAt (Zaq L[i]) 2).toI = fiN L[i] from rfl, show (AV.cellAt (Zaq L[i]) 3).toIs = dsN L[i] from rfl] at hw
      rw [hgl] at hw
      have hin := ZbP hC L a b ha i hi hL hk hxx [] [] 0 q1 (by omega) ((ZdP _).2 q3) (by first | exact hY | simp) (AV.cellAt (Zaq L[i]) 0).toI (AV.cellAt (Zaq L[i]) 1).toI (fiN L[i]) (by omega) (by simpa using hq)
      refine go hC Zay hw ?_ hin
      clear hq hw hin
      rw [h6]
      simp [hi, h7]
      omega
    · rw [if_neg (fun e => h7 e.2)] at hq
      dsimp only at hq
      by_cases h5 : fiN L[i] = 255
      · rw [if_pos h5] at hq
        have hw := ZIA std a b (L.map Zaq) (L.map Zah) (i : Int) true
        simp only [Zam, Za0, Zai, ZaP, ZaJ, Zax, ZaV, Int.toNat_natCast, hgx, hgk, ei, hlm, hlk, show (AV.cellAt (Zaq L[i]) 2).toI = fiN L[i] from rfl] at hw
        rw [hgl] at hw
        refine go hC Zay hw ?_ (by simp at hq; exact hq)
        clear hq hw
        simp [hi, h5, h6]
        first | omega | (simp [h7]; omega)
      · rw [if_neg h5] at hq
        have hw := ZHt std a b (L.map Zaq) (L.map Zah) (i : Int) true
        simp only [Zam, Za0, Zai, ZaP, ZaJ, Zax, ZaV, Int.toNat_natCast, hgx, hgk, ei, hlm, hlk, show (AV.cellAt (Zaq L[i]) 2).toI = fiN L[i] from rfl, show (AV.cellAt (Zaq L[i]) 3).toIs = dsN L[i] from rfl] at hw
        rw [hgl] at hw
        have hin := ZbP hC L a b ha i hi hL hk hxx [] [] (fiN L[i]).toNat (fun x hx => by simp at hx) (by simp) (by simp [ZaM]) (by first | exact hY | simp) (AV.cellAt (Zaq L[i]) 0).toI (AV.cellAt (Zaq L[i]) 1).toI (fiN L[i]) (by omega) (by simpa using hq)
        rw [show ((fiN L[i]).toNat : Int) = fiN L[i] by omega] at hin
        refine go hC Zay hw ?_ hin
        clear hq hw hin
        simp [hi, h5, h6, h7] <;> omega
  · rw [if_neg (fun e => h6 e.1)] at hq
    dsimp only at hq
    by_cases h5 : fiN L[i] = 255
    · rw [if_pos h5] at hq
      have hw := ZH0 std a b (L.map Zaq) (L.map Zah) (i : Int) true
      simp only [Zam, Za0, Zai, ZaP, ZaJ, Zax, ZaV, Int.toNat_natCast, hgx, hgk, ei, hlm, hlk, show (AV.cellAt (Zaq L[i]) 2).toI = fiN L[i] from rfl] at hw
      rw [hgl] at hw
      refine go hC Zay hw ?_ (by simp at hq; exact hq)
      clear hq hw
      simp [hi, h5, h6] <;> omega
    · rw [if_neg h5] at hq
      have hw := ZJN std a b (L.map Zaq) (L.map Zah) (i : Int) true
      simp only [Zam, Za0, Zai, ZaP, ZaJ, Zax, ZaV, Int.toNat_natCast, hgx, hgk, ei, hlm, hlk, show (AV.cellAt (Zaq L[i]) 2).toI = fiN L[i] from rfl, show (AV.cellAt (Zaq L[i]) 3).toIs = dsN L[i] from rfl] at hw
      rw [hgl] at hw
      have hin := ZbP hC L a b ha i hi hL hk hxx [] [] (fiN L[i]).toNat (fun x hx => by simp at hx) (by simp) (by simp [ZaM]) (by first | exact hY | simp) (AV.cellAt (Zaq L[i]) 0).toI (AV.cellAt (Zaq L[i]) 1).toI (fiN L[i]) (by omega) (by simpa using hq)
      rw [show ((fiN L[i]).toNat : Int) = fiN L[i] by omega] at hin
      refine go hC Zay hw ?_ hin
      clear hq hw hin
      simp [hi, h5, h6] <;> omega
theorem ZL7 (q : Int) (p : List Int) (hp : okS (some (q :: p))) (hi0 : 0 < i) (hq : ZlH C a b (L.map Zaq) (L.map Zah) ((i : Int) + 1) Q (Zfg (some (q :: p)) (Zah L[i - 1]) L[i]) ([] ++ Zfh (some (q :: p)) (Zah L[i - 1]) L[i])) : ZlH C a b (L.map Zaq) (L.map Zah) i Q (some (q :: p)) [] := by
  have hgx : (L.map Zaq).getD i .top = Zaq L[i] := by simp [hi]
  have hgk : (L.map Zah).getD i 0 = Zah L[i] := by simp [hi]
  have hgl : (L.map Zah).getD (i - 1) 0 = Zah L[i - 1] := by simp [show i - 1 < L.length by omega]
  have hlm : (L.map Zaq).length = L.length := List.length_map _
  have hlk : (L.map Zah).length = L.length := List.length_map _
  have ei : ((i : Int) - 1).toNat = i - 1 := by omega
  have hk1 := hk L[i] (List.getElem_mem hi)
  have hk2 := hk (L[i - 1]'(by omega)) (List.getElem_mem _)
  have hxx := hx
  obtain ⟨hf, hl, hb⟩ := hx
  obtain ⟨q1, q2, q3⟩ := hp
  have hE : ZnX a (q :: p) (dsN L[i]) = true := by
    unfold ZnX Zh9
    have := Zbo (q1.app hb) 2
    simp only [Bool.and_eq_true, decide_eq_true_eq]
    omega
  have hex : Zec (dsN L[i]).length (q :: p) (dsN L[i]) = Zec a (q :: p) (dsN L[i]) := by rw [hl]
  unfold Zfg Zfh Zk7 Zdj at hq
  dsimp only at hq
  rw [hex] at hq
  by_cases h6 : Zah L[i] = Zah L[i - 1] + 1
  · by_cases h7 : fiN L[i] = Zec a (q :: p) (dsN L[i])
    · rw [if_pos ⟨h6, h7⟩] at hq
      dsimp only at hq
      have hw := ZFT std a b (L.map Zaq) (L.map Zah) (q :: p) true (i : Int)
      simp only [Zam, Za0, Zai, ZaP, ZaJ, Zax, ZaV, Int.toNat_natCast, hgx, hgk, ei, hlm, hlk, show (AV.cellAt (Zaq L[i]) 2).toI = fiN L[i] from rfl, show (AV.cellAt (Zaq L[i]) 3).toIs = dsN L[i] from rfl] at hw
      rw [hgl] at hw
      have hin := ZbP hC L a b ha i hi hL hk hxx (q :: p) [] 0 q1 (by omega) ((ZdP _).2 q3) (by first | exact hY | simp) (AV.cellAt (Zaq L[i]) 0).toI (AV.cellAt (Zaq L[i]) 1).toI (fiN L[i]) (by omega) (by simpa using hq)
      refine go hC Zay hw ?_ hin
      clear hq hw hin
      rw [h6]
      rw [← h7, hE]
      simp [hi]
      omega
    · rw [if_neg (fun e => h7 e.2)] at hq
      dsimp only at hq
      by_cases h5 : fiN L[i] = 255
      · rw [if_pos h5] at hq
        have hw := ZFj std a b (L.map Zaq) (L.map Zah) (q :: p) true (i : Int)
        simp only [Zam, Za0, Zai, ZaP, ZaJ, Zax, ZaV, Int.toNat_natCast, hgx, hgk, ei, hlm, hlk, show (AV.cellAt (Zaq L[i]) 2).toI = fiN L[i] from rfl, show (AV.cellAt (Zaq L[i]) 3).toIs = dsN L[i] from rfl] at hw
        rw [hgl] at hw
        refine go hC Zay hw ?_ (by simp at hq; exact hq)
        clear hq hw
        rw [hE]
        simp [hi, h5, h6]
        rw [h5] at h7
        first | omega | (simp [h7]; omega)
      · rw [if_neg h5] at hq
        have hw := ZBV std a b (L.map Zaq) (L.map Zah) (q :: p) true (i : Int)
        simp only [Zam, Za0, Zai, ZaP, ZaJ, Zax, ZaV, Int.toNat_natCast, hgx, hgk, ei, hlm, hlk, show (AV.cellAt (Zaq L[i]) 2).toI = fiN L[i] from rfl, show (AV.cellAt (Zaq L[i]) 3).toIs = dsN L[i] from rfl] at hw
        rw [hgl] at hw
        have hin := ZbP hC L a b ha i hi hL hk hxx [] [] (fiN L[i]).toNat (fun x hx => by simp at hx) (by simp) (by simp [ZaM]) (by first | exact hY | simp) (AV.cellAt (Zaq L[i]) 0).toI (AV.cellAt (Zaq L[i]) 1).toI (fiN L[i]) (by omega) (by simpa using hq)
        rw [show ((fiN L[i]).toNat : Int) = fiN L[i] by omega] at hin
        refine go hC Zay hw ?_ hin
        clear hq hw hin
        rw [hE]
        simp [hi, h5, h6, h7] <;> omega
  · rw [if_neg (fun e => h6 e.1)] at hq
    dsimp only at hq
    by_cases h5 : fiN L[i] = 255
    · rw [if_pos h5] at hq
      have hw := ZFz std a b (L.map Zaq) (L.map Zah) (q :: p) true (i : Int)
      simp only [Zam, Za0, Zai, ZaP, ZaJ, Zax, ZaV, Int.toNat_natCast, hgx, hgk, ei, hlm, hlk, show (AV.cellAt (Zaq L[i]) 2).toI = fiN L[i] from rfl] at hw
      rw [hgl] at hw
      refine go hC Zay hw ?_ (by simp at hq; exact hq)
      clear hq hw
      simp [hi, h5, h6] <;> omega
    · rw [if_neg h5] at hq
      have hw := ZCT std a b (L.map Zaq) (L.map Zah) (q :: p) true (i : Int)
      simp only [Zam, Za0, Zai, ZaP, ZaJ, Zax, ZaV, Int.toNat_natCast, hgx, hgk, ei, hlm, hlk, show (AV.cellAt (Zaq L[i]) 2).toI = fiN L[i] from rfl, show (AV.cellAt (Zaq L[i]) 3).toIs = dsN L[i] from rfl] at hw
      rw [hgl] at hw
      have hin := ZbP hC L a b ha i hi hL hk hxx [] [] (fiN L[i]).toNat (fun x hx => by simp at hx) (by simp) (by simp [ZaM]) (by first | exact hY | simp) (AV.cellAt (Zaq L[i]) 0).toI (AV.cellAt (Zaq L[i]) 1).toI (fiN L[i]) (by omega) (by simpa using hq)
      rw [show ((fiN L[i]).toNat : Int) = fiN L[i] by omega] at hin
      refine go hC Zay hw ?_ hin
      clear hq hw hin
      simp [hi, h5, h6] <;> omega
theorem ZKX (y : AV) (Y : List AV) (hY : (y :: Y).length ≤ 500000) (hp : okS (some [])) (hi0 : 0 < i) (hq : ZlH C a b (L.map Zaq) (L.map Zah) ((i : Int) + 1) Q (Zfg (some []) (Zah L[i - 1]) L[i]) ((y :: Y) ++ Zfh (some []) (Zah L[i - 1]) L[i])) : ZlH C a b (L.map Zaq) (L.map Zah) i Q (some []) (y :: Y) := by
  have hgx : (L.map Zaq).getD i .top = Zaq L[i] := by simp [hi]
  have hgk : (L.map Zah).getD i 0 = Zah L[i] := by simp [hi]
  have hgl : (L.map Zah).getD (i - 1) 0 = Zah L[i - 1] := by simp [show i - 1 < L.length by omega]
  have hlm : (L.map Zaq).length = L.length := List.length_map _
  have hlk : (L.map Zah).length = L.length := List.length_map _
  have ei : ((i : Int) - 1).toNat = i - 1 := by omega
  have hk1 := hk L[i] (List.getElem_mem hi)
  have hk2 := hk (L[i - 1]'(by omega)) (List.getElem_mem _)
  have hxx := hx
  obtain ⟨hf, hl, hb⟩ := hx
  obtain ⟨q1, q2, q3⟩ := hp
  have hex : Zec (dsN L[i]).length [] (dsN L[i]) = 0 := rfl
  unfold Zfg Zfh Zk7 Zdj at hq
  dsimp only at hq
  rw [hex] at hq
  by_cases h6 : Zah L[i] = Zah L[i - 1] + 1
  · by_cases h7 : fiN L[i] = 0
    · rw [if_pos ⟨h6, h7⟩] at hq
      dsimp only at hq
      have hw := ZAd std a b (L.map Zaq) (L.map Zah) (y :: Y) (i : Int) true
      simp only [Zam, Za0, Zai, ZaP, ZaJ, Zax, ZaV, Int.toNat_natCast, hgx, hgk, ei, hlm, hlk, show (AV.cellAt (Zaq L[i]) 2).toI = fiN L[i] from rfl, show (AV.cellAt (Zaq L[i]) 3).toIs = dsN L[i] from rfl] at hw
      rw [hgl] at hw
      have hin := ZbP hC L a b ha i hi hL hk hxx [] (y :: Y) 0 q1 (by omega) ((ZdP _).2 q3) (by first | exact hY | simp) (AV.cellAt (Zaq L[i]) 0).toI (AV.cellAt (Zaq L[i]) 1).toI (fiN L[i]) (by omega) (by simpa using hq)
      refine go hC Zay hw ?_ hin
      clear hq hw hin
      rw [h6]
      simp [hi, h7]
      omega
    · rw [if_neg (fun e => h7 e.2)] at hq
      dsimp only at hq
      by_cases h5 : fiN L[i] = 255
      · rw [if_pos h5] at hq
        have hw := ZBG std a b (L.map Zaq) (L.map Zah) (y :: Y) (i : Int) true
        simp only [Zam, Za0, Zai, ZaP, ZaJ, Zax, ZaV, Int.toNat_natCast, hgx, hgk, ei, hlm, hlk, show (AV.cellAt (Zaq L[i]) 2).toI = fiN L[i] from rfl] at hw
        rw [hgl] at hw
        refine go hC Zay hw ?_ (by simp at hq; exact hq)
        clear hq hw
        simp [hi, h5, h6]
        first | omega | (simp [h7]; omega)
      · rw [if_neg h5] at hq
        have hw := ZAj std a b (L.map Zaq) (L.map Zah) (y :: Y) (i : Int) true
        simp only [Zam, Za0, Zai, ZaP, ZaJ, Zax, ZaV, Int.toNat_natCast, hgx, hgk, ei, hlm, hlk, show (AV.cellAt (Zaq L[i]) 2).toI = fiN L[i] from rfl, show (AV.cellAt (Zaq L[i]) 3).toIs = dsN L[i] from rfl] at hw
        rw [hgl] at hw
        have hin := ZbP hC L a b ha i hi hL hk hxx [] (y :: Y) (fiN L[i]).toNat (fun x hx => by simp at hx) (by simp) (by simp [ZaM]) (by first | exact hY | simp) (AV.cellAt (Zaq L[i]) 0).toI (AV.cellAt (Zaq L[i]) 1).toI (fiN L[i]) (by omega) (by simpa using hq)
        rw [show ((fiN L[i]).toNat : Int) = fiN L[i] by omega] at hin
        refine go hC Zay hw ?_ hin
        clear hq hw hin
        simp [hi, h5, h6, h7] <;> omega
  · rw [if_neg (fun e => h6 e.1)] at hq
    dsimp only at hq
    by_cases h5 : fiN L[i] = 255
    · rw [if_pos h5] at hq
      have hw := ZEo std a b (L.map Zaq) (L.map Zah) (y :: Y) (i : Int) true
      simp only [Zam, Za0, Zai, ZaP, ZaJ, Zax, ZaV, Int.toNat_natCast, hgx, hgk, ei, hlm, hlk, show (AV.cellAt (Zaq L[i]) 2).toI = fiN L[i] from rfl] at hw
      rw [hgl] at hw
      refine go hC Zay hw ?_ (by simp at hq; exact hq)
      clear hq hw
      simp [hi, h5, h6] <;> omega
    · rw [if_neg h5] at hq
      have hw := ZA3 std a b (L.map Zaq) (L.map Zah) (y :: Y) (i : Int) true
      simp only [Zam, Za0, Zai, ZaP, ZaJ, Zax, ZaV, Int.toNat_natCast, hgx, hgk, ei, hlm, hlk, show (AV.cellAt (Zaq L[i]) 2).toI = fiN L[i] from rfl, show (AV.cellAt (Zaq L[i]) 3).toIs = dsN L[i] from rfl] at hw
      rw [hgl] at hw
      have hin := ZbP hC L a b ha i hi hL hk hxx [] (y :: Y) (fiN L[i]).toNat (fun x hx => by simp at hx) (by simp) (by simp [ZaM]) (by first | exact hY | simp) (AV.cellAt (Zaq L[i]) 0).toI (AV.cellAt (Zaq L[i]) 1).toI (fiN L[i]) (by omega) (by simpa using hq)
      rw [show ((fiN L[i]).toNat : Int) = fiN L[i] by omega] at hin
      refine go hC Zay hw ?_ hin
      clear hq hw hin
      simp [hi, h5, h6] <;> omega
theorem ZMh (q : Int) (p : List Int) (y : AV) (Y : List AV) (hY : (y :: Y).length ≤ 500000) (hp : okS (some (q :: p))) (hi0 : 0 < i) (hq : ZlH C a b (L.map Zaq) (L.map Zah) ((i : Int) + 1) Q (Zfg (some (q :: p)) (Zah L[i - 1]) L[i]) ((y :: Y) ++ Zfh (some (q :: p)) (Zah L[i - 1]) L[i])) : ZlH C a b (L.map Zaq) (L.map Zah) i Q (some (q :: p)) (y :: Y) := by
  have hgx : (L.map Zaq).getD i .top = Zaq L[i] := by simp [hi]
  have hgk : (L.map Zah).getD i 0 = Zah L[i] := by simp [hi]
  have hgl : (L.map Zah).getD (i - 1) 0 = Zah L[i - 1] := by simp [show i - 1 < L.length by omega]
  have hlm : (L.map Zaq).length = L.length := List.length_map _
  have hlk : (L.map Zah).length = L.length := List.length_map _
  have ei : ((i : Int) - 1).toNat = i - 1 := by omega
  have hk1 := hk L[i] (List.getElem_mem hi)
  have hk2 := hk (L[i - 1]'(by omega)) (List.getElem_mem _)
  have hxx := hx
  obtain ⟨hf, hl, hb⟩ := hx
  obtain ⟨q1, q2, q3⟩ := hp
  have hE : ZnX a (q :: p) (dsN L[i]) = true := by
    unfold ZnX Zh9
    have := Zbo (q1.app hb) 2
    simp only [Bool.and_eq_true, decide_eq_true_eq]
    omega
  have hex : Zec (dsN L[i]).length (q :: p) (dsN L[i]) = Zec a (q :: p) (dsN L[i]) := by rw [hl]
  unfold Zfg Zfh Zk7 Zdj at hq
  dsimp only at hq
  rw [hex] at hq
  by_cases h6 : Zah L[i] = Zah L[i - 1] + 1
  · by_cases h7 : fiN L[i] = Zec a (q :: p) (dsN L[i])
    · rw [if_pos ⟨h6, h7⟩] at hq
      dsimp only at hq
      have hw := ZD3 std a b (L.map Zaq) (L.map Zah) (y :: Y) (q :: p) true (i : Int)
      simp only [Zam, Za0, Zai, ZaP, ZaJ, Zax, ZaV, Int.toNat_natCast, hgx, hgk, ei, hlm, hlk, show (AV.cellAt (Zaq L[i]) 2).toI = fiN L[i] from rfl, show (AV.cellAt (Zaq L[i]) 3).toIs = dsN L[i] from rfl] at hw
      rw [hgl] at hw
      have hin := ZbP hC L a b ha i hi hL hk hxx (q :: p) (y :: Y) 0 q1 (by omega) ((ZdP _).2 q3) (by first | exact hY | simp) (AV.cellAt (Zaq L[i]) 0).toI (AV.cellAt (Zaq L[i]) 1).toI (fiN L[i]) (by omega) (by simpa using hq)
      refine go hC Zay hw ?_ hin
      clear hq hw hin
      rw [h6]
      rw [← h7, hE]
      simp [hi]
      omega
    · rw [if_neg (fun e => h7 e.2)] at hq
      dsimp only at hq
      by_cases h5 : fiN L[i] = 255
      · rw [if_pos h5] at hq
        have hw := ZBO std a b (L.map Zaq) (L.map Zah) (y :: Y) (q :: p) true (i : Int)
        simp only [Zam, Za0, Zai, ZaP, ZaJ, Zax, ZaV, Int.toNat_natCast, hgx, hgk, ei, hlm, hlk, show (AV.cellAt (Zaq L[i]) 2).toI = fiN L[i] from rfl, show (AV.cellAt (Zaq L[i]) 3).toIs = dsN L[i] from rfl] at hw
        rw [hgl] at hw
        refine go hC Zay hw ?_ (by simp at hq; exact hq)
        clear hq hw
        rw [hE]
        simp [hi, h5, h6]
        rw [h5] at h7
        first | omega | (simp [h7]; omega)
      · rw [if_neg h5] at hq
        have hw := Zz9 std a b (L.map Zaq) (L.map Zah) (y :: Y) (q :: p) true (i : Int)
        simp only [Zam, Za0, Zai, ZaP, ZaJ, Zax, ZaV, Int.toNat_natCast, hgx, hgk, ei, hlm, hlk, show (AV.cellAt (Zaq L[i]) 2).toI = fiN L[i] from rfl, show (AV.cellAt (Zaq L[i]) 3).toIs = dsN L[i] from rfl] at hw
        rw [hgl] at hw
        have hin := ZbP hC L a b ha i hi hL hk hxx [] (y :: Y) (fiN L[i]).toNat (fun x hx => by simp at hx) (by simp) (by simp [ZaM]) (by first | exact hY | simp) (AV.cellAt (Zaq L[i]) 0).toI (AV.cellAt (Zaq L[i]) 1).toI (fiN L[i]) (by omega) (by simpa using hq)
        rw [show ((fiN L[i]).toNat : Int) = fiN L[i] by omega] at hin
        refine go hC Zay hw ?_ hin
        clear hq hw hin
        rw [hE]
        simp [hi, h5, h6, h7] <;> omega
  · rw [if_neg (fun e => h6 e.1)] at hq
    dsimp only at hq
    by_cases h5 : fiN L[i] = 255
    · rw [if_pos h5] at hq
      have hw := ZF5 std a b (L.map Zaq) (L.map Zah) (y :: Y) (q :: p) true (i : Int)
      simp only [Zam, Za0, Zai, ZaP, ZaJ, Zax, ZaV, Int.toNat_natCast, hgx, hgk, ei, hlm, hlk, show (AV.cellAt (Zaq L[i]) 2).toI = fiN L[i] from rfl] at hw
      rw [hgl] at hw
      refine go hC Zay hw ?_ (by simp at hq; exact hq)
      clear hq hw
      simp [hi, h5, h6] <;> omega
    · rw [if_neg h5] at hq
      have hw := ZEq std a b (L.map Zaq) (L.map Zah) (y :: Y) (q :: p) true (i : Int)
      simp only [Zam, Za0, Zai, ZaP, ZaJ, Zax, ZaV, Int.toNat_natCast, hgx, hgk, ei, hlm, hlk, show (AV.cellAt (Zaq L[i]) 2).toI = fiN L[i] from rfl, show (AV.cellAt (Zaq L[i]) 3).toIs = dsN L[i] from rfl] at hw
      rw [hgl] at hw
      have hin := ZbP hC L a b ha i hi hL hk hxx [] (y :: Y) (fiN L[i]).toNat (fun x hx => by simp at hx) (by simp) (by simp [ZaM]) (by first | exact hY | simp) (AV.cellAt (Zaq L[i]) 0).toI (AV.cellAt (Zaq L[i]) 1).toI (fiN L[i]) (by omega) (by simpa using hq)
      rw [show ((fiN L[i]).toNat : Int) = fiN L[i] by omega] at hin
      refine go hC Zay hw ?_ hin
      clear hq hw hin
      simp [hi, h5, h6] <;> omega
end
def Q22 : List AV → List AFrame → Zaa → Prop
  | [] => ZfK 22 .nils none
  | z :: Z => ZfK 22 (.row 0 0) (some ⟨57, 3, .big shP (z :: Z)⟩)
theorem ZCB {C : Ctx} (hC : C.P = Try.prog) (L : List AV) (a b : Int) (ha : 4 ≤ a ∧ a ≤ 24) (hL : L.length ≤ 1000) (hx : ∀ x ∈ L, okX a x) (hk : ∀ x ∈ L, -400000 ≤ Zah x ∧ Zah x ≤ 400000) : ∀ (d i : Nat) (last : Int) (st : Option (List Int)) (X : List AV), L.length - i = d → i ≤ L.length → okS st → X.length ≤ 300 * i →
    (∀ h : i - 1 < L.length, 0 < i → last = Zah (L[i - 1]'h)) → (i = 0 → st = none) → ZlH C a b (L.map Zaq) (L.map Zah) i (Q22 (X ++ Zic st last (L.drop i))) st X := by
  intro d
  induction d with
  | zero =>
    intro i last st X hd hi hs hX hl h0
    rw [List.drop_of_length_le (by omega), Zic, List.append_nil]
    have hlm : (L.map Zaq).length = L.length := List.length_map _
    match st, X with
    | none, [] => exact fin hC Zay (ZBt std a b (L.map Zaq) (L.map Zah) i false) (by simp; omega) rfl rfl
    | some [], [] => exact fin hC Zay (ZBt std a b (L.map Zaq) (L.map Zah) i true) (by simp; omega) rfl rfl
    | some (q :: p), [] => exact fin hC Zay (ZFQ std a b (L.map Zaq) (L.map Zah) (q :: p) true i) (by simp; omega) rfl rfl
    | none, y :: Y => exact fin hC Zay (Zt8 std a b (L.map Zaq) (L.map Zah) (y :: Y) i false) (by simp; omega) rfl rfl
    | some [], y :: Y => exact fin hC Zay (Zt8 std a b (L.map Zaq) (L.map Zah) (y :: Y) i true) (by simp; omega) rfl rfl
    | some (q :: p), y :: Y => exact fin hC Zay (ZD9 std a b (L.map Zaq) (L.map Zah) (y :: Y) (q :: p) true i) (by simp; omega) rfl rfl
  | succ d ih =>
    intro i last st X hd hi hs hX hl h0
    have hlt : i < L.length := by omega
    have hxi := hx L[i] (List.getElem_mem hlt)
    rw [List.drop_eq_getElem_cons hlt, Zic, ← List.append_assoc]
    have hq := ih (i + 1) (Zah L[i]) (Zfg st last L[i]) (X ++ Zfh st last L[i]) (by omega) (by omega) (ZlY hs hxi ha) (by
      have := (Zjp (last := last) hs hxi ha).1
      rw [List.length_append]; omega) (fun h _ => rfl) (fun h => by omega)
    rw [show (((i + 1 : Nat) : Nat) : Int) = (i : Int) + 1 by omega] at hq
    match st, X, hs, hX, hq, h0 with
    | none, [], hs, hX, hq, _ => exact ZMA hC L a b ha i hlt hL hk hxi last hq
    | none, y :: Y, hs, hX, hq, _ => exact ZLJ hC L a b ha i hlt hL hk hxi last y Y (by omega) hq
    | some p, X, hs, hX, hq, h0 =>
      have hi0 : 0 < i := by
        rcases Nat.eq_zero_or_pos i with h | h
        · cases h0 h
        · exact h
      have hll := hl (by omega) hi0
      rw [hll] at hq ⊢
      match p, X, hs, hX, hq with
      | [], [], hs, hX, hq => exact ZLp hC L a b ha i hlt hL hk hxi hs hi0 hq
      | q :: p, [], hs, hX, hq => exact ZL7 hC L a b ha i hlt hL hk hxi q p hs hi0 hq
      | [], y :: Y, hs, hX, hq => exact ZKX hC L a b ha i hlt hL hk hxi y Y (by omega) hs hi0 hq
      | q :: p, y :: Y, hs, hX, hq => exact ZMh hC L a b ha i hlt hL hk hxi q p y Y (by omega) hs hi0 hq
theorem ZHL (a b c : Int) (fs : List AV) (h0 : ZbO a b c fs = 0) : ZaI Try.prog 22 [.agg (.gen [.int .i64 a, .int .i64 b]), .int .i64 c, .list (.big ZgT fs)] (.list (.big shP (Zic none 0 (ZfF c fs)))) none := by
  have hnm := ZpJ h0
  obtain ⟨ha, hfr⟩ := Zlr h0
  have hlen := Zjy c fs
  have h40 := (ZhH h0).2.2.1
  have key : ∀ C : Ctx, C.P = Try.prog → Ev C (ZKq a b c fs) [] (Q22 (Zic none 0 (ZfF c fs))) := fun C hC => by
    have hw := ZJh std a b c fs
    rw [ZpV] at hw
    refine go hC Zay hw (by simp [hnm]) ?_
    have := ZCB hC (ZfF c fs) a b ha (by omega) (ZoL hfr) (Zmt hnm) _ 0 0 none [] rfl (Nat.zero_le _) trivial (by simp) (fun _ h => by omega) (fun _ => rfl)
    simp at this
    exact this
  cases hz : Zic none 0 (ZfF c fs) with
  | nil =>
    rw [hz] at key
    exact ZmG (start (ZpL a b c fs) key) rfl
  | cons y Y =>
    rw [hz] at key
    exact Zmu (e := 57) (sz := 2) (start (ZpL a b c fs) key) rfl
end Go.Proofs.Ytjhdnpmojhkbjaa
/- Contracts as a list. No condition. -/
namespace Go.Proofs.Ytjhdnpmojhkbjaa
def exR (c : Int) (fs : List AV) : List AV := Zic none 0 (ZfF c fs)
theorem Zug (c : Int) (fs : List AV) : exR c fs = Zic none 0 (ZfF c fs) := rfl
attribute [irreducible] exR
def k22 : Ctr := ⟨22, 0, fun _ a => match a with | [.agg (.gen [.int .i64 a, .int .i64 b]), .int .i64 c, .list (.big (.agg [.int .i64, .int .i64, .int .i64, .ints .i64]) fs)] => some (decide (ZbO a b c fs = 0), .list (.big shP (exR c fs)), none) | _ => none⟩
theorem ZzS : k22.OK Try.prog := fun pa args r fr h => by
  simp only [k22] at h
  split at h
  · simp only [Option.some.injEq, Prod.mk.injEq, decide_eq_true_eq] at h
    obtain ⟨h0, rfl, rfl⟩ := h
    exact (by rw [Zug]; exact ZHL _ _ _ _ h0)
  · cases h
def BOs : List Ctr := [k22] ++ BOq
theorem ZkZ : Zas Try.prog BOs := ⟨ZzS, ZtP⟩
end Go.Proofs.Ytjhdnpmojhkbjaa
/- Paths of functions, printed by the explorer (Gx). No condition. -/
namespace Go.Proofs.Ytjhdnpmojhkbjaa
set_option maxRecDepth 100000
set_option linter.unusedVariables false
def ZKf (a : Int) (b : Int) (c : Int) (fs : List AV) : AFrame := { fn := 3, N := 55, env := [(0, AV.agg (Row.gen [AV.int .i64 a, AV.int .i64 b])), (1, AV.int .i64 c), (2, AV.list (Row.big (Sh.agg [Sh.int .i64, Sh.int .i64, Sh.int .i64, Sh.ints .i64]) fs))], todo := [.code a3.code], defs := [], rnd := none, ret := false, res := [ARes.tmp 6] }
def f3e (a : Int) (b : Int) (c : Int) (fs : List AV) : List AFrame := [(ZKf a b c fs)]
theorem ZFe (a : Int) (b : Int) (c : Int) (fs : List AV) : Zal tab 3 [AV.agg (Row.gen [AV.int .i64 a, AV.int .i64 b]), AV.int .i64 c, AV.list (Row.big (Sh.agg [Sh.int .i64, Sh.int .i64, Sh.int .i64, Sh.ints .i64]) fs)] = some (ZKf a b c fs) := rfl
theorem ZMv (A : Ar) (a b c : Int) (fs : List AV) : ZaD A tab BOs 26 [false, true] 3 (f3e a b c fs) [] =
  some (tr [2, 3, 4] [A.not (ZqF fs), !A.not true],
   AV.bool true, none) := by kernel_rfl
theorem ZKN (A : Ar) (a b c : Int) (fs : List AV) : ZaD A tab BOs 78 [false, false, true, true, true, true, true, true, true] 3 (f3e a b c fs) [] =
  some (tr [9, 4, 3, 2, 3, 2, 10, 0, 3, 3, 4] [A.eq (ZbO a b c fs) (Zrb a b fs), A.not (A.eq (Zrb a b fs) 0), decide (Zwb a b fs = true), A.eq (ZbS b c) 0, decide (-1000000 ≤ b ∧ b ≤ 1000000), A.eq (ZaK a b) 0, decide (Zbd fs = true), decide (Zbd fs = true), !A.not (ZqF fs), !A.not true],
   AV.bool (A.eq (A.int (A.lenA (exO a b c fs))) 0), none) := by kernel_rfl
theorem ZKV (A : Ar) (a b c : Int) (fs : List AV) : ZaD A tab BOs 81 [false, false, true, true, false, true, true, true, true, true, true, true] 3 (f3e a b c fs) [] =
  some (tr [4, 1, 8, 3, 3, 2, 3, 2, 10, 0, 3, 3, 4] [decide (Zzm (exO a b c fs) = true), decide (ZbO a b c fs = 0), A.eq (ZbO a b c fs) 0, !A.not (A.eq (Zrb a b fs) 0), decide (Zwb a b fs = true), A.eq (ZbS b c) 0, decide (-1000000 ≤ b ∧ b ≤ 1000000), A.eq (ZaK a b) 0, decide (Zbd fs = true), decide (Zbd fs = true), !A.not (ZqF fs), !A.not true],
   AV.bool (decide (List.map pkT (exO a b c fs) = List.map pkT (exR c fs))), none) := by kernel_rfl
theorem ZLI (A : Ar) (a b c : Int) (fs : List AV) : ZaD A tab BOs 73 [false, false, true, false, true, true, true, true, true] 3 (f3e a b c fs) [] =
  some (tr [9, 4, 2, 3, 2, 10, 0, 3, 3, 4] [A.eq (ZbO a b c fs) (ZbS b c), A.not (A.eq (ZbS b c) 0), !A.eq (ZbS b c) 0, decide (-1000000 ≤ b ∧ b ≤ 1000000), A.eq (ZaK a b) 0, decide (Zbd fs = true), decide (Zbd fs = true), !A.not (ZqF fs), !A.not true],
   AV.bool (A.eq (A.int (A.lenA (exO a b c fs))) 0), none) := by kernel_rfl
theorem ZL3 (A : Ar) (a b c : Int) (fs : List AV) : ZaD A tab BOs 68 [false, false, false, false, true, true, true, true, true] 3 (f3e a b c fs) [] =
  some (tr [9, 4, 2, 2, 10, 0, 3, 3, 4] [A.eq (ZbO a b c fs) (ZaK a b), A.not (A.eq (ZaK a b) 0), !A.eq (ZaK a b) 0, !A.eq (ZaK a b) 0, decide (Zbd fs = true), decide (Zbd fs = true), !A.not (ZqF fs), !A.not true],
   AV.bool (A.eq (A.int (A.lenA (exO a b c fs))) 0), none) := by kernel_rfl
end Go.Proofs.Ytjhdnpmojhkbjaa
