/- Paths of functions, printed by the explorer (Gx). No condition. -/
import Derived.Test.YtjhdnpmojhkbjaaNd
import Derived.KernelRfl
namespace Go.Proofs.Ytjhdnpmojhkbjaa
set_option maxRecDepth 100000
set_option linter.unusedVariables false
def ZCS (a : Int) (b : Int) (c : Int) (fs : List AV) : AFrame := { fn := 16, N := 45, env := [(0, AV.agg (Row.gen [AV.int .i64 a, AV.int .i64 b])), (1, AV.int .i64 c), (2, AV.list (Row.big (Sh.agg [Sh.int .i64, Sh.int .i64, Sh.int .i64, Sh.ints .i64]) fs))], todo := [.code a16.code], defs := [], rnd := none, ret := false, res := [ARes.tmp 6, ARes.tmp 7] }
def ZGP (a : Int) (b : Int) (c : Int) (fs : List AV) : List AFrame := [(ZCS a b c fs)]
theorem Zlv (a : Int) (b : Int) (c : Int) (fs : List AV) : Zal tab 16 [AV.agg (Row.gen [AV.int .i64 a, AV.int .i64 b]), AV.int .i64 c, AV.list (Row.big (Sh.agg [Sh.int .i64, Sh.int .i64, Sh.int .i64, Sh.ints .i64]) fs)] = some (ZCS a b c fs) := rfl
def ZdD (x0 : List AV) (n1 n2 n3 : Int) : List AFrame := [{ fn := 16, N := 45, env := [(10, AV.ptr 16011 0 0 0), (11, AV.int .i64 n2), (26, AV.list (Row.big (Sh.agg [Sh.int .i64, Sh.int .i64, Sh.int .i64, Sh.ints .i64, Sh.int .i64]) x0)), (27, AV.int .i64 n1), (28, AV.int .i64 n3)], todo := .code (ACode.gh [] Zpl) :: Zn5, defs := [], rnd := none, ret := false, res := [ARes.tmp 6, ARes.tmp 7] }]
def ZcG (x0 : List AV) (n1 : Int) (n2 : Int) (n3 : Int) : Zaa := [(16011, { base := 0, blks := [Blk.row 136 3 (Row.gen [AV.agg (Row.gen [AV.bool false, AV.nils, AV.nils])])] })]
abbrev ZeK (x0 : List AV) (n1 : Int) (n2 : Int) (n3 : Int) : List AFrame × Zaa := (ZdD x0 n1 n2 n3, ZcG x0 n1 n2 n3)
def Zdz (x0 : List AV) (n1 : Int) (b4 : Bool) (n5 n6 n7 : Int) (l8 : List Int) (n9 n10 n11 n12 : Int) (l13 : List Int) (n14 n15 n16 n17 : Int) (l18 : List Int) (n19 n20 : Int) (b21 : Bool) (l22 : List Int) (n23 n24 n25 : Int) (l26 : List Int) (n27 n28 n29 n30 : Int) : List AFrame := [{ fn := 80, N := 116, env := [(0, AV.ptr 16011 0 0 0)], todo := .code (ACode.gh [] ZwY) :: ZAL, defs := [], rnd := none, ret := false, res := [] }, { fn := 16, N := 45, env := [(10, AV.ptr 16011 0 0 0), (11, AV.int .i64 n28), (13, AV.ptr 16014 0 0 0), (26, AV.list (Row.big (Sh.agg [Sh.int .i64, Sh.int .i64, Sh.int .i64, Sh.ints .i64, Sh.int .i64]) x0)), (27, AV.int .i64 n1), (28, AV.int .i64 n29), (29, AV.bool b4), (30, AV.eptr (AV.agg (Row.gen [AV.int .i64 n5, AV.int .i64 n6, AV.int .i64 n7, AV.list (.ints .i64 l8), AV.int .i64 n9])) 0), (31, AV.agg (Row.gen [AV.int .i64 n10, AV.int .i64 n11, AV.int .i64 n12, AV.list (.ints .i64 l13), AV.int .i64 n14])), (32, AV.ptr 16014 0 0 0), (33, AV.agg (Row.gen [AV.int .i64 n15, AV.int .i64 n16, AV.int .i64 n17, AV.list (.ints .i64 l18)])), (34, AV.ptr 16014 0 0 4), (35, AV.int .i64 n19), (36, AV.int .i64 n30), (37, AV.int .i64 n20), (38, AV.bool b21)], todo := AItem.inReg [oN 39 (OpK.icall 80 [Opd.t 10, Opd.t 33, Opd.t 38])] :: .code (ACode.gh [Ghost.keep [10, 13, 26, 27, 28]] (ACode.reg none [oN 40 (OpK.faddr 4 (Opd.t 13)), oN 41 (OpK.load false 1 (Opd.t 40)), mV 11 41])) :: AItem.inBlock 1 :: .code (ACode.reg none [oN 42 (OpK.bin Go.BinOp.add (Opd.t 28) (cI 1)), mV 28 42]) :: Zn5, defs := [], rnd := none, ret := false, res := [ARes.tmp 6, ARes.tmp 7] }]
def ZcJ (x0 : List AV) (n1 : Int) (b4 : Bool) (n5 : Int) (n6 : Int) (n7 : Int) (l8 : List Int) (n9 : Int) (n10 : Int) (n11 : Int) (n12 : Int) (l13 : List Int) (n14 : Int) (n15 : Int) (n16 : Int) (n17 : Int) (l18 : List Int) (n19 : Int) (n20 : Int) (b21 : Bool) (l22 : List Int) (n23 : Int) (n24 : Int) (n25 : Int) (l26 : List Int) (n27 : Int) (n28 : Int) (n29 : Int) (n30 : Int) : Zaa := [(16011, { base := 0, blks := [Blk.row 136 3 (Row.gen [AV.agg (Row.gen [AV.bool true, AV.list (.ints .i64 l22), AV.nils])])] }), (16014, { base := 0, blks := [Blk.row 140 5 (Row.gen [AV.agg (Row.gen [AV.int .i64 n23, AV.int .i64 n24, AV.int .i64 n25, AV.list (.ints .i64 l26), AV.int .i64 n27])])] })]
abbrev Zdq (x0 : List AV) (n1 : Int) (b4 : Bool) (n5 : Int) (n6 : Int) (n7 : Int) (l8 : List Int) (n9 : Int) (n10 : Int) (n11 : Int) (n12 : Int) (l13 : List Int) (n14 : Int) (n15 : Int) (n16 : Int) (n17 : Int) (l18 : List Int) (n19 : Int) (n20 : Int) (b21 : Bool) (l22 : List Int) (n23 : Int) (n24 : Int) (n25 : Int) (l26 : List Int) (n27 : Int) (n28 : Int) (n29 : Int) (n30 : Int) : List AFrame × Zaa := (Zdz x0 n1 b4 n5 n6 n7 l8 n9 n10 n11 n12 l13 n14 n15 n16 n17 l18 n19 n20 b21 l22 n23 n24 n25 l26 n27 n28 n29 n30, ZcJ x0 n1 b4 n5 n6 n7 l8 n9 n10 n11 n12 l13 n14 n15 n16 n17 l18 n19 n20 b21 l22 n23 n24 n25 l26 n27 n28 n29 n30)
def Zbz (x0 : List AV) (n1 : Int) (l22 : List Int) (n27 n31 : Int) : List AFrame := [{ fn := 16, N := 45, env := [(10, AV.ptr 16011 0 0 0), (11, AV.int .i64 n27), (26, AV.list (Row.big (Sh.agg [Sh.int .i64, Sh.int .i64, Sh.int .i64, Sh.ints .i64, Sh.int .i64]) x0)), (27, AV.int .i64 n1), (28, AV.int .i64 n31)], todo := .code (ACode.gh [] Zpl) :: Zn5, defs := [], rnd := none, ret := false, res := [ARes.tmp 6, ARes.tmp 7] }]
def Za9 (x0 : List AV) (n1 : Int) (l22 : List Int) (n27 : Int) (n31 : Int) : Zaa := [(16011, { base := 0, blks := [Blk.row 136 3 (Row.gen [AV.agg (Row.gen [AV.bool true, AV.list (.ints .i64 l22), AV.nils])])] })]
abbrev Zii (x0 : List AV) (n1 : Int) (l22 : List Int) (n27 : Int) (n31 : Int) : List AFrame × Zaa := (Zbz x0 n1 l22 n27 n31, Za9 x0 n1 l22 n27 n31)
def ZdA (x0 : List AV) (n1 : Int) (l32 : List Int) (x33 : List AV) (n34 n35 : Int) (b36 : Bool) (n37 n38 n39 : Int) (l40 : List Int) (n41 n42 n43 n44 : Int) (l45 : List Int) (n46 n47 n48 n49 : Int) (l50 : List Int) (n51 n52 n53 : Int) (b54 : Bool) (n55 n56 n57 : Int) (l58 : List Int) (n59 : Int) : List AFrame := [{ fn := 80, N := 116, env := [(0, AV.ptr 16011 0 0 0)], todo := .code (ACode.gh [] ZwY) :: ZAL, defs := [], rnd := none, ret := false, res := [] }, { fn := 16, N := 45, env := [(10, AV.ptr 16011 0 0 0), (11, AV.int .i64 n34), (13, AV.ptr 16014 0 0 0), (26, AV.list (Row.big (Sh.agg [Sh.int .i64, Sh.int .i64, Sh.int .i64, Sh.ints .i64, Sh.int .i64]) x0)), (27, AV.int .i64 n1), (28, AV.int .i64 n35), (29, AV.bool b36), (30, AV.eptr (AV.agg (Row.gen [AV.int .i64 n37, AV.int .i64 n38, AV.int .i64 n39, AV.list (.ints .i64 l40), AV.int .i64 n41])) 0), (31, AV.agg (Row.gen [AV.int .i64 n42, AV.int .i64 n43, AV.int .i64 n44, AV.list (.ints .i64 l45), AV.int .i64 n46])), (32, AV.ptr 16014 0 0 0), (33, AV.agg (Row.gen [AV.int .i64 n47, AV.int .i64 n48, AV.int .i64 n49, AV.list (.ints .i64 l50)])), (34, AV.ptr 16014 0 0 4), (35, AV.int .i64 n51), (36, AV.int .i64 n52), (37, AV.int .i64 n53), (38, AV.bool b54)], todo := AItem.inReg [oN 39 (OpK.icall 80 [Opd.t 10, Opd.t 33, Opd.t 38])] :: .code (ACode.gh [Ghost.keep [10, 13, 26, 27, 28]] (ACode.reg none [oN 40 (OpK.faddr 4 (Opd.t 13)), oN 41 (OpK.load false 1 (Opd.t 40)), mV 11 41])) :: AItem.inBlock 1 :: .code (ACode.reg none [oN 42 (OpK.bin Go.BinOp.add (Opd.t 28) (cI 1)), mV 28 42]) :: Zn5, defs := [], rnd := none, ret := false, res := [ARes.tmp 6, ARes.tmp 7] }]
def ZcB (x0 : List AV) (n1 : Int) (l32 : List Int) (x33 : List AV) (n34 : Int) (n35 : Int) (b36 : Bool) (n37 : Int) (n38 : Int) (n39 : Int) (l40 : List Int) (n41 : Int) (n42 : Int) (n43 : Int) (n44 : Int) (l45 : List Int) (n46 : Int) (n47 : Int) (n48 : Int) (n49 : Int) (l50 : List Int) (n51 : Int) (n52 : Int) (n53 : Int) (b54 : Bool) (n55 : Int) (n56 : Int) (n57 : Int) (l58 : List Int) (n59 : Int) : Zaa := [(16011, { base := 0, blks := [Blk.row 136 3 (Row.gen [AV.agg (Row.gen [AV.bool true, AV.list (.ints .i64 l32), AV.row 80105 0])])] }), (16014, { base := 0, blks := [Blk.row 140 5 (Row.gen [AV.agg (Row.gen [AV.int .i64 n55, AV.int .i64 n56, AV.int .i64 n57, AV.list (.ints .i64 l58), AV.int .i64 n59])])] }), (80105, { base := 0, blks := [Blk.row 57 3 (Row.big (Sh.agg [Sh.int .i64, Sh.int .i64, Sh.ints .i64]) x33)] })]
abbrev Zb5 (x0 : List AV) (n1 : Int) (l32 : List Int) (x33 : List AV) (n34 : Int) (n35 : Int) (b36 : Bool) (n37 : Int) (n38 : Int) (n39 : Int) (l40 : List Int) (n41 : Int) (n42 : Int) (n43 : Int) (n44 : Int) (l45 : List Int) (n46 : Int) (n47 : Int) (n48 : Int) (n49 : Int) (l50 : List Int) (n51 : Int) (n52 : Int) (n53 : Int) (b54 : Bool) (n55 : Int) (n56 : Int) (n57 : Int) (l58 : List Int) (n59 : Int) : List AFrame × Zaa := (ZdA x0 n1 l32 x33 n34 n35 b36 n37 n38 n39 l40 n41 n42 n43 n44 l45 n46 n47 n48 n49 l50 n51 n52 n53 b54 n55 n56 n57 l58 n59, ZcB x0 n1 l32 x33 n34 n35 b36 n37 n38 n39 l40 n41 n42 n43 n44 l45 n46 n47 n48 n49 l50 n51 n52 n53 b54 n55 n56 n57 l58 n59)
def ZbA (x0 : List AV) (n1 : Int) (l32 : List Int) (x33 : List AV) (n59 n60 : Int) : List AFrame := [{ fn := 16, N := 45, env := [(10, AV.ptr 16011 0 0 0), (11, AV.int .i64 n59), (26, AV.list (Row.big (Sh.agg [Sh.int .i64, Sh.int .i64, Sh.int .i64, Sh.ints .i64, Sh.int .i64]) x0)), (27, AV.int .i64 n1), (28, AV.int .i64 n60)], todo := .code (ACode.gh [] Zpl) :: Zn5, defs := [], rnd := none, ret := false, res := [ARes.tmp 6, ARes.tmp 7] }]
def Za7 (x0 : List AV) (n1 : Int) (l32 : List Int) (x33 : List AV) (n59 : Int) (n60 : Int) : Zaa := [(16011, { base := 0, blks := [Blk.row 136 3 (Row.gen [AV.agg (Row.gen [AV.bool true, AV.list (.ints .i64 l32), AV.row 80105 0])])] }), (80105, { base := 0, blks := [Blk.row 57 3 (Row.big (Sh.agg [Sh.int .i64, Sh.int .i64, Sh.ints .i64]) x33)] })]
abbrev ZiL (x0 : List AV) (n1 : Int) (l32 : List Int) (x33 : List AV) (n59 : Int) (n60 : Int) : List AFrame × Zaa := (ZbA x0 n1 l32 x33 n59 n60, Za7 x0 n1 l32 x33 n59 n60)
def Zdp (x0 : List AV) (n1 : Int) (x33 : List AV) (n61 n62 : Int) : List AFrame := [{ fn := 16, N := 45, env := [(10, AV.ptr 16011 0 0 0), (11, AV.int .i64 n61), (26, AV.list (Row.big (Sh.agg [Sh.int .i64, Sh.int .i64, Sh.int .i64, Sh.ints .i64, Sh.int .i64]) x0)), (27, AV.int .i64 n1), (28, AV.int .i64 n62)], todo := .code (ACode.gh [] Zpl) :: Zn5, defs := [], rnd := none, ret := false, res := [ARes.tmp 6, ARes.tmp 7] }]
def ZcO (x0 : List AV) (n1 : Int) (x33 : List AV) (n61 : Int) (n62 : Int) : Zaa := [(16011, { base := 0, blks := [Blk.row 136 3 (Row.gen [AV.agg (Row.gen [AV.bool false, AV.nils, AV.row 80105 0])])] }), (80105, { base := 0, blks := [Blk.row 57 3 (Row.big (Sh.agg [Sh.int .i64, Sh.int .i64, Sh.ints .i64]) x33)] })]
abbrev Zgl (x0 : List AV) (n1 : Int) (x33 : List AV) (n61 : Int) (n62 : Int) : List AFrame × Zaa := (Zdp x0 n1 x33 n61 n62, ZcO x0 n1 x33 n61 n62)
theorem ZHV (A : Ar) (a b c : Int) (fs : List AV) : ZaD A tab BOp 34 [true] 16 (ZGP a b c fs) [] =
  some (tr [4, 8, 6] [A.not (A.eq (ZbO a b c fs) 0), decide (Zbd fs = true)],
   AV.tup [AV.nils, AV.int .i64 (ZbO a b c fs)], none) := by kernel_rfl
theorem ZGW (A : Ar) (a b c : Int) (fs : List AV) : Zac A tab BOp 48 [false] (ZGP a b c fs) [] =
  some (tr [2, 4, 8, 6] [decide (nmB fs = true), !A.not (A.eq (ZbO a b c fs) 0), decide (Zbd fs = true)],
   ZeK (ZfF c fs) (A.int (A.lenA (ZfF c fs))) (0) (0)) := by kernel_rfl
theorem ZIn (A : Ar) (x0 : List AV) (n1 n2 n3 : Int) : Zac A tab BOp 77 [true, false, false, true, true] (ZdD x0 n1 n2 n3) (ZcG x0 n1 n2 n3) =
  some (tr [1, 4, 3, 28, 8, 0, 1] [A.inR .i64 (A.add n3 1), A.eq ((A.nthA x0 (A.nat n3)).cellAt 2).toI 255, A.not false, A.inR .i64 (A.add n2 1), Zab (Zab (A.le 0 n3) (Nat.blt (A.nat n3) (A.lenA x0))) true, A.lt n3 n1],
   ZeK (x0) (n1) ((A.nthA x0 (A.nat n3)).cellAt 4).toI (A.add n3 1)) := by kernel_rfl
theorem ZIM (A : Ar) (x0 : List AV) (n1 n2 n3 : Int) : Zac A tab BOp 81 [true, false, false, true, false] (ZdD x0 n1 n2 n3) (ZcG x0 n1 n2 n3) =
  some (tr [3, 0, 10, 4, 3, 28, 8, 0, 1] [decide (0 < List.length (A.sub3 ((A.nthA x0 (A.nat n3)).cellAt 3).toIs (A.nat ((A.nthA x0 (A.nat n3)).cellAt 2).toI) (A.len ((A.nthA x0 (A.nat n3)).cellAt 3).toIs - A.nat ((A.nthA x0 (A.nat n3)).cellAt 2).toI)) ∧ List.length (A.sub3 ((A.nthA x0 (A.nat n3)).cellAt 3).toIs (A.nat ((A.nthA x0 (A.nat n3)).cellAt 2).toI) (A.len ((A.nthA x0 (A.nat n3)).cellAt 3).toIs - A.nat ((A.nthA x0 (A.nat n3)).cellAt 2).toI)) ≤ 1000000), List.all [AV.nils, AV.list (.ints .i64 (A.sub3 ((A.nthA x0 (A.nat n3)).cellAt 3).toIs (A.nat ((A.nthA x0 (A.nat n3)).cellAt 2).toI) (A.len ((A.nthA x0 (A.nat n3)).cellAt 3).toIs - A.nat ((A.nthA x0 (A.nat n3)).cellAt 2).toI)))] fun x => AV.bx x && Nat.beq (Zae A x) 1, Zab (Zab (A.le 0 ((A.nthA x0 (A.nat n3)).cellAt 2).toI) true) (Zab (Zab (Nat.ble (A.nat ((A.nthA x0 (A.nat n3)).cellAt 2).toI) (A.len ((A.nthA x0 (A.nat n3)).cellAt 3).toIs)) (Nat.ble (A.len ((A.nthA x0 (A.nat n3)).cellAt 3).toIs) (A.len ((A.nthA x0 (A.nat n3)).cellAt 3).toIs))) true), !A.eq ((A.nthA x0 (A.nat n3)).cellAt 2).toI 255, A.not false, A.inR .i64 (A.add n2 1), Zab (Zab (A.le 0 n3) (Nat.blt (A.nat n3) (A.lenA x0))) true, A.lt n3 n1],
   Zdq (x0) (n1) (A.lt n3 n1) ((A.nthA x0 (A.nat n3)).cellAt 0).toI ((A.nthA x0 (A.nat n3)).cellAt 1).toI ((A.nthA x0 (A.nat n3)).cellAt 2).toI ((A.nthA x0 (A.nat n3)).cellAt 3).toIs ((A.nthA x0 (A.nat n3)).cellAt 4).toI ((A.nthA x0 (A.nat n3)).cellAt 0).toI ((A.nthA x0 (A.nat n3)).cellAt 1).toI ((A.nthA x0 (A.nat n3)).cellAt 2).toI ((A.nthA x0 (A.nat n3)).cellAt 3).toIs ((A.nthA x0 (A.nat n3)).cellAt 4).toI ((A.nthA x0 (A.nat n3)).cellAt 0).toI ((A.nthA x0 (A.nat n3)).cellAt 1).toI ((A.nthA x0 (A.nat n3)).cellAt 2).toI ((A.nthA x0 (A.nat n3)).cellAt 3).toIs ((A.nthA x0 (A.nat n3)).cellAt 4).toI (A.add n2 1) (A.eq ((A.nthA x0 (A.nat n3)).cellAt 4).toI (A.add n2 1)) (A.sub3 ((A.nthA x0 (A.nat n3)).cellAt 3).toIs (A.nat ((A.nthA x0 (A.nat n3)).cellAt 2).toI) (A.len ((A.nthA x0 (A.nat n3)).cellAt 3).toIs - A.nat ((A.nthA x0 (A.nat n3)).cellAt 2).toI)) ((A.nthA x0 (A.nat n3)).cellAt 0).toI ((A.nthA x0 (A.nat n3)).cellAt 1).toI ((A.nthA x0 (A.nat n3)).cellAt 2).toI ((A.nthA x0 (A.nat n3)).cellAt 3).toIs ((A.nthA x0 (A.nat n3)).cellAt 4).toI (n2) (n3) (n2)) := by kernel_rfl
theorem ZJm (A : Ar) (x0 : List AV) (n1 n2 n3 : Int) : ZaD A tab BOp 16 [false] 16 (ZdD x0 n1 n2 n3) (ZcG x0 n1 n2 n3) =
  some (tr [5, 1] [!A.lt n3 n1],
   AV.tup [AV.nils, AV.int .i64 0], none) := by kernel_rfl
theorem ZJw (A : Ar) (x0 : List AV) (n1 : Int) (b4 : Bool) (n5 n6 n7 : Int) (l8 : List Int) (n9 n10 n11 n12 : Int) (l13 : List Int) (n14 n15 n16 n17 : Int) (l18 : List Int) (n19 n20 : Int) (b21 : Bool) (l22 : List Int) (n23 n24 n25 : Int) (l26 : List Int) (n27 n28 n29 n30 : Int) : Zac A tab BOp 55 [true, true] (Zdz x0 n1 b4 n5 n6 n7 l8 n9 n10 n11 n12 l13 n14 n15 n16 n17 l18 n19 n20 b21 l22 n23 n24 n25 l26 n27 n28 n29 n30) (ZcJ x0 n1 b4 n5 n6 n7 l8 n9 n10 n11 n12 l13 n14 n15 n16 n17 l18 n19 n20 b21 l22 n23 n24 n25 l26 n27 n28 n29 n30) =
  some (tr [1, 4, 8, 1, 4, 6] [A.inR .i64 (A.add n29 1), A.lt (A.int (A.len l22)) (A.add 3 (A.nth l22 (A.nat 2))), A.inR .i64 (A.add 3 (A.nth l22 (A.nat 2))), Zab (Zab (A.le 0 2) (Nat.blt (A.nat 2) (A.len l22))) true, A.le 3 (A.int (A.len l22))],
   Zii (x0) (n1) (l22) (n27) (A.add n29 1)) := by kernel_rfl
theorem ZHQ (A : Ar) (x0 : List AV) (n1 : Int) (b4 : Bool) (n5 n6 n7 : Int) (l8 : List Int) (n9 n10 n11 n12 : Int) (l13 : List Int) (n14 n15 n16 n17 : Int) (l18 : List Int) (n19 n20 : Int) (b21 : Bool) (l22 : List Int) (n23 n24 n25 : Int) (l26 : List Int) (n27 n28 n29 n30 : Int) : Zac A tab BOp 67 [true, false, true] (Zdz x0 n1 b4 n5 n6 n7 l8 n9 n10 n11 n12 l13 n14 n15 n16 n17 l18 n19 n20 b21 l22 n23 n24 n25 l26 n27 n28 n29 n30) (ZcJ x0 n1 b4 n5 n6 n7 l8 n9 n10 n11 n12 l13 n14 n15 n16 n17 l18 n19 n20 b21 l22 n23 n24 n25 l26 n27 n28 n29 n30) =
  some (tr [3, 9, 0, 6, 6, 0, 6, 5, 4, 8, 1, 4, 6] [Zab (Zab (A.le 0 (A.add 3 (A.nth l22 (A.nat 2)))) true) (Zab (Zab (Nat.ble (A.nat (A.add 3 (A.nth l22 (A.nat 2)))) (A.len l22)) (Nat.ble (A.len l22) (A.len l22))) true), Zab (Nat.ble (A.lenA [AV.agg (Row.gen [.int .i64 (A.nth l22 (A.nat 0)), .int .i64 (A.nth l22 (A.nat 1)), .list (.ints .i64 (A.sub3 l22 (A.nat 3) (A.nat (A.add 3 (A.nth l22 (A.nat 2))) - A.nat 3)))])]) 4294967296) (Nat.blt 0 (A.lenA [AV.agg (Row.gen [.int .i64 (A.nth l22 (A.nat 0)), .int .i64 (A.nth l22 (A.nat 1)), .list (.ints .i64 (A.sub3 l22 (A.nat 3) (A.nat (A.add 3 (A.nth l22 (A.nat 2))) - A.nat 3)))])])), List.all [AV.agg (Row.gen [.int .i64 (A.nth l22 (A.nat 0)), .int .i64 (A.nth l22 (A.nat 1)), .list (.ints .i64 (A.sub3 l22 (A.nat 3) (A.nat (A.add 3 (A.nth l22 (A.nat 2))) - A.nat 3)))])] fun x => AV.bx x && Nat.beq (Zae A x) 3, A.not (A.eq (A.nth l22 (A.nat 0)) 255), decide (List.length (A.sub3 l22 (A.nat 3) (A.nat (A.add 3 (A.nth l22 (A.nat 2))) - A.nat 3)) ≤ 4294967296), Zab (Zab (A.le 0 3) (A.le 0 (A.add 3 (A.nth l22 (A.nat 2))))) (Zab (Zab (Nat.ble (A.nat 3) (A.nat (A.add 3 (A.nth l22 (A.nat 2))))) (Nat.ble (A.nat (A.add 3 (A.nth l22 (A.nat 2)))) (A.len l22))) true), Zab (Zab (A.le 0 1) (Nat.blt (A.nat 1) (A.len l22))) true, Zab (Zab (A.le 0 0) (Nat.blt (A.nat 0) (A.len l22))) true, !A.lt (A.int (A.len l22)) (A.add 3 (A.nth l22 (A.nat 2))), A.inR .i64 (A.add 3 (A.nth l22 (A.nat 2))), Zab (Zab (A.le 0 2) (Nat.blt (A.nat 2) (A.len l22))) true, A.le 3 (A.int (A.len l22))],
   Zb5 (x0) (n1) (A.sub3 l22 (A.nat (A.add 3 (A.nth l22 (A.nat 2)))) (A.len l22 - A.nat (A.add 3 (A.nth l22 (A.nat 2))))) ([AV.agg (Row.gen [.int .i64 (A.nth l22 (A.nat 0)), .int .i64 (A.nth l22 (A.nat 1)), .list (.ints .i64 (A.sub3 l22 (A.nat 3) (A.nat (A.add 3 (A.nth l22 (A.nat 2))) - A.nat 3)))])]) (n28) (n29) (b4) (n5) (n6) (n7) (l8) (n9) (n10) (n11) (n12) (l13) (n14) (n15) (n16) (n17) (l18) (n19) (n30) (n20) (b21) (n23) (n24) (n25) (l26) (n27)) := by kernel_rfl
theorem ZJD (A : Ar) (x0 : List AV) (n1 : Int) (b4 : Bool) (n5 n6 n7 : Int) (l8 : List Int) (n9 n10 n11 n12 : Int) (l13 : List Int) (n14 n15 n16 n17 : Int) (l18 : List Int) (n19 n20 : Int) (b21 : Bool) (l22 : List Int) (n23 n24 n25 : Int) (l26 : List Int) (n27 n28 n29 n30 : Int) : Zac A tab BOp 67 [true, false, false] (Zdz x0 n1 b4 n5 n6 n7 l8 n9 n10 n11 n12 l13 n14 n15 n16 n17 l18 n19 n20 b21 l22 n23 n24 n25 l26 n27 n28 n29 n30) (ZcJ x0 n1 b4 n5 n6 n7 l8 n9 n10 n11 n12 l13 n14 n15 n16 n17 l18 n19 n20 b21 l22 n23 n24 n25 l26 n27 n28 n29 n30) =
  some (tr [3, 6, 6, 0, 6, 5, 4, 8, 1, 4, 6] [Zab (Zab (A.le 0 (A.add 3 (A.nth l22 (A.nat 2)))) true) (Zab (Zab (Nat.ble (A.nat (A.add 3 (A.nth l22 (A.nat 2)))) (A.len l22)) (Nat.ble (A.len l22) (A.len l22))) true), !A.not (A.eq (A.nth l22 (A.nat 0)) 255), decide (List.length (A.sub3 l22 (A.nat 3) (A.nat (A.add 3 (A.nth l22 (A.nat 2))) - A.nat 3)) ≤ 4294967296), Zab (Zab (A.le 0 3) (A.le 0 (A.add 3 (A.nth l22 (A.nat 2))))) (Zab (Zab (Nat.ble (A.nat 3) (A.nat (A.add 3 (A.nth l22 (A.nat 2))))) (Nat.ble (A.nat (A.add 3 (A.nth l22 (A.nat 2)))) (A.len l22))) true), Zab (Zab (A.le 0 1) (Nat.blt (A.nat 1) (A.len l22))) true, Zab (Zab (A.le 0 0) (Nat.blt (A.nat 0) (A.len l22))) true, !A.lt (A.int (A.len l22)) (A.add 3 (A.nth l22 (A.nat 2))), A.inR .i64 (A.add 3 (A.nth l22 (A.nat 2))), Zab (Zab (A.le 0 2) (Nat.blt (A.nat 2) (A.len l22))) true, A.le 3 (A.int (A.len l22))],
   Zdq (x0) (n1) (b4) (n5) (n6) (n7) (l8) (n9) (n10) (n11) (n12) (l13) (n14) (n15) (n16) (n17) (l18) (n19) (n20) (b21) (A.sub3 l22 (A.nat (A.add 3 (A.nth l22 (A.nat 2)))) (A.len l22 - A.nat (A.add 3 (A.nth l22 (A.nat 2))))) (n23) (n24) (n25) (l26) (n27) (n28) (n29) (n30)) := by kernel_rfl
theorem ZCQ (A : Ar) (x0 : List AV) (n1 : Int) (b4 : Bool) (n5 n6 n7 : Int) (l8 : List Int) (n9 n10 n11 n12 : Int) (l13 : List Int) (n14 n15 n16 n17 : Int) (l18 : List Int) (n19 n20 : Int) (b21 : Bool) (l22 : List Int) (n23 n24 n25 : Int) (l26 : List Int) (n27 n28 n29 n30 : Int) : Zac A tab BOp 29 [false] (Zdz x0 n1 b4 n5 n6 n7 l8 n9 n10 n11 n12 l13 n14 n15 n16 n17 l18 n19 n20 b21 l22 n23 n24 n25 l26 n27 n28 n29 n30) (ZcJ x0 n1 b4 n5 n6 n7 l8 n9 n10 n11 n12 l13 n14 n15 n16 n17 l18 n19 n20 b21 l22 n23 n24 n25 l26 n27 n28 n29 n30) =
  some (tr [1, 4, 6] [A.inR .i64 (A.add n29 1), !A.le 3 (A.int (A.len l22))],
   Zii (x0) (n1) (l22) (n27) (A.add n29 1)) := by kernel_rfl
theorem ZJJ (A : Ar) (x0 : List AV) (n1 : Int) (l22 : List Int) (n27 n31 : Int) : Zac A tab BOp 92 [true, true, true, true, true, true] (Zbz x0 n1 l22 n27 n31) (Za9 x0 n1 l22 n27 n31) =
  some (tr [1, 4, 3, 27, 11, 8, 0, 1] [A.inR .i64 (A.add n31 1), A.eq ((A.nthA x0 (A.nat n31)).cellAt 2).toI 255, A.not false, A.not (A.eq ((A.nthA x0 (A.nat n31)).cellAt 4).toI (A.add n27 1)), A.inR .i64 (A.add n27 1), Zab (Zab (A.le 0 n31) (Nat.blt (A.nat n31) (A.lenA x0))) true, A.lt n31 n1],
   ZeK (x0) (n1) ((A.nthA x0 (A.nat n31)).cellAt 4).toI (A.add n31 1)) := by kernel_rfl
theorem ZF7 (A : Ar) (x0 : List AV) (n1 : Int) (l22 : List Int) (n27 n31 : Int) : Zac A tab BOp 96 [true, true, true, true, true, false] (Zbz x0 n1 l22 n27 n31) (Za9 x0 n1 l22 n27 n31) =
  some (tr [3, 0, 10, 4, 3, 27, 11, 8, 0, 1] [decide (0 < List.length (A.sub3 ((A.nthA x0 (A.nat n31)).cellAt 3).toIs (A.nat ((A.nthA x0 (A.nat n31)).cellAt 2).toI) (A.len ((A.nthA x0 (A.nat n31)).cellAt 3).toIs - A.nat ((A.nthA x0 (A.nat n31)).cellAt 2).toI)) ∧ List.length (A.sub3 ((A.nthA x0 (A.nat n31)).cellAt 3).toIs (A.nat ((A.nthA x0 (A.nat n31)).cellAt 2).toI) (A.len ((A.nthA x0 (A.nat n31)).cellAt 3).toIs - A.nat ((A.nthA x0 (A.nat n31)).cellAt 2).toI)) ≤ 1000000), List.all [AV.nils, AV.list (.ints .i64 (A.sub3 ((A.nthA x0 (A.nat n31)).cellAt 3).toIs (A.nat ((A.nthA x0 (A.nat n31)).cellAt 2).toI) (A.len ((A.nthA x0 (A.nat n31)).cellAt 3).toIs - A.nat ((A.nthA x0 (A.nat n31)).cellAt 2).toI)))] fun x => AV.bx x && Nat.beq (Zae A x) 1, Zab (Zab (A.le 0 ((A.nthA x0 (A.nat n31)).cellAt 2).toI) true) (Zab (Zab (Nat.ble (A.nat ((A.nthA x0 (A.nat n31)).cellAt 2).toI) (A.len ((A.nthA x0 (A.nat n31)).cellAt 3).toIs)) (Nat.ble (A.len ((A.nthA x0 (A.nat n31)).cellAt 3).toIs) (A.len ((A.nthA x0 (A.nat n31)).cellAt 3).toIs))) true), !A.eq ((A.nthA x0 (A.nat n31)).cellAt 2).toI 255, A.not false, A.not (A.eq ((A.nthA x0 (A.nat n31)).cellAt 4).toI (A.add n27 1)), A.inR .i64 (A.add n27 1), Zab (Zab (A.le 0 n31) (Nat.blt (A.nat n31) (A.lenA x0))) true, A.lt n31 n1],
   Zdq (x0) (n1) (A.lt n31 n1) ((A.nthA x0 (A.nat n31)).cellAt 0).toI ((A.nthA x0 (A.nat n31)).cellAt 1).toI ((A.nthA x0 (A.nat n31)).cellAt 2).toI ((A.nthA x0 (A.nat n31)).cellAt 3).toIs ((A.nthA x0 (A.nat n31)).cellAt 4).toI ((A.nthA x0 (A.nat n31)).cellAt 0).toI ((A.nthA x0 (A.nat n31)).cellAt 1).toI ((A.nthA x0 (A.nat n31)).cellAt 2).toI ((A.nthA x0 (A.nat n31)).cellAt 3).toIs ((A.nthA x0 (A.nat n31)).cellAt 4).toI ((A.nthA x0 (A.nat n31)).cellAt 0).toI ((A.nthA x0 (A.nat n31)).cellAt 1).toI ((A.nthA x0 (A.nat n31)).cellAt 2).toI ((A.nthA x0 (A.nat n31)).cellAt 3).toIs ((A.nthA x0 (A.nat n31)).cellAt 4).toI (A.add n27 1) (A.eq ((A.nthA x0 (A.nat n31)).cellAt 4).toI (A.add n27 1)) (A.sub3 ((A.nthA x0 (A.nat n31)).cellAt 3).toIs (A.nat ((A.nthA x0 (A.nat n31)).cellAt 2).toI) (A.len ((A.nthA x0 (A.nat n31)).cellAt 3).toIs - A.nat ((A.nthA x0 (A.nat n31)).cellAt 2).toI)) ((A.nthA x0 (A.nat n31)).cellAt 0).toI ((A.nthA x0 (A.nat n31)).cellAt 1).toI ((A.nthA x0 (A.nat n31)).cellAt 2).toI ((A.nthA x0 (A.nat n31)).cellAt 3).toIs ((A.nthA x0 (A.nat n31)).cellAt 4).toI (n27) (n31) (n27)) := by kernel_rfl
theorem ZDA (A : Ar) (x0 : List AV) (n1 : Int) (l22 : List Int) (n27 n31 : Int) : Zac A tab BOp 92 [true, true, false, true, true, true] (Zbz x0 n1 l22 n27 n31) (Za9 x0 n1 l22 n27 n31) =
  some (tr [1, 4, 3, 18, 3, 4, 11, 8, 0, 1] [A.inR .i64 (A.add n31 1), A.eq ((A.nthA x0 (A.nat n31)).cellAt 2).toI 255, A.not false, A.not (A.eq ((A.nthA x0 (A.nat n31)).cellAt 2).toI (Zec (↑(List.length ((A.nthA x0 (A.nat n31)).cellAt 3).toIs)) l22 ((A.nthA x0 (A.nat n31)).cellAt 3).toIs)), decide (Zh9 l22 ((A.nthA x0 (A.nat n31)).cellAt 3).toIs = true), !A.not (A.eq ((A.nthA x0 (A.nat n31)).cellAt 4).toI (A.add n27 1)), A.inR .i64 (A.add n27 1), Zab (Zab (A.le 0 n31) (Nat.blt (A.nat n31) (A.lenA x0))) true, A.lt n31 n1],
   ZeK (x0) (n1) ((A.nthA x0 (A.nat n31)).cellAt 4).toI (A.add n31 1)) := by kernel_rfl
theorem ZCw (A : Ar) (x0 : List AV) (n1 : Int) (l22 : List Int) (n27 n31 : Int) : Zac A tab BOp 96 [true, true, false, true, true, false] (Zbz x0 n1 l22 n27 n31) (Za9 x0 n1 l22 n27 n31) =
  some (tr [3, 0, 10, 4, 3, 18, 3, 4, 11, 8, 0, 1] [decide (0 < List.length (A.sub3 ((A.nthA x0 (A.nat n31)).cellAt 3).toIs (A.nat ((A.nthA x0 (A.nat n31)).cellAt 2).toI) (A.len ((A.nthA x0 (A.nat n31)).cellAt 3).toIs - A.nat ((A.nthA x0 (A.nat n31)).cellAt 2).toI)) ∧ List.length (A.sub3 ((A.nthA x0 (A.nat n31)).cellAt 3).toIs (A.nat ((A.nthA x0 (A.nat n31)).cellAt 2).toI) (A.len ((A.nthA x0 (A.nat n31)).cellAt 3).toIs - A.nat ((A.nthA x0 (A.nat n31)).cellAt 2).toI)) ≤ 1000000), List.all [AV.nils, AV.list (.ints .i64 (A.sub3 ((A.nthA x0 (A.nat n31)).cellAt 3).toIs (A.nat ((A.nthA x0 (A.nat n31)).cellAt 2).toI) (A.len ((A.nthA x0 (A.nat n31)).cellAt 3).toIs - A.nat ((A.nthA x0 (A.nat n31)).cellAt 2).toI)))] fun x => AV.bx x && Nat.beq (Zae A x) 1, Zab (Zab (A.le 0 ((A.nthA x0 (A.nat n31)).cellAt 2).toI) true) (Zab (Zab (Nat.ble (A.nat ((A.nthA x0 (A.nat n31)).cellAt 2).toI) (A.len ((A.nthA x0 (A.nat n31)).cellAt 3).toIs)) (Nat.ble (A.len ((A.nthA x0 (A.nat n31)).cellAt 3).toIs) (A.len ((A.nthA x0 (A.nat n31)).cellAt 3).toIs))) true), !A.eq ((A.nthA x0 (A.nat n31)).cellAt 2).toI 255, A.not false, A.not (A.eq ((A.nthA x0 (A.nat n31)).cellAt 2).toI (Zec (↑(List.length ((A.nthA x0 (A.nat n31)).cellAt 3).toIs)) l22 ((A.nthA x0 (A.nat n31)).cellAt 3).toIs)), decide (Zh9 l22 ((A.nthA x0 (A.nat n31)).cellAt 3).toIs = true), !A.not (A.eq ((A.nthA x0 (A.nat n31)).cellAt 4).toI (A.add n27 1)), A.inR .i64 (A.add n27 1), Zab (Zab (A.le 0 n31) (Nat.blt (A.nat n31) (A.lenA x0))) true, A.lt n31 n1],
   Zdq (x0) (n1) (A.lt n31 n1) ((A.nthA x0 (A.nat n31)).cellAt 0).toI ((A.nthA x0 (A.nat n31)).cellAt 1).toI ((A.nthA x0 (A.nat n31)).cellAt 2).toI ((A.nthA x0 (A.nat n31)).cellAt 3).toIs ((A.nthA x0 (A.nat n31)).cellAt 4).toI ((A.nthA x0 (A.nat n31)).cellAt 0).toI ((A.nthA x0 (A.nat n31)).cellAt 1).toI ((A.nthA x0 (A.nat n31)).cellAt 2).toI ((A.nthA x0 (A.nat n31)).cellAt 3).toIs ((A.nthA x0 (A.nat n31)).cellAt 4).toI ((A.nthA x0 (A.nat n31)).cellAt 0).toI ((A.nthA x0 (A.nat n31)).cellAt 1).toI ((A.nthA x0 (A.nat n31)).cellAt 2).toI ((A.nthA x0 (A.nat n31)).cellAt 3).toIs ((A.nthA x0 (A.nat n31)).cellAt 4).toI (A.add n27 1) (A.eq ((A.nthA x0 (A.nat n31)).cellAt 4).toI (A.add n27 1)) (A.sub3 ((A.nthA x0 (A.nat n31)).cellAt 3).toIs (A.nat ((A.nthA x0 (A.nat n31)).cellAt 2).toI) (A.len ((A.nthA x0 (A.nat n31)).cellAt 3).toIs - A.nat ((A.nthA x0 (A.nat n31)).cellAt 2).toI)) ((A.nthA x0 (A.nat n31)).cellAt 0).toI ((A.nthA x0 (A.nat n31)).cellAt 1).toI ((A.nthA x0 (A.nat n31)).cellAt 2).toI ((A.nthA x0 (A.nat n31)).cellAt 3).toIs ((A.nthA x0 (A.nat n31)).cellAt 4).toI (n27) (n31) (n27)) := by kernel_rfl
theorem ZFk (A : Ar) (x0 : List AV) (n1 : Int) (l22 : List Int) (n27 n31 : Int) : Zac A tab BOp 72 [true, true, false, false, false] (Zbz x0 n1 l22 n27 n31) (Za9 x0 n1 l22 n27 n31) =
  some (tr [3, 0, 6, 8, 3, 4, 11, 8, 0, 1] [decide (0 < List.length l22 + List.length ((A.nthA x0 (A.nat n31)).cellAt 3).toIs ∧ List.length l22 + List.length ((A.nthA x0 (A.nat n31)).cellAt 3).toIs ≤ 1000000), List.all [AV.list (.ints .i64 l22), AV.list (.ints .i64 ((A.nthA x0 (A.nat n31)).cellAt 3).toIs)] fun x => AV.bx x && Nat.beq (Zae A x) 1, !A.not true, !A.not (A.eq ((A.nthA x0 (A.nat n31)).cellAt 2).toI (Zec (↑(List.length ((A.nthA x0 (A.nat n31)).cellAt 3).toIs)) l22 ((A.nthA x0 (A.nat n31)).cellAt 3).toIs)), decide (Zh9 l22 ((A.nthA x0 (A.nat n31)).cellAt 3).toIs = true), !A.not (A.eq ((A.nthA x0 (A.nat n31)).cellAt 4).toI (A.add n27 1)), A.inR .i64 (A.add n27 1), Zab (Zab (A.le 0 n31) (Nat.blt (A.nat n31) (A.lenA x0))) true, A.lt n31 n1],
   Zdq (x0) (n1) (A.lt n31 n1) ((A.nthA x0 (A.nat n31)).cellAt 0).toI ((A.nthA x0 (A.nat n31)).cellAt 1).toI ((A.nthA x0 (A.nat n31)).cellAt 2).toI ((A.nthA x0 (A.nat n31)).cellAt 3).toIs ((A.nthA x0 (A.nat n31)).cellAt 4).toI ((A.nthA x0 (A.nat n31)).cellAt 0).toI ((A.nthA x0 (A.nat n31)).cellAt 1).toI ((A.nthA x0 (A.nat n31)).cellAt 2).toI ((A.nthA x0 (A.nat n31)).cellAt 3).toIs ((A.nthA x0 (A.nat n31)).cellAt 4).toI ((A.nthA x0 (A.nat n31)).cellAt 0).toI ((A.nthA x0 (A.nat n31)).cellAt 1).toI ((A.nthA x0 (A.nat n31)).cellAt 2).toI ((A.nthA x0 (A.nat n31)).cellAt 3).toIs ((A.nthA x0 (A.nat n31)).cellAt 4).toI (A.add n27 1) (A.eq ((A.nthA x0 (A.nat n31)).cellAt 4).toI (A.add n27 1)) (List.append l22 ((A.nthA x0 (A.nat n31)).cellAt 3).toIs) ((A.nthA x0 (A.nat n31)).cellAt 0).toI ((A.nthA x0 (A.nat n31)).cellAt 1).toI ((A.nthA x0 (A.nat n31)).cellAt 2).toI ((A.nthA x0 (A.nat n31)).cellAt 3).toIs ((A.nthA x0 (A.nat n31)).cellAt 4).toI (n27) (n31) (n27)) := by kernel_rfl
theorem ZF6 (A : Ar) (x0 : List AV) (n1 : Int) (l22 : List Int) (n27 n31 : Int) : ZaD A tab BOp 16 [false] 16 (Zbz x0 n1 l22 n27 n31) (Za9 x0 n1 l22 n27 n31) =
  some (tr [5, 1] [!A.lt n31 n1],
   AV.tup [AV.nils, AV.int .i64 0], none) := by kernel_rfl
theorem ZBv (A : Ar) (x0 : List AV) (n1 : Int) (l32 : List Int) (x33 : List AV) (n34 n35 : Int) (b36 : Bool) (n37 n38 n39 : Int) (l40 : List Int) (n41 n42 n43 n44 : Int) (l45 : List Int) (n46 n47 n48 n49 : Int) (l50 : List Int) (n51 n52 n53 : Int) (b54 : Bool) (n55 n56 n57 : Int) (l58 : List Int) (n59 : Int) : Zac A tab BOp 55 [true, true] (ZdA x0 n1 l32 x33 n34 n35 b36 n37 n38 n39 l40 n41 n42 n43 n44 l45 n46 n47 n48 n49 l50 n51 n52 n53 b54 n55 n56 n57 l58 n59) (ZcB x0 n1 l32 x33 n34 n35 b36 n37 n38 n39 l40 n41 n42 n43 n44 l45 n46 n47 n48 n49 l50 n51 n52 n53 b54 n55 n56 n57 l58 n59) =
  some (tr [1, 4, 8, 1, 4, 6] [A.inR .i64 (A.add n35 1), A.lt (A.int (A.len l32)) (A.add 3 (A.nth l32 (A.nat 2))), A.inR .i64 (A.add 3 (A.nth l32 (A.nat 2))), Zab (Zab (A.le 0 2) (Nat.blt (A.nat 2) (A.len l32))) true, A.le 3 (A.int (A.len l32))],
   ZiL (x0) (n1) (l32) (x33) (n59) (A.add n35 1)) := by kernel_rfl
theorem ZCz (A : Ar) (x0 : List AV) (n1 : Int) (l32 : List Int) (x33 : List AV) (n34 n35 : Int) (b36 : Bool) (n37 n38 n39 : Int) (l40 : List Int) (n41 n42 n43 n44 : Int) (l45 : List Int) (n46 n47 n48 n49 : Int) (l50 : List Int) (n51 n52 n53 : Int) (b54 : Bool) (n55 n56 n57 : Int) (l58 : List Int) (n59 : Int) : Zac A tab BOp 67 [true, false, true] (ZdA x0 n1 l32 x33 n34 n35 b36 n37 n38 n39 l40 n41 n42 n43 n44 l45 n46 n47 n48 n49 l50 n51 n52 n53 b54 n55 n56 n57 l58 n59) (ZcB x0 n1 l32 x33 n34 n35 b36 n37 n38 n39 l40 n41 n42 n43 n44 l45 n46 n47 n48 n49 l50 n51 n52 n53 b54 n55 n56 n57 l58 n59) =
  some (tr [3, 9, 0, 6, 6, 0, 6, 5, 4, 8, 1, 4, 6] [Zab (Zab (A.le 0 (A.add 3 (A.nth l32 (A.nat 2)))) true) (Zab (Zab (Nat.ble (A.nat (A.add 3 (A.nth l32 (A.nat 2)))) (A.len l32)) (Nat.ble (A.len l32) (A.len l32))) true), Nat.ble (A.lenA x33 + A.lenA [AV.agg (Row.gen [.int .i64 (A.nth l32 (A.nat 0)), .int .i64 (A.nth l32 (A.nat 1)), .list (.ints .i64 (A.sub3 l32 (A.nat 3) (A.nat (A.add 3 (A.nth l32 (A.nat 2))) - A.nat 3)))])]) 4294967296, List.all [AV.agg (Row.gen [.int .i64 (A.nth l32 (A.nat 0)), .int .i64 (A.nth l32 (A.nat 1)), .list (.ints .i64 (A.sub3 l32 (A.nat 3) (A.nat (A.add 3 (A.nth l32 (A.nat 2))) - A.nat 3)))])] fun x => AV.bx x && Nat.beq (Zae A x) 3, A.not (A.eq (A.nth l32 (A.nat 0)) 255), decide (List.length (A.sub3 l32 (A.nat 3) (A.nat (A.add 3 (A.nth l32 (A.nat 2))) - A.nat 3)) ≤ 4294967296), Zab (Zab (A.le 0 3) (A.le 0 (A.add 3 (A.nth l32 (A.nat 2))))) (Zab (Zab (Nat.ble (A.nat 3) (A.nat (A.add 3 (A.nth l32 (A.nat 2))))) (Nat.ble (A.nat (A.add 3 (A.nth l32 (A.nat 2)))) (A.len l32))) true), Zab (Zab (A.le 0 1) (Nat.blt (A.nat 1) (A.len l32))) true, Zab (Zab (A.le 0 0) (Nat.blt (A.nat 0) (A.len l32))) true, !A.lt (A.int (A.len l32)) (A.add 3 (A.nth l32 (A.nat 2))), A.inR .i64 (A.add 3 (A.nth l32 (A.nat 2))), Zab (Zab (A.le 0 2) (Nat.blt (A.nat 2) (A.len l32))) true, A.le 3 (A.int (A.len l32))],
   Zb5 (x0) (n1) (A.sub3 l32 (A.nat (A.add 3 (A.nth l32 (A.nat 2)))) (A.len l32 - A.nat (A.add 3 (A.nth l32 (A.nat 2))))) (A.appA x33 [AV.agg (Row.gen [.int .i64 (A.nth l32 (A.nat 0)), .int .i64 (A.nth l32 (A.nat 1)), .list (.ints .i64 (A.sub3 l32 (A.nat 3) (A.nat (A.add 3 (A.nth l32 (A.nat 2))) - A.nat 3)))])]) (n34) (n35) (b36) (n37) (n38) (n39) (l40) (n41) (n42) (n43) (n44) (l45) (n46) (n47) (n48) (n49) (l50) (n51) (n52) (n53) (b54) (n55) (n56) (n57) (l58) (n59)) := by kernel_rfl
theorem ZzC (A : Ar) (x0 : List AV) (n1 : Int) (l32 : List Int) (x33 : List AV) (n34 n35 : Int) (b36 : Bool) (n37 n38 n39 : Int) (l40 : List Int) (n41 n42 n43 n44 : Int) (l45 : List Int) (n46 n47 n48 n49 : Int) (l50 : List Int) (n51 n52 n53 : Int) (b54 : Bool) (n55 n56 n57 : Int) (l58 : List Int) (n59 : Int) : Zac A tab BOp 67 [true, false, false] (ZdA x0 n1 l32 x33 n34 n35 b36 n37 n38 n39 l40 n41 n42 n43 n44 l45 n46 n47 n48 n49 l50 n51 n52 n53 b54 n55 n56 n57 l58 n59) (ZcB x0 n1 l32 x33 n34 n35 b36 n37 n38 n39 l40 n41 n42 n43 n44 l45 n46 n47 n48 n49 l50 n51 n52 n53 b54 n55 n56 n57 l58 n59) =
  some (tr [3, 6, 6, 0, 6, 5, 4, 8, 1, 4, 6] [Zab (Zab (A.le 0 (A.add 3 (A.nth l32 (A.nat 2)))) true) (Zab (Zab (Nat.ble (A.nat (A.add 3 (A.nth l32 (A.nat 2)))) (A.len l32)) (Nat.ble (A.len l32) (A.len l32))) true), !A.not (A.eq (A.nth l32 (A.nat 0)) 255), decide (List.length (A.sub3 l32 (A.nat 3) (A.nat (A.add 3 (A.nth l32 (A.nat 2))) - A.nat 3)) ≤ 4294967296), Zab (Zab (A.le 0 3) (A.le 0 (A.add 3 (A.nth l32 (A.nat 2))))) (Zab (Zab (Nat.ble (A.nat 3) (A.nat (A.add 3 (A.nth l32 (A.nat 2))))) (Nat.ble (A.nat (A.add 3 (A.nth l32 (A.nat 2)))) (A.len l32))) true), Zab (Zab (A.le 0 1) (Nat.blt (A.nat 1) (A.len l32))) true, Zab (Zab (A.le 0 0) (Nat.blt (A.nat 0) (A.len l32))) true, !A.lt (A.int (A.len l32)) (A.add 3 (A.nth l32 (A.nat 2))), A.inR .i64 (A.add 3 (A.nth l32 (A.nat 2))), Zab (Zab (A.le 0 2) (Nat.blt (A.nat 2) (A.len l32))) true, A.le 3 (A.int (A.len l32))],
   Zb5 (x0) (n1) (A.sub3 l32 (A.nat (A.add 3 (A.nth l32 (A.nat 2)))) (A.len l32 - A.nat (A.add 3 (A.nth l32 (A.nat 2))))) (x33) (n34) (n35) (b36) (n37) (n38) (n39) (l40) (n41) (n42) (n43) (n44) (l45) (n46) (n47) (n48) (n49) (l50) (n51) (n52) (n53) (b54) (n55) (n56) (n57) (l58) (n59)) := by kernel_rfl
theorem Zs9 (A : Ar) (x0 : List AV) (n1 : Int) (l32 : List Int) (x33 : List AV) (n34 n35 : Int) (b36 : Bool) (n37 n38 n39 : Int) (l40 : List Int) (n41 n42 n43 n44 : Int) (l45 : List Int) (n46 n47 n48 n49 : Int) (l50 : List Int) (n51 n52 n53 : Int) (b54 : Bool) (n55 n56 n57 : Int) (l58 : List Int) (n59 : Int) : Zac A tab BOp 29 [false] (ZdA x0 n1 l32 x33 n34 n35 b36 n37 n38 n39 l40 n41 n42 n43 n44 l45 n46 n47 n48 n49 l50 n51 n52 n53 b54 n55 n56 n57 l58 n59) (ZcB x0 n1 l32 x33 n34 n35 b36 n37 n38 n39 l40 n41 n42 n43 n44 l45 n46 n47 n48 n49 l50 n51 n52 n53 b54 n55 n56 n57 l58 n59) =
  some (tr [1, 4, 6] [A.inR .i64 (A.add n35 1), !A.le 3 (A.int (A.len l32))],
   ZiL (x0) (n1) (l32) (x33) (n59) (A.add n35 1)) := by kernel_rfl
theorem ZAf (A : Ar) (x0 : List AV) (n1 : Int) (l32 : List Int) (x33 : List AV) (n59 n60 : Int) : Zac A tab BOp 92 [true, true, true, true, true, true] (ZbA x0 n1 l32 x33 n59 n60) (Za7 x0 n1 l32 x33 n59 n60) =
  some (tr [1, 4, 3, 27, 11, 8, 0, 1] [A.inR .i64 (A.add n60 1), A.eq ((A.nthA x0 (A.nat n60)).cellAt 2).toI 255, A.not false, A.not (A.eq ((A.nthA x0 (A.nat n60)).cellAt 4).toI (A.add n59 1)), A.inR .i64 (A.add n59 1), Zab (Zab (A.le 0 n60) (Nat.blt (A.nat n60) (A.lenA x0))) true, A.lt n60 n1],
   Zgl (x0) (n1) (x33) ((A.nthA x0 (A.nat n60)).cellAt 4).toI (A.add n60 1)) := by kernel_rfl
theorem ZCK (A : Ar) (x0 : List AV) (n1 : Int) (l32 : List Int) (x33 : List AV) (n59 n60 : Int) : Zac A tab BOp 96 [true, true, true, true, true, false] (ZbA x0 n1 l32 x33 n59 n60) (Za7 x0 n1 l32 x33 n59 n60) =
  some (tr [3, 0, 10, 4, 3, 27, 11, 8, 0, 1] [decide (0 < List.length (A.sub3 ((A.nthA x0 (A.nat n60)).cellAt 3).toIs (A.nat ((A.nthA x0 (A.nat n60)).cellAt 2).toI) (A.len ((A.nthA x0 (A.nat n60)).cellAt 3).toIs - A.nat ((A.nthA x0 (A.nat n60)).cellAt 2).toI)) ∧ List.length (A.sub3 ((A.nthA x0 (A.nat n60)).cellAt 3).toIs (A.nat ((A.nthA x0 (A.nat n60)).cellAt 2).toI) (A.len ((A.nthA x0 (A.nat n60)).cellAt 3).toIs - A.nat ((A.nthA x0 (A.nat n60)).cellAt 2).toI)) ≤ 1000000), List.all [AV.nils, AV.list (.ints .i64 (A.sub3 ((A.nthA x0 (A.nat n60)).cellAt 3).toIs (A.nat ((A.nthA x0 (A.nat n60)).cellAt 2).toI) (A.len ((A.nthA x0 (A.nat n60)).cellAt 3).toIs - A.nat ((A.nthA x0 (A.nat n60)).cellAt 2).toI)))] fun x => AV.bx x && Nat.beq (Zae A x) 1, Zab (Zab (A.le 0 ((A.nthA x0 (A.nat n60)).cellAt 2).toI) true) (Zab (Zab (Nat.ble (A.nat ((A.nthA x0 (A.nat n60)).cellAt 2).toI) (A.len ((A.nthA x0 (A.nat n60)).cellAt 3).toIs)) (Nat.ble (A.len ((A.nthA x0 (A.nat n60)).cellAt 3).toIs) (A.len ((A.nthA x0 (A.nat n60)).cellAt 3).toIs))) true), !A.eq ((A.nthA x0 (A.nat n60)).cellAt 2).toI 255, A.not false, A.not (A.eq ((A.nthA x0 (A.nat n60)).cellAt 4).toI (A.add n59 1)), A.inR .i64 (A.add n59 1), Zab (Zab (A.le 0 n60) (Nat.blt (A.nat n60) (A.lenA x0))) true, A.lt n60 n1],
   Zb5 (x0) (n1) (A.sub3 ((A.nthA x0 (A.nat n60)).cellAt 3).toIs (A.nat ((A.nthA x0 (A.nat n60)).cellAt 2).toI) (A.len ((A.nthA x0 (A.nat n60)).cellAt 3).toIs - A.nat ((A.nthA x0 (A.nat n60)).cellAt 2).toI)) (x33) (n59) (n60) (A.lt n60 n1) ((A.nthA x0 (A.nat n60)).cellAt 0).toI ((A.nthA x0 (A.nat n60)).cellAt 1).toI ((A.nthA x0 (A.nat n60)).cellAt 2).toI ((A.nthA x0 (A.nat n60)).cellAt 3).toIs ((A.nthA x0 (A.nat n60)).cellAt 4).toI ((A.nthA x0 (A.nat n60)).cellAt 0).toI ((A.nthA x0 (A.nat n60)).cellAt 1).toI ((A.nthA x0 (A.nat n60)).cellAt 2).toI ((A.nthA x0 (A.nat n60)).cellAt 3).toIs ((A.nthA x0 (A.nat n60)).cellAt 4).toI ((A.nthA x0 (A.nat n60)).cellAt 0).toI ((A.nthA x0 (A.nat n60)).cellAt 1).toI ((A.nthA x0 (A.nat n60)).cellAt 2).toI ((A.nthA x0 (A.nat n60)).cellAt 3).toIs ((A.nthA x0 (A.nat n60)).cellAt 4).toI (n59) (A.add n59 1) (A.eq ((A.nthA x0 (A.nat n60)).cellAt 4).toI (A.add n59 1)) ((A.nthA x0 (A.nat n60)).cellAt 0).toI ((A.nthA x0 (A.nat n60)).cellAt 1).toI ((A.nthA x0 (A.nat n60)).cellAt 2).toI ((A.nthA x0 (A.nat n60)).cellAt 3).toIs ((A.nthA x0 (A.nat n60)).cellAt 4).toI) := by kernel_rfl
theorem ZEF (A : Ar) (x0 : List AV) (n1 : Int) (l32 : List Int) (x33 : List AV) (n59 n60 : Int) : Zac A tab BOp 92 [true, true, false, true, true, true] (ZbA x0 n1 l32 x33 n59 n60) (Za7 x0 n1 l32 x33 n59 n60) =
  some (tr [1, 4, 3, 18, 3, 4, 11, 8, 0, 1] [A.inR .i64 (A.add n60 1), A.eq ((A.nthA x0 (A.nat n60)).cellAt 2).toI 255, A.not false, A.not (A.eq ((A.nthA x0 (A.nat n60)).cellAt 2).toI (Zec (↑(List.length ((A.nthA x0 (A.nat n60)).cellAt 3).toIs)) l32 ((A.nthA x0 (A.nat n60)).cellAt 3).toIs)), decide (Zh9 l32 ((A.nthA x0 (A.nat n60)).cellAt 3).toIs = true), !A.not (A.eq ((A.nthA x0 (A.nat n60)).cellAt 4).toI (A.add n59 1)), A.inR .i64 (A.add n59 1), Zab (Zab (A.le 0 n60) (Nat.blt (A.nat n60) (A.lenA x0))) true, A.lt n60 n1],
   Zgl (x0) (n1) (x33) ((A.nthA x0 (A.nat n60)).cellAt 4).toI (A.add n60 1)) := by kernel_rfl
theorem ZBI (A : Ar) (x0 : List AV) (n1 : Int) (l32 : List Int) (x33 : List AV) (n59 n60 : Int) : Zac A tab BOp 96 [true, true, false, true, true, false] (ZbA x0 n1 l32 x33 n59 n60) (Za7 x0 n1 l32 x33 n59 n60) =
  some (tr [3, 0, 10, 4, 3, 18, 3, 4, 11, 8, 0, 1] [decide (0 < List.length (A.sub3 ((A.nthA x0 (A.nat n60)).cellAt 3).toIs (A.nat ((A.nthA x0 (A.nat n60)).cellAt 2).toI) (A.len ((A.nthA x0 (A.nat n60)).cellAt 3).toIs - A.nat ((A.nthA x0 (A.nat n60)).cellAt 2).toI)) ∧ List.length (A.sub3 ((A.nthA x0 (A.nat n60)).cellAt 3).toIs (A.nat ((A.nthA x0 (A.nat n60)).cellAt 2).toI) (A.len ((A.nthA x0 (A.nat n60)).cellAt 3).toIs - A.nat ((A.nthA x0 (A.nat n60)).cellAt 2).toI)) ≤ 1000000), List.all [AV.nils, AV.list (.ints .i64 (A.sub3 ((A.nthA x0 (A.nat n60)).cellAt 3).toIs (A.nat ((A.nthA x0 (A.nat n60)).cellAt 2).toI) (A.len ((A.nthA x0 (A.nat n60)).cellAt 3).toIs - A.nat ((A.nthA x0 (A.nat n60)).cellAt 2).toI)))] fun x => AV.bx x && Nat.beq (Zae A x) 1, Zab (Zab (A.le 0 ((A.nthA x0 (A.nat n60)).cellAt 2).toI) true) (Zab (Zab (Nat.ble (A.nat ((A.nthA x0 (A.nat n60)).cellAt 2).toI) (A.len ((A.nthA x0 (A.nat n60)).cellAt 3).toIs)) (Nat.ble (A.len ((A.nthA x0 (A.nat n60)).cellAt 3).toIs) (A.len ((A.nthA x0 (A.nat n60)).cellAt 3).toIs))) true), !A.eq ((A.nthA x0 (A.nat n60)).cellAt 2).toI 255, A.not false, A.not (A.eq ((A.nthA x0 (A.nat n60)).cellAt 2).toI (Zec (↑(List.length ((A.nthA x0 (A.nat n60)).cellAt 3).toIs)) l32 ((A.nthA x0 (A.nat n60)).cellAt 3).toIs)), decide (Zh9 l32 ((A.nthA x0 (A.nat n60)).cellAt 3).toIs = true), !A.not (A.eq ((A.nthA x0 (A.nat n60)).cellAt 4).toI (A.add n59 1)), A.inR .i64 (A.add n59 1), Zab (Zab (A.le 0 n60) (Nat.blt (A.nat n60) (A.lenA x0))) true, A.lt n60 n1],
   Zb5 (x0) (n1) (A.sub3 ((A.nthA x0 (A.nat n60)).cellAt 3).toIs (A.nat ((A.nthA x0 (A.nat n60)).cellAt 2).toI) (A.len ((A.nthA x0 (A.nat n60)).cellAt 3).toIs - A.nat ((A.nthA x0 (A.nat n60)).cellAt 2).toI)) (x33) (n59) (n60) (A.lt n60 n1) ((A.nthA x0 (A.nat n60)).cellAt 0).toI ((A.nthA x0 (A.nat n60)).cellAt 1).toI ((A.nthA x0 (A.nat n60)).cellAt 2).toI ((A.nthA x0 (A.nat n60)).cellAt 3).toIs ((A.nthA x0 (A.nat n60)).cellAt 4).toI ((A.nthA x0 (A.nat n60)).cellAt 0).toI ((A.nthA x0 (A.nat n60)).cellAt 1).toI ((A.nthA x0 (A.nat n60)).cellAt 2).toI ((A.nthA x0 (A.nat n60)).cellAt 3).toIs ((A.nthA x0 (A.nat n60)).cellAt 4).toI ((A.nthA x0 (A.nat n60)).cellAt 0).toI ((A.nthA x0 (A.nat n60)).cellAt 1).toI ((A.nthA x0 (A.nat n60)).cellAt 2).toI ((A.nthA x0 (A.nat n60)).cellAt 3).toIs ((A.nthA x0 (A.nat n60)).cellAt 4).toI (n59) (A.add n59 1) (A.eq ((A.nthA x0 (A.nat n60)).cellAt 4).toI (A.add n59 1)) ((A.nthA x0 (A.nat n60)).cellAt 0).toI ((A.nthA x0 (A.nat n60)).cellAt 1).toI ((A.nthA x0 (A.nat n60)).cellAt 2).toI ((A.nthA x0 (A.nat n60)).cellAt 3).toIs ((A.nthA x0 (A.nat n60)).cellAt 4).toI) := by kernel_rfl
theorem ZAW (A : Ar) (x0 : List AV) (n1 : Int) (l32 : List Int) (x33 : List AV) (n59 n60 : Int) : Zac A tab BOp 72 [true, true, false, false, false] (ZbA x0 n1 l32 x33 n59 n60) (Za7 x0 n1 l32 x33 n59 n60) =
  some (tr [3, 0, 6, 8, 3, 4, 11, 8, 0, 1] [decide (0 < List.length l32 + List.length ((A.nthA x0 (A.nat n60)).cellAt 3).toIs ∧ List.length l32 + List.length ((A.nthA x0 (A.nat n60)).cellAt 3).toIs ≤ 1000000), List.all [AV.list (.ints .i64 l32), AV.list (.ints .i64 ((A.nthA x0 (A.nat n60)).cellAt 3).toIs)] fun x => AV.bx x && Nat.beq (Zae A x) 1, !A.not true, !A.not (A.eq ((A.nthA x0 (A.nat n60)).cellAt 2).toI (Zec (↑(List.length ((A.nthA x0 (A.nat n60)).cellAt 3).toIs)) l32 ((A.nthA x0 (A.nat n60)).cellAt 3).toIs)), decide (Zh9 l32 ((A.nthA x0 (A.nat n60)).cellAt 3).toIs = true), !A.not (A.eq ((A.nthA x0 (A.nat n60)).cellAt 4).toI (A.add n59 1)), A.inR .i64 (A.add n59 1), Zab (Zab (A.le 0 n60) (Nat.blt (A.nat n60) (A.lenA x0))) true, A.lt n60 n1],
   Zb5 (x0) (n1) (List.append l32 ((A.nthA x0 (A.nat n60)).cellAt 3).toIs) (x33) (n59) (n60) (A.lt n60 n1) ((A.nthA x0 (A.nat n60)).cellAt 0).toI ((A.nthA x0 (A.nat n60)).cellAt 1).toI ((A.nthA x0 (A.nat n60)).cellAt 2).toI ((A.nthA x0 (A.nat n60)).cellAt 3).toIs ((A.nthA x0 (A.nat n60)).cellAt 4).toI ((A.nthA x0 (A.nat n60)).cellAt 0).toI ((A.nthA x0 (A.nat n60)).cellAt 1).toI ((A.nthA x0 (A.nat n60)).cellAt 2).toI ((A.nthA x0 (A.nat n60)).cellAt 3).toIs ((A.nthA x0 (A.nat n60)).cellAt 4).toI ((A.nthA x0 (A.nat n60)).cellAt 0).toI ((A.nthA x0 (A.nat n60)).cellAt 1).toI ((A.nthA x0 (A.nat n60)).cellAt 2).toI ((A.nthA x0 (A.nat n60)).cellAt 3).toIs ((A.nthA x0 (A.nat n60)).cellAt 4).toI (n59) (A.add n59 1) (A.eq ((A.nthA x0 (A.nat n60)).cellAt 4).toI (A.add n59 1)) ((A.nthA x0 (A.nat n60)).cellAt 0).toI ((A.nthA x0 (A.nat n60)).cellAt 1).toI ((A.nthA x0 (A.nat n60)).cellAt 2).toI ((A.nthA x0 (A.nat n60)).cellAt 3).toIs ((A.nthA x0 (A.nat n60)).cellAt 4).toI) := by kernel_rfl
theorem ZFH (A : Ar) (x0 : List AV) (n1 : Int) (l32 : List Int) (x33 : List AV) (n59 n60 : Int) : ZaD A tab BOp 16 [false] 16 (ZbA x0 n1 l32 x33 n59 n60) (Za7 x0 n1 l32 x33 n59 n60) =
  some (tr [5, 1] [!A.lt n60 n1],
   AV.tup [AV.row 0 0, AV.int .i64 0], some { e := 57, sz := 3, r := Row.big (.agg [.int .i64, .int .i64, .ints .i64]) x33 }) := by kernel_rfl
theorem ZzH (A : Ar) (x0 : List AV) (n1 : Int) (x33 : List AV) (n61 n62 : Int) : Zac A tab BOp 77 [true, false, false, true, true] (Zdp x0 n1 x33 n61 n62) (ZcO x0 n1 x33 n61 n62) =
  some (tr [1, 4, 3, 28, 8, 0, 1] [A.inR .i64 (A.add n62 1), A.eq ((A.nthA x0 (A.nat n62)).cellAt 2).toI 255, A.not false, A.inR .i64 (A.add n61 1), Zab (Zab (A.le 0 n62) (Nat.blt (A.nat n62) (A.lenA x0))) true, A.lt n62 n1],
   Zgl (x0) (n1) (x33) ((A.nthA x0 (A.nat n62)).cellAt 4).toI (A.add n62 1)) := by kernel_rfl
theorem ZBw (A : Ar) (x0 : List AV) (n1 : Int) (x33 : List AV) (n61 n62 : Int) : Zac A tab BOp 81 [true, false, false, true, false] (Zdp x0 n1 x33 n61 n62) (ZcO x0 n1 x33 n61 n62) =
  some (tr [3, 0, 10, 4, 3, 28, 8, 0, 1] [decide (0 < List.length (A.sub3 ((A.nthA x0 (A.nat n62)).cellAt 3).toIs (A.nat ((A.nthA x0 (A.nat n62)).cellAt 2).toI) (A.len ((A.nthA x0 (A.nat n62)).cellAt 3).toIs - A.nat ((A.nthA x0 (A.nat n62)).cellAt 2).toI)) ∧ List.length (A.sub3 ((A.nthA x0 (A.nat n62)).cellAt 3).toIs (A.nat ((A.nthA x0 (A.nat n62)).cellAt 2).toI) (A.len ((A.nthA x0 (A.nat n62)).cellAt 3).toIs - A.nat ((A.nthA x0 (A.nat n62)).cellAt 2).toI)) ≤ 1000000), List.all [AV.nils, AV.list (.ints .i64 (A.sub3 ((A.nthA x0 (A.nat n62)).cellAt 3).toIs (A.nat ((A.nthA x0 (A.nat n62)).cellAt 2).toI) (A.len ((A.nthA x0 (A.nat n62)).cellAt 3).toIs - A.nat ((A.nthA x0 (A.nat n62)).cellAt 2).toI)))] fun x => AV.bx x && Nat.beq (Zae A x) 1, Zab (Zab (A.le 0 ((A.nthA x0 (A.nat n62)).cellAt 2).toI) true) (Zab (Zab (Nat.ble (A.nat ((A.nthA x0 (A.nat n62)).cellAt 2).toI) (A.len ((A.nthA x0 (A.nat n62)).cellAt 3).toIs)) (Nat.ble (A.len ((A.nthA x0 (A.nat n62)).cellAt 3).toIs) (A.len ((A.nthA x0 (A.nat n62)).cellAt 3).toIs))) true), !A.eq ((A.nthA x0 (A.nat n62)).cellAt 2).toI 255, A.not false, A.inR .i64 (A.add n61 1), Zab (Zab (A.le 0 n62) (Nat.blt (A.nat n62) (A.lenA x0))) true, A.lt n62 n1],
   Zb5 (x0) (n1) (A.sub3 ((A.nthA x0 (A.nat n62)).cellAt 3).toIs (A.nat ((A.nthA x0 (A.nat n62)).cellAt 2).toI) (A.len ((A.nthA x0 (A.nat n62)).cellAt 3).toIs - A.nat ((A.nthA x0 (A.nat n62)).cellAt 2).toI)) (x33) (n61) (n62) (A.lt n62 n1) ((A.nthA x0 (A.nat n62)).cellAt 0).toI ((A.nthA x0 (A.nat n62)).cellAt 1).toI ((A.nthA x0 (A.nat n62)).cellAt 2).toI ((A.nthA x0 (A.nat n62)).cellAt 3).toIs ((A.nthA x0 (A.nat n62)).cellAt 4).toI ((A.nthA x0 (A.nat n62)).cellAt 0).toI ((A.nthA x0 (A.nat n62)).cellAt 1).toI ((A.nthA x0 (A.nat n62)).cellAt 2).toI ((A.nthA x0 (A.nat n62)).cellAt 3).toIs ((A.nthA x0 (A.nat n62)).cellAt 4).toI ((A.nthA x0 (A.nat n62)).cellAt 0).toI ((A.nthA x0 (A.nat n62)).cellAt 1).toI ((A.nthA x0 (A.nat n62)).cellAt 2).toI ((A.nthA x0 (A.nat n62)).cellAt 3).toIs ((A.nthA x0 (A.nat n62)).cellAt 4).toI (n61) (A.add n61 1) (A.eq ((A.nthA x0 (A.nat n62)).cellAt 4).toI (A.add n61 1)) ((A.nthA x0 (A.nat n62)).cellAt 0).toI ((A.nthA x0 (A.nat n62)).cellAt 1).toI ((A.nthA x0 (A.nat n62)).cellAt 2).toI ((A.nthA x0 (A.nat n62)).cellAt 3).toIs ((A.nthA x0 (A.nat n62)).cellAt 4).toI) := by kernel_rfl
theorem ZzB (A : Ar) (x0 : List AV) (n1 : Int) (x33 : List AV) (n61 n62 : Int) : ZaD A tab BOp 16 [false] 16 (Zdp x0 n1 x33 n61 n62) (ZcO x0 n1 x33 n61 n62) =
  some (tr [5, 1] [!A.lt n62 n1],
   AV.tup [AV.row 0 0, AV.int .i64 0], some { e := 57, sz := 3, r := Row.big (.agg [.int .i64, .int .i64, .ints .i64]) x33 }) := by kernel_rfl
end Go.Proofs.Ytjhdnpmojhkbjaa
/- Extraction. No condition. -/
namespace Go.Proofs.Ytjhdnpmojhkbjaa
abbrev shP : Sh := .agg [.int .i64, .int .i64, .ints .i64]
def Q16 : List AV → List AFrame → Zaa → Prop
  | [] => ZfK 16 (.tup [.nils, .int .i64 0]) none
  | z :: Z => ZfK 16 (.tup [.row 0 0, .int .i64 0]) (some ⟨57, 3, .big shP (z :: Z)⟩)
def ZrQ (C : Ctx) (L : List AV) (n last i : Int) (Q : List AFrame → Zaa → Prop) : Option (List Int) → List AV → Prop
  | none, [] => Ev C (ZdD L n last i) (ZcG L n last i) Q
  | some p, [] => Ev C (Zbz L n p last i) (Za9 L n p last i) Q
  | some p, y :: Y => Ev C (ZbA L n p (y :: Y) last i) (Za7 L n p (y :: Y) last i) Q
  | none, y :: Y => Ev C (Zdp L n (y :: Y) last i) (ZcO L n (y :: Y) last i) Q
theorem Zdi (p : List Int) (e : Nat) : (p.drop e).take (p.length - e) = p.drop e := List.take_of_length_le (by rw [List.length_drop]; exact Nat.le_refl _)
section
variable {C : Ctx} (hC : C.P = Try.prog) {Q : List AFrame → Zaa → Prop} (x0 : List AV) (n1 last i : Int) (hi : 0 ≤ i ∧ i ≤ 100000)
include hC hi
theorem Zqb : ∀ (m : Nat) (p : List Int) (X : List AV) {n34 : Int} {b36 : Bool} {n37 : Int} {n38 : Int} {n39 : Int} {l40 : List Int} {n41 : Int} {n42 : Int} {n43 : Int} {n44 : Int} {l45 : List Int} {n46 : Int} {n47 : Int} {n48 : Int} {n49 : Int} {l50 : List Int} {n51 : Int} {n52 : Int} {n53 : Int} {b54 : Bool} {n55 : Int} {n56 : Int} {n57 : Int} {l58 : List Int}, p.length ≤ m → bytP p → p.length ≤ 1000 → X ≠ [] → X.length + p.length ≤ 1000000 → ZrQ C x0 n1 last (i + 1) Q (some (eat p).2) (X ++ (eat p).1) →
    Ev C (ZdA x0 n1 p X n34 i b36 n37 n38 n39 l40 n41 n42 n43 n44 l45 n46 n47 n48 n49 l50 n51 n52 n53 b54 n55 n56 n57 l58 last) (ZcB x0 n1 p X n34 i b36 n37 n38 n39 l40 n41 n42 n43 n44 l45 n46 n47 n48 n49 l50 n51 n52 n53 b54 n55 n56 n57 l58 last) Q := by
  intro m
  induction m with
  | zero =>
    intro p X n34 b36 n37 n38 n39 l40 n41 n42 n43 n44 l45 n46 n47 n48 n49 l50 n51 n52 n53 b54 n55 n56 n57 l58 hm hb hl hX hXl hq
    have h1 : p.length < 3 := by omega
    rw [Zcu (.inl h1), List.append_nil] at hq
    obtain ⟨y, Y, rfl⟩ : ∃ y Y, X = y :: Y := by cases X with | nil => exact absurd rfl hX | cons y Y => exact ⟨y, Y, rfl⟩
    exact go hC ZaO (Zs9 std x0 n1 p (y::Y) n34 i b36 n37 n38 n39 l40 n41 n42 n43 n44 l45 n46 n47 n48 n49 l50 n51 n52 n53 b54 n55 n56 n57 l58 last) (by simp; omega) hq
  | succ m ih =>
    intro p X n34 b36 n37 n38 n39 l40 n41 n42 n43 n44 l45 n46 n47 n48 n49 l50 n51 n52 n53 b54 n55 n56 n57 l58 hm hb hl hX hXl hq
    have hv := Zbo hb 2
    by_cases h1 : p.length < 3
    · rw [Zcu (.inl h1), List.append_nil] at hq
      obtain ⟨y, Y, rfl⟩ : ∃ y Y, X = y :: Y := by cases X with | nil => exact absurd rfl hX | cons y Y => exact ⟨y, Y, rfl⟩
      exact go hC ZaO (Zs9 std x0 n1 p (y::Y) n34 i b36 n37 n38 n39 l40 n41 n42 n43 n44 l45 n46 n47 n48 n49 l50 n51 n52 n53 b54 n55 n56 n57 l58 last) (by simp; omega) hq
    · by_cases h2 : (p.length : Int) < 3 + p.getD 2 0
      · rw [Zcu (.inr h2), List.append_nil] at hq
        obtain ⟨y, Y, rfl⟩ : ∃ y Y, X = y :: Y := by cases X with | nil => exact absurd rfl hX | cons y Y => exact ⟨y, Y, rfl⟩
        have hw := ZBv std x0 n1 p (y::Y) n34 i b36 n37 n38 n39 l40 n41 n42 n43 n44 l45 n46 n47 n48 n49 l50 n51 n52 n53 b54 n55 n56 n57 l58 last
        simp only [Zam, Za0, ZaV, ZaP, Zdt, show Int.toNat 2 = 2 from rfl] at hw
        refine go hC ZaO hw ?_ hq
        generalize p.getD 2 0 = v at *
        simp; omega
      · have hlen : (p.drop (3 + p.getD 2 0).toNat).length = p.length - (3 + p.getD 2 0).toNat := List.length_drop
        have e3 : (3 + p.getD 2 0).toNat - 3 = (p.getD 2 0).toNat := by omega
        have hlp : (((p.drop 3).take (p.getD 2 0).toNat).length ≤ 4294967296) := by rw [List.length_take]; omega
        rw [Zg2 hb (by omega) (by omega)] at hq
        by_cases h3 : p.getD 0 0 = 255
        · rw [if_pos h3, List.nil_append] at hq
          have hw := ZzC std x0 n1 p X n34 i b36 n37 n38 n39 l40 n41 n42 n43 n44 l45 n46 n47 n48 n49 l50 n51 n52 n53 b54 n55 n56 n57 l58 last
          simp only [Zam, Za0, ZaV, ZaP, Zdt, ZdY, show Int.toNat 2 = 2 from rfl, show Int.toNat 0 = 0 from rfl, show Int.toNat 1 = 1 from rfl, show Int.toNat 3 = 3 from rfl, Zdi, e3] at hw
          refine go hC ZaO hw ?_ (ih _ X (by omega) (hb.drop _) (by omega) hX (by omega) hq)
          generalize hvv : p.getD 2 0 = v at *
          generalize huu : p.getD 0 0 = u at *
          generalize (p.drop 3).take v.toNat = dd at *
          simp [h3, hlp]
          omega
        · rw [if_neg h3, List.singleton_append, ← List.singleton_append, ← List.append_assoc] at hq
          have hw := ZCz std x0 n1 p X n34 i b36 n37 n38 n39 l40 n41 n42 n43 n44 l45 n46 n47 n48 n49 l50 n51 n52 n53 b54 n55 n56 n57 l58 last
          simp only [Zam, Za0, ZaV, ZaP, Zdt, ZdY, ZiW, show Int.toNat 2 = 2 from rfl, show Int.toNat 0 = 0 from rfl, show Int.toNat 1 = 1 from rfl, show Int.toNat 3 = 3 from rfl, Zdi, e3] at hw
          rw [show AV.agg (Row.gen [AV.int .i64 (p.getD 0 0), AV.int .i64 (p.getD 1 0), AV.list (.ints .i64 ((p.drop 3).take (p.getD 2 0).toNat))]) = pkA p from rfl] at hw
          refine go hC ZaO hw ?_ (ih _ (X ++ [pkA p]) (by omega) (hb.drop _) (by omega) (by simp) (by rw [List.length_append, List.length_singleton]; omega) hq)
          generalize hpk : pkA p = P at *
          have hP : P.bx = true ∧ Zae std P = 3 := by rw [← hpk]; exact ⟨rfl, rfl⟩
          generalize hvv : p.getD 2 0 = v at *
          generalize huu : p.getD 0 0 = u at *
          generalize (p.drop 3).take v.toNat = dd at *
          simp [h3, hlp, hP]
          omega
theorem ZrF : ∀ (m : Nat) (p : List Int) {b4 : Bool} {n5 : Int} {n6 : Int} {n7 : Int} {l8 : List Int} {n9 : Int} {n10 : Int} {n11 : Int} {n12 : Int} {l13 : List Int} {n14 : Int} {n15 : Int} {n16 : Int} {n17 : Int} {l18 : List Int} {n19 : Int} {n20 : Int} {b21 : Bool} {n23 : Int} {n24 : Int} {n25 : Int} {l26 : List Int} {n28 : Int} {n30 : Int}, p.length ≤ m → bytP p → p.length ≤ 1000 → ZrQ C x0 n1 last (i + 1) Q (some (eat p).2) (eat p).1 →
    Ev C (Zdz x0 n1 b4 n5 n6 n7 l8 n9 n10 n11 n12 l13 n14 n15 n16 n17 l18 n19 n20 b21 p n23 n24 n25 l26 last n28 i n30) (ZcJ x0 n1 b4 n5 n6 n7 l8 n9 n10 n11 n12 l13 n14 n15 n16 n17 l18 n19 n20 b21 p n23 n24 n25 l26 last n28 i n30) Q := by
  intro m
  induction m with
  | zero =>
    intro p b4 n5 n6 n7 l8 n9 n10 n11 n12 l13 n14 n15 n16 n17 l18 n19 n20 b21 n23 n24 n25 l26 n28 n30 hm hb hl hq
    have h1 : p.length < 3 := by omega
    rw [Zcu (.inl h1)] at hq
    exact go hC ZaO (ZCQ std x0 n1 b4 n5 n6 n7 l8 n9 n10 n11 n12 l13 n14 n15 n16 n17 l18 n19 n20 b21 p n23 n24 n25 l26 last n28 i n30) (by simp; omega) hq
  | succ m ih =>
    intro p b4 n5 n6 n7 l8 n9 n10 n11 n12 l13 n14 n15 n16 n17 l18 n19 n20 b21 n23 n24 n25 l26 n28 n30 hm hb hl hq
    have hv := Zbo hb 2
    by_cases h1 : p.length < 3
    · rw [Zcu (.inl h1)] at hq
      exact go hC ZaO (ZCQ std x0 n1 b4 n5 n6 n7 l8 n9 n10 n11 n12 l13 n14 n15 n16 n17 l18 n19 n20 b21 p n23 n24 n25 l26 last n28 i n30) (by simp; omega) hq
    · by_cases h2 : (p.length : Int) < 3 + p.getD 2 0
      · rw [Zcu (.inr h2)] at hq
        have hw := ZJw std x0 n1 b4 n5 n6 n7 l8 n9 n10 n11 n12 l13 n14 n15 n16 n17 l18 n19 n20 b21 p n23 n24 n25 l26 last n28 i n30
        simp only [Zam, Za0, ZaV, ZaP, Zdt, show Int.toNat 2 = 2 from rfl] at hw
        refine go hC ZaO hw ?_ hq
        generalize p.getD 2 0 = v at *
        simp; omega
      · have hlen : (p.drop (3 + p.getD 2 0).toNat).length = p.length - (3 + p.getD 2 0).toNat := List.length_drop
        have e3 : (3 + p.getD 2 0).toNat - 3 = (p.getD 2 0).toNat := by omega
        have hlp : (((p.drop 3).take (p.getD 2 0).toNat).length ≤ 4294967296) := by rw [List.length_take]; omega
        rw [Zg2 hb (by omega) (by omega)] at hq
        by_cases h3 : p.getD 0 0 = 255
        · rw [if_pos h3, List.nil_append] at hq
          have hw := ZJD std x0 n1 b4 n5 n6 n7 l8 n9 n10 n11 n12 l13 n14 n15 n16 n17 l18 n19 n20 b21 p n23 n24 n25 l26 last n28 i n30
          simp only [Zam, Za0, ZaV, ZaP, Zdt, ZdY, show Int.toNat 2 = 2 from rfl, show Int.toNat 0 = 0 from rfl, show Int.toNat 1 = 1 from rfl, show Int.toNat 3 = 3 from rfl, Zdi, e3] at hw
          refine go hC ZaO hw ?_ (ih _ (by omega) (hb.drop _) (by omega) hq)
          generalize hvv : p.getD 2 0 = v at *
          generalize huu : p.getD 0 0 = u at *
          generalize (p.drop 3).take v.toNat = dd at *
          simp [h3, hlp]
          omega
        · rw [if_neg h3] at hq
          have hw := ZHQ std x0 n1 b4 n5 n6 n7 l8 n9 n10 n11 n12 l13 n14 n15 n16 n17 l18 n19 n20 b21 p n23 n24 n25 l26 last n28 i n30
          simp only [Zam, Za0, ZaV, ZaP, Zdt, ZdY, show Int.toNat 2 = 2 from rfl, show Int.toNat 0 = 0 from rfl, show Int.toNat 1 = 1 from rfl, show Int.toNat 3 = 3 from rfl, Zdi, e3] at hw
          rw [show AV.agg (Row.gen [AV.int .i64 (p.getD 0 0), AV.int .i64 (p.getD 1 0), AV.list (.ints .i64 ((p.drop 3).take (p.getD 2 0).toNat))]) = pkA p from rfl] at hw
          refine go hC ZaO hw ?_ (Zqb hC x0 n1 last i hi m _ [pkA p] (by omega) (hb.drop _) (by omega) (by simp) (by rw [List.length_singleton]; omega) hq)
          generalize hpk : pkA p = P at *
          have hP : P.bx = true ∧ Zae std P = 3 := by rw [← hpk]; exact ⟨rfl, rfl⟩
          generalize hvv : p.getD 2 0 = v at *
          generalize huu : p.getD 0 0 = u at *
          generalize (p.drop 3).take v.toNat = dd at *
          simp [h3, hlp, hP]
          omega
end
section
variable {C : Ctx} (hC : C.P = Try.prog) {Q : List AFrame → Zaa → Prop} (L : List AV) (a : Int) (ha : 4 ≤ a ∧ a ≤ 24) (i : Nat) (hi : i < L.length) (hL : L.length ≤ 10000) (hx : okX a L[i]) (hk : -400000 ≤ Zah L[i] ∧ Zah L[i] ≤ 400000) (last : Int) (hla : -400000 ≤ last ∧ last ≤ 400000)
include hC ha hi hL hx hk hla
theorem ZMr  (hc : Zdj (none) last L[i] = none) (hq : ZrQ C L L.length (Zah L[i]) ((i : Int) + 1) Q (Zfg (none) last L[i]) ([] ++ Zfh (none) last L[i])) :
    Ev C (ZdD L L.length last i) (ZcG L L.length last i) Q := by
  have hg : L.getD i .top = L[i] := by simp [hi]
  have _ := hk
  have e2 : std.add (i : Int) 1 = ((i : Int) + 1) := rfl
  obtain ⟨hf, hl, hb⟩ := hx
  unfold Zfg Zfh Zk7 at hq
  rw [hc] at hq
  by_cases h5 : fiN L[i] = 255
  · rw [if_pos h5] at hq
    have hw := ZIn std L L.length last i
    simp only [Zam, Zai, Int.toNat_natCast, hg, e2, show (AV.cellAt L[i] 2).toI = fiN L[i] from rfl, show (AV.cellAt L[i] 4).toI = Zah L[i] from rfl] at hw
    refine go hC ZaO hw ?_ (by simp at hq; exact hq)
    generalize fiN L[i] = f at *
    generalize Zah L[i] = k at *
    simp [hi, h5]
    omega
  · rw [if_neg h5] at hq
    have hw := ZIM std L L.length last i
    simp only [Zam, Zai, ZaP, ZdY, Int.toNat_natCast, hg, show (AV.cellAt L[i] 2).toI = fiN L[i] from rfl, show (AV.cellAt L[i] 3).toIs = dsN L[i] from rfl, show (AV.cellAt L[i] 4).toI = Zah L[i] from rfl, Zdi] at hw
    have hd1 : ((dsN L[i]).drop (fiN L[i]).toNat).length = (dsN L[i]).length - (fiN L[i]).toNat := List.length_drop
    refine go hC ZaO hw ?_ (ZrF hC L L.length (Zah L[i]) i ⟨by omega, by omega⟩ _ _ (Nat.le_refl _) (hb.drop _) (by omega) hq)
    generalize (dsN L[i]).drop (fiN L[i]).toNat = D at *
    generalize fiN L[i] = f at *
    generalize Zah L[i] = k at *
    generalize dsN L[i] = ds at *
    have hD : 0 < D.length ∧ D.length ≤ 1000000 := by omega
    simp [hi, AV.bx, Zae, h5]
    omega
theorem ZLr (y : AV) (Y : List AV) (hY : (y :: Y).length ≤ 500000) (hc : Zdj (none) last L[i] = none) (hq : ZrQ C L L.length (Zah L[i]) ((i : Int) + 1) Q (Zfg (none) last L[i]) ((y :: Y) ++ Zfh (none) last L[i])) :
    Ev C (Zdp L L.length (y :: Y) last i) (ZcO L L.length (y :: Y) last i) Q := by
  have hg : L.getD i .top = L[i] := by simp [hi]
  have _ := hk
  have e2 : std.add (i : Int) 1 = ((i : Int) + 1) := rfl
  obtain ⟨hf, hl, hb⟩ := hx
  unfold Zfg Zfh Zk7 at hq
  rw [hc] at hq
  by_cases h5 : fiN L[i] = 255
  · rw [if_pos h5] at hq
    have hw := ZzH std L L.length (y :: Y) last i
    simp only [Zam, Zai, Int.toNat_natCast, hg, e2, show (AV.cellAt L[i] 2).toI = fiN L[i] from rfl, show (AV.cellAt L[i] 4).toI = Zah L[i] from rfl] at hw
    refine go hC ZaO hw ?_ (by simp at hq; exact hq)
    generalize fiN L[i] = f at *
    generalize Zah L[i] = k at *
    simp [hi, h5]
    omega
  · rw [if_neg h5] at hq
    have hw := ZBw std L L.length (y :: Y) last i
    simp only [Zam, Zai, ZaP, ZdY, Int.toNat_natCast, hg, show (AV.cellAt L[i] 2).toI = fiN L[i] from rfl, show (AV.cellAt L[i] 3).toIs = dsN L[i] from rfl, show (AV.cellAt L[i] 4).toI = Zah L[i] from rfl, Zdi] at hw
    have hd1 : ((dsN L[i]).drop (fiN L[i]).toNat).length = (dsN L[i]).length - (fiN L[i]).toNat := List.length_drop
    refine go hC ZaO hw ?_ (Zqb hC L L.length (Zah L[i]) i ⟨by omega, by omega⟩ _ _ (y :: Y) (Nat.le_refl _) (hb.drop _) (by omega) (by simp) (by omega) hq)
    generalize (dsN L[i]).drop (fiN L[i]).toNat = D at *
    generalize fiN L[i] = f at *
    generalize Zah L[i] = k at *
    generalize dsN L[i] = ds at *
    have hD : 0 < D.length ∧ D.length ≤ 1000000 := by omega
    simp [hi, AV.bx, Zae, h5]
    omega
theorem ZIQ (p : List Int) (hp : okS (some p)) (hc : Zdj (some p) last L[i] = none) (hq : ZrQ C L L.length (Zah L[i]) ((i : Int) + 1) Q (Zfg (some p) last L[i]) ([] ++ Zfh (some p) last L[i])) :
    Ev C (Zbz L L.length p last i) (Za9 L L.length p last i) Q := by
  have hg : L.getD i .top = L[i] := by simp [hi]
  have _ := hk
  have e2 : std.add (i : Int) 1 = ((i : Int) + 1) := rfl
  obtain ⟨hf, hl, hb⟩ := hx
  unfold Zfg Zfh Zk7 at hq
  rw [hc] at hq
  obtain ⟨q1, q2, q3⟩ := hp
  have hE : Zh9 p (dsN L[i]) = true := by
    unfold Zh9
    have := Zbo (q1.app hb) 2
    simp only [Bool.and_eq_true, decide_eq_true_eq]
    omega
  unfold Zdj at hc
  dsimp only at hc
  by_cases h5 : fiN L[i] = 255
  · rw [if_pos h5] at hq
    by_cases h6 : Zah L[i] = last + 1
    · have h7 : ¬ fiN L[i] = Zec (dsN L[i]).length p (dsN L[i]) := fun e => by rw [if_pos ⟨h6, e⟩] at hc; cases hc
      have hw := ZDA std L L.length p last i
      simp only [Zam, Zai, Int.toNat_natCast, hg, e2, show (AV.cellAt L[i] 2).toI = fiN L[i] from rfl, show (AV.cellAt L[i] 3).toIs = dsN L[i] from rfl, show (AV.cellAt L[i] 4).toI = Zah L[i] from rfl] at hw
      refine go hC ZaO hw ?_ (by simp at hq; exact hq)
      generalize fiN L[i] = f at *
      generalize Zah L[i] = k at *
      simp [hi, h5, h6, hE]
      omega
    · have hw := ZJJ std L L.length p last i
      simp only [Zam, Zai, Int.toNat_natCast, hg, e2, show (AV.cellAt L[i] 2).toI = fiN L[i] from rfl, show (AV.cellAt L[i] 4).toI = Zah L[i] from rfl] at hw
      refine go hC ZaO hw ?_ (by simp at hq; exact hq)
      generalize fiN L[i] = f at *
      generalize Zah L[i] = k at *
      simp [hi, h5, h6]
      omega
  · rw [if_neg h5] at hq
    by_cases h6 : Zah L[i] = last + 1
    · have h7 : ¬ fiN L[i] = Zec (dsN L[i]).length p (dsN L[i]) := fun e => by rw [if_pos ⟨h6, e⟩] at hc; cases hc
      have hw := ZCw std L L.length p last i
      simp only [Zam, Zai, ZaP, ZdY, Int.toNat_natCast, hg, show (AV.cellAt L[i] 2).toI = fiN L[i] from rfl, show (AV.cellAt L[i] 3).toIs = dsN L[i] from rfl, show (AV.cellAt L[i] 4).toI = Zah L[i] from rfl, Zdi] at hw
      have hd1 : ((dsN L[i]).drop (fiN L[i]).toNat).length = (dsN L[i]).length - (fiN L[i]).toNat := List.length_drop
      refine go hC ZaO hw ?_ (ZrF hC L L.length (Zah L[i]) i ⟨by omega, by omega⟩ _ _ (Nat.le_refl _) (hb.drop _) (by omega) hq)
      generalize (dsN L[i]).drop (fiN L[i]).toNat = D at *
      generalize fiN L[i] = f at *
      generalize Zah L[i] = k at *
      generalize dsN L[i] = ds at *
      have hD : 0 < D.length ∧ D.length ≤ 1000000 := by omega
      simp [hi, AV.bx, Zae, h5, h6, h7, hE]
      omega
    · have hw := ZF7 std L L.length p last i
      simp only [Zam, Zai, ZaP, ZdY, Int.toNat_natCast, hg, show (AV.cellAt L[i] 2).toI = fiN L[i] from rfl, show (AV.cellAt L[i] 3).toIs = dsN L[i] from rfl, show (AV.cellAt L[i] 4).toI = Zah L[i] from rfl, Zdi] at hw
      have hd1 : ((dsN L[i]).drop (fiN L[i]).toNat).length = (dsN L[i]).length - (fiN L[i]).toNat := List.length_drop
      refine go hC ZaO hw ?_ (ZrF hC L L.length (Zah L[i]) i ⟨by omega, by omega⟩ _ _ (Nat.le_refl _) (hb.drop _) (by omega) hq)
      generalize (dsN L[i]).drop (fiN L[i]).toNat = D at *
      generalize fiN L[i] = f at *
      generalize Zah L[i] = k at *
      generalize dsN L[i] = ds at *
      have hD : 0 < D.length ∧ D.length ≤ 1000000 := by omega
      simp [hi, AV.bx, Zae, h5, h6]
      omega
theorem ZI4 (p : List Int) (hp : okS (some p)) (hc : Zdj (some p) last L[i] = some p) (hq : ZrQ C L L.length (Zah L[i]) ((i : Int) + 1) Q (Zfg (some p) last L[i]) ([] ++ Zfh (some p) last L[i])) :
    Ev C (Zbz L L.length p last i) (Za9 L L.length p last i) Q := by
  have hg : L.getD i .top = L[i] := by simp [hi]
  have _ := hk
  have e2 : std.add (i : Int) 1 = ((i : Int) + 1) := rfl
  obtain ⟨hf, hl, hb⟩ := hx
  unfold Zfg Zfh Zk7 at hq
  rw [hc] at hq
  dsimp only at hq
  obtain ⟨q1, q2, q3⟩ := hp
  have hE : Zh9 p (dsN L[i]) = true := by
    unfold Zh9
    have := Zbo (q1.app hb) 2
    simp only [Bool.and_eq_true, decide_eq_true_eq]
    omega
  have h67 : Zah L[i] = last + 1 ∧ fiN L[i] = Zec (dsN L[i]).length p (dsN L[i]) := by
    unfold Zdj at hc
    dsimp only at hc
    by_cases h : Zah L[i] = last + 1 ∧ fiN L[i] = Zec (dsN L[i]).length p (dsN L[i])
    · exact h
    · rw [if_neg h] at hc; cases hc
  have hw := ZFk std L L.length p last i
  simp only [Zam, Zai, Int.toNat_natCast, hg, show (AV.cellAt L[i] 2).toI = fiN L[i] from rfl, show (AV.cellAt L[i] 3).toIs = dsN L[i] from rfl, show (AV.cellAt L[i] 4).toI = Zah L[i] from rfl, show List.append = (fun (a b : List Int) => a ++ b) from rfl] at hw
  have hpl : (p ++ dsN L[i]).length = p.length + (dsN L[i]).length := List.length_append
  refine go hC ZaO hw ?_ (ZrF hC L L.length (Zah L[i]) i ⟨by omega, by omega⟩ _ _ (Nat.le_refl _) (q1.app hb) (by omega) hq)
  rw [← h67.2, h67.1, hE]
  generalize fiN L[i] = f at *
  generalize Zah L[i] = k at *
  generalize dsN L[i] = ds at *
  simp [hi, AV.bx, Zae]
  omega
theorem ZG8 (p : List Int) (y : AV) (Y : List AV) (hY : (y :: Y).length ≤ 500000) (hp : okS (some p)) (hc : Zdj (some p) last L[i] = none) (hq : ZrQ C L L.length (Zah L[i]) ((i : Int) + 1) Q (Zfg (some p) last L[i]) ((y :: Y) ++ Zfh (some p) last L[i])) :
    Ev C (ZbA L L.length p (y :: Y) last i) (Za7 L L.length p (y :: Y) last i) Q := by
  have hg : L.getD i .top = L[i] := by simp [hi]
  have _ := hk
  have e2 : std.add (i : Int) 1 = ((i : Int) + 1) := rfl
  obtain ⟨hf, hl, hb⟩ := hx
  unfold Zfg Zfh Zk7 at hq
  rw [hc] at hq
  obtain ⟨q1, q2, q3⟩ := hp
  have hE : Zh9 p (dsN L[i]) = true := by
    unfold Zh9
    have := Zbo (q1.app hb) 2
    simp only [Bool.and_eq_true, decide_eq_true_eq]
    omega
  unfold Zdj at hc
  dsimp only at hc
  by_cases h5 : fiN L[i] = 255
  · rw [if_pos h5] at hq
    by_cases h6 : Zah L[i] = last + 1
    · have h7 : ¬ fiN L[i] = Zec (dsN L[i]).length p (dsN L[i]) := fun e => by rw [if_pos ⟨h6, e⟩] at hc; cases hc
      have hw := ZEF std L L.length p (y :: Y) last i
      simp only [Zam, Zai, Int.toNat_natCast, hg, e2, show (AV.cellAt L[i] 2).toI = fiN L[i] from rfl, show (AV.cellAt L[i] 3).toIs = dsN L[i] from rfl, show (AV.cellAt L[i] 4).toI = Zah L[i] from rfl] at hw
      refine go hC ZaO hw ?_ (by simp at hq; exact hq)
      generalize fiN L[i] = f at *
      generalize Zah L[i] = k at *
      simp [hi, h5, h6, hE]
      omega
    · have hw := ZAf std L L.length p (y :: Y) last i
      simp only [Zam, Zai, Int.toNat_natCast, hg, e2, show (AV.cellAt L[i] 2).toI = fiN L[i] from rfl, show (AV.cellAt L[i] 4).toI = Zah L[i] from rfl] at hw
      refine go hC ZaO hw ?_ (by simp at hq; exact hq)
      generalize fiN L[i] = f at *
      generalize Zah L[i] = k at *
      simp [hi, h5, h6]
      omega
  · rw [if_neg h5] at hq
    by_cases h6 : Zah L[i] = last + 1
    · have h7 : ¬ fiN L[i] = Zec (dsN L[i]).length p (dsN L[i]) := fun e => by rw [if_pos ⟨h6, e⟩] at hc; cases hc
      have hw := ZBI std L L.length p (y :: Y) last i
      simp only [Zam, Zai, ZaP, ZdY, Int.toNat_natCast, hg, show (AV.cellAt L[i] 2).toI = fiN L[i] from rfl, show (AV.cellAt L[i] 3).toIs = dsN L[i] from rfl, show (AV.cellAt L[i] 4).toI = Zah L[i] from rfl, Zdi] at hw
      have hd1 : ((dsN L[i]).drop (fiN L[i]).toNat).length = (dsN L[i]).length - (fiN L[i]).toNat := List.length_drop
      refine go hC ZaO hw ?_ (Zqb hC L L.length (Zah L[i]) i ⟨by omega, by omega⟩ _ _ (y :: Y) (Nat.le_refl _) (hb.drop _) (by omega) (by simp) (by omega) hq)
      generalize (dsN L[i]).drop (fiN L[i]).toNat = D at *
      generalize fiN L[i] = f at *
      generalize Zah L[i] = k at *
      generalize dsN L[i] = ds at *
      have hD : 0 < D.length ∧ D.length ≤ 1000000 := by omega
      simp [hi, AV.bx, Zae, h5, h6, h7, hE]
      omega
    · have hw := ZCK std L L.length p (y :: Y) last i
      simp only [Zam, Zai, ZaP, ZdY, Int.toNat_natCast, hg, show (AV.cellAt L[i] 2).toI = fiN L[i] from rfl, show (AV.cellAt L[i] 3).toIs = dsN L[i] from rfl, show (AV.cellAt L[i] 4).toI = Zah L[i] from rfl, Zdi] at hw
      have hd1 : ((dsN L[i]).drop (fiN L[i]).toNat).length = (dsN L[i]).length - (fiN L[i]).toNat := List.length_drop
      refine go hC ZaO hw ?_ (Zqb hC L L.length (Zah L[i]) i ⟨by omega, by omega⟩ _ _ (y :: Y) (Nat.le_refl _) (hb.drop _) (by omega) (by simp) (by omega) hq)
      generalize (dsN L[i]).drop (fiN L[i]).toNat = D at *
      generalize fiN L[i] = f at *
      generalize Zah L[i] = k at *
      generalize dsN L[i] = ds at *
      have hD : 0 < D.length ∧ D.length ≤ 1000000 := by omega
      simp [hi, AV.bx, Zae, h5, h6]
      omega
theorem ZHe (p : List Int) (y : AV) (Y : List AV) (hY : (y :: Y).length ≤ 500000) (hp : okS (some p)) (hc : Zdj (some p) last L[i] = some p) (hq : ZrQ C L L.length (Zah L[i]) ((i : Int) + 1) Q (Zfg (some p) last L[i]) ((y :: Y) ++ Zfh (some p) last L[i])) :
    Ev C (ZbA L L.length p (y :: Y) last i) (Za7 L L.length p (y :: Y) last i) Q := by
  have hg : L.getD i .top = L[i] := by simp [hi]
  have _ := hk
  have e2 : std.add (i : Int) 1 = ((i : Int) + 1) := rfl
  obtain ⟨hf, hl, hb⟩ := hx
  unfold Zfg Zfh Zk7 at hq
  rw [hc] at hq
  dsimp only at hq
  obtain ⟨q1, q2, q3⟩ := hp
  have hE : Zh9 p (dsN L[i]) = true := by
    unfold Zh9
    have := Zbo (q1.app hb) 2
    simp only [Bool.and_eq_true, decide_eq_true_eq]
    omega
  have h67 : Zah L[i] = last + 1 ∧ fiN L[i] = Zec (dsN L[i]).length p (dsN L[i]) := by
    unfold Zdj at hc
    dsimp only at hc
    by_cases h : Zah L[i] = last + 1 ∧ fiN L[i] = Zec (dsN L[i]).length p (dsN L[i])
    · exact h
    · rw [if_neg h] at hc; cases hc
  have hw := ZAW std L L.length p (y :: Y) last i
  simp only [Zam, Zai, Int.toNat_natCast, hg, show (AV.cellAt L[i] 2).toI = fiN L[i] from rfl, show (AV.cellAt L[i] 3).toIs = dsN L[i] from rfl, show (AV.cellAt L[i] 4).toI = Zah L[i] from rfl, show List.append = (fun (a b : List Int) => a ++ b) from rfl] at hw
  have hpl : (p ++ dsN L[i]).length = p.length + (dsN L[i]).length := List.length_append
  refine go hC ZaO hw ?_ (Zqb hC L L.length (Zah L[i]) i ⟨by omega, by omega⟩ _ _ (y :: Y) (Nat.le_refl _) (q1.app hb) (by omega) (by simp) (by omega) hq)
  rw [← h67.2, h67.1, hE]
  generalize fiN L[i] = f at *
  generalize Zah L[i] = k at *
  generalize dsN L[i] = ds at *
  simp [hi, AV.bx, Zae]
  omega
end
theorem ZlS {c : Int} {x : AV} : ∀ {fs : List AV} {last : Int}, x ∈ Zjq c fs last → ∃ f ∈ fs, ∃ k, x = Zi1 f k
  | [], _, h => by simp [Zjq] at h
  | f :: fs, last, h => by
    unfold Zjq at h
    split at h
    · rcases List.mem_cons.1 h with rfl | h
      · exact ⟨f, by simp, _, rfl⟩
      · obtain ⟨g, hg, k, hk⟩ := ZlS h; exact ⟨g, by simp [hg], k, hk⟩
    · obtain ⟨g, hg, k, hk⟩ := ZlS h; exact ⟨g, by simp [hg], k, hk⟩
theorem Zmn {c : Int} {x : AV} : ∀ {fs : List AV}, x ∈ Zcy c fs → ∃ f ∈ fs, ∃ k, x = Zi1 f k
  | [], h => by simp [Zcy] at h
  | f :: fs, h => by
    unfold Zcy at h
    split at h
    · rcases List.mem_cons.1 h with rfl | h
      · exact ⟨f, by simp, _, rfl⟩
      · obtain ⟨g, hg, k, hk⟩ := ZlS h; exact ⟨g, by simp [hg], k, hk⟩
    · obtain ⟨g, hg, k, hk⟩ := Zmn h; exact ⟨g, by simp [hg], k, hk⟩
def ZKl (a : Int) (f : AV) : Prop := ((0 ≤ (AV.cellAt f 2).toI ∧ (AV.cellAt f 2).toI ≤ a - 1) ∨ (AV.cellAt f 2).toI = 255) ∧ (((AV.cellAt f 3).toIs.length : Int) = a) ∧ bytP (AV.cellAt f 3).toIs
theorem ZoL {a c : Int} {fs : List AV} (h : ∀ f ∈ fs, ZKl a f) : ∀ x ∈ ZfF c fs, okX a x := fun x hx => by
  obtain ⟨f, hf, k, rfl⟩ := Zmn (ZmW hx)
  exact h f hf
theorem Zlr {a b c : Int} {fs : List AV} (h : ZbO a b c fs = 0) : (4 ≤ a ∧ a ≤ 24) ∧ ∀ f ∈ fs, ZKl a f := by
  obtain ⟨h1, h2, h3, h4⟩ := ZhH h
  have hrb : Zcj a b = true := by
    unfold ZaK at h1
    by_cases hb : Zcj a b = true
    · exact hb
    · rw [if_neg hb] at h1; cases h1
  refine ⟨?_, fun f hf => ?_⟩
  · unfold Zcj at hrb
    simp at hrb
    omega
  · have hw := ZjA h4 f hf
    unfold frW at hw
    rw [ZhV hrb] at hw
    obtain ⟨_, _, h5, h6, h7⟩ := Zku hw
    exact ⟨h5, h6, Znd h7⟩
theorem ZBu {C : Ctx} (hC : C.P = Try.prog) (L : List AV) (a : Int) (ha : 4 ≤ a ∧ a ≤ 24) (hL : L.length ≤ 1000) (hx : ∀ x ∈ L, okX a x) (hk : ∀ x ∈ L, -400000 ≤ Zah x ∧ Zah x ≤ 400000) : ∀ (d i : Nat) (last : Int) (st : Option (List Int)) (X : List AV), L.length - i = d → i ≤ L.length → okS st → X.length ≤ 300 * i → (-400000 ≤ last ∧ last ≤ 400000) →
    ZrQ C L L.length last i (Q16 (X ++ Zic st last (L.drop i))) st X := by
  intro d
  induction d with
  | zero =>
    intro i last st X hd hi hs hX hl
    rw [List.drop_of_length_le (by omega), Zic, List.append_nil]
    match st, X with
    | none, [] => exact fin hC ZaO (ZJm std L L.length last i) (by simp; omega) rfl rfl
    | some p, [] => exact fin hC ZaO (ZF6 std L L.length p last i) (by simp; omega) rfl rfl
    | some p, y :: Y => exact fin hC ZaO (ZFH std L L.length p (y :: Y) last i) (by simp; omega) rfl rfl
    | none, y :: Y => exact fin hC ZaO (ZzB std L L.length (y :: Y) last i) (by simp; omega) rfl rfl
  | succ d ih =>
    intro i last st X hd hi hs hX hl
    have hlt : i < L.length := by omega
    have hxi := hx L[i] (List.getElem_mem hlt)
    have hki := hk L[i] (List.getElem_mem hlt)
    rw [List.drop_eq_getElem_cons hlt, Zic, ← List.append_assoc]
    have hq := ih (i + 1) (Zah L[i]) (Zfg st last L[i]) (X ++ Zfh st last L[i]) (by omega) (by omega) (ZlY hs hxi ha) (by
      have := (Zjp (last := last) hs hxi ha).1
      rw [List.length_append]; omega) hki
    rw [show (((i + 1 : Nat) : Nat) : Int) = (i : Int) + 1 by omega] at hq
    match st, X, hs, hX, hq with
    | none, [], hs, hX, hq => exact ZMr hC L a ha i hlt (by omega) hxi hki last hl rfl hq
    | none, y :: Y, hs, hX, hq => exact ZLr hC L a ha i hlt (by omega) hxi hki last hl y Y (by omega) rfl hq
    | some p, X, hs, hX, hq =>
      have hcc : Zdj (some p) last L[i] = none ∨ Zdj (some p) last L[i] = some p := by
        unfold Zdj
        dsimp only
        split
        · exact .inr rfl
        · exact .inl rfl
      match X, hX, hq with
      | [], hX, hq =>
        rcases hcc with hc | hc
        · exact ZIQ hC L a ha i hlt (by omega) hxi hki last hl p hs hc hq
        · exact ZI4 hC L a ha i hlt (by omega) hxi hki last hl p hs hc hq
      | y :: Y, hX, hq =>
        rcases hcc with hc | hc
        · exact ZG8 hC L a ha i hlt (by omega) hxi hki last hl p y Y (by omega) hs hc hq
        · exact ZHe hC L a ha i hlt (by omega) hxi hki last hl p y Y (by omega) hs hc hq
def exO (a b c : Int) (fs : List AV) : List AV := if ZbO a b c fs = 0 then Zic none 0 (ZfF c fs) else []
theorem Zpn (a b c : Int) (fs : List AV) : exO a b c fs = if ZbO a b c fs = 0 then Zic none 0 (ZfF c fs) else [] := rfl
theorem ZIq (a b c : Int) (fs : List AV) (h : Zbd fs = true) : ZaI Try.prog 16 [.agg (.gen [.int .i64 a, .int .i64 b]), .int .i64 c, .list (.big ZgT fs)] (.tup [.list (.big shP (exO a b c fs)), .int .i64 (ZbO a b c fs)]) none := by
  unfold exO
  by_cases h0 : ZbO a b c fs = 0
  · rw [if_pos h0, h0]
    have hnm := ZpJ h0
    obtain ⟨ha, hfr⟩ := Zlr h0
    have hlen := Zjy c fs
    have h40 := (ZhH h0).2.2.1
    have key : ∀ C : Ctx, C.P = Try.prog → Ev C (ZGP a b c fs) [] (Q16 (Zic none 0 (ZfF c fs))) := fun C hC => by
      refine go hC ZaO (ZGW std a b c fs) (by simp [h, h0, hnm]) ?_
      have := ZBu hC (ZfF c fs) a ha (by omega) (ZoL hfr) (Zmt hnm) _ 0 0 none [] rfl (Nat.zero_le _) trivial (by simp) (by omega)
      simp at this
      exact this
    cases hz : Zic none 0 (ZfF c fs) with
    | nil =>
      rw [hz] at key
      exact ZqB (xs := [.nils, .int .i64 0]) (start (Zlv a b c fs) key) ⟨.one (.nil _ rfl), ZmB _, trivial⟩
    | cons y Y =>
      rw [hz] at key
      exact Zss (e := 57) (sz := 2) (xs := [.row 0 0, .int .i64 0]) (start (Zlv a b c fs) key) rfl ⟨.row, .same _ rfl, trivial⟩
  · rw [if_neg h0]
    exact ZqB (xs := [.nils, .int .i64 (ZbO a b c fs)]) (start (Zlv a b c fs) fun C hC => fin hC ZaO (ZHV std a b c fs) (by simp [h, h0]) rfl rfl) ⟨.one (.nil _ rfl), ZmB _, trivial⟩
attribute [irreducible] exO
end Go.Proofs.Ytjhdnpmojhkbjaa
/- Contracts as a list. No condition. -/
namespace Go.Proofs.Ytjhdnpmojhkbjaa
theorem ZwN : ZaI Try.prog 55 [.nils] (.list (.ints .i64 [])) Zko := Zki (ZjJ [] (by simp)) ⟨.one (.nil _ rfl), trivial⟩
theorem Zr5 : ZaI Try.prog 55 [.nils] (.row 0 0) (some ⟨3, 1, .ints .i64 []⟩) := Zki (Zjm [] (by simp)) ⟨.one (.nil _ rfl), trivial⟩
def k55o : Ctr := ⟨55, 1, fun pa a => match pa with
  | [] => (match a with | _ => some (false, .nils, none))
  | b :: _ => (match a with
    | [.nils] => some (true, (match b with | true => .row 0 0 | false => .list (.ints .i64 [])), (match b with | true => some ⟨3, 1, .ints .i64 []⟩ | false => Zko))
    | [.list (.ints .i64 xs)] => some (decide (xs.length ≤ 4294967296), (match b with | true => .row 0 0 | false => .list (.ints .i64 xs)), (match b with | true => some ⟨3, 1, .ints .i64 xs⟩ | false => Zko))
    | _ => none)⟩
theorem Zzc : k55o.OK Try.prog := fun pa args r fr h => by
  simp only [k55o] at h
  split at h
  · simp at h
  · split at h
    · simp only [Option.some.injEq, Prod.mk.injEq, true_and] at h
      obtain ⟨rfl, rfl⟩ := h
      split
      · exact Zr5
      · exact ZwN
    · simp only [Option.some.injEq, Prod.mk.injEq, decide_eq_true_eq] at h
      obtain ⟨h0, rfl, rfl⟩ := h
      split
      · exact Zjm _ h0
      · exact ZjJ _ h0
    · cases h
def k16 : Ctr := ⟨16, 0, fun _ a => match a with | [.agg (.gen [.int .i64 a, .int .i64 b]), .int .i64 c, .list (.big (.agg [.int .i64, .int .i64, .int .i64, .ints .i64]) fs)] => some (decide (Zbd fs = true), .tup [.list (.big shP (exO a b c fs)), .int .i64 (ZbO a b c fs)], none) | _ => none⟩
theorem ZCZ : k16.OK Try.prog := fun pa args r fr h => by
  simp only [k16] at h
  split at h
  · simp only [Option.some.injEq, Prod.mk.injEq, decide_eq_true_eq] at h
    obtain ⟨h0, rfl, rfl⟩ := h
    exact ZIq _ _ _ _ h0
  · cases h
def BOq : List Ctr := [k16] ++ BOp
theorem ZtP : Zas Try.prog BOq := ⟨ZCZ, ZaO⟩
def BOr : List Ctr := [k55o] ++ BOq
theorem Zay : Zas Try.prog BOr := ⟨Zzc, ZtP⟩
end Go.Proofs.Ytjhdnpmojhkbjaa
