/- Paths of functions, printed by the explorer (Gx). No condition. -/
import Derived.Test.YtjhdnpmojhkbjaaMi
import Derived.KernelRfl
namespace Go.Proofs.Ytjhdnpmojhkbjaa
set_option maxRecDepth 100000
set_option linter.unusedVariables false
def ZFX (c : Int) (fs : List AV) : AFrame := { fn := 72, N := 107, env := [(0, AV.int .i64 c), (1, AV.list (Row.big (Sh.agg [Sh.int .i64, Sh.int .i64, Sh.int .i64, Sh.ints .i64]) fs))], todo := [.code a72.code], defs := [], rnd := none, ret := false, res := [ARes.tmp 4, ARes.tmp 5] }
def ZMd (c : Int) (fs : List AV) : List AFrame := [(ZFX c fs)]
theorem ZpF (c : Int) (fs : List AV) : Zal tab 72 [AV.int .i64 c, AV.list (Row.big (Sh.agg [Sh.int .i64, Sh.int .i64, Sh.int .i64, Sh.ints .i64]) fs)] = some (ZFX c fs) := rfl
def ZdK (c : Int) (fs : List AV) (n0 : Int) : List AFrame := [{ fn := 72, N := 107, env := [(0, AV.int .i64 c), (1, AV.list (Row.big (Sh.agg [Sh.int .i64, Sh.int .i64, Sh.int .i64, Sh.ints .i64]) fs)), (6, AV.nils), (7, AV.nils), (8, AV.int .i64 0), (9, AV.bool false), (10, AV.int .i64 n0)], todo := .code (ACode.gh [] ZwE) :: Zyh, defs := [], rnd := none, ret := false, res := [ARes.tmp 4, ARes.tmp 5] }]
def ZcM (c : Int) (fs : List AV) (n0 : Int) : Zaa := []
abbrev Zin (c : Int) (fs : List AV) (n0 : Int) : List AFrame × Zaa := (ZdK c fs n0, ZcM c fs n0)
def ZiZ (c : Int) (fs : List AV) (n0 n1 n2 n3 n4 n5 : Int) : List AFrame := [{ fn := 116, N := 18, env := [(0, AV.nils), (1, AV.int .i64 n1), (5, AV.int .i64 0)], todo := .code (ACode.gh [] ZpE) :: Zuy, defs := [], rnd := none, ret := false, res := [ARes.tmp 4] }, { fn := 72, N := 107, env := [(0, AV.int .i64 c), (1, AV.list (Row.big (Sh.agg [Sh.int .i64, Sh.int .i64, Sh.int .i64, Sh.ints .i64]) fs)), (6, AV.nils), (7, AV.nils), (8, AV.int .i64 n2), (9, AV.bool true), (10, AV.int .i64 n0), (11, AV.int .i64 n3), (33, AV.bool false), (41, AV.int .i64 n4), (42, AV.nils), (43, AV.int .i64 n5)], todo := AItem.inReg [oN 44 (OpK.ncall true 0 116 [Opd.t 42, Opd.t 43])] :: .code (ACode.cond (Opd.t 44) (ACode.exit 1) ACode.skip) :: .code (ACode.seq (ACode.reg none [oN 12 (OpK.mov (cI 0))]) (ACode.seq (ACode.block 2 (ACode.loop Zyr)) Zw8)) :: AItem.inBlock 1 :: .code Zro :: Zyh, defs := [], rnd := none, ret := false, res := [ARes.tmp 4, ARes.tmp 5] }]
def ZhM (c : Int) (fs : List AV) (n0 : Int) (n1 : Int) (n2 : Int) (n3 : Int) (n4 : Int) (n5 : Int) : Zaa := []
abbrev Zls (c : Int) (fs : List AV) (n0 : Int) (n1 : Int) (n2 : Int) (n3 : Int) (n4 : Int) (n5 : Int) : List AFrame × Zaa := (ZiZ c fs n0 n1 n2 n3 n4 n5, ZhM c fs n0 n1 n2 n3 n4 n5)
def Zkl (c : Int) (fs : List AV) (n0 n2 n3 : Int) : List AFrame := [{ fn := 72, N := 107, env := [(0, AV.int .i64 c), (1, AV.list (Row.big (Sh.agg [Sh.int .i64, Sh.int .i64, Sh.int .i64, Sh.ints .i64]) fs)), (6, AV.nils), (7, AV.nils), (8, AV.int .i64 n2), (9, AV.bool true), (10, AV.int .i64 n0), (11, AV.int .i64 n3), (12, AV.int .i64 0)], todo := .code (ACode.gh [] Zx6) :: ZCb, defs := [], rnd := none, ret := false, res := [ARes.tmp 4, ARes.tmp 5] }]
def ZiS (c : Int) (fs : List AV) (n0 : Int) (n2 : Int) (n3 : Int) : Zaa := []
abbrev ZnG (c : Int) (fs : List AV) (n0 : Int) (n2 : Int) (n3 : Int) : List AFrame × Zaa := (Zkl c fs n0 n2 n3, ZiS c fs n0 n2 n3)
def ZcZ (c : Int) (fs : List AV) (n6 : Int) (x7 : List AV) (l8 : List Int) (n9 n10 n11 n12 : Int) : List AFrame := [{ fn := 72, N := 107, env := [(0, AV.int .i64 c), (1, AV.list (Row.big (Sh.agg [Sh.int .i64, Sh.int .i64, Sh.int .i64, Sh.ints .i64]) fs)), (6, AV.row 72066 0), (7, AV.row 72070 0), (8, AV.int .i64 n9), (9, AV.bool true), (10, AV.int .i64 n10), (11, AV.int .i64 n11), (12, AV.int .i64 n12), (13, AV.int .i64 n6)], todo := .code (ACode.gh [] ZBU) :: ZH7, defs := [], rnd := none, ret := false, res := [ARes.tmp 4, ARes.tmp 5] }]
def Zb1 (c : Int) (fs : List AV) (n6 : Int) (x7 : List AV) (l8 : List Int) (n9 : Int) (n10 : Int) (n11 : Int) (n12 : Int) : Zaa := [(72066, { base := 0, blks := [Blk.row 74 4 (Row.big (Sh.agg [Sh.int .i64, Sh.int .i64, Sh.int .i64, Sh.ints .i64]) x7)] }), (72070, { base := 0, blks := [Blk.row 3 1 (.ints .i64 l8)] })]
abbrev ZeL (c : Int) (fs : List AV) (n6 : Int) (x7 : List AV) (l8 : List Int) (n9 : Int) (n10 : Int) (n11 : Int) (n12 : Int) : List AFrame × Zaa := (ZcZ c fs n6 x7 l8 n9 n10 n11 n12, Zb1 c fs n6 x7 l8 n9 n10 n11 n12)
def Zch (c : Int) (fs : List AV) (n13 : Int) (x14 : List AV) (l15 : List Int) (n16 : Int) : List AFrame := [{ fn := 72, N := 107, env := [(0, AV.int .i64 c), (1, AV.list (Row.big (Sh.agg [Sh.int .i64, Sh.int .i64, Sh.int .i64, Sh.ints .i64]) fs)), (6, AV.row 72066 0), (7, AV.row 72070 0), (8, AV.int .i64 n16), (9, AV.bool true), (10, AV.int .i64 n13)], todo := .code (ACode.gh [] ZwE) :: Zyh, defs := [], rnd := none, ret := false, res := [ARes.tmp 4, ARes.tmp 5] }]
def ZbJ (c : Int) (fs : List AV) (n13 : Int) (x14 : List AV) (l15 : List Int) (n16 : Int) : Zaa := [(72066, { base := 0, blks := [Blk.row 74 4 (Row.big (Sh.agg [Sh.int .i64, Sh.int .i64, Sh.int .i64, Sh.ints .i64]) x14)] }), (72070, { base := 0, blks := [Blk.row 3 1 (.ints .i64 l15)] })]
abbrev ZfZ (c : Int) (fs : List AV) (n13 : Int) (x14 : List AV) (l15 : List Int) (n16 : Int) : List AFrame × Zaa := (Zch c fs n13 x14 l15 n16, ZbJ c fs n13 x14 l15 n16)
def Zey (c : Int) (fs : List AV) (n13 : Int) (x14 : List AV) (l15 : List Int) (n17 n18 n19 : Int) : List AFrame := [{ fn := 72, N := 107, env := [(0, AV.int .i64 c), (1, AV.list (Row.big (Sh.agg [Sh.int .i64, Sh.int .i64, Sh.int .i64, Sh.ints .i64]) fs)), (6, AV.row 72066 0), (7, AV.row 72070 0), (8, AV.int .i64 n17), (9, AV.bool true), (10, AV.int .i64 n13), (11, AV.int .i64 n18), (12, AV.int .i64 n19)], todo := .code (ACode.gh [] Zx6) :: ZCb, defs := [], rnd := none, ret := false, res := [ARes.tmp 4, ARes.tmp 5] }]
def ZdM (c : Int) (fs : List AV) (n13 : Int) (x14 : List AV) (l15 : List Int) (n17 : Int) (n18 : Int) (n19 : Int) : Zaa := [(72066, { base := 0, blks := [Blk.row 74 4 (Row.big (Sh.agg [Sh.int .i64, Sh.int .i64, Sh.int .i64, Sh.ints .i64]) x14)] }), (72070, { base := 0, blks := [Blk.row 3 1 (.ints .i64 l15)] })]
abbrev Zik (c : Int) (fs : List AV) (n13 : Int) (x14 : List AV) (l15 : List Int) (n17 : Int) (n18 : Int) (n19 : Int) : List AFrame × Zaa := (Zey c fs n13 x14 l15 n17 n18 n19, ZdM c fs n13 x14 l15 n17 n18 n19)
theorem ZzP (A : Ar) (c : Int) (fs : List AV) : Zac A tab BO9 26 [] (ZMd c fs) [] =
  some (tr [7] [],
   Zin (c) (fs) (0)) := by kernel_rfl
theorem ZAv (A : Ar) (c : Int) (fs : List AV) (n0 : Int) : Zac A tab BO9 34 [true, true] (ZdK c fs n0) (ZcM c fs n0) =
  some (tr [1, 1, 4, 2, 4] [A.inR .i64 (A.add n0 1), A.not (A.eq ((A.nthA fs (A.nat n0)).cellAt 0).toI c), Zab (Zab (A.le 0 n0) (Nat.blt (A.nat n0) (A.lenA fs))) true, A.lt n0 (A.int (A.lenA fs))],
   Zin (c) (fs) (A.add n0 1)) := by kernel_rfl
theorem ZHF (A : Ar) (c : Int) (fs : List AV) (n0 : Int) : Zac A tab BO9 69 [true, false, false] (ZdK c fs n0) (ZcM c fs n0) =
  some (tr [10, 2, 2, 4, 2, 4] [A.inR .i64 (A.add ((A.nthA fs (A.nat n0)).cellAt 1).toI 64), Zab (Zab (A.le 0 n0) (Nat.blt (A.nat n0) (A.lenA fs))) true, !A.not (A.eq ((A.nthA fs (A.nat n0)).cellAt 0).toI c), Zab (Zab (A.le 0 n0) (Nat.blt (A.nat n0) (A.lenA fs))) true, A.lt n0 (A.int (A.lenA fs))],
   Zls (c) (fs) (n0) (A.add ((A.nthA fs (A.nat n0)).cellAt 1).toI 64) (A.add ((A.nthA fs (A.nat n0)).cellAt 1).toI 64) (A.add ((A.nthA fs (A.nat n0)).cellAt 1).toI 64) (A.add ((A.nthA fs (A.nat n0)).cellAt 1).toI 64) (A.add ((A.nthA fs (A.nat n0)).cellAt 1).toI 64)) := by kernel_rfl
theorem ZG4 (A : Ar) (c : Int) (fs : List AV) (n0 : Int) : ZaD A tab BO9 19 [false] 72 (ZdK c fs n0) (ZcM c fs n0) =
  some (tr [5, 4] [!A.lt n0 (A.int (A.lenA fs))],
   AV.tup [AV.nils, AV.nils], none) := by kernel_rfl
theorem ZIx (A : Ar) (c : Int) (fs : List AV) (n0 n1 n2 n3 n4 n5 : Int) : Zac A tab BO9 28 [false, false] (ZiZ c fs n0 n1 n2 n3 n4 n5) (ZhM c fs n0 n1 n2 n3 n4 n5) =
  some (tr [4, 4] [!A.lt 0 (A.int 0)],
   ZnG (c) (fs) (n0) (n2) (n3)) := by kernel_rfl
theorem ZG3 (A : Ar) (c : Int) (fs : List AV) (n0 n2 n3 : Int) : Zac A tab BO9 51 [false, false, false, false, false, false, false, false] (Zkl c fs n0 n2 n3) (ZiS c fs n0 n2 n3) =
  some (tr [1, 3, 0, 3, 0, 1, 17, 5] [A.inR .i64 (A.sub (A.int (A.len [n3])) 1), Zab (Nat.ble (A.len [n3]) 4294967296) (Nat.blt 0 (A.len [n3])), List.all [AV.int .i64 n3] fun x => AV.bx x && Nat.beq (Zae A x) 1, Zab (Nat.ble (A.lenA [AV.agg (Row.gen [.int .i64 ((A.nthA fs (A.nat n0)).cellAt 0).toI, .int .i64 ((A.nthA fs (A.nat n0)).cellAt 1).toI, .int .i64 ((A.nthA fs (A.nat n0)).cellAt 2).toI, .list (.ints .i64 ((A.nthA fs (A.nat n0)).cellAt 3).toIs)])]) 4294967296) (Nat.blt 0 (A.lenA [AV.agg (Row.gen [.int .i64 ((A.nthA fs (A.nat n0)).cellAt 0).toI, .int .i64 ((A.nthA fs (A.nat n0)).cellAt 1).toI, .int .i64 ((A.nthA fs (A.nat n0)).cellAt 2).toI, .list (.ints .i64 ((A.nthA fs (A.nat n0)).cellAt 3).toIs)])])), List.all [AV.agg (Row.gen [.int .i64 ((A.nthA fs (A.nat n0)).cellAt 0).toI, .int .i64 ((A.nthA fs (A.nat n0)).cellAt 1).toI, .int .i64 ((A.nthA fs (A.nat n0)).cellAt 2).toI, .list (.ints .i64 ((A.nthA fs (A.nat n0)).cellAt 3).toIs)])] fun x => AV.bx x && Nat.beq (Zae A x) 4, Zab (Zab (A.le 0 n0) (Nat.blt (A.nat n0) (A.lenA fs))) true, !A.lt 0 (A.int 0)],
   ZeL (c) (fs) (A.sub (A.int (A.len [n3])) 1) ([AV.agg (Row.gen [.int .i64 ((A.nthA fs (A.nat n0)).cellAt 0).toI, .int .i64 ((A.nthA fs (A.nat n0)).cellAt 1).toI, .int .i64 ((A.nthA fs (A.nat n0)).cellAt 2).toI, .list (.ints .i64 ((A.nthA fs (A.nat n0)).cellAt 3).toIs)])]) ([n3]) (n2) (n0) (n3) (0)) := by kernel_rfl
theorem ZJW (A : Ar) (c : Int) (fs : List AV) (n6 : Int) (x7 : List AV) (l8 : List Int) (n9 n10 n11 n12 : Int) : Zac A tab BO9 21 [true] (ZcZ c fs n6 x7 l8 n9 n10 n11 n12) (Zb1 c fs n6 x7 l8 n9 n10 n11 n12) =
  some (tr [1, 1, 0, 0, 0, 0, 0, 0, 2, 0, 0, 6, 3] [A.inR .i64 (A.sub n6 1), Zab (Nat.blt (A.nat n6) (A.len l8)) true, Zab (A.le 0 n6) (Nat.blt (A.nat n6) (A.len l8)), Zab (Nat.blt (A.nat n6) (A.lenA x7)) true, Zab (A.le 0 n6) (Nat.blt (A.nat n6) (A.lenA x7)), Zab (Nat.blt (A.nat (A.sub n6 1)) (A.len l8)) true, Zab (A.le 0 (A.sub n6 1)) (Nat.blt (A.nat (A.sub n6 1)) (A.len l8)), A.inR .i64 (A.sub n6 1), Zab (Nat.blt (A.nat (A.sub n6 1)) (A.lenA x7)) true, Zab (A.le 0 (A.sub n6 1)) (Nat.blt (A.nat (A.sub n6 1)) (A.lenA x7)), A.inR .i64 (A.sub n6 1), A.lt n12 n6],
   ZeL (c) (fs) (A.sub n6 1) (A.setA x7 (A.nat n6) (AV.agg (Row.gen [.int .i64 ((A.nthA x7 (A.nat (A.sub n6 1))).cellAt 0).toI, .int .i64 ((A.nthA x7 (A.nat (A.sub n6 1))).cellAt 1).toI, .int .i64 ((A.nthA x7 (A.nat (A.sub n6 1))).cellAt 2).toI, .list (.ints .i64 ((A.nthA x7 (A.nat (A.sub n6 1))).cellAt 3).toIs)]))) (A.set l8 (A.nat n6) (A.nth l8 (A.nat (A.sub n6 1)))) (n9) (n10) (n11) (n12)) := by kernel_rfl
theorem ZJO (A : Ar) (c : Int) (fs : List AV) (n6 : Int) (x7 : List AV) (l8 : List Int) (n9 n10 n11 n12 : Int) : Zac A tab BO9 33 [false] (ZcZ c fs n6 x7 l8 n9 n10 n11 n12) (Zb1 c fs n6 x7 l8 n9 n10 n11 n12) =
  some (tr [1, 1, 0, 0, 0, 2, 6, 3] [A.inR .i64 (A.add n10 1), Zab (Nat.blt (A.nat n12) (A.len l8)) true, Zab (A.le 0 n12) (Nat.blt (A.nat n12) (A.len l8)), Zab (Nat.blt (A.nat n12) (A.lenA x7)) true, Zab (A.le 0 n12) (Nat.blt (A.nat n12) (A.lenA x7)), Zab (Zab (A.le 0 n10) (Nat.blt (A.nat n10) (A.lenA fs))) true, !A.lt n12 n6],
   ZfZ (c) (fs) (A.add n10 1) (A.setA x7 (A.nat n12) (AV.agg (Row.gen [.int .i64 ((A.nthA fs (A.nat n10)).cellAt 0).toI, .int .i64 ((A.nthA fs (A.nat n10)).cellAt 1).toI, .int .i64 ((A.nthA fs (A.nat n10)).cellAt 2).toI, .list (.ints .i64 ((A.nthA fs (A.nat n10)).cellAt 3).toIs)]))) (A.set l8 (A.nat n12) n11) (n9)) := by kernel_rfl
theorem ZHy (A : Ar) (c : Int) (fs : List AV) (n13 : Int) (x14 : List AV) (l15 : List Int) (n16 : Int) : Zac A tab BO9 34 [true, true] (Zch c fs n13 x14 l15 n16) (ZbJ c fs n13 x14 l15 n16) =
  some (tr [1, 1, 4, 2, 4] [A.inR .i64 (A.add n13 1), A.not (A.eq ((A.nthA fs (A.nat n13)).cellAt 0).toI c), Zab (Zab (A.le 0 n13) (Nat.blt (A.nat n13) (A.lenA fs))) true, A.lt n13 (A.int (A.lenA fs))],
   ZfZ (c) (fs) (A.add n13 1) (x14) (l15) (n16)) := by kernel_rfl
theorem ZJn (A : Ar) (c : Int) (fs : List AV) (n13 : Int) (x14 : List AV) (l15 : List Int) (n16 : Int) : Zac A tab BO9 76 [true, false, true, true] (Zch c fs n13 x14 l15 n16) (ZbJ c fs n13 x14 l15 n16) =
  some (tr [1, 1, 0, 6, 2, 6, 2, 2, 4, 2, 4] [A.inR .i64 (A.add n13 1), ZoI l15 (ZaH n16 ((A.nthA fs (A.nat n13)).cellAt 1).toI), decide (List.length l15 ≤ 1000000), decide (ZqR n16 ((A.nthA fs (A.nat n13)).cellAt 1).toI = true), Zab (Zab (A.le 0 n13) (Nat.blt (A.nat n13) (A.lenA fs))) true, A.inR .i64 (A.add ((A.nthA fs (A.nat n13)).cellAt 1).toI 64), Zab (Zab (A.le 0 n13) (Nat.blt (A.nat n13) (A.lenA fs))) true, !A.not (A.eq ((A.nthA fs (A.nat n13)).cellAt 0).toI c), Zab (Zab (A.le 0 n13) (Nat.blt (A.nat n13) (A.lenA fs))) true, A.lt n13 (A.int (A.lenA fs))],
   ZfZ (c) (fs) (A.add n13 1) (x14) (l15) (ZaH n16 ((A.nthA fs (A.nat n13)).cellAt 1).toI)) := by kernel_rfl
theorem ZFs (A : Ar) (c : Int) (fs : List AV) (n13 : Int) (x14 : List AV) (l15 : List Int) (n16 : Int) : Zac A tab BO9 77 [true, false, true, false] (Zch c fs n13 x14 l15 n16) (ZbJ c fs n13 x14 l15 n16) =
  some (tr [1, 0, 6, 2, 6, 2, 2, 4, 2, 4] [!ZoI l15 (ZaH n16 ((A.nthA fs (A.nat n13)).cellAt 1).toI), decide (List.length l15 ≤ 1000000), decide (ZqR n16 ((A.nthA fs (A.nat n13)).cellAt 1).toI = true), Zab (Zab (A.le 0 n13) (Nat.blt (A.nat n13) (A.lenA fs))) true, A.inR .i64 (A.add ((A.nthA fs (A.nat n13)).cellAt 1).toI 64), Zab (Zab (A.le 0 n13) (Nat.blt (A.nat n13) (A.lenA fs))) true, !A.not (A.eq ((A.nthA fs (A.nat n13)).cellAt 0).toI c), Zab (Zab (A.le 0 n13) (Nat.blt (A.nat n13) (A.lenA fs))) true, A.lt n13 (A.int (A.lenA fs))],
   Zik (c) (fs) (n13) (x14) (l15) (ZaH n16 ((A.nthA fs (A.nat n13)).cellAt 1).toI) (ZaH n16 ((A.nthA fs (A.nat n13)).cellAt 1).toI) (0)) := by kernel_rfl
theorem ZGq (A : Ar) (c : Int) (fs : List AV) (n13 : Int) (x14 : List AV) (l15 : List Int) (n16 : Int) : ZaD A tab BO9 19 [false] 72 (Zch c fs n13 x14 l15 n16) (ZbJ c fs n13 x14 l15 n16) =
  some (tr [5, 4] [!A.lt n13 (A.int (A.lenA fs))],
   AV.tup [AV.list (Row.big (.agg [.int .i64, .int .i64, .int .i64, .ints .i64]) x14), AV.list (.ints .i64 l15)], none) := by kernel_rfl
theorem ZzY (A : Ar) (c : Int) (fs : List AV) (n13 : Int) (x14 : List AV) (l15 : List Int) (n17 n18 n19 : Int) : Zac A tab BO9 29 [true, true, true, true, true, true, true, true] (Zey c fs n13 x14 l15 n17 n18 n19) (ZdM c fs n13 x14 l15 n17 n18 n19) =
  some (tr [1, 1, 6, 1, 4, 5] [A.inR .i64 (A.add n19 1), A.lt (A.nth l15 (A.nat n19)) n18, Zab (Nat.blt (A.nat n19) (A.len l15)) true, Zab (A.le 0 n19) (Nat.blt (A.nat n19) (A.len l15)), A.lt n19 (A.int (A.len l15))],
   Zik (c) (fs) (n13) (x14) (l15) (n17) (n18) (A.add n19 1)) := by kernel_rfl
theorem ZFp (A : Ar) (c : Int) (fs : List AV) (n13 : Int) (x14 : List AV) (l15 : List Int) (n17 n18 n19 : Int) : Zac A tab BO9 51 [true, true, true, true, true, true, true, false] (Zey c fs n13 x14 l15 n17 n18 n19) (ZdM c fs n13 x14 l15 n17 n18 n19) =
  some (tr [1, 3, 0, 3, 0, 1, 3, 6, 1, 4, 5] [A.inR .i64 (A.sub (A.int (A.len (A.app l15 [n18]))) 1), Nat.ble (A.len l15 + A.len [n18]) 4294967296, List.all [AV.int .i64 n18] fun x => AV.bx x && Nat.beq (Zae A x) 1, Nat.ble (A.lenA x14 + A.lenA [AV.agg (Row.gen [.int .i64 ((A.nthA fs (A.nat n13)).cellAt 0).toI, .int .i64 ((A.nthA fs (A.nat n13)).cellAt 1).toI, .int .i64 ((A.nthA fs (A.nat n13)).cellAt 2).toI, .list (.ints .i64 ((A.nthA fs (A.nat n13)).cellAt 3).toIs)])]) 4294967296, List.all [AV.agg (Row.gen [.int .i64 ((A.nthA fs (A.nat n13)).cellAt 0).toI, .int .i64 ((A.nthA fs (A.nat n13)).cellAt 1).toI, .int .i64 ((A.nthA fs (A.nat n13)).cellAt 2).toI, .list (.ints .i64 ((A.nthA fs (A.nat n13)).cellAt 3).toIs)])] fun x => AV.bx x && Nat.beq (Zae A x) 4, Zab (Zab (A.le 0 n13) (Nat.blt (A.nat n13) (A.lenA fs))) true, !A.lt (A.nth l15 (A.nat n19)) n18, Zab (Nat.blt (A.nat n19) (A.len l15)) true, Zab (A.le 0 n19) (Nat.blt (A.nat n19) (A.len l15)), A.lt n19 (A.int (A.len l15))],
   ZeL (c) (fs) (A.sub (A.int (A.len (A.app l15 [n18]))) 1) (A.appA x14 [AV.agg (Row.gen [.int .i64 ((A.nthA fs (A.nat n13)).cellAt 0).toI, .int .i64 ((A.nthA fs (A.nat n13)).cellAt 1).toI, .int .i64 ((A.nthA fs (A.nat n13)).cellAt 2).toI, .list (.ints .i64 ((A.nthA fs (A.nat n13)).cellAt 3).toIs)])]) (A.app l15 [n18]) (n17) (n13) (n18) (n19)) := by kernel_rfl
theorem Zz7 (A : Ar) (c : Int) (fs : List AV) (n13 : Int) (x14 : List AV) (l15 : List Int) (n17 n18 n19 : Int) : Zac A tab BO9 51 [false, false, false, false, false, false, false, false] (Zey c fs n13 x14 l15 n17 n18 n19) (ZdM c fs n13 x14 l15 n17 n18 n19) =
  some (tr [1, 3, 0, 3, 0, 1, 17, 5] [A.inR .i64 (A.sub (A.int (A.len (A.app l15 [n18]))) 1), Nat.ble (A.len l15 + A.len [n18]) 4294967296, List.all [AV.int .i64 n18] fun x => AV.bx x && Nat.beq (Zae A x) 1, Nat.ble (A.lenA x14 + A.lenA [AV.agg (Row.gen [.int .i64 ((A.nthA fs (A.nat n13)).cellAt 0).toI, .int .i64 ((A.nthA fs (A.nat n13)).cellAt 1).toI, .int .i64 ((A.nthA fs (A.nat n13)).cellAt 2).toI, .list (.ints .i64 ((A.nthA fs (A.nat n13)).cellAt 3).toIs)])]) 4294967296, List.all [AV.agg (Row.gen [.int .i64 ((A.nthA fs (A.nat n13)).cellAt 0).toI, .int .i64 ((A.nthA fs (A.nat n13)).cellAt 1).toI, .int .i64 ((A.nthA fs (A.nat n13)).cellAt 2).toI, .list (.ints .i64 ((A.nthA fs (A.nat n13)).cellAt 3).toIs)])] fun x => AV.bx x && Nat.beq (Zae A x) 4, Zab (Zab (A.le 0 n13) (Nat.blt (A.nat n13) (A.lenA fs))) true, !A.lt n19 (A.int (A.len l15))],
   ZeL (c) (fs) (A.sub (A.int (A.len (A.app l15 [n18]))) 1) (A.appA x14 [AV.agg (Row.gen [.int .i64 ((A.nthA fs (A.nat n13)).cellAt 0).toI, .int .i64 ((A.nthA fs (A.nat n13)).cellAt 1).toI, .int .i64 ((A.nthA fs (A.nat n13)).cellAt 2).toI, .list (.ints .i64 ((A.nthA fs (A.nat n13)).cellAt 3).toIs)])]) (A.app l15 [n18]) (n17) (n13) (n18) (n19)) := by kernel_rfl
end Go.Proofs.Ytjhdnpmojhkbjaa
/- Contracts as a list. No condition. -/
namespace Go.Proofs.Ytjhdnpmojhkbjaa
def Zaq (x : AV) : AV := AV.agg (Row.gen [AV.int .i64 (AV.toI (AV.cellAt x 0)), AV.int .i64 (AV.toI (AV.cellAt x 1)), AV.int .i64 (AV.toI (AV.cellAt x 2)), AV.list (.ints .i64 (AV.toIs (AV.cellAt x 3)))])
abbrev ZgT : Sh := .agg [.int .i64, .int .i64, .int .i64, .ints .i64]
def chF (x : AV) : Int := (AV.cellAt x 0).toI
def ctF (x : AV) : Int := (AV.cellAt x 1).toI
def ZfE (n : Int) : List Int → Nat
  | [] => 0
  | c :: l => if c < n then ZfE n l + 1 else 0
theorem Zpr (n : Int) : ∀ l, ZfE n l ≤ l.length
  | [] => Nat.le_refl _
  | c :: l => by
    unfold ZfE
    have := Zpr n l
    split <;> simp <;> omega
theorem Zo3 (n : Int) (l : List Int) (j : Nat) (hj : j < l.length) : ZfE n (l.drop j) = if l[j] < n then ZfE n (l.drop (j + 1)) + 1 else 0 := by
  rw [List.drop_eq_getElem_cons hj, ZfE]
def Zbq {α : Type} (p : Nat) (x : α) (l : List α) : List α := l.take p ++ [x] ++ l.drop p
def Zou (c : Int) : List AV → List AV → List Int → Int → List AV × List Int
  | [], X, K, _ => (X, K)
  | f :: fs, X, K, last => if chF f = c then
      (if ZoI K (ZaH last (ctF f)) = true then Zou c fs X K (ZaH last (ctF f))
       else Zou c fs (Zbq (ZfE (ZaH last (ctF f)) K) (Zaq f) X) (Zbq (ZfE (ZaH last (ctF f)) K) (ZaH last (ctF f)) K) (ZaH last (ctF f)))
    else Zou c fs X K last
def Zd4 (c : Int) : List AV → List AV × List Int
  | [] => ([], [])
  | f :: fs => if chF f = c then Zou c fs [Zaq f] [ctF f + 64] (ctF f + 64) else Zd4 c fs
def ctB (fs : List AV) : Bool := fs.all fun f => decide (0 ≤ ctF f ∧ ctF f ≤ 63)
theorem Zjj (n c : Int) : n - 31 ≤ ZaH n c ∧ ZaH n c ≤ n + 32 := by
  unfold ZaH; rw [ZbQ]; split <;> omega
section
variable {C : Ctx} (hC : C.P = Try.prog) {Q : List AFrame → Zaa → Prop} (c : Int) (fs : List AV)
include hC
theorem Zvv (last i n : Int) (at' : Nat) (X1 : List AV) (K1 : List Int) (hX1 : X1.length = at') (hK1 : K1.length = at')
    : ∀ (d : Nat) (T : List AV) (D : List Int) (w : AV) (e : Int) (S : List AV) (S2 : List Int), T.length = d → D.length = d → at' + d + S.length < 900000 → at' + d + S2.length < 900000 → (∀ x ∈ T, Zaq x = x) →
      (∀ w' e', Ev C (ZcZ c fs at' (X1 ++ [w'] ++ (T ++ S)) (K1 ++ [e'] ++ (D ++ S2)) last i n at') (Zb1 c fs at' (X1 ++ [w'] ++ (T ++ S)) (K1 ++ [e'] ++ (D ++ S2)) last i n at') Q) →
      Ev C (ZcZ c fs ((at' + d : Nat) : Int) (X1 ++ T ++ [w] ++ S) (K1 ++ D ++ [e] ++ S2) last i n at') (Zb1 c fs ((at' + d : Nat) : Int) (X1 ++ T ++ [w] ++ S) (K1 ++ D ++ [e] ++ S2) last i n at') Q := by
  intro d
  induction d with
  | zero =>
    intro T D w e S S2 hT hD _ _ _ hq
    have : T = [] := List.eq_nil_of_length_eq_zero hT
    have : D = [] := List.eq_nil_of_length_eq_zero hD
    subst T; subst D
    have := hq w e
    simpa using this
  | succ d ih =>
    intro T D w e S S2 hT hD hl hl2 hv hq
    rcases List.eq_nil_or_concat T with rfl | ⟨T, u, rfl⟩
    · simp at hT
    rcases List.eq_nil_or_concat D with rfl | ⟨D, v, rfl⟩
    · simp at hD
    rw [List.concat_eq_append] at *
    rw [List.concat_eq_append] at *
    have hu : Zaq u = u := hv u (by simp)
    have hT' : T.length = d := by simpa using hT
    have hD' : D.length = d := by simpa using hD
    have e0 : X1 ++ (T ++ [u]) ++ [w] ++ S = (X1 ++ T) ++ u :: w :: S := by simp
    have e0' : K1 ++ (D ++ [v]) ++ [e] ++ S2 = (K1 ++ D) ++ v :: e :: S2 := by simp
    have hw := ZJW std c fs ((at' + (d + 1) : Nat) : Int) (X1 ++ (T ++ [u]) ++ [w] ++ S) (K1 ++ (D ++ [v]) ++ [e] ++ S2) last i n at'
    rw [e0, e0'] at hw ⊢
    have e1 : ((at' + (d + 1) : Nat) : Int) - 1 = ((at' + d : Nat) : Int) := by omega
    have g1 : ((X1 ++ T) ++ u :: w :: S).getD (at' + d) .top = u := ZdO _ _ _ _ (by simp; omega)
    have g2 : ((K1 ++ D) ++ v :: e :: S2).getD (at' + d) 0 = v := by
      have : at' + d = (K1 ++ D).length := by simp; omega
      rw [this]; simp [List.getD_eq_getElem?_getD]
    have s1 : ((X1 ++ T) ++ u :: w :: S).set (at' + (d + 1)) u = (X1 ++ T) ++ u :: u :: S := by
      rw [List.set_append_right _ _ (by simp; omega)]
      have : at' + (d + 1) - (X1 ++ T).length = 1 := by simp; omega
      rw [this]; rfl
    have s2 : ((K1 ++ D) ++ v :: e :: S2).set (at' + (d + 1)) v = (K1 ++ D) ++ v :: v :: S2 := by
      rw [List.set_append_right _ _ (by simp; omega)]
      have : at' + (d + 1) - (K1 ++ D).length = 1 := by simp; omega
      rw [this]; rfl
    simp only [Zam, Zai, Za0, Zho, ZFA, Zax, e1, g1, g2, Int.toNat_natCast] at hw
    rw [show (AV.agg (Row.gen [AV.int .i64 (AV.toI (AV.cellAt u 0)), AV.int .i64 (AV.toI (AV.cellAt u 1)), AV.int .i64 (AV.toI (AV.cellAt u 2)), AV.list (.ints .i64 (AV.toIs (AV.cellAt u 3)))])) = u from hu, s1, s2] at hw
    have L1 : ((X1 ++ T) ++ u :: w :: S).length = at' + d + 2 + S.length := by simp; omega
    have L2 : ((K1 ++ D) ++ v :: e :: S2).length = at' + d + 2 + S2.length := by simp; omega
    refine go hC ZbT hw (by simp only [ZaJ, ZaP, L1, L2]; simp; omega) ?_
    have := ih T D u v (u :: S) (v :: S2) hT' hD' (by simp; omega) (by simp; omega) (fun x hx => hv x (by simp [hx])) (fun w' e' => by
      have := hq w' e'
      rw [show T ++ [u] ++ S = T ++ u :: S by simp, show D ++ [v] ++ S2 = D ++ v :: S2 by simp] at this
      exact this)
    rw [show X1 ++ T ++ [u] ++ u :: S = (X1 ++ T) ++ u :: u :: S by simp, show K1 ++ D ++ [v] ++ v :: S2 = (K1 ++ D) ++ v :: v :: S2 by simp] at this
    exact this
theorem ZzX (last i n : Int) (hi0 : 0 ≤ i) (hi : i < fs.length) (hfl : fs.length < 900000) (X : List AV) (K : List Int) (p : Nat) (hp : p ≤ X.length) (hXK : X.length = K.length) (hl : X.length < 800000) (hv : ∀ x ∈ X, Zaq x = x)
    (hq : Ev C (Zch c fs (i + 1) (Zbq p (Zaq (fs.getD i.toNat .top)) X) (Zbq p n K) last) (ZbJ c fs (i + 1) (Zbq p (Zaq (fs.getD i.toNat .top)) X) (Zbq p n K) last) Q) :
    Ev C (ZcZ c fs (X.length : Int) (X ++ [Zaq (fs.getD i.toNat .top)]) (K ++ [n]) last i n p) (Zb1 c fs (X.length : Int) (X ++ [Zaq (fs.getD i.toNat .top)]) (K ++ [n]) last i n p) Q := by
  have l1 : (X.take p).length = p := by simp; omega
  have l2 : (K.take p).length = p := by simp; omega
  have l3 : (X.drop p).length = X.length - p := by simp
  have l4 : (K.drop p).length = X.length - p := by simp; omega
  have := Zvv hC (Q := Q) c fs last i n p (X.take p) (K.take p) l1 l2 (X.length - p) (X.drop p) (K.drop p) (Zaq (fs.getD i.toNat .top)) n [] [] l3 l4 (by simp; omega) (by simp; omega) (fun x hx => hv x (List.mem_of_mem_drop hx)) (fun w' e' => by
    have hw := ZJO std c fs (p : Int) (X.take p ++ [w'] ++ (X.drop p ++ [])) (K.take p ++ [e'] ++ (K.drop p ++ [])) last i n p
    have s1 : (X.take p ++ [w'] ++ (X.drop p ++ [])).set p (Zaq (fs.getD i.toNat .top)) = Zbq p (Zaq (fs.getD i.toNat .top)) X := by
      rw [List.append_assoc, List.set_append_right _ _ (by omega), l1, Nat.sub_self]; simp [Zbq]
    have s2 : (K.take p ++ [e'] ++ (K.drop p ++ [])).set p n = Zbq p n K := by
      rw [List.append_assoc, List.set_append_right _ _ (by omega), l2, Nat.sub_self]; simp [Zbq]
    have L1 : (X.take p ++ [w'] ++ (X.drop p ++ [])).length = X.length + 1 := by simp; omega
    have L2 : (K.take p ++ [e'] ++ (K.drop p ++ [])).length = X.length + 1 := by simp; omega
    simp only [Zam, Zai, Zho, ZFA, Int.toNat_natCast] at hw
    rw [show (AV.agg (Row.gen [AV.int .i64 (AV.toI (AV.cellAt (fs.getD i.toNat .top) 0)), AV.int .i64 (AV.toI (AV.cellAt (fs.getD i.toNat .top) 1)), AV.int .i64 (AV.toI (AV.cellAt (fs.getD i.toNat .top) 2)), AV.list (.ints .i64 (AV.toIs (AV.cellAt (fs.getD i.toNat .top) 3)))])) = Zaq (fs.getD i.toNat .top) from rfl, s1, s2] at hw
    exact go hC ZbT hw (by simp only [ZaJ, ZaP, L1, L2]; simp; omega) hq)
  rw [show p + (X.length - p) = X.length by omega, List.take_append_drop, List.take_append_drop] at this
  simpa using this
theorem ZAB (last i n : Int) (hi0 : 0 ≤ i) (hi : i < fs.length) (hfl : fs.length < 900000) (X : List AV) (K : List Int) (hXK : X.length = K.length) (hl : X.length < 800000) (hv : ∀ x ∈ X, Zaq x = x)
    (hq : Ev C (Zch c fs (i + 1) (Zbq (ZfE n K) (Zaq (fs.getD i.toNat .top)) X) (Zbq (ZfE n K) n K) last) (ZbJ c fs (i + 1) (Zbq (ZfE n K) (Zaq (fs.getD i.toNat .top)) X) (Zbq (ZfE n K) n K) last) Q) :
    ∀ (d j : Nat), K.length - j = d → j ≤ K.length → j + ZfE n (K.drop j) = ZfE n K → Ev C (Zey c fs i X K last n j) (ZdM c fs i X K last n j) Q := by
  have hins : ∀ j : Nat, j = ZfE n K → j ≤ K.length → Ev C (ZcZ c fs (X.length : Int) (X ++ [Zaq (fs.getD i.toNat .top)]) (K ++ [n]) last i n j) (Zb1 c fs (X.length : Int) (X ++ [Zaq (fs.getD i.toNat .top)]) (K ++ [n]) last i n j) Q := fun j hj hjl =>
    ZzX hC c fs last i n hi0 hi hfl X K j (by omega) hXK hl hv (by rw [hj]; exact hq)
  have hlen : std.sub (std.int (std.len (std.app K [n]))) 1 = (X.length : Int) := by simp; omega
  intro d
  induction d with
  | zero =>
    intro j hd hj hp
    have hjn : j = ZfE n K := by
      rw [List.drop_of_length_le (by omega)] at hp; exact hp
    have hw := Zz7 std c fs i X K last n j
    rw [hlen] at hw
    refine go hC ZbT hw ?_ (hins j hjn hj)
    simp [AV.bx, Zae, Row.len]
    omega
  | succ d ih =>
    intro j hd hj hp
    have hlt : j < K.length := by omega
    rw [Zo3 n K j hlt] at hp
    have hg : K.getD j 0 = K[j] := by simp [hlt]
    by_cases hc : K[j] < n
    · rw [if_pos hc] at hp
      exact go hC ZbT (ZzY std c fs i X K last n j) (by simp [hlt, hc]; omega) (ih (j + 1) (by omega) (by omega) (by omega))
    · rw [if_neg hc] at hp
      have hw := ZFp std c fs i X K last n j
      rw [hlen] at hw
      refine go hC ZbT hw ?_ (hins j hp hj)
      simp [AV.bx, Zae, Row.len, hlt, hc]
      omega
theorem ZCH (hfl : fs.length < 10000) (hct : ctB fs = true) : ∀ (d i : Nat) (X : List AV) (K : List Int) (last : Int), fs.length - i = d → i ≤ fs.length → X.length = K.length → X.length ≤ i → (∀ x ∈ X, Zaq x = x) → (-32 * (i : Int) ≤ last ∧ last ≤ 200 + 32 * i) →
    Ev C (Zch c fs i X K last) (ZbJ c fs i X K last) (ZfK 72 (.tup [.list (.big ZgT (Zou c (fs.drop i) X K last).1), .list (.ints .i64 (Zou c (fs.drop i) X K last).2)]) none) := by
  intro d
  induction d with
  | zero =>
    intro i X K last hd hi hXK hXi hv hb
    exact fin hC ZbT (ZGq std c fs i X K last) (by simp; omega) (by rw [List.drop_of_length_le (by omega)]; rfl) rfl
  | succ d ih =>
    intro i X K last hd hi hXK hXi hv hb
    have hlt : i < fs.length := by omega
    have hg : fs.getD i .top = fs[i] := by simp [hlt]
    have hcti : 0 ≤ ctF fs[i] ∧ ctF fs[i] ≤ 63 := of_decide_eq_true (List.all_eq_true.mp hct _ (List.getElem_mem hlt))
    have hnr := Zjj last (ctF fs[i])
    rw [List.drop_eq_getElem_cons hlt, Zou]
    by_cases hch : chF fs[i] = c
    · rw [if_pos hch]
      have hnb : ZqR last (ctF fs[i]) = true := decide_eq_true ⟨⟨by omega, by omega⟩, by omega, by omega⟩
      have hch' : AV.toI (AV.cellAt fs[i] 0) = c := hch
      by_cases hh : ZoI K (ZaH last (ctF fs[i])) = true
      · rw [if_pos hh]
        have hw := ZJn std c fs i X K last
        simp only [Zam, Zai, Int.toNat_natCast, hg, hch', show AV.toI (AV.cellAt fs[i] 1) = ctF fs[i] from rfl, hnb, hh] at hw
        refine go hC ZbT hw (by simp [hlt]; omega) ?_
        exact ih (i + 1) X K _ (by omega) (by omega) hXK (by omega) hv (by omega)
      · rw [if_neg hh]
        have hw := ZFs std c fs i X K last
        simp only [Zam, Zai, Int.toNat_natCast, hg, hch', show AV.toI (AV.cellAt fs[i] 1) = ctF fs[i] from rfl, hnb, Bool.not_eq_true _ ▸ hh] at hw
        refine go hC ZbT hw (by simp [hlt]; omega) ?_
        have := ZAB hC (Q := ZfK 72 (.tup [.list (.big ZgT (Zou c (fs.drop (i + 1)) (Zbq (ZfE (ZaH last (ctF fs[i])) K) (Zaq fs[i]) X) (Zbq (ZfE (ZaH last (ctF fs[i])) K) (ZaH last (ctF fs[i])) K) (ZaH last (ctF fs[i]))).1), .list (.ints .i64 (Zou c (fs.drop (i + 1)) (Zbq (ZfE (ZaH last (ctF fs[i])) K) (Zaq fs[i]) X) (Zbq (ZfE (ZaH last (ctF fs[i])) K) (ZaH last (ctF fs[i])) K) (ZaH last (ctF fs[i]))).2)]) none) c fs (ZaH last (ctF fs[i])) i (ZaH last (ctF fs[i])) (by omega) (by omega) (by omega) X K hXK (by omega) hv (by
          rw [Int.toNat_natCast, hg]
          have pl := Zpr (ZaH last (ctF fs[i])) K
          exact ih (i + 1) _ _ _ (by omega) (by omega) (by simp [Zbq]; omega) (by simp [Zbq]; omega) (fun x hx => by
            simp only [Zbq, List.mem_append, List.mem_singleton] at hx
            rcases hx with (hx | hx) | hx
            · exact hv x (List.mem_of_mem_take hx)
            · rw [hx]; rfl
            · exact hv x (List.mem_of_mem_drop hx)) (by omega)) K.length 0 (by omega) (by omega) (by simp)
        exact this
    · rw [if_neg hch]
      have hw := ZHy std c fs i X K last
      simp only [Zam, Zai, Int.toNat_natCast, hg] at hw
      refine go hC ZbT hw ?_ (ih (i + 1) X K last (by omega) (by omega) hXK (by omega) hv (by omega))
      have hch' : ¬ AV.toI (AV.cellAt fs[i] 0) = c := hch
      simp [hlt, hch']
      omega
theorem ZFt (hfl : fs.length < 10000) : ∀ (d i : Nat), fs.length - i = d → i ≤ fs.length → (∀ f ∈ fs.drop i, chF f ≠ c) → Ev C (ZdK c fs i) (ZcM c fs i) (ZfK 72 (.tup [.nils, .nils]) none) := by
  intro d
  induction d with
  | zero =>
    intro i hd hi _
    exact fin hC ZbT (ZG4 std c fs i) (by simp; omega) rfl rfl
  | succ d ih =>
    intro i hd hi hall
    have hlt : i < fs.length := by omega
    have hg : fs.getD i .top = fs[i] := by simp [hlt]
    rw [List.drop_eq_getElem_cons hlt] at hall
    have hch : ¬ AV.toI (AV.cellAt fs[i] 0) = c := hall fs[i] (List.mem_cons_self ..)
    have hw := ZAv std c fs i
    simp only [Zam, Zai, Int.toNat_natCast, hg] at hw
    exact go hC ZbT hw (by simp [hlt, hch]; omega) (ih (i + 1) (by omega) (by omega) fun f hf => hall f (List.mem_cons_of_mem _ hf))
theorem Zvb (hfl : fs.length < 10000) (hct : ctB fs = true) : ∀ (d i : Nat), fs.length - i = d → i ≤ fs.length → (∃ f ∈ fs.drop i, chF f = c) →
    Ev C (ZdK c fs i) (ZcM c fs i) (ZfK 72 (.tup [.list (.big ZgT (Zd4 c (fs.drop i)).1), .list (.ints .i64 (Zd4 c (fs.drop i)).2)]) none) := by
  intro d
  induction d with
  | zero =>
    intro i hd hi h
    rw [List.drop_of_length_le (by omega)] at h
    obtain ⟨f, hf, _⟩ := h
    cases hf
  | succ d ih =>
    intro i hd hi h
    have hlt : i < fs.length := by omega
    have hg : fs.getD i .top = fs[i] := by simp [hlt]
    have hcti : 0 ≤ ctF fs[i] ∧ ctF fs[i] ≤ 63 := of_decide_eq_true (List.all_eq_true.mp hct _ (List.getElem_mem hlt))
    rw [List.drop_eq_getElem_cons hlt] at h ⊢
    rw [Zd4]
    by_cases hch : chF fs[i] = c
    · rw [if_pos hch]
      have hch' : AV.toI (AV.cellAt fs[i] 0) = c := hch
      have hw := ZHF std c fs i
      simp only [Zam, Zai, ZaV, Int.toNat_natCast, hg, hch', show AV.toI (AV.cellAt fs[i] 1) = ctF fs[i] from rfl] at hw
      refine go hC ZbT hw (by simp [hlt]; omega) ?_
      refine go hC ZbT (ZIx std c fs i _ _ _ _ _) (by simp) ?_
      have hw5 := ZG3 std c fs i (ctF fs[i] + 64) (ctF fs[i] + 64)
      simp only [Zam, Zai, Int.toNat_natCast, hg] at hw5
      rw [show (AV.agg (Row.gen [AV.int .i64 (AV.toI (AV.cellAt fs[i] 0)), AV.int .i64 (AV.toI (AV.cellAt fs[i] 1)), AV.int .i64 (AV.toI (AV.cellAt fs[i] 2)), AV.list (.ints .i64 (AV.toIs (AV.cellAt fs[i] 3)))])) = Zaq fs[i] from rfl] at hw5
      refine go hC ZbT hw5 (by simp [AV.bx, Zae, Row.len, Zaq, hlt]) ?_
      have := ZzX hC (Q := ZfK 72 (.tup [.list (.big ZgT (Zou c (fs.drop (i + 1)) [Zaq fs[i]] [ctF fs[i] + 64] (ctF fs[i] + 64)).1), .list (.ints .i64 (Zou c (fs.drop (i + 1)) [Zaq fs[i]] [ctF fs[i] + 64] (ctF fs[i] + 64)).2)]) none) c fs (ctF fs[i] + 64) i (ctF fs[i] + 64) (by omega) (by omega) (by omega) [] [] 0 (by simp) rfl (by simp) (by simp) (by
        rw [Int.toNat_natCast, hg]
        exact ZCH hC c fs hfl hct _ (i + 1) [Zaq fs[i]] [ctF fs[i] + 64] (ctF fs[i] + 64) rfl (by omega) rfl (by simp) (by intro x hx; rw [List.mem_singleton] at hx; rw [hx]; rfl) (by omega))
      rw [Int.toNat_natCast, hg] at this
      exact this
    · rw [if_neg hch]
      have hch' : ¬ AV.toI (AV.cellAt fs[i] 0) = c := hch
      have hw := ZAv std c fs i
      simp only [Zam, Zai, Int.toNat_natCast, hg] at hw
      refine go hC ZbT hw (by simp [hlt, hch']; omega) (ih (i + 1) (by omega) (by omega) ?_)
      obtain ⟨f, hf, h2⟩ := h
      rcases List.mem_cons.mp hf with e | e
      · exact absurd (by rw [← e]; exact h2) hch
      · exact ⟨f, e, h2⟩
end
theorem Zid (c : Int) : ∀ fs : List AV, (∀ f ∈ fs, chF f ≠ c) → Zd4 c fs = ([], [])
  | [], _ => rfl
  | f :: fs, h => by
    rw [Zd4, if_neg (h f (by simp))]
    exact Zid c fs fun g hg => h g (by simp [hg])
theorem ZGH (c : Int) (fs : List AV) (hfl : fs.length < 10000) (hct : ctB fs = true) : ZaI Try.prog 72 [.int .i64 c, .list (.big ZgT fs)] (.tup [.list (.big ZgT (Zd4 c fs).1), .list (.ints .i64 (Zd4 c fs).2)]) none := by
  by_cases h : ∃ f ∈ fs, chF f = c
  · refine start (ZpF c fs) fun C hC => go hC ZbT (ZzP std c fs) (by simp) ?_
    exact Zvb hC c fs hfl hct fs.length 0 (by omega) (by omega) h
  · have hno : ∀ f ∈ fs, chF f ≠ c := fun f hf e => h ⟨f, hf, e⟩
    rw [Zid c fs hno]
    have : ZaI Try.prog 72 [.int .i64 c, .list (.big ZgT fs)] (.tup [.nils, .nils]) none :=
      start (ZpF c fs) fun C hC => go hC ZbT (ZzP std c fs) (by simp) (ZFt hC c fs hfl fs.length 0 (by omega) (by omega) hno)
    exact ZE7 this ⟨.nil _ rfl, .nil _ rfl, trivial⟩
def nmB (fs : List AV) : Bool := decide (fs.length < 10000) && ctB fs
theorem Zzv (c : Int) (fs : List AV) (h : nmB fs = true) : ZaI Try.prog 72 [.int .i64 c, .list (.big ZgT fs)] (.tup [.list (.big ZgT (Zd4 c fs).1), .list (.ints .i64 (Zd4 c fs).2)]) none := by
  unfold nmB at h
  simp only [Bool.and_eq_true, decide_eq_true_eq] at h
  exact ZGH c fs h.1 h.2
def k72 : Ctr := ⟨72, 0, fun _ a => match a with | [.int .i64 c, .list (.big (.agg [.int .i64, .int .i64, .int .i64, .ints .i64]) fs)] => some (decide (nmB fs = true), .tup [.list (.big ZgT (Zd4 c fs).1), .list (.ints .i64 (Zd4 c fs).2)], none) | _ => none⟩
theorem ZF4 : k72.OK Try.prog := fun pa args r fr h => by
  simp only [k72] at h
  split at h
  · simp only [Option.some.injEq, Prod.mk.injEq, decide_eq_true_eq] at h
    obtain ⟨h0, rfl, rfl⟩ := h
    exact Zzv _ _ h0
  · cases h
def BOa : List Ctr := [k72] ++ BO9
theorem Zm2 : Zas Try.prog BOa := ⟨ZF4, ZbT⟩
end Go.Proofs.Ytjhdnpmojhkbjaa
/- The ordered frames: the compacted stable sort is the reference's list. No condition. -/
namespace Go.Proofs.Ytjhdnpmojhkbjaa
def Zi1 (f : AV) (k : Int) : AV := AV.agg (Row.gen [AV.int .i64 (AV.toI (AV.cellAt f 0)), AV.int .i64 (AV.toI (AV.cellAt f 1)), AV.int .i64 (AV.toI (AV.cellAt f 2)), AV.list (.ints .i64 (AV.toIs (AV.cellAt f 3))), AV.int .i64 k])
theorem Ze7 (f : AV) (k : Int) : Zah (Zi1 f k) = k := rfl
theorem Zvf (f : AV) (k : Int) : Zaq (Zi1 f k) = Zaq f := rfl
def Zjq (c : Int) : List AV → Int → List AV
  | [], _ => []
  | f :: fs, last => if chF f = c then Zi1 f (ZaH last (ctF f)) :: Zjq c fs (ZaH last (ctF f)) else Zjq c fs last
def Zcy (c : Int) : List AV → List AV
  | [] => []
  | f :: fs => if chF f = c then Zi1 f (ctF f + 64) :: Zjq c fs (ctF f + 64) else Zcy c fs
def cpA (p : AV) : List AV → List AV
  | [] => []
  | y :: l => if Zah y = Zah p then cpA y l else y :: cpA y l
def cpN : List AV → List AV
  | [] => []
  | x :: l => x :: cpA x l
def StrN (l : List AV) : Prop := l.Pairwise fun x y => Zah x < Zah y
theorem StrN.sort {l : List AV} (h : StrN l) : Za5 l := h.imp fun h => Int.le_of_lt h
theorem ZmJ {k : Int} {l : List AV} (h : ∀ x ∈ l, Zah x ≠ k) : fkN k l = [] := by
  unfold fkN
  rw [List.filter_eq_nil_iff]
  intro x hx
  simpa using h x hx
theorem ZtR : ∀ (l : List AV) (p : AV), Za5 (p :: l) → StrN (p :: cpA p l) ∧ ∀ k, fkN k (cpA p l) = if k = Zah p then [] else (fkN k l).take 1
  | [], p, _ => ⟨by simp [cpA, StrN], fun k => by simp [cpA, fkN]⟩
  | y :: l, p, h => by
    obtain ⟨h1, h2⟩ := List.pairwise_cons.mp h
    obtain ⟨i1, i2⟩ := ZtR l y h2
    have hpy := h1 y (by simp)
    unfold cpA
    by_cases e : Zah y = Zah p
    · rw [if_pos e]
      obtain ⟨j1, j2⟩ := List.pairwise_cons.mp i1
      refine ⟨List.pairwise_cons.mpr ⟨fun z hz => by have := j1 z hz; omega, j2⟩, fun k => ?_⟩
      rw [i2 k, e, ZaC]
      by_cases hk : k = Zah p
      · rw [if_pos hk, if_pos hk]
      · rw [if_neg hk, if_neg hk, if_neg (by omega)]
    · rw [if_neg e]
      refine ⟨List.pairwise_cons.mpr ⟨fun z hz => ?_, i1⟩, fun k => ?_⟩
      · rcases List.mem_cons.mp hz with rfl | hz
        · omega
        · have := (List.pairwise_cons.mp i1).1 z hz; omega
      · rw [ZaC, ZaC, i2 k]
        by_cases hk : k = Zah p
        · rw [if_pos hk, if_neg (by omega)]
          have hn : fkN k (cpA y l) = [] := ZmJ fun z hz => by
            have := (List.pairwise_cons.mp i1).1 z hz; omega
          rw [← i2 k, hn]
        · rw [if_neg hk]
          by_cases hy : Zah y = k
          · rw [if_pos hy, if_pos hy, if_pos hy.symm]; simp
          · rw [if_neg hy, if_neg hy, if_neg (fun h => hy h.symm)]
theorem Zkd {l : List AV} (h : Za5 l) : StrN (cpN l) ∧ ∀ k, fkN k (cpN l) = (fkN k l).take 1 := by
  cases l with
  | nil => exact ⟨List.Pairwise.nil, fun k => by simp [cpN, fkN]⟩
  | cons x l =>
    obtain ⟨i1, i2⟩ := ZtR l x h
    refine ⟨i1, fun k => ?_⟩
    show fkN k (x :: cpA x l) = _
    rw [ZaC, ZaC, i2 k]
    by_cases hk : Zah x = k
    · rw [if_pos hk, if_pos hk, if_pos hk.symm]; simp
    · rw [if_neg hk, if_neg hk, if_neg (fun h => hk h.symm)]
theorem Ztj (x : AV) : ∀ (z : List AV), StrN z → (∀ y ∈ z, Zah y ≠ Zah x) →
    StrN (Zbq (ZfE (Zah x) (z.map Zah)) x z) ∧ (∀ y ∈ Zbq (ZfE (Zah x) (z.map Zah)) x z, y = x ∨ y ∈ z) ∧ ∀ k, fkN k (Zbq (ZfE (Zah x) (z.map Zah)) x z) = fkN k (z ++ [x])
  | [], _, _ => ⟨by simp [Zbq, StrN, ZfE], fun y hy => by simp [Zbq, ZfE] at hy; exact .inl hy, fun k => by simp [Zbq, ZfE]⟩
  | y :: z, h, hne => by
    obtain ⟨h1, h2⟩ := List.pairwise_cons.mp h
    obtain ⟨i1, i2, i3⟩ := Ztj x z h2 fun w hw => hne w (by simp [hw])
    have hyx := hne y (by simp)
    rw [List.map_cons, ZfE]
    by_cases hlt : Zah y < Zah x
    · rw [if_pos hlt]
      have e : Zbq (ZfE (Zah x) (z.map Zah) + 1) x (y :: z) = y :: Zbq (ZfE (Zah x) (z.map Zah)) x z := by simp [Zbq]
      rw [e]
      refine ⟨List.pairwise_cons.mpr ⟨fun w hw => ?_, i1⟩, fun w hw => ?_, fun k => ?_⟩
      · rcases i2 w hw with rfl | hw
        · exact hlt
        · exact h1 w hw
      · rcases List.mem_cons.mp hw with rfl | hw
        · exact .inr (by simp)
        · rcases i2 w hw with hw | hw
          · exact .inl hw
          · exact .inr (by simp [hw])
      · rw [ZaC, i3 k, List.cons_append, ZaC]
    · rw [if_neg hlt]
      have e : Zbq 0 x (y :: z) = x :: y :: z := by simp [Zbq]
      rw [e]
      refine ⟨List.pairwise_cons.mpr ⟨fun w hw => ?_, h⟩, fun w hw => ?_, fun k => ?_⟩
      · rcases List.mem_cons.mp hw with rfl | hw
        · omega
        · have := h1 w hw; omega
      · rcases List.mem_cons.mp hw with rfl | hw
        · exact .inl rfl
        · exact .inr hw
      · rw [ZaC, Zbk]
        by_cases hk : Zah x = k
        · have hn : fkN k (y :: z) = [] := ZmJ fun w hw => by
            have := hne w hw; omega
          rw [if_pos hk, hn, ZaC, if_pos hk]; rfl
        · rw [if_neg hk, ZaC k x, if_neg hk]; simp [fkN]
theorem Zmy (z : List AV) (n : Int) : ZoI (z.map Zah) n = true ↔ ∃ y ∈ z, Zah y = n := by
  unfold ZoI
  simp
theorem Zi8 (c : Int) : ∀ (fs z : List AV) (last : Int), StrN z → ∃ z', Zou c fs (z.map Zaq) (z.map Zah) last = (z'.map Zaq, z'.map Zah) ∧ StrN z' ∧ ∀ k, fkN k z' = (fkN k (z ++ Zjq c fs last)).take 1
  | [], z, last, h => by
    refine ⟨z, rfl, h, fun k => ?_⟩
    rw [Zjq, List.append_nil]
    have := (Zkd h.sort).2 k
    have e : cpN z = z := by
      refine Zjf (Zkd h.sort).1.sort h.sort fun k => ?_
      rw [(Zkd h.sort).2 k]
      cases hf : fkN k z with
      | nil => rfl
      | cons a t =>
        cases ht : t with
        | nil => rfl
        | cons b u =>
          have hp : StrN (fkN k z) := h.filter _
          rw [hf, ht] at hp
          have h1 := (List.pairwise_cons.mp hp).1 b (by simp)
          have ha := (fkN_mem.mp (show a ∈ fkN k z by rw [hf]; simp)).2
          have hb := (fkN_mem.mp (show b ∈ fkN k z by rw [hf, ht]; simp)).2
          omega
    rw [e] at this
    exact this
  | f :: fs, z, last, h => by
    rw [Zou, Zjq]
    by_cases hc : chF f = c
    · rw [if_pos hc, if_pos hc]
      by_cases hh : ZoI (z.map Zah) (ZaH last (ctF f)) = true
      · rw [if_pos hh]
        obtain ⟨z', e1, e2, e3⟩ := Zi8 c fs z (ZaH last (ctF f)) h
        refine ⟨z', e1, e2, fun k => ?_⟩
        rw [e3 k, Zbk, Zbk, ZaC, Ze7]
        by_cases hk : ZaH last (ctF f) = k
        · rw [if_pos hk]
          obtain ⟨y, hy, hyk⟩ := (Zmy z _).mp hh
          have : y ∈ fkN k z := fkN_mem.mpr ⟨hy, by rw [hyk, hk]⟩
          cases hz : fkN k z with
          | nil => rw [hz] at this; cases this
          | cons a t => simp
        · rw [if_neg hk]
      · rw [if_neg hh]
        have hne : ∀ y ∈ z, Zah y ≠ Zah (Zi1 f (ZaH last (ctF f))) := fun y hy e => hh ((Zmy z _).mpr ⟨y, hy, e⟩)
        obtain ⟨i1, _, i3⟩ := Ztj (Zi1 f (ZaH last (ctF f))) z h hne
        rw [Ze7] at i1 i3
        obtain ⟨z', e1, e2, e3⟩ := Zi8 c fs _ (ZaH last (ctF f)) i1
        refine ⟨z', ?_, e2, fun k => ?_⟩
        · rw [← e1]
          congr 1
          · simp [Zbq, List.map_append, List.map_take, List.map_drop, Zvf]
          · simp [Zbq, List.map_append, List.map_take, List.map_drop, Ze7]
        · rw [e3 k, Zbk, i3 k, ← Zbk]; simp
    · rw [if_neg hc, if_neg hc]
      exact Zi8 c fs z last h
theorem Zmw (c : Int) : ∀ fs : List AV, Zd4 c fs = ((cpN (Zau (Zcy c fs))).map Zaq, (cpN (Zau (Zcy c fs))).map Zah)
  | [] => rfl
  | f :: fs => by
    rw [Zd4, Zcy]
    by_cases hc : chF f = c
    · rw [if_pos hc, if_pos hc]
      obtain ⟨z', e1, e2, e3⟩ := Zi8 c fs [Zi1 f (ctF f + 64)] (ctF f + 64) (by simp [StrN])
      have e : z' = cpN (Zau (Zi1 f (ctF f + 64) :: Zjq c fs (ctF f + 64))) := by
        have hs := (Zbp (Zi1 f (ctF f + 64) :: Zjq c fs (ctF f + 64))).1
        refine Zjf e2.sort (Zkd hs).1.sort fun k => ?_
        rw [e3 k, (Zkd hs).2 k, (Zbp _).2 k]; rfl
      rw [← e, ← e1]; rfl
    · rw [if_neg hc, if_neg hc]
      exact Zmw c fs
end Go.Proofs.Ytjhdnpmojhkbjaa
/- Paths of functions, printed by the explorer (Gx). No condition. -/
namespace Go.Proofs.Ytjhdnpmojhkbjaa
set_option maxRecDepth 100000
set_option linter.unusedVariables false
def ZuS (a : Int) (b : Int) : AFrame := { fn := 139, N := 53, env := [(0, AV.nils), (1, AV.int .i64 a), (2, AV.int .i64 b), (3, AV.fn 119 [])], todo := [.code a139.code], defs := [], rnd := none, ret := false, res := [] }
def ZJk (a : Int) (b : Int) : List AFrame := [(ZuS a b)]
theorem Zrw (a : Int) (b : Int) : Zal tab 139 [AV.nils, AV.int .i64 a, AV.int .i64 b, AV.fn 119 []] = some (ZuS a b) := rfl
def Zhi (a b n0 : Int) : List AFrame := [{ fn := 139, N := 53, env := [(0, AV.nils), (1, AV.int .i64 a), (2, AV.int .i64 b), (3, AV.fn 119 []), (8, AV.int .i64 n0)], todo := .code (ACode.gh [] Zpc) :: Zuf, defs := [], rnd := none, ret := false, res := [] }]
def Zgs (a : Int) (b : Int) (n0 : Int) : Zaa := []
abbrev ZjT (a : Int) (b : Int) (n0 : Int) : List AFrame × Zaa := (Zhi a b n0, Zgs a b n0)
theorem ZFV (A : Ar) (a b : Int) : Zac A tab BOa 9 [] (ZJk a b) [] =
  some (tr [1, 1] [A.inR .i64 (A.add a 1)],
   ZjT (a) (b) (A.add a 1)) := by kernel_rfl
theorem Zz4 (A : Ar) (a b n0 : Int) : ZaD A tab BOa 11 [false] 139 (Zhi a b n0) (Zgs a b n0) =
  some (tr [1, 3] [!A.lt n0 b],
   AV.tup [], none) := by kernel_rfl
def Zui : AFrame := { fn := 121, N := 66, env := [(0, AV.nils), (1, AV.fn 122 [])], todo := [.code a121.code], defs := [], rnd := none, ret := false, res := [ARes.tmp 4] }
def ZGX : List AFrame := [Zui]
theorem ZrB : Zal tab 121 [AV.nils, AV.fn 122 []] = some Zui := rfl
theorem ZzW (A : Ar) : ZaD A tab BOa 18 [true] 121 (ZGX ) [] =
  some (tr [3, 4] [A.lt (A.int 0) 2],
   AV.nils, none) := by kernel_rfl
end Go.Proofs.Ytjhdnpmojhkbjaa
/- Contracts as a list. No condition. -/
namespace Go.Proofs.Ytjhdnpmojhkbjaa
theorem ZrY (a b : Int) (h : b ≤ a + 1 ∧ -1000000 ≤ a ∧ a ≤ 1000000) : ZaI Try.prog 139 [.nils, .int .i64 a, .int .i64 b, .fn 119 []] (.tup []) none :=
  start (Zrw a b) fun C hC => go hC Zm2 (ZFV std a b) (by simp; omega) (fin hC Zm2 (Zz4 std a b (a + 1)) (by simp; omega) rfl rfl)
theorem ZlD : ZaI Try.prog 121 [.nils, .fn 122 []] .nils none :=
  start ZrB fun C hC => fin hC Zm2 (ZzW std) (by simp) rfl rfl
def Zxr (a b : Int) : Bool := decide (b ≤ a + 1 ∧ -1000000 ≤ a ∧ a ≤ 1000000)
def k139n : Ctr := ⟨139, 0, fun _ a => match a with | [.nils, .int .i64 a, .int .i64 b, .fn 119 []] => some (decide (Zxr a b = true), .tup [], none) | _ => none⟩
theorem ZrS : k139n.OK Try.prog := fun pa args r fr h => by
  simp only [k139n] at h
  split at h
  · simp only [Option.some.injEq, Prod.mk.injEq, decide_eq_true_eq] at h
    obtain ⟨h0, rfl, rfl⟩ := h
    exact ZrY _ _ (of_decide_eq_true h0)
  · cases h
def k121n : Ctr := ⟨121, 0, fun _ a => match a with | [.nils, .fn 122 []] => some (true, .nils, none) | _ => none⟩
theorem Zsa : k121n.OK Try.prog := fun pa args r fr h => by
  simp only [k121n] at h
  split at h
  · cases h
    exact ZlD
  · cases h
def BOb : List Ctr := [k139n, k121n] ++ BOa
theorem Zm4 : Zas Try.prog BOb := ⟨ZrS, ⟨Zsa, Zm2⟩⟩
end Go.Proofs.Ytjhdnpmojhkbjaa
/- Paths of functions, printed by the explorer (Gx). No condition. -/
namespace Go.Proofs.Ytjhdnpmojhkbjaa
set_option maxRecDepth 100000
set_option linter.unusedVariables false
def Zub (n : Int) : AFrame := { fn := 137, N := 63, env := [(0, AV.nils), (1, AV.int .i64 n), (2, AV.fn 119 [])], todo := [.code a137.code], defs := [], rnd := none, ret := false, res := [] }
def ZHr (n : Int) : List AFrame := [(Zub n)]
theorem Zsh (n : Int) : Zal tab 137 [AV.nils, AV.int .i64 n, AV.fn 119 []] = some (Zub n) := rfl
def ZhZ (n : Int) : List AFrame := [{ fn := 137, N := 63, env := [(0, AV.nils), (1, AV.int .i64 n), (2, AV.fn 119 []), (6, AV.int .i64 20), (7, AV.int .i64 0), (8, AV.int .i64 20)], todo := .code (ACode.gh [] Zq4) :: ZsW, defs := [], rnd := none, ret := false, res := [] }]
def Zgr (n : Int) : Zaa := []
abbrev ZkK (n : Int) : List AFrame × Zaa := (ZhZ n, Zgr n)
def Zh2 (n n0 : Int) : List AFrame := [{ fn := 137, N := 63, env := [(0, AV.nils), (1, AV.int .i64 n), (2, AV.fn 119 []), (6, AV.int .i64 n0)], todo := .code (ACode.gh [] Zps) :: Zs5, defs := [], rnd := none, ret := false, res := [] }]
def Zgw (n : Int) (n0 : Int) : Zaa := []
abbrev Zk0 (n : Int) (n0 : Int) : List AFrame × Zaa := (Zh2 n n0, Zgw n n0)
theorem ZzR (A : Ar) (n : Int) : Zac A tab BOb 14 [] (ZHr n) [] =
  some (tr [4] [],
   ZkK (n)) := by kernel_rfl
theorem ZER (A : Ar) (n : Int) : Zac A tab BOb 21 [false] (ZhZ n) (Zgr n) =
  some (tr [0, 4, 3] [decide (Zxr 0 n = true), !A.le 20 n],
   Zk0 (n) (20)) := by kernel_rfl
theorem ZCC (A : Ar) (n n0 : Int) : ZaD A tab BOb 11 [false] 137 (Zh2 n n0) (Zgw n n0) =
  some (tr [1, 3] [!A.lt n0 n],
   AV.tup [], none) := by kernel_rfl
end Go.Proofs.Ytjhdnpmojhkbjaa
/- Contracts as a list. No condition. -/
namespace Go.Proofs.Ytjhdnpmojhkbjaa
theorem Zoh : ZaI Try.prog 137 [.nils, .int .i64 0, .fn 119 []] (.tup []) none :=
  start (Zsh 0) fun C hC => go hC Zm4 (ZzR std 0) (by simp) (go hC Zm4 (ZER std 0) (by simp [Zxr]) (fin hC Zm4 (ZCC std 0 20) (by simp) rfl rfl))
theorem Zl1 (n : Int) (h : n = 0) : ZaI Try.prog 137 [.nils, .int .i64 n, .fn 119 []] (.tup []) none := by subst h; exact Zoh
def Zu9 (n : Int) : Bool := decide (n = 0)
def k137n : Ctr := ⟨137, 0, fun _ a => match a with | [.nils, .int .i64 n, .fn 119 []] => some (decide (Zu9 n = true), .tup [], none) | _ => none⟩
theorem ZrH : k137n.OK Try.prog := fun pa args r fr h => by
  simp only [k137n] at h
  split at h
  · simp only [Option.some.injEq, Prod.mk.injEq, decide_eq_true_eq] at h
    obtain ⟨h0, rfl, rfl⟩ := h
    exact Zl1 _ (of_decide_eq_true h0)
  · cases h
def BOc : List Ctr := [k137n] ++ BOb
theorem ZtG : Zas Try.prog BOc := ⟨ZrH, Zm4⟩
end Go.Proofs.Ytjhdnpmojhkbjaa
/- Paths of functions, printed by the explorer (Gx). No condition. -/
namespace Go.Proofs.Ytjhdnpmojhkbjaa
set_option maxRecDepth 100000
set_option linter.unusedVariables false
def Zs2 : AFrame := { fn := 118, N := 9, env := [(0, AV.nils), (1, AV.fn 119 [])], todo := [.code a118.code], defs := [], rnd := none, ret := false, res := [] }
def ZIP : List AFrame := [Zs2]
theorem Zrp : Zal tab 118 [AV.nils, AV.fn 119 []] = some Zs2 := rfl
theorem ZC8 (A : Ar) : ZaD A tab BOc 8 [] 118 (ZIP ) [] =
  some (tr [1, 4] [decide (Zu9 (A.int 0) = true)],
   AV.tup [], none) := by kernel_rfl
end Go.Proofs.Ytjhdnpmojhkbjaa
/- Contracts as a list. No condition. -/
namespace Go.Proofs.Ytjhdnpmojhkbjaa
theorem Zov : ZaI Try.prog 118 [.nils, .fn 119 []] (.tup []) none :=
  start Zrp fun C hC => fin hC ZtG (ZC8 std) (by simp [Zu9]) rfl rfl
def k118n : Ctr := ⟨118, 0, fun _ a => match a with | [.nils, .fn 119 []] => some (true, .tup [], none) | _ => none⟩
theorem Zsk : k118n.OK Try.prog := fun pa args r fr h => by
  simp only [k118n] at h
  split at h
  · cases h
    exact Zov
  · cases h
def BOd : List Ctr := [k118n] ++ BOc
theorem Zj2 : Zas Try.prog BOd := ⟨Zsk, ZtG⟩
end Go.Proofs.Ytjhdnpmojhkbjaa
/- Paths of functions, printed by the explorer (Gx). No condition. -/
namespace Go.Proofs.Ytjhdnpmojhkbjaa
set_option maxRecDepth 100000
set_option linter.unusedVariables false
def Zuk (a : Int) (b : Int) (fs : List AV) : AFrame := { fn := 117, N := 21, env := [(0, AV.list (Row.big (Sh.agg [Sh.int .i64, Sh.int .i64, Sh.int .i64, Sh.ints .i64]) fs)), (1, AV.val (Go.Value.func (Go.Fn.func 110) { toList := [Go.Value.agg { toList := [Go.Value.int .i64 a, Go.Value.int .i64 b] }] } { toList := [] }))], todo := [.code a117.code], defs := [], rnd := none, ret := false, res := [ARes.tmp 4] }
def ZJb (a : Int) (b : Int) (fs : List AV) : List AFrame := [(Zuk a b fs)]
theorem ZrM (a : Int) (b : Int) (fs : List AV) : Zal tab 117 [AV.list (Row.big (Sh.agg [Sh.int .i64, Sh.int .i64, Sh.int .i64, Sh.ints .i64]) fs), AV.val (Go.Value.func (Go.Fn.func 110) { toList := [Go.Value.agg { toList := [Go.Value.int .i64 a, Go.Value.int .i64 b] }] } { toList := [] })] = some (Zuk a b fs) := rfl
def ZcU (a b : Int) (fs : List AV) (n0 n1 : Int) : List AFrame := [{ fn := 117, N := 21, env := [(1, AV.val (Go.Value.func (Go.Fn.func 110) { toList := [Go.Value.agg { toList := [Go.Value.int .i64 a, Go.Value.int .i64 b] }] } { toList := [] })), (8, AV.list (Row.big (Sh.agg [Sh.int .i64, Sh.int .i64, Sh.int .i64, Sh.ints .i64]) fs)), (9, AV.int .i64 n0), (10, AV.int .i64 n1)], todo := .code (ACode.gh [] ZtU) :: ZDC, defs := [], rnd := none, ret := false, res := [ARes.tmp 4] }]
def Zcb (a : Int) (b : Int) (fs : List AV) (n0 : Int) (n1 : Int) : Zaa := []
abbrev Zgq (a : Int) (b : Int) (fs : List AV) (n0 : Int) (n1 : Int) : List AFrame × Zaa := (ZcU a b fs n0 n1, Zcb a b fs n0 n1)
theorem Zz1 (A : Ar) (a b : Int) (fs : List AV) : Zac A tab BOd 14 [] (ZJb a b fs) [] =
  some (tr [4] [],
   Zgq (a) (b) (fs) (A.int (A.lenA fs)) (0)) := by kernel_rfl
theorem ZFB (A : Ar) (a b : Int) (fs : List AV) (n0 n1 : Int) : ZaD A tab BOd 36 [true, true] 117 (ZcU a b fs n0 n1) (Zcb a b fs n0 n1) =
  some (tr [3, 3, 5, 0, 1] [A.not (A.eq (Zeo a b ((A.nthA fs (A.nat n1)).cellAt 0).toI ((A.nthA fs (A.nat n1)).cellAt 1).toI ((A.nthA fs (A.nat n1)).cellAt 2).toI ((A.nthA fs (A.nat n1)).cellAt 3).toIs) 0), decide (List.length ((A.nthA fs (A.nat n1)).cellAt 3).toIs ≤ 1000000), Zab (Zab (A.le 0 n1) (Nat.blt (A.nat n1) (A.lenA fs))) true, A.lt n1 n0],
   AV.int .i64 (Zeo a b ((A.nthA fs (A.nat n1)).cellAt 0).toI ((A.nthA fs (A.nat n1)).cellAt 1).toI ((A.nthA fs (A.nat n1)).cellAt 2).toI ((A.nthA fs (A.nat n1)).cellAt 3).toIs), none) := by kernel_rfl
theorem ZzU (A : Ar) (a b : Int) (fs : List AV) (n0 n1 : Int) : Zac A tab BOd 38 [true, false] (ZcU a b fs n0 n1) (Zcb a b fs n0 n1) =
  some (tr [1, 0, 3, 5, 0, 1] [A.inR .i64 (A.add n1 1), !A.not (A.eq (Zeo a b ((A.nthA fs (A.nat n1)).cellAt 0).toI ((A.nthA fs (A.nat n1)).cellAt 1).toI ((A.nthA fs (A.nat n1)).cellAt 2).toI ((A.nthA fs (A.nat n1)).cellAt 3).toIs) 0), decide (List.length ((A.nthA fs (A.nat n1)).cellAt 3).toIs ≤ 1000000), Zab (Zab (A.le 0 n1) (Nat.blt (A.nat n1) (A.lenA fs))) true, A.lt n1 n0],
   Zgq (a) (b) (fs) (n0) (A.add n1 1)) := by kernel_rfl
theorem ZF2 (A : Ar) (a b : Int) (fs : List AV) (n0 n1 : Int) : ZaD A tab BOd 13 [false] 117 (ZcU a b fs n0 n1) (Zcb a b fs n0 n1) =
  some (tr [2, 1] [!A.lt n1 n0],
   AV.int .i64 0, none) := by kernel_rfl
end Go.Proofs.Ytjhdnpmojhkbjaa
/- Contracts as a list. No condition. -/
namespace Go.Proofs.Ytjhdnpmojhkbjaa
def dtF (x : AV) : List Int := (AV.cellAt x 3).toIs
def frW (a b : Int) (x : AV) : Int := Zeo a b (AV.toI (AV.cellAt x 0)) (AV.toI (AV.cellAt x 1)) (AV.toI (AV.cellAt x 2)) (AV.toIs (AV.cellAt x 3))
def Ze3 (a b : Int) : List AV → Int
  | [] => 0
  | f :: fs => if frW a b f = 0 then Ze3 a b fs else frW a b f
def Zbd (fs : List AV) : Bool := decide (fs.length ≤ 1000000) && fs.all fun f => decide ((dtF f).length ≤ 1000000)
theorem ZpO {C : Ctx} (hC : C.P = Try.prog) (a b : Int) (fs : List AV) (hl : fs.length ≤ 1000000) (hd : ∀ f ∈ fs, (dtF f).length ≤ 1000000) : ∀ (d i : Nat), fs.length - i = d → i ≤ fs.length →
    Ev C (ZcU a b fs fs.length i) (Zcb a b fs fs.length i) (ZfK 117 (.int .i64 (Ze3 a b (fs.drop i))) none) := by
  intro d
  induction d with
  | zero =>
    intro i hd' hi
    exact fin hC Zj2 (ZF2 std a b fs fs.length i) (by simp; omega) (by rw [List.drop_of_length_le (by omega)]; rfl) rfl
  | succ d ih =>
    intro i hd' hi
    have hlt : i < fs.length := by omega
    have hg : fs.getD i .top = fs[i] := by simp [hlt]
    have hdd : (AV.toIs (AV.cellAt fs[i] 3)).length ≤ 1000000 := hd fs[i] (List.getElem_mem hlt)
    rw [List.drop_eq_getElem_cons hlt, Ze3]
    by_cases h : frW a b fs[i] = 0
    · rw [if_pos h]
      have h' := h
      unfold frW at h'
      have hw := ZzU std a b fs fs.length i
      simp only [Zam, Zai, Int.toNat_natCast, hg, h'] at hw
      exact go hC Zj2 hw (by simp [hlt, hdd]; omega) (ih (i + 1) (by omega) (by omega))
    · rw [if_neg h]
      have h' := h
      unfold frW at h'
      have hw := ZFB std a b fs fs.length i
      simp only [Zam, Zai, Int.toNat_natCast, hg] at hw
      exact fin hC Zj2 hw (by simp [hlt, hdd, h']) rfl rfl
theorem ZwZ (a b : Int) (fs : List AV) (h : Zbd fs = true) : ZaI Try.prog 117 [.list (.big ZgT fs), AV.val (Value.func (Fn.func 110) { toList := [Value.agg { toList := [Value.int IntKind.i64 a, Value.int IntKind.i64 b] }] } { toList := [] })] (.int .i64 (Ze3 a b fs)) none := by
  unfold Zbd at h
  simp only [Bool.and_eq_true, decide_eq_true_eq, List.all_eq_true] at h
  exact start (ZrM a b fs) fun C hC => go hC Zj2 (Zz1 std a b fs) (by simp) (ZpO hC a b fs h.1 h.2 fs.length 0 (by omega) (by omega))
def k117 : Ctr := ⟨117, 0, fun _ a => match a with | [.list (.big (.agg [.int .i64, .int .i64, .int .i64, .ints .i64]) fs), AV.val (Value.func (Fn.func 110) { toList := [Value.agg { toList := [Value.int IntKind.i64 a, Value.int IntKind.i64 b] }] } { toList := [] })] => some (decide (Zbd fs = true), .int .i64 (Ze3 a b fs), none) | _ => none⟩
theorem ZwT : k117.OK Try.prog := fun pa args r fr h => by
  simp only [k117] at h
  split at h
  · simp only [Option.some.injEq, Prod.mk.injEq, decide_eq_true_eq] at h
    obtain ⟨h0, rfl, rfl⟩ := h
    exact ZwZ _ _ _ h0
  · cases h
def BOe : List Ctr := [k117] ++ BOd
theorem ZsZ : Zas Try.prog BOe := ⟨ZwT, Zj2⟩
end Go.Proofs.Ytjhdnpmojhkbjaa
/- Paths of functions, printed by the explorer (Gx). No condition. -/
namespace Go.Proofs.Ytjhdnpmojhkbjaa
set_option maxRecDepth 100000
set_option linter.unusedVariables false
def ZA8 (a : Int) (b : Int) (c : Int) (fs : List AV) : AFrame := { fn := 78, N := 28, env := [(0, AV.agg (Row.gen [AV.int .i64 a, AV.int .i64 b])), (1, AV.int .i64 c), (2, AV.list (Row.big (Sh.agg [Sh.int .i64, Sh.int .i64, Sh.int .i64, Sh.ints .i64]) fs))], todo := [.code a78.code], defs := [], rnd := none, ret := false, res := [ARes.cell 6 true 2, ARes.tmp 7] }
def ZK4 (a : Int) (b : Int) (c : Int) (fs : List AV) : List AFrame := [(ZA8 a b c fs)]
theorem ZvH (a : Int) (b : Int) (c : Int) (fs : List AV) : Zal tab 78 [AV.agg (Row.gen [AV.int .i64 a, AV.int .i64 b]), AV.int .i64 c, AV.list (Row.big (Sh.agg [Sh.int .i64, Sh.int .i64, Sh.int .i64, Sh.ints .i64]) fs)] = some (ZA8 a b c fs) := rfl
theorem ZHB (A : Ar) (a b c : Int) (fs : List AV) : ZaD A tab BOe 55 [] 78 (ZK4 a b c fs) [] =
  some (tr [3, 0, 0, 18, 0, 30] [decide (List.length [Zbb [ZaK a b, Zcv b c], Zaz (A.le (A.int (A.lenA fs)) 40) 8, Ze3 a b fs] ≤ 1000000), List.all [AV.int .i64 (Zbb [ZaK a b, Zcv b c]), AV.int .i64 (Zaz (A.le (A.int (A.lenA fs)) 40) 8), AV.int .i64 (Ze3 a b fs)] fun x => AV.bx x && Nat.beq (Zae A x) 1, decide (Zbd fs = true), decide (List.length [ZaK a b, Zcv b c] ≤ 1000000), List.all [AV.int .i64 (ZaK a b), AV.int .i64 (Zcv b c)] fun x => AV.bx x && Nat.beq (Zae A x) 1],
   AV.tup [AV.agg (Row.gen [.int .i64 a, .int .i64 b]), AV.int .i64 (Zbb [Zbb [ZaK a b, Zcv b c], Zaz (A.le (A.int (A.lenA fs)) 40) 8, Ze3 a b fs])], none) := by kernel_rfl
end Go.Proofs.Ytjhdnpmojhkbjaa
/- Contracts as a list. No condition. -/
namespace Go.Proofs.Ytjhdnpmojhkbjaa
def ZbO (a b c : Int) (fs : List AV) : Int := Zbb [Zbb [ZaK a b, Zcv b c], Zaz (decide ((fs.length : Int) ≤ 40)) 8, Ze3 a b fs]
theorem ZDS (a b c : Int) (fs : List AV) (h : Zbd fs = true) : ZaI Try.prog 78 [.agg (.gen [.int .i64 a, .int .i64 b]), .int .i64 c, .list (.big ZgT fs)] (.tup [.agg (.gen [.int .i64 a, .int .i64 b]), .int .i64 (ZbO a b c fs)]) none :=
  start (ZvH a b c fs) fun C hC => fin hC ZsZ (ZHB std a b c fs) (by simp [h, AV.bx, Zae]) (by simp [ZbO]) rfl
def k78 : Ctr := ⟨78, 0, fun _ a => match a with | [.agg (.gen [.int .i64 a, .int .i64 b]), .int .i64 c, .list (.big (.agg [.int .i64, .int .i64, .int .i64, .ints .i64]) fs)] => some (decide (Zbd fs = true), .tup [.agg (.gen [.int .i64 a, .int .i64 b]), .int .i64 (ZbO a b c fs)], none) | _ => none⟩
theorem ZCi : k78.OK Try.prog := fun pa args r fr h => by
  simp only [k78] at h
  split at h
  · simp only [Option.some.injEq, Prod.mk.injEq, decide_eq_true_eq] at h
    obtain ⟨h0, rfl, rfl⟩ := h
    exact ZDS _ _ _ _ h0
  · cases h
def BOf : List Ctr := [k78] ++ BOe
theorem ZiJ : Zas Try.prog BOf := ⟨ZCi, ZsZ⟩
end Go.Proofs.Ytjhdnpmojhkbjaa
/- Paths of functions, printed by the explorer (Gx). No condition. -/
namespace Go.Proofs.Ytjhdnpmojhkbjaa
set_option maxRecDepth 100000
set_option linter.unusedVariables false
def ZBT (a : Int) (b : Int) (fs : List AV) : AFrame := { fn := 20, N := 25, env := [(0, AV.agg (Row.gen [AV.int .i64 a, AV.int .i64 b])), (1, AV.list (Row.big (Sh.agg [Sh.int .i64, Sh.int .i64, Sh.int .i64, Sh.ints .i64]) fs))], todo := [.code a20.code], defs := [], rnd := none, ret := false, res := [ARes.tmp 4] }
def ZKx (a : Int) (b : Int) (fs : List AV) : List AFrame := [(ZBT a b fs)]
theorem ZwW (a : Int) (b : Int) (fs : List AV) : Zal tab 20 [AV.agg (Row.gen [AV.int .i64 a, AV.int .i64 b]), AV.list (Row.big (Sh.agg [Sh.int .i64, Sh.int .i64, Sh.int .i64, Sh.ints .i64]) fs)] = some (ZBT a b fs) := rfl
def Zd5 (a b : Int) (fs : List AV) (n0 : Int) : List AFrame := [{ fn := 20, N := 25, env := [(1, AV.list (Row.big (Sh.agg [Sh.int .i64, Sh.int .i64, Sh.int .i64, Sh.ints .i64]) fs)), (2, AV.ptr 20003 0 0 0), (5, AV.int .i64 n0)], todo := .code (ACode.gh [] ZEb) :: ZIZ, defs := [], rnd := none, ret := false, res := [ARes.tmp 4] }]
def ZdI (a : Int) (b : Int) (fs : List AV) (n0 : Int) : Zaa := [(20003, { base := 0, blks := [Blk.row 23 2 (Row.gen [AV.agg (Row.gen [AV.int .i64 a, AV.int .i64 b])])] })]
abbrev Zi4 (a : Int) (b : Int) (fs : List AV) (n0 : Int) : List AFrame × Zaa := (Zd5 a b fs n0, ZdI a b fs n0)
theorem ZGO (A : Ar) (a b : Int) (fs : List AV) : ZaD A tab BOf 18 [true] 20 (ZKx a b fs) [] =
  some (tr [2, 5] [A.lt 40 (A.int (A.lenA fs))],
   AV.int .i64 8, none) := by kernel_rfl
theorem ZIX (A : Ar) (a b : Int) (fs : List AV) : Zac A tab BOf 22 [false] (ZKx a b fs) [] =
  some (tr [1, 5] [!A.lt 40 (A.int (A.lenA fs))],
   Zi4 (a) (b) (fs) (0)) := by kernel_rfl
theorem ZJj (A : Ar) (a b : Int) (fs : List AV) (n0 : Int) : ZaD A tab BOf 28 [true, true] 20 (Zd5 a b fs n0) (ZdI a b fs n0) =
  some (tr [3, 3, 1, 3, 4] [A.not (A.eq (Zd6 a b ((A.nthA fs (A.nat n0)).cellAt 0).toI ((A.nthA fs (A.nat n0)).cellAt 1).toI ((A.nthA fs (A.nat n0)).cellAt 2).toI ((A.nthA fs (A.nat n0)).cellAt 3).toIs) 0), decide ((-1000000 ≤ a ∧ a ≤ 1000000) ∧ -1000000 ≤ b ∧ b ≤ 1000000), Zab (Zab (A.le 0 n0) (Nat.blt (A.nat n0) (A.lenA fs))) true, A.lt n0 (A.int (A.lenA fs))],
   AV.int .i64 (Zd6 a b ((A.nthA fs (A.nat n0)).cellAt 0).toI ((A.nthA fs (A.nat n0)).cellAt 1).toI ((A.nthA fs (A.nat n0)).cellAt 2).toI ((A.nthA fs (A.nat n0)).cellAt 3).toIs), none) := by kernel_rfl
theorem ZHC (A : Ar) (a b : Int) (fs : List AV) (n0 : Int) : Zac A tab BOf 31 [true, false] (Zd5 a b fs n0) (ZdI a b fs n0) =
  some (tr [1, 1, 3, 1, 3, 4] [A.inR .i64 (A.add n0 1), !A.not (A.eq (Zd6 a b ((A.nthA fs (A.nat n0)).cellAt 0).toI ((A.nthA fs (A.nat n0)).cellAt 1).toI ((A.nthA fs (A.nat n0)).cellAt 2).toI ((A.nthA fs (A.nat n0)).cellAt 3).toIs) 0), decide ((-1000000 ≤ a ∧ a ≤ 1000000) ∧ -1000000 ≤ b ∧ b ≤ 1000000), Zab (Zab (A.le 0 n0) (Nat.blt (A.nat n0) (A.lenA fs))) true, A.lt n0 (A.int (A.lenA fs))],
   Zi4 (a) (b) (fs) (A.add n0 1)) := by kernel_rfl
theorem ZG1 (A : Ar) (a b : Int) (fs : List AV) (n0 : Int) : ZaD A tab BOf 16 [false] 20 (Zd5 a b fs n0) (ZdI a b fs n0) =
  some (tr [2, 4] [!A.lt n0 (A.int (A.lenA fs))],
   AV.int .i64 0, none) := by kernel_rfl
end Go.Proofs.Ytjhdnpmojhkbjaa
/- Contracts as a list. No condition. -/
namespace Go.Proofs.Ytjhdnpmojhkbjaa
def frE (a b : Int) (x : AV) : Int := Zd6 a b (AV.toI (AV.cellAt x 0)) (AV.toI (AV.cellAt x 1)) (AV.toI (AV.cellAt x 2)) (AV.toIs (AV.cellAt x 3))
def ZlA (a b : Int) : List AV → Int
  | [] => 0
  | f :: fs => if frE a b f = 0 then ZlA a b fs else frE a b f
def ZHK (a b : Int) : Bool := decide ((-1000000 ≤ a ∧ a ≤ 1000000) ∧ -1000000 ≤ b ∧ b ≤ 1000000)
theorem Zsu {C : Ctx} (hC : C.P = Try.prog) (a b : Int) (fs : List AV) (hl : fs.length ≤ 1000000) (hr : (-1000000 ≤ a ∧ a ≤ 1000000) ∧ -1000000 ≤ b ∧ b ≤ 1000000) : ∀ (d i : Nat), fs.length - i = d → i ≤ fs.length →
    Ev C (Zd5 a b fs i) (ZdI a b fs i) (ZfK 20 (.int .i64 (ZlA a b (fs.drop i))) none) := by
  intro d
  induction d with
  | zero =>
    intro i hd' hi
    exact fin hC ZiJ (ZG1 std a b fs i) (by simp; omega) (by rw [List.drop_of_length_le (by omega)]; rfl) rfl
  | succ d ih =>
    intro i hd' hi
    have hlt : i < fs.length := by omega
    have hg : fs.getD i .top = fs[i] := by simp [hlt]
    rw [List.drop_eq_getElem_cons hlt, ZlA]
    by_cases h : frE a b fs[i] = 0
    · rw [if_pos h]
      have h' := h
      unfold frE at h'
      have hw := ZHC std a b fs i
      simp only [Zam, Zai, Int.toNat_natCast, hg, h'] at hw
      exact go hC ZiJ hw (by simp [hlt, hr]; omega) (ih (i + 1) (by omega) (by omega))
    · rw [if_neg h]
      have h' := h
      unfold frE at h'
      have hw := ZJj std a b fs i
      simp only [Zam, Zai, Int.toNat_natCast, hg] at hw
      exact fin hC ZiJ hw (by simp [hlt, hr, h']) rfl rfl
def Zrb (a b : Int) (fs : List AV) : Int := if 40 < fs.length then 8 else ZlA a b fs
theorem ZsP (a b : Int) (fs : List AV) (hl : fs.length ≤ 1000000) (hr : ZHK a b = true) : ZaI Try.prog 20 [.agg (.gen [.int .i64 a, .int .i64 b]), .list (.big ZgT fs)] (.int .i64 (Zrb a b fs)) none :=
  start (ZwW a b fs) fun C hC => by
    have hr := of_decide_eq_true hr
    unfold Zrb
    by_cases h : 40 < fs.length
    · rw [if_pos h]
      exact fin hC ZiJ (ZGO std a b fs) (by simp; omega) rfl rfl
    · rw [if_neg h]
      exact go hC ZiJ (ZIX std a b fs) (by simp; omega) (Zsu hC a b fs hl hr fs.length 0 (by omega) (by omega))
def Zwb (a b : Int) (fs : List AV) : Bool := decide (fs.length ≤ 1000000) && ZHK a b
theorem ZoR (a b : Int) (fs : List AV) (h : Zwb a b fs = true) : ZaI Try.prog 20 [.agg (.gen [.int .i64 a, .int .i64 b]), .list (.big ZgT fs)] (.int .i64 (Zrb a b fs)) none := by
  unfold Zwb at h
  simp only [Bool.and_eq_true, decide_eq_true_eq] at h
  exact ZsP a b fs h.1 h.2
def k20 : Ctr := ⟨20, 0, fun _ a => match a with | [.agg (.gen [.int .i64 a, .int .i64 b]), .list (.big (.agg [.int .i64, .int .i64, .int .i64, .ints .i64]) fs)] => some (decide (Zwb a b fs = true), .int .i64 (Zrb a b fs), none) | _ => none⟩
theorem ZA4 : k20.OK Try.prog := fun pa args r fr h => by
  simp only [k20] at h
  split at h
  · simp only [Option.some.injEq, Prod.mk.injEq, decide_eq_true_eq] at h
    obtain ⟨h0, rfl, rfl⟩ := h
    exact ZoR _ _ _ h0
  · cases h
def BOg : List Ctr := [k20] ++ BOf
theorem ZzT : Zas Try.prog BOg := ⟨ZA4, ZiJ⟩
end Go.Proofs.Ytjhdnpmojhkbjaa
/- Contracts as a list. No condition. -/
namespace Go.Proofs.Ytjhdnpmojhkbjaa
def BOh : List Ctr := BOg
theorem ZCE : Zas Try.prog BOh := ZzT
end Go.Proofs.Ytjhdnpmojhkbjaa
/- The contracts of both lines together. No condition. -/
namespace Go.Proofs.Ytjhdnpmojhkbjaa
def BOi : List Ctr := BOh
theorem ZDi : Zas Try.prog BOi := ZCE
end Go.Proofs.Ytjhdnpmojhkbjaa
/- Contracts as a list. No condition. -/
namespace Go.Proofs.Ytjhdnpmojhkbjaa
def BOj : List Ctr := BOi
theorem ZdZ : Zas Try.prog BOj := ZDi
end Go.Proofs.Ytjhdnpmojhkbjaa
/- Paths of functions, printed by the explorer (Gx). No condition. -/
namespace Go.Proofs.Ytjhdnpmojhkbjaa
set_option maxRecDepth 100000
set_option linter.unusedVariables false
def ZtV (xs : List AV) : AFrame := { fn := 121, N := 66, env := [(0, AV.row 0 0), (1, AV.fn 122 [])], todo := [.code a121.code], defs := [], rnd := none, ret := false, res := [ARes.tmp 4] }
def Zrl (xs : List AV) : List AFrame := [(ZtV xs)]
theorem Zmo (xs : List AV) : Zal tab 121 [AV.row 0 0, AV.fn 122 []] = some (ZtV xs) := rfl
def ZmX (xs : List AV) : Zaa := [(0, { base := 0, blks := [Blk.row 140 5 (Row.big (Sh.agg [Sh.int .i64, Sh.int .i64, Sh.int .i64, Sh.ints .i64, Sh.int .i64]) xs)] })]
def ZbW (xs : List AV) (n0 : Int) : List AFrame := [{ fn := 121, N := 66, env := [(0, AV.row 0 0), (1, AV.fn 122 []), (5, AV.int .i64 n0)], todo := .code (ACode.gh [] ZtD) :: ZFR, defs := [], rnd := none, ret := false, res := [ARes.tmp 4] }]
def ZbL (xs : List AV) (n0 : Int) : Zaa := [(0, { base := 0, blks := [Blk.row 140 5 (Row.big (Sh.agg [Sh.int .i64, Sh.int .i64, Sh.int .i64, Sh.ints .i64, Sh.int .i64]) xs)] })]
abbrev ZgF (xs : List AV) (n0 : Int) : List AFrame × Zaa := (ZbW xs n0, ZbL xs n0)
def Zc6 (j1 j2 : Nat) (n3 n4 : Int) (x5 : List AV) : List AFrame := [{ fn := 121, N := 66, env := [(0, AV.row 0 0), (1, AV.fn 122 []), (5, AV.int .i64 n3), (6, AV.slc 0 0 j1 j2 none), (7, AV.int .i64 n4)], todo := .code (ACode.gh [] Zuv) :: ZDg, defs := [], rnd := none, ret := false, res := [ARes.tmp 4] }]
def Zco (j1 : Nat) (j2 : Nat) (n3 : Int) (n4 : Int) (x5 : List AV) : Zaa := [(0, { base := 0, blks := [Blk.row 140 5 (Row.big (Sh.agg [Sh.int .i64, Sh.int .i64, Sh.int .i64, Sh.ints .i64, Sh.int .i64]) x5)] })]
abbrev Zex (j1 : Nat) (j2 : Nat) (n3 : Int) (n4 : Int) (x5 : List AV) : List AFrame × Zaa := (Zc6 j1 j2 n3 n4 x5, Zco j1 j2 n3 n4 x5)
theorem Zty (A : Ar) (xs : List AV) : Za2 A tab BOj 18 [true] 121 (Zrl xs) (ZmX xs) =
  some (tr [3, 4] [A.lt (A.int (A.lenA xs)) 2],
   AV.row 0 0, 140, 5, Row.big (.agg [.int .i64, .int .i64, .int .i64, .ints .i64, .int .i64]) xs) := by kernel_rfl
theorem ZuF (A : Ar) (xs : List AV) : Zac A tab BOj 21 [false] (Zrl xs) (ZmX xs) =
  some (tr [1, 4] [!A.lt (A.int (A.lenA xs)) 2],
   ZgF (xs) (1)) := by kernel_rfl
theorem ZBa (A : Ar) (xs : List AV) (n0 : Int) : Zac A tab BOj 32 [true, true] (ZbW xs n0) (ZbL xs n0) =
  some (tr [2, 2, 1, 0, 0, 2, 0, 3, 4] [Zab (Zab (A.le 0 n0) true) (Zab (Zab (Nat.ble (A.nat n0) (A.lenA xs)) (Nat.ble (A.lenA xs) (A.lenA xs))) true), Zf4 ((A.nthA xs (A.nat n0)).cellAt 4).toI ((A.nthA xs (A.nat (A.sub n0 1))).cellAt 4).toI, Zab (Nat.blt (A.nat (A.sub n0 1)) (A.lenA xs)) true, Zab (A.le 0 (A.sub n0 1)) (Nat.blt (A.nat (A.sub n0 1)) (A.lenA xs)), A.inR .i64 (A.sub n0 1), Zab (Nat.blt (A.nat n0) (A.lenA xs)) true, Zab (A.le 0 n0) (Nat.blt (A.nat n0) (A.lenA xs)), A.lt n0 (A.int (A.lenA xs))],
   Zex (A.nat n0) (A.lenA xs - A.nat n0) (n0) (1) (xs)) := by kernel_rfl
theorem Zti (A : Ar) (xs : List AV) (n0 : Int) : Zac A tab BOj 26 [true, false] (ZbW xs n0) (ZbL xs n0) =
  some (tr [1, 1, 1, 0, 0, 2, 0, 3, 4] [A.inR .i64 (A.add n0 1), !Zf4 ((A.nthA xs (A.nat n0)).cellAt 4).toI ((A.nthA xs (A.nat (A.sub n0 1))).cellAt 4).toI, Zab (Nat.blt (A.nat (A.sub n0 1)) (A.lenA xs)) true, Zab (A.le 0 (A.sub n0 1)) (Nat.blt (A.nat (A.sub n0 1)) (A.lenA xs)), A.inR .i64 (A.sub n0 1), Zab (Nat.blt (A.nat n0) (A.lenA xs)) true, Zab (A.le 0 n0) (Nat.blt (A.nat n0) (A.lenA xs)), A.lt n0 (A.int (A.lenA xs))],
   ZgF (xs) (A.add n0 1)) := by kernel_rfl
theorem ZAE (A : Ar) (xs : List AV) (n0 : Int) : Za2 A tab BOj 17 [false] 121 (ZbW xs n0) (ZbL xs n0) =
  some (tr [3, 4] [!A.lt n0 (A.int (A.lenA xs))],
   AV.row 0 0, 140, 5, Row.big (.agg [.int .i64, .int .i64, .int .i64, .ints .i64, .int .i64]) xs) := by kernel_rfl
theorem ZD2 (A : Ar) (j1 j2 : Nat) (n3 n4 : Int) (x5 : List AV) : Zac A tab BOj 42 [true, true] (Zc6 j1 j2 n3 n4 x5) (Zco j1 j2 n3 n4 x5) =
  some (tr [1, 2, 1, 0, 0, 0, 4, 2, 0, 0, 2, 0, 3, 1, 2] [A.inR .i64 (A.add n4 1), A.inR .i64 (A.add n3 1), Zab (Nat.blt (A.nat n3) (A.lenA x5)) true, Zab (A.le 0 n3) (Nat.blt (A.nat n3) (A.lenA x5)), Zab (Nat.blt (j1 + A.nat n4) (A.lenA x5)) true, Zab (A.le 0 n4) (Nat.blt (A.nat n4) j2), A.not (Zf4 ((A.nthA x5 (j1 + A.nat n4)).cellAt 4).toI ((A.nthA x5 (j1 + A.nat (A.sub n4 1))).cellAt 4).toI), Zab (Nat.blt (j1 + A.nat (A.sub n4 1)) (A.lenA x5)) true, Zab (A.le 0 (A.sub n4 1)) (Nat.blt (A.nat (A.sub n4 1)) j2), A.inR .i64 (A.sub n4 1), Zab (Nat.blt (j1 + A.nat n4) (A.lenA x5)) true, Zab (A.le 0 n4) (Nat.blt (A.nat n4) j2), A.lt n4 (A.int (A.lenA (A.subA x5 j1 j2))), Nat.ble (j1 + j2) (A.lenA x5)],
   Zex (j1) (j2) (A.add n3 1) (A.add n4 1) (A.setA x5 (A.nat n3) (AV.agg (Row.gen [.int .i64 ((A.nthA x5 (j1 + A.nat n4)).cellAt 0).toI, .int .i64 ((A.nthA x5 (j1 + A.nat n4)).cellAt 1).toI, .int .i64 ((A.nthA x5 (j1 + A.nat n4)).cellAt 2).toI, .list (.ints .i64 ((A.nthA x5 (j1 + A.nat n4)).cellAt 3).toIs), .int .i64 ((A.nthA x5 (j1 + A.nat n4)).cellAt 4).toI])))) := by kernel_rfl
theorem ZFw (A : Ar) (j1 j2 : Nat) (n3 n4 : Int) (x5 : List AV) : Zac A tab BOj 26 [true, false] (Zc6 j1 j2 n3 n4 x5) (Zco j1 j2 n3 n4 x5) =
  some (tr [1, 1, 2, 0, 0, 2, 0, 3, 1, 2] [A.inR .i64 (A.add n4 1), !A.not (Zf4 ((A.nthA x5 (j1 + A.nat n4)).cellAt 4).toI ((A.nthA x5 (j1 + A.nat (A.sub n4 1))).cellAt 4).toI), Zab (Nat.blt (j1 + A.nat (A.sub n4 1)) (A.lenA x5)) true, Zab (A.le 0 (A.sub n4 1)) (Nat.blt (A.nat (A.sub n4 1)) j2), A.inR .i64 (A.sub n4 1), Zab (Nat.blt (j1 + A.nat n4) (A.lenA x5)) true, Zab (A.le 0 n4) (Nat.blt (A.nat n4) j2), A.lt n4 (A.int (A.lenA (A.subA x5 j1 j2))), Nat.ble (j1 + j2) (A.lenA x5)],
   Zex (j1) (j2) (n3) (A.add n4 1) (x5)) := by kernel_rfl
theorem ZEO (A : Ar) (j1 j2 : Nat) (n3 n4 : Int) (x5 : List AV) : Za2 A tab BOj 26 [false] 121 (Zc6 j1 j2 n3 n4 x5) (Zco j1 j2 n3 n4 x5) =
  some (tr [2, 2, 0, 2, 1, 2] [Zab (A.le 0 n3) (Zab (Zab (Nat.ble 0 (A.nat n3)) (Nat.ble (A.nat n3) (A.lenA (A.appA (A.appA (A.subA x5 0 (A.nat n3)) (A.repA (A.lenA x5 - A.nat n3) (AV.agg (Row.gen [.int .i64 0, .int .i64 0, .int .i64 0, .list (.ints .i64 []), .int .i64 0])))) (A.subA x5 (A.nat n3 + A.lenA (A.repA (A.lenA x5 - A.nat n3) (AV.agg (Row.gen [.int .i64 0, .int .i64 0, .int .i64 0, .list (.ints .i64 []), .int .i64 0])))) (A.lenA x5)))))) true), Nat.ble (A.nat n3 + (A.lenA x5 - A.nat n3)) (A.lenA x5), Zab (Zab (A.le 0 n3) true) (Zab (Zab (Nat.ble (A.nat n3) (A.lenA x5)) (Nat.ble (A.lenA x5) (A.lenA x5))) true), !A.lt n4 (A.int (A.lenA (A.subA x5 j1 j2))), Nat.ble (j1 + j2) (A.lenA x5)],
   AV.slc 0 0 0 (A.nat n3 - 0) none, 140, 5, Row.big (.agg [.int .i64, .int .i64, .int .i64, .ints .i64, .int .i64]) (A.appA (A.appA (A.subA x5 0 (A.nat n3)) (A.repA (A.lenA x5 - A.nat n3) (AV.agg (Row.gen [.int .i64 0, .int .i64 0, .int .i64 0, .list (.ints .i64 []), .int .i64 0])))) (A.subA x5 (A.nat n3 + A.lenA (A.repA (A.lenA x5 - A.nat n3) (AV.agg (Row.gen [.int .i64 0, .int .i64 0, .int .i64 0, .list (.ints .i64 []), .int .i64 0])))) (A.lenA x5)))) := by kernel_rfl
end Go.Proofs.Ytjhdnpmojhkbjaa
/- Contracts as a list. No condition. -/
namespace Go.Proofs.Ytjhdnpmojhkbjaa
theorem Zqz {P : Program} {f : FuncId} {e : TypeId} {sz n : Nat} {x y : Row} {args : List AV} (h : Zk6 P f e sz x y args (.row 0 0)) (hn : n = y.elems.length) : Zk6 P f e sz x y args (.slc 0 0 0 n none) := by
  subst hn
  intro w okA L vs hok H hr
  refine (h w okA L vs hok H hr).mono ?_
  rintro e' w' ⟨v, L', rfl, hF, H2, rr⟩
  refine ⟨v, L', rfl, hF, H2, ?_⟩
  cases rr with
  | row _ _ g o n c hn hl =>
    have ht : (blk (Zaj (some ⟨e, sz, y⟩)) 0 0).tag = some (sz, y.elems.length) := rfl
    obtain ⟨rfl, rfl, rfl, rfl⟩ := hl.2 _ ht
    exact .slc 0 0 0 _ none _ _ _ hn ⟨hl.1, fun s hs => .inr ⟨rfl, by simp, by simp, by simp⟩⟩
def zN : AV := AV.agg (Row.gen [AV.int .i64 0, AV.int .i64 0, AV.int .i64 0, AV.list (.ints .i64 []), AV.int .i64 0])
def cpZ (xs : List AV) : List AV := cpN xs ++ List.replicate (xs.length - (cpN xs).length) zN
theorem Zlp : ∀ (l : List AV) (p : AV), (cpA p l).length ≤ l.length
  | [], _ => Nat.le_refl _
  | y :: l, p => by
    unfold cpA
    have := Zlp l y
    split <;> simp <;> omega
theorem ZqJ (l : List AV) : (cpN l).length ≤ l.length := by
  cases l with
  | nil => exact Nat.le_refl _
  | cons x l => simp only [cpN, List.length_cons]; have := Zlp l x; omega
theorem ZEL (n : Nat) (v : AV) : std.repA n v = List.replicate n v := rfl
theorem ZGa (X : List AV) (k : Nat) : sub3 X 0 k ++ List.replicate (X.length - k) zN ++ sub3 X (k + (List.replicate (X.length - k) zN).length) X.length = X.take k ++ List.replicate (X.length - k) zN := by
  have h1 : sub3 X 0 k = X.take k := by simp [sub3]
  have h2 : sub3 X (k + (List.replicate (X.length - k) zN).length) X.length = [] := by
    unfold sub3
    rw [List.length_replicate, List.drop_of_length_le (by omega), List.take_nil]
  rw [h1, h2, List.append_nil]
section
variable {C : Ctx} (hC : C.P = Try.prog) (xs : List AV) (hL : xs.length < 1000000) (hn : ZaF xs = true)
include hC hL hn
theorem ZIC (j1 : Nat) : ∀ (d m k : Nat) (X : List AV), xs.length - (j1 + m) = d → 1 ≤ m → j1 + m ≤ xs.length → j1 ≤ k → k + 1 ≤ j1 + m → X.length = xs.length → (∀ t, j1 + m ≤ t + 1 → X.getD t .top = xs.getD t .top) →
    X.take k ++ cpA (xs.getD (j1 + m - 1) .top) (xs.drop (j1 + m)) = cpN xs →
    Ev C (Zc6 j1 (xs.length - j1) k m X) (Zco j1 (xs.length - j1) k m X) (Zg8 121 140 5 (.big shN (cpZ xs)) (.slc 0 0 0 (cpN xs).length none)) := by
  intro d
  induction d with
  | zero =>
    intro m k X hd hm hjm hk hkm hX hg hinv
    have hjl : j1 + m = xs.length := by omega
    rw [List.drop_of_length_le (by omega), cpA, List.append_nil] at hinv
    have hkl : (cpN xs).length = k := by rw [← hinv, List.length_take]; omega
    have hw := ZEO std j1 (xs.length - j1) k m X
    simp only [Zam, ZiW, ZEL, ZaJ, Zpd, Ztv, Int.toNat_natCast] at hw
    rw [show (AV.agg (Row.gen [AV.int .i64 0, AV.int .i64 0, AV.int .i64 0, AV.list (.ints .i64 []), AV.int .i64 0])) = zN from rfl, show std.subA = sub3 from rfl, ZGa X k] at hw
    refine ZdU hC ZdZ hw ?_ (by rw [hkl]; rfl) rfl rfl (by rw [hinv, ← hkl, hX]; rfl)
    simp [hX, sub3]
    omega
  | succ d ih =>
    intro m k X hd hm hjm hk hkm hX hg hinv
    have hlt : j1 + m < xs.length := by omega
    have g1 : X.getD (j1 + m) .top = xs.getD (j1 + m) .top := hg _ (by omega)
    have g2 : X.getD (j1 + (m - 1)) .top = xs.getD (j1 + m - 1) .top := by
      rw [show j1 + (m - 1) = j1 + m - 1 by omega]; exact hg _ (by omega)
    have g3 : xs.getD (j1 + m) .top = xs[j1 + m] := by simp [hlt]
    have e1 : (std.sub (m : Int) 1).toNat = m - 1 := by simp
    have e2 : std.add (m : Int) 1 = ((m + 1 : Nat) : Int) := by simp
    have e3 : std.add (k : Int) 1 = ((k + 1 : Nat) : Int) := by simp
    have hv := ZdC hn hlt
    rw [List.drop_eq_getElem_cons hlt, cpA] at hinv
    rw [← g3] at hinv
    have hidx : j1 + (m + 1) - 1 = j1 + m := by omega
    by_cases hs : Zah (xs.getD (j1 + m) .top) = Zah (xs.getD (j1 + m - 1) .top)
    · rw [if_pos hs] at hinv
      have hw := ZFw std j1 (xs.length - j1) k m X
      simp only [Zam, Zai, Zpd, Int.toNat_natCast, e1, e2] at hw
      simp only [g1, g2] at hw
      have hsm : Zf4 (Zah (xs.getD (j1 + m) .top)) (Zah (xs.getD (j1 + m - 1) .top)) = true := decide_eq_true hs
      have hsm' : Zf4 (AV.toI (AV.cellAt (xs.getD (j1 + m) .top) 4)) (AV.toI (AV.cellAt (xs.getD (j1 + m - 1) .top) 4)) = true := hsm
      rw [hsm'] at hw
      refine go hC ZdZ hw ?_ (ih (m + 1) k X (by omega) (by omega) (by omega) hk (by omega) hX (fun t ht => hg t (by omega)) ?_)
      · simp [hX]; omega
      · rw [hidx]; exact hinv
    · rw [if_neg hs] at hinv
      have hw := ZD2 std j1 (xs.length - j1) k m X
      simp only [Zam, Zai, Zho, Zpd, Int.toNat_natCast, e1, e2, e3] at hw
      simp only [g1, g2] at hw
      have hsm : Zf4 (Zah (xs.getD (j1 + m) .top)) (Zah (xs.getD (j1 + m - 1) .top)) = false := decide_eq_false hs
      have hsm' : Zf4 (AV.toI (AV.cellAt (xs.getD (j1 + m) .top) 4)) (AV.toI (AV.cellAt (xs.getD (j1 + m - 1) .top) 4)) = false := hsm
      rw [hsm'] at hw
      rw [show (AV.agg (Row.gen [AV.int .i64 (AV.toI (AV.cellAt (xs.getD (j1 + m) .top) 0)), AV.int .i64 (AV.toI (AV.cellAt (xs.getD (j1 + m) .top) 1)), AV.int .i64 (AV.toI (AV.cellAt (xs.getD (j1 + m) .top) 2)), AV.list (.ints .i64 (AV.toIs (AV.cellAt (xs.getD (j1 + m) .top) 3))), AV.int .i64 (AV.toI (AV.cellAt (xs.getD (j1 + m) .top) 4))])) = xs.getD (j1 + m) .top from hv] at hw
      refine go hC ZdZ hw ?_ (ih (m + 1) (k + 1) _ (by omega) (by omega) (by omega) (by omega) (by omega) (by rw [List.length_set]; exact hX) (fun t ht => ?_) ?_)
      · simp [hX]; omega
      · rw [List.getD_eq_getElem?_getD, List.getElem?_set_ne (by omega), ← List.getD_eq_getElem?_getD]
        exact hg t (by omega)
      · rw [hidx, ← hinv, List.take_set, List.take_succ_eq_append_getElem (by omega : k < X.length)]
        rw [List.set_append_right _ _ (by rw [List.length_take]; omega), List.length_take, Nat.min_eq_left (by omega), Nat.sub_self]
        simp [Nat.add_assoc]
theorem ZuW (hp : cpN xs ≠ xs) : ∀ (d i : Nat), xs.length - i = d → 1 ≤ i → i ≤ xs.length → xs.take i ++ cpA (xs.getD (i - 1) .top) (xs.drop i) = cpN xs →
    Ev C (ZbW xs i) (ZbL xs i) (Zg8 121 140 5 (.big shN (cpZ xs)) (.slc 0 0 0 (cpN xs).length none)) := by
  intro d
  induction d with
  | zero =>
    intro i hd h1 hi hinv
    rw [List.drop_of_length_le (by omega), cpA, List.append_nil, List.take_of_length_le (by omega)] at hinv
    exact absurd hinv.symm hp
  | succ d ih =>
    intro i hd h1 hi hinv
    have hlt : i < xs.length := by omega
    have g3 : xs.getD i .top = xs[i] := by simp [hlt]
    have e1 : (std.sub (i : Int) 1).toNat = i - 1 := by simp
    have e2 : std.add (i : Int) 1 = ((i + 1 : Nat) : Int) := by simp
    rw [List.drop_eq_getElem_cons hlt, cpA, ← g3] at hinv
    by_cases hs : Zah (xs.getD i .top) = Zah (xs.getD (i - 1) .top)
    · rw [if_pos hs] at hinv
      have hw := ZBa std xs i
      simp only [Zam, Zai, Int.toNat_natCast, e1, Ztv, ZaJ] at hw
      have hsm : Zf4 (AV.toI (AV.cellAt (xs.getD i .top) 4)) (AV.toI (AV.cellAt (xs.getD (i - 1) .top) 4)) = true := decide_eq_true hs
      rw [hsm] at hw
      refine go hC ZdZ hw (by simp; omega) ?_
      exact ZIC hC xs hL hn i _ 1 i xs rfl (Nat.le_refl _) (by omega) (Nat.le_refl _) (by omega) rfl (fun _ _ => rfl) (by rw [Nat.add_sub_cancel]; exact hinv)
    · rw [if_neg hs] at hinv
      have hw := Zti std xs i
      simp only [Zam, Zai, Int.toNat_natCast, e1, e2] at hw
      have hsm : Zf4 (AV.toI (AV.cellAt (xs.getD i .top) 4)) (AV.toI (AV.cellAt (xs.getD (i - 1) .top) 4)) = false := decide_eq_false hs
      rw [hsm] at hw
      refine go hC ZdZ hw (by simp; omega) (ih (i + 1) (by omega) (by omega) (by omega) ?_)
      rw [Nat.add_sub_cancel, ← hinv, List.take_succ_eq_append_getElem hlt, ← g3, List.append_assoc]
      rfl
theorem Zv8 (hp : cpN xs ≠ xs) : Ev C (Zrl xs) (ZmX xs) (Zg8 121 140 5 (.big shN (cpZ xs)) (.slc 0 0 0 (cpN xs).length none)) := by
  match xs, hL, hn, hp with
  | [], _, _, hp => exact absurd rfl hp
  | [x], _, _, hp => exact absurd rfl hp
  | x :: y :: l, hL, hn, hp =>
    refine go hC ZdZ (ZuF std (x :: y :: l)) (by simp; omega) ?_
    exact ZuW hC (x :: y :: l) hL hn hp _ 1 rfl (Nat.le_refl _) (by simp) rfl
end
section
variable {C : Ctx} (hC : C.P = Try.prog) (xs : List AV) (hL : xs.length < 1000000)
include hC hL
theorem Zyx : ∀ (d i : Nat), xs.length - i = d → 1 ≤ i → i ≤ xs.length → cpA (xs.getD (i - 1) .top) (xs.drop i) = xs.drop i →
    Ev C (ZbW xs i) (ZbL xs i) (Zg8 121 140 5 (.big shN xs) (.row 0 0)) := by
  intro d
  induction d with
  | zero =>
    intro i hd h1 hi _
    exact ZdU hC ZdZ (ZAE std xs i) (by simp; omega) rfl rfl rfl rfl
  | succ d ih =>
    intro i hd h1 hi hinv
    have hlt : i < xs.length := by omega
    have g3 : xs.getD i .top = xs[i] := by simp [hlt]
    rw [List.drop_eq_getElem_cons hlt, cpA, ← g3] at hinv
    have hs : ¬ Zah (xs.getD i .top) = Zah (xs.getD (i - 1) .top) := fun hs => by
      rw [if_pos hs] at hinv
      have := Zlp (xs.drop (i + 1)) (xs.getD i .top)
      rw [hinv, List.length_cons] at this
      omega
    rw [if_neg hs] at hinv
    have e1 : (std.sub (i : Int) 1).toNat = i - 1 := by simp
    have e2 : std.add (i : Int) 1 = ((i + 1 : Nat) : Int) := by simp
    have hw := Zti std xs i
    simp only [Zam, Zai, Int.toNat_natCast, e1, e2] at hw
    have hsm : Zf4 (AV.toI (AV.cellAt (xs.getD i .top) 4)) (AV.toI (AV.cellAt (xs.getD (i - 1) .top) 4)) = false := decide_eq_false hs
    rw [hsm] at hw
    exact go hC ZdZ hw (by simp; omega) (ih (i + 1) (by omega) (by omega) (by omega) (by rw [Nat.add_sub_cancel]; exact (List.cons.inj hinv).2))
theorem ZBH (hp : cpN xs = xs) : Ev C (Zrl xs) (ZmX xs) (Zg8 121 140 5 (.big shN xs) (.row 0 0)) := by
  match xs, hL, hp with
  | [], _, _ => exact ZdU hC ZdZ (Zty std []) (by simp) rfl rfl rfl rfl
  | [x], _, _ => exact ZdU hC ZdZ (Zty std [x]) (by simp) rfl rfl rfl rfl
  | x :: y :: l, hL, hp =>
    refine go hC ZdZ (ZuF std (x :: y :: l)) (by simp; omega) ?_
    exact Zyx hC (x :: y :: l) hL _ 1 rfl (Nat.le_refl _) (by simp) (List.cons.inj hp).2
end
theorem ZnQ (xs : List AV) (hL : xs.length < 1000000) (hn : ZaF xs = true) : Zk6 Try.prog 121 140 5 (.big shN xs) (.big shN (cpZ xs)) [.fn 122 []] (.slc 0 0 0 (cpN xs).length none) := by
  by_cases hp : cpN xs = xs
  · have e : cpZ xs = xs := by unfold cpZ; rw [hp]; simp
    rw [e, hp]
    exact Zqz (Zgy (Zmo xs) fun C hC => ZBH hC xs hL hp) (by simp [Row.elems])
  · exact Zgy (Zmo xs) fun C hC => Zv8 hC xs hL hn hp
theorem Zoi (xs : List AV) (h : soB xs = true) : Zhc Try.prog 1000121 [.list (.big shN xs), .fn 122 []] (.slc 0 0 0 (cpN xs).length none) (some ⟨140, 5, .big shN (cpZ xs)⟩) := by
  unfold soB at h
  simp only [Bool.and_eq_true, decide_eq_true_eq] at h
  exact Zc2 (f := 121) rfl (ZnQ xs (by omega) h.2)
def cpL (xs : List AV) : Nat := (cpN xs).length
theorem Zua (xs : List AV) : cpL xs = (cpN xs).length := rfl
attribute [irreducible] cpZ cpL
def k121 : Ctr := ⟨1000121, 0, fun _ a => match a with | [.list (.big (.agg [.int .i64, .int .i64, .int .i64, .ints .i64, .int .i64]) xs), .fn 122 []] => some (decide (soB xs = true), .slc 0 0 0 (cpL xs) none, some ⟨140, 5, .big shN (cpZ xs)⟩) | _ => none⟩
theorem ZyO : k121.OK Try.prog := fun pa args r fr h => by
  simp only [k121] at h
  split at h
  · simp only [Option.some.injEq, Prod.mk.injEq, decide_eq_true_eq] at h
    obtain ⟨h0, rfl, rfl⟩ := h
    exact (by rw [Zua]; exact Zoi _ h0)
  · cases h
def BOk : List Ctr := [k121] ++ BOj
theorem Zd7 : Zas Try.prog BOk := ⟨ZyO, ZdZ⟩
end Go.Proofs.Ytjhdnpmojhkbjaa
