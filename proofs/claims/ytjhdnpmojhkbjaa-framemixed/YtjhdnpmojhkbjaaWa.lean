/- Paths of functions, printed by the explorer (Gx). No condition. -/
import Derived.Test.YtjhdnpmojhkbjaaNd
import Derived.KernelRfl
namespace Go.Proofs.Ytjhdnpmojhkbjaa
set_option maxRecDepth 100000
set_option linter.unusedVariables false
def ZF2(a:Int)(b:Int)(c:Int)(fs:List AV):AFrame:={ fn:=16,N:=45,env:=[(0,AV.agg (Row.gen [AV.int .i64 a,AV.int .i64 b])),(1,AV.int .i64 c),(2,AV.list (Row.big (Sh.agg [Sh.int .i64,Sh.int .i64,Sh.int .i64,Sh.ints .i64]) fs))],todo:=[.code a16.code],defs:=[],rnd:=none,ret:=false,res:=[ARes.tmp 6,ARes.tmp 7] }
def ZKC(a:Int)(b:Int)(c:Int)(fs:List AV):List AFrame:=[(ZF2 a b c fs)]
theorem ZmS(a:Int)(b:Int)(c:Int)(fs:List AV):Zak tab 16 [AV.agg (Row.gen [AV.int .i64 a,AV.int .i64 b]),AV.int .i64 c,AV.list (Row.big (Sh.agg [Sh.int .i64,Sh.int .i64,Sh.int .i64,Sh.ints .i64]) fs)]=some (ZF2 a b c fs):=rfl
def ZdU(x0:List AV)(n1 n2 n3:Int):List AFrame:=[{ fn:=16,N:=45,env:=[(10,AV.ptr 16011 0 0 0),(11,AV.int .i64 n2),(26,AV.list (Row.big (Sh.agg [Sh.int .i64,Sh.int .i64,Sh.int .i64,Sh.ints .i64,Sh.int .i64]) x0)),(27,AV.int .i64 n1),(28,AV.int .i64 n3)],todo:=.code (ACode.gh [] ZqT)::ZoM,defs:=[],rnd:=none,ret:=false,res:=[ARes.tmp 6,ARes.tmp 7] }]
def ZcN(x0:List AV)(n1:Int)(n2:Int)(n3:Int):Zaa:=[(16011,{ base:=0,blks:=[Blk.row 136 3 (Row.gen [AV.agg (Row.gen [AV.bool false,AV.nils,AV.nils])])] })]
abbrev ZeQ(x0:List AV)(n1:Int)(n2:Int)(n3:Int):List AFrame×Zaa:=(ZdU x0 n1 n2 n3,ZcN x0 n1 n2 n3)
def ZdK(x0:List AV)(n1:Int)(b4:Bool)(n5 n6 n7:Int)(l8:List Int)(n9 n10 n11 n12:Int)(l13:List Int)(n14 n15 n16 n17:Int)(l18:List Int)(n19 n20:Int)(b21:Bool)(l22:List Int)(n23 n24 n25:Int)(l26:List Int)(n27 n28 n29 n30:Int):List AFrame:=[{ fn:=80,N:=116,env:=[(0,AV.ptr 16011 0 0 0)],todo:=.code (ACode.gh [] Zxo)::ZGA,defs:=[],rnd:=none,ret:=false,res:=[] },{ fn:=16,N:=45,env:=[(10,AV.ptr 16011 0 0 0),(11,AV.int .i64 n28),(13,AV.ptr 16014 0 0 0),(26,AV.list (Row.big (Sh.agg [Sh.int .i64,Sh.int .i64,Sh.int .i64,Sh.ints .i64,Sh.int .i64]) x0)),(27,AV.int .i64 n1),(28,AV.int .i64 n29),(29,AV.bool b4),(30,AV.eptr (AV.agg (Row.gen [AV.int .i64 n5,AV.int .i64 n6,AV.int .i64 n7,AV.list (.ints .i64 l8),AV.int .i64 n9])) 0),(31,AV.agg (Row.gen [AV.int .i64 n10,AV.int .i64 n11,AV.int .i64 n12,AV.list (.ints .i64 l13),AV.int .i64 n14])),(32,AV.ptr 16014 0 0 0),(33,AV.agg (Row.gen [AV.int .i64 n15,AV.int .i64 n16,AV.int .i64 n17,AV.list (.ints .i64 l18)])),(34,AV.ptr 16014 0 0 4),(35,AV.int .i64 n19),(36,AV.int .i64 n30),(37,AV.int .i64 n20),(38,AV.bool b21)],todo:=AItem.inReg [oN 39 (OpK.icall 80 [Opd.t 10,Opd.t 33,Opd.t 38])]::.code (ACode.gh [Ghost.keep [10,13,26,27,28]] (ACode.reg none [oN 40 (OpK.faddr 4 (Opd.t 13)),oN 41 (OpK.load false 1 (Opd.t 40)),mV 11 41]))::AItem.inBlock 1::.code (ACode.reg none [oN 42 (OpK.bin Go.BinOp.add (Opd.t 28) (cI 1)),mV 28 42])::ZoM,defs:=[],rnd:=none,ret:=false,res:=[ARes.tmp 6,ARes.tmp 7] }]
def ZcJ(x0:List AV)(n1:Int)(b4:Bool)(n5:Int)(n6:Int)(n7:Int)(l8:List Int)(n9:Int)(n10:Int)(n11:Int)(n12:Int)(l13:List Int)(n14:Int)(n15:Int)(n16:Int)(n17:Int)(l18:List Int)(n19:Int)(n20:Int)(b21:Bool)(l22:List Int)(n23:Int)(n24:Int)(n25:Int)(l26:List Int)(n27:Int)(n28:Int)(n29:Int)(n30:Int):Zaa:=[(16011,{ base:=0,blks:=[Blk.row 136 3 (Row.gen [AV.agg (Row.gen [AV.bool true,AV.list (.ints .i64 l22),AV.nils])])] }),(16014,{ base:=0,blks:=[Blk.row 140 5 (Row.gen [AV.agg (Row.gen [AV.int .i64 n23,AV.int .i64 n24,AV.int .i64 n25,AV.list (.ints .i64 l26),AV.int .i64 n27])])] })]
abbrev ZdF(x0:List AV)(n1:Int)(b4:Bool)(n5:Int)(n6:Int)(n7:Int)(l8:List Int)(n9:Int)(n10:Int)(n11:Int)(n12:Int)(l13:List Int)(n14:Int)(n15:Int)(n16:Int)(n17:Int)(l18:List Int)(n19:Int)(n20:Int)(b21:Bool)(l22:List Int)(n23:Int)(n24:Int)(n25:Int)(l26:List Int)(n27:Int)(n28:Int)(n29:Int)(n30:Int):List AFrame×Zaa:=(ZdK x0 n1 b4 n5 n6 n7 l8 n9 n10 n11 n12 l13 n14 n15 n16 n17 l18 n19 n20 b21 l22 n23 n24 n25 l26 n27 n28 n29 n30,ZcJ x0 n1 b4 n5 n6 n7 l8 n9 n10 n11 n12 l13 n14 n15 n16 n17 l18 n19 n20 b21 l22 n23 n24 n25 l26 n27 n28 n29 n30)
def Zbx(x0:List AV)(n1:Int)(l22:List Int)(n27 n31:Int):List AFrame:=[{ fn:=16,N:=45,env:=[(10,AV.ptr 16011 0 0 0),(11,AV.int .i64 n27),(26,AV.list (Row.big (Sh.agg [Sh.int .i64,Sh.int .i64,Sh.int .i64,Sh.ints .i64,Sh.int .i64]) x0)),(27,AV.int .i64 n1),(28,AV.int .i64 n31)],todo:=.code (ACode.gh [] ZqT)::ZoM,defs:=[],rnd:=none,ret:=false,res:=[ARes.tmp 6,ARes.tmp 7] }]
def Zbb(x0:List AV)(n1:Int)(l22:List Int)(n27:Int)(n31:Int):Zaa:=[(16011,{ base:=0,blks:=[Blk.row 136 3 (Row.gen [AV.agg (Row.gen [AV.bool true,AV.list (.ints .i64 l22),AV.nils])])] })]
abbrev Zje(x0:List AV)(n1:Int)(l22:List Int)(n27:Int)(n31:Int):List AFrame×Zaa:=(Zbx x0 n1 l22 n27 n31,Zbb x0 n1 l22 n27 n31)
def ZdB(x0:List AV)(n1:Int)(l32:List Int)(x33:List AV)(n34 n35:Int)(b36:Bool)(n37 n38 n39:Int)(l40:List Int)(n41 n42 n43 n44:Int)(l45:List Int)(n46 n47 n48 n49:Int)(l50:List Int)(n51 n52 n53:Int)(b54:Bool)(n55 n56 n57:Int)(l58:List Int)(n59:Int):List AFrame:=[{ fn:=80,N:=116,env:=[(0,AV.ptr 16011 0 0 0)],todo:=.code (ACode.gh [] Zxo)::ZGA,defs:=[],rnd:=none,ret:=false,res:=[] },{ fn:=16,N:=45,env:=[(10,AV.ptr 16011 0 0 0),(11,AV.int .i64 n34),(13,AV.ptr 16014 0 0 0),(26,AV.list (Row.big (Sh.agg [Sh.int .i64,Sh.int .i64,Sh.int .i64,Sh.ints .i64,Sh.int .i64]) x0)),(27,AV.int .i64 n1),(28,AV.int .i64 n35),(29,AV.bool b36),(30,AV.eptr (AV.agg (Row.gen [AV.int .i64 n37,AV.int .i64 n38,AV.int .i64 n39,AV.list (.ints .i64 l40),AV.int .i64 n41])) 0),(31,AV.agg (Row.gen [AV.int .i64 n42,AV.int .i64 n43,AV.int .i64 n44,AV.list (.ints .i64 l45),AV.int .i64 n46])),(32,AV.ptr 16014 0 0 0),(33,AV.agg (Row.gen [AV.int .i64 n47,AV.int .i64 n48,AV.int .i64 n49,AV.list (.ints .i64 l50)])),(34,AV.ptr 16014 0 0 4),(35,AV.int .i64 n51),(36,AV.int .i64 n52),(37,AV.int .i64 n53),(38,AV.bool b54)],todo:=AItem.inReg [oN 39 (OpK.icall 80 [Opd.t 10,Opd.t 33,Opd.t 38])]::.code (ACode.gh [Ghost.keep [10,13,26,27,28]] (ACode.reg none [oN 40 (OpK.faddr 4 (Opd.t 13)),oN 41 (OpK.load false 1 (Opd.t 40)),mV 11 41]))::AItem.inBlock 1::.code (ACode.reg none [oN 42 (OpK.bin Go.BinOp.add (Opd.t 28) (cI 1)),mV 28 42])::ZoM,defs:=[],rnd:=none,ret:=false,res:=[ARes.tmp 6,ARes.tmp 7] }]
def ZcD(x0:List AV)(n1:Int)(l32:List Int)(x33:List AV)(n34:Int)(n35:Int)(b36:Bool)(n37:Int)(n38:Int)(n39:Int)(l40:List Int)(n41:Int)(n42:Int)(n43:Int)(n44:Int)(l45:List Int)(n46:Int)(n47:Int)(n48:Int)(n49:Int)(l50:List Int)(n51:Int)(n52:Int)(n53:Int)(b54:Bool)(n55:Int)(n56:Int)(n57:Int)(l58:List Int)(n59:Int):Zaa:=[(16011,{ base:=0,blks:=[Blk.row 136 3 (Row.gen [AV.agg (Row.gen [AV.bool true,AV.list (.ints .i64 l32),AV.row 80105 0])])] }),(16014,{ base:=0,blks:=[Blk.row 140 5 (Row.gen [AV.agg (Row.gen [AV.int .i64 n55,AV.int .i64 n56,AV.int .i64 n57,AV.list (.ints .i64 l58),AV.int .i64 n59])])] }),(80105,{ base:=0,blks:=[Blk.row 57 3 (Row.big (Sh.agg [Sh.int .i64,Sh.int .i64,Sh.ints .i64]) x33)] })]
abbrev Zb6(x0:List AV)(n1:Int)(l32:List Int)(x33:List AV)(n34:Int)(n35:Int)(b36:Bool)(n37:Int)(n38:Int)(n39:Int)(l40:List Int)(n41:Int)(n42:Int)(n43:Int)(n44:Int)(l45:List Int)(n46:Int)(n47:Int)(n48:Int)(n49:Int)(l50:List Int)(n51:Int)(n52:Int)(n53:Int)(b54:Bool)(n55:Int)(n56:Int)(n57:Int)(l58:List Int)(n59:Int):List AFrame×Zaa:=(ZdB x0 n1 l32 x33 n34 n35 b36 n37 n38 n39 l40 n41 n42 n43 n44 l45 n46 n47 n48 n49 l50 n51 n52 n53 b54 n55 n56 n57 l58 n59,ZcD x0 n1 l32 x33 n34 n35 b36 n37 n38 n39 l40 n41 n42 n43 n44 l45 n46 n47 n48 n49 l50 n51 n52 n53 b54 n55 n56 n57 l58 n59)
def Zbv(x0:List AV)(n1:Int)(l32:List Int)(x33:List AV)(n59 n60:Int):List AFrame:=[{ fn:=16,N:=45,env:=[(10,AV.ptr 16011 0 0 0),(11,AV.int .i64 n59),(26,AV.list (Row.big (Sh.agg [Sh.int .i64,Sh.int .i64,Sh.int .i64,Sh.ints .i64,Sh.int .i64]) x0)),(27,AV.int .i64 n1),(28,AV.int .i64 n60)],todo:=.code (ACode.gh [] ZqT)::ZoM,defs:=[],rnd:=none,ret:=false,res:=[ARes.tmp 6,ARes.tmp 7] }]
def Zba(x0:List AV)(n1:Int)(l32:List Int)(x33:List AV)(n59:Int)(n60:Int):Zaa:=[(16011,{ base:=0,blks:=[Blk.row 136 3 (Row.gen [AV.agg (Row.gen [AV.bool true,AV.list (.ints .i64 l32),AV.row 80105 0])])] }),(80105,{ base:=0,blks:=[Blk.row 57 3 (Row.big (Sh.agg [Sh.int .i64,Sh.int .i64,Sh.ints .i64]) x33)] })]
abbrev ZjN(x0:List AV)(n1:Int)(l32:List Int)(x33:List AV)(n59:Int)(n60:Int):List AFrame×Zaa:=(Zbv x0 n1 l32 x33 n59 n60,Zba x0 n1 l32 x33 n59 n60)
def ZdH(x0:List AV)(n1:Int)(x33:List AV)(n61 n62:Int):List AFrame:=[{ fn:=16,N:=45,env:=[(10,AV.ptr 16011 0 0 0),(11,AV.int .i64 n61),(26,AV.list (Row.big (Sh.agg [Sh.int .i64,Sh.int .i64,Sh.int .i64,Sh.ints .i64,Sh.int .i64]) x0)),(27,AV.int .i64 n1),(28,AV.int .i64 n62)],todo:=.code (ACode.gh [] ZqT)::ZoM,defs:=[],rnd:=none,ret:=false,res:=[ARes.tmp 6,ARes.tmp 7] }]
def ZcL(x0:List AV)(n1:Int)(x33:List AV)(n61:Int)(n62:Int):Zaa:=[(16011,{ base:=0,blks:=[Blk.row 136 3 (Row.gen [AV.agg (Row.gen [AV.bool false,AV.nils,AV.row 80105 0])])] }),(80105,{ base:=0,blks:=[Blk.row 57 3 (Row.big (Sh.agg [Sh.int .i64,Sh.int .i64,Sh.ints .i64]) x33)] })]
abbrev ZgB(x0:List AV)(n1:Int)(x33:List AV)(n61:Int)(n62:Int):List AFrame×Zaa:=(ZdH x0 n1 x33 n61 n62,ZcL x0 n1 x33 n61 n62)
theorem ZLy(A:Ar)(a b c:Int)(fs:List AV):Zaz A tab BOp 34 [true] 16 (ZKC a b c fs) []=
 some (tr [4,8,6] [A.not (A.eq (ZaI a b c fs) 0),decide (Zaw fs=true)],
  AV.tup [AV.nils,AV.int .i64 (ZaI a b c fs)],none):=by kernel_rfl
theorem ZNs(A:Ar)(a b c:Int)(fs:List AV):Zad A tab BOp 48 [false] (ZKC a b c fs) []=
 some (tr [2,4,8,6] [decide (nmB fs=true),!A.not (A.eq (ZaI a b c fs) 0),decide (Zaw fs=true)],
  ZeQ (Zdc c fs) (A.int (A.lenA (Zdc c fs))) (0) (0)):=by kernel_rfl
theorem ZJY(A:Ar)(x0:List AV)(n1 n2 n3:Int):Zad A tab BOp 77 [true,false,false,true,true] (ZdU x0 n1 n2 n3) (ZcN x0 n1 n2 n3)=
 some (tr [1,4,3,28,8,0,1] [A.inR .i64 (A.add n3 1),A.eq ((A.nthA x0 (A.nat n3)).cellAt 2).toI 255,A.not false,A.inR .i64 (A.add n2 1),Zab (Zab (A.le 0 n3) (Nat.blt (A.nat n3) (A.lenA x0))) true,A.lt n3 n1],
  ZeQ (x0) (n1) ((A.nthA x0 (A.nat n3)).cellAt 4).toI (A.add n3 1)):=by kernel_rfl
theorem ZML(A:Ar)(x0:List AV)(n1 n2 n3:Int):Zad A tab BOp 81 [true,false,false,true,false] (ZdU x0 n1 n2 n3) (ZcN x0 n1 n2 n3)=
 some (tr [3,0,10,4,3,28,8,0,1] [decide (0<List.length (A.sub3 ((A.nthA x0 (A.nat n3)).cellAt 3).toIs (A.nat ((A.nthA x0 (A.nat n3)).cellAt 2).toI) (A.len ((A.nthA x0 (A.nat n3)).cellAt 3).toIs-A.nat ((A.nthA x0 (A.nat n3)).cellAt 2).toI))∧List.length (A.sub3 ((A.nthA x0 (A.nat n3)).cellAt 3).toIs (A.nat ((A.nthA x0 (A.nat n3)).cellAt 2).toI) (A.len ((A.nthA x0 (A.nat n3)).cellAt 3).toIs-A.nat ((A.nthA x0 (A.nat n3)).cellAt 2).toI))≤1000000),List.all [AV.nils,AV.list (.ints .i64 (A.sub3 ((A.nthA x0 (A.nat n3)).cellAt 3).toIs (A.nat ((A.nthA x0 (A.nat n3)).cellAt 2).toI) (A.len ((A.nthA x0 (A.nat n3)).cellAt 3).toIs-A.nat ((A.nthA x0 (A.nat n3)).cellAt 2).toI)))] fun x=>AV.bx x&&Nat.beq (Zac A x) 1,Zab (Zab (A.le 0 ((A.nthA x0 (A.nat n3)).cellAt 2).toI) true) (Zab (Zab (Nat.ble (A.nat ((A.nthA x0 (A.nat n3)).cellAt 2).toI) (A.len ((A.nthA x0 (A.nat n3)).cellAt 3).toIs)) (Nat.ble (A.len ((A.nthA x0 (A.nat n3)).cellAt 3).toIs) (A.len ((A.nthA x0 (A.nat n3)).cellAt 3).toIs))) true),!A.eq ((A.nthA x0 (A.nat n3)).cellAt 2).toI 255,A.not false,A.inR .i64 (A.add n2 1),Zab (Zab (A.le 0 n3) (Nat.blt (A.nat n3) (A.lenA x0))) true,A.lt n3 n1],
  ZdF (x0) (n1) (A.lt n3 n1) ((A.nthA x0 (A.nat n3)).cellAt 0).toI ((A.nthA x0 (A.nat n3)).cellAt 1).toI ((A.nthA x0 (A.nat n3)).cellAt 2).toI ((A.nthA x0 (A.nat n3)).cellAt 3).toIs ((A.nthA x0 (A.nat n3)).cellAt 4).toI ((A.nthA x0 (A.nat n3)).cellAt 0).toI ((A.nthA x0 (A.nat n3)).cellAt 1).toI ((A.nthA x0 (A.nat n3)).cellAt 2).toI ((A.nthA x0 (A.nat n3)).cellAt 3).toIs ((A.nthA x0 (A.nat n3)).cellAt 4).toI ((A.nthA x0 (A.nat n3)).cellAt 0).toI ((A.nthA x0 (A.nat n3)).cellAt 1).toI ((A.nthA x0 (A.nat n3)).cellAt 2).toI ((A.nthA x0 (A.nat n3)).cellAt 3).toIs ((A.nthA x0 (A.nat n3)).cellAt 4).toI (A.add n2 1) (A.eq ((A.nthA x0 (A.nat n3)).cellAt 4).toI (A.add n2 1)) (A.sub3 ((A.nthA x0 (A.nat n3)).cellAt 3).toIs (A.nat ((A.nthA x0 (A.nat n3)).cellAt 2).toI) (A.len ((A.nthA x0 (A.nat n3)).cellAt 3).toIs-A.nat ((A.nthA x0 (A.nat n3)).cellAt 2).toI)) ((A.nthA x0 (A.nat n3)).cellAt 0).toI ((A.nthA x0 (A.nat n3)).cellAt 1).toI ((A.nthA x0 (A.nat n3)).cellAt 2).toI ((A.nthA x0 (A.nat n3)).cellAt 3).toIs ((A.nthA x0 (A.nat n3)).cellAt 4).toI (n2) (n3) (n2)):=by kernel_rfl
theorem ZK1(A:Ar)(x0:List AV)(n1 n2 n3:Int):Zaz A tab BOp 16 [false] 16 (ZdU x0 n1 n2 n3) (ZcN x0 n1 n2 n3)=
 some (tr [5,1] [!A.lt n3 n1],
  AV.tup [AV.nils,AV.int .i64 0],none):=by kernel_rfl
theorem ZJX(A:Ar)(x0:List AV)(n1:Int)(b4:Bool)(n5 n6 n7:Int)(l8:List Int)(n9 n10 n11 n12:Int)(l13:List Int)(n14 n15 n16 n17:Int)(l18:List Int)(n19 n20:Int)(b21:Bool)(l22:List Int)(n23 n24 n25:Int)(l26:List Int)(n27 n28 n29 n30:Int):Zad A tab BOp 55 [true,true] (ZdK x0 n1 b4 n5 n6 n7 l8 n9 n10 n11 n12 l13 n14 n15 n16 n17 l18 n19 n20 b21 l22 n23 n24 n25 l26 n27 n28 n29 n30) (ZcJ x0 n1 b4 n5 n6 n7 l8 n9 n10 n11 n12 l13 n14 n15 n16 n17 l18 n19 n20 b21 l22 n23 n24 n25 l26 n27 n28 n29 n30)=
 some (tr [1,4,8,1,4,6] [A.inR .i64 (A.add n29 1),A.lt (A.int (A.len l22)) (A.add 3 (A.nth l22 (A.nat 2))),A.inR .i64 (A.add 3 (A.nth l22 (A.nat 2))),Zab (Zab (A.le 0 2) (Nat.blt (A.nat 2) (A.len l22))) true,A.le 3 (A.int (A.len l22))],
  Zje (x0) (n1) (l22) (n27) (A.add n29 1)):=by kernel_rfl
theorem ZNm(A:Ar)(x0:List AV)(n1:Int)(b4:Bool)(n5 n6 n7:Int)(l8:List Int)(n9 n10 n11 n12:Int)(l13:List Int)(n14 n15 n16 n17:Int)(l18:List Int)(n19 n20:Int)(b21:Bool)(l22:List Int)(n23 n24 n25:Int)(l26:List Int)(n27 n28 n29 n30:Int):Zad A tab BOp 67 [true,false,true] (ZdK x0 n1 b4 n5 n6 n7 l8 n9 n10 n11 n12 l13 n14 n15 n16 n17 l18 n19 n20 b21 l22 n23 n24 n25 l26 n27 n28 n29 n30) (ZcJ x0 n1 b4 n5 n6 n7 l8 n9 n10 n11 n12 l13 n14 n15 n16 n17 l18 n19 n20 b21 l22 n23 n24 n25 l26 n27 n28 n29 n30)=
 some (tr [3,9,0,6,6,0,6,5,4,8,1,4,6] [Zab (Zab (A.le 0 (A.add 3 (A.nth l22 (A.nat 2)))) true) (Zab (Zab (Nat.ble (A.nat (A.add 3 (A.nth l22 (A.nat 2)))) (A.len l22)) (Nat.ble (A.len l22) (A.len l22))) true),Zab (Nat.ble (A.lenA [AV.agg (Row.gen [.int .i64 (A.nth l22 (A.nat 0)), .int .i64 (A.nth l22 (A.nat 1)), .list (.ints .i64 (A.sub3 l22 (A.nat 3) (A.nat (A.add 3 (A.nth l22 (A.nat 2)))-A.nat 3)))])]) 4294967296) (Nat.blt 0 (A.lenA [AV.agg (Row.gen [.int .i64 (A.nth l22 (A.nat 0)), .int .i64 (A.nth l22 (A.nat 1)), .list (.ints .i64 (A.sub3 l22 (A.nat 3) (A.nat (A.add 3 (A.nth l22 (A.nat 2)))-A.nat 3)))])])),List.all [AV.agg (Row.gen [.int .i64 (A.nth l22 (A.nat 0)), .int .i64 (A.nth l22 (A.nat 1)), .list (.ints .i64 (A.sub3 l22 (A.nat 3) (A.nat (A.add 3 (A.nth l22 (A.nat 2)))-A.nat 3)))])] fun x=>AV.bx x&&Nat.beq (Zac A x) 3,A.not (A.eq (A.nth l22 (A.nat 0)) 255),decide (List.length (A.sub3 l22 (A.nat 3) (A.nat (A.add 3 (A.nth l22 (A.nat 2)))-A.nat 3))≤4294967296),Zab (Zab (A.le 0 3) (A.le 0 (A.add 3 (A.nth l22 (A.nat 2))))) (Zab (Zab (Nat.ble (A.nat 3) (A.nat (A.add 3 (A.nth l22 (A.nat 2))))) (Nat.ble (A.nat (A.add 3 (A.nth l22 (A.nat 2)))) (A.len l22))) true),Zab (Zab (A.le 0 1) (Nat.blt (A.nat 1) (A.len l22))) true,Zab (Zab (A.le 0 0) (Nat.blt (A.nat 0) (A.len l22))) true,!A.lt (A.int (A.len l22)) (A.add 3 (A.nth l22 (A.nat 2))),A.inR .i64 (A.add 3 (A.nth l22 (A.nat 2))),Zab (Zab (A.le 0 2) (Nat.blt (A.nat 2) (A.len l22))) true,A.le 3 (A.int (A.len l22))],
  Zb6 (x0) (n1) (A.sub3 l22 (A.nat (A.add 3 (A.nth l22 (A.nat 2)))) (A.len l22-A.nat (A.add 3 (A.nth l22 (A.nat 2))))) ([AV.agg (Row.gen [.int .i64 (A.nth l22 (A.nat 0)), .int .i64 (A.nth l22 (A.nat 1)), .list (.ints .i64 (A.sub3 l22 (A.nat 3) (A.nat (A.add 3 (A.nth l22 (A.nat 2)))-A.nat 3)))])]) (n28) (n29) (b4) (n5) (n6) (n7) (l8) (n9) (n10) (n11) (n12) (l13) (n14) (n15) (n16) (n17) (l18) (n19) (n30) (n20) (b21) (n23) (n24) (n25) (l26) (n27)):=by kernel_rfl
theorem ZNi(A:Ar)(x0:List AV)(n1:Int)(b4:Bool)(n5 n6 n7:Int)(l8:List Int)(n9 n10 n11 n12:Int)(l13:List Int)(n14 n15 n16 n17:Int)(l18:List Int)(n19 n20:Int)(b21:Bool)(l22:List Int)(n23 n24 n25:Int)(l26:List Int)(n27 n28 n29 n30:Int):Zad A tab BOp 67 [true,false,false] (ZdK x0 n1 b4 n5 n6 n7 l8 n9 n10 n11 n12 l13 n14 n15 n16 n17 l18 n19 n20 b21 l22 n23 n24 n25 l26 n27 n28 n29 n30) (ZcJ x0 n1 b4 n5 n6 n7 l8 n9 n10 n11 n12 l13 n14 n15 n16 n17 l18 n19 n20 b21 l22 n23 n24 n25 l26 n27 n28 n29 n30)=
 some (tr [3,6,6,0,6,5,4,8,1,4,6] [Zab (Zab (A.le 0 (A.add 3 (A.nth l22 (A.nat 2)))) true) (Zab (Zab (Nat.ble (A.nat (A.add 3 (A.nth l22 (A.nat 2)))) (A.len l22)) (Nat.ble (A.len l22) (A.len l22))) true),!A.not (A.eq (A.nth l22 (A.nat 0)) 255),decide (List.length (A.sub3 l22 (A.nat 3) (A.nat (A.add 3 (A.nth l22 (A.nat 2)))-A.nat 3))≤4294967296),Zab (Zab (A.le 0 3) (A.le 0 (A.add 3 (A.nth l22 (A.nat 2))))) (Zab (Zab (Nat.ble (A.nat 3) (A.nat (A.add 3 (A.nth l22 (A.nat 2))))) (Nat.ble (A.nat (A.add 3 (A.nth l22 (A.nat 2)))) (A.len l22))) true),Zab (Zab (A.le 0 1) (Nat.blt (A.nat 1) (A.len l22))) true,Zab (Zab (A.le 0 0) (Nat.blt (A.nat 0) (A.len l22))) true,!A.lt (A.int (A.len l22)) (A.add 3 (A.nth l22 (A.nat 2))),A.inR .i64 (A.add 3 (A.nth l22 (A.nat 2))),Zab (Zab (A.le 0 2) (Nat.blt (A.nat 2) (A.len l22))) true,A.le 3 (A.int (A.len l22))],
  ZdF (x0) (n1) (b4) (n5) (n6) (n7) (l8) (n9) (n10) (n11) (n12) (l13) (n14) (n15) (n16) (n17) (l18) (n19) (n20) (b21) (A.sub3 l22 (A.nat (A.add 3 (A.nth l22 (A.nat 2)))) (A.len l22-A.nat (A.add 3 (A.nth l22 (A.nat 2))))) (n23) (n24) (n25) (l26) (n27) (n28) (n29) (n30)):=by kernel_rfl
theorem ZE7(A:Ar)(x0:List AV)(n1:Int)(b4:Bool)(n5 n6 n7:Int)(l8:List Int)(n9 n10 n11 n12:Int)(l13:List Int)(n14 n15 n16 n17:Int)(l18:List Int)(n19 n20:Int)(b21:Bool)(l22:List Int)(n23 n24 n25:Int)(l26:List Int)(n27 n28 n29 n30:Int):Zad A tab BOp 29 [false] (ZdK x0 n1 b4 n5 n6 n7 l8 n9 n10 n11 n12 l13 n14 n15 n16 n17 l18 n19 n20 b21 l22 n23 n24 n25 l26 n27 n28 n29 n30) (ZcJ x0 n1 b4 n5 n6 n7 l8 n9 n10 n11 n12 l13 n14 n15 n16 n17 l18 n19 n20 b21 l22 n23 n24 n25 l26 n27 n28 n29 n30)=
 some (tr [1,4,6] [A.inR .i64 (A.add n29 1),!A.le 3 (A.int (A.len l22))],
  Zje (x0) (n1) (l22) (n27) (A.add n29 1)):=by kernel_rfl
theorem ZNw(A:Ar)(x0:List AV)(n1:Int)(l22:List Int)(n27 n31:Int):Zad A tab BOp 92 [true,true,true,true,true,true] (Zbx x0 n1 l22 n27 n31) (Zbb x0 n1 l22 n27 n31)=
 some (tr [1,4,3,27,11,8,0,1] [A.inR .i64 (A.add n31 1),A.eq ((A.nthA x0 (A.nat n31)).cellAt 2).toI 255,A.not false,A.not (A.eq ((A.nthA x0 (A.nat n31)).cellAt 4).toI (A.add n27 1)),A.inR .i64 (A.add n27 1),Zab (Zab (A.le 0 n31) (Nat.blt (A.nat n31) (A.lenA x0))) true,A.lt n31 n1],
  ZeQ (x0) (n1) ((A.nthA x0 (A.nat n31)).cellAt 4).toI (A.add n31 1)):=by kernel_rfl
theorem ZD9(A:Ar)(x0:List AV)(n1:Int)(l22:List Int)(n27 n31:Int):Zad A tab BOp 96 [true,true,true,true,true,false] (Zbx x0 n1 l22 n27 n31) (Zbb x0 n1 l22 n27 n31)=
 some (tr [3,0,10,4,3,27,11,8,0,1] [decide (0<List.length (A.sub3 ((A.nthA x0 (A.nat n31)).cellAt 3).toIs (A.nat ((A.nthA x0 (A.nat n31)).cellAt 2).toI) (A.len ((A.nthA x0 (A.nat n31)).cellAt 3).toIs-A.nat ((A.nthA x0 (A.nat n31)).cellAt 2).toI))∧List.length (A.sub3 ((A.nthA x0 (A.nat n31)).cellAt 3).toIs (A.nat ((A.nthA x0 (A.nat n31)).cellAt 2).toI) (A.len ((A.nthA x0 (A.nat n31)).cellAt 3).toIs-A.nat ((A.nthA x0 (A.nat n31)).cellAt 2).toI))≤1000000),List.all [AV.nils,AV.list (.ints .i64 (A.sub3 ((A.nthA x0 (A.nat n31)).cellAt 3).toIs (A.nat ((A.nthA x0 (A.nat n31)).cellAt 2).toI) (A.len ((A.nthA x0 (A.nat n31)).cellAt 3).toIs-A.nat ((A.nthA x0 (A.nat n31)).cellAt 2).toI)))] fun x=>AV.bx x&&Nat.beq (Zac A x) 1,Zab (Zab (A.le 0 ((A.nthA x0 (A.nat n31)).cellAt 2).toI) true) (Zab (Zab (Nat.ble (A.nat ((A.nthA x0 (A.nat n31)).cellAt 2).toI) (A.len ((A.nthA x0 (A.nat n31)).cellAt 3).toIs)) (Nat.ble (A.len ((A.nthA x0 (A.nat n31)).cellAt 3).toIs) (A.len ((A.nthA x0 (A.nat n31)).cellAt 3).toIs))) true),!A.eq ((A.nthA x0 (A.nat n31)).cellAt 2).toI 255,A.not false,A.not (A.eq ((A.nthA x0 (A.nat n31)).cellAt 4).toI (A.add n27 1)),A.inR .i64 (A.add n27 1),Zab (Zab (A.le 0 n31) (Nat.blt (A.nat n31) (A.lenA x0))) true,A.lt n31 n1],
  ZdF (x0) (n1) (A.lt n31 n1) ((A.nthA x0 (A.nat n31)).cellAt 0).toI ((A.nthA x0 (A.nat n31)).cellAt 1).toI ((A.nthA x0 (A.nat n31)).cellAt 2).toI ((A.nthA x0 (A.nat n31)).cellAt 3).toIs ((A.nthA x0 (A.nat n31)).cellAt 4).toI ((A.nthA x0 (A.nat n31)).cellAt 0).toI ((A.nthA x0 (A.nat n31)).cellAt 1).toI ((A.nthA x0 (A.nat n31)).cellAt 2).toI ((A.nthA x0 (A.nat n31)).cellAt 3).toIs ((A.nthA x0 (A.nat n31)).cellAt 4).toI ((A.nthA x0 (A.nat n31)).cellAt 0).toI ((A.nthA x0 (A.nat n31)).cellAt 1).toI ((A.nthA x0 (A.nat n31)).cellAt 2).toI ((A.nthA x0 (A.nat n31)).cellAt 3).toIs ((A.nthA x0 (A.nat n31)).cellAt 4).toI (A.add n27 1) (A.eq ((A.nthA x0 (A.nat n31)).cellAt 4).toI (A.add n27 1)) (A.sub3 ((A.nthA x0 (A.nat n31)).cellAt 3).toIs (A.nat ((A.nthA x0 (A.nat n31)).cellAt 2).toI) (A.len ((A.nthA x0 (A.nat n31)).cellAt 3).toIs-A.nat ((A.nthA x0 (A.nat n31)).cellAt 2).toI)) ((A.nthA x0 (A.nat n31)).cellAt 0).toI ((A.nthA x0 (A.nat n31)).cellAt 1).toI ((A.nthA x0 (A.nat n31)).cellAt 2).toI ((A.nthA x0 (A.nat n31)).cellAt 3).toIs ((A.nthA x0 (A.nat n31)).cellAt 4).toI (n27) (n31) (n27)):=by kernel_rfl
theorem ZFz(A:Ar)(x0:List AV)(n1:Int)(l22:List Int)(n27 n31:Int):Zad A tab BOp 92 [true,true,false,true,true,true] (Zbx x0 n1 l22 n27 n31) (Zbb x0 n1 l22 n27 n31)=
 some (tr [1,4,3,18,3,4,11,8,0,1] [A.inR .i64 (A.add n31 1),A.eq ((A.nthA x0 (A.nat n31)).cellAt 2).toI 255,A.not false,A.not (A.eq ((A.nthA x0 (A.nat n31)).cellAt 2).toI (ZkT (↑(List.length ((A.nthA x0 (A.nat n31)).cellAt 3).toIs)) l22 ((A.nthA x0 (A.nat n31)).cellAt 3).toIs)),decide (ZlM l22 ((A.nthA x0 (A.nat n31)).cellAt 3).toIs=true),!A.not (A.eq ((A.nthA x0 (A.nat n31)).cellAt 4).toI (A.add n27 1)),A.inR .i64 (A.add n27 1),Zab (Zab (A.le 0 n31) (Nat.blt (A.nat n31) (A.lenA x0))) true,A.lt n31 n1],
  ZeQ (x0) (n1) ((A.nthA x0 (A.nat n31)).cellAt 4).toI (A.add n31 1)):=by kernel_rfl
theorem ZHN(A:Ar)(x0:List AV)(n1:Int)(l22:List Int)(n27 n31:Int):Zad A tab BOp 96 [true,true,false,true,true,false] (Zbx x0 n1 l22 n27 n31) (Zbb x0 n1 l22 n27 n31)=
 some (tr [3,0,10,4,3,18,3,4,11,8,0,1] [decide (0<List.length (A.sub3 ((A.nthA x0 (A.nat n31)).cellAt 3).toIs (A.nat ((A.nthA x0 (A.nat n31)).cellAt 2).toI) (A.len ((A.nthA x0 (A.nat n31)).cellAt 3).toIs-A.nat ((A.nthA x0 (A.nat n31)).cellAt 2).toI))∧List.length (A.sub3 ((A.nthA x0 (A.nat n31)).cellAt 3).toIs (A.nat ((A.nthA x0 (A.nat n31)).cellAt 2).toI) (A.len ((A.nthA x0 (A.nat n31)).cellAt 3).toIs-A.nat ((A.nthA x0 (A.nat n31)).cellAt 2).toI))≤1000000),List.all [AV.nils,AV.list (.ints .i64 (A.sub3 ((A.nthA x0 (A.nat n31)).cellAt 3).toIs (A.nat ((A.nthA x0 (A.nat n31)).cellAt 2).toI) (A.len ((A.nthA x0 (A.nat n31)).cellAt 3).toIs-A.nat ((A.nthA x0 (A.nat n31)).cellAt 2).toI)))] fun x=>AV.bx x&&Nat.beq (Zac A x) 1,Zab (Zab (A.le 0 ((A.nthA x0 (A.nat n31)).cellAt 2).toI) true) (Zab (Zab (Nat.ble (A.nat ((A.nthA x0 (A.nat n31)).cellAt 2).toI) (A.len ((A.nthA x0 (A.nat n31)).cellAt 3).toIs)) (Nat.ble (A.len ((A.nthA x0 (A.nat n31)).cellAt 3).toIs) (A.len ((A.nthA x0 (A.nat n31)).cellAt 3).toIs))) true),!A.eq ((A.nthA x0 (A.nat n31)).cellAt 2).toI 255,A.not false,A.not (A.eq ((A.nthA x0 (A.nat n31)).cellAt 2).toI (ZkT (↑(List.length ((A.nthA x0 (A.nat n31)).cellAt 3).toIs)) l22 ((A.nthA x0 (A.nat n31)).cellAt 3).toIs)),decide (ZlM l22 ((A.nthA x0 (A.nat n31)).cellAt 3).toIs=true),!A.not (A.eq ((A.nthA x0 (A.nat n31)).cellAt 4).toI (A.add n27 1)),A.inR .i64 (A.add n27 1),Zab (Zab (A.le 0 n31) (Nat.blt (A.nat n31) (A.lenA x0))) true,A.lt n31 n1],
  ZdF (x0) (n1) (A.lt n31 n1) ((A.nthA x0 (A.nat n31)).cellAt 0).toI ((A.nthA x0 (A.nat n31)).cellAt 1).toI ((A.nthA x0 (A.nat n31)).cellAt 2).toI ((A.nthA x0 (A.nat n31)).cellAt 3).toIs ((A.nthA x0 (A.nat n31)).cellAt 4).toI ((A.nthA x0 (A.nat n31)).cellAt 0).toI ((A.nthA x0 (A.nat n31)).cellAt 1).toI ((A.nthA x0 (A.nat n31)).cellAt 2).toI ((A.nthA x0 (A.nat n31)).cellAt 3).toIs ((A.nthA x0 (A.nat n31)).cellAt 4).toI ((A.nthA x0 (A.nat n31)).cellAt 0).toI ((A.nthA x0 (A.nat n31)).cellAt 1).toI ((A.nthA x0 (A.nat n31)).cellAt 2).toI ((A.nthA x0 (A.nat n31)).cellAt 3).toIs ((A.nthA x0 (A.nat n31)).cellAt 4).toI (A.add n27 1) (A.eq ((A.nthA x0 (A.nat n31)).cellAt 4).toI (A.add n27 1)) (A.sub3 ((A.nthA x0 (A.nat n31)).cellAt 3).toIs (A.nat ((A.nthA x0 (A.nat n31)).cellAt 2).toI) (A.len ((A.nthA x0 (A.nat n31)).cellAt 3).toIs-A.nat ((A.nthA x0 (A.nat n31)).cellAt 2).toI)) ((A.nthA x0 (A.nat n31)).cellAt 0).toI ((A.nthA x0 (A.nat n31)).cellAt 1).toI ((A.nthA x0 (A.nat n31)).cellAt 2).toI ((A.nthA x0 (A.nat n31)).cellAt 3).toIs ((A.nthA x0 (A.nat n31)).cellAt 4).toI (n27) (n31) (n27)):=by kernel_rfl
theorem ZE8(A:Ar)(x0:List AV)(n1:Int)(l22:List Int)(n27 n31:Int):Zad A tab BOp 72 [true,true,false,false,false] (Zbx x0 n1 l22 n27 n31) (Zbb x0 n1 l22 n27 n31)=
 some (tr [3,0,6,8,3,4,11,8,0,1] [decide (0<List.length l22+List.length ((A.nthA x0 (A.nat n31)).cellAt 3).toIs∧List.length l22+List.length ((A.nthA x0 (A.nat n31)).cellAt 3).toIs≤1000000),List.all [AV.list (.ints .i64 l22),AV.list (.ints .i64 ((A.nthA x0 (A.nat n31)).cellAt 3).toIs)] fun x=>AV.bx x&&Nat.beq (Zac A x) 1,!A.not true,!A.not (A.eq ((A.nthA x0 (A.nat n31)).cellAt 2).toI (ZkT (↑(List.length ((A.nthA x0 (A.nat n31)).cellAt 3).toIs)) l22 ((A.nthA x0 (A.nat n31)).cellAt 3).toIs)),decide (ZlM l22 ((A.nthA x0 (A.nat n31)).cellAt 3).toIs=true),!A.not (A.eq ((A.nthA x0 (A.nat n31)).cellAt 4).toI (A.add n27 1)),A.inR .i64 (A.add n27 1),Zab (Zab (A.le 0 n31) (Nat.blt (A.nat n31) (A.lenA x0))) true,A.lt n31 n1],
  ZdF (x0) (n1) (A.lt n31 n1) ((A.nthA x0 (A.nat n31)).cellAt 0).toI ((A.nthA x0 (A.nat n31)).cellAt 1).toI ((A.nthA x0 (A.nat n31)).cellAt 2).toI ((A.nthA x0 (A.nat n31)).cellAt 3).toIs ((A.nthA x0 (A.nat n31)).cellAt 4).toI ((A.nthA x0 (A.nat n31)).cellAt 0).toI ((A.nthA x0 (A.nat n31)).cellAt 1).toI ((A.nthA x0 (A.nat n31)).cellAt 2).toI ((A.nthA x0 (A.nat n31)).cellAt 3).toIs ((A.nthA x0 (A.nat n31)).cellAt 4).toI ((A.nthA x0 (A.nat n31)).cellAt 0).toI ((A.nthA x0 (A.nat n31)).cellAt 1).toI ((A.nthA x0 (A.nat n31)).cellAt 2).toI ((A.nthA x0 (A.nat n31)).cellAt 3).toIs ((A.nthA x0 (A.nat n31)).cellAt 4).toI (A.add n27 1) (A.eq ((A.nthA x0 (A.nat n31)).cellAt 4).toI (A.add n27 1)) (List.append l22 ((A.nthA x0 (A.nat n31)).cellAt 3).toIs) ((A.nthA x0 (A.nat n31)).cellAt 0).toI ((A.nthA x0 (A.nat n31)).cellAt 1).toI ((A.nthA x0 (A.nat n31)).cellAt 2).toI ((A.nthA x0 (A.nat n31)).cellAt 3).toIs ((A.nthA x0 (A.nat n31)).cellAt 4).toI (n27) (n31) (n27)):=by kernel_rfl
theorem ZDx(A:Ar)(x0:List AV)(n1:Int)(l22:List Int)(n27 n31:Int):Zaz A tab BOp 16 [false] 16 (Zbx x0 n1 l22 n27 n31) (Zbb x0 n1 l22 n27 n31)=
 some (tr [5,1] [!A.lt n31 n1],
  AV.tup [AV.nils,AV.int .i64 0],none):=by kernel_rfl
theorem ZDa(A:Ar)(x0:List AV)(n1:Int)(l32:List Int)(x33:List AV)(n34 n35:Int)(b36:Bool)(n37 n38 n39:Int)(l40:List Int)(n41 n42 n43 n44:Int)(l45:List Int)(n46 n47 n48 n49:Int)(l50:List Int)(n51 n52 n53:Int)(b54:Bool)(n55 n56 n57:Int)(l58:List Int)(n59:Int):Zad A tab BOp 55 [true,true] (ZdB x0 n1 l32 x33 n34 n35 b36 n37 n38 n39 l40 n41 n42 n43 n44 l45 n46 n47 n48 n49 l50 n51 n52 n53 b54 n55 n56 n57 l58 n59) (ZcD x0 n1 l32 x33 n34 n35 b36 n37 n38 n39 l40 n41 n42 n43 n44 l45 n46 n47 n48 n49 l50 n51 n52 n53 b54 n55 n56 n57 l58 n59)=
 some (tr [1,4,8,1,4,6] [A.inR .i64 (A.add n35 1),A.lt (A.int (A.len l32)) (A.add 3 (A.nth l32 (A.nat 2))),A.inR .i64 (A.add 3 (A.nth l32 (A.nat 2))),Zab (Zab (A.le 0 2) (Nat.blt (A.nat 2) (A.len l32))) true,A.le 3 (A.int (A.len l32))],
  ZjN (x0) (n1) (l32) (x33) (n59) (A.add n35 1)):=by kernel_rfl
theorem ZDA(A:Ar)(x0:List AV)(n1:Int)(l32:List Int)(x33:List AV)(n34 n35:Int)(b36:Bool)(n37 n38 n39:Int)(l40:List Int)(n41 n42 n43 n44:Int)(l45:List Int)(n46 n47 n48 n49:Int)(l50:List Int)(n51 n52 n53:Int)(b54:Bool)(n55 n56 n57:Int)(l58:List Int)(n59:Int):Zad A tab BOp 67 [true,false,true] (ZdB x0 n1 l32 x33 n34 n35 b36 n37 n38 n39 l40 n41 n42 n43 n44 l45 n46 n47 n48 n49 l50 n51 n52 n53 b54 n55 n56 n57 l58 n59) (ZcD x0 n1 l32 x33 n34 n35 b36 n37 n38 n39 l40 n41 n42 n43 n44 l45 n46 n47 n48 n49 l50 n51 n52 n53 b54 n55 n56 n57 l58 n59)=
 some (tr [3,9,0,6,6,0,6,5,4,8,1,4,6] [Zab (Zab (A.le 0 (A.add 3 (A.nth l32 (A.nat 2)))) true) (Zab (Zab (Nat.ble (A.nat (A.add 3 (A.nth l32 (A.nat 2)))) (A.len l32)) (Nat.ble (A.len l32) (A.len l32))) true),Nat.ble (A.lenA x33+A.lenA [AV.agg (Row.gen [.int .i64 (A.nth l32 (A.nat 0)), .int .i64 (A.nth l32 (A.nat 1)), .list (.ints .i64 (A.sub3 l32 (A.nat 3) (A.nat (A.add 3 (A.nth l32 (A.nat 2)))-A.nat 3)))])]) 4294967296,List.all [AV.agg (Row.gen [.int .i64 (A.nth l32 (A.nat 0)), .int .i64 (A.nth l32 (A.nat 1)), .list (.ints .i64 (A.sub3 l32 (A.nat 3) (A.nat (A.add 3 (A.nth l32 (A.nat 2)))-A.nat 3)))])] fun x=>AV.bx x&&Nat.beq (Zac A x) 3,A.not (A.eq (A.nth l32 (A.nat 0)) 255),decide (List.length (A.sub3 l32 (A.nat 3) (A.nat (A.add 3 (A.nth l32 (A.nat 2)))-A.nat 3))≤4294967296),Zab (Zab (A.le 0 3) (A.le 0 (A.add 3 (A.nth l32 (A.nat 2))))) (Zab (Zab (Nat.ble (A.nat 3) (A.nat (A.add 3 (A.nth l32 (A.nat 2))))) (Nat.ble (A.nat (A.add 3 (A.nth l32 (A.nat 2)))) (A.len l32))) true),Zab (Zab (A.le 0 1) (Nat.blt (A.nat 1) (A.len l32))) true,Zab (Zab (A.le 0 0) (Nat.blt (A.nat 0) (A.len l32))) true,!A.lt (A.int (A.len l32)) (A.add 3 (A.nth l32 (A.nat 2))),A.inR .i64 (A.add 3 (A.nth l32 (A.nat 2))),Zab (Zab (A.le 0 2) (Nat.blt (A.nat 2) (A.len l32))) true,A.le 3 (A.int (A.len l32))],
  Zb6 (x0) (n1) (A.sub3 l32 (A.nat (A.add 3 (A.nth l32 (A.nat 2)))) (A.len l32-A.nat (A.add 3 (A.nth l32 (A.nat 2))))) (A.appA x33 [AV.agg (Row.gen [.int .i64 (A.nth l32 (A.nat 0)), .int .i64 (A.nth l32 (A.nat 1)), .list (.ints .i64 (A.sub3 l32 (A.nat 3) (A.nat (A.add 3 (A.nth l32 (A.nat 2)))-A.nat 3)))])]) (n34) (n35) (b36) (n37) (n38) (n39) (l40) (n41) (n42) (n43) (n44) (l45) (n46) (n47) (n48) (n49) (l50) (n51) (n52) (n53) (b54) (n55) (n56) (n57) (l58) (n59)):=by kernel_rfl
theorem ZHK(A:Ar)(x0:List AV)(n1:Int)(l32:List Int)(x33:List AV)(n34 n35:Int)(b36:Bool)(n37 n38 n39:Int)(l40:List Int)(n41 n42 n43 n44:Int)(l45:List Int)(n46 n47 n48 n49:Int)(l50:List Int)(n51 n52 n53:Int)(b54:Bool)(n55 n56 n57:Int)(l58:List Int)(n59:Int):Zad A tab BOp 67 [true,false,false] (ZdB x0 n1 l32 x33 n34 n35 b36 n37 n38 n39 l40 n41 n42 n43 n44 l45 n46 n47 n48 n49 l50 n51 n52 n53 b54 n55 n56 n57 l58 n59) (ZcD x0 n1 l32 x33 n34 n35 b36 n37 n38 n39 l40 n41 n42 n43 n44 l45 n46 n47 n48 n49 l50 n51 n52 n53 b54 n55 n56 n57 l58 n59)=
 some (tr [3,6,6,0,6,5,4,8,1,4,6] [Zab (Zab (A.le 0 (A.add 3 (A.nth l32 (A.nat 2)))) true) (Zab (Zab (Nat.ble (A.nat (A.add 3 (A.nth l32 (A.nat 2)))) (A.len l32)) (Nat.ble (A.len l32) (A.len l32))) true),!A.not (A.eq (A.nth l32 (A.nat 0)) 255),decide (List.length (A.sub3 l32 (A.nat 3) (A.nat (A.add 3 (A.nth l32 (A.nat 2)))-A.nat 3))≤4294967296),Zab (Zab (A.le 0 3) (A.le 0 (A.add 3 (A.nth l32 (A.nat 2))))) (Zab (Zab (Nat.ble (A.nat 3) (A.nat (A.add 3 (A.nth l32 (A.nat 2))))) (Nat.ble (A.nat (A.add 3 (A.nth l32 (A.nat 2)))) (A.len l32))) true),Zab (Zab (A.le 0 1) (Nat.blt (A.nat 1) (A.len l32))) true,Zab (Zab (A.le 0 0) (Nat.blt (A.nat 0) (A.len l32))) true,!A.lt (A.int (A.len l32)) (A.add 3 (A.nth l32 (A.nat 2))),A.inR .i64 (A.add 3 (A.nth l32 (A.nat 2))),Zab (Zab (A.le 0 2) (Nat.blt (A.nat 2) (A.len l32))) true,A.le 3 (A.int (A.len l32))],
  Zb6 (x0) (n1) (A.sub3 l32 (A.nat (A.add 3 (A.nth l32 (A.nat 2)))) (A.len l32-A.nat (A.add 3 (A.nth l32 (A.nat 2))))) (x33) (n34) (n35) (b36) (n37) (n38) (n39) (l40) (n41) (n42) (n43) (n44) (l45) (n46) (n47) (n48) (n49) (l50) (n51) (n52) (n53) (b54) (n55) (n56) (n57) (l58) (n59)):=by kernel_rfl
theorem ZwQ(A:Ar)(x0:List AV)(n1:Int)(l32:List Int)(x33:List AV)(n34 n35:Int)(b36:Bool)(n37 n38 n39:Int)(l40:List Int)(n41 n42 n43 n44:Int)(l45:List Int)(n46 n47 n48 n49:Int)(l50:List Int)(n51 n52 n53:Int)(b54:Bool)(n55 n56 n57:Int)(l58:List Int)(n59:Int):Zad A tab BOp 29 [false] (ZdB x0 n1 l32 x33 n34 n35 b36 n37 n38 n39 l40 n41 n42 n43 n44 l45 n46 n47 n48 n49 l50 n51 n52 n53 b54 n55 n56 n57 l58 n59) (ZcD x0 n1 l32 x33 n34 n35 b36 n37 n38 n39 l40 n41 n42 n43 n44 l45 n46 n47 n48 n49 l50 n51 n52 n53 b54 n55 n56 n57 l58 n59)=
 some (tr [1,4,6] [A.inR .i64 (A.add n35 1),!A.le 3 (A.int (A.len l32))],
  ZjN (x0) (n1) (l32) (x33) (n59) (A.add n35 1)):=by kernel_rfl
theorem ZDu(A:Ar)(x0:List AV)(n1:Int)(l32:List Int)(x33:List AV)(n59 n60:Int):Zad A tab BOp 92 [true,true,true,true,true,true] (Zbv x0 n1 l32 x33 n59 n60) (Zba x0 n1 l32 x33 n59 n60)=
 some (tr [1,4,3,27,11,8,0,1] [A.inR .i64 (A.add n60 1),A.eq ((A.nthA x0 (A.nat n60)).cellAt 2).toI 255,A.not false,A.not (A.eq ((A.nthA x0 (A.nat n60)).cellAt 4).toI (A.add n59 1)),A.inR .i64 (A.add n59 1),Zab (Zab (A.le 0 n60) (Nat.blt (A.nat n60) (A.lenA x0))) true,A.lt n60 n1],
  ZgB (x0) (n1) (x33) ((A.nthA x0 (A.nat n60)).cellAt 4).toI (A.add n60 1)):=by kernel_rfl
theorem ZG1(A:Ar)(x0:List AV)(n1:Int)(l32:List Int)(x33:List AV)(n59 n60:Int):Zad A tab BOp 96 [true,true,true,true,true,false] (Zbv x0 n1 l32 x33 n59 n60) (Zba x0 n1 l32 x33 n59 n60)=
 some (tr [3,0,10,4,3,27,11,8,0,1] [decide (0<List.length (A.sub3 ((A.nthA x0 (A.nat n60)).cellAt 3).toIs (A.nat ((A.nthA x0 (A.nat n60)).cellAt 2).toI) (A.len ((A.nthA x0 (A.nat n60)).cellAt 3).toIs-A.nat ((A.nthA x0 (A.nat n60)).cellAt 2).toI))∧List.length (A.sub3 ((A.nthA x0 (A.nat n60)).cellAt 3).toIs (A.nat ((A.nthA x0 (A.nat n60)).cellAt 2).toI) (A.len ((A.nthA x0 (A.nat n60)).cellAt 3).toIs-A.nat ((A.nthA x0 (A.nat n60)).cellAt 2).toI))≤1000000),List.all [AV.nils,AV.list (.ints .i64 (A.sub3 ((A.nthA x0 (A.nat n60)).cellAt 3).toIs (A.nat ((A.nthA x0 (A.nat n60)).cellAt 2).toI) (A.len ((A.nthA x0 (A.nat n60)).cellAt 3).toIs-A.nat ((A.nthA x0 (A.nat n60)).cellAt 2).toI)))] fun x=>AV.bx x&&Nat.beq (Zac A x) 1,Zab (Zab (A.le 0 ((A.nthA x0 (A.nat n60)).cellAt 2).toI) true) (Zab (Zab (Nat.ble (A.nat ((A.nthA x0 (A.nat n60)).cellAt 2).toI) (A.len ((A.nthA x0 (A.nat n60)).cellAt 3).toIs)) (Nat.ble (A.len ((A.nthA x0 (A.nat n60)).cellAt 3).toIs) (A.len ((A.nthA x0 (A.nat n60)).cellAt 3).toIs))) true),!A.eq ((A.nthA x0 (A.nat n60)).cellAt 2).toI 255,A.not false,A.not (A.eq ((A.nthA x0 (A.nat n60)).cellAt 4).toI (A.add n59 1)),A.inR .i64 (A.add n59 1),Zab (Zab (A.le 0 n60) (Nat.blt (A.nat n60) (A.lenA x0))) true,A.lt n60 n1],
  Zb6 (x0) (n1) (A.sub3 ((A.nthA x0 (A.nat n60)).cellAt 3).toIs (A.nat ((A.nthA x0 (A.nat n60)).cellAt 2).toI) (A.len ((A.nthA x0 (A.nat n60)).cellAt 3).toIs-A.nat ((A.nthA x0 (A.nat n60)).cellAt 2).toI)) (x33) (n59) (n60) (A.lt n60 n1) ((A.nthA x0 (A.nat n60)).cellAt 0).toI ((A.nthA x0 (A.nat n60)).cellAt 1).toI ((A.nthA x0 (A.nat n60)).cellAt 2).toI ((A.nthA x0 (A.nat n60)).cellAt 3).toIs ((A.nthA x0 (A.nat n60)).cellAt 4).toI ((A.nthA x0 (A.nat n60)).cellAt 0).toI ((A.nthA x0 (A.nat n60)).cellAt 1).toI ((A.nthA x0 (A.nat n60)).cellAt 2).toI ((A.nthA x0 (A.nat n60)).cellAt 3).toIs ((A.nthA x0 (A.nat n60)).cellAt 4).toI ((A.nthA x0 (A.nat n60)).cellAt 0).toI ((A.nthA x0 (A.nat n60)).cellAt 1).toI ((A.nthA x0 (A.nat n60)).cellAt 2).toI ((A.nthA x0 (A.nat n60)).cellAt 3).toIs ((A.nthA x0 (A.nat n60)).cellAt 4).toI (n59) (A.add n59 1) (A.eq ((A.nthA x0 (A.nat n60)).cellAt 4).toI (A.add n59 1)) ((A.nthA x0 (A.nat n60)).cellAt 0).toI ((A.nthA x0 (A.nat n60)).cellAt 1).toI ((A.nthA x0 (A.nat n60)).cellAt 2).toI ((A.nthA x0 (A.nat n60)).cellAt 3).toIs ((A.nthA x0 (A.nat n60)).cellAt 4).toI):=by kernel_rfl
theorem ZFA(A:Ar)(x0:List AV)(n1:Int)(l32:List Int)(x33:List AV)(n59 n60:Int):Zad A tab BOp 92 [true,true,false,true,true,true] (Zbv x0 n1 l32 x33 n59 n60) (Zba x0 n1 l32 x33 n59 n60)=
 some (tr [1,4,3,18,3,4,11,8,0,1] [A.inR .i64 (A.add n60 1),A.eq ((A.nthA x0 (A.nat n60)).cellAt 2).toI 255,A.not false,A.not (A.eq ((A.nthA x0 (A.nat n60)).cellAt 2).toI (ZkT (↑(List.length ((A.nthA x0 (A.nat n60)).cellAt 3).toIs)) l32 ((A.nthA x0 (A.nat n60)).cellAt 3).toIs)),decide (ZlM l32 ((A.nthA x0 (A.nat n60)).cellAt 3).toIs=true),!A.not (A.eq ((A.nthA x0 (A.nat n60)).cellAt 4).toI (A.add n59 1)),A.inR .i64 (A.add n59 1),Zab (Zab (A.le 0 n60) (Nat.blt (A.nat n60) (A.lenA x0))) true,A.lt n60 n1],
  ZgB (x0) (n1) (x33) ((A.nthA x0 (A.nat n60)).cellAt 4).toI (A.add n60 1)):=by kernel_rfl
theorem ZE3(A:Ar)(x0:List AV)(n1:Int)(l32:List Int)(x33:List AV)(n59 n60:Int):Zad A tab BOp 96 [true,true,false,true,true,false] (Zbv x0 n1 l32 x33 n59 n60) (Zba x0 n1 l32 x33 n59 n60)=
 some (tr [3,0,10,4,3,18,3,4,11,8,0,1] [decide (0<List.length (A.sub3 ((A.nthA x0 (A.nat n60)).cellAt 3).toIs (A.nat ((A.nthA x0 (A.nat n60)).cellAt 2).toI) (A.len ((A.nthA x0 (A.nat n60)).cellAt 3).toIs-A.nat ((A.nthA x0 (A.nat n60)).cellAt 2).toI))∧List.length (A.sub3 ((A.nthA x0 (A.nat n60)).cellAt 3).toIs (A.nat ((A.nthA x0 (A.nat n60)).cellAt 2).toI) (A.len ((A.nthA x0 (A.nat n60)).cellAt 3).toIs-A.nat ((A.nthA x0 (A.nat n60)).cellAt 2).toI))≤1000000),List.all [AV.nils,AV.list (.ints .i64 (A.sub3 ((A.nthA x0 (A.nat n60)).cellAt 3).toIs (A.nat ((A.nthA x0 (A.nat n60)).cellAt 2).toI) (A.len ((A.nthA x0 (A.nat n60)).cellAt 3).toIs-A.nat ((A.nthA x0 (A.nat n60)).cellAt 2).toI)))] fun x=>AV.bx x&&Nat.beq (Zac A x) 1,Zab (Zab (A.le 0 ((A.nthA x0 (A.nat n60)).cellAt 2).toI) true) (Zab (Zab (Nat.ble (A.nat ((A.nthA x0 (A.nat n60)).cellAt 2).toI) (A.len ((A.nthA x0 (A.nat n60)).cellAt 3).toIs)) (Nat.ble (A.len ((A.nthA x0 (A.nat n60)).cellAt 3).toIs) (A.len ((A.nthA x0 (A.nat n60)).cellAt 3).toIs))) true),!A.eq ((A.nthA x0 (A.nat n60)).cellAt 2).toI 255,A.not false,A.not (A.eq ((A.nthA x0 (A.nat n60)).cellAt 2).toI (ZkT (↑(List.length ((A.nthA x0 (A.nat n60)).cellAt 3).toIs)) l32 ((A.nthA x0 (A.nat n60)).cellAt 3).toIs)),decide (ZlM l32 ((A.nthA x0 (A.nat n60)).cellAt 3).toIs=true),!A.not (A.eq ((A.nthA x0 (A.nat n60)).cellAt 4).toI (A.add n59 1)),A.inR .i64 (A.add n59 1),Zab (Zab (A.le 0 n60) (Nat.blt (A.nat n60) (A.lenA x0))) true,A.lt n60 n1],
  Zb6 (x0) (n1) (A.sub3 ((A.nthA x0 (A.nat n60)).cellAt 3).toIs (A.nat ((A.nthA x0 (A.nat n60)).cellAt 2).toI) (A.len ((A.nthA x0 (A.nat n60)).cellAt 3).toIs-A.nat ((A.nthA x0 (A.nat n60)).cellAt 2).toI)) (x33) (n59) (n60) (A.lt n60 n1) ((A.nthA x0 (A.nat n60)).cellAt 0).toI ((A.nthA x0 (A.nat n60)).cellAt 1).toI ((A.nthA x0 (A.nat n60)).cellAt 2).toI ((A.nthA x0 (A.nat n60)).cellAt 3).toIs ((A.nthA x0 (A.nat n60)).cellAt 4).toI ((A.nthA x0 (A.nat n60)).cellAt 0).toI ((A.nthA x0 (A.nat n60)).cellAt 1).toI ((A.nthA x0 (A.nat n60)).cellAt 2).toI ((A.nthA x0 (A.nat n60)).cellAt 3).toIs ((A.nthA x0 (A.nat n60)).cellAt 4).toI ((A.nthA x0 (A.nat n60)).cellAt 0).toI ((A.nthA x0 (A.nat n60)).cellAt 1).toI ((A.nthA x0 (A.nat n60)).cellAt 2).toI ((A.nthA x0 (A.nat n60)).cellAt 3).toIs ((A.nthA x0 (A.nat n60)).cellAt 4).toI (n59) (A.add n59 1) (A.eq ((A.nthA x0 (A.nat n60)).cellAt 4).toI (A.add n59 1)) ((A.nthA x0 (A.nat n60)).cellAt 0).toI ((A.nthA x0 (A.nat n60)).cellAt 1).toI ((A.nthA x0 (A.nat n60)).cellAt 2).toI ((A.nthA x0 (A.nat n60)).cellAt 3).toIs ((A.nthA x0 (A.nat n60)).cellAt 4).toI):=by kernel_rfl
theorem ZDd(A:Ar)(x0:List AV)(n1:Int)(l32:List Int)(x33:List AV)(n59 n60:Int):Zad A tab BOp 72 [true,true,false,false,false] (Zbv x0 n1 l32 x33 n59 n60) (Zba x0 n1 l32 x33 n59 n60)=
 some (tr [3,0,6,8,3,4,11,8,0,1] [decide (0<List.length l32+List.length ((A.nthA x0 (A.nat n60)).cellAt 3).toIs∧List.length l32+List.length ((A.nthA x0 (A.nat n60)).cellAt 3).toIs≤1000000),List.all [AV.list (.ints .i64 l32),AV.list (.ints .i64 ((A.nthA x0 (A.nat n60)).cellAt 3).toIs)] fun x=>AV.bx x&&Nat.beq (Zac A x) 1,!A.not true,!A.not (A.eq ((A.nthA x0 (A.nat n60)).cellAt 2).toI (ZkT (↑(List.length ((A.nthA x0 (A.nat n60)).cellAt 3).toIs)) l32 ((A.nthA x0 (A.nat n60)).cellAt 3).toIs)),decide (ZlM l32 ((A.nthA x0 (A.nat n60)).cellAt 3).toIs=true),!A.not (A.eq ((A.nthA x0 (A.nat n60)).cellAt 4).toI (A.add n59 1)),A.inR .i64 (A.add n59 1),Zab (Zab (A.le 0 n60) (Nat.blt (A.nat n60) (A.lenA x0))) true,A.lt n60 n1],
  Zb6 (x0) (n1) (List.append l32 ((A.nthA x0 (A.nat n60)).cellAt 3).toIs) (x33) (n59) (n60) (A.lt n60 n1) ((A.nthA x0 (A.nat n60)).cellAt 0).toI ((A.nthA x0 (A.nat n60)).cellAt 1).toI ((A.nthA x0 (A.nat n60)).cellAt 2).toI ((A.nthA x0 (A.nat n60)).cellAt 3).toIs ((A.nthA x0 (A.nat n60)).cellAt 4).toI ((A.nthA x0 (A.nat n60)).cellAt 0).toI ((A.nthA x0 (A.nat n60)).cellAt 1).toI ((A.nthA x0 (A.nat n60)).cellAt 2).toI ((A.nthA x0 (A.nat n60)).cellAt 3).toIs ((A.nthA x0 (A.nat n60)).cellAt 4).toI ((A.nthA x0 (A.nat n60)).cellAt 0).toI ((A.nthA x0 (A.nat n60)).cellAt 1).toI ((A.nthA x0 (A.nat n60)).cellAt 2).toI ((A.nthA x0 (A.nat n60)).cellAt 3).toIs ((A.nthA x0 (A.nat n60)).cellAt 4).toI (n59) (A.add n59 1) (A.eq ((A.nthA x0 (A.nat n60)).cellAt 4).toI (A.add n59 1)) ((A.nthA x0 (A.nat n60)).cellAt 0).toI ((A.nthA x0 (A.nat n60)).cellAt 1).toI ((A.nthA x0 (A.nat n60)).cellAt 2).toI ((A.nthA x0 (A.nat n60)).cellAt 3).toIs ((A.nthA x0 (A.nat n60)).cellAt 4).toI):=by kernel_rfl
theorem ZGN(A:Ar)(x0:List AV)(n1:Int)(l32:List Int)(x33:List AV)(n59 n60:Int):Zaz A tab BOp 16 [false] 16 (Zbv x0 n1 l32 x33 n59 n60) (Zba x0 n1 l32 x33 n59 n60)=
 some (tr [5,1] [!A.lt n60 n1],
  AV.tup [AV.row 0 0,AV.int .i64 0],some { e:=57,sz:=3,r:=Row.big (.agg [.int .i64, .int .i64, .ints .i64]) x33 }):=by kernel_rfl
theorem ZH0(A:Ar)(x0:List AV)(n1:Int)(x33:List AV)(n61 n62:Int):Zad A tab BOp 77 [true,false,false,true,true] (ZdH x0 n1 x33 n61 n62) (ZcL x0 n1 x33 n61 n62)=
 some (tr [1,4,3,28,8,0,1] [A.inR .i64 (A.add n62 1),A.eq ((A.nthA x0 (A.nat n62)).cellAt 2).toI 255,A.not false,A.inR .i64 (A.add n61 1),Zab (Zab (A.le 0 n62) (Nat.blt (A.nat n62) (A.lenA x0))) true,A.lt n62 n1],
  ZgB (x0) (n1) (x33) ((A.nthA x0 (A.nat n62)).cellAt 4).toI (A.add n62 1)):=by kernel_rfl
theorem ZH7(A:Ar)(x0:List AV)(n1:Int)(x33:List AV)(n61 n62:Int):Zad A tab BOp 81 [true,false,false,true,false] (ZdH x0 n1 x33 n61 n62) (ZcL x0 n1 x33 n61 n62)=
 some (tr [3,0,10,4,3,28,8,0,1] [decide (0<List.length (A.sub3 ((A.nthA x0 (A.nat n62)).cellAt 3).toIs (A.nat ((A.nthA x0 (A.nat n62)).cellAt 2).toI) (A.len ((A.nthA x0 (A.nat n62)).cellAt 3).toIs-A.nat ((A.nthA x0 (A.nat n62)).cellAt 2).toI))∧List.length (A.sub3 ((A.nthA x0 (A.nat n62)).cellAt 3).toIs (A.nat ((A.nthA x0 (A.nat n62)).cellAt 2).toI) (A.len ((A.nthA x0 (A.nat n62)).cellAt 3).toIs-A.nat ((A.nthA x0 (A.nat n62)).cellAt 2).toI))≤1000000),List.all [AV.nils,AV.list (.ints .i64 (A.sub3 ((A.nthA x0 (A.nat n62)).cellAt 3).toIs (A.nat ((A.nthA x0 (A.nat n62)).cellAt 2).toI) (A.len ((A.nthA x0 (A.nat n62)).cellAt 3).toIs-A.nat ((A.nthA x0 (A.nat n62)).cellAt 2).toI)))] fun x=>AV.bx x&&Nat.beq (Zac A x) 1,Zab (Zab (A.le 0 ((A.nthA x0 (A.nat n62)).cellAt 2).toI) true) (Zab (Zab (Nat.ble (A.nat ((A.nthA x0 (A.nat n62)).cellAt 2).toI) (A.len ((A.nthA x0 (A.nat n62)).cellAt 3).toIs)) (Nat.ble (A.len ((A.nthA x0 (A.nat n62)).cellAt 3).toIs) (A.len ((A.nthA x0 (A.nat n62)).cellAt 3).toIs))) true),!A.eq ((A.nthA x0 (A.nat n62)).cellAt 2).toI 255,A.not false,A.inR .i64 (A.add n61 1),Zab (Zab (A.le 0 n62) (Nat.blt (A.nat n62) (A.lenA x0))) true,A.lt n62 n1],
  Zb6 (x0) (n1) (A.sub3 ((A.nthA x0 (A.nat n62)).cellAt 3).toIs (A.nat ((A.nthA x0 (A.nat n62)).cellAt 2).toI) (A.len ((A.nthA x0 (A.nat n62)).cellAt 3).toIs-A.nat ((A.nthA x0 (A.nat n62)).cellAt 2).toI)) (x33) (n61) (n62) (A.lt n62 n1) ((A.nthA x0 (A.nat n62)).cellAt 0).toI ((A.nthA x0 (A.nat n62)).cellAt 1).toI ((A.nthA x0 (A.nat n62)).cellAt 2).toI ((A.nthA x0 (A.nat n62)).cellAt 3).toIs ((A.nthA x0 (A.nat n62)).cellAt 4).toI ((A.nthA x0 (A.nat n62)).cellAt 0).toI ((A.nthA x0 (A.nat n62)).cellAt 1).toI ((A.nthA x0 (A.nat n62)).cellAt 2).toI ((A.nthA x0 (A.nat n62)).cellAt 3).toIs ((A.nthA x0 (A.nat n62)).cellAt 4).toI ((A.nthA x0 (A.nat n62)).cellAt 0).toI ((A.nthA x0 (A.nat n62)).cellAt 1).toI ((A.nthA x0 (A.nat n62)).cellAt 2).toI ((A.nthA x0 (A.nat n62)).cellAt 3).toIs ((A.nthA x0 (A.nat n62)).cellAt 4).toI (n61) (A.add n61 1) (A.eq ((A.nthA x0 (A.nat n62)).cellAt 4).toI (A.add n61 1)) ((A.nthA x0 (A.nat n62)).cellAt 0).toI ((A.nthA x0 (A.nat n62)).cellAt 1).toI ((A.nthA x0 (A.nat n62)).cellAt 2).toI ((A.nthA x0 (A.nat n62)).cellAt 3).toIs ((A.nthA x0 (A.nat n62)).cellAt 4).toI):=by kernel_rfl
theorem ZHT(A:Ar)(x0:List AV)(n1:Int)(x33:List AV)(n61 n62:Int):Zaz A tab BOp 16 [false] 16 (ZdH x0 n1 x33 n61 n62) (ZcL x0 n1 x33 n61 n62)=
 some (tr [5,1] [!A.lt n62 n1],
  AV.tup [AV.row 0 0,AV.int .i64 0],some { e:=57,sz:=3,r:=Row.big (.agg [.int .i64, .int .i64, .ints .i64]) x33 }):=by kernel_rfl
end Go.Proofs.Ytjhdnpmojhkbjaa
/- Extraction. No condition. -/
namespace Go.Proofs.Ytjhdnpmojhkbjaa
abbrev shP:Sh:=.agg [.int .i64, .int .i64, .ints .i64]
def Q16:List AV→List AFrame→Zaa→Prop
 |[]=>ZdV 16 (.tup [.nils, .int .i64 0]) none
 |z::Z=>ZdV 16 (.tup [.row 0 0, .int .i64 0]) (some ⟨57,3, .big shP (z::Z)⟩)
def ZtY(C:Ctx)(L:List AV)(n last i:Int)(Q:List AFrame→Zaa→Prop):Option (List Int)→List AV→Prop
 |none,[]=>Ev C (ZdU L n last i) (ZcN L n last i) Q
 |some p,[]=>Ev C (Zbx L n p last i) (Zbb L n p last i) Q
 |some p,y::Y=>Ev C (Zbv L n p (y::Y) last i) (Zba L n p (y::Y) last i) Q
 |none,y::Y=>Ev C (ZdH L n (y::Y) last i) (ZcL L n (y::Y) last i) Q
theorem Zdv(p:List Int)(e:Nat):(p.drop e).take (p.length-e)=p.drop e:=List.take_of_length_le (by rw[List.length_drop];exact Nat.le_refl _)
section
variable {C:Ctx}(hC:C.P=Try.prog){Q:List AFrame→Zaa→Prop}(x0:List AV)(n1 last i:Int)(hi:0≤i∧i≤100000)
include hC hi
theorem ZrZ:∀(m:Nat) (p:List Int) (X:List AV) {n34:Int} {b36:Bool} {n37:Int} {n38:Int} {n39:Int} {l40:List Int} {n41:Int} {n42:Int} {n43:Int} {n44:Int} {l45:List Int} {n46:Int} {n47:Int} {n48:Int} {n49:Int} {l50:List Int} {n51:Int} {n52:Int} {n53:Int} {b54:Bool} {n55:Int} {n56:Int} {n57:Int} {l58:List Int},p.length≤m→bytP p→p.length≤1000→X≠[]→X.length+p.length≤1000000→ZtY C x0 n1 last (i+1) Q (some (eat p).2) (X++(eat p).1)→
 Ev C (ZdB x0 n1 p X n34 i b36 n37 n38 n39 l40 n41 n42 n43 n44 l45 n46 n47 n48 n49 l50 n51 n52 n53 b54 n55 n56 n57 l58 last) (ZcD x0 n1 p X n34 i b36 n37 n38 n39 l40 n41 n42 n43 n44 l45 n46 n47 n48 n49 l50 n51 n52 n53 b54 n55 n56 n57 l58 last) Q:=by
 intro m
 induction m with
 |zero=>
  intro p X n34 b36 n37 n38 n39 l40 n41 n42 n43 n44 l45 n46 n47 n48 n49 l50 n51 n52 n53 b54 n55 n56 n57 l58 hm hb hl hX hXl hq
  have h1:p.length<3:=by omega
  rw[Zdi (.inl h1),List.append_nil]at hq
  obtain⟨y,Y,rfl⟩:∃y Y,X=y::Y:=by cases X with |nil=>exact absurd rfl hX |cons y Y=>exact⟨y,Y,rfl⟩
  exact go hC ZaO (ZwQ std x0 n1 p (y::Y) n34 i b36 n37 n38 n39 l40 n41 n42 n43 n44 l45 n46 n47 n48 n49 l50 n51 n52 n53 b54 n55 n56 n57 l58 last) (by simp;omega) hq
 |succ m ih=>
  intro p X n34 b36 n37 n38 n39 l40 n41 n42 n43 n44 l45 n46 n47 n48 n49 l50 n51 n52 n53 b54 n55 n56 n57 l58 hm hb hl hX hXl hq
  have hv:=Zcz hb 2
  by_cases h1:p.length<3
  ·rw[Zdi (.inl h1),List.append_nil]at hq
   obtain⟨y,Y,rfl⟩:∃y Y,X=y::Y:=by cases X with |nil=>exact absurd rfl hX |cons y Y=>exact⟨y,Y,rfl⟩
   exact go hC ZaO (ZwQ std x0 n1 p (y::Y) n34 i b36 n37 n38 n39 l40 n41 n42 n43 n44 l45 n46 n47 n48 n49 l50 n51 n52 n53 b54 n55 n56 n57 l58 last) (by simp;omega) hq
  ·by_cases h2:(p.length:Int)<3+p.getD 2 0
   ·rw[Zdi (.inr h2),List.append_nil]at hq
    obtain⟨y,Y,rfl⟩:∃y Y,X=y::Y:=by cases X with |nil=>exact absurd rfl hX |cons y Y=>exact⟨y,Y,rfl⟩
    have hw:=ZDa std x0 n1 p (y::Y) n34 i b36 n37 n38 n39 l40 n41 n42 n43 n44 l45 n46 n47 n48 n49 l50 n51 n52 n53 b54 n55 n56 n57 l58 last
    simp only[ZaC,Zfw,ZbT,ZfQ,ZcZ,show Int.toNat 2=2 from rfl]at hw
    refine go hC ZaO hw ?_ hq
    generalize p.getD 2 0=v at*
    simp;omega
   ·have hlen:(p.drop (3+p.getD 2 0).toNat).length=p.length-(3+p.getD 2 0).toNat:=List.length_drop
    have e3:(3+p.getD 2 0).toNat-3=(p.getD 2 0).toNat:=by omega
    have hlp:(((p.drop 3).take (p.getD 2 0).toNat).length≤4294967296):=by rw[List.length_take];omega
    rw[ZkC hb (by omega) (by omega)]at hq
    by_cases h3:p.getD 0 0=255
    ·rw[if_pos h3,List.nil_append]at hq
     have hw:=ZHK std x0 n1 p X n34 i b36 n37 n38 n39 l40 n41 n42 n43 n44 l45 n46 n47 n48 n49 l50 n51 n52 n53 b54 n55 n56 n57 l58 last
     simp only[ZaC,Zfw,ZbT,ZfQ,ZcZ,Zfo,show Int.toNat 2=2 from rfl,show Int.toNat 0=0 from rfl,show Int.toNat 1=1 from rfl,show Int.toNat 3=3 from rfl,Zdv,e3]at hw
     refine go hC ZaO hw ?_ (ih _ X (by omega) (hb.drop _) (by omega) hX (by omega) hq)
     generalize hvv:p.getD 2 0=v at*
     generalize huu:p.getD 0 0=u at*
     generalize (p.drop 3).take v.toNat=dd at*
     simp[h3,hlp]
     omega
    ·rw[if_neg h3,List.singleton_append,←List.singleton_append,←List.append_assoc]at hq
     have hw:=ZDA std x0 n1 p X n34 i b36 n37 n38 n39 l40 n41 n42 n43 n44 l45 n46 n47 n48 n49 l50 n51 n52 n53 b54 n55 n56 n57 l58 last
     simp only[ZaC,Zfw,ZbT,ZfQ,ZcZ,Zfo,Zc6,show Int.toNat 2=2 from rfl,show Int.toNat 0=0 from rfl,show Int.toNat 1=1 from rfl,show Int.toNat 3=3 from rfl,Zdv,e3]at hw
     rw[show AV.agg (Row.gen [AV.int .i64 (p.getD 0 0),AV.int .i64 (p.getD 1 0),AV.list (.ints .i64 ((p.drop 3).take (p.getD 2 0).toNat))])=pkA p from rfl]at hw
     refine go hC ZaO hw ?_ (ih _ (X++[pkA p]) (by omega) (hb.drop _) (by omega) (by simp) (by rw[List.length_append,List.length_singleton];omega) hq)
     generalize hpk:pkA p=P at*
     have hP:P.bx=true∧Zac std P=3:=by rw[←hpk];exact⟨rfl,rfl⟩
     generalize hvv:p.getD 2 0=v at*
     generalize huu:p.getD 0 0=u at*
     generalize (p.drop 3).take v.toNat=dd at*
     simp[h3,hlp,hP]
     omega
theorem ZuB:∀(m:Nat) (p:List Int) {b4:Bool} {n5:Int} {n6:Int} {n7:Int} {l8:List Int} {n9:Int} {n10:Int} {n11:Int} {n12:Int} {l13:List Int} {n14:Int} {n15:Int} {n16:Int} {n17:Int} {l18:List Int} {n19:Int} {n20:Int} {b21:Bool} {n23:Int} {n24:Int} {n25:Int} {l26:List Int} {n28:Int} {n30:Int},p.length≤m→bytP p→p.length≤1000→ZtY C x0 n1 last (i+1) Q (some (eat p).2) (eat p).1→
 Ev C (ZdK x0 n1 b4 n5 n6 n7 l8 n9 n10 n11 n12 l13 n14 n15 n16 n17 l18 n19 n20 b21 p n23 n24 n25 l26 last n28 i n30) (ZcJ x0 n1 b4 n5 n6 n7 l8 n9 n10 n11 n12 l13 n14 n15 n16 n17 l18 n19 n20 b21 p n23 n24 n25 l26 last n28 i n30) Q:=by
 intro m
 induction m with
 |zero=>
  intro p b4 n5 n6 n7 l8 n9 n10 n11 n12 l13 n14 n15 n16 n17 l18 n19 n20 b21 n23 n24 n25 l26 n28 n30 hm hb hl hq
  have h1:p.length<3:=by omega
  rw[Zdi (.inl h1)]at hq
  exact go hC ZaO (ZE7 std x0 n1 b4 n5 n6 n7 l8 n9 n10 n11 n12 l13 n14 n15 n16 n17 l18 n19 n20 b21 p n23 n24 n25 l26 last n28 i n30) (by simp;omega) hq
 |succ m ih=>
  intro p b4 n5 n6 n7 l8 n9 n10 n11 n12 l13 n14 n15 n16 n17 l18 n19 n20 b21 n23 n24 n25 l26 n28 n30 hm hb hl hq
  have hv:=Zcz hb 2
  by_cases h1:p.length<3
  ·rw[Zdi (.inl h1)]at hq
   exact go hC ZaO (ZE7 std x0 n1 b4 n5 n6 n7 l8 n9 n10 n11 n12 l13 n14 n15 n16 n17 l18 n19 n20 b21 p n23 n24 n25 l26 last n28 i n30) (by simp;omega) hq
  ·by_cases h2:(p.length:Int)<3+p.getD 2 0
   ·rw[Zdi (.inr h2)]at hq
    have hw:=ZJX std x0 n1 b4 n5 n6 n7 l8 n9 n10 n11 n12 l13 n14 n15 n16 n17 l18 n19 n20 b21 p n23 n24 n25 l26 last n28 i n30
    simp only[ZaC,Zfw,ZbT,ZfQ,ZcZ,show Int.toNat 2=2 from rfl]at hw
    refine go hC ZaO hw ?_ hq
    generalize p.getD 2 0=v at*
    simp;omega
   ·have hlen:(p.drop (3+p.getD 2 0).toNat).length=p.length-(3+p.getD 2 0).toNat:=List.length_drop
    have e3:(3+p.getD 2 0).toNat-3=(p.getD 2 0).toNat:=by omega
    have hlp:(((p.drop 3).take (p.getD 2 0).toNat).length≤4294967296):=by rw[List.length_take];omega
    rw[ZkC hb (by omega) (by omega)]at hq
    by_cases h3:p.getD 0 0=255
    ·rw[if_pos h3,List.nil_append]at hq
     have hw:=ZNi std x0 n1 b4 n5 n6 n7 l8 n9 n10 n11 n12 l13 n14 n15 n16 n17 l18 n19 n20 b21 p n23 n24 n25 l26 last n28 i n30
     simp only[ZaC,Zfw,ZbT,ZfQ,ZcZ,Zfo,show Int.toNat 2=2 from rfl,show Int.toNat 0=0 from rfl,show Int.toNat 1=1 from rfl,show Int.toNat 3=3 from rfl,Zdv,e3]at hw
     refine go hC ZaO hw ?_ (ih _ (by omega) (hb.drop _) (by omega) hq)
     generalize hvv:p.getD 2 0=v at*
     generalize huu:p.getD 0 0=u at*
     generalize (p.drop 3).take v.toNat=dd at*
     simp[h3,hlp]
     omega
    ·rw[if_neg h3]at hq
     have hw:=ZNm std x0 n1 b4 n5 n6 n7 l8 n9 n10 n11 n12 l13 n14 n15 n16 n17 l18 n19 n20 b21 p n23 n24 n25 l26 last n28 i n30
     simp only[ZaC,Zfw,ZbT,ZfQ,ZcZ,Zfo,show Int.toNat 2=2 from rfl,show Int.toNat 0=0 from rfl,show Int.toNat 1=1 from rfl,show Int.toNat 3=3 from rfl,Zdv,e3]at hw
     rw[show AV.agg (Row.gen [AV.int .i64 (p.getD 0 0),AV.int .i64 (p.getD 1 0),AV.list (.ints .i64 ((p.drop 3).take (p.getD 2 0).toNat))])=pkA p from rfl]at hw
     refine go hC ZaO hw ?_ (ZrZ hC x0 n1 last i hi m _ [pkA p] (by omega) (hb.drop _) (by omega) (by simp) (by rw[List.length_singleton];omega) hq)
     generalize hpk:pkA p=P at*
     have hP:P.bx=true∧Zac std P=3:=by rw[←hpk];exact⟨rfl,rfl⟩
     generalize hvv:p.getD 2 0=v at*
     generalize huu:p.getD 0 0=u at*
     generalize (p.drop 3).take v.toNat=dd at*
     simp[h3,hlp,hP]
     omega
end
section
variable {C:Ctx}(hC:C.P=Try.prog){Q:List AFrame→Zaa→Prop}(L:List AV)(a:Int)(ha:4≤a∧a≤24)(i:Nat)(hi:i<L.length)(hL:L.length≤10000)(hx:okX a L[i])(hk: -400000≤Zav L[i]∧Zav L[i]≤400000)(last:Int)(hla: -400000≤last∧last≤400000)
include hC ha hi hL hx hk hla
theorem ZPB(hc:Zfu (none) last L[i]=none)(hq:ZtY C L L.length (Zav L[i]) ((i:Int)+1) Q (ZlJ (none) last L[i]) ([]++ZlF (none) last L[i])):
 Ev C (ZdU L L.length last i) (ZcN L L.length last i) Q:=by
 have hg:L.getD i .top=L[i]:=by simp[hi]
 have _:=hk
 have e2:std.add (i:Int) 1=((i:Int)+1):=rfl
 obtain⟨hf,hl,hb⟩:=hx
 unfold ZlJ ZlF Zs4 at hq
 rw[hc]at hq
 by_cases h5:fiN L[i]=255
 ·rw[if_pos h5]at hq
  have hw:=ZJY std L L.length last i
  simp only[ZaC,Zar,Int.toNat_natCast,hg,e2,show(AV.cellAt L[i] 2).toI=fiN L[i]from rfl,show(AV.cellAt L[i] 4).toI=Zav L[i]from rfl]at hw
  refine go hC ZaO hw ?_ (by simp at hq;exact hq)
  generalize fiN L[i]=f at*
  generalize Zav L[i]=k at*
  simp[hi,h5]
  omega
 ·rw[if_neg h5]at hq
  have hw:=ZML std L L.length last i
  simp only[ZaC,Zar,ZfQ,Zfo,Int.toNat_natCast,hg,show(AV.cellAt L[i] 2).toI=fiN L[i]from rfl,show(AV.cellAt L[i] 3).toIs=dsN L[i]from rfl,show(AV.cellAt L[i] 4).toI=Zav L[i]from rfl,Zdv]at hw
  have hd1:((dsN L[i]).drop (fiN L[i]).toNat).length=(dsN L[i]).length-(fiN L[i]).toNat:=List.length_drop
  refine go hC ZaO hw ?_ (ZuB hC L L.length (Zav L[i]) i ⟨by omega,by omega⟩ _ _ (Nat.le_refl _) (hb.drop _) (by omega) hq)
  generalize (dsN L[i]).drop (fiN L[i]).toNat=D at*
  generalize fiN L[i]=f at*
  generalize Zav L[i]=k at*
  generalize dsN L[i]=ds at*
  have hD:0<D.length∧D.length≤1000000:=by omega
  simp[hi,AV.bx,Zac,h5]
  omega
theorem ZPj(y:AV)(Y:List AV)(hY:(y::Y).length≤500000)(hc:Zfu (none) last L[i]=none)(hq:ZtY C L L.length (Zav L[i]) ((i:Int)+1) Q (ZlJ (none) last L[i]) ((y::Y)++ZlF (none) last L[i])):
 Ev C (ZdH L L.length (y::Y) last i) (ZcL L L.length (y::Y) last i) Q:=by
 have hg:L.getD i .top=L[i]:=by simp[hi]
 have _:=hk
 have e2:std.add (i:Int) 1=((i:Int)+1):=rfl
 obtain⟨hf,hl,hb⟩:=hx
 unfold ZlJ ZlF Zs4 at hq
 rw[hc]at hq
 by_cases h5:fiN L[i]=255
 ·rw[if_pos h5]at hq
  have hw:=ZH0 std L L.length (y::Y) last i
  simp only[ZaC,Zar,Int.toNat_natCast,hg,e2,show(AV.cellAt L[i] 2).toI=fiN L[i]from rfl,show(AV.cellAt L[i] 4).toI=Zav L[i]from rfl]at hw
  refine go hC ZaO hw ?_ (by simp at hq;exact hq)
  generalize fiN L[i]=f at*
  generalize Zav L[i]=k at*
  simp[hi,h5]
  omega
 ·rw[if_neg h5]at hq
  have hw:=ZH7 std L L.length (y::Y) last i
  simp only[ZaC,Zar,ZfQ,Zfo,Int.toNat_natCast,hg,show(AV.cellAt L[i] 2).toI=fiN L[i]from rfl,show(AV.cellAt L[i] 3).toIs=dsN L[i]from rfl,show(AV.cellAt L[i] 4).toI=Zav L[i]from rfl,Zdv]at hw
  have hd1:((dsN L[i]).drop (fiN L[i]).toNat).length=(dsN L[i]).length-(fiN L[i]).toNat:=List.length_drop
  refine go hC ZaO hw ?_ (ZrZ hC L L.length (Zav L[i]) i ⟨by omega,by omega⟩ _ _ (y::Y) (Nat.le_refl _) (hb.drop _) (by omega) (by simp) (by omega) hq)
  generalize (dsN L[i]).drop (fiN L[i]).toNat=D at*
  generalize fiN L[i]=f at*
  generalize Zav L[i]=k at*
  generalize dsN L[i]=ds at*
  have hD:0<D.length∧D.length≤1000000:=by omega
  simp[hi,AV.bx,Zac,h5]
  omega
theorem ZLW(p:List Int)(hp:okS (some p))(hc:Zfu (some p) last L[i]=none)(hq:ZtY C L L.length (Zav L[i]) ((i:Int)+1) Q (ZlJ (some p) last L[i]) ([]++ZlF (some p) last L[i])):
 Ev C (Zbx L L.length p last i) (Zbb L L.length p last i) Q:=by
 have hg:L.getD i .top=L[i]:=by simp[hi]
 have _:=hk
 have e2:std.add (i:Int) 1=((i:Int)+1):=rfl
 obtain⟨hf,hl,hb⟩:=hx
 unfold ZlJ ZlF Zs4 at hq
 rw[hc]at hq
 obtain⟨q1,q2,q3⟩:=hp
 have hE:ZlM p (dsN L[i])=true:=by
  unfold ZlM
  have:=Zcz (q1.app hb) 2
  simp only[Bool.and_eq_true,decide_eq_true_eq]
  omega
 unfold Zfu at hc
 dsimp only at hc
 by_cases h5:fiN L[i]=255
 ·rw[if_pos h5]at hq
  by_cases h6:Zav L[i]=last+1
  ·have h7:¬fiN L[i]=ZkT (dsN L[i]).length p (dsN L[i]):=fun e=>by rw[if_pos ⟨h6,e⟩]at hc;cases hc
   have hw:=ZFz std L L.length p last i
   simp only[ZaC,Zar,Int.toNat_natCast,hg,e2,show(AV.cellAt L[i] 2).toI=fiN L[i]from rfl,show(AV.cellAt L[i] 3).toIs=dsN L[i]from rfl,show(AV.cellAt L[i] 4).toI=Zav L[i]from rfl]at hw
   refine go hC ZaO hw ?_ (by simp at hq;exact hq)
   generalize fiN L[i]=f at*
   generalize Zav L[i]=k at*
   simp[hi,h5,h6,hE]
   omega
  ·have hw:=ZNw std L L.length p last i
   simp only[ZaC,Zar,Int.toNat_natCast,hg,e2,show(AV.cellAt L[i] 2).toI=fiN L[i]from rfl,show(AV.cellAt L[i] 4).toI=Zav L[i]from rfl]at hw
   refine go hC ZaO hw ?_ (by simp at hq;exact hq)
   generalize fiN L[i]=f at*
   generalize Zav L[i]=k at*
   simp[hi,h5,h6]
   omega
 ·rw[if_neg h5]at hq
  by_cases h6:Zav L[i]=last+1
  ·have h7:¬fiN L[i]=ZkT (dsN L[i]).length p (dsN L[i]):=fun e=>by rw[if_pos ⟨h6,e⟩]at hc;cases hc
   have hw:=ZHN std L L.length p last i
   simp only[ZaC,Zar,ZfQ,Zfo,Int.toNat_natCast,hg,show(AV.cellAt L[i] 2).toI=fiN L[i]from rfl,show(AV.cellAt L[i] 3).toIs=dsN L[i]from rfl,show(AV.cellAt L[i] 4).toI=Zav L[i]from rfl,Zdv]at hw
   have hd1:((dsN L[i]).drop (fiN L[i]).toNat).length=(dsN L[i]).length-(fiN L[i]).toNat:=List.length_drop
   refine go hC ZaO hw ?_ (ZuB hC L L.length (Zav L[i]) i ⟨by omega,by omega⟩ _ _ (Nat.le_refl _) (hb.drop _) (by omega) hq)
   generalize (dsN L[i]).drop (fiN L[i]).toNat=D at*
   generalize fiN L[i]=f at*
   generalize Zav L[i]=k at*
   generalize dsN L[i]=ds at*
   have hD:0<D.length∧D.length≤1000000:=by omega
   simp[hi,AV.bx,Zac,h5,h6,h7,hE]
   omega
  ·have hw:=ZD9 std L L.length p last i
   simp only[ZaC,Zar,ZfQ,Zfo,Int.toNat_natCast,hg,show(AV.cellAt L[i] 2).toI=fiN L[i]from rfl,show(AV.cellAt L[i] 3).toIs=dsN L[i]from rfl,show(AV.cellAt L[i] 4).toI=Zav L[i]from rfl,Zdv]at hw
   have hd1:((dsN L[i]).drop (fiN L[i]).toNat).length=(dsN L[i]).length-(fiN L[i]).toNat:=List.length_drop
   refine go hC ZaO hw ?_ (ZuB hC L L.length (Zav L[i]) i ⟨by omega,by omega⟩ _ _ (Nat.le_refl _) (hb.drop _) (by omega) hq)
   generalize (dsN L[i]).drop (fiN L[i]).toNat=D at*
   generalize fiN L[i]=f at*
   generalize Zav L[i]=k at*
   generalize dsN L[i]=ds at*
   have hD:0<D.length∧D.length≤1000000:=by omega
   simp[hi,AV.bx,Zac,h5,h6]
   omega
theorem ZK6(p:List Int)(hp:okS (some p))(hc:Zfu (some p) last L[i]=some p)(hq:ZtY C L L.length (Zav L[i]) ((i:Int)+1) Q (ZlJ (some p) last L[i]) ([]++ZlF (some p) last L[i])):
 Ev C (Zbx L L.length p last i) (Zbb L L.length p last i) Q:=by
 have hg:L.getD i .top=L[i]:=by simp[hi]
 have _:=hk
 have e2:std.add (i:Int) 1=((i:Int)+1):=rfl
 obtain⟨hf,hl,hb⟩:=hx
 unfold ZlJ ZlF Zs4 at hq
 rw[hc]at hq
 dsimp only at hq
 obtain⟨q1,q2,q3⟩:=hp
 have hE:ZlM p (dsN L[i])=true:=by
  unfold ZlM
  have:=Zcz (q1.app hb) 2
  simp only[Bool.and_eq_true,decide_eq_true_eq]
  omega
 have h67:Zav L[i]=last+1∧fiN L[i]=ZkT (dsN L[i]).length p (dsN L[i]):=by
  unfold Zfu at hc
  dsimp only at hc
  by_cases h:Zav L[i]=last+1∧fiN L[i]=ZkT (dsN L[i]).length p (dsN L[i])
  ·exact h
  ·rw[if_neg h]at hc;cases hc
 have hw:=ZE8 std L L.length p last i
 simp only[ZaC,Zar,Int.toNat_natCast,hg,show(AV.cellAt L[i] 2).toI=fiN L[i]from rfl,show(AV.cellAt L[i] 3).toIs=dsN L[i]from rfl,show(AV.cellAt L[i] 4).toI=Zav L[i]from rfl,show List.append=(fun (a b:List Int)=>a++b)from rfl]at hw
 have hpl:(p++dsN L[i]).length=p.length+(dsN L[i]).length:=List.length_append
 refine go hC ZaO hw ?_ (ZuB hC L L.length (Zav L[i]) i ⟨by omega,by omega⟩ _ _ (Nat.le_refl _) (q1.app hb) (by omega) hq)
 rw[←h67.2,h67.1,hE]
 generalize fiN L[i]=f at*
 generalize Zav L[i]=k at*
 generalize dsN L[i]=ds at*
 simp[hi,AV.bx,Zac]
 omega
theorem ZL3(p:List Int)(y:AV)(Y:List AV)(hY:(y::Y).length≤500000)(hp:okS (some p))(hc:Zfu (some p) last L[i]=none)(hq:ZtY C L L.length (Zav L[i]) ((i:Int)+1) Q (ZlJ (some p) last L[i]) ((y::Y)++ZlF (some p) last L[i])):
 Ev C (Zbv L L.length p (y::Y) last i) (Zba L L.length p (y::Y) last i) Q:=by
 have hg:L.getD i .top=L[i]:=by simp[hi]
 have _:=hk
 have e2:std.add (i:Int) 1=((i:Int)+1):=rfl
 obtain⟨hf,hl,hb⟩:=hx
 unfold ZlJ ZlF Zs4 at hq
 rw[hc]at hq
 obtain⟨q1,q2,q3⟩:=hp
 have hE:ZlM p (dsN L[i])=true:=by
  unfold ZlM
  have:=Zcz (q1.app hb) 2
  simp only[Bool.and_eq_true,decide_eq_true_eq]
  omega
 unfold Zfu at hc
 dsimp only at hc
 by_cases h5:fiN L[i]=255
 ·rw[if_pos h5]at hq
  by_cases h6:Zav L[i]=last+1
  ·have h7:¬fiN L[i]=ZkT (dsN L[i]).length p (dsN L[i]):=fun e=>by rw[if_pos ⟨h6,e⟩]at hc;cases hc
   have hw:=ZFA std L L.length p (y::Y) last i
   simp only[ZaC,Zar,Int.toNat_natCast,hg,e2,show(AV.cellAt L[i] 2).toI=fiN L[i]from rfl,show(AV.cellAt L[i] 3).toIs=dsN L[i]from rfl,show(AV.cellAt L[i] 4).toI=Zav L[i]from rfl]at hw
   refine go hC ZaO hw ?_ (by simp at hq;exact hq)
   generalize fiN L[i]=f at*
   generalize Zav L[i]=k at*
   simp[hi,h5,h6,hE]
   omega
  ·have hw:=ZDu std L L.length p (y::Y) last i
   simp only[ZaC,Zar,Int.toNat_natCast,hg,e2,show(AV.cellAt L[i] 2).toI=fiN L[i]from rfl,show(AV.cellAt L[i] 4).toI=Zav L[i]from rfl]at hw
   refine go hC ZaO hw ?_ (by simp at hq;exact hq)
   generalize fiN L[i]=f at*
   generalize Zav L[i]=k at*
   simp[hi,h5,h6]
   omega
 ·rw[if_neg h5]at hq
  by_cases h6:Zav L[i]=last+1
  ·have h7:¬fiN L[i]=ZkT (dsN L[i]).length p (dsN L[i]):=fun e=>by rw[if_pos ⟨h6,e⟩]at hc;cases hc
   have hw:=ZE3 std L L.length p (y::Y) last i
   simp only[ZaC,Zar,ZfQ,Zfo,Int.toNat_natCast,hg,show(AV.cellAt L[i] 2).toI=fiN L[i]from rfl,show(AV.cellAt L[i] 3).toIs=dsN L[i]from rfl,show(AV.cellAt L[i] 4).toI=Zav L[i]from rfl,Zdv]at hw
   have hd1:((dsN L[i]).drop (fiN L[i]).toNat).length=(dsN L[i]).length-(fiN L[i]).toNat:=List.length_drop
   refine go hC ZaO hw ?_ (ZrZ hC L L.length (Zav L[i]) i ⟨by omega,by omega⟩ _ _ (y::Y) (Nat.le_refl _) (hb.drop _) (by omega) (by simp) (by omega) hq)
   generalize (dsN L[i]).drop (fiN L[i]).toNat=D at*
   generalize fiN L[i]=f at*
   generalize Zav L[i]=k at*
   generalize dsN L[i]=ds at*
   have hD:0<D.length∧D.length≤1000000:=by omega
   simp[hi,AV.bx,Zac,h5,h6,h7,hE]
   omega
  ·have hw:=ZG1 std L L.length p (y::Y) last i
   simp only[ZaC,Zar,ZfQ,Zfo,Int.toNat_natCast,hg,show(AV.cellAt L[i] 2).toI=fiN L[i]from rfl,show(AV.cellAt L[i] 3).toIs=dsN L[i]from rfl,show(AV.cellAt L[i] 4).toI=Zav L[i]from rfl,Zdv]at hw
   have hd1:((dsN L[i]).drop (fiN L[i]).toNat).length=(dsN L[i]).length-(fiN L[i]).toNat:=List.length_drop
   refine go hC ZaO hw ?_ (ZrZ hC L L.length (Zav L[i]) i ⟨by omega,by omega⟩ _ _ (y::Y) (Nat.le_refl _) (hb.drop _) (by omega) (by simp) (by omega) hq)
   generalize (dsN L[i]).drop (fiN L[i]).toNat=D at*
   generalize fiN L[i]=f at*
   generalize Zav L[i]=k at*
   generalize dsN L[i]=ds at*
   have hD:0<D.length∧D.length≤1000000:=by omega
   simp[hi,AV.bx,Zac,h5,h6]
   omega
theorem ZNy(p:List Int)(y:AV)(Y:List AV)(hY:(y::Y).length≤500000)(hp:okS (some p))(hc:Zfu (some p) last L[i]=some p)(hq:ZtY C L L.length (Zav L[i]) ((i:Int)+1) Q (ZlJ (some p) last L[i]) ((y::Y)++ZlF (some p) last L[i])):
 Ev C (Zbv L L.length p (y::Y) last i) (Zba L L.length p (y::Y) last i) Q:=by
 have hg:L.getD i .top=L[i]:=by simp[hi]
 have _:=hk
 have e2:std.add (i:Int) 1=((i:Int)+1):=rfl
 obtain⟨hf,hl,hb⟩:=hx
 unfold ZlJ ZlF Zs4 at hq
 rw[hc]at hq
 dsimp only at hq
 obtain⟨q1,q2,q3⟩:=hp
 have hE:ZlM p (dsN L[i])=true:=by
  unfold ZlM
  have:=Zcz (q1.app hb) 2
  simp only[Bool.and_eq_true,decide_eq_true_eq]
  omega
 have h67:Zav L[i]=last+1∧fiN L[i]=ZkT (dsN L[i]).length p (dsN L[i]):=by
  unfold Zfu at hc
  dsimp only at hc
  by_cases h:Zav L[i]=last+1∧fiN L[i]=ZkT (dsN L[i]).length p (dsN L[i])
  ·exact h
  ·rw[if_neg h]at hc;cases hc
 have hw:=ZDd std L L.length p (y::Y) last i
 simp only[ZaC,Zar,Int.toNat_natCast,hg,show(AV.cellAt L[i] 2).toI=fiN L[i]from rfl,show(AV.cellAt L[i] 3).toIs=dsN L[i]from rfl,show(AV.cellAt L[i] 4).toI=Zav L[i]from rfl,show List.append=(fun (a b:List Int)=>a++b)from rfl]at hw
 have hpl:(p++dsN L[i]).length=p.length+(dsN L[i]).length:=List.length_append
 refine go hC ZaO hw ?_ (ZrZ hC L L.length (Zav L[i]) i ⟨by omega,by omega⟩ _ _ (y::Y) (Nat.le_refl _) (q1.app hb) (by omega) (by simp) (by omega) hq)
 rw[←h67.2,h67.1,hE]
 generalize fiN L[i]=f at*
 generalize Zav L[i]=k at*
 generalize dsN L[i]=ds at*
 simp[hi,AV.bx,Zac]
 omega
end
theorem Znj{c:Int}{x:AV} :∀ {fs:List AV} {last:Int},x∈ZiY c fs last→∃f∈fs,∃k,x=Zmt f k
 |[],_,h=>by simp[ZiY]at h
 |f::fs,last,h=>by
  unfold ZiY at h
  split at h
  ·rcases List.mem_cons.1 h with rfl |h
   ·exact⟨f,by simp,_,rfl⟩
   ·obtain⟨g,hg,k,hk⟩:=Znj h;exact⟨g,by simp[hg],k,hk⟩
  ·obtain⟨g,hg,k,hk⟩:=Znj h;exact⟨g,by simp[hg],k,hk⟩
theorem Zoe{c:Int}{x:AV} :∀ {fs:List AV},x∈Zbw c fs→∃f∈fs,∃k,x=Zmt f k
 |[],h=>by simp[Zbw]at h
 |f::fs,h=>by
  unfold Zbw at h
  split at h
  ·rcases List.mem_cons.1 h with rfl |h
   ·exact⟨f,by simp,_,rfl⟩
   ·obtain⟨g,hg,k,hk⟩:=Znj h;exact⟨g,by simp[hg],k,hk⟩
  ·obtain⟨g,hg,k,hk⟩:=Zoe h;exact⟨g,by simp[hg],k,hk⟩
def ZOb(a:Int)(f:AV):Prop:=((0≤(AV.cellAt f 2).toI∧(AV.cellAt f 2).toI≤a-1)∨(AV.cellAt f 2).toI=255)∧(((AV.cellAt f 3).toIs.length:Int)=a)∧bytP (AV.cellAt f 3).toIs
theorem ZwL{a c:Int}{fs:List AV}(h:∀f∈fs,ZOb a f):∀x∈Zdc c fs,okX a x:=fun x hx=>by
 obtain⟨f,hf,k,rfl⟩:=Zoe (ZhL hx)
 exact h f hf
theorem ZrW{a b c:Int}{fs:List AV}(h:ZaI a b c fs=0):(4≤a∧a≤24)∧∀f∈fs,ZOb a f:=by
 obtain⟨h1,h2,h3,h4⟩:=Zkv h
 have hrb:ZbX a b=true:=by
  unfold Zat at h1
  by_cases hb:ZbX a b=true
  ·exact hb
  ·rw[if_neg hb]at h1;cases h1
 refine⟨?_,fun f hf=>?_⟩
 ·unfold ZbX at hrb
  simp at hrb
  omega
 ·have hw:=ZkG h4 f hf
  unfold frW at hw
  rw[ZhR hrb]at hw
  obtain⟨_,_,h5,h6,h7⟩:=Zle hw
  exact⟨h5,h6,Zji h7⟩
theorem ZHw{C:Ctx}(hC:C.P=Try.prog)(L:List AV)(a:Int)(ha:4≤a∧a≤24)(hL:L.length≤1000)(hx:∀x∈L,okX a x)(hk:∀x∈L, -400000≤Zav x∧Zav x≤400000):∀(d i:Nat) (last:Int) (st:Option (List Int)) (X:List AV),L.length-i=d→i≤L.length→okS st→X.length≤300*i→(-400000≤last∧last≤400000)→
 ZtY C L L.length last i (Q16 (X++ZpP st last (L.drop i))) st X:=by
 intro d
 induction d with
 |zero=>
  intro i last st X hd hi hs hX hl
  rw[List.drop_of_length_le (by omega),ZpP,List.append_nil]
  match st,X with
  |none,[]=>exact fin hC ZaO (ZK1 std L L.length last i) (by simp;omega) rfl rfl
  |some p,[]=>exact fin hC ZaO (ZDx std L L.length p last i) (by simp;omega) rfl rfl
  |some p,y::Y=>exact fin hC ZaO (ZGN std L L.length p (y::Y) last i) (by simp;omega) rfl rfl
  |none,y::Y=>exact fin hC ZaO (ZHT std L L.length (y::Y) last i) (by simp;omega) rfl rfl
 |succ d ih=>
  intro i last st X hd hi hs hX hl
  have hlt:i<L.length:=by omega
  have hxi:=hx L[i] (List.getElem_mem hlt)
  have hki:=hk L[i] (List.getElem_mem hlt)
  rw[List.drop_eq_getElem_cons hlt,ZpP,←List.append_assoc]
  have hq:=ih (i+1) (Zav L[i]) (ZlJ st last L[i]) (X++ZlF st last L[i]) (by omega) (by omega) (Zqq hs hxi ha) (by
   have:=(Zoo (last:=last) hs hxi ha).1
   rw[List.length_append];omega) hki
  rw[show (((i+1:Nat):Nat):Int)=(i:Int)+1 by omega]at hq
  match st,X,hs,hX,hq with
  |none,[],hs,hX,hq=>exact ZPB hC L a ha i hlt (by omega) hxi hki last hl rfl hq
  |none,y::Y,hs,hX,hq=>exact ZPj hC L a ha i hlt (by omega) hxi hki last hl y Y (by omega) rfl hq
  |some p,X,hs,hX,hq=>
   have hcc:Zfu (some p) last L[i]=none∨Zfu (some p) last L[i]=some p:=by
    unfold Zfu
    dsimp only
    split
    ·exact .inr rfl
    ·exact .inl rfl
   match X,hX,hq with
   |[],hX,hq=>
    rcases hcc with hc |hc
    ·exact ZLW hC L a ha i hlt (by omega) hxi hki last hl p hs hc hq
    ·exact ZK6 hC L a ha i hlt (by omega) hxi hki last hl p hs hc hq
   |y::Y,hX,hq=>
    rcases hcc with hc |hc
    ·exact ZL3 hC L a ha i hlt (by omega) hxi hki last hl p y Y (by omega) hs hc hq
    ·exact ZNy hC L a ha i hlt (by omega) hxi hki last hl p y Y (by omega) hs hc hq
def exO(a b c:Int)(fs:List AV):List AV:=if ZaI a b c fs=0 then ZpP none 0 (Zdc c fs)else []
theorem Zsw(a b c:Int)(fs:List AV):exO a b c fs=if ZaI a b c fs=0 then ZpP none 0 (Zdc c fs)else []:=rfl
theorem ZEW(a b c:Int)(fs:List AV)(h:Zaw fs=true):ZaH Try.prog 16 [.agg (.gen [.int .i64 a, .int .i64 b]), .int .i64 c, .list (.big Zg8 fs)] (.tup [.list (.big shP (exO a b c fs)), .int .i64 (ZaI a b c fs)]) none:=by
 unfold exO
 by_cases h0:ZaI a b c fs=0
 ·rw[if_pos h0,h0]
  have hnm:=Znu h0
  obtain⟨ha,hfr⟩:=ZrW h0
  have hlen:=ZdZ c fs
  have h40:=(Zkv h0).2.2.1
  have key:∀C:Ctx,C.P=Try.prog→Ev C (ZKC a b c fs) [] (Q16 (ZpP none 0 (Zdc c fs))):=fun C hC=>by
   refine go hC ZaO (ZNs std a b c fs) (by simp[h,h0,hnm]) ?_
   have:=ZHw hC (Zdc c fs) a ha (by omega) (ZwL hfr) (ZnG hnm) _ 0 0 none [] rfl (Nat.zero_le _) trivial (by simp) (by omega)
   simp at this
   exact this
  cases hz:ZpP none 0 (Zdc c fs)with
  |nil=>
   rw[hz]at key
   exact Zkp (xs:=[.nils, .int .i64 0]) (start (ZmS a b c fs) key) ⟨.one (.nil _ rfl),Zfa _,trivial⟩
  |cons y Y=>
   rw[hz]at key
   exact ZkP (e:=57) (sz:=2) (xs:=[.row 0 0, .int .i64 0]) (start (ZmS a b c fs) key) rfl ⟨.row, .same _ rfl,trivial⟩
 ·rw[if_neg h0]
  exact Zkp (xs:=[.nils, .int .i64 (ZaI a b c fs)]) (start (ZmS a b c fs) fun C hC=>fin hC ZaO (ZLy std a b c fs) (by simp[h,h0]) rfl rfl) ⟨.one (.nil _ rfl),Zfa _,trivial⟩
attribute [irreducible] exO
end Go.Proofs.Ytjhdnpmojhkbjaa
/- Contracts as a list. No condition. -/
namespace Go.Proofs.Ytjhdnpmojhkbjaa
def k16:Ctr:=⟨16,0,fun _ a=>match a with |[.agg (.gen [.int .i64 a, .int .i64 b]), .int .i64 c, .list (.big (.agg [.int .i64, .int .i64, .int .i64, .ints .i64]) fs)]=>some (decide (Zaw fs=true), .tup [.list (.big shP (exO a b c fs)), .int .i64 (ZaI a b c fs)],none) |_=>none⟩
theorem ZFp:k16.OK Try.prog:=fun pa args r fr h=>by
 simp only[k16]at h
 split at h
 ·simp only[Option.some.injEq,Prod.mk.injEq,decide_eq_true_eq]at h
  obtain⟨h0,rfl,rfl⟩:=h
  exact ZEW _ _ _ _ h0
 ·cases h
def BOq:List Ctr:=[k16]++BOp
theorem ZCG:Zap Try.prog BOq:=⟨ZFp,ZaO⟩
end Go.Proofs.Ytjhdnpmojhkbjaa
/- FrameExtracts: the law returns true. No condition. -/
namespace Go.Proofs.Ytjhdnpmojhkbjaa
set_option maxRecDepth 20000
theorem Zol{a:Int}(ha:4≤a∧a≤24):∀(L:List AV) (st:Option (List Int)) (last:Int),okS st→(∀x∈L,okX a x)→(ZpP st last L).length≤290*L.length∧∀y∈ZpP st last L,(pkT y).2.2.length≤255
 |[],_,_,_,_=>⟨by simp[ZpP],by simp[ZpP]⟩
 |x::L,st,last,hs,hx=>by
  have hxi:=hx x (by simp)
  obtain⟨h1,h2⟩:=Zoo (last:=last) hs hxi ha
  obtain⟨h3,h4⟩:=Zol ha L (ZlJ st last x) (Zav x) (Zqq hs hxi ha) (fun y hy=>hx y (by simp[hy]))
  unfold ZpP
  refine⟨by rw[List.length_append,List.length_cons];omega,fun y hy=>?_⟩
  rcases List.mem_append.1 hy with hy |hy
  ·exact h2 y hy
  ·exact h4 y hy
theorem ZnE{a b c:Int}{fs:List AV}(h0:ZaI a b c fs=0):ZrM (exO a b c fs)=true:=by
 obtain⟨ha,hfr⟩:=ZrW h0
 have hlen:=ZdZ c fs
 have h40:=(Zkv h0).2.2.1
 obtain⟨h1,h2⟩:=Zol ha (Zdc c fs) none 0 trivial (ZwL hfr)
 unfold ZrM
 rw[Zsw,if_pos h0,Bool.and_eq_true,decide_eq_true_eq,List.all_eq_true]
 exact⟨by omega,fun y hy=>decide_eq_true (by have:=h2 y hy;omega)⟩
end Go.Proofs.Ytjhdnpmojhkbjaa
/- Whole packets: what is extracted of packed frames of which some are lost. No condition. -/
namespace Go.Proofs.Ytjhdnpmojhkbjaa
theorem ZwB:∀ {Q:List AV},(∀q∈Q,bytP (pkB q))→bytP (Zag Q)
 |[],_=>fun b hb=>by simp[Zag]at hb
 |q::Q,h=>(h q (by simp)).app (ZwB fun q' hq=>h q' (by simp[hq]))
theorem bytP.take{p:List Int}(h:bytP p)(n:Nat):bytP (p.take n):=fun b hb=>h b (List.mem_of_mem_take hb)
def Zqd(N:Nat)(c d κ:Int)(Q:List AV)(i:Nat):AV:=Zmt (Zdd c d N (Zag Q) (Zah 0 Q) i) (κ+i)
section
variable {L:List Bool}{N K:Nat}{c d κ:Int}{Q:List AV}(hN:4≤N∧N≤24)(hB:(Zag Q).length=K*N)(hQ:∀q∈Q,bytP (pkB q))
include hN hB hQ
end
end Go.Proofs.Ytjhdnpmojhkbjaa
