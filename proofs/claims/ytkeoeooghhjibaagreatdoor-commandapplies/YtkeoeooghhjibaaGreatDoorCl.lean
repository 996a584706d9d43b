/- Paths of functions, printed by the explorer (Gx). No condition. -/
import Derived.Test.YtkeoeooghhjibaaGreatDoorPe
import Derived.KernelRfl
namespace Go.Proofs.YtkeoeooghhjibaaGreatDoor
set_option maxRecDepth 100000
set_option linter.unusedVariables false
def ZHx(n:Int):AFrame:=vF 89 5 [vI 0 n] [.code a89.code] [.tmp 2]
def ZOe(n:Int):List AFrame:=[(ZHx n)]
theorem Zxn(n:Int):Zam tab 89 [AV.int .i64 n]=some (ZHx n):=rfl
theorem ZJx(A:Ar)(n:Int):Za9 A tab B3 11 [] 89 (ZOe n) []=
 some (tr [5] [],
  AV.bool (Zab n 0 1000000000000),none):=by kernel_rfl
def ZBU(ms ks rs:zA):AFrame:=vF 23 66 [(0,vM ms ks rs)] [.code a23.code] [.tmp 2]
def ZHO(ms ks rs:zA):List AFrame:=[(ZBU ms ks rs)]
theorem ZzD(ms ks rs:zA):Zam tab 23 [vM ms ks rs]=some (ZBU ms ks rs):=rfl
def Zd2(ms ks rs:zA)(n0:Int):List AFrame:=[vF 23 66 [vP 1 23002,vI 3 n0] (vC ZGE ZJI) [.tmp 2]]
def Zdf(ms ks rs:zA)(n0:Int):Zad:=[vH 23002 26 3 (vx [vM ms ks rs])]
abbrev ZjG(ms ks rs:zA)(n0:Int):List AFrame×Zad:=(Zd2 ms ks rs n0,Zdf ms ks rs n0)
def Zd9(ms ks rs:zA)(n1:Int):List AFrame:=[vF 23 66 [vP 1 23002,vI 4 n1] (vC ZDs ZIQ) [.tmp 2]]
def Zc5(ms ks rs:zA)(n1:Int):Zad:=[vH 23002 26 3 (vx [vM ms ks rs])]
abbrev Zkq(ms ks rs:zA)(n1:Int):List AFrame×Zad:=(Zd9 ms ks rs n1,Zc5 ms ks rs n1)
def Zec(ms ks rs:zA)(n2:Int):List AFrame:=[vF 23 66 [vP 1 23002,vI 5 n2] (vC ZE9 ZJS) [.tmp 2]]
def Zdl(ms ks rs:zA)(n2:Int):Zad:=[vH 23002 26 3 (vx [vM ms ks rs])]
abbrev ZjJ(ms ks rs:zA)(n2:Int):List AFrame×Zad:=(Zec ms ks rs n2,Zdl ms ks rs n2)
theorem ZKc(A:Ar)(ms ks rs:zA):Za9 A tab B3 32 [true,true,true,true,true,true,true,true,true,true,true] 23 (ZHO ms ks rs) []=
 some (tr [23,7] [A.lt 8 (A.int (A.lenA ms))],
  AV.bool false,none):=by kernel_rfl
theorem ZJp(A:Ar)(ms ks rs:zA):Za9 A tab B3 32 [false,false,false,false,false,true,true,true,true,true,true] 23 (ZHO ms ks rs) []=
 some (tr [12,10,7] [A.lt 10 (A.int (A.lenA ks)),!A.lt 8 (A.int (A.lenA ms))],
  AV.bool false,none):=by kernel_rfl
theorem ZH9(A:Ar)(ms ks rs:zA):Za9 A tab B3 32 [false,false,false,false,false,false,false,false,false,false,true] 23 (ZHO ms ks rs) []=
 some (tr [2,9,10,7] [A.lt 12 (A.int (A.lenA rs)),!A.lt 10 (A.int (A.lenA ks)),!A.lt 8 (A.int (A.lenA ms))],
  AV.bool false,none):=by kernel_rfl
theorem ZJZ(A:Ar)(ms ks rs:zA):ZaD A tab B3 36 [false,false,false,false,false,false,false,false,false,false,false] (ZHO ms ks rs) []=
 some (tr [1,9,10,7] [!A.lt 12 (A.int (A.lenA rs)),!A.lt 10 (A.int (A.lenA ks)),!A.lt 8 (A.int (A.lenA ms))],
  ZjG (ms) (ks) (rs) (0)):=by kernel_rfl
theorem ZII(A:Ar)(ms ks rs:zA)(n0:Int):Za9 A tab B3 31 [true,true] 23 (Zd2 ms ks rs n0) (Zdf ms ks rs n0)=
 some (tr [2,3,3,5] [A.lt 20 (A.int (A.lenS (AV.toS (A.nthA ms (A.nat n0))))),Zag (Zag (A.le 0 n0) (Nat.blt (A.nat n0) (A.lenA ms))) true,A.lt n0 (A.int (A.lenA ms))],
  AV.bool false,none):=by kernel_rfl
theorem ZKU(A:Ar)(ms ks rs:zA)(n0:Int):ZaD A tab B3 35 [true,false] (Zd2 ms ks rs n0) (Zdf ms ks rs n0)=
 some (tr [1,1,3,3,5] [A.inR .i64 (A.add n0 1),!A.lt 20 (A.int (A.lenS (AV.toS (A.nthA ms (A.nat n0))))),Zag (Zag (A.le 0 n0) (Nat.blt (A.nat n0) (A.lenA ms))) true,A.lt n0 (A.int (A.lenA ms))],
  ZjG (ms) (ks) (rs) (A.add n0 1)):=by kernel_rfl
theorem ZJ7(A:Ar)(ms ks rs:zA)(n0:Int):ZaD A tab B3 20 [false] (Zd2 ms ks rs n0) (Zdf ms ks rs n0)=
 some (tr [1,5] [!A.lt n0 (A.int (A.lenA ms))],
  Zkq (ms) (ks) (rs) (0)):=by kernel_rfl
theorem ZJq(A:Ar)(ms ks rs:zA)(n1:Int):Za9 A tab B3 32 [true,true] 23 (Zd9 ms ks rs n1) (Zc5 ms ks rs n1)=
 some (tr [2,4,3,5] [A.lt 20 (A.int (A.lenS ((A.nthA ks (A.nat n1)).cellAt 0).toS)),Zag (Zag (A.le 0 n1) (Nat.blt (A.nat n1) (A.lenA ks))) true,A.lt n1 (A.int (A.lenA ks))],
  AV.bool false,none):=by kernel_rfl
theorem ZI2(A:Ar)(ms ks rs:zA)(n1:Int):ZaD A tab B3 36 [true,false] (Zd9 ms ks rs n1) (Zc5 ms ks rs n1)=
 some (tr [1,1,4,3,5] [A.inR .i64 (A.add n1 1),!A.lt 20 (A.int (A.lenS ((A.nthA ks (A.nat n1)).cellAt 0).toS)),Zag (Zag (A.le 0 n1) (Nat.blt (A.nat n1) (A.lenA ks))) true,A.lt n1 (A.int (A.lenA ks))],
  Zkq (ms) (ks) (rs) (A.add n1 1)):=by kernel_rfl
theorem ZJO(A:Ar)(ms ks rs:zA)(n1:Int):ZaD A tab B3 20 [false] (Zd9 ms ks rs n1) (Zc5 ms ks rs n1)=
 some (tr [1,5] [!A.lt n1 (A.int (A.lenA ks))],
  ZjJ (ms) (ks) (rs) (0)):=by kernel_rfl
theorem ZFy(A:Ar)(ms ks rs:zA)(n2:Int):Za9 A tab B3 32 [true,true] 23 (Zec ms ks rs n2) (Zdl ms ks rs n2)=
 some (tr [2,4,3,5] [A.lt 20 (A.int (A.lenS ((A.nthA rs (A.nat n2)).cellAt 0).toS)),Zag (Zag (A.le 0 n2) (Nat.blt (A.nat n2) (A.lenA rs))) true,A.lt n2 (A.int (A.lenA rs))],
  AV.bool false,none):=by kernel_rfl
theorem ZEu(A:Ar)(ms ks rs:zA)(n2:Int):ZaD A tab B3 36 [true,false] (Zec ms ks rs n2) (Zdl ms ks rs n2)=
 some (tr [1,1,4,3,5] [A.inR .i64 (A.add n2 1),!A.lt 20 (A.int (A.lenS ((A.nthA rs (A.nat n2)).cellAt 0).toS)),Zag (Zag (A.le 0 n2) (Nat.blt (A.nat n2) (A.lenA rs))) true,A.lt n2 (A.int (A.lenA rs))],
  ZjJ (ms) (ks) (rs) (A.add n2 1)):=by kernel_rfl
theorem ZDo(A:Ar)(ms ks rs:zA)(n2:Int):Za9 A tab B3 17 [false] 23 (Zec ms ks rs n2) (Zdl ms ks rs n2)=
 some (tr [2,5] [!A.lt n2 (A.int (A.lenA rs))],
  AV.bool true,none):=by kernel_rfl
def Zww(ms ks rs:zA):AFrame:=vF 136 31 [(0,vM ms ks rs)] [.code a136.code] [ARes.cell 2 true 2,.tmp 3]
def ZDw(ms ks rs:zA):List AFrame:=[(Zww ms ks rs)]
theorem ZuY(ms ks rs:zA):Zam tab 136 [vM ms ks rs]=some (Zww ms ks rs):=rfl
def ZbW(ms ks rs:zA)(n0 n1 n2 n3 n4:Int)(x5:zA):List AFrame:=[vF 159 83 [vP 0 136005,vI 1 1,(5,AV.fn 160 [vp 136002]),(6,AV.fn 161 []),(15,AV.mp 159045 0),vI 45 n0,vI 46 n4] (vC Zo7 Ztm) [],vF 136 31 [vP 1 136002,vP 2 136003,vP 4 136005,vP 5 136006,vP 6 136007,vP 7 136008,vI 14 n1,(15,AV.fn 160 [vp 136002])] [.inReg [oN 16 (.icall 159 [.t 4,cI 1,.t 14,cI 1,cI 6,.t 15,.c (AV.fn 161 [])])], .code (.seq (.reg none [oN 17 (.load false 1 (.t 7)),oN 18 (.mkfn 162 [.t 1]),oN 19 (.mkfn 163 [.t 5,.t 1,.t 6]),oN 20 (.icall 159 [.t 4,cI 2,.t 17,cI 1,cI 8,.t 18,.t 19])]) v8Q)] [ARes.cell 2 true 2,.tmp 3]]
def ZbL(ms ks rs:zA)(n0 n1 n2 n3 n4:Int)(x5:zA):Zad:=[vH 136002 26 3 (vx [vM ms ks rs]),vH 136003 195 2 (vx [AV.agg (vx [vi 0,vi 0])]),vH 136005 236 3 (vx [AV.agg (vx [vi 0,vi 0,vi 0])]),vH 136006 237 1 (vx [AV.fn 158 []]),vG 136007 (.int .i64 n2),vG 136008 (.int .i64 n3),(159045,{ base:=0,blks:=[Blk.mp x5] })]
abbrev Zg6(ms ks rs:zA)(n0 n1 n2 n3 n4:Int)(x5:zA):List AFrame×Zad:=(ZbW ms ks rs n0 n1 n2 n3 n4 x5,ZbL ms ks rs n0 n1 n2 n3 n4 x5)
def Zb4(ms ks rs:zA)(n1 n2 n3 n6:Int)(x7:zA):List AFrame:=[vF 159 83 [vP 0 136005,vI 1 2,(5,AV.fn 162 [vp 136002]),(6,AV.fn 163 [vp 136006,vp 136002,vp 136007]),(15,AV.mp 159045 0),vI 45 n3,vI 46 n6] (vC Zo7 Ztm) [],vF 136 31 [vP 1 136002,vP 2 136003,vP 4 136005,vP 5 136006,vP 6 136007,vP 7 136008,vI 14 n1,(15,AV.fn 160 [vp 136002]),(16,AV.tup []),vI 17 n3,(18,AV.fn 162 [vp 136002]),(19,AV.fn 163 [vp 136006,vp 136002,vp 136007])] [.inReg [oN 20 (.icall 159 [.t 4,cI 2,.t 17,cI 1,cI 8,.t 18,.t 19])], .code v8Q] [ARes.cell 2 true 2,.tmp 3]]
def ZbM(ms ks rs:zA)(n1 n2 n3 n6:Int)(x7:zA):Zad:=[vH 136002 26 3 (vx [vM ms ks rs]),vH 136003 195 2 (vx [AV.agg (vx [vi 0,vi 0])]),vH 136005 236 3 (vx [AV.agg (vx [vi 0,vi 0,vi 0])]),vH 136006 237 1 (vx [AV.fn 158 []]),vG 136007 (.int .i64 n2),vG 136008 (.int .i64 n3),(159045,{ base:=0,blks:=[Blk.mp x7] })]
abbrev Zg9(ms ks rs:zA)(n1 n2 n3 n6:Int)(x7:zA):List AFrame×Zad:=(Zb4 ms ks rs n1 n2 n3 n6 x7,ZbM ms ks rs n1 n2 n3 n6 x7)
def ZcD(ms ks rs:zA)(n1 n2 n3 n8 n9 n10:Int)(x11:zA):List AFrame:=[vF 159 83 [vP 0 136005,vI 1 3,(5,AV.fn 164 [vp 136002]),(6,AV.fn 165 [vp 136002,vp 136008,vp 136006,vp 136007]),(15,AV.mp 159045 0),vI 45 n8,vI 46 n10] (vC Zo7 Ztm) [],vF 136 31 [vP 1 136002,vP 2 136003,vP 4 136005,vP 5 136006,vP 6 136007,vP 7 136008,vI 14 n1,(15,AV.fn 160 [vp 136002]),(16,AV.tup []),vI 17 n3,(18,AV.fn 162 [vp 136002]),(19,AV.fn 163 [vp 136006,vp 136002,vp 136007]),(20,AV.tup []),(21,AV.ptr 136002 0 0 2),(22,vl vsR rs),vI 23 n9,(24,AV.fn 164 [vp 136002]),(25,AV.fn 165 [vp 136002,vp 136008,vp 136006,vp 136007])] [.inReg [oN 26 (.icall 159 [.t 4,cI 3,.t 23,cI 0,cI 10,.t 24,.t 25])], .code v3Q] [ARes.cell 2 true 2,.tmp 3]]
def Zb7(ms ks rs:zA)(n1 n2 n3 n8 n9 n10:Int)(x11:zA):Zad:=[vH 136002 26 3 (vx [vM ms ks rs]),vH 136003 195 2 (vx [AV.agg (vx [vi 0,vi 0])]),vH 136005 236 3 (vx [AV.agg (vx [vi 0,vi 0,vi 0])]),vH 136006 237 1 (vx [AV.fn 158 []]),vG 136007 (.int .i64 n2),vG 136008 (.int .i64 n3),(159045,{ base:=0,blks:=[Blk.mp x11] })]
abbrev Zhz(ms ks rs:zA)(n1 n2 n3 n8 n9 n10:Int)(x11:zA):List AFrame×Zad:=(ZcD ms ks rs n1 n2 n3 n8 n9 n10 x11,Zb7 ms ks rs n1 n2 n3 n8 n9 n10 x11)
theorem ZGi(A:Ar)(ms ks rs:zA):Za9 A tab B3 118 [false,true,true,true] 136 (ZDw ms ks rs) []=
 some (tr [8,11,20,3,0,8,23] [A.not (A.eq (Zae [Zaa (A.le 1 (A.int (A.lenA ms))) 10,Zaa (A.le (A.int (A.lenA ms)) 6) 8]) 0),A.not (A.eq (Zae [Zaa (A.le 1 (A.int (A.lenA ms))) 10,Zaa (A.le (A.int (A.lenA ms)) 6) 8]) 0),A.not (A.eq (Zae [Zaa (A.le 1 (A.int (A.lenA ms))) 10,Zaa (A.le (A.int (A.lenA ms)) 6) 8]) 0),decide (List.length [Zaa (A.le 1 (A.int (A.lenA ms))) 10,Zaa (A.le (A.int (A.lenA ms)) 6) 8]≤1000000),List.all [AV.int .i64 (Zaa (A.le 1 (A.int (A.lenA ms))) 10),AV.int .i64 (Zaa (A.le (A.int (A.lenA ms)) 6) 8)] fun x=>AV.bx x&&Nat.beq (Zac A x) 1,!A.not (A.eq 0 0)],
  AV.tup [AV.agg (Row.gen [.int .i64 1, .int .i64 0]),AV.int .i64 (Zae [Zaa (A.le 1 (A.int (A.lenA ms))) 10,Zaa (A.le (A.int (A.lenA ms)) 6) 8])],none):=by kernel_rfl
theorem ZDx(A:Ar)(ms ks rs:zA):ZaD A tab B3 70 [false,false] (ZDw ms ks rs) []=
 some (tr [4,3,0,8,23] [!A.not (A.eq (Zae [Zaa (A.le 1 (A.int (A.lenA ms))) 10,Zaa (A.le (A.int (A.lenA ms)) 6) 8]) 0),decide (List.length [Zaa (A.le 1 (A.int (A.lenA ms))) 10,Zaa (A.le (A.int (A.lenA ms)) 6) 8]≤1000000),List.all [AV.int .i64 (Zaa (A.le 1 (A.int (A.lenA ms))) 10),AV.int .i64 (Zaa (A.le (A.int (A.lenA ms)) 6) 8)] fun x=>AV.bx x&&Nat.beq (Zac A x) 1,!A.not (A.eq 0 0)],
  Zg6 (ms) (ks) (rs) (A.int (A.lenA ms)) (A.int (A.lenA ms)) (A.int (A.lenA ms)) (A.int (A.lenA ks)) (0) ([])):=by kernel_rfl
theorem ZD7(A:Ar)(ms ks rs:zA)(n0 n1 n2 n3 n4:Int)(x5:zA):Za9 A tab B3 107 [true,true,true,true] 136 (ZbW ms ks rs n0 n1 n2 n3 n4 x5) (ZbL ms ks rs n0 n1 n2 n3 n4 x5)=
 some (tr [8,11,21,3,0,6,4,0,4,1] [A.not (A.eq (Zae [Zaa (ZaZ (Zbi ms n4)) 4,Zaa (A.not (A.hasS x5 (Zbi ms n4))) 5,0]) 0),A.not (A.eq (Zae [Zaa (ZaZ (Zbi ms n4)) 4,Zaa (A.not (A.hasS x5 (Zbi ms n4))) 5,0]) 0),A.not (A.eq (Zae [Zaa (ZaZ (Zbi ms n4)) 4,Zaa (A.not (A.hasS x5 (Zbi ms n4))) 5,0]) 0),decide (List.length [Zaa (ZaZ (Zbi ms n4)) 4,Zaa (A.not (A.hasS x5 (Zbi ms n4))) 5,0]≤1000000),List.all [AV.int .i64 (Zaa (ZaZ (Zbi ms n4)) 4),AV.int .i64 (Zaa (A.not (A.hasS x5 (Zbi ms n4))) 5),AV.int .i64 0] fun x=>AV.bx x&&Nat.beq (Zac A x) 1,decide (0≤n4∧n4< ↑(List.length ms)),decide (List.length (Zbi ms n4)≤1000000),decide (0≤n4∧n4< ↑(List.length ms)),A.lt n4 n0],
  AV.tup [AV.agg (Row.gen [.int .i64 1, .int .i64 n4]),AV.int .i64 (Zae [Zaa (ZaZ (Zbi ms n4)) 4,Zaa (A.not (A.hasS x5 (Zbi ms n4))) 5,0])],none):=by kernel_rfl
theorem ZFY(A:Ar)(ms ks rs:zA)(n0 n1 n2 n3 n4:Int)(x5:zA):ZaD A tab B3 59 [true,false] (ZbW ms ks rs n0 n1 n2 n3 n4 x5) (ZbL ms ks rs n0 n1 n2 n3 n4 x5)=
 some (tr [1,0,0,3,3,0,6,4,0,4,1] [A.inR .i64 (A.add n4 1),A.not (A.hasS x5 (Zbi ms n4)),decide (0≤n4∧n4< ↑(List.length ms)),!A.not (A.eq (Zae [Zaa (ZaZ (Zbi ms n4)) 4,Zaa (A.not (A.hasS x5 (Zbi ms n4))) 5,0]) 0),decide (List.length [Zaa (ZaZ (Zbi ms n4)) 4,Zaa (A.not (A.hasS x5 (Zbi ms n4))) 5,0]≤1000000),List.all [AV.int .i64 (Zaa (ZaZ (Zbi ms n4)) 4),AV.int .i64 (Zaa (A.not (A.hasS x5 (Zbi ms n4))) 5),AV.int .i64 0] fun x=>AV.bx x&&Nat.beq (Zac A x) 1,decide (0≤n4∧n4< ↑(List.length ms)),decide (List.length (Zbi ms n4)≤1000000),decide (0≤n4∧n4< ↑(List.length ms)),A.lt n4 n0],
  Zg6 (ms) (ks) (rs) (n0) (n1) (n2) (n3) (A.add n4 1) (A.appA x5 [AV.str (Zbi ms n4)])):=by kernel_rfl
theorem ZHv(A:Ar)(ms ks rs:zA)(n0 n1 n2 n3 n4:Int)(x5:zA):Za9 A tab B3 93 [false,false,true,true] 136 (ZbW ms ks rs n0 n1 n2 n3 n4 x5) (ZbL ms ks rs n0 n1 n2 n3 n4 x5)=
 some (tr [8,22,3,0,8,9,1] [A.not (A.eq (Zae [Zaa (A.le 1 n3) 10,Zaa (A.le n3 8) 8]) 0),A.not (A.eq (Zae [Zaa (A.le 1 n3) 10,Zaa (A.le n3 8) 8]) 0),decide (List.length [Zaa (A.le 1 n3) 10,Zaa (A.le n3 8) 8]≤1000000),List.all [AV.int .i64 (Zaa (A.le 1 n3) 10),AV.int .i64 (Zaa (A.le n3 8) 8)] fun x=>AV.bx x&&Nat.beq (Zac A x) 1,!A.not (A.eq 0 0),!A.lt n4 n0],
  AV.tup [AV.agg (Row.gen [.int .i64 2, .int .i64 0]),AV.int .i64 (Zae [Zaa (A.le 1 n3) 10,Zaa (A.le n3 8) 8])],none):=by kernel_rfl
theorem ZC2(A:Ar)(ms ks rs:zA)(n0 n1 n2 n3 n4:Int)(x5:zA):ZaD A tab B3 64 [false,false,false] (ZbW ms ks rs n0 n1 n2 n3 n4 x5) (ZbL ms ks rs n0 n1 n2 n3 n4 x5)=
 some (tr [4,3,0,8,9,1] [!A.not (A.eq (Zae [Zaa (A.le 1 n3) 10,Zaa (A.le n3 8) 8]) 0),decide (List.length [Zaa (A.le 1 n3) 10,Zaa (A.le n3 8) 8]≤1000000),List.all [AV.int .i64 (Zaa (A.le 1 n3) 10),AV.int .i64 (Zaa (A.le n3 8) 8)] fun x=>AV.bx x&&Nat.beq (Zac A x) 1,!A.not (A.eq 0 0),!A.lt n4 n0],
  Zg9 (ms) (ks) (rs) (n1) (n2) (n3) (0) ([])):=by kernel_rfl
theorem ZEn(A:Ar)(ms ks rs:zA)(n1 n2 n3 n6:Int)(x7:zA):Za9 A tab B3 88 [true,true,true] 136 (Zb4 ms ks rs n1 n2 n3 n6 x7) (ZbM ms ks rs n1 n2 n3 n6 x7)=
 some (tr [8,23,3,0,0,5,4,0,4,1] [A.not (A.eq (Zae [Zaa (ZaZ (ZaA ks n6)) 4,Zaa (A.not (A.hasS x7 (ZaA ks n6))) 5,Zda ks n6 n2]) 0),A.not (A.eq (Zae [Zaa (ZaZ (ZaA ks n6)) 4,Zaa (A.not (A.hasS x7 (ZaA ks n6))) 5,Zda ks n6 n2]) 0),decide (List.length [Zaa (ZaZ (ZaA ks n6)) 4,Zaa (A.not (A.hasS x7 (ZaA ks n6))) 5,Zda ks n6 n2]≤1000000),List.all [AV.int .i64 (Zaa (ZaZ (ZaA ks n6)) 4),AV.int .i64 (Zaa (A.not (A.hasS x7 (ZaA ks n6))) 5),AV.int .i64 (Zda ks n6 n2)] fun x=>AV.bx x&&Nat.beq (Zac A x) 1,decide ((0≤n6∧n6< ↑(List.length ks))∧ -1000000≤n2∧n2≤1000000),decide (0≤n6∧n6< ↑(List.length ks)),decide (List.length (ZaA ks n6)≤1000000),decide (0≤n6∧n6< ↑(List.length ks)),A.lt n6 n3],
  AV.tup [AV.agg (Row.gen [.int .i64 2, .int .i64 n6]),AV.int .i64 (Zae [Zaa (ZaZ (ZaA ks n6)) 4,Zaa (A.not (A.hasS x7 (ZaA ks n6))) 5,Zda ks n6 n2])],none):=by kernel_rfl
theorem ZB2(A:Ar)(ms ks rs:zA)(n1 n2 n3 n6:Int)(x7:zA):ZaD A tab B3 59 [true,false] (Zb4 ms ks rs n1 n2 n3 n6 x7) (ZbM ms ks rs n1 n2 n3 n6 x7)=
 some (tr [1,0,0,3,3,0,0,5,4,0,4,1] [A.inR .i64 (A.add n6 1),A.not (A.hasS x7 (ZaA ks n6)),decide (0≤n6∧n6< ↑(List.length ks)),!A.not (A.eq (Zae [Zaa (ZaZ (ZaA ks n6)) 4,Zaa (A.not (A.hasS x7 (ZaA ks n6))) 5,Zda ks n6 n2]) 0),decide (List.length [Zaa (ZaZ (ZaA ks n6)) 4,Zaa (A.not (A.hasS x7 (ZaA ks n6))) 5,Zda ks n6 n2]≤1000000),List.all [AV.int .i64 (Zaa (ZaZ (ZaA ks n6)) 4),AV.int .i64 (Zaa (A.not (A.hasS x7 (ZaA ks n6))) 5),AV.int .i64 (Zda ks n6 n2)] fun x=>AV.bx x&&Nat.beq (Zac A x) 1,decide ((0≤n6∧n6< ↑(List.length ks))∧ -1000000≤n2∧n2≤1000000),decide (0≤n6∧n6< ↑(List.length ks)),decide (List.length (ZaA ks n6)≤1000000),decide (0≤n6∧n6< ↑(List.length ks)),A.lt n6 n3],
  Zg9 (ms) (ks) (rs) (n1) (n2) (n3) (A.add n6 1) (A.appA x7 [AV.str (ZaA ks n6)])):=by kernel_rfl
theorem ZFG(A:Ar)(ms ks rs:zA)(n1 n2 n3 n6:Int)(x7:zA):Za9 A tab B3 74 [false,false,true] 136 (Zb4 ms ks rs n1 n2 n3 n6 x7) (ZbM ms ks rs n1 n2 n3 n6 x7)=
 some (tr [19,3,0,8,11,1] [A.not (A.eq (Zae [Zaa (A.le 0 (A.int (A.lenA rs))) 10,Zaa (A.le (A.int (A.lenA rs)) 10) 8]) 0),decide (List.length [Zaa (A.le 0 (A.int (A.lenA rs))) 10,Zaa (A.le (A.int (A.lenA rs)) 10) 8]≤1000000),List.all [AV.int .i64 (Zaa (A.le 0 (A.int (A.lenA rs))) 10),AV.int .i64 (Zaa (A.le (A.int (A.lenA rs)) 10) 8)] fun x=>AV.bx x&&Nat.beq (Zac A x) 1,!A.not (A.eq 0 0),!A.lt n6 n3],
  AV.tup [AV.agg (Row.gen [.int .i64 3, .int .i64 0]),AV.int .i64 (Zae [Zaa (A.le 0 (A.int (A.lenA rs))) 10,Zaa (A.le (A.int (A.lenA rs)) 10) 8])],none):=by kernel_rfl
theorem ZFh(A:Ar)(ms ks rs:zA)(n1 n2 n3 n6:Int)(x7:zA):ZaD A tab B3 66 [false,false,false] (Zb4 ms ks rs n1 n2 n3 n6 x7) (ZbM ms ks rs n1 n2 n3 n6 x7)=
 some (tr [4,3,0,8,11,1] [!A.not (A.eq (Zae [Zaa (A.le 0 (A.int (A.lenA rs))) 10,Zaa (A.le (A.int (A.lenA rs)) 10) 8]) 0),decide (List.length [Zaa (A.le 0 (A.int (A.lenA rs))) 10,Zaa (A.le (A.int (A.lenA rs)) 10) 8]≤1000000),List.all [AV.int .i64 (Zaa (A.le 0 (A.int (A.lenA rs))) 10),AV.int .i64 (Zaa (A.le (A.int (A.lenA rs)) 10) 8)] fun x=>AV.bx x&&Nat.beq (Zac A x) 1,!A.not (A.eq 0 0),!A.lt n6 n3],
  Zhz (ms) (ks) (rs) (n1) (n2) (n3) (A.int (A.lenA rs)) (A.int (A.lenA rs)) (0) ([])):=by kernel_rfl
theorem ZAL(A:Ar)(ms ks rs:zA)(n1 n2 n3 n8 n9 n10:Int)(x11:zA):Za9 A tab B3 67 [true,true] 136 (ZcD ms ks rs n1 n2 n3 n8 n9 n10 x11) (Zb7 ms ks rs n1 n2 n3 n8 n9 n10 x11)=
 some (tr [20,3,0,0,5,4,0,4,1] [A.not (A.eq (Zae [Zaa (ZaZ (ZaA rs n10)) 4,Zaa (A.not (A.hasS x11 (ZaA rs n10))) 5,Zcb rs n10 n3 n2]) 0),decide (List.length [Zaa (ZaZ (ZaA rs n10)) 4,Zaa (A.not (A.hasS x11 (ZaA rs n10))) 5,Zcb rs n10 n3 n2]≤1000000),List.all [AV.int .i64 (Zaa (ZaZ (ZaA rs n10)) 4),AV.int .i64 (Zaa (A.not (A.hasS x11 (ZaA rs n10))) 5),AV.int .i64 (Zcb rs n10 n3 n2)] fun x=>AV.bx x&&Nat.beq (Zac A x) 1,decide ((0≤n10∧n10< ↑(List.length rs))∧(-1000000≤n3∧n3≤1000000)∧ -1000000≤n2∧n2≤1000000),decide (0≤n10∧n10< ↑(List.length rs)),decide (List.length (ZaA rs n10)≤1000000),decide (0≤n10∧n10< ↑(List.length rs)),A.lt n10 n8],
  AV.tup [AV.agg (Row.gen [.int .i64 3, .int .i64 n10]),AV.int .i64 (Zae [Zaa (ZaZ (ZaA rs n10)) 4,Zaa (A.not (A.hasS x11 (ZaA rs n10))) 5,Zcb rs n10 n3 n2])],none):=by kernel_rfl
theorem ZzJ(A:Ar)(ms ks rs:zA)(n1 n2 n3 n8 n9 n10:Int)(x11:zA):ZaD A tab B3 59 [true,false] (ZcD ms ks rs n1 n2 n3 n8 n9 n10 x11) (Zb7 ms ks rs n1 n2 n3 n8 n9 n10 x11)=
 some (tr [1,0,0,3,3,0,0,5,4,0,4,1] [A.inR .i64 (A.add n10 1),A.not (A.hasS x11 (ZaA rs n10)),decide (0≤n10∧n10< ↑(List.length rs)),!A.not (A.eq (Zae [Zaa (ZaZ (ZaA rs n10)) 4,Zaa (A.not (A.hasS x11 (ZaA rs n10))) 5,Zcb rs n10 n3 n2]) 0),decide (List.length [Zaa (ZaZ (ZaA rs n10)) 4,Zaa (A.not (A.hasS x11 (ZaA rs n10))) 5,Zcb rs n10 n3 n2]≤1000000),List.all [AV.int .i64 (Zaa (ZaZ (ZaA rs n10)) 4),AV.int .i64 (Zaa (A.not (A.hasS x11 (ZaA rs n10))) 5),AV.int .i64 (Zcb rs n10 n3 n2)] fun x=>AV.bx x&&Nat.beq (Zac A x) 1,decide ((0≤n10∧n10< ↑(List.length rs))∧(-1000000≤n3∧n3≤1000000)∧ -1000000≤n2∧n2≤1000000),decide (0≤n10∧n10< ↑(List.length rs)),decide (List.length (ZaA rs n10)≤1000000),decide (0≤n10∧n10< ↑(List.length rs)),A.lt n10 n8],
  Zhz (ms) (ks) (rs) (n1) (n2) (n3) (n8) (n9) (A.add n10 1) (A.appA x11 [AV.str (ZaA rs n10)])):=by kernel_rfl
theorem ZAY(A:Ar)(ms ks rs:zA)(n1 n2 n3 n8 n9 n10:Int)(x11:zA):Za9 A tab B3 15 [false] 136 (ZcD ms ks rs n1 n2 n3 n8 n9 n10 x11) (Zb7 ms ks rs n1 n2 n3 n8 n9 n10 x11)=
 some (tr [8,1] [!A.lt n10 n8],
  AV.tup [AV.agg (Row.gen [.int .i64 0, .int .i64 0]),AV.int .i64 0],none):=by kernel_rfl
def ZCa(ms ks rs l:zA):AFrame:=vF 76 64 [(0,vM ms ks rs),(1,vl vsA l)] [.code a76.code] [.tmp 4,.tmp 5]
def ZHW(ms ks rs l:zA):List AFrame:=[(ZCa ms ks rs l)]
theorem ZAr(ms ks rs l:zA):Zam tab 76 [vM ms ks rs,AV.list (Row.big (.agg [.int .i64, .int .i64, .int .i64]) l)]=some (ZCa ms ks rs l):=rfl
def Zcf(ms ks rs l:zA)(n0:Int):List AFrame:=[vF 76 64 [(1,vl vsA l),vP 2 76003,vI 6 n0] (vC ZEx ZKT) [.tmp 4,.tmp 5]]
def ZbK(ms ks rs l:zA)(n0:Int):Zad:=[vH 76003 26 3 (vx [vM ms ks rs])]
abbrev Zku(ms ks rs l:zA)(n0:Int):List AFrame×Zad:=(Zcf ms ks rs l n0,ZbK ms ks rs l n0)
theorem ZKR(A:Ar)(ms ks rs l:zA):Za9 A tab B3 20 [true] 76 (ZHW ms ks rs l) []=
 some (tr [3,6] [A.eq (A.int (A.lenA l)) 0],
  AV.tup [AV.int .i64 0,AV.int .i64 10],none):=by kernel_rfl
theorem ZIN(A:Ar)(ms ks rs l:zA):Za9 A tab B3 29 [false,true] 76 (ZHW ms ks rs l) []=
 some (tr [3,3,6] [A.lt 12 (A.int (A.lenA l)),!A.eq (A.int (A.lenA l)) 0],
  AV.tup [AV.int .i64 0,AV.int .i64 8],none):=by kernel_rfl
theorem ZJH(A:Ar)(ms ks rs l:zA):ZaD A tab B3 32 [false,false] (ZHW ms ks rs l) []=
 some (tr [1,3,6] [!A.lt 12 (A.int (A.lenA l)),!A.eq (A.int (A.lenA l)) 0],
  Zku (ms) (ks) (rs) (l) (0)):=by kernel_rfl
theorem ZIH(A:Ar)(ms ks rs l:zA)(n0:Int):Za9 A tab B3 25 [true,true] 76 (Zcf ms ks rs l n0) (ZbK ms ks rs l n0)=
 some (tr [4,2,5,2,4] [A.not (Zab ((A.nthA l (A.nat n0)).cellAt 0).toI 0 (A.sub (A.int (A.lenA ks)) 1)),A.inR .i64 (A.sub (A.int (A.lenA ks)) 1),Zag (Zag (A.le 0 n0) (Nat.blt (A.nat n0) (A.lenA l))) true,A.lt n0 (A.int (A.lenA l))],
  AV.tup [AV.int .i64 n0,AV.int .i64 15],none):=by kernel_rfl
theorem ZKC(A:Ar)(ms ks rs l:zA)(n0:Int):Za9 A tab B3 50 [true,false,true,true,true,true,true,true,true,true,true,true] 76 (Zcf ms ks rs l n0) (ZbK ms ks rs l n0)=
 some (tr [22,6,2,2,5,2,4] [A.not (Zab ((A.nthA l (A.nat n0)).cellAt 1).toI 0 1000000000000),Zag (Zag (A.le 0 n0) (Nat.blt (A.nat n0) (A.lenA l))) true,!A.not (Zab ((A.nthA l (A.nat n0)).cellAt 0).toI 0 (A.sub (A.int (A.lenA ks)) 1)),A.inR .i64 (A.sub (A.int (A.lenA ks)) 1),Zag (Zag (A.le 0 n0) (Nat.blt (A.nat n0) (A.lenA l))) true,A.lt n0 (A.int (A.lenA l))],
  AV.tup [AV.int .i64 n0,AV.int .i64 2],none):=by kernel_rfl
theorem ZJu(A:Ar)(ms ks rs l:zA)(n0:Int):Za9 A tab B3 50 [true,false,false,false,false,false,false,false,false,false,false,true] 76 (Zcf ms ks rs l n0) (ZbK ms ks rs l n0)=
 some (tr [4,12,4,6,2,2,5,2,4] [A.not (Zab ((A.nthA l (A.nat n0)).cellAt 2).toI 0 1000000000000),Zag (Zag (A.le 0 n0) (Nat.blt (A.nat n0) (A.lenA l))) true,!A.not (Zab ((A.nthA l (A.nat n0)).cellAt 1).toI 0 1000000000000),Zag (Zag (A.le 0 n0) (Nat.blt (A.nat n0) (A.lenA l))) true,!A.not (Zab ((A.nthA l (A.nat n0)).cellAt 0).toI 0 (A.sub (A.int (A.lenA ks)) 1)),A.inR .i64 (A.sub (A.int (A.lenA ks)) 1),Zag (Zag (A.le 0 n0) (Nat.blt (A.nat n0) (A.lenA l))) true,A.lt n0 (A.int (A.lenA l))],
  AV.tup [AV.int .i64 n0,AV.int .i64 2],none):=by kernel_rfl
theorem ZIm(A:Ar)(ms ks rs l:zA)(n0:Int):Za9 A tab B3 55 [true,false,false,false,false,false,false,false,false,false,false,false,true] 76 (Zcf ms ks rs l n0) (ZbK ms ks rs l n0)=
 some (tr [4,4,5,2,12,4,6,2,2,5,2,4] [A.lt ((A.nthA l (A.nat n0)).cellAt 2).toI ((A.nthA l (A.nat n0)).cellAt 1).toI,Zag (Zag (A.le 0 n0) (Nat.blt (A.nat n0) (A.lenA l))) true,Zag (Zag (A.le 0 n0) (Nat.blt (A.nat n0) (A.lenA l))) true,!A.not (Zab ((A.nthA l (A.nat n0)).cellAt 2).toI 0 1000000000000),Zag (Zag (A.le 0 n0) (Nat.blt (A.nat n0) (A.lenA l))) true,!A.not (Zab ((A.nthA l (A.nat n0)).cellAt 1).toI 0 1000000000000),Zag (Zag (A.le 0 n0) (Nat.blt (A.nat n0) (A.lenA l))) true,!A.not (Zab ((A.nthA l (A.nat n0)).cellAt 0).toI 0 (A.sub (A.int (A.lenA ks)) 1)),A.inR .i64 (A.sub (A.int (A.lenA ks)) 1),Zag (Zag (A.le 0 n0) (Nat.blt (A.nat n0) (A.lenA l))) true,A.lt n0 (A.int (A.lenA l))],
  AV.tup [AV.int .i64 n0,AV.int .i64 9],none):=by kernel_rfl
theorem ZJc(A:Ar)(ms ks rs l:zA)(n0:Int):ZaD A tab B3 57 [true,false,false,false,false,false,false,false,false,false,false,false,false] (Zcf ms ks rs l n0) (ZbK ms ks rs l n0)=
 some (tr [1,1,4,5,2,12,4,6,2,2,5,2,4] [A.inR .i64 (A.add n0 1),!A.lt ((A.nthA l (A.nat n0)).cellAt 2).toI ((A.nthA l (A.nat n0)).cellAt 1).toI,Zag (Zag (A.le 0 n0) (Nat.blt (A.nat n0) (A.lenA l))) true,Zag (Zag (A.le 0 n0) (Nat.blt (A.nat n0) (A.lenA l))) true,!A.not (Zab ((A.nthA l (A.nat n0)).cellAt 2).toI 0 1000000000000),Zag (Zag (A.le 0 n0) (Nat.blt (A.nat n0) (A.lenA l))) true,!A.not (Zab ((A.nthA l (A.nat n0)).cellAt 1).toI 0 1000000000000),Zag (Zag (A.le 0 n0) (Nat.blt (A.nat n0) (A.lenA l))) true,!A.not (Zab ((A.nthA l (A.nat n0)).cellAt 0).toI 0 (A.sub (A.int (A.lenA ks)) 1)),A.inR .i64 (A.sub (A.int (A.lenA ks)) 1),Zag (Zag (A.le 0 n0) (Nat.blt (A.nat n0) (A.lenA l))) true,A.lt n0 (A.int (A.lenA l))],
  Zku (ms) (ks) (rs) (l) (A.add n0 1)):=by kernel_rfl
theorem ZJm(A:Ar)(ms ks rs l:zA)(n0:Int):Za9 A tab B3 17 [false] 76 (Zcf ms ks rs l n0) (ZbK ms ks rs l n0)=
 some (tr [3,4] [!A.lt n0 (A.int (A.lenA l))],
  AV.tup [AV.int .i64 0,AV.int .i64 0],none):=by kernel_rfl
end Go.Proofs.YtkeoeooghhjibaaGreatDoor
namespace Go.Proofs.YtkeoeooghhjibaaGreatDoor
def ZbA(p i e:Int):AV:=.tup [.agg (.gen [.int .i64 p, .int .i64 i]), .int .i64 e]
def Zc1(nm:List UInt8)(ex:Int)(xs:zA):Int:=Zae [Zaa (ZaZ nm) 4,Zaa (!std.hasS xs nm) 5,ex]
def ZcI(a b:Bool):Int:=Zae [Zaa a 10,Zaa b 8]
def ZbC(nm:Nat→List UInt8)(ex:Nat→Int):Nat→Nat→zA→Option (Nat×Int)
 |0,_,_=>none
 |m+1,k,xs=>if Zc1 (nm k) (ex k) xs=0 then ZbC nm ex m (k+1) (xs++[.str (nm k)])else some (k,Zc1 (nm k) (ex k) xs)
def ZbT(p:Int)(o:Option (Nat×Int))(d:AV):AV:=match o with |some (k,e)=>ZbA p k e |none=>d
def Ztl(ms ks rs:zA):AV:=ZbT 3 (ZbC (fun k=>ZaA rs k) (fun k=>Zcb rs k ks.length ms.length) rs.length 0 []) (ZbA 0 0 0)
def ZqP(ms ks rs:zA):AV:=ZbT 2 (ZbC (fun k=>ZaA ks k) (fun k=>Zda ks k ms.length) ks.length 0 []) (if ZcI (decide (0≤(rs.length:Int))) (decide ((rs.length:Int)≤10))=0 then Ztl ms ks rs else ZbA 3 0 (ZcI (decide (0≤(rs.length:Int))) (decide ((rs.length:Int)≤10))))
def Zu5(ms ks rs:zA):AV:=ZbT 1 (ZbC (fun k=>Zbi ms k) (fun _=>0) ms.length 0 []) (if ZcI (decide (1≤(ks.length:Int))) (decide ((ks.length:Int)≤8))=0 then ZqP ms ks rs else ZbA 2 0 (ZcI (decide (1≤(ks.length:Int))) (decide ((ks.length:Int)≤8))))
def ZeU(ms ks rs:zA):AV:=if ZcI (decide (1≤(ms.length:Int))) (decide ((ms.length:Int)≤6))=0 then Zu5 ms ks rs else ZbA 1 0 (ZcI (decide (1≤(ms.length:Int))) (decide ((ms.length:Int)≤6)))
def ZaC(ms ks rs:zA):Bool:=(ms.all fun x=>decide (x.toS.length≤1000000))&&(ks.all fun x=>decide ((x.cellAt 0).toS.length≤1000000))&&(rs.all fun x=>decide ((x.cellAt 0).toS.length≤1000000))&&decide (ms.length≤1000000∧ks.length≤1000000∧rs.length≤1000000)
theorem Zti{xs:zA}{k:Nat}(h:k<xs.length):xs.getD k .top∈xs:=by
 rw[List.getD_eq_getElem?_getD,List.getElem?_eq_getElem h];exact List.getElem_mem h
theorem Zcy{ks:zA}(h:(ks.all fun x=>decide ((x.cellAt 0).toS.length≤1000000))=true){k:Nat}(hk:k<ks.length):(ZaA ks k).length≤1000000:=by
 have:=List.all_eq_true.1 h _ (Zti hk)
 simpa[ZaA]using this
theorem ZjK{ks:zA}(h:(ks.all fun x=>decide (x.toS.length≤1000000))=true){k:Nat}(hk:k<ks.length):(Zbi ks k).length≤1000000:=by
 have:=List.all_eq_true.1 h _ (Zti hk)
 simpa[Zbi]using this
theorem ZwS{a b c:Int}(h:Zae [a,b,c]=0):a=0∧b=0∧c=0:=by
 simp only[Zae]at h
 by_cases h1:a=0
 ·by_cases h2:b=0
  ·by_cases h3:c=0
   ·exact⟨h1,h2,h3⟩
   ·simp[h1,h2,h3]at h
  ·simp[h1,h2]at h
 ·simp[h1]at h
theorem ZkT{nm:List UInt8}{ex:Int}{xs:zA}(h:Zc1 nm ex xs=0):std.hasS xs nm=false:=by
 have:=(ZwS h).2.1
 unfold Zaa at this
 split at this
 ·rename_i e;simpa using e
 ·cases this
theorem bx3(x y z:Int):([AV.int .i64 x,AV.int .i64 y,AV.int .i64 z].all fun x=>AV.bx x&&Nat.beq (Zac std x) 1)=true:=rfl
theorem bx2(x y:Int):([AV.int .i64 x,AV.int .i64 y].all fun x=>AV.bx x&&Nat.beq (Zac std x) 1)=true:=rfl
section
variable {C:Ctx}(hC:C.P=Tryz.prog)(ms ks rs:zA)(hs:ZaC ms ks rs=true)
include hC hs
theorem ZDc(n1:Int):∀(m k:Nat) (xs:zA),k+m=rs.length→vE C (Zhz ms ks rs n1 ms.length ks.length rs.length rs.length k xs)
 (Zco 136 (ZbT 3 (ZbC (fun k=>ZaA rs k) (fun k=>Zcb rs k ks.length ms.length) m k xs) (ZbA 0 0 0)) none)
 |0,k,xs,hk=>fin hC Zbl (ZAY std ms ks rs n1 ms.length ks.length rs.length rs.length k xs) (by simp;omega) rfl rfl
 |m+1,k,xs,hk=>by
  simp only[ZaC,Bool.and_eq_true,decide_eq_true_eq]at hs
  have hn:=Zcy hs.1.2 (show k<rs.length by omega)
  by_cases h:Zc1 (ZaA rs k) (Zcb rs k ks.length ms.length) xs=0
  ·have hnew:=ZkT h
   have h':=h
   unfold Zc1 at h'
   refine go hC Zbl (ZzJ std ms ks rs n1 ms.length ks.length rs.length rs.length k xs) (by simp only[bx3];simp[-Zd0,hnew,hn];simp[-Zd0,hnew]at h';simp[h'];omega) ?_
   have:=ZDc n1 m (k+1) (xs++[.str (ZaA rs k)]) (by omega)
   rw[ZbC,if_pos h]
   exact this
  ·have h':=h
   unfold Zc1 at h'
   rw[ZbC,if_neg h]
   exact fin hC Zbl (ZAL std ms ks rs n1 ms.length ks.length rs.length rs.length k xs) (by simp only[bx3];simp[-Zd0,hn,h'];omega) rfl rfl
theorem ZGa(n1:Int):∀(m k:Nat) (xs:zA),k+m=ks.length→vE C (Zg9 ms ks rs n1 ms.length ks.length k xs)
 (Zco 136 (ZbT 2 (ZbC (fun k=>ZaA ks k) (fun k=>Zda ks k ms.length) m k xs) (if ZcI (decide (0≤(rs.length:Int))) (decide ((rs.length:Int)≤10))=0 then Ztl ms ks rs else ZbA 3 0 (ZcI (decide (0≤(rs.length:Int))) (decide ((rs.length:Int)≤10))))) none)
 |0,k,xs,hk=>by
  by_cases h:ZcI (decide (0≤(rs.length:Int))) (decide ((rs.length:Int)≤10))=0
  ·have h':=h
   unfold ZcI at h'
   rw[if_pos h]
   refine go hC Zbl (ZFh std ms ks rs n1 ms.length ks.length k xs) (by simp only[bx2,ZvL,ZiS,ZcE,h'];simp;omega) ?_
   exact ZDc hC ms ks rs hs n1 rs.length 0 [] (by omega)
  ·have h':=h
   unfold ZcI at h'
   rw[if_neg h]
   exact fin hC Zbl (ZFG std ms ks rs n1 ms.length ks.length k xs) (by simp only[bx2,ZHD,ZvL,ZiS,ZcE,h'];simp;omega) rfl rfl
 |m+1,k,xs,hk=>by
  have hs':=hs
  simp only[ZaC,Bool.and_eq_true,decide_eq_true_eq]at hs'
  have hn:=Zcy hs'.1.1.2 (show k<ks.length by omega)
  by_cases h:Zc1 (ZaA ks k) (Zda ks k ms.length) xs=0
  ·have hnew:=ZkT h
   have h':=h
   unfold Zc1 at h'
   refine go hC Zbl (ZB2 std ms ks rs n1 ms.length ks.length k xs) (by simp only[bx3];simp[-Zd0,hnew,hn];simp[-Zd0,hnew]at h';simp[h'];omega) ?_
   have:=ZGa n1 m (k+1) (xs++[.str (ZaA ks k)]) (by omega)
   rw[ZbC,if_pos h]
   exact this
  ·have h':=h
   unfold Zc1 at h'
   rw[ZbC,if_neg h]
   exact fin hC Zbl (ZEn std ms ks rs n1 ms.length ks.length k xs) (by simp only[bx3];simp[-Zd0,hn,h'];omega) rfl rfl
theorem ZGZ(n1:Int):∀(m k:Nat) (xs:zA),k+m=ms.length→vE C (Zg6 ms ks rs ms.length n1 ms.length ks.length k xs)
 (Zco 136 (ZbT 1 (ZbC (fun k=>Zbi ms k) (fun _=>0) m k xs) (if ZcI (decide (1≤(ks.length:Int))) (decide ((ks.length:Int)≤8))=0 then ZqP ms ks rs else ZbA 2 0 (ZcI (decide (1≤(ks.length:Int))) (decide ((ks.length:Int)≤8))))) none)
 |0,k,xs,hk=>by
  by_cases h:ZcI (decide (1≤(ks.length:Int))) (decide ((ks.length:Int)≤8))=0
  ·have h':=h
   unfold ZcI at h'
   rw[if_pos h]
   refine go hC Zbl (ZC2 std ms ks rs ms.length n1 ms.length ks.length k xs) (by simp only[bx2,ZvL,ZiS,ZcE,h'];simp;omega) ?_
   exact ZGa hC ms ks rs hs n1 ks.length 0 [] (by omega)
  ·have h':=h
   unfold ZcI at h'
   rw[if_neg h]
   exact fin hC Zbl (ZHv std ms ks rs ms.length n1 ms.length ks.length k xs) (by simp only[bx2,ZHD,ZvL,ZiS,ZcE,h'];simp;omega) rfl rfl
 |m+1,k,xs,hk=>by
  have hs':=hs
  simp only[ZaC,Bool.and_eq_true,decide_eq_true_eq]at hs'
  have hn:=ZjK hs'.1.1.1 (show k<ms.length by omega)
  by_cases h:Zc1 (Zbi ms k) 0 xs=0
  ·have hnew:=ZkT h
   have h':=h
   unfold Zc1 at h'
   refine go hC Zbl (ZFY std ms ks rs ms.length n1 ms.length ks.length k xs) (by simp only[bx3];simp[-Zd0,hnew,hn];simp[-Zd0,hnew]at h';simp[h'];omega) ?_
   have:=ZGZ n1 m (k+1) (xs++[.str (Zbi ms k)]) (by omega)
   rw[ZbC,if_pos h]
   exact this
  ·have h':=h
   unfold Zc1 at h'
   rw[ZbC,if_neg h]
   exact fin hC Zbl (ZD7 std ms ks rs ms.length n1 ms.length ks.length k xs) (by simp only[bx3];simp[-Zd0,hn,h'];omega) rfl rfl
end
theorem ZsE(ms ks rs:zA)(hs:ZaC ms ks rs=true):Zan Tryz.prog 136 [vM ms ks rs] (ZeU ms ks rs) none:=
 start (ZuY ms ks rs) fun C hC=>by
  by_cases h:ZcI (decide (1≤(ms.length:Int))) (decide ((ms.length:Int)≤6))=0
  ·have h':=h
   unfold ZcI at h'
   rw[ZeU,if_pos h]
   refine go hC Zbl (ZDx std ms ks rs) (by simp only[bx2,ZvL,ZiS,ZcE,h'];simp) ?_
   exact ZGZ hC ms ks rs hs ms.length ms.length 0 [] (by omega)
  ·have h':=h
   unfold ZcI at h'
   rw[ZeU,if_neg h]
   exact fin hC Zbl (ZGi std ms ks rs) (by simp only[bx2,ZHD,ZvL,ZiS,ZcE,h'];simp) rfl rfl
end Go.Proofs.YtkeoeooghhjibaaGreatDoor
namespace Go.Proofs.YtkeoeooghhjibaaGreatDoor
theorem ZsO(s:List UInt8):Zan Tryz.prog 151 [.nils, .str s] (.bool false) none:=
 start (ZrL s) fun C hC=>go hC Zbl (Zzq std s) (by simp) (fin hC Zbl (ZBh std s) (by simp) rfl rfl)
theorem Zsc(n:Int):Zan Tryz.prog 89 [.int .i64 n] (.bool (Zab n 0 1000000000000)) none:=
 start (Zxn n) fun C hC=>fin hC Zbl (ZJx std n) (by simp) rfl rfl
def mP:AV→Int
 | .tup [.agg (.gen [.int _ p,_]),_]=>p
 |_=>0
def mI:AV→Int
 | .tup [.agg (.gen [_, .int _ i]),_]=>i
 |_=>0
def mE:AV→Int
 | .tup [_, .int _ e]=>e
 |_=>0
def isM(v:AV):Prop:=∃p i e,v=ZbA p i e
theorem isM.eq{v:AV}(h:isM v):v=ZbA (mP v) (mI v) (mE v):=by
 obtain⟨p,i,e,rfl⟩:=h
 rfl
theorem isM.scan{p:Int}{o:Option (Nat×Int)}{d:AV}(h:isM d):isM (ZbT p o d):=by
 unfold ZbT
 split
 ·exact⟨_,_,_,rfl⟩
 ·exact h
theorem isM.ite{c:Prop}[Decidable c]{a b:AV}(ha:isM a)(hb:isM b):isM (if c then a else b):=by
 split
 ·exact ha
 ·exact hb
theorem ZhP(p i e:Int):isM (ZbA p i e):=⟨_,_,_,rfl⟩
theorem ZmX(ms ks rs:zA):isM (ZeU ms ks rs):=
 .ite (.scan (.ite (.scan (.ite (.scan (ZhP _ _ _)) (ZhP _ _ _))) (ZhP _ _ _))) (ZhP _ _ _)
def Zmq(ms ks rs:zA):Int:=mP (ZeU ms ks rs)
def Zmi(ms ks rs:zA):Int:=mI (ZeU ms ks rs)
def ZaN(ms ks rs:zA):Int:=mE (ZeU ms ks rs)
theorem ZqE(ms ks rs:zA)(hs:ZaC ms ks rs=true):Zan Tryz.prog 136 [vM ms ks rs] (.tup [.agg (.gen [.int .i64 (Zmq ms ks rs), .int .i64 (Zmi ms ks rs)]), .int .i64 (ZaN ms ks rs)]) none:=by
 have:=ZsE ms ks rs hs
 rw[(ZmX ms ks rs).eq]at this
 exact this
def k151n:Ctr:=⟨151,0,fun _ a=>match a with |[.nils, .str _]=>some (true, .bool false,none) |_=>none⟩
theorem Zvh:k151n.OK Tryz.prog:=fun pa args r fr h=>by
 simp only[k151n]at h
 split at h
 ·cases h
  exact ZsO _
 ·cases h
def k89:Ctr:=⟨89,0,fun _ a=>match a with |[.int .i64 n]=>some (true, .bool (Zab n 0 1000000000000),none) |_=>none⟩
theorem ZF9:k89.OK Tryz.prog:=fun pa args r fr h=>by
 simp only[k89]at h
 split at h
 ·cases h
  exact Zsc _
 ·cases h
def k136:Ctr:=⟨136,0,fun _ a=>match a with |[.agg (.gen [.list (.big .str ms), .list (.big (.agg [.str, .int .i64]) ks), .list (.big (.agg [.str, .int .i64, .int .i64, .int .i64, .int .i64]) rs)])]=>some (decide (ZaC ms ks rs=true), .tup [.agg (.gen [.int .i64 (Zmq ms ks rs), .int .i64 (Zmi ms ks rs)]), .int .i64 (ZaN ms ks rs)],none) |_=>none⟩
theorem Zz0:k136.OK Tryz.prog:=fun pa args r fr h=>by
 simp only[k136]at h
 split at h
 ·simp only[zS,zP,decide_eq_true_eq]at h
  obtain⟨h0,rfl,rfl⟩:=h
  exact ZqE _ _ _ h0
 ·cases h
def B4:List Ctr:=[k151n,k89,k136]++B3
theorem Zt4:ZaF Tryz.prog B4:=⟨Zvh,⟨ZF9,⟨Zz0,Zbl⟩⟩⟩
end Go.Proofs.YtkeoeooghhjibaaGreatDoor
namespace Go.Proofs.YtkeoeooghhjibaaGreatDoor
set_option maxRecDepth 100000
set_option linter.unusedVariables false
def ZFZ(ms ks rs:zA):AFrame:=vF 88 11 [(0,vM ms ks rs)] [.code a88.code] [.tmp 2]
def ZNn(ms ks rs:zA):List AFrame:=[(ZFZ ms ks rs)]
theorem ZBo(ms ks rs:zA):Zam tab 88 [vM ms ks rs]=some (ZFZ ms ks rs):=rfl
theorem ZIg(A:Ar)(ms ks rs:zA):Za9 A tab B4 23 [] 88 (ZNn ms ks rs) []=
 some (tr [9,3] [decide (ZaC ms ks rs=true)],
  AV.int .i64 (ZaN ms ks rs),none):=by kernel_rfl
def Zwn(ms ks rs:zA)(k lo hi:Int):AFrame:=vF 120 34 [(0,vM ms ks rs),(1,AV.agg (vx [.int .i64 k, .int .i64 lo, .int .i64 hi]))] [.code a120.code] [.tmp 4]
def ZEU(ms ks rs:zA)(k lo hi:Int):List AFrame:=[(Zwn ms ks rs k lo hi)]
theorem ZuF(ms ks rs:zA)(k lo hi:Int):Zam tab 120 [vM ms ks rs,AV.agg (Row.gen [.int .i64 k, .int .i64 lo, .int .i64 hi])]=some (Zwn ms ks rs k lo hi):=rfl
theorem ZCJ(A:Ar)(ms ks rs:zA)(k lo hi:Int):Za9 A tab B4 10 [true] 120 (ZEU ms ks rs k lo hi) []=
 some (tr [2,0,14,7,8] [decide (List.length [Zaa (Zab k 0 (A.sub (A.int (A.lenA ks)) 1)) 15,Zaa (Zab hi 0 1000000000000) 2,Zaa (A.le lo hi) 9]≤1000000),List.all [AV.int .i64 (Zaa (Zab k 0 (A.sub (A.int (A.lenA ks)) 1)) 15),AV.int .i64 (Zaa (Zab hi 0 1000000000000) 2),AV.int .i64 (Zaa (A.le lo hi) 9)] fun x=>AV.bx x&&Nat.beq (Zac A x) 1,Zab lo 0 1000000000000,A.inR .i64 (A.sub (A.int (A.lenA ks)) 1)],
  AV.int .i64 (Zae [Zaa (Zab k 0 (A.sub (A.int (A.lenA ks)) 1)) 15,Zaa (Zab hi 0 1000000000000) 2,Zaa (A.le lo hi) 9]),none):=by kernel_rfl
theorem ZBS(A:Ar)(ms ks rs:zA)(k lo hi:Int):Za9 A tab B4 10 [false] 120 (ZEU ms ks rs k lo hi) []=
 some (tr [2,0,14,7,8] [decide (List.length [Zaa (Zab k 0 (A.sub (A.int (A.lenA ks)) 1)) 15,2,Zaa (A.le lo hi) 9]≤1000000),List.all [AV.int .i64 (Zaa (Zab k 0 (A.sub (A.int (A.lenA ks)) 1)) 15),AV.int .i64 2,AV.int .i64 (Zaa (A.le lo hi) 9)] fun x=>AV.bx x&&Nat.beq (Zac A x) 1,!Zab lo 0 1000000000000,A.inR .i64 (A.sub (A.int (A.lenA ks)) 1)],
  AV.int .i64 (Zae [Zaa (Zab k 0 (A.sub (A.int (A.lenA ks)) 1)) 15,2,Zaa (A.le lo hi) 9]),none):=by kernel_rfl
end Go.Proofs.YtkeoeooghhjibaaGreatDoor
namespace Go.Proofs.YtkeoeooghhjibaaGreatDoor
def Zpf(n k lo hi:Int):Int:=Zae [Zaa (Zab k 0 (n-1)) 15,Zaa (Zab lo 0 1000000000000&&Zab hi 0 1000000000000) 2,Zaa (decide (lo≤hi)) 9]
theorem Zvi(ms ks rs:zA)(h:ZaC ms ks rs=true):Zan Tryz.prog 88 [vM ms ks rs] (.int .i64 (ZaN ms ks rs)) none:=
 start (ZBo ms ks rs) fun C hC=>fin hC Zt4 (ZIg std ms ks rs) (by simp[h]) rfl rfl
theorem Zvr(ms ks rs:zA)(k lo hi:Int)(h:ks.length≤1000000):Zan Tryz.prog 120 [vM ms ks rs, .agg (.gen [.int .i64 k, .int .i64 lo, .int .i64 hi])] (.int .i64 (Zpf ks.length k lo hi)) none:=
 start (ZuF ms ks rs k lo hi) fun C hC=>by
  by_cases h1:Zab lo 0 1000000000000=true
  ·exact fin hC Zt4 (ZCJ std ms ks rs k lo hi) (by simp only[bx3];simp[h1];omega) (by simp[Zpf,h1]) rfl
  ·exact fin hC Zt4 (ZBS std ms ks rs k lo hi) (by simp only[bx3];simp[h1];omega) (by unfold Zpf;rw[(by simpa using h1:Zab lo 0 1000000000000=false)];rfl) rfl
def k88:Ctr:=⟨88,0,fun _ a=>match a with |[.agg (.gen [.list (.big .str ms), .list (.big (.agg [.str, .int .i64]) ks), .list (.big (.agg [.str, .int .i64, .int .i64, .int .i64, .int .i64]) rs)])]=>some (decide (ZaC ms ks rs=true), .int .i64 (ZaN ms ks rs),none) |_=>none⟩
theorem ZCn:k88.OK Tryz.prog:=fun pa args r fr h=>by
 simp only[k88]at h
 split at h
 ·simp only[zS,zP,decide_eq_true_eq]at h
  obtain⟨h0,rfl,rfl⟩:=h
  exact Zvi _ _ _ h0
 ·cases h
def k120:Ctr:=⟨120,0,fun _ a=>match a with |[.agg (.gen [.list (.big .str _), .list (.big (.agg [.str, .int .i64]) ks), .list (.big (.agg [.str, .int .i64, .int .i64, .int .i64, .int .i64]) _)]), .agg (.gen [.int .i64 k, .int .i64 lo, .int .i64 hi])]=>some (decide (ks.length≤1000000), .int .i64 (Zpf ks.length k lo hi),none) |_=>none⟩
theorem Zyi:k120.OK Tryz.prog:=fun pa args r fr h=>by
 simp only[k120]at h
 split at h
 ·simp only[zS,zP,decide_eq_true_eq]at h
  obtain⟨h0,rfl,rfl⟩:=h
  exact Zvr _ _ _ _ _ _ h0
 ·cases h
def B5:List Ctr:=[k88,k120]++B4
theorem ZiA:ZaF Tryz.prog B5:=⟨ZCn,⟨Zyi,Zt4⟩⟩
end Go.Proofs.YtkeoeooghhjibaaGreatDoor
namespace Go.Proofs.YtkeoeooghhjibaaGreatDoor
set_option maxRecDepth 100000
set_option linter.unusedVariables false
def ZFE(ms ks rs l:zA):AFrame:=vF 71 40 [(0,vM ms ks rs),(1,vl vsA l)] [.code a71.code] [.tmp 4,.tmp 5]
def ZLE(ms ks rs l:zA):List AFrame:=[(ZFE ms ks rs l)]
theorem Zz6(ms ks rs l:zA):Zam tab 71 [vM ms ks rs,AV.list (Row.big (.agg [.int .i64, .int .i64, .int .i64]) l)]=some (ZFE ms ks rs l):=rfl
def Zea(ms ks rs l:zA)(n0 n1:Int):List AFrame:=[vF 71 40 [vP 2 71003,(25,vl vsA l),vI 26 n0,vI 27 n1] (vC ZCY ZKh) [.tmp 4,.tmp 5]]
def Zc7(ms ks rs l:zA)(n0 n1:Int):Zad:=[vH 71003 26 3 (vx [vM ms ks rs])]
abbrev Zjy(ms ks rs l:zA)(n0 n1:Int):List AFrame×Zad:=(Zea ms ks rs l n0 n1,Zc7 ms ks rs l n0 n1)
theorem ZJj(A:Ar)(ms ks rs l:zA):Za9 A tab B5 37 [true] 71 (ZLE ms ks rs l) []=
 some (tr [4,3,0,8,4] [A.not (A.eq (Zae [ZaN ms ks rs,Zaa (A.lt 0 (A.int (A.lenA l))) 10,Zaa (A.le (A.int (A.lenA l)) 12) 8]) 0),decide (List.length [ZaN ms ks rs,Zaa (A.lt 0 (A.int (A.lenA l))) 10,Zaa (A.le (A.int (A.lenA l)) 12) 8]≤1000000),List.all [AV.int .i64 (ZaN ms ks rs),AV.int .i64 (Zaa (A.lt 0 (A.int (A.lenA l))) 10),AV.int .i64 (Zaa (A.le (A.int (A.lenA l)) 12) 8)] fun x=>AV.bx x&&Nat.beq (Zac A x) 1,decide (ZaC ms ks rs=true)],
  AV.tup [AV.int .i64 0,AV.int .i64 (Zae [ZaN ms ks rs,Zaa (A.lt 0 (A.int (A.lenA l))) 10,Zaa (A.le (A.int (A.lenA l)) 12) 8])],none):=by kernel_rfl
theorem ZKo(A:Ar)(ms ks rs l:zA):ZaD A tab B5 41 [false] (ZLE ms ks rs l) []=
 some (tr [3,3,0,8,4] [!A.not (A.eq (Zae [ZaN ms ks rs,Zaa (A.lt 0 (A.int (A.lenA l))) 10,Zaa (A.le (A.int (A.lenA l)) 12) 8]) 0),decide (List.length [ZaN ms ks rs,Zaa (A.lt 0 (A.int (A.lenA l))) 10,Zaa (A.le (A.int (A.lenA l)) 12) 8]≤1000000),List.all [AV.int .i64 (ZaN ms ks rs),AV.int .i64 (Zaa (A.lt 0 (A.int (A.lenA l))) 10),AV.int .i64 (Zaa (A.le (A.int (A.lenA l)) 12) 8)] fun x=>AV.bx x&&Nat.beq (Zac A x) 1,decide (ZaC ms ks rs=true)],
  Zjy (ms) (ks) (rs) (l) (A.int (A.lenA l)) (0)):=by kernel_rfl
theorem ZKd(A:Ar)(ms ks rs l:zA)(n0 n1:Int):Za9 A tab B5 40 [true,true] 71 (Zea ms ks rs l n0 n1) (Zc7 ms ks rs l n0 n1)=
 some (tr [5,3,6,1,1] [A.not (A.eq (Zpf (↑(List.length ks)) ((A.nthA l (A.nat n1)).cellAt 0).toI ((A.nthA l (A.nat n1)).cellAt 1).toI ((A.nthA l (A.nat n1)).cellAt 2).toI) 0),decide (List.length ks≤1000000),Zag (Zag (A.le 0 n1) (Nat.blt (A.nat n1) (A.lenA l))) true,A.lt n1 n0],
  AV.tup [AV.int .i64 n1,AV.int .i64 (Zpf (↑(List.length ks)) ((A.nthA l (A.nat n1)).cellAt 0).toI ((A.nthA l (A.nat n1)).cellAt 1).toI ((A.nthA l (A.nat n1)).cellAt 2).toI)],none):=by kernel_rfl
theorem ZI8(A:Ar)(ms ks rs l:zA)(n0 n1:Int):ZaD A tab B5 40 [true,false] (Zea ms ks rs l n0 n1) (Zc7 ms ks rs l n0 n1)=
 some (tr [1,0,3,6,1,1] [A.inR .i64 (A.add n1 1),!A.not (A.eq (Zpf (↑(List.length ks)) ((A.nthA l (A.nat n1)).cellAt 0).toI ((A.nthA l (A.nat n1)).cellAt 1).toI ((A.nthA l (A.nat n1)).cellAt 2).toI) 0),decide (List.length ks≤1000000),Zag (Zag (A.le 0 n1) (Nat.blt (A.nat n1) (A.lenA l))) true,A.lt n1 n0],
  Zjy (ms) (ks) (rs) (l) (n0) (A.add n1 1)):=by kernel_rfl
theorem ZKe(A:Ar)(ms ks rs l:zA)(n0 n1:Int):Za9 A tab B5 14 [false] 71 (Zea ms ks rs l n0 n1) (Zc7 ms ks rs l n0 n1)=
 some (tr [3,1] [!A.lt n1 n0],
  AV.tup [AV.int .i64 0,AV.int .i64 0],none):=by kernel_rfl
end Go.Proofs.YtkeoeooghhjibaaGreatDoor
namespace Go.Proofs.YtkeoeooghhjibaaGreatDoor
def Zn6(i e:Int):AV:=.tup [.int .i64 i, .int .i64 e]
def Zgx(f:Nat→Int):Nat→Nat→AV
 |0,_=>Zn6 0 0
 |m+1,k=>if f k=0 then Zgx f m (k+1)else Zn6 k (f k)
def Zji(n:Int)(l:zA)(k:Nat):Int:=Zpf n (Zaj l k 0) (Zaj l k 1) (Zaj l k 2)
def ZhG(e:Int)(l:zA):Int:=Zae [e,Zaa (decide (0<(l.length:Int))) 10,Zaa (decide ((l.length:Int)≤12)) 8]
def ZfV(e n:Int)(l:zA):AV:=if ZhG e l=0 then Zgx (Zji n l) l.length 0 else Zn6 0 (ZhG e l)
theorem Zj9{C:Ctx}(hC:C.P=Tryz.prog)(ms ks rs l:zA)(hk:ks.length≤1000000)(hl:l.length≤1000000):∀(m k:Nat),k+m=l.length→vE C (Zjy ms ks rs l l.length k) (Zco 71 (Zgx (Zji ks.length l) m k) none)
 |0,k,h=>fin hC ZiA (ZKe std ms ks rs l l.length k) (by simp;omega) rfl rfl
 |m+1,k,h=>by
  by_cases h1:Zji ks.length l k=0
  ·have h2:=h1
   unfold Zji Zaj at h2
   refine go hC ZiA (ZI8 std ms ks rs l l.length k) (by simp[-List.getD_eq_getElem?_getD]at h2 ⊢;simp[-List.getD_eq_getElem?_getD,h2];omega) ?_
   rw[Zgx,if_pos h1]
   exact Zj9 hC ms ks rs l hk hl m (k+1) (by omega)
  ·have h2:=h1
   unfold Zji Zaj at h2
   rw[Zgx,if_neg h1]
   exact fin hC ZiA (ZKd std ms ks rs l l.length k) (by simp[-List.getD_eq_getElem?_getD]at h2 ⊢;simp[-List.getD_eq_getElem?_getD,h2];omega) rfl rfl
theorem ZuA(ms ks rs l:zA)(hs:ZaC ms ks rs=true)(hl:l.length≤1000000):Zan Tryz.prog 71 [vM ms ks rs, .list (.big (.agg [.int .i64, .int .i64, .int .i64]) l)] (ZfV (ZaN ms ks rs) ks.length l) none:=
 start (Zz6 ms ks rs l) fun C hC=>by
  have hk:ks.length≤1000000:=by
   simp only[ZaC,Bool.and_eq_true,decide_eq_true_eq]at hs
   exact hs.2.2.1
  by_cases h:ZhG (ZaN ms ks rs) l=0
  ·have h':=h
   unfold ZhG at h'
   rw[ZfV,if_pos h]
   refine go hC ZiA (ZKo std ms ks rs l) (by simp only[bx3,ZvL,ZF3,ZiS,ZcE,h'];simp[hs]) ?_
   exact Zj9 hC ms ks rs l hk hl l.length 0 (by omega)
  ·have h':=h
   unfold ZhG at h'
   rw[ZfV,if_neg h]
   exact fin hC ZiA (ZJj std ms ks rs l) (by simp only[bx3,ZHD,ZvL,ZF3,ZiS,ZcE,h'];simp[hs]) rfl rfl
end Go.Proofs.YtkeoeooghhjibaaGreatDoor
namespace Go.Proofs.YtkeoeooghhjibaaGreatDoor
theorem ZhO{f:Nat→Int}{m k:Nat}{v:Int}(h:f k=v)(hv:v≠0):Zgx f (m+1) k=Zn6 k v:=by
 rw[Zgx,if_neg (by rw[h];exact hv),h]
theorem Zic{C:Ctx}(hC:C.P=Tryz.prog)(ms ks rs l:zA)(hk:ks.length≤1000000)(hl:l.length≤1000000):∀(m k:Nat),k+m=l.length→vE C (Zku ms ks rs l k) (Zco 76 (Zgx (Zji ks.length l) m k) none)
 |0,k,h=>fin hC Zbl (ZJm std ms ks rs l k) (by simp;omega) rfl rfl
 |m+1,k,h=>by
  have e0:((l.getD k .top).cellAt 0).toI=Zaj l k 0:=rfl
  have e1:((l.getD k .top).cellAt 1).toI=Zaj l k 1:=rfl
  have e2:((l.getD k .top).cellAt 2).toI=Zaj l k 2:=rfl
  by_cases h2:Zab (Zaj l k 0) 0 ((ks.length:Int)-1)=true
  ·by_cases h3:Zab (Zaj l k 1) 0 1000000000000=true
   ·by_cases h4:Zab (Zaj l k 2) 0 1000000000000=true
    ·by_cases h5:Zaj l k 2<Zaj l k 1
     ·rw[ZhO (show Zji ks.length l k=9 by simp[Zji,Zpf,Zae,Zaa,h2,h3,h4];omega) (by decide)]
      exact fin hC Zbl (ZIm std ms ks rs l k) (by simp[-List.getD_eq_getElem?_getD,e0,e1,e2,h2,h3,h4];omega) rfl rfl
     ·refine go hC Zbl (ZJc std ms ks rs l k) (by simp[-List.getD_eq_getElem?_getD,e0,e1,e2,h2,h3,h4];omega) ?_
      rw[Zgx,if_pos (show Zji ks.length l k=0 by simp[Zji,Zpf,Zae,Zaa,h2,h3,h4];omega)]
      exact Zic hC ms ks rs l hk hl m (k+1) (by omega)
    ·rw[ZhO (show Zji ks.length l k=2 by simp[Zji,Zpf,Zae,Zaa,h2,h3,h4]) (by decide)]
     exact fin hC Zbl (ZJu std ms ks rs l k) (by simp[-List.getD_eq_getElem?_getD,e0,e1,e2,h2,h3,h4];omega) rfl rfl
   ·rw[ZhO (show Zji ks.length l k=2 by simp[Zji,Zpf,Zae,Zaa,h2,h3]) (by decide)]
    exact fin hC Zbl (ZKC std ms ks rs l k) (by simp[-List.getD_eq_getElem?_getD,e0,e1,e2,h2,h3];omega) rfl rfl
  ·rw[ZhO (show Zji ks.length l k=15 by simp[Zji,Zpf,Zae,Zaa,h2]) (by decide)]
   exact fin hC Zbl (ZIH std ms ks rs l k) (by simp[-List.getD_eq_getElem?_getD,e0,e1,e2,h2];omega) rfl rfl
theorem Zr7(ms ks rs l:zA)(hk:ks.length≤1000000)(hl:l.length≤1000000):Zan Tryz.prog 76 [vM ms ks rs, .list (.big (.agg [.int .i64, .int .i64, .int .i64]) l)] (ZfV 0 ks.length l) none:=
 start (ZAr ms ks rs l) fun C hC=>by
  by_cases h1:l=[]
  ·have e:ZhG 0 l=10:=by rw[h1];rfl
   rw[ZfV,if_neg (by rw[e];decide),e]
   exact fin hC Zbl (ZKR std ms ks rs l) (by simp[h1]) rfl rfl
  ·have h0:0<l.length:=List.length_pos_iff.2 h1
   by_cases h2:12<l.length
   ·have e:ZhG 0 l=8:=by
     unfold ZhG
     rw[decide_eq_true (show 0<(l.length:Int) by omega),decide_eq_false (show ¬(l.length:Int)≤12 by omega)];rfl
    rw[ZfV,if_neg (by rw[e];decide),e]
    exact fin hC Zbl (ZIN std ms ks rs l) (by simp[h1];omega) rfl rfl
   ·have e:ZhG 0 l=0:=by
     unfold ZhG
     rw[decide_eq_true (show 0<(l.length:Int) by omega),decide_eq_true (show (l.length:Int)≤12 by omega)];rfl
    rw[ZfV,if_pos e]
    refine go hC Zbl (ZJH std ms ks rs l) (by simp[h1];omega) ?_
    exact Zic hC ms ks rs l hk hl l.length 0 (by omega)
end Go.Proofs.YtkeoeooghhjibaaGreatDoor
namespace Go.Proofs.YtkeoeooghhjibaaGreatDoor
def ZGt(x:AV):Bool:=decide (x.toS.length≤20)
def ZqR(x:AV):Bool:=decide ((x.cellAt 0).toS.length≤20)
def Zsm(ms ks rs:zA):Bool:=decide (ms.length≤8∧ks.length≤10∧rs.length≤12)&&(ms.all ZGt&&(ks.all ZqR&&rs.all ZqR))
theorem Znu{xs:zA}{k:Nat}(h:k<xs.length):xs.drop k=xs.getD k .top::xs.drop (k+1):=by
 rw[List.drop_eq_getElem_cons h,List.getD_eq_getElem?_getD,List.getElem?_eq_getElem h];rfl
section
variable {C:Ctx}(hC:C.P=Tryz.prog)(ms ks rs:zA)(hl:ms.length≤8∧ks.length≤10∧rs.length≤12)
include hC hl
theorem ZEh:∀(m k:Nat),k+m=rs.length→vE C (ZjJ ms ks rs k) (Zco 23 (.bool ((rs.drop k).all ZqR)) none)
 |0,k,h=>fin hC Zbl (ZDo std ms ks rs k) (by simp;omega) (by rw[List.drop_of_length_le (by omega)];rfl) rfl
 |m+1,k,h=>by
  rw[Znu (show k<rs.length by omega)]
  by_cases h1:((rs.getD k .top).cellAt 0).toS.length≤20
  ·refine go hC Zbl (ZEu std ms ks rs k) (by simp[-List.getD_eq_getElem?_getD];omega) ?_
   rw[List.all_cons,show ZqR (rs.getD k .top)=true from decide_eq_true h1,Bool.true_and]
   exact ZEh m (k+1) (by omega)
  ·exact fin hC Zbl (ZFy std ms ks rs k) (by simp[-List.getD_eq_getElem?_getD];omega) (by rw[List.all_cons,show ZqR (rs.getD k .top)=false from decide_eq_false h1,Bool.false_and]) rfl
theorem ZGT:∀(m k:Nat),k+m=ks.length→vE C (Zkq ms ks rs k) (Zco 23 (.bool ((ks.drop k).all ZqR&&rs.all ZqR)) none)
 |0,k,h=>by
  refine go hC Zbl (ZJO std ms ks rs k) (by simp;omega) ?_
  rw[List.drop_of_length_le (by omega)]
  exact ZEh hC ms ks rs hl rs.length 0 (by omega)
 |m+1,k,h=>by
  rw[Znu (show k<ks.length by omega)]
  by_cases h1:((ks.getD k .top).cellAt 0).toS.length≤20
  ·refine go hC Zbl (ZI2 std ms ks rs k) (by simp[-List.getD_eq_getElem?_getD];omega) ?_
   rw[List.all_cons,show ZqR (ks.getD k .top)=true from decide_eq_true h1,Bool.true_and]
   exact ZGT m (k+1) (by omega)
  ·exact fin hC Zbl (ZJq std ms ks rs k) (by simp[-List.getD_eq_getElem?_getD];omega) (by rw[List.all_cons,show ZqR (ks.getD k .top)=false from decide_eq_false h1,Bool.false_and,Bool.false_and]) rfl
theorem ZF2:∀(m k:Nat),k+m=ms.length→vE C (ZjG ms ks rs k) (Zco 23 (.bool ((ms.drop k).all ZGt&&(ks.all ZqR&&rs.all ZqR))) none)
 |0,k,h=>by
  refine go hC Zbl (ZJ7 std ms ks rs k) (by simp;omega) ?_
  rw[List.drop_of_length_le (by omega)]
  exact ZGT hC ms ks rs hl ks.length 0 (by omega)
 |m+1,k,h=>by
  rw[Znu (show k<ms.length by omega)]
  by_cases h1:(ms.getD k .top).toS.length≤20
  ·refine go hC Zbl (ZKU std ms ks rs k) (by simp[-List.getD_eq_getElem?_getD];omega) ?_
   rw[List.all_cons,show ZGt (ms.getD k .top)=true from decide_eq_true h1,Bool.true_and]
   exact ZF2 m (k+1) (by omega)
  ·exact fin hC Zbl (ZII std ms ks rs k) (by simp[-List.getD_eq_getElem?_getD];omega) (by rw[List.all_cons,show ZGt (ms.getD k .top)=false from decide_eq_false h1,Bool.false_and,Bool.false_and]) rfl
end
theorem ZwY(ms ks rs:zA):Zan Tryz.prog 23 [vM ms ks rs] (.bool (Zsm ms ks rs)) none:=
 start (ZzD ms ks rs) fun C hC=>by
  by_cases h1:ms.length≤8
  ·by_cases h2:ks.length≤10
   ·by_cases h3:rs.length≤12
    ·refine go hC Zbl (ZJZ std ms ks rs) (by simp;omega) ?_
     unfold Zsm
     rw[decide_eq_true ⟨h1,h2,h3⟩,Bool.true_and]
     exact ZF2 hC ms ks rs ⟨h1,h2,h3⟩ ms.length 0 (by omega)
    ·exact fin hC Zbl (ZH9 std ms ks rs) (by simp;omega) (by simp[Zsm,h3]) rfl
   ·exact fin hC Zbl (ZJp std ms ks rs) (by simp;omega) (by simp[Zsm,h2]) rfl
  ·exact fin hC Zbl (ZKc std ms ks rs) (by simp;omega) (by simp[Zsm,h1]) rfl
end Go.Proofs.YtkeoeooghhjibaaGreatDoor
namespace Go.Proofs.YtkeoeooghhjibaaGreatDoor
set_option maxRecDepth 100000
set_option linter.unusedVariables false
def ZCO(l:zI)(a b:Int)(xs:zI):AFrame:=vF 90 9 [vL 0 l,(1,AV.fn 87 [AV.eptr (AV.agg (vx [.int .i64 a, .int .i64 b, .list (.ints .i64 xs)])) 0])] [.code a90.code] [.tmp 4]
def ZM7(l:zI)(a b:Int)(xs:zI):List AFrame:=[(ZCO l a b xs)]
theorem Zy7(l:zI)(a b:Int)(xs:zI):Zam tab 90 [AV.list (.ints .i64 l),AV.fn 87 [AV.eptr (AV.agg (Row.gen [.int .i64 a, .int .i64 b, .list (.ints .i64 xs)])) 0]]=some (ZCO l a b xs):=rfl
def Zcu(l:zI)(a b:Int)(xs:zI)(n0 n1:Int):List AFrame:=[vF 137 19 [vL 0 l,(1,AV.fn 87 [AV.eptr (AV.agg (vx [.int .i64 a, .int .i64 b, .list (.ints .i64 xs)])) 0]),vI 7 n0,vI 8 n1] (vC Zpo Zr9) [.tmp 4],vF 90 9 [vL 0 l,(1,AV.fn 87 [AV.eptr (AV.agg (vx [.int .i64 a, .int .i64 b, .list (.ints .i64 xs)])) 0]),vB 4 false,vL 5 l,(6,AV.fn 87 [AV.eptr (AV.agg (vx [.int .i64 a, .int .i64 b, .list (.ints .i64 xs)])) 0])] v9Q [.tmp 4]]
def ZbX(l:zI)(a b:Int)(xs:zI)(n0 n1:Int):Zad:=[]
abbrev ZeV(l:zI)(a b:Int)(xs:zI)(n0 n1:Int):List AFrame×Zad:=(Zcu l a b xs n0 n1,ZbX l a b xs n0 n1)
theorem ZIO(A:Ar)(l:zI)(a b:Int)(xs:zI):ZaD A tab B5 23 [] (ZM7 l a b xs) []=
 some (tr [7] [],
  ZeV (l) (a) (b) (xs) (A.int (A.len l)) (0)):=by kernel_rfl
theorem ZJL(A:Ar)(l:zI)(a b:Int)(xs:zI)(n0 n1:Int):Za9 A tab B5 56 [true,true,true,true,true,true,true,true] 90 (Zcu l a b xs n0 n1) (ZbX l a b xs n0 n1)=
 some (tr [6,13,5,5,1] [A.not (Zab (A.nth l (A.nat n1)) 0 b),A.not (A.eq (A.nth l (A.nat n1)) (-1)),Zag (Zag (A.le 0 n1) (Nat.blt (A.nat n1) (A.len l))) true,A.lt n1 n0],
  AV.bool (A.le 0 n1),none):=by kernel_rfl
theorem ZIa(A:Ar)(l:zI)(a b:Int)(xs:zI)(n0 n1:Int):ZaD A tab B5 53 [true,true,true,true,true,true,true,false] (Zcu l a b xs n0 n1) (ZbX l a b xs n0 n1)=
 some (tr [1,0,13,5,5,1] [A.inR .i64 (A.add n1 1),!A.not (Zab (A.nth l (A.nat n1)) 0 b),A.not (A.eq (A.nth l (A.nat n1)) (-1)),Zag (Zag (A.le 0 n1) (Nat.blt (A.nat n1) (A.len l))) true,A.lt n1 n0],
  ZeV (l) (a) (b) (xs) (n0) (A.add n1 1)):=by kernel_rfl
theorem ZJd(A:Ar)(l:zI)(a b:Int)(xs:zI)(n0 n1:Int):ZaD A tab B5 53 [true,false,false,false,false,false,false,false] (Zcu l a b xs n0 n1) (ZbX l a b xs n0 n1)=
 some (tr [1,14,5,5,1] [A.inR .i64 (A.add n1 1),!A.not (A.eq (A.nth l (A.nat n1)) (-1)),Zag (Zag (A.le 0 n1) (Nat.blt (A.nat n1) (A.len l))) true,A.lt n1 n0],
  ZeV (l) (a) (b) (xs) (n0) (A.add n1 1)):=by kernel_rfl
theorem ZKm(A:Ar)(l:zI)(a b:Int)(xs:zI)(n0 n1:Int):Za9 A tab B5 18 [false] 90 (Zcu l a b xs n0 n1) (ZbX l a b xs n0 n1)=
 some (tr [5,1] [!A.lt n1 n0],
  AV.bool (A.le 0 (-1)),none):=by kernel_rfl
end Go.Proofs.YtkeoeooghhjibaaGreatDoor
namespace Go.Proofs.YtkeoeooghhjibaaGreatDoor
def ZtA(b n:Int):Bool:=decide (n≠ -1)&&!Zab n 0 b
theorem Zgn{C:Ctx}(hC:C.P=Tryz.prog)(l:zI)(a b:Int)(xs:zI)(hl:l.length≤1000000):∀(m k:Nat),k+m=l.length→vE C (ZeV l a b xs l.length k) (Zco 90 (.bool ((l.drop k).any (ZtA b))) none)
 |0,k,h=>fin hC ZiA (ZKm std l a b xs l.length k) (by simp;omega) (by rw[List.drop_of_length_le (by omega)];rfl) rfl
 |m+1,k,h=>by
  have hd:l.drop k=l.getD k 0::l.drop (k+1):=by
   rw[List.drop_eq_getElem_cons (show k<l.length by omega),List.getD_eq_getElem?_getD,List.getElem?_eq_getElem (show k<l.length by omega)];rfl
  rw[hd,List.any_cons]
  by_cases h1:l.getD k 0= -1
  ·refine go hC ZiA (ZJd std l a b xs l.length k) (by simp[-List.getD_eq_getElem?_getD,h1];omega) ?_
   rw[show ZtA b (l.getD k 0)=false by rw[ZtA,decide_eq_false (by simp only[h1,ne_eq,not_true_eq_false,not_false_eq_true]),Bool.false_and],Bool.false_or]
   exact Zgn hC l a b xs hl m (k+1) (by omega)
  ·by_cases h2:Zab (l.getD k 0) 0 b=true
   ·refine go hC ZiA (ZIa std l a b xs l.length k) (by simp[-List.getD_eq_getElem?_getD,h1,h2];omega) ?_
    rw[show ZtA b (l.getD k 0)=false by rw[ZtA,h2,Bool.not_true,Bool.and_false],Bool.false_or]
    exact Zgn hC l a b xs hl m (k+1) (by omega)
   ·exact fin hC ZiA (ZJL std l a b xs l.length k) (by simp[-List.getD_eq_getElem?_getD,h1,h2];omega) (by
     have e:ZtA b (l.getD k 0)=true:=by rw[ZtA,decide_eq_true h1,(by simpa using h2:Zab (l.getD k 0) 0 b=false)];rfl
     rw[e,Bool.true_or]
     show AV.bool (decide ((0:Int)≤k))=_
     rw[decide_eq_true (by omega)]) rfl
theorem ZtR(l:zI)(a b:Int)(xs:zI)(hl:l.length≤1000000):Zan Tryz.prog 90 [.list (.ints .i64 l), .fn 87 [.eptr (.agg (.gen [.int .i64 a, .int .i64 b, .list (.ints .i64 xs)])) 0]] (.bool (l.any (ZtA b))) none:=
 start (Zy7 l a b xs) fun C hC=>go hC ZiA (ZIO std l a b xs) (by simp) (Zgn hC l a b xs hl l.length 0 (by omega))
end Go.Proofs.YtkeoeooghhjibaaGreatDoor
namespace Go.Proofs.YtkeoeooghhjibaaGreatDoor
def k23:Ctr:=⟨23,0,fun _ a=>match a with |[.agg (.gen [.list (.big .str ms), .list (.big (.agg [.str, .int .i64]) ks), .list (.big (.agg [.str, .int .i64, .int .i64, .int .i64, .int .i64]) rs)])]=>some (true, .bool (Zsm ms ks rs),none) |_=>none⟩
theorem ZCx:k23.OK Tryz.prog:=fun pa args r fr h=>by
 simp only[k23]at h
 split at h
 ·cases h
  exact ZwY _ _ _
 ·cases h
def k90:Ctr:=⟨90,0,fun _ a=>match a with |[.list (.ints .i64 l), .fn 87 [.eptr (.agg (.gen [.int .i64 _, .int .i64 b, .list (.ints .i64 _)])) 0]]=>some (decide (l.length≤1000000), .bool (l.any (ZtA b)),none) |_=>none⟩
theorem ZFe:k90.OK Tryz.prog:=fun pa args r fr h=>by
 simp only[k90]at h
 split at h
 ·simp only[zS,zP,decide_eq_true_eq]at h
  obtain⟨h0,rfl,rfl⟩:=h
  exact ZtR _ _ _ _ h0
 ·cases h
def B6:List Ctr:=[k23,k90]++B5
theorem Zfe:ZaF Tryz.prog B6:=⟨ZCx,⟨ZFe,ZiA⟩⟩
end Go.Proofs.YtkeoeooghhjibaaGreatDoor
