/- Paths of functions, printed by the explorer (Gx). No condition. -/
import Derived.Test.YtkeoeooghhjibaaGreatDoorPe
import Derived.KernelRfl
namespace Go.Proofs.YtkeoeooghhjibaaGreatDoor
set_option maxRecDepth 100000
set_option linter.unusedVariables false
def ZAX(n:Int):AFrame:={ fn:=89,N:=5,env:=[(0,AV.int .i64 n)],todo:=[.code a89.code],defs:=[],rnd:=none,ret:=false,res:=[ARes.tmp 2] }
def ZGH(n:Int):List AFrame:=[(ZAX n)]
theorem ZuR(n:Int):Zat tab 89 [AV.int .i64 n]=some (ZAX n):=rfl
theorem ZC7(A:Ar)(n:Int):Za1 A tab B3 11 [] 89 (ZGH n) []=
 some (tr [5] [],
  AV.bool (Zab n 0 1000000000000),none):=by kernel_rfl
def Zzb(ms ks rs:List AV):AFrame:={ fn:=23,N:=66,env:=[(0,AV.agg (Row.gen [.list (Row.big .str ms), .list (Row.big (.agg [.str, .int .i64]) ks), .list (Row.big (.agg [.str, .int .i64, .int .i64, .int .i64, .int .i64]) rs)]))],todo:=[.code a23.code],defs:=[],rnd:=none,ret:=false,res:=[ARes.tmp 2] }
def ZCv(ms ks rs:List AV):List AFrame:=[(Zzb ms ks rs)]
theorem Zuf(ms ks rs:List AV):Zat tab 23 [AV.agg (Row.gen [.list (Row.big .str ms), .list (Row.big (.agg [.str, .int .i64]) ks), .list (Row.big (.agg [.str, .int .i64, .int .i64, .int .i64, .int .i64]) rs)])]=some (Zzb ms ks rs):=rfl
def Zdq(ms ks rs:List AV)(n0:Int):List AFrame:=[{ fn:=23,N:=66,env:=[(1,AV.ptr 23002 0 0 0),(3,AV.int .i64 n0)],todo:=.code (ACode.gh [] ZyC)::ZE1,defs:=[],rnd:=none,ret:=false,res:=[ARes.tmp 2] }]
def ZcV(ms ks rs:List AV)(n0:Int):Zac:=[(23002,{ base:=0,blks:=[Blk.row 26 3 (Row.gen [AV.agg (Row.gen [AV.list (Row.big .str ms),AV.list (Row.big (.agg [.str, .int .i64]) ks),AV.list (Row.big (.agg [.str, .int .i64, .int .i64, .int .i64, .int .i64]) rs)])])] })]
abbrev Zib(ms ks rs:List AV)(n0:Int):List AFrame×Zac:=(Zdq ms ks rs n0,ZcV ms ks rs n0)
def ZdJ(ms ks rs:List AV)(n1:Int):List AFrame:=[{ fn:=23,N:=66,env:=[(1,AV.ptr 23002 0 0 0),(4,AV.int .i64 n1)],todo:=.code (ACode.gh [] Zye)::ZDU,defs:=[],rnd:=none,ret:=false,res:=[ARes.tmp 2] }]
def ZcN(ms ks rs:List AV)(n1:Int):Zac:=[(23002,{ base:=0,blks:=[Blk.row 26 3 (Row.gen [AV.agg (Row.gen [AV.list (Row.big .str ms),AV.list (Row.big (.agg [.str, .int .i64]) ks),AV.list (Row.big (.agg [.str, .int .i64, .int .i64, .int .i64, .int .i64]) rs)])])] })]
abbrev Zin(ms ks rs:List AV)(n1:Int):List AFrame×Zac:=(ZdJ ms ks rs n1,ZcN ms ks rs n1)
def ZdM(ms ks rs:List AV)(n2:Int):List AFrame:=[{ fn:=23,N:=66,env:=[(1,AV.ptr 23002 0 0 0),(5,AV.int .i64 n2)],todo:=.code (ACode.gh [] ZAe)::ZEZ,defs:=[],rnd:=none,ret:=false,res:=[ARes.tmp 2] }]
def ZcX(ms ks rs:List AV)(n2:Int):Zac:=[(23002,{ base:=0,blks:=[Blk.row 26 3 (Row.gen [AV.agg (Row.gen [AV.list (Row.big .str ms),AV.list (Row.big (.agg [.str, .int .i64]) ks),AV.list (Row.big (.agg [.str, .int .i64, .int .i64, .int .i64, .int .i64]) rs)])])] })]
abbrev Zik(ms ks rs:List AV)(n2:Int):List AFrame×Zac:=(ZdM ms ks rs n2,ZcX ms ks rs n2)
theorem ZEA(A:Ar)(ms ks rs:List AV):Za1 A tab B3 32 [true,true,true,true,true,true,true,true,true,true,true] 23 (ZCv ms ks rs) []=
 some (tr [23,7] [A.lt 8 (A.int (A.lenA ms))],
  AV.bool false,none):=by kernel_rfl
theorem ZE5(A:Ar)(ms ks rs:List AV):Za1 A tab B3 32 [false,false,false,false,false,true,true,true,true,true,true] 23 (ZCv ms ks rs) []=
 some (tr [12,10,7] [A.lt 10 (A.int (A.lenA ks)),!A.lt 8 (A.int (A.lenA ms))],
  AV.bool false,none):=by kernel_rfl
theorem ZDH(A:Ar)(ms ks rs:List AV):Za1 A tab B3 32 [false,false,false,false,false,false,false,false,false,false,true] 23 (ZCv ms ks rs) []=
 some (tr [2,9,10,7] [A.lt 12 (A.int (A.lenA rs)),!A.lt 10 (A.int (A.lenA ks)),!A.lt 8 (A.int (A.lenA ms))],
  AV.bool false,none):=by kernel_rfl
theorem ZEq(A:Ar)(ms ks rs:List AV):ZaB A tab B3 36 [false,false,false,false,false,false,false,false,false,false,false] (ZCv ms ks rs) []=
 some (tr [1,9,10,7] [!A.lt 12 (A.int (A.lenA rs)),!A.lt 10 (A.int (A.lenA ks)),!A.lt 8 (A.int (A.lenA ms))],
  Zib (ms) (ks) (rs) (0)):=by kernel_rfl
theorem ZC9(A:Ar)(ms ks rs:List AV)(n0:Int):Za1 A tab B3 31 [true,true] 23 (Zdq ms ks rs n0) (ZcV ms ks rs n0)=
 some (tr [2,3,3,5] [A.lt 20 (A.int (A.lenS (AV.toS (A.nthA ms (A.nat n0))))),Zah (Zah (A.le 0 n0) (Nat.blt (A.nat n0) (A.lenA ms))) true,A.lt n0 (A.int (A.lenA ms))],
  AV.bool false,none):=by kernel_rfl
theorem ZEz(A:Ar)(ms ks rs:List AV)(n0:Int):ZaB A tab B3 35 [true,false] (Zdq ms ks rs n0) (ZcV ms ks rs n0)=
 some (tr [1,1,3,3,5] [A.inR .i64 (A.add n0 1),!A.lt 20 (A.int (A.lenS (AV.toS (A.nthA ms (A.nat n0))))),Zah (Zah (A.le 0 n0) (Nat.blt (A.nat n0) (A.lenA ms))) true,A.lt n0 (A.int (A.lenA ms))],
  Zib (ms) (ks) (rs) (A.add n0 1)):=by kernel_rfl
theorem ZEE(A:Ar)(ms ks rs:List AV)(n0:Int):ZaB A tab B3 20 [false] (Zdq ms ks rs n0) (ZcV ms ks rs n0)=
 some (tr [1,5] [!A.lt n0 (A.int (A.lenA ms))],
  Zin (ms) (ks) (rs) (0)):=by kernel_rfl
theorem ZEO(A:Ar)(ms ks rs:List AV)(n1:Int):Za1 A tab B3 32 [true,true] 23 (ZdJ ms ks rs n1) (ZcN ms ks rs n1)=
 some (tr [2,4,3,5] [A.lt 20 (A.int (A.lenS ((A.nthA ks (A.nat n1)).cellAt 0).toS)),Zah (Zah (A.le 0 n1) (Nat.blt (A.nat n1) (A.lenA ks))) true,A.lt n1 (A.int (A.lenA ks))],
  AV.bool false,none):=by kernel_rfl
theorem ZED(A:Ar)(ms ks rs:List AV)(n1:Int):ZaB A tab B3 36 [true,false] (ZdJ ms ks rs n1) (ZcN ms ks rs n1)=
 some (tr [1,1,4,3,5] [A.inR .i64 (A.add n1 1),!A.lt 20 (A.int (A.lenS ((A.nthA ks (A.nat n1)).cellAt 0).toS)),Zah (Zah (A.le 0 n1) (Nat.blt (A.nat n1) (A.lenA ks))) true,A.lt n1 (A.int (A.lenA ks))],
  Zin (ms) (ks) (rs) (A.add n1 1)):=by kernel_rfl
theorem ZC6(A:Ar)(ms ks rs:List AV)(n1:Int):ZaB A tab B3 20 [false] (ZdJ ms ks rs n1) (ZcN ms ks rs n1)=
 some (tr [1,5] [!A.lt n1 (A.int (A.lenA ks))],
  Zik (ms) (ks) (rs) (0)):=by kernel_rfl
theorem ZB5(A:Ar)(ms ks rs:List AV)(n2:Int):Za1 A tab B3 32 [true,true] 23 (ZdM ms ks rs n2) (ZcX ms ks rs n2)=
 some (tr [2,4,3,5] [A.lt 20 (A.int (A.lenS ((A.nthA rs (A.nat n2)).cellAt 0).toS)),Zah (Zah (A.le 0 n2) (Nat.blt (A.nat n2) (A.lenA rs))) true,A.lt n2 (A.int (A.lenA rs))],
  AV.bool false,none):=by kernel_rfl
theorem ZBN(A:Ar)(ms ks rs:List AV)(n2:Int):ZaB A tab B3 36 [true,false] (ZdM ms ks rs n2) (ZcX ms ks rs n2)=
 some (tr [1,1,4,3,5] [A.inR .i64 (A.add n2 1),!A.lt 20 (A.int (A.lenS ((A.nthA rs (A.nat n2)).cellAt 0).toS)),Zah (Zah (A.le 0 n2) (Nat.blt (A.nat n2) (A.lenA rs))) true,A.lt n2 (A.int (A.lenA rs))],
  Zik (ms) (ks) (rs) (A.add n2 1)):=by kernel_rfl
theorem ZAA(A:Ar)(ms ks rs:List AV)(n2:Int):Za1 A tab B3 17 [false] 23 (ZdM ms ks rs n2) (ZcX ms ks rs n2)=
 some (tr [2,5] [!A.lt n2 (A.int (A.lenA rs))],
  AV.bool true,none):=by kernel_rfl
def Ztq(ms ks rs:List AV):AFrame:={ fn:=136,N:=31,env:=[(0,AV.agg (Row.gen [.list (Row.big .str ms), .list (Row.big (.agg [.str, .int .i64]) ks), .list (Row.big (.agg [.str, .int .i64, .int .i64, .int .i64, .int .i64]) rs)]))],todo:=[.code a136.code],defs:=[],rnd:=none,ret:=false,res:=[ARes.cell 2 true 2,ARes.tmp 3] }
def ZzJ(ms ks rs:List AV):List AFrame:=[(Ztq ms ks rs)]
theorem Zru(ms ks rs:List AV):Zat tab 136 [AV.agg (Row.gen [.list (Row.big .str ms), .list (Row.big (.agg [.str, .int .i64]) ks), .list (Row.big (.agg [.str, .int .i64, .int .i64, .int .i64, .int .i64]) rs)])]=some (Ztq ms ks rs):=rfl
def ZbK(ms ks rs:List AV)(n0 n1 n2 n3 n4:Int)(x5:List AV):List AFrame:=[{ fn:=159,N:=83,env:=[(0,AV.ptr 136005 0 0 0),(1,AV.int .i64 1),(5,AV.fn 160 [AV.ptr 136002 0 0 0]),(6,AV.fn 161 []),(15,AV.mp 159045 0),(45,AV.int .i64 n0),(46,AV.int .i64 n4)],todo:=.code (ACode.gh [] Zmz)::Zpc,defs:=[],rnd:=none,ret:=false,res:=[] },{ fn:=136,N:=31,env:=[(1,AV.ptr 136002 0 0 0),(2,AV.ptr 136003 0 0 0),(4,AV.ptr 136005 0 0 0),(5,AV.ptr 136006 0 0 0),(6,AV.ptr 136007 0 0 0),(7,AV.ptr 136008 0 0 0),(14,AV.int .i64 n1),(15,AV.fn 160 [AV.ptr 136002 0 0 0])],todo:=[AItem.inReg [oN 16 (OpK.icall 159 [Opd.t 4,cI 1,Opd.t 14,cI 1,cI 6,Opd.t 15,Opd.c (AV.fn 161 [])])], .code (ACode.seq (ACode.reg none [oN 17 (OpK.load false 1 (Opd.t 7)),oN 18 (OpK.mkfn 162 [Opd.t 1]),oN 19 (OpK.mkfn 163 [Opd.t 5,Opd.t 1,Opd.t 6]),oN 20 (OpK.icall 159 [Opd.t 4,cI 2,Opd.t 17,cI 1,cI 8,Opd.t 18,Opd.t 19])]) (ACode.seq (ACode.reg none [oN 21 (OpK.faddr 2 (Opd.t 1)),oN 22 (OpK.load false 1 (Opd.t 21)),oN 23 (OpK.len (Opd.t 22)),oN 24 (OpK.mkfn 164 [Opd.t 1]),oN 25 (OpK.mkfn 165 [Opd.t 1,Opd.t 7,Opd.t 5,Opd.t 6]),oN 26 (OpK.icall 159 [Opd.t 4,cI 3,Opd.t 23,cI 0,cI 10,Opd.t 24,Opd.t 25])]) (ACode.gh [Ghost.keep [2,4]] (ACode.seq (ACode.reg (some [(2,4),(3,4)]) [oN 27 (OpK.faddr 0 (Opd.t 4)),oN 28 (OpK.load true 2 (Opd.t 27)),oN 29 (OpK.faddr 2 (Opd.t 4)),oN 30 (OpK.load false 1 (Opd.t 29)),{ d:=none,g:=none,k:=OpK.store 2 (Opd.t 2) (Opd.t 28) },mV 3 30]) ACode.ret))))],defs:=[],rnd:=none,ret:=false,res:=[ARes.cell 2 true 2,ARes.tmp 3] }]
def Zbv(ms ks rs:List AV)(n0 n1 n2 n3 n4:Int)(x5:List AV):Zac:=[(136002,{ base:=0,blks:=[Blk.row 26 3 (Row.gen [AV.agg (Row.gen [AV.list (Row.big .str ms),AV.list (Row.big (.agg [.str, .int .i64]) ks),AV.list (Row.big (.agg [.str, .int .i64, .int .i64, .int .i64, .int .i64]) rs)])])] }),(136003,{ base:=0,blks:=[Blk.row 195 2 (Row.gen [AV.agg (Row.gen [AV.int .i64 0,AV.int .i64 0])])] }),(136005,{ base:=0,blks:=[Blk.row 236 3 (Row.gen [AV.agg (Row.gen [AV.int .i64 0,AV.int .i64 0,AV.int .i64 0])])] }),(136006,{ base:=0,blks:=[Blk.row 237 1 (Row.gen [AV.fn 158 []])] }),(136007,{ base:=0,blks:=[Blk.row 3 1 (Row.gen [.int .i64 n2])] }),(136008,{ base:=0,blks:=[Blk.row 3 1 (Row.gen [.int .i64 n3])] }),(159045,{ base:=0,blks:=[Blk.mp x5] })]
abbrev ZfJ(ms ks rs:List AV)(n0 n1 n2 n3 n4:Int)(x5:List AV):List AFrame×Zac:=(ZbK ms ks rs n0 n1 n2 n3 n4 x5,Zbv ms ks rs n0 n1 n2 n3 n4 x5)
def ZbI(ms ks rs:List AV)(n1 n2 n3 n6:Int)(x7:List AV):List AFrame:=[{ fn:=159,N:=83,env:=[(0,AV.ptr 136005 0 0 0),(1,AV.int .i64 2),(5,AV.fn 162 [AV.ptr 136002 0 0 0]),(6,AV.fn 163 [AV.ptr 136006 0 0 0,AV.ptr 136002 0 0 0,AV.ptr 136007 0 0 0]),(15,AV.mp 159045 0),(45,AV.int .i64 n3),(46,AV.int .i64 n6)],todo:=.code (ACode.gh [] Zmz)::Zpc,defs:=[],rnd:=none,ret:=false,res:=[] },{ fn:=136,N:=31,env:=[(1,AV.ptr 136002 0 0 0),(2,AV.ptr 136003 0 0 0),(4,AV.ptr 136005 0 0 0),(5,AV.ptr 136006 0 0 0),(6,AV.ptr 136007 0 0 0),(7,AV.ptr 136008 0 0 0),(14,AV.int .i64 n1),(15,AV.fn 160 [AV.ptr 136002 0 0 0]),(16,AV.tup []),(17,AV.int .i64 n3),(18,AV.fn 162 [AV.ptr 136002 0 0 0]),(19,AV.fn 163 [AV.ptr 136006 0 0 0,AV.ptr 136002 0 0 0,AV.ptr 136007 0 0 0])],todo:=[AItem.inReg [oN 20 (OpK.icall 159 [Opd.t 4,cI 2,Opd.t 17,cI 1,cI 8,Opd.t 18,Opd.t 19])], .code (ACode.seq (ACode.reg none [oN 21 (OpK.faddr 2 (Opd.t 1)),oN 22 (OpK.load false 1 (Opd.t 21)),oN 23 (OpK.len (Opd.t 22)),oN 24 (OpK.mkfn 164 [Opd.t 1]),oN 25 (OpK.mkfn 165 [Opd.t 1,Opd.t 7,Opd.t 5,Opd.t 6]),oN 26 (OpK.icall 159 [Opd.t 4,cI 3,Opd.t 23,cI 0,cI 10,Opd.t 24,Opd.t 25])]) (ACode.gh [Ghost.keep [2,4]] (ACode.seq (ACode.reg (some [(2,4),(3,4)]) [oN 27 (OpK.faddr 0 (Opd.t 4)),oN 28 (OpK.load true 2 (Opd.t 27)),oN 29 (OpK.faddr 2 (Opd.t 4)),oN 30 (OpK.load false 1 (Opd.t 29)),{ d:=none,g:=none,k:=OpK.store 2 (Opd.t 2) (Opd.t 28) },mV 3 30]) ACode.ret)))],defs:=[],rnd:=none,ret:=false,res:=[ARes.cell 2 true 2,ARes.tmp 3] }]
def Zby(ms ks rs:List AV)(n1 n2 n3 n6:Int)(x7:List AV):Zac:=[(136002,{ base:=0,blks:=[Blk.row 26 3 (Row.gen [AV.agg (Row.gen [AV.list (Row.big .str ms),AV.list (Row.big (.agg [.str, .int .i64]) ks),AV.list (Row.big (.agg [.str, .int .i64, .int .i64, .int .i64, .int .i64]) rs)])])] }),(136003,{ base:=0,blks:=[Blk.row 195 2 (Row.gen [AV.agg (Row.gen [AV.int .i64 0,AV.int .i64 0])])] }),(136005,{ base:=0,blks:=[Blk.row 236 3 (Row.gen [AV.agg (Row.gen [AV.int .i64 0,AV.int .i64 0,AV.int .i64 0])])] }),(136006,{ base:=0,blks:=[Blk.row 237 1 (Row.gen [AV.fn 158 []])] }),(136007,{ base:=0,blks:=[Blk.row 3 1 (Row.gen [.int .i64 n2])] }),(136008,{ base:=0,blks:=[Blk.row 3 1 (Row.gen [.int .i64 n3])] }),(159045,{ base:=0,blks:=[Blk.mp x7] })]
abbrev Zf3(ms ks rs:List AV)(n1 n2 n3 n6:Int)(x7:List AV):List AFrame×Zac:=(ZbI ms ks rs n1 n2 n3 n6 x7,Zby ms ks rs n1 n2 n3 n6 x7)
def Zcm(ms ks rs:List AV)(n1 n2 n3 n8 n9 n10:Int)(x11:List AV):List AFrame:=[{ fn:=159,N:=83,env:=[(0,AV.ptr 136005 0 0 0),(1,AV.int .i64 3),(5,AV.fn 164 [AV.ptr 136002 0 0 0]),(6,AV.fn 165 [AV.ptr 136002 0 0 0,AV.ptr 136008 0 0 0,AV.ptr 136006 0 0 0,AV.ptr 136007 0 0 0]),(15,AV.mp 159045 0),(45,AV.int .i64 n8),(46,AV.int .i64 n10)],todo:=.code (ACode.gh [] Zmz)::Zpc,defs:=[],rnd:=none,ret:=false,res:=[] },{ fn:=136,N:=31,env:=[(1,AV.ptr 136002 0 0 0),(2,AV.ptr 136003 0 0 0),(4,AV.ptr 136005 0 0 0),(5,AV.ptr 136006 0 0 0),(6,AV.ptr 136007 0 0 0),(7,AV.ptr 136008 0 0 0),(14,AV.int .i64 n1),(15,AV.fn 160 [AV.ptr 136002 0 0 0]),(16,AV.tup []),(17,AV.int .i64 n3),(18,AV.fn 162 [AV.ptr 136002 0 0 0]),(19,AV.fn 163 [AV.ptr 136006 0 0 0,AV.ptr 136002 0 0 0,AV.ptr 136007 0 0 0]),(20,AV.tup []),(21,AV.ptr 136002 0 0 2),(22,AV.list (Row.big (.agg [.str, .int .i64, .int .i64, .int .i64, .int .i64]) rs)),(23,AV.int .i64 n9),(24,AV.fn 164 [AV.ptr 136002 0 0 0]),(25,AV.fn 165 [AV.ptr 136002 0 0 0,AV.ptr 136008 0 0 0,AV.ptr 136006 0 0 0,AV.ptr 136007 0 0 0])],todo:=[AItem.inReg [oN 26 (OpK.icall 159 [Opd.t 4,cI 3,Opd.t 23,cI 0,cI 10,Opd.t 24,Opd.t 25])], .code (ACode.gh [Ghost.keep [2,4]] (ACode.seq (ACode.reg (some [(2,4),(3,4)]) [oN 27 (OpK.faddr 0 (Opd.t 4)),oN 28 (OpK.load true 2 (Opd.t 27)),oN 29 (OpK.faddr 2 (Opd.t 4)),oN 30 (OpK.load false 1 (Opd.t 29)),{ d:=none,g:=none,k:=OpK.store 2 (Opd.t 2) (Opd.t 28) },mV 3 30]) ACode.ret))],defs:=[],rnd:=none,ret:=false,res:=[ARes.cell 2 true 2,ARes.tmp 3] }]
def ZbR(ms ks rs:List AV)(n1 n2 n3 n8 n9 n10:Int)(x11:List AV):Zac:=[(136002,{ base:=0,blks:=[Blk.row 26 3 (Row.gen [AV.agg (Row.gen [AV.list (Row.big .str ms),AV.list (Row.big (.agg [.str, .int .i64]) ks),AV.list (Row.big (.agg [.str, .int .i64, .int .i64, .int .i64, .int .i64]) rs)])])] }),(136003,{ base:=0,blks:=[Blk.row 195 2 (Row.gen [AV.agg (Row.gen [AV.int .i64 0,AV.int .i64 0])])] }),(136005,{ base:=0,blks:=[Blk.row 236 3 (Row.gen [AV.agg (Row.gen [AV.int .i64 0,AV.int .i64 0,AV.int .i64 0])])] }),(136006,{ base:=0,blks:=[Blk.row 237 1 (Row.gen [AV.fn 158 []])] }),(136007,{ base:=0,blks:=[Blk.row 3 1 (Row.gen [.int .i64 n2])] }),(136008,{ base:=0,blks:=[Blk.row 3 1 (Row.gen [.int .i64 n3])] }),(159045,{ base:=0,blks:=[Blk.mp x11] })]
abbrev ZfI(ms ks rs:List AV)(n1 n2 n3 n8 n9 n10:Int)(x11:List AV):List AFrame×Zac:=(Zcm ms ks rs n1 n2 n3 n8 n9 n10 x11,ZbR ms ks rs n1 n2 n3 n8 n9 n10 x11)
theorem Zyf(A:Ar)(ms ks rs:List AV):Za1 A tab B3 118 [false,true,true,true] 136 (ZzJ ms ks rs) []=
 some (tr [8,11,20,3,0,8,23] [A.not (A.eq (Zaf [Zaa (A.le 1 (A.int (A.lenA ms))) 10,Zaa (A.le (A.int (A.lenA ms)) 6) 8]) 0),A.not (A.eq (Zaf [Zaa (A.le 1 (A.int (A.lenA ms))) 10,Zaa (A.le (A.int (A.lenA ms)) 6) 8]) 0),A.not (A.eq (Zaf [Zaa (A.le 1 (A.int (A.lenA ms))) 10,Zaa (A.le (A.int (A.lenA ms)) 6) 8]) 0),decide (List.length [Zaa (A.le 1 (A.int (A.lenA ms))) 10,Zaa (A.le (A.int (A.lenA ms)) 6) 8]≤1000000),List.all [AV.int .i64 (Zaa (A.le 1 (A.int (A.lenA ms))) 10),AV.int .i64 (Zaa (A.le (A.int (A.lenA ms)) 6) 8)] fun x=>AV.bx x&&Nat.beq (Zad A x) 1,!A.not (A.eq 0 0)],
  AV.tup [AV.agg (Row.gen [.int .i64 1, .int .i64 0]),AV.int .i64 (Zaf [Zaa (A.le 1 (A.int (A.lenA ms))) 10,Zaa (A.le (A.int (A.lenA ms)) 6) 8])],none):=by kernel_rfl
theorem ZzB(A:Ar)(ms ks rs:List AV):ZaB A tab B3 70 [false,false] (ZzJ ms ks rs) []=
 some (tr [4,3,0,8,23] [!A.not (A.eq (Zaf [Zaa (A.le 1 (A.int (A.lenA ms))) 10,Zaa (A.le (A.int (A.lenA ms)) 6) 8]) 0),decide (List.length [Zaa (A.le 1 (A.int (A.lenA ms))) 10,Zaa (A.le (A.int (A.lenA ms)) 6) 8]≤1000000),List.all [AV.int .i64 (Zaa (A.le 1 (A.int (A.lenA ms))) 10),AV.int .i64 (Zaa (A.le (A.int (A.lenA ms)) 6) 8)] fun x=>AV.bx x&&Nat.beq (Zad A x) 1,!A.not (A.eq 0 0)],
  ZfJ (ms) (ks) (rs) (A.int (A.lenA ms)) (A.int (A.lenA ms)) (A.int (A.lenA ms)) (A.int (A.lenA ks)) (0) ([])):=by kernel_rfl
theorem ZzN(A:Ar)(ms ks rs:List AV)(n0 n1 n2 n3 n4:Int)(x5:List AV):Za1 A tab B3 107 [true,true,true,true] 136 (ZbK ms ks rs n0 n1 n2 n3 n4 x5) (Zbv ms ks rs n0 n1 n2 n3 n4 x5)=
 some (tr [8,11,21,3,0,6,4,0,4,1] [A.not (A.eq (Zaf [Zaa (ZaT (Za6 ms n4)) 4,Zaa (A.not (A.hasS x5 (Za6 ms n4))) 5,0]) 0),A.not (A.eq (Zaf [Zaa (ZaT (Za6 ms n4)) 4,Zaa (A.not (A.hasS x5 (Za6 ms n4))) 5,0]) 0),A.not (A.eq (Zaf [Zaa (ZaT (Za6 ms n4)) 4,Zaa (A.not (A.hasS x5 (Za6 ms n4))) 5,0]) 0),decide (List.length [Zaa (ZaT (Za6 ms n4)) 4,Zaa (A.not (A.hasS x5 (Za6 ms n4))) 5,0]≤1000000),List.all [AV.int .i64 (Zaa (ZaT (Za6 ms n4)) 4),AV.int .i64 (Zaa (A.not (A.hasS x5 (Za6 ms n4))) 5),AV.int .i64 0] fun x=>AV.bx x&&Nat.beq (Zad A x) 1,decide (0≤n4∧n4< ↑(List.length ms)),decide (List.length (Za6 ms n4)≤1000000),decide (0≤n4∧n4< ↑(List.length ms)),A.lt n4 n0],
  AV.tup [AV.agg (Row.gen [.int .i64 1, .int .i64 n4]),AV.int .i64 (Zaf [Zaa (ZaT (Za6 ms n4)) 4,Zaa (A.not (A.hasS x5 (Za6 ms n4))) 5,0])],none):=by kernel_rfl
theorem ZyK(A:Ar)(ms ks rs:List AV)(n0 n1 n2 n3 n4:Int)(x5:List AV):ZaB A tab B3 59 [true,false] (ZbK ms ks rs n0 n1 n2 n3 n4 x5) (Zbv ms ks rs n0 n1 n2 n3 n4 x5)=
 some (tr [1,0,0,3,3,0,6,4,0,4,1] [A.inR .i64 (A.add n4 1),A.not (A.hasS x5 (Za6 ms n4)),decide (0≤n4∧n4< ↑(List.length ms)),!A.not (A.eq (Zaf [Zaa (ZaT (Za6 ms n4)) 4,Zaa (A.not (A.hasS x5 (Za6 ms n4))) 5,0]) 0),decide (List.length [Zaa (ZaT (Za6 ms n4)) 4,Zaa (A.not (A.hasS x5 (Za6 ms n4))) 5,0]≤1000000),List.all [AV.int .i64 (Zaa (ZaT (Za6 ms n4)) 4),AV.int .i64 (Zaa (A.not (A.hasS x5 (Za6 ms n4))) 5),AV.int .i64 0] fun x=>AV.bx x&&Nat.beq (Zad A x) 1,decide (0≤n4∧n4< ↑(List.length ms)),decide (List.length (Za6 ms n4)≤1000000),decide (0≤n4∧n4< ↑(List.length ms)),A.lt n4 n0],
  ZfJ (ms) (ks) (rs) (n0) (n1) (n2) (n3) (A.add n4 1) (A.appA x5 [AV.str (Za6 ms n4)])):=by kernel_rfl
theorem ZzF(A:Ar)(ms ks rs:List AV)(n0 n1 n2 n3 n4:Int)(x5:List AV):Za1 A tab B3 93 [false,false,true,true] 136 (ZbK ms ks rs n0 n1 n2 n3 n4 x5) (Zbv ms ks rs n0 n1 n2 n3 n4 x5)=
 some (tr [8,22,3,0,8,9,1] [A.not (A.eq (Zaf [Zaa (A.le 1 n3) 10,Zaa (A.le n3 8) 8]) 0),A.not (A.eq (Zaf [Zaa (A.le 1 n3) 10,Zaa (A.le n3 8) 8]) 0),decide (List.length [Zaa (A.le 1 n3) 10,Zaa (A.le n3 8) 8]≤1000000),List.all [AV.int .i64 (Zaa (A.le 1 n3) 10),AV.int .i64 (Zaa (A.le n3 8) 8)] fun x=>AV.bx x&&Nat.beq (Zad A x) 1,!A.not (A.eq 0 0),!A.lt n4 n0],
  AV.tup [AV.agg (Row.gen [.int .i64 2, .int .i64 0]),AV.int .i64 (Zaf [Zaa (A.le 1 n3) 10,Zaa (A.le n3 8) 8])],none):=by kernel_rfl
theorem ZxN(A:Ar)(ms ks rs:List AV)(n0 n1 n2 n3 n4:Int)(x5:List AV):ZaB A tab B3 64 [false,false,false] (ZbK ms ks rs n0 n1 n2 n3 n4 x5) (Zbv ms ks rs n0 n1 n2 n3 n4 x5)=
 some (tr [4,3,0,8,9,1] [!A.not (A.eq (Zaf [Zaa (A.le 1 n3) 10,Zaa (A.le n3 8) 8]) 0),decide (List.length [Zaa (A.le 1 n3) 10,Zaa (A.le n3 8) 8]≤1000000),List.all [AV.int .i64 (Zaa (A.le 1 n3) 10),AV.int .i64 (Zaa (A.le n3 8) 8)] fun x=>AV.bx x&&Nat.beq (Zad A x) 1,!A.not (A.eq 0 0),!A.lt n4 n0],
  Zf3 (ms) (ks) (rs) (n1) (n2) (n3) (0) ([])):=by kernel_rfl
theorem ZAS(A:Ar)(ms ks rs:List AV)(n1 n2 n3 n6:Int)(x7:List AV):Za1 A tab B3 88 [true,true,true] 136 (ZbI ms ks rs n1 n2 n3 n6 x7) (Zby ms ks rs n1 n2 n3 n6 x7)=
 some (tr [8,23,3,0,0,5,4,0,4,1] [A.not (A.eq (Zaf [Zaa (ZaT (Zay ks n6)) 4,Zaa (A.not (A.hasS x7 (Zay ks n6))) 5,ZcO ks n6 n2]) 0),A.not (A.eq (Zaf [Zaa (ZaT (Zay ks n6)) 4,Zaa (A.not (A.hasS x7 (Zay ks n6))) 5,ZcO ks n6 n2]) 0),decide (List.length [Zaa (ZaT (Zay ks n6)) 4,Zaa (A.not (A.hasS x7 (Zay ks n6))) 5,ZcO ks n6 n2]≤1000000),List.all [AV.int .i64 (Zaa (ZaT (Zay ks n6)) 4),AV.int .i64 (Zaa (A.not (A.hasS x7 (Zay ks n6))) 5),AV.int .i64 (ZcO ks n6 n2)] fun x=>AV.bx x&&Nat.beq (Zad A x) 1,decide ((0≤n6∧n6< ↑(List.length ks))∧ -1000000≤n2∧n2≤1000000),decide (0≤n6∧n6< ↑(List.length ks)),decide (List.length (Zay ks n6)≤1000000),decide (0≤n6∧n6< ↑(List.length ks)),A.lt n6 n3],
  AV.tup [AV.agg (Row.gen [.int .i64 2, .int .i64 n6]),AV.int .i64 (Zaf [Zaa (ZaT (Zay ks n6)) 4,Zaa (A.not (A.hasS x7 (Zay ks n6))) 5,ZcO ks n6 n2])],none):=by kernel_rfl
theorem ZCe(A:Ar)(ms ks rs:List AV)(n1 n2 n3 n6:Int)(x7:List AV):ZaB A tab B3 59 [true,false] (ZbI ms ks rs n1 n2 n3 n6 x7) (Zby ms ks rs n1 n2 n3 n6 x7)=
 some (tr [1,0,0,3,3,0,0,5,4,0,4,1] [A.inR .i64 (A.add n6 1),A.not (A.hasS x7 (Zay ks n6)),decide (0≤n6∧n6< ↑(List.length ks)),!A.not (A.eq (Zaf [Zaa (ZaT (Zay ks n6)) 4,Zaa (A.not (A.hasS x7 (Zay ks n6))) 5,ZcO ks n6 n2]) 0),decide (List.length [Zaa (ZaT (Zay ks n6)) 4,Zaa (A.not (A.hasS x7 (Zay ks n6))) 5,ZcO ks n6 n2]≤1000000),List.all [AV.int .i64 (Zaa (ZaT (Zay ks n6)) 4),AV.int .i64 (Zaa (A.not (A.hasS x7 (Zay ks n6))) 5),AV.int .i64 (ZcO ks n6 n2)] fun x=>AV.bx x&&Nat.beq (Zad A x) 1,decide ((0≤n6∧n6< ↑(List.length ks))∧ -1000000≤n2∧n2≤1000000),decide (0≤n6∧n6< ↑(List.length ks)),decide (List.length (Zay ks n6)≤1000000),decide (0≤n6∧n6< ↑(List.length ks)),A.lt n6 n3],
  Zf3 (ms) (ks) (rs) (n1) (n2) (n3) (A.add n6 1) (A.appA x7 [AV.str (Zay ks n6)])):=by kernel_rfl
theorem ZzS(A:Ar)(ms ks rs:List AV)(n1 n2 n3 n6:Int)(x7:List AV):Za1 A tab B3 74 [false,false,true] 136 (ZbI ms ks rs n1 n2 n3 n6 x7) (Zby ms ks rs n1 n2 n3 n6 x7)=
 some (tr [19,3,0,8,11,1] [A.not (A.eq (Zaf [Zaa (A.le 0 (A.int (A.lenA rs))) 10,Zaa (A.le (A.int (A.lenA rs)) 10) 8]) 0),decide (List.length [Zaa (A.le 0 (A.int (A.lenA rs))) 10,Zaa (A.le (A.int (A.lenA rs)) 10) 8]≤1000000),List.all [AV.int .i64 (Zaa (A.le 0 (A.int (A.lenA rs))) 10),AV.int .i64 (Zaa (A.le (A.int (A.lenA rs)) 10) 8)] fun x=>AV.bx x&&Nat.beq (Zad A x) 1,!A.not (A.eq 0 0),!A.lt n6 n3],
  AV.tup [AV.agg (Row.gen [.int .i64 3, .int .i64 0]),AV.int .i64 (Zaf [Zaa (A.le 0 (A.int (A.lenA rs))) 10,Zaa (A.le (A.int (A.lenA rs)) 10) 8])],none):=by kernel_rfl
theorem ZBu(A:Ar)(ms ks rs:List AV)(n1 n2 n3 n6:Int)(x7:List AV):ZaB A tab B3 66 [false,false,false] (ZbI ms ks rs n1 n2 n3 n6 x7) (Zby ms ks rs n1 n2 n3 n6 x7)=
 some (tr [4,3,0,8,11,1] [!A.not (A.eq (Zaf [Zaa (A.le 0 (A.int (A.lenA rs))) 10,Zaa (A.le (A.int (A.lenA rs)) 10) 8]) 0),decide (List.length [Zaa (A.le 0 (A.int (A.lenA rs))) 10,Zaa (A.le (A.int (A.lenA rs)) 10) 8]≤1000000),List.all [AV.int .i64 (Zaa (A.le 0 (A.int (A.lenA rs))) 10),AV.int .i64 (Zaa (A.le (A.int (A.lenA rs)) 10) 8)] fun x=>AV.bx x&&Nat.beq (Zad A x) 1,!A.not (A.eq 0 0),!A.lt n6 n3],
  ZfI (ms) (ks) (rs) (n1) (n2) (n3) (A.int (A.lenA rs)) (A.int (A.lenA rs)) (0) ([])):=by kernel_rfl
theorem ZwS(A:Ar)(ms ks rs:List AV)(n1 n2 n3 n8 n9 n10:Int)(x11:List AV):Za1 A tab B3 67 [true,true] 136 (Zcm ms ks rs n1 n2 n3 n8 n9 n10 x11) (ZbR ms ks rs n1 n2 n3 n8 n9 n10 x11)=
 some (tr [20,3,0,0,5,4,0,4,1] [A.not (A.eq (Zaf [Zaa (ZaT (Zay rs n10)) 4,Zaa (A.not (A.hasS x11 (Zay rs n10))) 5,ZbQ rs n10 n3 n2]) 0),decide (List.length [Zaa (ZaT (Zay rs n10)) 4,Zaa (A.not (A.hasS x11 (Zay rs n10))) 5,ZbQ rs n10 n3 n2]≤1000000),List.all [AV.int .i64 (Zaa (ZaT (Zay rs n10)) 4),AV.int .i64 (Zaa (A.not (A.hasS x11 (Zay rs n10))) 5),AV.int .i64 (ZbQ rs n10 n3 n2)] fun x=>AV.bx x&&Nat.beq (Zad A x) 1,decide ((0≤n10∧n10< ↑(List.length rs))∧(-1000000≤n3∧n3≤1000000)∧ -1000000≤n2∧n2≤1000000),decide (0≤n10∧n10< ↑(List.length rs)),decide (List.length (Zay rs n10)≤1000000),decide (0≤n10∧n10< ↑(List.length rs)),A.lt n10 n8],
  AV.tup [AV.agg (Row.gen [.int .i64 3, .int .i64 n10]),AV.int .i64 (Zaf [Zaa (ZaT (Zay rs n10)) 4,Zaa (A.not (A.hasS x11 (Zay rs n10))) 5,ZbQ rs n10 n3 n2])],none):=by kernel_rfl
theorem Zxo(A:Ar)(ms ks rs:List AV)(n1 n2 n3 n8 n9 n10:Int)(x11:List AV):ZaB A tab B3 59 [true,false] (Zcm ms ks rs n1 n2 n3 n8 n9 n10 x11) (ZbR ms ks rs n1 n2 n3 n8 n9 n10 x11)=
 some (tr [1,0,0,3,3,0,0,5,4,0,4,1] [A.inR .i64 (A.add n10 1),A.not (A.hasS x11 (Zay rs n10)),decide (0≤n10∧n10< ↑(List.length rs)),!A.not (A.eq (Zaf [Zaa (ZaT (Zay rs n10)) 4,Zaa (A.not (A.hasS x11 (Zay rs n10))) 5,ZbQ rs n10 n3 n2]) 0),decide (List.length [Zaa (ZaT (Zay rs n10)) 4,Zaa (A.not (A.hasS x11 (Zay rs n10))) 5,ZbQ rs n10 n3 n2]≤1000000),List.all [AV.int .i64 (Zaa (ZaT (Zay rs n10)) 4),AV.int .i64 (Zaa (A.not (A.hasS x11 (Zay rs n10))) 5),AV.int .i64 (ZbQ rs n10 n3 n2)] fun x=>AV.bx x&&Nat.beq (Zad A x) 1,decide ((0≤n10∧n10< ↑(List.length rs))∧(-1000000≤n3∧n3≤1000000)∧ -1000000≤n2∧n2≤1000000),decide (0≤n10∧n10< ↑(List.length rs)),decide (List.length (Zay rs n10)≤1000000),decide (0≤n10∧n10< ↑(List.length rs)),A.lt n10 n8],
  ZfI (ms) (ks) (rs) (n1) (n2) (n3) (n8) (n9) (A.add n10 1) (A.appA x11 [AV.str (Zay rs n10)])):=by kernel_rfl
theorem Zwz(A:Ar)(ms ks rs:List AV)(n1 n2 n3 n8 n9 n10:Int)(x11:List AV):Za1 A tab B3 15 [false] 136 (Zcm ms ks rs n1 n2 n3 n8 n9 n10 x11) (ZbR ms ks rs n1 n2 n3 n8 n9 n10 x11)=
 some (tr [8,1] [!A.lt n10 n8],
  AV.tup [AV.agg (Row.gen [.int .i64 0, .int .i64 0]),AV.int .i64 0],none):=by kernel_rfl
def ZBg(ms ks rs l:List AV):AFrame:={ fn:=76,N:=64,env:=[(0,AV.agg (Row.gen [.list (Row.big .str ms), .list (Row.big (.agg [.str, .int .i64]) ks), .list (Row.big (.agg [.str, .int .i64, .int .i64, .int .i64, .int .i64]) rs)])),(1,AV.list (Row.big (.agg [.int .i64, .int .i64, .int .i64]) l))],todo:=[.code a76.code],defs:=[],rnd:=none,ret:=false,res:=[ARes.tmp 4,ARes.tmp 5] }
def ZEM(ms ks rs l:List AV):List AFrame:=[(ZBg ms ks rs l)]
theorem Zvw(ms ks rs l:List AV):Zat tab 76 [AV.agg (Row.gen [.list (Row.big .str ms), .list (Row.big (.agg [.str, .int .i64]) ks), .list (Row.big (.agg [.str, .int .i64, .int .i64, .int .i64, .int .i64]) rs)]),AV.list (Row.big (.agg [.int .i64, .int .i64, .int .i64]) l)]=some (ZBg ms ks rs l):=rfl
def ZbX(ms ks rs l:List AV)(n0:Int):List AFrame:=[{ fn:=76,N:=64,env:=[(1,AV.list (Row.big (.agg [.int .i64, .int .i64, .int .i64]) l)),(2,AV.ptr 76003 0 0 0),(6,AV.int .i64 n0)],todo:=.code (ACode.gh [] ZAQ)::ZCQ,defs:=[],rnd:=none,ret:=false,res:=[ARes.tmp 4,ARes.tmp 5] }]
def Zbs(ms ks rs l:List AV)(n0:Int):Zac:=[(76003,{ base:=0,blks:=[Blk.row 26 3 (Row.gen [AV.agg (Row.gen [AV.list (Row.big .str ms),AV.list (Row.big (.agg [.str, .int .i64]) ks),AV.list (Row.big (.agg [.str, .int .i64, .int .i64, .int .i64, .int .i64]) rs)])])] })]
abbrev Ziu(ms ks rs l:List AV)(n0:Int):List AFrame×Zac:=(ZbX ms ks rs l n0,Zbs ms ks rs l n0)
theorem ZFe(A:Ar)(ms ks rs l:List AV):Za1 A tab B3 20 [true] 76 (ZEM ms ks rs l) []=
 some (tr [3,6] [A.eq (A.int (A.lenA l)) 0],
  AV.tup [AV.int .i64 0,AV.int .i64 10],none):=by kernel_rfl
theorem ZEV(A:Ar)(ms ks rs l:List AV):Za1 A tab B3 29 [false,true] 76 (ZEM ms ks rs l) []=
 some (tr [3,3,6] [A.lt 12 (A.int (A.lenA l)),!A.eq (A.int (A.lenA l)) 0],
  AV.tup [AV.int .i64 0,AV.int .i64 8],none):=by kernel_rfl
theorem ZEC(A:Ar)(ms ks rs l:List AV):ZaB A tab B3 32 [false,false] (ZEM ms ks rs l) []=
 some (tr [1,3,6] [!A.lt 12 (A.int (A.lenA l)),!A.eq (A.int (A.lenA l)) 0],
  Ziu (ms) (ks) (rs) (l) (0)):=by kernel_rfl
theorem ZEm(A:Ar)(ms ks rs l:List AV)(n0:Int):Za1 A tab B3 25 [true,true] 76 (ZbX ms ks rs l n0) (Zbs ms ks rs l n0)=
 some (tr [4,2,5,2,4] [A.not (Zab ((A.nthA l (A.nat n0)).cellAt 0).toI 0 (A.sub (A.int (A.lenA ks)) 1)),A.inR .i64 (A.sub (A.int (A.lenA ks)) 1),Zah (Zah (A.le 0 n0) (Nat.blt (A.nat n0) (A.lenA l))) true,A.lt n0 (A.int (A.lenA l))],
  AV.tup [AV.int .i64 n0,AV.int .i64 15],none):=by kernel_rfl
theorem ZDm(A:Ar)(ms ks rs l:List AV)(n0:Int):Za1 A tab B3 50 [true,false,true,true,true,true,true,true,true,true,true,true] 76 (ZbX ms ks rs l n0) (Zbs ms ks rs l n0)=
 some (tr [22,6,2,2,5,2,4] [A.not (Zab ((A.nthA l (A.nat n0)).cellAt 1).toI 0 1000000000000),Zah (Zah (A.le 0 n0) (Nat.blt (A.nat n0) (A.lenA l))) true,!A.not (Zab ((A.nthA l (A.nat n0)).cellAt 0).toI 0 (A.sub (A.int (A.lenA ks)) 1)),A.inR .i64 (A.sub (A.int (A.lenA ks)) 1),Zah (Zah (A.le 0 n0) (Nat.blt (A.nat n0) (A.lenA l))) true,A.lt n0 (A.int (A.lenA l))],
  AV.tup [AV.int .i64 n0,AV.int .i64 2],none):=by kernel_rfl
theorem ZDg(A:Ar)(ms ks rs l:List AV)(n0:Int):Za1 A tab B3 50 [true,false,false,false,false,false,false,false,false,false,false,true] 76 (ZbX ms ks rs l n0) (Zbs ms ks rs l n0)=
 some (tr [4,12,4,6,2,2,5,2,4] [A.not (Zab ((A.nthA l (A.nat n0)).cellAt 2).toI 0 1000000000000),Zah (Zah (A.le 0 n0) (Nat.blt (A.nat n0) (A.lenA l))) true,!A.not (Zab ((A.nthA l (A.nat n0)).cellAt 1).toI 0 1000000000000),Zah (Zah (A.le 0 n0) (Nat.blt (A.nat n0) (A.lenA l))) true,!A.not (Zab ((A.nthA l (A.nat n0)).cellAt 0).toI 0 (A.sub (A.int (A.lenA ks)) 1)),A.inR .i64 (A.sub (A.int (A.lenA ks)) 1),Zah (Zah (A.le 0 n0) (Nat.blt (A.nat n0) (A.lenA l))) true,A.lt n0 (A.int (A.lenA l))],
  AV.tup [AV.int .i64 n0,AV.int .i64 2],none):=by kernel_rfl
theorem ZE0(A:Ar)(ms ks rs l:List AV)(n0:Int):Za1 A tab B3 55 [true,false,false,false,false,false,false,false,false,false,false,false,true] 76 (ZbX ms ks rs l n0) (Zbs ms ks rs l n0)=
 some (tr [4,4,5,2,12,4,6,2,2,5,2,4] [A.lt ((A.nthA l (A.nat n0)).cellAt 2).toI ((A.nthA l (A.nat n0)).cellAt 1).toI,Zah (Zah (A.le 0 n0) (Nat.blt (A.nat n0) (A.lenA l))) true,Zah (Zah (A.le 0 n0) (Nat.blt (A.nat n0) (A.lenA l))) true,!A.not (Zab ((A.nthA l (A.nat n0)).cellAt 2).toI 0 1000000000000),Zah (Zah (A.le 0 n0) (Nat.blt (A.nat n0) (A.lenA l))) true,!A.not (Zab ((A.nthA l (A.nat n0)).cellAt 1).toI 0 1000000000000),Zah (Zah (A.le 0 n0) (Nat.blt (A.nat n0) (A.lenA l))) true,!A.not (Zab ((A.nthA l (A.nat n0)).cellAt 0).toI 0 (A.sub (A.int (A.lenA ks)) 1)),A.inR .i64 (A.sub (A.int (A.lenA ks)) 1),Zah (Zah (A.le 0 n0) (Nat.blt (A.nat n0) (A.lenA l))) true,A.lt n0 (A.int (A.lenA l))],
  AV.tup [AV.int .i64 n0,AV.int .i64 9],none):=by kernel_rfl
theorem ZDt(A:Ar)(ms ks rs l:List AV)(n0:Int):ZaB A tab B3 57 [true,false,false,false,false,false,false,false,false,false,false,false,false] (ZbX ms ks rs l n0) (Zbs ms ks rs l n0)=
 some (tr [1,1,4,5,2,12,4,6,2,2,5,2,4] [A.inR .i64 (A.add n0 1),!A.lt ((A.nthA l (A.nat n0)).cellAt 2).toI ((A.nthA l (A.nat n0)).cellAt 1).toI,Zah (Zah (A.le 0 n0) (Nat.blt (A.nat n0) (A.lenA l))) true,Zah (Zah (A.le 0 n0) (Nat.blt (A.nat n0) (A.lenA l))) true,!A.not (Zab ((A.nthA l (A.nat n0)).cellAt 2).toI 0 1000000000000),Zah (Zah (A.le 0 n0) (Nat.blt (A.nat n0) (A.lenA l))) true,!A.not (Zab ((A.nthA l (A.nat n0)).cellAt 1).toI 0 1000000000000),Zah (Zah (A.le 0 n0) (Nat.blt (A.nat n0) (A.lenA l))) true,!A.not (Zab ((A.nthA l (A.nat n0)).cellAt 0).toI 0 (A.sub (A.int (A.lenA ks)) 1)),A.inR .i64 (A.sub (A.int (A.lenA ks)) 1),Zah (Zah (A.le 0 n0) (Nat.blt (A.nat n0) (A.lenA l))) true,A.lt n0 (A.int (A.lenA l))],
  Ziu (ms) (ks) (rs) (l) (A.add n0 1)):=by kernel_rfl
theorem ZD1(A:Ar)(ms ks rs l:List AV)(n0:Int):Za1 A tab B3 17 [false] 76 (ZbX ms ks rs l n0) (Zbs ms ks rs l n0)=
 some (tr [3,4] [!A.lt n0 (A.int (A.lenA l))],
  AV.tup [AV.int .i64 0,AV.int .i64 0],none):=by kernel_rfl
end Go.Proofs.YtkeoeooghhjibaaGreatDoor
/- CheckModel of the program. No condition. -/
namespace Go.Proofs.YtkeoeooghhjibaaGreatDoor
def Zbk(p i e:Int):AV:=.tup [.agg (.gen [.int .i64 p, .int .i64 i]), .int .i64 e]
def ZcG(nm:List UInt8)(ex:Int)(xs:List AV):Int:=Zaf [Zaa (ZaT nm) 4,Zaa (!std.hasS xs nm) 5,ex]
def Zca(a b:Bool):Int:=Zaf [Zaa a 10,Zaa b 8]
def Zbj(nm:Nat→List UInt8)(ex:Nat→Int):Nat→Nat→List AV→Option (Nat×Int)
 |0,_,_=>none
 |m+1,k,xs=>if ZcG (nm k) (ex k) xs=0 then Zbj nm ex m (k+1) (xs++[.str (nm k)])else some (k,ZcG (nm k) (ex k) xs)
def ZbD(p:Int)(o:Option (Nat×Int))(d:AV):AV:=match o with |some (k,e)=>Zbk p k e |none=>d
def ZpO(ms ks rs:List AV):AV:=ZbD 3 (Zbj (fun k=>Zay rs k) (fun k=>ZbQ rs k ks.length ms.length) rs.length 0 []) (Zbk 0 0 0)
def Znb(ms ks rs:List AV):AV:=ZbD 2 (Zbj (fun k=>Zay ks k) (fun k=>ZcO ks k ms.length) ks.length 0 []) (if Zca (decide (0≤(rs.length:Int))) (decide ((rs.length:Int)≤10))=0 then ZpO ms ks rs else Zbk 3 0 (Zca (decide (0≤(rs.length:Int))) (decide ((rs.length:Int)≤10))))
def Zq4(ms ks rs:List AV):AV:=ZbD 1 (Zbj (fun k=>Za6 ms k) (fun _=>0) ms.length 0 []) (if Zca (decide (1≤(ks.length:Int))) (decide ((ks.length:Int)≤8))=0 then Znb ms ks rs else Zbk 2 0 (Zca (decide (1≤(ks.length:Int))) (decide ((ks.length:Int)≤8))))
def Zeb(ms ks rs:List AV):AV:=if Zca (decide (1≤(ms.length:Int))) (decide ((ms.length:Int)≤6))=0 then Zq4 ms ks rs else Zbk 1 0 (Zca (decide (1≤(ms.length:Int))) (decide ((ms.length:Int)≤6)))
def Zax(ms ks rs:List AV):Bool:=(ms.all fun x=>decide (x.toS.length≤1000000))&&(ks.all fun x=>decide ((x.cellAt 0).toS.length≤1000000))&&(rs.all fun x=>decide ((x.cellAt 0).toS.length≤1000000))&&decide (ms.length≤1000000∧ks.length≤1000000∧rs.length≤1000000)
theorem ZoP{xs:List AV}{k:Nat}(h:k<xs.length):xs.getD k .top∈xs:=by
 rw[List.getD_eq_getElem?_getD,List.getElem?_eq_getElem h];exact List.getElem_mem h
theorem Zb7{ks:List AV}(h:(ks.all fun x=>decide ((x.cellAt 0).toS.length≤1000000))=true){k:Nat}(hk:k<ks.length):(Zay ks k).length≤1000000:=by
 have:=List.all_eq_true.1 h _ (ZoP hk)
 simpa[Zay]using this
theorem Zie{ks:List AV}(h:(ks.all fun x=>decide (x.toS.length≤1000000))=true){k:Nat}(hk:k<ks.length):(Za6 ks k).length≤1000000:=by
 have:=List.all_eq_true.1 h _ (ZoP hk)
 simpa[Za6]using this
theorem Zs1{a b c:Int}(h:Zaf [a,b,c]=0):a=0∧b=0∧c=0:=by
 simp only[Zaf]at h
 by_cases h1:a=0
 ·by_cases h2:b=0
  ·by_cases h3:c=0
   ·exact⟨h1,h2,h3⟩
   ·simp[h1,h2,h3]at h
  ·simp[h1,h2]at h
 ·simp[h1]at h
theorem Zi8{nm:List UInt8}{ex:Int}{xs:List AV}(h:ZcG nm ex xs=0):std.hasS xs nm=false:=by
 have:=(Zs1 h).2.1
 unfold Zaa at this
 split at this
 ·rename_i e;simpa using e
 ·cases this
theorem bx3(x y z:Int):([AV.int .i64 x,AV.int .i64 y,AV.int .i64 z].all fun x=>AV.bx x&&Nat.beq (Zad std x) 1)=true:=rfl
theorem bx2(x y:Int):([AV.int .i64 x,AV.int .i64 y].all fun x=>AV.bx x&&Nat.beq (Zad std x) 1)=true:=rfl
section
variable {C:Ctx}(hC:C.P=Tryz.prog)(ms ks rs:List AV)(hs:Zax ms ks rs=true)
include hC hs
theorem Zzg(n1:Int):∀(m k:Nat) (xs:List AV),k+m=rs.length→Ev C (Zcm ms ks rs n1 ms.length ks.length rs.length rs.length k xs) (ZbR ms ks rs n1 ms.length ks.length rs.length rs.length k xs)
 (Zcq 136 (ZbD 3 (Zbj (fun k=>Zay rs k) (fun k=>ZbQ rs k ks.length ms.length) m k xs) (Zbk 0 0 0)) none)
 |0,k,xs,hk=>fin hC Za8 (Zwz std ms ks rs n1 ms.length ks.length rs.length rs.length k xs) (by simp;omega) rfl rfl
 |m+1,k,xs,hk=>by
  simp only[Zax,Bool.and_eq_true,decide_eq_true_eq]at hs
  have hn:=Zb7 hs.1.2 (show k<rs.length by omega)
  by_cases h:ZcG (Zay rs k) (ZbQ rs k ks.length ms.length) xs=0
  ·have hnew:=Zi8 h
   have h':=h
   unfold ZcG at h'
   refine go hC Za8 (Zxo std ms ks rs n1 ms.length ks.length rs.length rs.length k xs) (by simp only[bx3];simp[-Zdi,hnew,hn];simp[-Zdi,hnew]at h';simp[h'];omega) ?_
   have:=Zzg n1 m (k+1) (xs++[.str (Zay rs k)]) (by omega)
   rw[Zbj,if_pos h]
   exact this
  ·have h':=h
   unfold ZcG at h'
   rw[Zbj,if_neg h]
   exact fin hC Za8 (ZwS std ms ks rs n1 ms.length ks.length rs.length rs.length k xs) (by simp only[bx3];simp[-Zdi,hn,h'];omega) rfl rfl
theorem ZyA(n1:Int):∀(m k:Nat) (xs:List AV),k+m=ks.length→Ev C (ZbI ms ks rs n1 ms.length ks.length k xs) (Zby ms ks rs n1 ms.length ks.length k xs)
 (Zcq 136 (ZbD 2 (Zbj (fun k=>Zay ks k) (fun k=>ZcO ks k ms.length) m k xs) (if Zca (decide (0≤(rs.length:Int))) (decide ((rs.length:Int)≤10))=0 then ZpO ms ks rs else Zbk 3 0 (Zca (decide (0≤(rs.length:Int))) (decide ((rs.length:Int)≤10))))) none)
 |0,k,xs,hk=>by
  by_cases h:Zca (decide (0≤(rs.length:Int))) (decide ((rs.length:Int)≤10))=0
  ·have h':=h
   unfold Zca at h'
   rw[if_pos h]
   refine go hC Za8 (ZBu std ms ks rs n1 ms.length ks.length k xs) (by simp only[bx2,Zty,Zhy,Zco,h'];simp;omega) ?_
   exact Zzg hC ms ks rs hs n1 rs.length 0 [] (by omega)
  ·have h':=h
   unfold Zca at h'
   rw[if_neg h]
   exact fin hC Za8 (ZzS std ms ks rs n1 ms.length ks.length k xs) (by simp only[bx2,ZCB,Zty,Zhy,Zco,h'];simp;omega) rfl rfl
 |m+1,k,xs,hk=>by
  have hs':=hs
  simp only[Zax,Bool.and_eq_true,decide_eq_true_eq]at hs'
  have hn:=Zb7 hs'.1.1.2 (show k<ks.length by omega)
  by_cases h:ZcG (Zay ks k) (ZcO ks k ms.length) xs=0
  ·have hnew:=Zi8 h
   have h':=h
   unfold ZcG at h'
   refine go hC Za8 (ZCe std ms ks rs n1 ms.length ks.length k xs) (by simp only[bx3];simp[-Zdi,hnew,hn];simp[-Zdi,hnew]at h';simp[h'];omega) ?_
   have:=ZyA n1 m (k+1) (xs++[.str (Zay ks k)]) (by omega)
   rw[Zbj,if_pos h]
   exact this
  ·have h':=h
   unfold ZcG at h'
   rw[Zbj,if_neg h]
   exact fin hC Za8 (ZAS std ms ks rs n1 ms.length ks.length k xs) (by simp only[bx3];simp[-Zdi,hn,h'];omega) rfl rfl
theorem ZzM(n1:Int):∀(m k:Nat) (xs:List AV),k+m=ms.length→Ev C (ZbK ms ks rs ms.length n1 ms.length ks.length k xs) (Zbv ms ks rs ms.length n1 ms.length ks.length k xs)
 (Zcq 136 (ZbD 1 (Zbj (fun k=>Za6 ms k) (fun _=>0) m k xs) (if Zca (decide (1≤(ks.length:Int))) (decide ((ks.length:Int)≤8))=0 then Znb ms ks rs else Zbk 2 0 (Zca (decide (1≤(ks.length:Int))) (decide ((ks.length:Int)≤8))))) none)
 |0,k,xs,hk=>by
  by_cases h:Zca (decide (1≤(ks.length:Int))) (decide ((ks.length:Int)≤8))=0
  ·have h':=h
   unfold Zca at h'
   rw[if_pos h]
   refine go hC Za8 (ZxN std ms ks rs ms.length n1 ms.length ks.length k xs) (by simp only[bx2,Zty,Zhy,Zco,h'];simp;omega) ?_
   exact ZyA hC ms ks rs hs n1 ks.length 0 [] (by omega)
  ·have h':=h
   unfold Zca at h'
   rw[if_neg h]
   exact fin hC Za8 (ZzF std ms ks rs ms.length n1 ms.length ks.length k xs) (by simp only[bx2,ZCB,Zty,Zhy,Zco,h'];simp;omega) rfl rfl
 |m+1,k,xs,hk=>by
  have hs':=hs
  simp only[Zax,Bool.and_eq_true,decide_eq_true_eq]at hs'
  have hn:=Zie hs'.1.1.1 (show k<ms.length by omega)
  by_cases h:ZcG (Za6 ms k) 0 xs=0
  ·have hnew:=Zi8 h
   have h':=h
   unfold ZcG at h'
   refine go hC Za8 (ZyK std ms ks rs ms.length n1 ms.length ks.length k xs) (by simp only[bx3];simp[-Zdi,hnew,hn];simp[-Zdi,hnew]at h';simp[h'];omega) ?_
   have:=ZzM n1 m (k+1) (xs++[.str (Za6 ms k)]) (by omega)
   rw[Zbj,if_pos h]
   exact this
  ·have h':=h
   unfold ZcG at h'
   rw[Zbj,if_neg h]
   exact fin hC Za8 (ZzN std ms ks rs ms.length n1 ms.length ks.length k xs) (by simp only[bx3];simp[-Zdi,hn,h'];omega) rfl rfl
end
theorem ZoV(ms ks rs:List AV)(hs:Zax ms ks rs=true):Zao Tryz.prog 136 [.agg (.gen [.list (.big .str ms), .list (.big (.agg [.str, .int .i64]) ks), .list (.big (.agg [.str, .int .i64, .int .i64, .int .i64, .int .i64]) rs)])] (Zeb ms ks rs) none:=
 start (Zru ms ks rs) fun C hC=>by
  by_cases h:Zca (decide (1≤(ms.length:Int))) (decide ((ms.length:Int)≤6))=0
  ·have h':=h
   unfold Zca at h'
   rw[Zeb,if_pos h]
   refine go hC Za8 (ZzB std ms ks rs) (by simp only[bx2,Zty,Zhy,Zco,h'];simp) ?_
   exact ZzM hC ms ks rs hs ms.length ms.length 0 [] (by omega)
  ·have h':=h
   unfold Zca at h'
   rw[Zeb,if_neg h]
   exact fin hC Za8 (Zyf std ms ks rs) (by simp only[bx2,ZCB,Zty,Zhy,Zco,h'];simp) rfl rfl
end Go.Proofs.YtkeoeooghhjibaaGreatDoor
/- Contracts as a list. No condition. -/
namespace Go.Proofs.YtkeoeooghhjibaaGreatDoor
theorem ZoH(s:List UInt8):Zao Tryz.prog 151 [.nils, .str s] (.bool false) none:=
 start (Zqb s) fun C hC=>go hC Za8 (Zu3 std s) (by simp) (fin hC Za8 (Zws std s) (by simp) rfl rfl)
theorem Zqt(n:Int):Zao Tryz.prog 89 [.int .i64 n] (.bool (Zab n 0 1000000000000)) none:=
 start (ZuR n) fun C hC=>fin hC Za8 (ZC7 std n) (by simp) rfl rfl
def mP:AV→Int
 | .tup [.agg (.gen [.int _ p,_]),_]=>p
 |_=>0
def mI:AV→Int
 | .tup [.agg (.gen [_, .int _ i]),_]=>i
 |_=>0
def mE:AV→Int
 | .tup [_, .int _ e]=>e
 |_=>0
def isM(v:AV):Prop:=∃p i e,v=Zbk p i e
theorem isM.eq{v:AV}(h:isM v):v=Zbk (mP v) (mI v) (mE v):=by
 obtain⟨p,i,e,rfl⟩:=h
 rfl
theorem isM.scan{p:Int}{o:Option (Nat×Int)}{d:AV}(h:isM d):isM (ZbD p o d):=by
 unfold ZbD
 split
 ·exact⟨_,_,_,rfl⟩
 ·exact h
theorem isM.ite{c:Prop}[Decidable c]{a b:AV}(ha:isM a)(hb:isM b):isM (if c then a else b):=by
 split
 ·exact ha
 ·exact hb
theorem Zgr(p i e:Int):isM (Zbk p i e):=⟨_,_,_,rfl⟩
theorem Zkv(ms ks rs:List AV):isM (Zeb ms ks rs):=
 .ite (.scan (.ite (.scan (.ite (.scan (Zgr _ _ _)) (Zgr _ _ _))) (Zgr _ _ _))) (Zgr _ _ _)
def ZkF(ms ks rs:List AV):Int:=mP (Zeb ms ks rs)
def ZjK(ms ks rs:List AV):Int:=mI (Zeb ms ks rs)
def ZaC(ms ks rs:List AV):Int:=mE (Zeb ms ks rs)
theorem ZnJ(ms ks rs:List AV)(hs:Zax ms ks rs=true):Zao Tryz.prog 136 [.agg (.gen [.list (.big .str ms), .list (.big (.agg [.str, .int .i64]) ks), .list (.big (.agg [.str, .int .i64, .int .i64, .int .i64, .int .i64]) rs)])] (.tup [.agg (.gen [.int .i64 (ZkF ms ks rs), .int .i64 (ZjK ms ks rs)]), .int .i64 (ZaC ms ks rs)]) none:=by
 have:=ZoV ms ks rs hs
 rw[(Zkv ms ks rs).eq]at this
 exact this
def k151n:Ctr:=⟨151,0,fun _ a=>match a with |[.nils, .str _]=>some (true, .bool false,none) |_=>none⟩
theorem ZrI:k151n.OK Tryz.prog:=fun pa args r fr h=>by
 simp only[k151n]at h
 split at h
 ·cases h
  exact ZoH _
 ·cases h
def k89:Ctr:=⟨89,0,fun _ a=>match a with |[.int .i64 n]=>some (true, .bool (Zab n 0 1000000000000),none) |_=>none⟩
theorem ZyH:k89.OK Tryz.prog:=fun pa args r fr h=>by
 simp only[k89]at h
 split at h
 ·cases h
  exact Zqt _
 ·cases h
def k136:Ctr:=⟨136,0,fun _ a=>match a with |[.agg (.gen [.list (.big .str ms), .list (.big (.agg [.str, .int .i64]) ks), .list (.big (.agg [.str, .int .i64, .int .i64, .int .i64, .int .i64]) rs)])]=>some (decide (Zax ms ks rs=true), .tup [.agg (.gen [.int .i64 (ZkF ms ks rs), .int .i64 (ZjK ms ks rs)]), .int .i64 (ZaC ms ks rs)],none) |_=>none⟩
theorem Zuh:k136.OK Tryz.prog:=fun pa args r fr h=>by
 simp only[k136]at h
 split at h
 ·simp only[Option.some.injEq,Prod.mk.injEq,decide_eq_true_eq]at h
  obtain⟨h0,rfl,rfl⟩:=h
  exact ZnJ _ _ _ h0
 ·cases h
def B4:List Ctr:=[k151n,k89,k136]++B3
theorem ZrE:ZaD Tryz.prog B4:=⟨ZrI,⟨ZyH,⟨Zuh,Za8⟩⟩⟩
end Go.Proofs.YtkeoeooghhjibaaGreatDoor
/- Paths of functions, printed by the explorer (Gx). No condition. -/
namespace Go.Proofs.YtkeoeooghhjibaaGreatDoor
set_option maxRecDepth 100000
set_option linter.unusedVariables false
def ZzC(ms ks rs:List AV):AFrame:={ fn:=88,N:=11,env:=[(0,AV.agg (Row.gen [.list (Row.big .str ms), .list (Row.big (.agg [.str, .int .i64]) ks), .list (Row.big (.agg [.str, .int .i64, .int .i64, .int .i64, .int .i64]) rs)]))],todo:=[.code a88.code],defs:=[],rnd:=none,ret:=false,res:=[ARes.tmp 2] }
def ZIa(ms ks rs:List AV):List AFrame:=[(ZzC ms ks rs)]
theorem Zt5(ms ks rs:List AV):Zat tab 88 [AV.agg (Row.gen [.list (Row.big .str ms), .list (Row.big (.agg [.str, .int .i64]) ks), .list (Row.big (.agg [.str, .int .i64, .int .i64, .int .i64, .int .i64]) rs)])]=some (ZzC ms ks rs):=rfl
theorem ZC4(A:Ar)(ms ks rs:List AV):Za1 A tab B4 23 [] 88 (ZIa ms ks rs) []=
 some (tr [9,3] [decide (Zax ms ks rs=true)],
  AV.int .i64 (ZaC ms ks rs),none):=by kernel_rfl
def ZsC(ms ks rs:List AV)(k lo hi:Int):AFrame:={ fn:=120,N:=34,env:=[(0,AV.agg (Row.gen [.list (Row.big .str ms), .list (Row.big (.agg [.str, .int .i64]) ks), .list (Row.big (.agg [.str, .int .i64, .int .i64, .int .i64, .int .i64]) rs)])),(1,AV.agg (Row.gen [.int .i64 k, .int .i64 lo, .int .i64 hi]))],todo:=[.code a120.code],defs:=[],rnd:=none,ret:=false,res:=[ARes.tmp 4] }
def ZB1(ms ks rs:List AV)(k lo hi:Int):List AFrame:=[(ZsC ms ks rs k lo hi)]
theorem ZqY(ms ks rs:List AV)(k lo hi:Int):Zat tab 120 [AV.agg (Row.gen [.list (Row.big .str ms), .list (Row.big (.agg [.str, .int .i64]) ks), .list (Row.big (.agg [.str, .int .i64, .int .i64, .int .i64, .int .i64]) rs)]),AV.agg (Row.gen [.int .i64 k, .int .i64 lo, .int .i64 hi])]=some (ZsC ms ks rs k lo hi):=rfl
theorem ZCi(A:Ar)(ms ks rs:List AV)(k lo hi:Int):Za1 A tab B4 10 [true] 120 (ZB1 ms ks rs k lo hi) []=
 some (tr [2,0,14,7,8] [decide (List.length [Zaa (Zab k 0 (A.sub (A.int (A.lenA ks)) 1)) 15,Zaa (Zab hi 0 1000000000000) 2,Zaa (A.le lo hi) 9]≤1000000),List.all [AV.int .i64 (Zaa (Zab k 0 (A.sub (A.int (A.lenA ks)) 1)) 15),AV.int .i64 (Zaa (Zab hi 0 1000000000000) 2),AV.int .i64 (Zaa (A.le lo hi) 9)] fun x=>AV.bx x&&Nat.beq (Zad A x) 1,Zab lo 0 1000000000000,A.inR .i64 (A.sub (A.int (A.lenA ks)) 1)],
  AV.int .i64 (Zaf [Zaa (Zab k 0 (A.sub (A.int (A.lenA ks)) 1)) 15,Zaa (Zab hi 0 1000000000000) 2,Zaa (A.le lo hi) 9]),none):=by kernel_rfl
theorem ZAv(A:Ar)(ms ks rs:List AV)(k lo hi:Int):Za1 A tab B4 10 [false] 120 (ZB1 ms ks rs k lo hi) []=
 some (tr [2,0,14,7,8] [decide (List.length [Zaa (Zab k 0 (A.sub (A.int (A.lenA ks)) 1)) 15,2,Zaa (A.le lo hi) 9]≤1000000),List.all [AV.int .i64 (Zaa (Zab k 0 (A.sub (A.int (A.lenA ks)) 1)) 15),AV.int .i64 2,AV.int .i64 (Zaa (A.le lo hi) 9)] fun x=>AV.bx x&&Nat.beq (Zad A x) 1,!Zab lo 0 1000000000000,A.inR .i64 (A.sub (A.int (A.lenA ks)) 1)],
  AV.int .i64 (Zaf [Zaa (Zab k 0 (A.sub (A.int (A.lenA ks)) 1)) 15,2,Zaa (A.le lo hi) 9]),none):=by kernel_rfl
end Go.Proofs.YtkeoeooghhjibaaGreatDoor
/- Contracts as a list. No condition. -/
namespace Go.Proofs.YtkeoeooghhjibaaGreatDoor
def ZmQ(n k lo hi:Int):Int:=Zaf [Zaa (Zab k 0 (n-1)) 15,Zaa (Zab lo 0 1000000000000&&Zab hi 0 1000000000000) 2,Zaa (decide (lo≤hi)) 9]
theorem ZqT(ms ks rs:List AV)(h:Zax ms ks rs=true):Zao Tryz.prog 88 [.agg (.gen [.list (.big .str ms), .list (.big (.agg [.str, .int .i64]) ks), .list (.big (.agg [.str, .int .i64, .int .i64, .int .i64, .int .i64]) rs)])] (.int .i64 (ZaC ms ks rs)) none:=
 start (Zt5 ms ks rs) fun C hC=>fin hC ZrE (ZC4 std ms ks rs) (by simp[h]) rfl rfl
theorem Zr8(ms ks rs:List AV)(k lo hi:Int)(h:ks.length≤1000000):Zao Tryz.prog 120 [.agg (.gen [.list (.big .str ms), .list (.big (.agg [.str, .int .i64]) ks), .list (.big (.agg [.str, .int .i64, .int .i64, .int .i64, .int .i64]) rs)]), .agg (.gen [.int .i64 k, .int .i64 lo, .int .i64 hi])] (.int .i64 (ZmQ ks.length k lo hi)) none:=
 start (ZqY ms ks rs k lo hi) fun C hC=>by
  by_cases h1:Zab lo 0 1000000000000=true
  ·exact fin hC ZrE (ZCi std ms ks rs k lo hi) (by simp only[bx3];simp[h1];omega) (by simp[ZmQ,h1]) rfl
  ·exact fin hC ZrE (ZAv std ms ks rs k lo hi) (by simp only[bx3];simp[h1];omega) (by unfold ZmQ;rw[(by simpa using h1:Zab lo 0 1000000000000=false)];rfl) rfl
def k88:Ctr:=⟨88,0,fun _ a=>match a with |[.agg (.gen [.list (.big .str ms), .list (.big (.agg [.str, .int .i64]) ks), .list (.big (.agg [.str, .int .i64, .int .i64, .int .i64, .int .i64]) rs)])]=>some (decide (Zax ms ks rs=true), .int .i64 (ZaC ms ks rs),none) |_=>none⟩
theorem Zzm:k88.OK Tryz.prog:=fun pa args r fr h=>by
 simp only[k88]at h
 split at h
 ·simp only[Option.some.injEq,Prod.mk.injEq,decide_eq_true_eq]at h
  obtain⟨h0,rfl,rfl⟩:=h
  exact ZqT _ _ _ h0
 ·cases h
def k120:Ctr:=⟨120,0,fun _ a=>match a with |[.agg (.gen [.list (.big .str _), .list (.big (.agg [.str, .int .i64]) ks), .list (.big (.agg [.str, .int .i64, .int .i64, .int .i64, .int .i64]) _)]), .agg (.gen [.int .i64 k, .int .i64 lo, .int .i64 hi])]=>some (decide (ks.length≤1000000), .int .i64 (ZmQ ks.length k lo hi),none) |_=>none⟩
theorem Zxb:k120.OK Tryz.prog:=fun pa args r fr h=>by
 simp only[k120]at h
 split at h
 ·simp only[Option.some.injEq,Prod.mk.injEq,decide_eq_true_eq]at h
  obtain⟨h0,rfl,rfl⟩:=h
  exact Zr8 _ _ _ _ _ _ h0
 ·cases h
def B5:List Ctr:=[k88,k120]++B4
theorem Zhu:ZaD Tryz.prog B5:=⟨Zzm,⟨Zxb,ZrE⟩⟩
end Go.Proofs.YtkeoeooghhjibaaGreatDoor
/- Paths of functions, printed by the explorer (Gx). No condition. -/
namespace Go.Proofs.YtkeoeooghhjibaaGreatDoor
set_option maxRecDepth 100000
set_option linter.unusedVariables false
def ZBG(ms ks rs l:List AV):AFrame:={ fn:=71,N:=40,env:=[(0,AV.agg (Row.gen [.list (Row.big .str ms), .list (Row.big (.agg [.str, .int .i64]) ks), .list (Row.big (.agg [.str, .int .i64, .int .i64, .int .i64, .int .i64]) rs)])),(1,AV.list (Row.big (.agg [.int .i64, .int .i64, .int .i64]) l))],todo:=[.code a71.code],defs:=[],rnd:=none,ret:=false,res:=[ARes.tmp 4,ARes.tmp 5] }
def ZFV(ms ks rs l:List AV):List AFrame:=[(ZBG ms ks rs l)]
theorem ZtN(ms ks rs l:List AV):Zat tab 71 [AV.agg (Row.gen [.list (Row.big .str ms), .list (Row.big (.agg [.str, .int .i64]) ks), .list (Row.big (.agg [.str, .int .i64, .int .i64, .int .i64, .int .i64]) rs)]),AV.list (Row.big (.agg [.int .i64, .int .i64, .int .i64]) l)]=some (ZBG ms ks rs l):=rfl
def Zdy(ms ks rs l:List AV)(n0 n1:Int):List AFrame:=[{ fn:=71,N:=40,env:=[(2,AV.ptr 71003 0 0 0),(25,AV.list (Row.big (.agg [.int .i64, .int .i64, .int .i64]) l)),(26,AV.int .i64 n0),(27,AV.int .i64 n1)],todo:=.code (ACode.gh [] Zyp)::ZE8,defs:=[],rnd:=none,ret:=false,res:=[ARes.tmp 4,ARes.tmp 5] }]
def ZcY(ms ks rs l:List AV)(n0 n1:Int):Zac:=[(71003,{ base:=0,blks:=[Blk.row 26 3 (Row.gen [AV.agg (Row.gen [AV.list (Row.big .str ms),AV.list (Row.big (.agg [.str, .int .i64]) ks),AV.list (Row.big (.agg [.str, .int .i64, .int .i64, .int .i64, .int .i64]) rs)])])] })]
abbrev Zh1(ms ks rs l:List AV)(n0 n1:Int):List AFrame×Zac:=(Zdy ms ks rs l n0 n1,ZcY ms ks rs l n0 n1)
theorem ZEJ(A:Ar)(ms ks rs l:List AV):Za1 A tab B5 37 [true] 71 (ZFV ms ks rs l) []=
 some (tr [4,3,0,8,4] [A.not (A.eq (Zaf [ZaC ms ks rs,Zaa (A.lt 0 (A.int (A.lenA l))) 10,Zaa (A.le (A.int (A.lenA l)) 12) 8]) 0),decide (List.length [ZaC ms ks rs,Zaa (A.lt 0 (A.int (A.lenA l))) 10,Zaa (A.le (A.int (A.lenA l)) 12) 8]≤1000000),List.all [AV.int .i64 (ZaC ms ks rs),AV.int .i64 (Zaa (A.lt 0 (A.int (A.lenA l))) 10),AV.int .i64 (Zaa (A.le (A.int (A.lenA l)) 12) 8)] fun x=>AV.bx x&&Nat.beq (Zad A x) 1,decide (Zax ms ks rs=true)],
  AV.tup [AV.int .i64 0,AV.int .i64 (Zaf [ZaC ms ks rs,Zaa (A.lt 0 (A.int (A.lenA l))) 10,Zaa (A.le (A.int (A.lenA l)) 12) 8])],none):=by kernel_rfl
theorem ZDj(A:Ar)(ms ks rs l:List AV):ZaB A tab B5 41 [false] (ZFV ms ks rs l) []=
 some (tr [3,3,0,8,4] [!A.not (A.eq (Zaf [ZaC ms ks rs,Zaa (A.lt 0 (A.int (A.lenA l))) 10,Zaa (A.le (A.int (A.lenA l)) 12) 8]) 0),decide (List.length [ZaC ms ks rs,Zaa (A.lt 0 (A.int (A.lenA l))) 10,Zaa (A.le (A.int (A.lenA l)) 12) 8]≤1000000),List.all [AV.int .i64 (ZaC ms ks rs),AV.int .i64 (Zaa (A.lt 0 (A.int (A.lenA l))) 10),AV.int .i64 (Zaa (A.le (A.int (A.lenA l)) 12) 8)] fun x=>AV.bx x&&Nat.beq (Zad A x) 1,decide (Zax ms ks rs=true)],
  Zh1 (ms) (ks) (rs) (l) (A.int (A.lenA l)) (0)):=by kernel_rfl
theorem ZEy(A:Ar)(ms ks rs l:List AV)(n0 n1:Int):Za1 A tab B5 40 [true,true] 71 (Zdy ms ks rs l n0 n1) (ZcY ms ks rs l n0 n1)=
 some (tr [5,3,6,1,1] [A.not (A.eq (ZmQ (↑(List.length ks)) ((A.nthA l (A.nat n1)).cellAt 0).toI ((A.nthA l (A.nat n1)).cellAt 1).toI ((A.nthA l (A.nat n1)).cellAt 2).toI) 0),decide (List.length ks≤1000000),Zah (Zah (A.le 0 n1) (Nat.blt (A.nat n1) (A.lenA l))) true,A.lt n1 n0],
  AV.tup [AV.int .i64 n1,AV.int .i64 (ZmQ (↑(List.length ks)) ((A.nthA l (A.nat n1)).cellAt 0).toI ((A.nthA l (A.nat n1)).cellAt 1).toI ((A.nthA l (A.nat n1)).cellAt 2).toI)],none):=by kernel_rfl
theorem ZDO(A:Ar)(ms ks rs l:List AV)(n0 n1:Int):ZaB A tab B5 40 [true,false] (Zdy ms ks rs l n0 n1) (ZcY ms ks rs l n0 n1)=
 some (tr [1,0,3,6,1,1] [A.inR .i64 (A.add n1 1),!A.not (A.eq (ZmQ (↑(List.length ks)) ((A.nthA l (A.nat n1)).cellAt 0).toI ((A.nthA l (A.nat n1)).cellAt 1).toI ((A.nthA l (A.nat n1)).cellAt 2).toI) 0),decide (List.length ks≤1000000),Zah (Zah (A.le 0 n1) (Nat.blt (A.nat n1) (A.lenA l))) true,A.lt n1 n0],
  Zh1 (ms) (ks) (rs) (l) (n0) (A.add n1 1)):=by kernel_rfl
theorem ZCX(A:Ar)(ms ks rs l:List AV)(n0 n1:Int):Za1 A tab B5 14 [false] 71 (Zdy ms ks rs l n0 n1) (ZcY ms ks rs l n0 n1)=
 some (tr [3,1] [!A.lt n1 n0],
  AV.tup [AV.int .i64 0,AV.int .i64 0],none):=by kernel_rfl
end Go.Proofs.YtkeoeooghhjibaaGreatDoor
/- CheckFile of the program. No condition. -/
namespace Go.Proofs.YtkeoeooghhjibaaGreatDoor
def ZlU(i e:Int):AV:=.tup [.int .i64 i, .int .i64 e]
def Zfj(f:Nat→Int):Nat→Nat→AV
 |0,_=>ZlU 0 0
 |m+1,k=>if f k=0 then Zfj f m (k+1)else ZlU k (f k)
def Zhx(n:Int)(l:List AV)(k:Nat):Int:=ZmQ n (Zaj l k 0) (Zaj l k 1) (Zaj l k 2)
def Zgb(e:Int)(l:List AV):Int:=Zaf [e,Zaa (decide (0<(l.length:Int))) 10,Zaa (decide ((l.length:Int)≤12)) 8]
def ZeM(e n:Int)(l:List AV):AV:=if Zgb e l=0 then Zfj (Zhx n l) l.length 0 else ZlU 0 (Zgb e l)
theorem ZiF{C:Ctx}(hC:C.P=Tryz.prog)(ms ks rs l:List AV)(hk:ks.length≤1000000)(hl:l.length≤1000000):∀(m k:Nat),k+m=l.length→Ev C (Zdy ms ks rs l l.length k) (ZcY ms ks rs l l.length k) (Zcq 71 (Zfj (Zhx ks.length l) m k) none)
 |0,k,h=>fin hC Zhu (ZCX std ms ks rs l l.length k) (by simp;omega) rfl rfl
 |m+1,k,h=>by
  by_cases h1:Zhx ks.length l k=0
  ·have h2:=h1
   unfold Zhx Zaj at h2
   refine go hC Zhu (ZDO std ms ks rs l l.length k) (by simp[-List.getD_eq_getElem?_getD]at h2 ⊢;simp[-List.getD_eq_getElem?_getD,h2];omega) ?_
   rw[Zfj,if_pos h1]
   exact ZiF hC ms ks rs l hk hl m (k+1) (by omega)
  ·have h2:=h1
   unfold Zhx Zaj at h2
   rw[Zfj,if_neg h1]
   exact fin hC Zhu (ZEy std ms ks rs l l.length k) (by simp[-List.getD_eq_getElem?_getD]at h2 ⊢;simp[-List.getD_eq_getElem?_getD,h2];omega) rfl rfl
theorem Zr4(ms ks rs l:List AV)(hs:Zax ms ks rs=true)(hl:l.length≤1000000):Zao Tryz.prog 71 [.agg (.gen [.list (.big .str ms), .list (.big (.agg [.str, .int .i64]) ks), .list (.big (.agg [.str, .int .i64, .int .i64, .int .i64, .int .i64]) rs)]), .list (.big (.agg [.int .i64, .int .i64, .int .i64]) l)] (ZeM (ZaC ms ks rs) ks.length l) none:=
 start (ZtN ms ks rs l) fun C hC=>by
  have hk:ks.length≤1000000:=by
   simp only[Zax,Bool.and_eq_true,decide_eq_true_eq]at hs
   exact hs.2.2.1
  by_cases h:Zgb (ZaC ms ks rs) l=0
  ·have h':=h
   unfold Zgb at h'
   rw[ZeM,if_pos h]
   refine go hC Zhu (ZDj std ms ks rs l) (by simp only[bx3,Zty,ZxP,Zhy,Zco,h'];simp[hs]) ?_
   exact ZiF hC ms ks rs l hk hl l.length 0 (by omega)
  ·have h':=h
   unfold Zgb at h'
   rw[ZeM,if_neg h]
   exact fin hC Zhu (ZEJ std ms ks rs l) (by simp only[bx3,ZCB,Zty,ZxP,Zhy,Zco,h'];simp[hs]) rfl rfl
end Go.Proofs.YtkeoeooghhjibaaGreatDoor
/- CheckFile of the reference. No condition. -/
namespace Go.Proofs.YtkeoeooghhjibaaGreatDoor
theorem Zgt{f:Nat→Int}{m k:Nat}{v:Int}(h:f k=v)(hv:v≠0):Zfj f (m+1) k=ZlU k v:=by
 rw[Zfj,if_neg (by rw[h];exact hv),h]
theorem ZgP{C:Ctx}(hC:C.P=Tryz.prog)(ms ks rs l:List AV)(hk:ks.length≤1000000)(hl:l.length≤1000000):∀(m k:Nat),k+m=l.length→Ev C (ZbX ms ks rs l k) (Zbs ms ks rs l k) (Zcq 76 (Zfj (Zhx ks.length l) m k) none)
 |0,k,h=>fin hC Za8 (ZD1 std ms ks rs l k) (by simp;omega) rfl rfl
 |m+1,k,h=>by
  have e0:((l.getD k .top).cellAt 0).toI=Zaj l k 0:=rfl
  have e1:((l.getD k .top).cellAt 1).toI=Zaj l k 1:=rfl
  have e2:((l.getD k .top).cellAt 2).toI=Zaj l k 2:=rfl
  by_cases h2:Zab (Zaj l k 0) 0 ((ks.length:Int)-1)=true
  ·by_cases h3:Zab (Zaj l k 1) 0 1000000000000=true
   ·by_cases h4:Zab (Zaj l k 2) 0 1000000000000=true
    ·by_cases h5:Zaj l k 2<Zaj l k 1
     ·rw[Zgt (show Zhx ks.length l k=9 by simp[Zhx,ZmQ,Zaf,Zaa,h2,h3,h4];omega) (by decide)]
      exact fin hC Za8 (ZE0 std ms ks rs l k) (by simp[-List.getD_eq_getElem?_getD,e0,e1,e2,h2,h3,h4];omega) rfl rfl
     ·refine go hC Za8 (ZDt std ms ks rs l k) (by simp[-List.getD_eq_getElem?_getD,e0,e1,e2,h2,h3,h4];omega) ?_
      rw[Zfj,if_pos (show Zhx ks.length l k=0 by simp[Zhx,ZmQ,Zaf,Zaa,h2,h3,h4];omega)]
      exact ZgP hC ms ks rs l hk hl m (k+1) (by omega)
    ·rw[Zgt (show Zhx ks.length l k=2 by simp[Zhx,ZmQ,Zaf,Zaa,h2,h3,h4]) (by decide)]
     exact fin hC Za8 (ZDg std ms ks rs l k) (by simp[-List.getD_eq_getElem?_getD,e0,e1,e2,h2,h3,h4];omega) rfl rfl
   ·rw[Zgt (show Zhx ks.length l k=2 by simp[Zhx,ZmQ,Zaf,Zaa,h2,h3]) (by decide)]
    exact fin hC Za8 (ZDm std ms ks rs l k) (by simp[-List.getD_eq_getElem?_getD,e0,e1,e2,h2,h3];omega) rfl rfl
  ·rw[Zgt (show Zhx ks.length l k=15 by simp[Zhx,ZmQ,Zaf,Zaa,h2]) (by decide)]
   exact fin hC Za8 (ZEm std ms ks rs l k) (by simp[-List.getD_eq_getElem?_getD,e0,e1,e2,h2];omega) rfl rfl
theorem ZpQ(ms ks rs l:List AV)(hk:ks.length≤1000000)(hl:l.length≤1000000):Zao Tryz.prog 76 [.agg (.gen [.list (.big .str ms), .list (.big (.agg [.str, .int .i64]) ks), .list (.big (.agg [.str, .int .i64, .int .i64, .int .i64, .int .i64]) rs)]), .list (.big (.agg [.int .i64, .int .i64, .int .i64]) l)] (ZeM 0 ks.length l) none:=
 start (Zvw ms ks rs l) fun C hC=>by
  by_cases h1:l=[]
  ·have e:Zgb 0 l=10:=by rw[h1];rfl
   rw[ZeM,if_neg (by rw[e];decide),e]
   exact fin hC Za8 (ZFe std ms ks rs l) (by simp[h1]) rfl rfl
  ·have h0:0<l.length:=List.length_pos_iff.2 h1
   by_cases h2:12<l.length
   ·have e:Zgb 0 l=8:=by
     unfold Zgb
     rw[decide_eq_true (show 0<(l.length:Int) by omega),decide_eq_false (show ¬(l.length:Int)≤12 by omega)];rfl
    rw[ZeM,if_neg (by rw[e];decide),e]
    exact fin hC Za8 (ZEV std ms ks rs l) (by simp[h1];omega) rfl rfl
   ·have e:Zgb 0 l=0:=by
     unfold Zgb
     rw[decide_eq_true (show 0<(l.length:Int) by omega),decide_eq_true (show (l.length:Int)≤12 by omega)];rfl
    rw[ZeM,if_pos e]
    refine go hC Za8 (ZEC std ms ks rs l) (by simp[h1];omega) ?_
    exact ZgP hC ms ks rs l hk hl l.length 0 (by omega)
end Go.Proofs.YtkeoeooghhjibaaGreatDoor
/- Few. No condition. -/
namespace Go.Proofs.YtkeoeooghhjibaaGreatDoor
def ZxO(x:AV):Bool:=decide (x.toS.length≤20)
def Zof(x:AV):Bool:=decide ((x.cellAt 0).toS.length≤20)
def Zqa(ms ks rs:List AV):Bool:=decide (ms.length≤8∧ks.length≤10∧rs.length≤12)&&(ms.all ZxO&&(ks.all Zof&&rs.all Zof))
theorem Zla{xs:List AV}{k:Nat}(h:k<xs.length):xs.drop k=xs.getD k .top::xs.drop (k+1):=by
 rw[List.drop_eq_getElem_cons h,List.getD_eq_getElem?_getD,List.getElem?_eq_getElem h];rfl
section
variable {C:Ctx}(hC:C.P=Tryz.prog)(ms ks rs:List AV)(hl:ms.length≤8∧ks.length≤10∧rs.length≤12)
include hC hl
theorem ZAi:∀(m k:Nat),k+m=rs.length→Ev C (ZdM ms ks rs k) (ZcX ms ks rs k) (Zcq 23 (.bool ((rs.drop k).all Zof)) none)
 |0,k,h=>fin hC Za8 (ZAA std ms ks rs k) (by simp;omega) (by rw[List.drop_of_length_le (by omega)];rfl) rfl
 |m+1,k,h=>by
  rw[Zla (show k<rs.length by omega)]
  by_cases h1:((rs.getD k .top).cellAt 0).toS.length≤20
  ·refine go hC Za8 (ZBN std ms ks rs k) (by simp[-List.getD_eq_getElem?_getD];omega) ?_
   rw[List.all_cons,show Zof (rs.getD k .top)=true from decide_eq_true h1,Bool.true_and]
   exact ZAi m (k+1) (by omega)
  ·exact fin hC Za8 (ZB5 std ms ks rs k) (by simp[-List.getD_eq_getElem?_getD];omega) (by rw[List.all_cons,show Zof (rs.getD k .top)=false from decide_eq_false h1,Bool.false_and]) rfl
theorem Zyo:∀(m k:Nat),k+m=ks.length→Ev C (ZdJ ms ks rs k) (ZcN ms ks rs k) (Zcq 23 (.bool ((ks.drop k).all Zof&&rs.all Zof)) none)
 |0,k,h=>by
  refine go hC Za8 (ZC6 std ms ks rs k) (by simp;omega) ?_
  rw[List.drop_of_length_le (by omega)]
  exact ZAi hC ms ks rs hl rs.length 0 (by omega)
 |m+1,k,h=>by
  rw[Zla (show k<ks.length by omega)]
  by_cases h1:((ks.getD k .top).cellAt 0).toS.length≤20
  ·refine go hC Za8 (ZED std ms ks rs k) (by simp[-List.getD_eq_getElem?_getD];omega) ?_
   rw[List.all_cons,show Zof (ks.getD k .top)=true from decide_eq_true h1,Bool.true_and]
   exact Zyo m (k+1) (by omega)
  ·exact fin hC Za8 (ZEO std ms ks rs k) (by simp[-List.getD_eq_getElem?_getD];omega) (by rw[List.all_cons,show Zof (ks.getD k .top)=false from decide_eq_false h1,Bool.false_and,Bool.false_and]) rfl
theorem Zy2:∀(m k:Nat),k+m=ms.length→Ev C (Zdq ms ks rs k) (ZcV ms ks rs k) (Zcq 23 (.bool ((ms.drop k).all ZxO&&(ks.all Zof&&rs.all Zof))) none)
 |0,k,h=>by
  refine go hC Za8 (ZEE std ms ks rs k) (by simp;omega) ?_
  rw[List.drop_of_length_le (by omega)]
  exact Zyo hC ms ks rs hl ks.length 0 (by omega)
 |m+1,k,h=>by
  rw[Zla (show k<ms.length by omega)]
  by_cases h1:(ms.getD k .top).toS.length≤20
  ·refine go hC Za8 (ZEz std ms ks rs k) (by simp[-List.getD_eq_getElem?_getD];omega) ?_
   rw[List.all_cons,show ZxO (ms.getD k .top)=true from decide_eq_true h1,Bool.true_and]
   exact Zy2 m (k+1) (by omega)
  ·exact fin hC Za8 (ZC9 std ms ks rs k) (by simp[-List.getD_eq_getElem?_getD];omega) (by rw[List.all_cons,show ZxO (ms.getD k .top)=false from decide_eq_false h1,Bool.false_and,Bool.false_and]) rfl
end
theorem ZvJ(ms ks rs:List AV):Zao Tryz.prog 23 [.agg (.gen [.list (.big .str ms), .list (.big (.agg [.str, .int .i64]) ks), .list (.big (.agg [.str, .int .i64, .int .i64, .int .i64, .int .i64]) rs)])] (.bool (Zqa ms ks rs)) none:=
 start (Zuf ms ks rs) fun C hC=>by
  by_cases h1:ms.length≤8
  ·by_cases h2:ks.length≤10
   ·by_cases h3:rs.length≤12
    ·refine go hC Za8 (ZEq std ms ks rs) (by simp;omega) ?_
     unfold Zqa
     rw[decide_eq_true ⟨h1,h2,h3⟩,Bool.true_and]
     exact Zy2 hC ms ks rs ⟨h1,h2,h3⟩ ms.length 0 (by omega)
    ·exact fin hC Za8 (ZDH std ms ks rs) (by simp;omega) (by simp[Zqa,h3]) rfl
   ·exact fin hC Za8 (ZE5 std ms ks rs) (by simp;omega) (by simp[Zqa,h2]) rfl
  ·exact fin hC Za8 (ZEA std ms ks rs) (by simp;omega) (by simp[Zqa,h1]) rfl
end Go.Proofs.YtkeoeooghhjibaaGreatDoor
/- Paths of functions, printed by the explorer (Gx). No condition. -/
namespace Go.Proofs.YtkeoeooghhjibaaGreatDoor
set_option maxRecDepth 100000
set_option linter.unusedVariables false
def ZBo(l:List Int)(a b:Int)(xs:List Int):AFrame:={ fn:=90,N:=9,env:=[(0,AV.list (.ints .i64 l)),(1,AV.fn 87 [AV.eptr (AV.agg (Row.gen [.int .i64 a, .int .i64 b, .list (.ints .i64 xs)])) 0])],todo:=[.code a90.code],defs:=[],rnd:=none,ret:=false,res:=[ARes.tmp 4] }
def ZHX(l:List Int)(a b:Int)(xs:List Int):List AFrame:=[(ZBo l a b xs)]
theorem Zwe(l:List Int)(a b:Int)(xs:List Int):Zat tab 90 [AV.list (.ints .i64 l),AV.fn 87 [AV.eptr (AV.agg (Row.gen [.int .i64 a, .int .i64 b, .list (.ints .i64 xs)])) 0]]=some (ZBo l a b xs):=rfl
def Zb9(l:List Int)(a b:Int)(xs:List Int)(n0 n1:Int):List AFrame:=[{ fn:=137,N:=19,env:=[(0,AV.list (.ints .i64 l)),(1,AV.fn 87 [AV.eptr (AV.agg (Row.gen [.int .i64 a, .int .i64 b, .list (.ints .i64 xs)])) 0]),(7,AV.int .i64 n0),(8,AV.int .i64 n1)],todo:=.code (ACode.gh [] Zo3)::Zsy,defs:=[],rnd:=none,ret:=false,res:=[ARes.tmp 4] },{ fn:=90,N:=9,env:=[(0,AV.list (.ints .i64 l)),(1,AV.fn 87 [AV.eptr (AV.agg (Row.gen [.int .i64 a, .int .i64 b, .list (.ints .i64 xs)])) 0]),(4,AV.bool false),(5,AV.list (.ints .i64 l)),(6,AV.fn 87 [AV.eptr (AV.agg (Row.gen [.int .i64 a, .int .i64 b, .list (.ints .i64 xs)])) 0])],todo:=[AItem.inReg [oN 7 (OpK.ncall true 0 137 [Opd.t 5,Opd.t 6]),oN 8 (OpK.bin Go.BinOp.geq (Opd.t 7) (cI 0)),mV 4 8], .code ACode.ret],defs:=[],rnd:=none,ret:=false,res:=[ARes.tmp 4] }]
def ZbG(l:List Int)(a b:Int)(xs:List Int)(n0 n1:Int):Zac:=[]
abbrev Zen(l:List Int)(a b:Int)(xs:List Int)(n0 n1:Int):List AFrame×Zac:=(Zb9 l a b xs n0 n1,ZbG l a b xs n0 n1)
theorem ZDL(A:Ar)(l:List Int)(a b:Int)(xs:List Int):ZaB A tab B5 23 [] (ZHX l a b xs) []=
 some (tr [7] [],
  Zen (l) (a) (b) (xs) (A.int (A.len l)) (0)):=by kernel_rfl
theorem ZDh(A:Ar)(l:List Int)(a b:Int)(xs:List Int)(n0 n1:Int):Za1 A tab B5 56 [true,true,true,true,true,true,true,true] 90 (Zb9 l a b xs n0 n1) (ZbG l a b xs n0 n1)=
 some (tr [6,13,5,5,1] [A.not (Zab (A.nth l (A.nat n1)) 0 b),A.not (A.eq (A.nth l (A.nat n1)) (-1)),Zah (Zah (A.le 0 n1) (Nat.blt (A.nat n1) (A.len l))) true,A.lt n1 n0],
  AV.bool (A.le 0 n1),none):=by kernel_rfl
theorem ZCP(A:Ar)(l:List Int)(a b:Int)(xs:List Int)(n0 n1:Int):ZaB A tab B5 53 [true,true,true,true,true,true,true,false] (Zb9 l a b xs n0 n1) (ZbG l a b xs n0 n1)=
 some (tr [1,0,13,5,5,1] [A.inR .i64 (A.add n1 1),!A.not (Zab (A.nth l (A.nat n1)) 0 b),A.not (A.eq (A.nth l (A.nat n1)) (-1)),Zah (Zah (A.le 0 n1) (Nat.blt (A.nat n1) (A.len l))) true,A.lt n1 n0],
  Zen (l) (a) (b) (xs) (n0) (A.add n1 1)):=by kernel_rfl
theorem ZDI(A:Ar)(l:List Int)(a b:Int)(xs:List Int)(n0 n1:Int):ZaB A tab B5 53 [true,false,false,false,false,false,false,false] (Zb9 l a b xs n0 n1) (ZbG l a b xs n0 n1)=
 some (tr [1,14,5,5,1] [A.inR .i64 (A.add n1 1),!A.not (A.eq (A.nth l (A.nat n1)) (-1)),Zah (Zah (A.le 0 n1) (Nat.blt (A.nat n1) (A.len l))) true,A.lt n1 n0],
  Zen (l) (a) (b) (xs) (n0) (A.add n1 1)):=by kernel_rfl
theorem ZEX(A:Ar)(l:List Int)(a b:Int)(xs:List Int)(n0 n1:Int):Za1 A tab B5 18 [false] 90 (Zb9 l a b xs n0 n1) (ZbG l a b xs n0 n1)=
 some (tr [5,1] [!A.lt n1 n0],
  AV.bool (A.le 0 (-1)),none):=by kernel_rfl
end Go.Proofs.YtkeoeooghhjibaaGreatDoor
/- Whether a moment's last times hold a bad one. No condition. -/
namespace Go.Proofs.YtkeoeooghhjibaaGreatDoor
def Zrx(b n:Int):Bool:=decide (n≠ -1)&&!Zab n 0 b
theorem Ze8{C:Ctx}(hC:C.P=Tryz.prog)(l:List Int)(a b:Int)(xs:List Int)(hl:l.length≤1000000):∀(m k:Nat),k+m=l.length→Ev C (Zb9 l a b xs l.length k) (ZbG l a b xs l.length k) (Zcq 90 (.bool ((l.drop k).any (Zrx b))) none)
 |0,k,h=>fin hC Zhu (ZEX std l a b xs l.length k) (by simp;omega) (by rw[List.drop_of_length_le (by omega)];rfl) rfl
 |m+1,k,h=>by
  have hd:l.drop k=l.getD k 0::l.drop (k+1):=by
   rw[List.drop_eq_getElem_cons (show k<l.length by omega),List.getD_eq_getElem?_getD,List.getElem?_eq_getElem (show k<l.length by omega)];rfl
  rw[hd,List.any_cons]
  by_cases h1:l.getD k 0= -1
  ·refine go hC Zhu (ZDI std l a b xs l.length k) (by simp[-List.getD_eq_getElem?_getD,h1];omega) ?_
   rw[show Zrx b (l.getD k 0)=false by rw[Zrx,decide_eq_false (by simp only[h1,ne_eq,not_true_eq_false,not_false_eq_true]),Bool.false_and],Bool.false_or]
   exact Ze8 hC l a b xs hl m (k+1) (by omega)
  ·by_cases h2:Zab (l.getD k 0) 0 b=true
   ·refine go hC Zhu (ZCP std l a b xs l.length k) (by simp[-List.getD_eq_getElem?_getD,h1,h2];omega) ?_
    rw[show Zrx b (l.getD k 0)=false by rw[Zrx,h2,Bool.not_true,Bool.and_false],Bool.false_or]
    exact Ze8 hC l a b xs hl m (k+1) (by omega)
   ·exact fin hC Zhu (ZDh std l a b xs l.length k) (by simp[-List.getD_eq_getElem?_getD,h1,h2];omega) (by
     have e:Zrx b (l.getD k 0)=true:=by rw[Zrx,decide_eq_true h1,(by simpa using h2:Zab (l.getD k 0) 0 b=false)];rfl
     rw[e,Bool.true_or]
     show AV.bool (decide ((0:Int)≤k))=_
     rw[decide_eq_true (by omega)]) rfl
theorem Zsc(l:List Int)(a b:Int)(xs:List Int)(hl:l.length≤1000000):Zao Tryz.prog 90 [.list (.ints .i64 l), .fn 87 [.eptr (.agg (.gen [.int .i64 a, .int .i64 b, .list (.ints .i64 xs)])) 0]] (.bool (l.any (Zrx b))) none:=
 start (Zwe l a b xs) fun C hC=>go hC Zhu (ZDL std l a b xs) (by simp) (Ze8 hC l a b xs hl l.length 0 (by omega))
end Go.Proofs.YtkeoeooghhjibaaGreatDoor
/- Contracts as a list. No condition. -/
namespace Go.Proofs.YtkeoeooghhjibaaGreatDoor
def k23:Ctr:=⟨23,0,fun _ a=>match a with |[.agg (.gen [.list (.big .str ms), .list (.big (.agg [.str, .int .i64]) ks), .list (.big (.agg [.str, .int .i64, .int .i64, .int .i64, .int .i64]) rs)])]=>some (true, .bool (Zqa ms ks rs),none) |_=>none⟩
theorem ZCf:k23.OK Tryz.prog:=fun pa args r fr h=>by
 simp only[k23]at h
 split at h
 ·cases h
  exact ZvJ _ _ _
 ·cases h
def k90:Ctr:=⟨90,0,fun _ a=>match a with |[.list (.ints .i64 l), .fn 87 [.eptr (.agg (.gen [.int .i64 _, .int .i64 b, .list (.ints .i64 _)])) 0]]=>some (decide (l.length≤1000000), .bool (l.any (Zrx b)),none) |_=>none⟩
theorem Zzz:k90.OK Tryz.prog:=fun pa args r fr h=>by
 simp only[k90]at h
 split at h
 ·simp only[Option.some.injEq,Prod.mk.injEq,decide_eq_true_eq]at h
  obtain⟨h0,rfl,rfl⟩:=h
  exact Zsc _ _ _ _ h0
 ·cases h
def B6:List Ctr:=[k23,k90]++B5
theorem Zf8:ZaD Tryz.prog B6:=⟨ZCf,⟨Zzz,Zhu⟩⟩
end Go.Proofs.YtkeoeooghhjibaaGreatDoor
/- Paths of functions, printed by the explorer (Gx). No condition. -/
namespace Go.Proofs.YtkeoeooghhjibaaGreatDoor
set_option maxRecDepth 100000
set_option linter.unusedVariables false
def Zs5(ms ks rs:List AV):AFrame:={ fn:=119,N:=188,env:=[(0,AV.agg (Row.gen [.list (Row.big .str ms), .list (Row.big (.agg [.str, .int .i64]) ks), .list (Row.big (.agg [.str, .int .i64, .int .i64, .int .i64, .int .i64]) rs)]))],todo:=[.code a119.code],defs:=[],rnd:=none,ret:=false,res:=[ARes.cell 2 true 2,ARes.tmp 3] }
def ZDr(ms ks rs:List AV):List AFrame:=[(Zs5 ms ks rs)]
theorem ZrL(ms ks rs:List AV):Zat tab 119 [AV.agg (Row.gen [.list (Row.big .str ms), .list (Row.big (.agg [.str, .int .i64]) ks), .list (Row.big (.agg [.str, .int .i64, .int .i64, .int .i64, .int .i64]) rs)])]=some (Zs5 ms ks rs):=rfl
def Zeq(ms ks rs:List AV)(n0:Int):List AFrame:=[{ fn:=119,N:=188,env:=[(1,AV.ptr 119002 0 0 0),(2,AV.ptr 119003 0 0 0),(4,AV.int .i64 n0)],todo:=.code (ACode.gh [] ZsH)::ZAj,defs:=[],rnd:=none,ret:=false,res:=[ARes.cell 2 true 2,ARes.tmp 3] }]
def Zdo(ms ks rs:List AV)(n0:Int):Zac:=[(119002,{ base:=0,blks:=[Blk.row 26 3 (Row.gen [AV.agg (Row.gen [AV.list (Row.big .str ms),AV.list (Row.big (.agg [.str, .int .i64]) ks),AV.list (Row.big (.agg [.str, .int .i64, .int .i64, .int .i64, .int .i64]) rs)])])] }),(119003,{ base:=0,blks:=[Blk.row 195 2 (Row.gen [AV.agg (Row.gen [AV.int .i64 0,AV.int .i64 0])])] })]
abbrev ZfV(ms ks rs:List AV)(n0:Int):List AFrame×Zac:=(Zeq ms ks rs n0,Zdo ms ks rs n0)
def Zc6(ms ks rs:List AV):List AFrame:=[{ fn:=119,N:=188,env:=[(1,AV.ptr 119002 0 0 0),(2,AV.ptr 119003 0 0 0),(5,AV.nils),(6,AV.int .i64 0)],todo:=.code (ACode.gh [] Zqr)::Ztl,defs:=[],rnd:=none,ret:=false,res:=[ARes.cell 2 true 2,ARes.tmp 3] }]
def Zct(ms ks rs:List AV):Zac:=[(119002,{ base:=0,blks:=[Blk.row 26 3 (Row.gen [AV.agg (Row.gen [AV.list (Row.big .str ms),AV.list (Row.big (.agg [.str, .int .i64]) ks),AV.list (Row.big (.agg [.str, .int .i64, .int .i64, .int .i64, .int .i64]) rs)])])] }),(119003,{ base:=0,blks:=[Blk.row 195 2 (Row.gen [AV.agg (Row.gen [AV.int .i64 0,AV.int .i64 0])])] })]
abbrev ZjV(ms ks rs:List AV):List AFrame×Zac:=(Zc6 ms ks rs,Zct ms ks rs)
def Zel(ms ks rs:List AV)(n1:Int)(x2:List AV):List AFrame:=[{ fn:=119,N:=188,env:=[(1,AV.ptr 119002 0 0 0),(2,AV.ptr 119003 0 0 0),(5,AV.row 119093 0),(6,AV.int .i64 n1)],todo:=.code (ACode.gh [] Zqr)::Ztl,defs:=[],rnd:=none,ret:=false,res:=[ARes.cell 2 true 2,ARes.tmp 3] }]
def ZdG(ms ks rs:List AV)(n1:Int)(x2:List AV):Zac:=[(119002,{ base:=0,blks:=[Blk.row 26 3 (Row.gen [AV.agg (Row.gen [AV.list (Row.big .str ms),AV.list (Row.big (.agg [.str, .int .i64]) ks),AV.list (Row.big (.agg [.str, .int .i64, .int .i64, .int .i64, .int .i64]) rs)])])] }),(119003,{ base:=0,blks:=[Blk.row 195 2 (Row.gen [AV.agg (Row.gen [AV.int .i64 0,AV.int .i64 0])])] }),(119093,{ base:=0,blks:=[Blk.row 9 1 (Row.big .str x2)] })]
abbrev ZfQ(ms ks rs:List AV)(n1:Int)(x2:List AV):List AFrame×Zac:=(Zel ms ks rs n1 x2,ZdG ms ks rs n1 x2)
def Zc4(ms ks rs:List AV):List AFrame:=[{ fn:=119,N:=188,env:=[(1,AV.ptr 119002 0 0 0),(2,AV.ptr 119003 0 0 0),(5,AV.nils),(7,AV.int .i64 0)],todo:=.code (ACode.gh [] ZpX)::Ztg,defs:=[],rnd:=none,ret:=false,res:=[ARes.cell 2 true 2,ARes.tmp 3] }]
def Zcs(ms ks rs:List AV):Zac:=[(119002,{ base:=0,blks:=[Blk.row 26 3 (Row.gen [AV.agg (Row.gen [AV.list (Row.big .str ms),AV.list (Row.big (.agg [.str, .int .i64]) ks),AV.list (Row.big (.agg [.str, .int .i64, .int .i64, .int .i64, .int .i64]) rs)])])] }),(119003,{ base:=0,blks:=[Blk.row 195 2 (Row.gen [AV.agg (Row.gen [AV.int .i64 0,AV.int .i64 0])])] })]
abbrev ZfS(ms ks rs:List AV):List AFrame×Zac:=(Zc4 ms ks rs,Zcs ms ks rs)
def Zeg(ms ks rs:List AV)(n3:Int)(x4:List AV):List AFrame:=[{ fn:=119,N:=188,env:=[(1,AV.ptr 119002 0 0 0),(2,AV.ptr 119003 0 0 0),(5,AV.row 119141 0),(7,AV.int .i64 n3)],todo:=.code (ACode.gh [] ZpX)::Ztg,defs:=[],rnd:=none,ret:=false,res:=[ARes.cell 2 true 2,ARes.tmp 3] }]
def ZdN(ms ks rs:List AV)(n3:Int)(x4:List AV):Zac:=[(119002,{ base:=0,blks:=[Blk.row 26 3 (Row.gen [AV.agg (Row.gen [AV.list (Row.big .str ms),AV.list (Row.big (.agg [.str, .int .i64]) ks),AV.list (Row.big (.agg [.str, .int .i64, .int .i64, .int .i64, .int .i64]) rs)])])] }),(119003,{ base:=0,blks:=[Blk.row 195 2 (Row.gen [AV.agg (Row.gen [AV.int .i64 0,AV.int .i64 0])])] }),(119141,{ base:=0,blks:=[Blk.row 9 1 (Row.big .str x4)] })]
abbrev Zcy(ms ks rs:List AV)(n3:Int)(x4:List AV):List AFrame×Zac:=(Zeg ms ks rs n3 x4,ZdN ms ks rs n3 x4)
def ZmC(A:Ar)(K:KT)(F:FT)(ms ks rs:List AV):Prop:=bB (A.eq (A.int (A.lenA ms)) 0) (F (AV.tup [AV.agg (Row.gen [.int .i64 1, .int .i64 0]),AV.int .i64 10]) (none)) (bB (A.lt 6 (A.int (A.lenA ms))) (F (AV.tup [AV.agg (Row.gen [.int .i64 1, .int .i64 0]),AV.int .i64 8]) (none)) (K (ZfV (ms) (ks) (rs) (0))))
theorem ZCo{A:Ar}{K:KT}{F:FT}{M:MT}{ms ks rs:List AV} :ZaK A tab B6 119 K F M (.run 14 (.tf (.run 20 (.fn)) (.run 9 (.tf (.run 20 (.fn)) (.run 9 (.hd)))))) (ZDr ms ks rs) []=ZmC A K F ms ks rs:=by kernel_rfl
def ZbU(A:Ar)(K:KT)(F:FT)(ms ks rs:List AV)(n0:Int):Prop:=bB (A.lt n0 (A.int (A.lenA ms))) (rB [decide (List.length (AV.toS (A.nthA ms (A.nat n0)))≤1000000),Zah (Zah (A.le 0 n0) (Nat.blt (A.nat n0) (A.lenA ms))) true] (bB (A.not (ZaT (AV.toS (A.nthA ms (A.nat n0))))) (F (AV.tup [AV.agg (Row.gen [.int .i64 1, .int .i64 n0]),AV.int .i64 4]) (none)) (rB [decide (List.length (A.subA ms 0 (A.nat n0-0))≤1000000),Zah (Zah (A.le 0 n0) (Nat.blt (A.nat n0) (A.lenA ms))) true,Zah (A.le 0 n0) (Zah (Zah (Nat.ble 0 (A.nat n0)) (Nat.ble (A.nat n0) (A.lenA ms))) true)] (bB (Zhv (A.subA ms 0 (A.nat n0-0)) (AV.toS (A.nthA ms (A.nat n0)))) (F (AV.tup [AV.agg (Row.gen [.int .i64 1, .int .i64 n0]),AV.int .i64 5]) (none)) (rB [A.inR .i64 (A.add n0 1)] (K (ZfV (ms) (ks) (rs) (A.add n0 1)))))))) (bB (A.eq (A.int (A.lenA ks)) 0) (F (AV.tup [AV.agg (Row.gen [.int .i64 2, .int .i64 0]),AV.int .i64 10]) (none)) (bB (A.lt 8 (A.int (A.lenA ks))) (F (AV.tup [AV.agg (Row.gen [.int .i64 2, .int .i64 0]),AV.int .i64 8]) (none)) (K (ZjV (ms) (ks) (rs)))))
theorem ZfZ{A:Ar}{K:KT}{F:FT}{M:MT}{ms ks rs:List AV}{n0:Int} :ZaK A tab B6 119 K F M (.run 10 (.tf (.run 15 (.tf (.run 21 (.fn)) (.run 4 (.tf (.run 21 (.fn)) (.run 9 (.hd)))))) (.run 9 (.tf (.run 20 (.fn)) (.run 9 (.tf (.run 20 (.fn)) (.run 13 (.hd)))))))) (Zeq ms ks rs n0) (Zdo ms ks rs n0)=ZbU A K F ms ks rs n0:=by kernel_rfl
def Zcx(A:Ar)(K:KT)(F:FT)(ms ks rs:List AV):Prop:=bB (A.lt 0 (A.int (A.lenA ks))) (rB [decide (List.length ((A.nthA ks (A.nat 0)).cellAt 0).toS≤1000000),Zah (Zah (A.le 0 0) (Nat.blt (A.nat 0) (A.lenA ks))) true] (bB (A.not (ZaT ((A.nthA ks (A.nat 0)).cellAt 0).toS)) (F (AV.tup [AV.agg (Row.gen [.int .i64 2, .int .i64 0]),AV.int .i64 4]) (none)) (rB [Zah (Zah (A.le 0 0) (Nat.blt (A.nat 0) (A.lenA ks))) true] (rB [A.inR .i64 (A.sub (A.int (A.lenA ms)) 1),Zah (Zah (A.le 0 0) (Nat.blt (A.nat 0) (A.lenA ks))) true,Zah (Nat.ble (A.lenA [AV.str ((A.nthA ks (A.nat 0)).cellAt 0).toS]) 4294967296) (Nat.blt 0 (A.lenA [AV.str ((A.nthA ks (A.nat 0)).cellAt 0).toS])),List.all [AV.str ((A.nthA ks (A.nat 0)).cellAt 0).toS] fun x=>AV.bx x&&Nat.beq (Zad A x) 1,Zah (Zah (A.le 0 0) (Nat.blt (A.nat 0) (A.lenA ks))) true] (bB (A.not (Zab ((A.nthA ks (A.nat 0)).cellAt 1).toI (-1) (A.sub (A.int (A.lenA ms)) 1))) (F (AV.tup [AV.agg (Row.gen [.int .i64 2, .int .i64 0]),AV.int .i64 6]) (none)) (rB [A.inR .i64 (A.add 0 1)] (K (ZfQ (ms) (ks) (rs) (A.add 0 1) ([AV.str ((A.nthA ks (A.nat 0)).cellAt 0).toS]))))))))) (bB (A.lt 10 (A.int (A.lenA rs))) (F (AV.tup [AV.agg (Row.gen [.int .i64 3, .int .i64 0]),AV.int .i64 8]) (none)) (K (ZfS (ms) (ks) (rs))))
theorem ZfN{A:Ar}{K:KT}{F:FT}{M:MT}{ms ks rs:List AV} :ZaK A tab B6 119 K F M (.run 10 (.tf (.run 16 (.tf (.run 21 (.fn)) (.run 14 (.fy (.run 18 (.tf (.run 21 (.fn)) (.run 9 (.hd)))))))) (.run 9 (.tf (.run 20 (.fn)) (.run 13 (.hd)))))) (Zc6 ms ks rs) (Zct ms ks rs)=Zcx A K F ms ks rs:=by kernel_rfl
def Zcw(A:Ar)(K:KT)(F:FT)(ms ks rs:List AV)(n1:Int)(x2:List AV):Prop:=bB (A.lt n1 (A.int (A.lenA ks))) (rB [decide (List.length ((A.nthA ks (A.nat n1)).cellAt 0).toS≤1000000),Zah (Zah (A.le 0 n1) (Nat.blt (A.nat n1) (A.lenA ks))) true] (bB (A.not (ZaT ((A.nthA ks (A.nat n1)).cellAt 0).toS)) (F (AV.tup [AV.agg (Row.gen [.int .i64 2, .int .i64 n1]),AV.int .i64 4]) (none)) (rB [decide (List.length x2≤1000000),Zah (Zah (A.le 0 n1) (Nat.blt (A.nat n1) (A.lenA ks))) true] (bB (Zhv x2 ((A.nthA ks (A.nat n1)).cellAt 0).toS) (F (AV.tup [AV.agg (Row.gen [.int .i64 2, .int .i64 n1]),AV.int .i64 5]) (none)) (rB [A.inR .i64 (A.sub (A.int (A.lenA ms)) 1),Zah (Zah (A.le 0 n1) (Nat.blt (A.nat n1) (A.lenA ks))) true,Nat.ble (A.lenA x2+A.lenA [AV.str ((A.nthA ks (A.nat n1)).cellAt 0).toS]) 4294967296,List.all [AV.str ((A.nthA ks (A.nat n1)).cellAt 0).toS] fun x=>AV.bx x&&Nat.beq (Zad A x) 1,Zah (Zah (A.le 0 n1) (Nat.blt (A.nat n1) (A.lenA ks))) true] (bB (A.not (Zab ((A.nthA ks (A.nat n1)).cellAt 1).toI (-1) (A.sub (A.int (A.lenA ms)) 1))) (F (AV.tup [AV.agg (Row.gen [.int .i64 2, .int .i64 n1]),AV.int .i64 6]) (none)) (rB [A.inR .i64 (A.add n1 1)] (K (ZfQ (ms) (ks) (rs) (A.add n1 1) (A.appA x2 [AV.str ((A.nthA ks (A.nat n1)).cellAt 0).toS])))))))))) (bB (A.lt 10 (A.int (A.lenA rs))) (F (AV.tup [AV.agg (Row.gen [.int .i64 3, .int .i64 0]),AV.int .i64 8]) (none)) (K (ZfS (ms) (ks) (rs))))
theorem ZfR{A:Ar}{K:KT}{F:FT}{M:MT}{ms ks rs:List AV}{n1:Int}{x2:List AV} :ZaK A tab B6 119 K F M (.run 10 (.tf (.run 16 (.tf (.run 21 (.fn)) (.run 14 (.tf (.run 21 (.fn)) (.run 18 (.tf (.run 21 (.fn)) (.run 9 (.hd)))))))) (.run 9 (.tf (.run 20 (.fn)) (.run 13 (.hd)))))) (Zel ms ks rs n1 x2) (ZdG ms ks rs n1 x2)=Zcw A K F ms ks rs n1 x2:=by kernel_rfl
def ZdK(A:Ar)(K:KT)(F:FT)(ms ks rs:List AV):Prop:=bB (A.lt 0 (A.int (A.lenA rs))) (rB [decide (List.length ((A.nthA rs (A.nat 0)).cellAt 0).toS≤1000000),Zah (Zah (A.le 0 0) (Nat.blt (A.nat 0) (A.lenA rs))) true] (bB (A.not (ZaT ((A.nthA rs (A.nat 0)).cellAt 0).toS)) (F (AV.tup [AV.agg (Row.gen [.int .i64 3, .int .i64 0]),AV.int .i64 4]) (none)) (rB [A.inR .i64 (A.sub (A.int (A.lenA ks)) 1),Zah (Nat.ble (A.lenA [AV.str ((A.nthA rs (A.nat 0)).cellAt 0).toS]) 4294967296) (Nat.blt 0 (A.lenA [AV.str ((A.nthA rs (A.nat 0)).cellAt 0).toS])),List.all [AV.str ((A.nthA rs (A.nat 0)).cellAt 0).toS] fun x=>AV.bx x&&Nat.beq (Zad A x) 1] (bB (A.not (Zab ((A.nthA rs (A.nat 0)).cellAt 1).toI 0 (A.sub (A.int (A.lenA ks)) 1))) (F (AV.tup [AV.agg (Row.gen [.int .i64 3, .int .i64 0]),AV.int .i64 6]) (none)) (rB [A.inR .i64 (A.sub (A.int (A.lenA ms)) 1)] (bB (A.not (Zab ((A.nthA rs (A.nat 0)).cellAt 2).toI (-1) (A.sub (A.int (A.lenA ms)) 1))) (F (AV.tup [AV.agg (Row.gen [.int .i64 3, .int .i64 0]),AV.int .i64 6]) (none)) (rB [A.inR .i64 (A.sub (A.int (A.lenA ks)) 1)] (bB (A.not (Zab ((A.nthA rs (A.nat 0)).cellAt 3).toI (-1) (A.sub (A.int (A.lenA ks)) 1))) (F (AV.tup [AV.agg (Row.gen [.int .i64 3, .int .i64 0]),AV.int .i64 6]) (none)) (bB (A.not (Zab ((A.nthA rs (A.nat 0)).cellAt 4).toI 1 1000000)) (F (AV.tup [AV.agg (Row.gen [.int .i64 3, .int .i64 0]),AV.int .i64 2]) (none)) (bB (A.eq ((A.nthA rs (A.nat 0)).cellAt 3).toI (-1)) (bB (A.not (A.eq ((A.nthA rs (A.nat 0)).cellAt 4).toI 1)) (F (AV.tup [AV.agg (Row.gen [.int .i64 3, .int .i64 0]),AV.int .i64 3]) (none)) (rB [A.inR .i64 (A.add 0 1)] (K (Zcy (ms) (ks) (rs) (A.add 0 1) ([AV.str ((A.nthA rs (A.nat 0)).cellAt 0).toS]))))) (rB [A.inR .i64 (A.add 0 1)] (K (Zcy (ms) (ks) (rs) (A.add 0 1) ([AV.str ((A.nthA rs (A.nat 0)).cellAt 0).toS])))))))))))))) (F (AV.tup [AV.agg (Row.gen [.int .i64 0, .int .i64 0]),AV.int .i64 0]) (none))
theorem Zf1{A:Ar}{K:KT}{F:FT}{M:MT}{ms ks rs:List AV} :ZaK A tab B6 119 K F M (.run 10 (.tf (.run 21 (.tf (.run 21 (.fn)) (.run 9 (.fy (.run 22 (.tf (.ty (.ty (.ty (.ty (.ty (.ty (.ty (.ty (.run 1 (.ty (.ty (.ty (.ty (.ty (.ty (.ty (.ty (.ty (.run 2 (.ty (.run 21 (.fn)))))))))))))))))))))) (.fy (.fy (.fy (.fy (.fy (.fy (.fy (.fy (.run 1 (.tf (.ty (.ty (.ty (.ty (.ty (.ty (.ty (.ty (.run 2 (.ty (.run 21 (.fn)))))))))))) (.fy (.fy (.fy (.fy (.fy (.fy (.fy (.fy (.run 2 (.tf (.run 21 (.fn)) (.run 9 (.tf (.run 21 (.fn)) (.run 7 (.tf (.ty (.ty (.ty (.run 2 (.tf (.run 21 (.fn)) (.run 9 (.hd))))))) (.fy (.fy (.fy (.run 2 (.fy (.run 9 (.hd))))))))))))))))))))))))))))))))))))) (.run 8 (.fn)))) (Zc4 ms ks rs) (Zcs ms ks rs)=ZdK A K F ms ks rs:=by kernel_rfl
def ZdA(A:Ar)(K:KT)(F:FT)(ms ks rs:List AV)(n3:Int)(x4:List AV):Prop:=bB (A.lt n3 (A.int (A.lenA rs))) (rB [decide (List.length ((A.nthA rs (A.nat n3)).cellAt 0).toS≤1000000),Zah (Zah (A.le 0 n3) (Nat.blt (A.nat n3) (A.lenA rs))) true] (bB (A.not (ZaT ((A.nthA rs (A.nat n3)).cellAt 0).toS)) (F (AV.tup [AV.agg (Row.gen [.int .i64 3, .int .i64 n3]),AV.int .i64 4]) (none)) (rB [decide (List.length x4≤1000000)] (bB (Zhv x4 ((A.nthA rs (A.nat n3)).cellAt 0).toS) (F (AV.tup [AV.agg (Row.gen [.int .i64 3, .int .i64 n3]),AV.int .i64 5]) (none)) (rB [A.inR .i64 (A.sub (A.int (A.lenA ks)) 1),Nat.ble (A.lenA x4+A.lenA [AV.str ((A.nthA rs (A.nat n3)).cellAt 0).toS]) 4294967296,List.all [AV.str ((A.nthA rs (A.nat n3)).cellAt 0).toS] fun x=>AV.bx x&&Nat.beq (Zad A x) 1] (bB (A.not (Zab ((A.nthA rs (A.nat n3)).cellAt 1).toI 0 (A.sub (A.int (A.lenA ks)) 1))) (F (AV.tup [AV.agg (Row.gen [.int .i64 3, .int .i64 n3]),AV.int .i64 6]) (none)) (rB [A.inR .i64 (A.sub (A.int (A.lenA ms)) 1)] (bB (A.not (Zab ((A.nthA rs (A.nat n3)).cellAt 2).toI (-1) (A.sub (A.int (A.lenA ms)) 1))) (F (AV.tup [AV.agg (Row.gen [.int .i64 3, .int .i64 n3]),AV.int .i64 6]) (none)) (rB [A.inR .i64 (A.sub (A.int (A.lenA ks)) 1)] (bB (A.not (Zab ((A.nthA rs (A.nat n3)).cellAt 3).toI (-1) (A.sub (A.int (A.lenA ks)) 1))) (F (AV.tup [AV.agg (Row.gen [.int .i64 3, .int .i64 n3]),AV.int .i64 6]) (none)) (bB (A.not (Zab ((A.nthA rs (A.nat n3)).cellAt 4).toI 1 1000000)) (F (AV.tup [AV.agg (Row.gen [.int .i64 3, .int .i64 n3]),AV.int .i64 2]) (none)) (bB (A.eq ((A.nthA rs (A.nat n3)).cellAt 3).toI (-1)) (bB (A.not (A.eq ((A.nthA rs (A.nat n3)).cellAt 4).toI 1)) (F (AV.tup [AV.agg (Row.gen [.int .i64 3, .int .i64 n3]),AV.int .i64 3]) (none)) (rB [A.inR .i64 (A.add n3 1)] (K (Zcy (ms) (ks) (rs) (A.add n3 1) (A.appA x4 [AV.str ((A.nthA rs (A.nat n3)).cellAt 0).toS]))))) (rB [A.inR .i64 (A.add n3 1)] (K (Zcy (ms) (ks) (rs) (A.add n3 1) (A.appA x4 [AV.str ((A.nthA rs (A.nat n3)).cellAt 0).toS])))))))))))))))) (F (AV.tup [AV.agg (Row.gen [.int .i64 0, .int .i64 0]),AV.int .i64 0]) (none))
theorem ZfX{A:Ar}{K:KT}{F:FT}{M:MT}{ms ks rs:List AV}{n3:Int}{x4:List AV} :ZaK A tab B6 119 K F M (.run 10 (.tf (.run 21 (.tf (.run 21 (.fn)) (.run 9 (.tf (.run 21 (.fn)) (.run 22 (.tf (.ty (.ty (.ty (.ty (.ty (.ty (.ty (.ty (.run 1 (.ty (.ty (.ty (.ty (.ty (.ty (.ty (.ty (.ty (.run 2 (.ty (.run 21 (.fn)))))))))))))))))))))) (.fy (.fy (.fy (.fy (.fy (.fy (.fy (.fy (.run 1 (.tf (.ty (.ty (.ty (.ty (.ty (.ty (.ty (.ty (.run 2 (.ty (.run 21 (.fn)))))))))))) (.fy (.fy (.fy (.fy (.fy (.fy (.fy (.fy (.run 2 (.tf (.run 21 (.fn)) (.run 9 (.tf (.run 21 (.fn)) (.run 7 (.tf (.ty (.ty (.ty (.run 2 (.tf (.run 21 (.fn)) (.run 9 (.hd))))))) (.fy (.fy (.fy (.run 2 (.fy (.run 9 (.hd))))))))))))))))))))))))))))))))))))) (.run 8 (.fn)))) (Zeg ms ks rs n3 x4) (ZdN ms ks rs n3 x4)=ZdA A K F ms ks rs n3 x4:=by kernel_rfl
end Go.Proofs.YtkeoeooghhjibaaGreatDoor
