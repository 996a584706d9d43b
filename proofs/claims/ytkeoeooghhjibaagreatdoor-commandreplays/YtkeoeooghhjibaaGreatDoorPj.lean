/- Paths of functions, printed by the explorer (Gx). No condition. -/
import Derived.Test.YtkeoeooghhjibaaGreatDoorPe
import Derived.KernelRfl
namespace Go.Proofs.YtkeoeooghhjibaaGreatDoor
set_option maxRecDepth 100000
set_option linter.unusedVariables false
def ZAI(n:Int):AFrame:={ fn:=89,N:=5,env:=[(0,AV.int .i64 n)],todo:=[.code a89.code],defs:=[],rnd:=none,ret:=false,res:=[ARes.tmp 2] }
def ZIb(n:Int):List AFrame:=[(ZAI n)]
theorem Zvq(n:Int):Zar tab 89 [AV.int .i64 n]=some (ZAI n):=rfl
theorem ZFx(A:Ar)(n:Int):Za0 A tab B3 11 [] 89 (ZIb n) []=
 some (tr [5] [],
  AV.bool (Zab n 0 1000000000000),none):=by kernel_rfl
def ZBf(ms ks rs:List AV):AFrame:={ fn:=23,N:=66,env:=[(0,AV.agg (Row.gen [.list (Row.big .str ms), .list (Row.big (.agg [.str, .int .i64]) ks), .list (Row.big (.agg [.str, .int .i64, .int .i64, .int .i64, .int .i64]) rs)]))],todo:=[.code a23.code],defs:=[],rnd:=none,ret:=false,res:=[ARes.tmp 2] }
def ZC8(ms ks rs:List AV):List AFrame:=[(ZBf ms ks rs)]
theorem ZwM(ms ks rs:List AV):Zar tab 23 [AV.agg (Row.gen [.list (Row.big .str ms), .list (Row.big (.agg [.str, .int .i64]) ks), .list (Row.big (.agg [.str, .int .i64, .int .i64, .int .i64, .int .i64]) rs)])]=some (ZBf ms ks rs):=rfl
def ZdG(ms ks rs:List AV)(n0:Int):List AFrame:=[{ fn:=23,N:=66,env:=[(1,AV.ptr 23002 0 0 0),(3,AV.int .i64 n0)],todo:=.code (ACode.gh [] ZAK)::ZE2,defs:=[],rnd:=none,ret:=false,res:=[ARes.tmp 2] }]
def ZcZ(ms ks rs:List AV)(n0:Int):Zac:=[(23002,{ base:=0,blks:=[Blk.row 26 3 (Row.gen [AV.agg (Row.gen [AV.list (Row.big .str ms),AV.list (Row.big (.agg [.str, .int .i64]) ks),AV.list (Row.big (.agg [.str, .int .i64, .int .i64, .int .i64, .int .i64]) rs)])])] })]
abbrev Zh7(ms ks rs:List AV)(n0:Int):List AFrame×Zac:=(ZdG ms ks rs n0,ZcZ ms ks rs n0)
def ZdJ(ms ks rs:List AV)(n1:Int):List AFrame:=[{ fn:=23,N:=66,env:=[(1,AV.ptr 23002 0 0 0),(4,AV.int .i64 n1)],todo:=.code (ACode.gh [] ZBz)::ZD0,defs:=[],rnd:=none,ret:=false,res:=[ARes.tmp 2] }]
def ZcO(ms ks rs:List AV)(n1:Int):Zac:=[(23002,{ base:=0,blks:=[Blk.row 26 3 (Row.gen [AV.agg (Row.gen [AV.list (Row.big .str ms),AV.list (Row.big (.agg [.str, .int .i64]) ks),AV.list (Row.big (.agg [.str, .int .i64, .int .i64, .int .i64, .int .i64]) rs)])])] })]
abbrev ZhR(ms ks rs:List AV)(n1:Int):List AFrame×Zac:=(ZdJ ms ks rs n1,ZcO ms ks rs n1)
def Zdv(ms ks rs:List AV)(n2:Int):List AFrame:=[{ fn:=23,N:=66,env:=[(1,AV.ptr 23002 0 0 0),(5,AV.int .i64 n2)],todo:=.code (ACode.gh [] ZAO)::ZDM,defs:=[],rnd:=none,ret:=false,res:=[ARes.tmp 2] }]
def ZcF(ms ks rs:List AV)(n2:Int):Zac:=[(23002,{ base:=0,blks:=[Blk.row 26 3 (Row.gen [AV.agg (Row.gen [AV.list (Row.big .str ms),AV.list (Row.big (.agg [.str, .int .i64]) ks),AV.list (Row.big (.agg [.str, .int .i64, .int .i64, .int .i64, .int .i64]) rs)])])] })]
abbrev Zh0(ms ks rs:List AV)(n2:Int):List AFrame×Zac:=(Zdv ms ks rs n2,ZcF ms ks rs n2)
theorem ZE8(A:Ar)(ms ks rs:List AV):Za0 A tab B3 32 [true,true,true,true,true,true,true,true,true,true,true] 23 (ZC8 ms ks rs) []=
 some (tr [23,7] [A.lt 8 (A.int (A.lenA ms))],
  AV.bool false,none):=by kernel_rfl
theorem ZFv(A:Ar)(ms ks rs:List AV):Za0 A tab B3 32 [false,false,false,false,false,true,true,true,true,true,true] 23 (ZC8 ms ks rs) []=
 some (tr [12,10,7] [A.lt 10 (A.int (A.lenA ks)),!A.lt 8 (A.int (A.lenA ms))],
  AV.bool false,none):=by kernel_rfl
theorem ZDA(A:Ar)(ms ks rs:List AV):Za0 A tab B3 32 [false,false,false,false,false,false,false,false,false,false,true] 23 (ZC8 ms ks rs) []=
 some (tr [2,9,10,7] [A.lt 12 (A.int (A.lenA rs)),!A.lt 10 (A.int (A.lenA ks)),!A.lt 8 (A.int (A.lenA ms))],
  AV.bool false,none):=by kernel_rfl
theorem ZFe(A:Ar)(ms ks rs:List AV):ZaC A tab B3 36 [false,false,false,false,false,false,false,false,false,false,false] (ZC8 ms ks rs) []=
 some (tr [1,9,10,7] [!A.lt 12 (A.int (A.lenA rs)),!A.lt 10 (A.int (A.lenA ks)),!A.lt 8 (A.int (A.lenA ms))],
  Zh7 (ms) (ks) (rs) (0)):=by kernel_rfl
theorem ZE7(A:Ar)(ms ks rs:List AV)(n0:Int):Za0 A tab B3 31 [true,true] 23 (ZdG ms ks rs n0) (ZcZ ms ks rs n0)=
 some (tr [2,3,3,5] [A.lt 20 (A.int (A.lenS (AV.toS (A.nthA ms (A.nat n0))))),Zag (Zag (A.le 0 n0) (Nat.blt (A.nat n0) (A.lenA ms))) true,A.lt n0 (A.int (A.lenA ms))],
  AV.bool false,none):=by kernel_rfl
theorem ZFP(A:Ar)(ms ks rs:List AV)(n0:Int):ZaC A tab B3 35 [true,false] (ZdG ms ks rs n0) (ZcZ ms ks rs n0)=
 some (tr [1,1,3,3,5] [A.inR .i64 (A.add n0 1),!A.lt 20 (A.int (A.lenS (AV.toS (A.nthA ms (A.nat n0))))),Zag (Zag (A.le 0 n0) (Nat.blt (A.nat n0) (A.lenA ms))) true,A.lt n0 (A.int (A.lenA ms))],
  Zh7 (ms) (ks) (rs) (A.add n0 1)):=by kernel_rfl
theorem ZDQ(A:Ar)(ms ks rs:List AV)(n0:Int):ZaC A tab B3 20 [false] (ZdG ms ks rs n0) (ZcZ ms ks rs n0)=
 some (tr [1,5] [!A.lt n0 (A.int (A.lenA ms))],
  ZhR (ms) (ks) (rs) (0)):=by kernel_rfl
theorem ZEu(A:Ar)(ms ks rs:List AV)(n1:Int):Za0 A tab B3 32 [true,true] 23 (ZdJ ms ks rs n1) (ZcO ms ks rs n1)=
 some (tr [2,4,3,5] [A.lt 20 (A.int (A.lenS ((A.nthA ks (A.nat n1)).cellAt 0).toS)),Zag (Zag (A.le 0 n1) (Nat.blt (A.nat n1) (A.lenA ks))) true,A.lt n1 (A.int (A.lenA ks))],
  AV.bool false,none):=by kernel_rfl
theorem ZFs(A:Ar)(ms ks rs:List AV)(n1:Int):ZaC A tab B3 36 [true,false] (ZdJ ms ks rs n1) (ZcO ms ks rs n1)=
 some (tr [1,1,4,3,5] [A.inR .i64 (A.add n1 1),!A.lt 20 (A.int (A.lenS ((A.nthA ks (A.nat n1)).cellAt 0).toS)),Zag (Zag (A.le 0 n1) (Nat.blt (A.nat n1) (A.lenA ks))) true,A.lt n1 (A.int (A.lenA ks))],
  ZhR (ms) (ks) (rs) (A.add n1 1)):=by kernel_rfl
theorem ZFh(A:Ar)(ms ks rs:List AV)(n1:Int):ZaC A tab B3 20 [false] (ZdJ ms ks rs n1) (ZcO ms ks rs n1)=
 some (tr [1,5] [!A.lt n1 (A.int (A.lenA ks))],
  Zh0 (ms) (ks) (rs) (0)):=by kernel_rfl
theorem ZCG(A:Ar)(ms ks rs:List AV)(n2:Int):Za0 A tab B3 32 [true,true] 23 (Zdv ms ks rs n2) (ZcF ms ks rs n2)=
 some (tr [2,4,3,5] [A.lt 20 (A.int (A.lenS ((A.nthA rs (A.nat n2)).cellAt 0).toS)),Zag (Zag (A.le 0 n2) (Nat.blt (A.nat n2) (A.lenA rs))) true,A.lt n2 (A.int (A.lenA rs))],
  AV.bool false,none):=by kernel_rfl
theorem ZxH(A:Ar)(ms ks rs:List AV)(n2:Int):ZaC A tab B3 36 [true,false] (Zdv ms ks rs n2) (ZcF ms ks rs n2)=
 some (tr [1,1,4,3,5] [A.inR .i64 (A.add n2 1),!A.lt 20 (A.int (A.lenS ((A.nthA rs (A.nat n2)).cellAt 0).toS)),Zag (Zag (A.le 0 n2) (Nat.blt (A.nat n2) (A.lenA rs))) true,A.lt n2 (A.int (A.lenA rs))],
  Zh0 (ms) (ks) (rs) (A.add n2 1)):=by kernel_rfl
theorem Zz4(A:Ar)(ms ks rs:List AV)(n2:Int):Za0 A tab B3 17 [false] 23 (Zdv ms ks rs n2) (ZcF ms ks rs n2)=
 some (tr [2,5] [!A.lt n2 (A.int (A.lenA rs))],
  AV.bool true,none):=by kernel_rfl
def Zs2(ms ks rs:List AV):AFrame:={ fn:=136,N:=31,env:=[(0,AV.agg (Row.gen [.list (Row.big .str ms), .list (Row.big (.agg [.str, .int .i64]) ks), .list (Row.big (.agg [.str, .int .i64, .int .i64, .int .i64, .int .i64]) rs)]))],todo:=[.code a136.code],defs:=[],rnd:=none,ret:=false,res:=[ARes.cell 2 true 2,ARes.tmp 3] }
def ZA2(ms ks rs:List AV):List AFrame:=[(Zs2 ms ks rs)]
theorem ZqX(ms ks rs:List AV):Zar tab 136 [AV.agg (Row.gen [.list (Row.big .str ms), .list (Row.big (.agg [.str, .int .i64]) ks), .list (Row.big (.agg [.str, .int .i64, .int .i64, .int .i64, .int .i64]) rs)])]=some (Zs2 ms ks rs):=rfl
def ZbF(ms ks rs:List AV)(n0 n1 n2 n3 n4:Int)(x5:List AV):List AFrame:=[{ fn:=159,N:=83,env:=[(0,AV.ptr 136005 0 0 0),(1,AV.int .i64 1),(5,AV.fn 160 [AV.ptr 136002 0 0 0]),(6,AV.fn 161 []),(15,AV.mp 159045 0),(45,AV.int .i64 n0),(46,AV.int .i64 n4)],todo:=.code (ACode.gh [] ZmE)::ZoM,defs:=[],rnd:=none,ret:=false,res:=[] },{ fn:=136,N:=31,env:=[(1,AV.ptr 136002 0 0 0),(2,AV.ptr 136003 0 0 0),(4,AV.ptr 136005 0 0 0),(5,AV.ptr 136006 0 0 0),(6,AV.ptr 136007 0 0 0),(7,AV.ptr 136008 0 0 0),(14,AV.int .i64 n1),(15,AV.fn 160 [AV.ptr 136002 0 0 0])],todo:=[AItem.inReg [oN 16 (OpK.icall 159 [Opd.t 4,cI 1,Opd.t 14,cI 1,cI 6,Opd.t 15,Opd.c (AV.fn 161 [])])], .code (ACode.seq (ACode.reg none [oN 17 (OpK.load false 1 (Opd.t 7)),oN 18 (OpK.mkfn 162 [Opd.t 1]),oN 19 (OpK.mkfn 163 [Opd.t 5,Opd.t 1,Opd.t 6]),oN 20 (OpK.icall 159 [Opd.t 4,cI 2,Opd.t 17,cI 1,cI 8,Opd.t 18,Opd.t 19])]) (ACode.seq (ACode.reg none [oN 21 (OpK.faddr 2 (Opd.t 1)),oN 22 (OpK.load false 1 (Opd.t 21)),oN 23 (OpK.len (Opd.t 22)),oN 24 (OpK.mkfn 164 [Opd.t 1]),oN 25 (OpK.mkfn 165 [Opd.t 1,Opd.t 7,Opd.t 5,Opd.t 6]),oN 26 (OpK.icall 159 [Opd.t 4,cI 3,Opd.t 23,cI 0,cI 10,Opd.t 24,Opd.t 25])]) (ACode.gh [Ghost.keep [2,4]] (ACode.seq (ACode.reg (some [(2,4),(3,4)]) [oN 27 (OpK.faddr 0 (Opd.t 4)),oN 28 (OpK.load true 2 (Opd.t 27)),oN 29 (OpK.faddr 2 (Opd.t 4)),oN 30 (OpK.load false 1 (Opd.t 29)),{ d:=none,g:=none,k:=OpK.store 2 (Opd.t 2) (Opd.t 28) },mV 3 30]) ACode.ret))))],defs:=[],rnd:=none,ret:=false,res:=[ARes.cell 2 true 2,ARes.tmp 3] }]
def Zbw(ms ks rs:List AV)(n0 n1 n2 n3 n4:Int)(x5:List AV):Zac:=[(136002,{ base:=0,blks:=[Blk.row 26 3 (Row.gen [AV.agg (Row.gen [AV.list (Row.big .str ms),AV.list (Row.big (.agg [.str, .int .i64]) ks),AV.list (Row.big (.agg [.str, .int .i64, .int .i64, .int .i64, .int .i64]) rs)])])] }),(136003,{ base:=0,blks:=[Blk.row 195 2 (Row.gen [AV.agg (Row.gen [AV.int .i64 0,AV.int .i64 0])])] }),(136005,{ base:=0,blks:=[Blk.row 236 3 (Row.gen [AV.agg (Row.gen [AV.int .i64 0,AV.int .i64 0,AV.int .i64 0])])] }),(136006,{ base:=0,blks:=[Blk.row 237 1 (Row.gen [AV.fn 158 []])] }),(136007,{ base:=0,blks:=[Blk.row 3 1 (Row.gen [.int .i64 n2])] }),(136008,{ base:=0,blks:=[Blk.row 3 1 (Row.gen [.int .i64 n3])] }),(159045,{ base:=0,blks:=[Blk.mp x5] })]
abbrev ZfW(ms ks rs:List AV)(n0 n1 n2 n3 n4:Int)(x5:List AV):List AFrame×Zac:=(ZbF ms ks rs n0 n1 n2 n3 n4 x5,Zbw ms ks rs n0 n1 n2 n3 n4 x5)
def ZbJ(ms ks rs:List AV)(n1 n2 n3 n6:Int)(x7:List AV):List AFrame:=[{ fn:=159,N:=83,env:=[(0,AV.ptr 136005 0 0 0),(1,AV.int .i64 2),(5,AV.fn 162 [AV.ptr 136002 0 0 0]),(6,AV.fn 163 [AV.ptr 136006 0 0 0,AV.ptr 136002 0 0 0,AV.ptr 136007 0 0 0]),(15,AV.mp 159045 0),(45,AV.int .i64 n3),(46,AV.int .i64 n6)],todo:=.code (ACode.gh [] ZmE)::ZoM,defs:=[],rnd:=none,ret:=false,res:=[] },{ fn:=136,N:=31,env:=[(1,AV.ptr 136002 0 0 0),(2,AV.ptr 136003 0 0 0),(4,AV.ptr 136005 0 0 0),(5,AV.ptr 136006 0 0 0),(6,AV.ptr 136007 0 0 0),(7,AV.ptr 136008 0 0 0),(14,AV.int .i64 n1),(15,AV.fn 160 [AV.ptr 136002 0 0 0]),(16,AV.tup []),(17,AV.int .i64 n3),(18,AV.fn 162 [AV.ptr 136002 0 0 0]),(19,AV.fn 163 [AV.ptr 136006 0 0 0,AV.ptr 136002 0 0 0,AV.ptr 136007 0 0 0])],todo:=[AItem.inReg [oN 20 (OpK.icall 159 [Opd.t 4,cI 2,Opd.t 17,cI 1,cI 8,Opd.t 18,Opd.t 19])], .code (ACode.seq (ACode.reg none [oN 21 (OpK.faddr 2 (Opd.t 1)),oN 22 (OpK.load false 1 (Opd.t 21)),oN 23 (OpK.len (Opd.t 22)),oN 24 (OpK.mkfn 164 [Opd.t 1]),oN 25 (OpK.mkfn 165 [Opd.t 1,Opd.t 7,Opd.t 5,Opd.t 6]),oN 26 (OpK.icall 159 [Opd.t 4,cI 3,Opd.t 23,cI 0,cI 10,Opd.t 24,Opd.t 25])]) (ACode.gh [Ghost.keep [2,4]] (ACode.seq (ACode.reg (some [(2,4),(3,4)]) [oN 27 (OpK.faddr 0 (Opd.t 4)),oN 28 (OpK.load true 2 (Opd.t 27)),oN 29 (OpK.faddr 2 (Opd.t 4)),oN 30 (OpK.load false 1 (Opd.t 29)),{ d:=none,g:=none,k:=OpK.store 2 (Opd.t 2) (Opd.t 28) },mV 3 30]) ACode.ret)))],defs:=[],rnd:=none,ret:=false,res:=[ARes.cell 2 true 2,ARes.tmp 3] }]
def Zbs(ms ks rs:List AV)(n1 n2 n3 n6:Int)(x7:List AV):Zac:=[(136002,{ base:=0,blks:=[Blk.row 26 3 (Row.gen [AV.agg (Row.gen [AV.list (Row.big .str ms),AV.list (Row.big (.agg [.str, .int .i64]) ks),AV.list (Row.big (.agg [.str, .int .i64, .int .i64, .int .i64, .int .i64]) rs)])])] }),(136003,{ base:=0,blks:=[Blk.row 195 2 (Row.gen [AV.agg (Row.gen [AV.int .i64 0,AV.int .i64 0])])] }),(136005,{ base:=0,blks:=[Blk.row 236 3 (Row.gen [AV.agg (Row.gen [AV.int .i64 0,AV.int .i64 0,AV.int .i64 0])])] }),(136006,{ base:=0,blks:=[Blk.row 237 1 (Row.gen [AV.fn 158 []])] }),(136007,{ base:=0,blks:=[Blk.row 3 1 (Row.gen [.int .i64 n2])] }),(136008,{ base:=0,blks:=[Blk.row 3 1 (Row.gen [.int .i64 n3])] }),(159045,{ base:=0,blks:=[Blk.mp x7] })]
abbrev Zf4(ms ks rs:List AV)(n1 n2 n3 n6:Int)(x7:List AV):List AFrame×Zac:=(ZbJ ms ks rs n1 n2 n3 n6 x7,Zbs ms ks rs n1 n2 n3 n6 x7)
def Zb7(ms ks rs:List AV)(n1 n2 n3 n8 n9 n10:Int)(x11:List AV):List AFrame:=[{ fn:=159,N:=83,env:=[(0,AV.ptr 136005 0 0 0),(1,AV.int .i64 3),(5,AV.fn 164 [AV.ptr 136002 0 0 0]),(6,AV.fn 165 [AV.ptr 136002 0 0 0,AV.ptr 136008 0 0 0,AV.ptr 136006 0 0 0,AV.ptr 136007 0 0 0]),(15,AV.mp 159045 0),(45,AV.int .i64 n8),(46,AV.int .i64 n10)],todo:=.code (ACode.gh [] ZmE)::ZoM,defs:=[],rnd:=none,ret:=false,res:=[] },{ fn:=136,N:=31,env:=[(1,AV.ptr 136002 0 0 0),(2,AV.ptr 136003 0 0 0),(4,AV.ptr 136005 0 0 0),(5,AV.ptr 136006 0 0 0),(6,AV.ptr 136007 0 0 0),(7,AV.ptr 136008 0 0 0),(14,AV.int .i64 n1),(15,AV.fn 160 [AV.ptr 136002 0 0 0]),(16,AV.tup []),(17,AV.int .i64 n3),(18,AV.fn 162 [AV.ptr 136002 0 0 0]),(19,AV.fn 163 [AV.ptr 136006 0 0 0,AV.ptr 136002 0 0 0,AV.ptr 136007 0 0 0]),(20,AV.tup []),(21,AV.ptr 136002 0 0 2),(22,AV.list (Row.big (.agg [.str, .int .i64, .int .i64, .int .i64, .int .i64]) rs)),(23,AV.int .i64 n9),(24,AV.fn 164 [AV.ptr 136002 0 0 0]),(25,AV.fn 165 [AV.ptr 136002 0 0 0,AV.ptr 136008 0 0 0,AV.ptr 136006 0 0 0,AV.ptr 136007 0 0 0])],todo:=[AItem.inReg [oN 26 (OpK.icall 159 [Opd.t 4,cI 3,Opd.t 23,cI 0,cI 10,Opd.t 24,Opd.t 25])], .code (ACode.gh [Ghost.keep [2,4]] (ACode.seq (ACode.reg (some [(2,4),(3,4)]) [oN 27 (OpK.faddr 0 (Opd.t 4)),oN 28 (OpK.load true 2 (Opd.t 27)),oN 29 (OpK.faddr 2 (Opd.t 4)),oN 30 (OpK.load false 1 (Opd.t 29)),{ d:=none,g:=none,k:=OpK.store 2 (Opd.t 2) (Opd.t 28) },mV 3 30]) ACode.ret))],defs:=[],rnd:=none,ret:=false,res:=[ARes.cell 2 true 2,ARes.tmp 3] }]
def ZbP(ms ks rs:List AV)(n1 n2 n3 n8 n9 n10:Int)(x11:List AV):Zac:=[(136002,{ base:=0,blks:=[Blk.row 26 3 (Row.gen [AV.agg (Row.gen [AV.list (Row.big .str ms),AV.list (Row.big (.agg [.str, .int .i64]) ks),AV.list (Row.big (.agg [.str, .int .i64, .int .i64, .int .i64, .int .i64]) rs)])])] }),(136003,{ base:=0,blks:=[Blk.row 195 2 (Row.gen [AV.agg (Row.gen [AV.int .i64 0,AV.int .i64 0])])] }),(136005,{ base:=0,blks:=[Blk.row 236 3 (Row.gen [AV.agg (Row.gen [AV.int .i64 0,AV.int .i64 0,AV.int .i64 0])])] }),(136006,{ base:=0,blks:=[Blk.row 237 1 (Row.gen [AV.fn 158 []])] }),(136007,{ base:=0,blks:=[Blk.row 3 1 (Row.gen [.int .i64 n2])] }),(136008,{ base:=0,blks:=[Blk.row 3 1 (Row.gen [.int .i64 n3])] }),(159045,{ base:=0,blks:=[Blk.mp x11] })]
abbrev ZfN(ms ks rs:List AV)(n1 n2 n3 n8 n9 n10:Int)(x11:List AV):List AFrame×Zac:=(Zb7 ms ks rs n1 n2 n3 n8 n9 n10 x11,ZbP ms ks rs n1 n2 n3 n8 n9 n10 x11)
theorem ZCp(A:Ar)(ms ks rs:List AV):Za0 A tab B3 118 [false,true,true,true] 136 (ZA2 ms ks rs) []=
 some (tr [8,11,20,3,0,8,23] [A.not (A.eq (Zai [Zaa (A.le 1 (A.int (A.lenA ms))) 10,Zaa (A.le (A.int (A.lenA ms)) 6) 8]) 0),A.not (A.eq (Zai [Zaa (A.le 1 (A.int (A.lenA ms))) 10,Zaa (A.le (A.int (A.lenA ms)) 6) 8]) 0),A.not (A.eq (Zai [Zaa (A.le 1 (A.int (A.lenA ms))) 10,Zaa (A.le (A.int (A.lenA ms)) 6) 8]) 0),decide (List.length [Zaa (A.le 1 (A.int (A.lenA ms))) 10,Zaa (A.le (A.int (A.lenA ms)) 6) 8]≤1000000),List.all [AV.int .i64 (Zaa (A.le 1 (A.int (A.lenA ms))) 10),AV.int .i64 (Zaa (A.le (A.int (A.lenA ms)) 6) 8)] fun x=>AV.bx x&&Nat.beq (Zae A x) 1,!A.not (A.eq 0 0)],
  AV.tup [AV.agg (Row.gen [.int .i64 1, .int .i64 0]),AV.int .i64 (Zai [Zaa (A.le 1 (A.int (A.lenA ms))) 10,Zaa (A.le (A.int (A.lenA ms)) 6) 8])],none):=by kernel_rfl
theorem ZyH(A:Ar)(ms ks rs:List AV):ZaC A tab B3 70 [false,false] (ZA2 ms ks rs) []=
 some (tr [4,3,0,8,23] [!A.not (A.eq (Zai [Zaa (A.le 1 (A.int (A.lenA ms))) 10,Zaa (A.le (A.int (A.lenA ms)) 6) 8]) 0),decide (List.length [Zaa (A.le 1 (A.int (A.lenA ms))) 10,Zaa (A.le (A.int (A.lenA ms)) 6) 8]≤1000000),List.all [AV.int .i64 (Zaa (A.le 1 (A.int (A.lenA ms))) 10),AV.int .i64 (Zaa (A.le (A.int (A.lenA ms)) 6) 8)] fun x=>AV.bx x&&Nat.beq (Zae A x) 1,!A.not (A.eq 0 0)],
  ZfW (ms) (ks) (rs) (A.int (A.lenA ms)) (A.int (A.lenA ms)) (A.int (A.lenA ms)) (A.int (A.lenA ks)) (0) ([])):=by kernel_rfl
theorem ZAe(A:Ar)(ms ks rs:List AV)(n0 n1 n2 n3 n4:Int)(x5:List AV):Za0 A tab B3 107 [true,true,true,true] 136 (ZbF ms ks rs n0 n1 n2 n3 n4 x5) (Zbw ms ks rs n0 n1 n2 n3 n4 x5)=
 some (tr [8,11,21,3,0,6,4,0,4,1] [A.not (A.eq (Zai [Zaa (ZaU (Za8 ms n4)) 4,Zaa (A.not (A.hasS x5 (Za8 ms n4))) 5,0]) 0),A.not (A.eq (Zai [Zaa (ZaU (Za8 ms n4)) 4,Zaa (A.not (A.hasS x5 (Za8 ms n4))) 5,0]) 0),A.not (A.eq (Zai [Zaa (ZaU (Za8 ms n4)) 4,Zaa (A.not (A.hasS x5 (Za8 ms n4))) 5,0]) 0),decide (List.length [Zaa (ZaU (Za8 ms n4)) 4,Zaa (A.not (A.hasS x5 (Za8 ms n4))) 5,0]≤1000000),List.all [AV.int .i64 (Zaa (ZaU (Za8 ms n4)) 4),AV.int .i64 (Zaa (A.not (A.hasS x5 (Za8 ms n4))) 5),AV.int .i64 0] fun x=>AV.bx x&&Nat.beq (Zae A x) 1,decide (0≤n4∧n4< ↑(List.length ms)),decide (List.length (Za8 ms n4)≤1000000),decide (0≤n4∧n4< ↑(List.length ms)),A.lt n4 n0],
  AV.tup [AV.agg (Row.gen [.int .i64 1, .int .i64 n4]),AV.int .i64 (Zai [Zaa (ZaU (Za8 ms n4)) 4,Zaa (A.not (A.hasS x5 (Za8 ms n4))) 5,0])],none):=by kernel_rfl
theorem ZzD(A:Ar)(ms ks rs:List AV)(n0 n1 n2 n3 n4:Int)(x5:List AV):ZaC A tab B3 59 [true,false] (ZbF ms ks rs n0 n1 n2 n3 n4 x5) (Zbw ms ks rs n0 n1 n2 n3 n4 x5)=
 some (tr [1,0,0,3,3,0,6,4,0,4,1] [A.inR .i64 (A.add n4 1),A.not (A.hasS x5 (Za8 ms n4)),decide (0≤n4∧n4< ↑(List.length ms)),!A.not (A.eq (Zai [Zaa (ZaU (Za8 ms n4)) 4,Zaa (A.not (A.hasS x5 (Za8 ms n4))) 5,0]) 0),decide (List.length [Zaa (ZaU (Za8 ms n4)) 4,Zaa (A.not (A.hasS x5 (Za8 ms n4))) 5,0]≤1000000),List.all [AV.int .i64 (Zaa (ZaU (Za8 ms n4)) 4),AV.int .i64 (Zaa (A.not (A.hasS x5 (Za8 ms n4))) 5),AV.int .i64 0] fun x=>AV.bx x&&Nat.beq (Zae A x) 1,decide (0≤n4∧n4< ↑(List.length ms)),decide (List.length (Za8 ms n4)≤1000000),decide (0≤n4∧n4< ↑(List.length ms)),A.lt n4 n0],
  ZfW (ms) (ks) (rs) (n0) (n1) (n2) (n3) (A.add n4 1) (A.appA x5 [AV.str (Za8 ms n4)])):=by kernel_rfl
theorem ZAB(A:Ar)(ms ks rs:List AV)(n0 n1 n2 n3 n4:Int)(x5:List AV):Za0 A tab B3 93 [false,false,true,true] 136 (ZbF ms ks rs n0 n1 n2 n3 n4 x5) (Zbw ms ks rs n0 n1 n2 n3 n4 x5)=
 some (tr [8,22,3,0,8,9,1] [A.not (A.eq (Zai [Zaa (A.le 1 n3) 10,Zaa (A.le n3 8) 8]) 0),A.not (A.eq (Zai [Zaa (A.le 1 n3) 10,Zaa (A.le n3 8) 8]) 0),decide (List.length [Zaa (A.le 1 n3) 10,Zaa (A.le n3 8) 8]≤1000000),List.all [AV.int .i64 (Zaa (A.le 1 n3) 10),AV.int .i64 (Zaa (A.le n3 8) 8)] fun x=>AV.bx x&&Nat.beq (Zae A x) 1,!A.not (A.eq 0 0),!A.lt n4 n0],
  AV.tup [AV.agg (Row.gen [.int .i64 2, .int .i64 0]),AV.int .i64 (Zai [Zaa (A.le 1 n3) 10,Zaa (A.le n3 8) 8])],none):=by kernel_rfl
theorem Zzh(A:Ar)(ms ks rs:List AV)(n0 n1 n2 n3 n4:Int)(x5:List AV):ZaC A tab B3 64 [false,false,false] (ZbF ms ks rs n0 n1 n2 n3 n4 x5) (Zbw ms ks rs n0 n1 n2 n3 n4 x5)=
 some (tr [4,3,0,8,9,1] [!A.not (A.eq (Zai [Zaa (A.le 1 n3) 10,Zaa (A.le n3 8) 8]) 0),decide (List.length [Zaa (A.le 1 n3) 10,Zaa (A.le n3 8) 8]≤1000000),List.all [AV.int .i64 (Zaa (A.le 1 n3) 10),AV.int .i64 (Zaa (A.le n3 8) 8)] fun x=>AV.bx x&&Nat.beq (Zae A x) 1,!A.not (A.eq 0 0),!A.lt n4 n0],
  Zf4 (ms) (ks) (rs) (n1) (n2) (n3) (0) ([])):=by kernel_rfl
theorem ZCa(A:Ar)(ms ks rs:List AV)(n1 n2 n3 n6:Int)(x7:List AV):Za0 A tab B3 88 [true,true,true] 136 (ZbJ ms ks rs n1 n2 n3 n6 x7) (Zbs ms ks rs n1 n2 n3 n6 x7)=
 some (tr [8,23,3,0,0,5,4,0,4,1] [A.not (A.eq (Zai [Zaa (ZaU (Zay ks n6)) 4,Zaa (A.not (A.hasS x7 (Zay ks n6))) 5,Zc0 ks n6 n2]) 0),A.not (A.eq (Zai [Zaa (ZaU (Zay ks n6)) 4,Zaa (A.not (A.hasS x7 (Zay ks n6))) 5,Zc0 ks n6 n2]) 0),decide (List.length [Zaa (ZaU (Zay ks n6)) 4,Zaa (A.not (A.hasS x7 (Zay ks n6))) 5,Zc0 ks n6 n2]≤1000000),List.all [AV.int .i64 (Zaa (ZaU (Zay ks n6)) 4),AV.int .i64 (Zaa (A.not (A.hasS x7 (Zay ks n6))) 5),AV.int .i64 (Zc0 ks n6 n2)] fun x=>AV.bx x&&Nat.beq (Zae A x) 1,decide ((0≤n6∧n6< ↑(List.length ks))∧ -1000000≤n2∧n2≤1000000),decide (0≤n6∧n6< ↑(List.length ks)),decide (List.length (Zay ks n6)≤1000000),decide (0≤n6∧n6< ↑(List.length ks)),A.lt n6 n3],
  AV.tup [AV.agg (Row.gen [.int .i64 2, .int .i64 n6]),AV.int .i64 (Zai [Zaa (ZaU (Zay ks n6)) 4,Zaa (A.not (A.hasS x7 (Zay ks n6))) 5,Zc0 ks n6 n2])],none):=by kernel_rfl
theorem Zzk(A:Ar)(ms ks rs:List AV)(n1 n2 n3 n6:Int)(x7:List AV):ZaC A tab B3 59 [true,false] (ZbJ ms ks rs n1 n2 n3 n6 x7) (Zbs ms ks rs n1 n2 n3 n6 x7)=
 some (tr [1,0,0,3,3,0,0,5,4,0,4,1] [A.inR .i64 (A.add n6 1),A.not (A.hasS x7 (Zay ks n6)),decide (0≤n6∧n6< ↑(List.length ks)),!A.not (A.eq (Zai [Zaa (ZaU (Zay ks n6)) 4,Zaa (A.not (A.hasS x7 (Zay ks n6))) 5,Zc0 ks n6 n2]) 0),decide (List.length [Zaa (ZaU (Zay ks n6)) 4,Zaa (A.not (A.hasS x7 (Zay ks n6))) 5,Zc0 ks n6 n2]≤1000000),List.all [AV.int .i64 (Zaa (ZaU (Zay ks n6)) 4),AV.int .i64 (Zaa (A.not (A.hasS x7 (Zay ks n6))) 5),AV.int .i64 (Zc0 ks n6 n2)] fun x=>AV.bx x&&Nat.beq (Zae A x) 1,decide ((0≤n6∧n6< ↑(List.length ks))∧ -1000000≤n2∧n2≤1000000),decide (0≤n6∧n6< ↑(List.length ks)),decide (List.length (Zay ks n6)≤1000000),decide (0≤n6∧n6< ↑(List.length ks)),A.lt n6 n3],
  Zf4 (ms) (ks) (rs) (n1) (n2) (n3) (A.add n6 1) (A.appA x7 [AV.str (Zay ks n6)])):=by kernel_rfl
theorem Zyo(A:Ar)(ms ks rs:List AV)(n1 n2 n3 n6:Int)(x7:List AV):Za0 A tab B3 74 [false,false,true] 136 (ZbJ ms ks rs n1 n2 n3 n6 x7) (Zbs ms ks rs n1 n2 n3 n6 x7)=
 some (tr [19,3,0,8,11,1] [A.not (A.eq (Zai [Zaa (A.le 0 (A.int (A.lenA rs))) 10,Zaa (A.le (A.int (A.lenA rs)) 10) 8]) 0),decide (List.length [Zaa (A.le 0 (A.int (A.lenA rs))) 10,Zaa (A.le (A.int (A.lenA rs)) 10) 8]≤1000000),List.all [AV.int .i64 (Zaa (A.le 0 (A.int (A.lenA rs))) 10),AV.int .i64 (Zaa (A.le (A.int (A.lenA rs)) 10) 8)] fun x=>AV.bx x&&Nat.beq (Zae A x) 1,!A.not (A.eq 0 0),!A.lt n6 n3],
  AV.tup [AV.agg (Row.gen [.int .i64 3, .int .i64 0]),AV.int .i64 (Zai [Zaa (A.le 0 (A.int (A.lenA rs))) 10,Zaa (A.le (A.int (A.lenA rs)) 10) 8])],none):=by kernel_rfl
theorem Zyh(A:Ar)(ms ks rs:List AV)(n1 n2 n3 n6:Int)(x7:List AV):ZaC A tab B3 66 [false,false,false] (ZbJ ms ks rs n1 n2 n3 n6 x7) (Zbs ms ks rs n1 n2 n3 n6 x7)=
 some (tr [4,3,0,8,11,1] [!A.not (A.eq (Zai [Zaa (A.le 0 (A.int (A.lenA rs))) 10,Zaa (A.le (A.int (A.lenA rs)) 10) 8]) 0),decide (List.length [Zaa (A.le 0 (A.int (A.lenA rs))) 10,Zaa (A.le (A.int (A.lenA rs)) 10) 8]≤1000000),List.all [AV.int .i64 (Zaa (A.le 0 (A.int (A.lenA rs))) 10),AV.int .i64 (Zaa (A.le (A.int (A.lenA rs)) 10) 8)] fun x=>AV.bx x&&Nat.beq (Zae A x) 1,!A.not (A.eq 0 0),!A.lt n6 n3],
  ZfN (ms) (ks) (rs) (n1) (n2) (n3) (A.int (A.lenA rs)) (A.int (A.lenA rs)) (0) ([])):=by kernel_rfl
theorem Zt9(A:Ar)(ms ks rs:List AV)(n1 n2 n3 n8 n9 n10:Int)(x11:List AV):Za0 A tab B3 67 [true,true] 136 (Zb7 ms ks rs n1 n2 n3 n8 n9 n10 x11) (ZbP ms ks rs n1 n2 n3 n8 n9 n10 x11)=
 some (tr [20,3,0,0,5,4,0,4,1] [A.not (A.eq (Zai [Zaa (ZaU (Zay rs n10)) 4,Zaa (A.not (A.hasS x11 (Zay rs n10))) 5,ZbT rs n10 n3 n2]) 0),decide (List.length [Zaa (ZaU (Zay rs n10)) 4,Zaa (A.not (A.hasS x11 (Zay rs n10))) 5,ZbT rs n10 n3 n2]≤1000000),List.all [AV.int .i64 (Zaa (ZaU (Zay rs n10)) 4),AV.int .i64 (Zaa (A.not (A.hasS x11 (Zay rs n10))) 5),AV.int .i64 (ZbT rs n10 n3 n2)] fun x=>AV.bx x&&Nat.beq (Zae A x) 1,decide ((0≤n10∧n10< ↑(List.length rs))∧(-1000000≤n3∧n3≤1000000)∧ -1000000≤n2∧n2≤1000000),decide (0≤n10∧n10< ↑(List.length rs)),decide (List.length (Zay rs n10)≤1000000),decide (0≤n10∧n10< ↑(List.length rs)),A.lt n10 n8],
  AV.tup [AV.agg (Row.gen [.int .i64 3, .int .i64 n10]),AV.int .i64 (Zai [Zaa (ZaU (Zay rs n10)) 4,Zaa (A.not (A.hasS x11 (Zay rs n10))) 5,ZbT rs n10 n3 n2])],none):=by kernel_rfl
theorem Zvz(A:Ar)(ms ks rs:List AV)(n1 n2 n3 n8 n9 n10:Int)(x11:List AV):ZaC A tab B3 59 [true,false] (Zb7 ms ks rs n1 n2 n3 n8 n9 n10 x11) (ZbP ms ks rs n1 n2 n3 n8 n9 n10 x11)=
 some (tr [1,0,0,3,3,0,0,5,4,0,4,1] [A.inR .i64 (A.add n10 1),A.not (A.hasS x11 (Zay rs n10)),decide (0≤n10∧n10< ↑(List.length rs)),!A.not (A.eq (Zai [Zaa (ZaU (Zay rs n10)) 4,Zaa (A.not (A.hasS x11 (Zay rs n10))) 5,ZbT rs n10 n3 n2]) 0),decide (List.length [Zaa (ZaU (Zay rs n10)) 4,Zaa (A.not (A.hasS x11 (Zay rs n10))) 5,ZbT rs n10 n3 n2]≤1000000),List.all [AV.int .i64 (Zaa (ZaU (Zay rs n10)) 4),AV.int .i64 (Zaa (A.not (A.hasS x11 (Zay rs n10))) 5),AV.int .i64 (ZbT rs n10 n3 n2)] fun x=>AV.bx x&&Nat.beq (Zae A x) 1,decide ((0≤n10∧n10< ↑(List.length rs))∧(-1000000≤n3∧n3≤1000000)∧ -1000000≤n2∧n2≤1000000),decide (0≤n10∧n10< ↑(List.length rs)),decide (List.length (Zay rs n10)≤1000000),decide (0≤n10∧n10< ↑(List.length rs)),A.lt n10 n8],
  ZfN (ms) (ks) (rs) (n1) (n2) (n3) (n8) (n9) (A.add n10 1) (A.appA x11 [AV.str (Zay rs n10)])):=by kernel_rfl
theorem ZwT(A:Ar)(ms ks rs:List AV)(n1 n2 n3 n8 n9 n10:Int)(x11:List AV):Za0 A tab B3 15 [false] 136 (Zb7 ms ks rs n1 n2 n3 n8 n9 n10 x11) (ZbP ms ks rs n1 n2 n3 n8 n9 n10 x11)=
 some (tr [8,1] [!A.lt n10 n8],
  AV.tup [AV.agg (Row.gen [.int .i64 0, .int .i64 0]),AV.int .i64 0],none):=by kernel_rfl
def ZxI(ms ks rs l:List AV):AFrame:={ fn:=76,N:=64,env:=[(0,AV.agg (Row.gen [.list (Row.big .str ms), .list (Row.big (.agg [.str, .int .i64]) ks), .list (Row.big (.agg [.str, .int .i64, .int .i64, .int .i64, .int .i64]) rs)])),(1,AV.list (Row.big (.agg [.int .i64, .int .i64, .int .i64]) l))],todo:=[.code a76.code],defs:=[],rnd:=none,ret:=false,res:=[ARes.tmp 4,ARes.tmp 5] }
def ZE3(ms ks rs l:List AV):List AFrame:=[(ZxI ms ks rs l)]
theorem Zvm(ms ks rs l:List AV):Zar tab 76 [AV.agg (Row.gen [.list (Row.big .str ms), .list (Row.big (.agg [.str, .int .i64]) ks), .list (Row.big (.agg [.str, .int .i64, .int .i64, .int .i64, .int .i64]) rs)]),AV.list (Row.big (.agg [.int .i64, .int .i64, .int .i64]) l)]=some (ZxI ms ks rs l):=rfl
def ZbS(ms ks rs l:List AV)(n0:Int):List AFrame:=[{ fn:=76,N:=64,env:=[(1,AV.list (Row.big (.agg [.int .i64, .int .i64, .int .i64]) l)),(2,AV.ptr 76003 0 0 0),(6,AV.int .i64 n0)],todo:=.code (ACode.gh [] Zyc)::ZDF,defs:=[],rnd:=none,ret:=false,res:=[ARes.tmp 4,ARes.tmp 5] }]
def Zbv(ms ks rs l:List AV)(n0:Int):Zac:=[(76003,{ base:=0,blks:=[Blk.row 26 3 (Row.gen [AV.agg (Row.gen [AV.list (Row.big .str ms),AV.list (Row.big (.agg [.str, .int .i64]) ks),AV.list (Row.big (.agg [.str, .int .i64, .int .i64, .int .i64, .int .i64]) rs)])])] })]
abbrev Zig(ms ks rs l:List AV)(n0:Int):List AFrame×Zac:=(ZbS ms ks rs l n0,Zbv ms ks rs l n0)
theorem ZFo(A:Ar)(ms ks rs l:List AV):Za0 A tab B3 20 [true] 76 (ZE3 ms ks rs l) []=
 some (tr [3,6] [A.eq (A.int (A.lenA l)) 0],
  AV.tup [AV.int .i64 0,AV.int .i64 10],none):=by kernel_rfl
theorem ZDt(A:Ar)(ms ks rs l:List AV):Za0 A tab B3 29 [false,true] 76 (ZE3 ms ks rs l) []=
 some (tr [3,3,6] [A.lt 12 (A.int (A.lenA l)),!A.eq (A.int (A.lenA l)) 0],
  AV.tup [AV.int .i64 0,AV.int .i64 8],none):=by kernel_rfl
theorem ZEl(A:Ar)(ms ks rs l:List AV):ZaC A tab B3 32 [false,false] (ZE3 ms ks rs l) []=
 some (tr [1,3,6] [!A.lt 12 (A.int (A.lenA l)),!A.eq (A.int (A.lenA l)) 0],
  Zig (ms) (ks) (rs) (l) (0)):=by kernel_rfl
theorem ZEK(A:Ar)(ms ks rs l:List AV)(n0:Int):Za0 A tab B3 25 [true,true] 76 (ZbS ms ks rs l n0) (Zbv ms ks rs l n0)=
 some (tr [4,2,5,2,4] [A.not (Zab ((A.nthA l (A.nat n0)).cellAt 0).toI 0 (A.sub (A.int (A.lenA ks)) 1)),A.inR .i64 (A.sub (A.int (A.lenA ks)) 1),Zag (Zag (A.le 0 n0) (Nat.blt (A.nat n0) (A.lenA l))) true,A.lt n0 (A.int (A.lenA l))],
  AV.tup [AV.int .i64 n0,AV.int .i64 15],none):=by kernel_rfl
theorem ZEB(A:Ar)(ms ks rs l:List AV)(n0:Int):Za0 A tab B3 50 [true,false,true,true,true,true,true,true,true,true,true,true] 76 (ZbS ms ks rs l n0) (Zbv ms ks rs l n0)=
 some (tr [22,6,2,2,5,2,4] [A.not (Zab ((A.nthA l (A.nat n0)).cellAt 1).toI 0 1000000000000),Zag (Zag (A.le 0 n0) (Nat.blt (A.nat n0) (A.lenA l))) true,!A.not (Zab ((A.nthA l (A.nat n0)).cellAt 0).toI 0 (A.sub (A.int (A.lenA ks)) 1)),A.inR .i64 (A.sub (A.int (A.lenA ks)) 1),Zag (Zag (A.le 0 n0) (Nat.blt (A.nat n0) (A.lenA l))) true,A.lt n0 (A.int (A.lenA l))],
  AV.tup [AV.int .i64 n0,AV.int .i64 2],none):=by kernel_rfl
theorem ZDN(A:Ar)(ms ks rs l:List AV)(n0:Int):Za0 A tab B3 50 [true,false,false,false,false,false,false,false,false,false,false,true] 76 (ZbS ms ks rs l n0) (Zbv ms ks rs l n0)=
 some (tr [4,12,4,6,2,2,5,2,4] [A.not (Zab ((A.nthA l (A.nat n0)).cellAt 2).toI 0 1000000000000),Zag (Zag (A.le 0 n0) (Nat.blt (A.nat n0) (A.lenA l))) true,!A.not (Zab ((A.nthA l (A.nat n0)).cellAt 1).toI 0 1000000000000),Zag (Zag (A.le 0 n0) (Nat.blt (A.nat n0) (A.lenA l))) true,!A.not (Zab ((A.nthA l (A.nat n0)).cellAt 0).toI 0 (A.sub (A.int (A.lenA ks)) 1)),A.inR .i64 (A.sub (A.int (A.lenA ks)) 1),Zag (Zag (A.le 0 n0) (Nat.blt (A.nat n0) (A.lenA l))) true,A.lt n0 (A.int (A.lenA l))],
  AV.tup [AV.int .i64 n0,AV.int .i64 2],none):=by kernel_rfl
theorem ZFM(A:Ar)(ms ks rs l:List AV)(n0:Int):Za0 A tab B3 55 [true,false,false,false,false,false,false,false,false,false,false,false,true] 76 (ZbS ms ks rs l n0) (Zbv ms ks rs l n0)=
 some (tr [4,4,5,2,12,4,6,2,2,5,2,4] [A.lt ((A.nthA l (A.nat n0)).cellAt 2).toI ((A.nthA l (A.nat n0)).cellAt 1).toI,Zag (Zag (A.le 0 n0) (Nat.blt (A.nat n0) (A.lenA l))) true,Zag (Zag (A.le 0 n0) (Nat.blt (A.nat n0) (A.lenA l))) true,!A.not (Zab ((A.nthA l (A.nat n0)).cellAt 2).toI 0 1000000000000),Zag (Zag (A.le 0 n0) (Nat.blt (A.nat n0) (A.lenA l))) true,!A.not (Zab ((A.nthA l (A.nat n0)).cellAt 1).toI 0 1000000000000),Zag (Zag (A.le 0 n0) (Nat.blt (A.nat n0) (A.lenA l))) true,!A.not (Zab ((A.nthA l (A.nat n0)).cellAt 0).toI 0 (A.sub (A.int (A.lenA ks)) 1)),A.inR .i64 (A.sub (A.int (A.lenA ks)) 1),Zag (Zag (A.le 0 n0) (Nat.blt (A.nat n0) (A.lenA l))) true,A.lt n0 (A.int (A.lenA l))],
  AV.tup [AV.int .i64 n0,AV.int .i64 9],none):=by kernel_rfl
theorem ZED(A:Ar)(ms ks rs l:List AV)(n0:Int):ZaC A tab B3 57 [true,false,false,false,false,false,false,false,false,false,false,false,false] (ZbS ms ks rs l n0) (Zbv ms ks rs l n0)=
 some (tr [1,1,4,5,2,12,4,6,2,2,5,2,4] [A.inR .i64 (A.add n0 1),!A.lt ((A.nthA l (A.nat n0)).cellAt 2).toI ((A.nthA l (A.nat n0)).cellAt 1).toI,Zag (Zag (A.le 0 n0) (Nat.blt (A.nat n0) (A.lenA l))) true,Zag (Zag (A.le 0 n0) (Nat.blt (A.nat n0) (A.lenA l))) true,!A.not (Zab ((A.nthA l (A.nat n0)).cellAt 2).toI 0 1000000000000),Zag (Zag (A.le 0 n0) (Nat.blt (A.nat n0) (A.lenA l))) true,!A.not (Zab ((A.nthA l (A.nat n0)).cellAt 1).toI 0 1000000000000),Zag (Zag (A.le 0 n0) (Nat.blt (A.nat n0) (A.lenA l))) true,!A.not (Zab ((A.nthA l (A.nat n0)).cellAt 0).toI 0 (A.sub (A.int (A.lenA ks)) 1)),A.inR .i64 (A.sub (A.int (A.lenA ks)) 1),Zag (Zag (A.le 0 n0) (Nat.blt (A.nat n0) (A.lenA l))) true,A.lt n0 (A.int (A.lenA l))],
  Zig (ms) (ks) (rs) (l) (A.add n0 1)):=by kernel_rfl
theorem ZEh(A:Ar)(ms ks rs l:List AV)(n0:Int):Za0 A tab B3 17 [false] 76 (ZbS ms ks rs l n0) (Zbv ms ks rs l n0)=
 some (tr [3,4] [!A.lt n0 (A.int (A.lenA l))],
  AV.tup [AV.int .i64 0,AV.int .i64 0],none):=by kernel_rfl
end Go.Proofs.YtkeoeooghhjibaaGreatDoor
/- CheckModel of the program. No condition. -/
namespace Go.Proofs.YtkeoeooghhjibaaGreatDoor
def Zbk(p i e:Int):AV:=.tup [.agg (.gen [.int .i64 p, .int .i64 i]), .int .i64 e]
def Zcz(nm:List UInt8)(ex:Int)(xs:List AV):Int:=Zai [Zaa (ZaU nm) 4,Zaa (!std.hasS xs nm) 5,ex]
def Zcg(a b:Bool):Int:=Zai [Zaa a 10,Zaa b 8]
def Zbl(nm:Nat→List UInt8)(ex:Nat→Int):Nat→Nat→List AV→Option (Nat×Int)
 |0,_,_=>none
 |m+1,k,xs=>if Zcz (nm k) (ex k) xs=0 then Zbl nm ex m (k+1) (xs++[.str (nm k)])else some (k,Zcz (nm k) (ex k) xs)
def ZbB(p:Int)(o:Option (Nat×Int))(d:AV):AV:=match o with |some (k,e)=>Zbk p k e |none=>d
def ZoB(ms ks rs:List AV):AV:=ZbB 3 (Zbl (fun k=>Zay rs k) (fun k=>ZbT rs k ks.length ms.length) rs.length 0 []) (Zbk 0 0 0)
def ZnK(ms ks rs:List AV):AV:=ZbB 2 (Zbl (fun k=>Zay ks k) (fun k=>Zc0 ks k ms.length) ks.length 0 []) (if Zcg (decide (0≤(rs.length:Int))) (decide ((rs.length:Int)≤10))=0 then ZoB ms ks rs else Zbk 3 0 (Zcg (decide (0≤(rs.length:Int))) (decide ((rs.length:Int)≤10))))
def Zr1(ms ks rs:List AV):AV:=ZbB 1 (Zbl (fun k=>Za8 ms k) (fun _=>0) ms.length 0 []) (if Zcg (decide (1≤(ks.length:Int))) (decide ((ks.length:Int)≤8))=0 then ZnK ms ks rs else Zbk 2 0 (Zcg (decide (1≤(ks.length:Int))) (decide ((ks.length:Int)≤8))))
def Zec(ms ks rs:List AV):AV:=if Zcg (decide (1≤(ms.length:Int))) (decide ((ms.length:Int)≤6))=0 then Zr1 ms ks rs else Zbk 1 0 (Zcg (decide (1≤(ms.length:Int))) (decide ((ms.length:Int)≤6)))
def ZaA(ms ks rs:List AV):Bool:=(ms.all fun x=>decide (x.toS.length≤1000000))&&(ks.all fun x=>decide ((x.cellAt 0).toS.length≤1000000))&&(rs.all fun x=>decide ((x.cellAt 0).toS.length≤1000000))&&decide (ms.length≤1000000∧ks.length≤1000000∧rs.length≤1000000)
theorem Zpo{xs:List AV}{k:Nat}(h:k<xs.length):xs.getD k .top∈xs:=by
 rw[List.getD_eq_getElem?_getD,List.getElem?_eq_getElem h];exact List.getElem_mem h
theorem Zb1{ks:List AV}(h:(ks.all fun x=>decide ((x.cellAt 0).toS.length≤1000000))=true){k:Nat}(hk:k<ks.length):(Zay ks k).length≤1000000:=by
 have:=List.all_eq_true.1 h _ (Zpo hk)
 simpa[Zay]using this
theorem Zit{ks:List AV}(h:(ks.all fun x=>decide (x.toS.length≤1000000))=true){k:Nat}(hk:k<ks.length):(Za8 ks k).length≤1000000:=by
 have:=List.all_eq_true.1 h _ (Zpo hk)
 simpa[Za8]using this
theorem ZsO{a b c:Int}(h:Zai [a,b,c]=0):a=0∧b=0∧c=0:=by
 simp only[Zai]at h
 by_cases h1:a=0
 ·by_cases h2:b=0
  ·by_cases h3:c=0
   ·exact⟨h1,h2,h3⟩
   ·simp[h1,h2,h3]at h
  ·simp[h1,h2]at h
 ·simp[h1]at h
theorem Zjp{nm:List UInt8}{ex:Int}{xs:List AV}(h:Zcz nm ex xs=0):std.hasS xs nm=false:=by
 have:=(ZsO h).2.1
 unfold Zaa at this
 split at this
 ·rename_i e;simpa using e
 ·cases this
theorem bx3(x y z:Int):([AV.int .i64 x,AV.int .i64 y,AV.int .i64 z].all fun x=>AV.bx x&&Nat.beq (Zae std x) 1)=true:=rfl
theorem bx2(x y:Int):([AV.int .i64 x,AV.int .i64 y].all fun x=>AV.bx x&&Nat.beq (Zae std x) 1)=true:=rfl
section
variable {C:Ctx}(hC:C.P=Tryz.prog)(ms ks rs:List AV)(hs:ZaA ms ks rs=true)
include hC hs
theorem ZCE(n1:Int):∀(m k:Nat) (xs:List AV),k+m=rs.length→Ev C (Zb7 ms ks rs n1 ms.length ks.length rs.length rs.length k xs) (ZbP ms ks rs n1 ms.length ks.length rs.length rs.length k xs)
 (ZcD 136 (ZbB 3 (Zbl (fun k=>Zay rs k) (fun k=>ZbT rs k ks.length ms.length) m k xs) (Zbk 0 0 0)) none)
 |0,k,xs,hk=>fin hC Za6 (ZwT std ms ks rs n1 ms.length ks.length rs.length rs.length k xs) (by simp;omega) rfl rfl
 |m+1,k,xs,hk=>by
  simp only[ZaA,Bool.and_eq_true,decide_eq_true_eq]at hs
  have hn:=Zb1 hs.1.2 (show k<rs.length by omega)
  by_cases h:Zcz (Zay rs k) (ZbT rs k ks.length ms.length) xs=0
  ·have hnew:=Zjp h
   have h':=h
   unfold Zcz at h'
   refine go hC Za6 (Zvz std ms ks rs n1 ms.length ks.length rs.length rs.length k xs) (by simp only[bx3];simp[-Zdn,hnew,hn];simp[-Zdn,hnew]at h';simp[h'];omega) ?_
   have:=ZCE n1 m (k+1) (xs++[.str (Zay rs k)]) (by omega)
   rw[Zbl,if_pos h]
   exact this
  ·have h':=h
   unfold Zcz at h'
   rw[Zbl,if_neg h]
   exact fin hC Za6 (Zt9 std ms ks rs n1 ms.length ks.length rs.length rs.length k xs) (by simp only[bx3];simp[-Zdn,hn,h'];omega) rfl rfl
theorem Zz3(n1:Int):∀(m k:Nat) (xs:List AV),k+m=ks.length→Ev C (ZbJ ms ks rs n1 ms.length ks.length k xs) (Zbs ms ks rs n1 ms.length ks.length k xs)
 (ZcD 136 (ZbB 2 (Zbl (fun k=>Zay ks k) (fun k=>Zc0 ks k ms.length) m k xs) (if Zcg (decide (0≤(rs.length:Int))) (decide ((rs.length:Int)≤10))=0 then ZoB ms ks rs else Zbk 3 0 (Zcg (decide (0≤(rs.length:Int))) (decide ((rs.length:Int)≤10))))) none)
 |0,k,xs,hk=>by
  by_cases h:Zcg (decide (0≤(rs.length:Int))) (decide ((rs.length:Int)≤10))=0
  ·have h':=h
   unfold Zcg at h'
   rw[if_pos h]
   refine go hC Za6 (Zyh std ms ks rs n1 ms.length ks.length k xs) (by simp only[bx2,Zsq,Zkp,ZcR,h'];simp;omega) ?_
   exact ZCE hC ms ks rs hs n1 rs.length 0 [] (by omega)
  ·have h':=h
   unfold Zcg at h'
   rw[if_neg h]
   exact fin hC Za6 (Zyo std ms ks rs n1 ms.length ks.length k xs) (by simp only[bx2,ZDe,Zsq,Zkp,ZcR,h'];simp;omega) rfl rfl
 |m+1,k,xs,hk=>by
  have hs':=hs
  simp only[ZaA,Bool.and_eq_true,decide_eq_true_eq]at hs'
  have hn:=Zb1 hs'.1.1.2 (show k<ks.length by omega)
  by_cases h:Zcz (Zay ks k) (Zc0 ks k ms.length) xs=0
  ·have hnew:=Zjp h
   have h':=h
   unfold Zcz at h'
   refine go hC Za6 (Zzk std ms ks rs n1 ms.length ks.length k xs) (by simp only[bx3];simp[-Zdn,hnew,hn];simp[-Zdn,hnew]at h';simp[h'];omega) ?_
   have:=Zz3 n1 m (k+1) (xs++[.str (Zay ks k)]) (by omega)
   rw[Zbl,if_pos h]
   exact this
  ·have h':=h
   unfold Zcz at h'
   rw[Zbl,if_neg h]
   exact fin hC Za6 (ZCa std ms ks rs n1 ms.length ks.length k xs) (by simp only[bx3];simp[-Zdn,hn,h'];omega) rfl rfl
theorem Zyj(n1:Int):∀(m k:Nat) (xs:List AV),k+m=ms.length→Ev C (ZbF ms ks rs ms.length n1 ms.length ks.length k xs) (Zbw ms ks rs ms.length n1 ms.length ks.length k xs)
 (ZcD 136 (ZbB 1 (Zbl (fun k=>Za8 ms k) (fun _=>0) m k xs) (if Zcg (decide (1≤(ks.length:Int))) (decide ((ks.length:Int)≤8))=0 then ZnK ms ks rs else Zbk 2 0 (Zcg (decide (1≤(ks.length:Int))) (decide ((ks.length:Int)≤8))))) none)
 |0,k,xs,hk=>by
  by_cases h:Zcg (decide (1≤(ks.length:Int))) (decide ((ks.length:Int)≤8))=0
  ·have h':=h
   unfold Zcg at h'
   rw[if_pos h]
   refine go hC Za6 (Zzh std ms ks rs ms.length n1 ms.length ks.length k xs) (by simp only[bx2,Zsq,Zkp,ZcR,h'];simp;omega) ?_
   exact Zz3 hC ms ks rs hs n1 ks.length 0 [] (by omega)
  ·have h':=h
   unfold Zcg at h'
   rw[if_neg h]
   exact fin hC Za6 (ZAB std ms ks rs ms.length n1 ms.length ks.length k xs) (by simp only[bx2,ZDe,Zsq,Zkp,ZcR,h'];simp;omega) rfl rfl
 |m+1,k,xs,hk=>by
  have hs':=hs
  simp only[ZaA,Bool.and_eq_true,decide_eq_true_eq]at hs'
  have hn:=Zit hs'.1.1.1 (show k<ms.length by omega)
  by_cases h:Zcz (Za8 ms k) 0 xs=0
  ·have hnew:=Zjp h
   have h':=h
   unfold Zcz at h'
   refine go hC Za6 (ZzD std ms ks rs ms.length n1 ms.length ks.length k xs) (by simp only[bx3];simp[-Zdn,hnew,hn];simp[-Zdn,hnew]at h';simp[h'];omega) ?_
   have:=Zyj n1 m (k+1) (xs++[.str (Za8 ms k)]) (by omega)
   rw[Zbl,if_pos h]
   exact this
  ·have h':=h
   unfold Zcz at h'
   rw[Zbl,if_neg h]
   exact fin hC Za6 (ZAe std ms ks rs ms.length n1 ms.length ks.length k xs) (by simp only[bx3];simp[-Zdn,hn,h'];omega) rfl rfl
end
theorem ZoO(ms ks rs:List AV)(hs:ZaA ms ks rs=true):Zao Tryz.prog 136 [.agg (.gen [.list (.big .str ms), .list (.big (.agg [.str, .int .i64]) ks), .list (.big (.agg [.str, .int .i64, .int .i64, .int .i64, .int .i64]) rs)])] (Zec ms ks rs) none:=
 start (ZqX ms ks rs) fun C hC=>by
  by_cases h:Zcg (decide (1≤(ms.length:Int))) (decide ((ms.length:Int)≤6))=0
  ·have h':=h
   unfold Zcg at h'
   rw[Zec,if_pos h]
   refine go hC Za6 (ZyH std ms ks rs) (by simp only[bx2,Zsq,Zkp,ZcR,h'];simp) ?_
   exact Zyj hC ms ks rs hs ms.length ms.length 0 [] (by omega)
  ·have h':=h
   unfold Zcg at h'
   rw[Zec,if_neg h]
   exact fin hC Za6 (ZCp std ms ks rs) (by simp only[bx2,ZDe,Zsq,Zkp,ZcR,h'];simp) rfl rfl
end Go.Proofs.YtkeoeooghhjibaaGreatDoor
/- Contracts as a list. No condition. -/
namespace Go.Proofs.YtkeoeooghhjibaaGreatDoor
theorem ZpI(s:List UInt8):Zao Tryz.prog 151 [.nils, .str s] (.bool false) none:=
 start (Zp0 s) fun C hC=>go hC Za6 (Zxo std s) (by simp) (fin hC Za6 (ZvQ std s) (by simp) rfl rfl)
theorem Zpp(n:Int):Zao Tryz.prog 89 [.int .i64 n] (.bool (Zab n 0 1000000000000)) none:=
 start (Zvq n) fun C hC=>fin hC Za6 (ZFx std n) (by simp) rfl rfl
def mP:AV→Int
 | .tup [.agg (.gen [.int _ p,_]),_]=>p
 |_=>0
def mI:AV→Int
 | .tup [.agg (.gen [_, .int _ i]),_]=>i
 |_=>0
def mE:AV→Int
 | .tup [_, .int _ e]=>e
 |_=>0
def isM(v:AV):Prop:=∃p i e,v=Zbk p i e
theorem isM.eq{v:AV}(h:isM v):v=Zbk (mP v) (mI v) (mE v):=by
 obtain⟨p,i,e,rfl⟩:=h
 rfl
theorem isM.scan{p:Int}{o:Option (Nat×Int)}{d:AV}(h:isM d):isM (ZbB p o d):=by
 unfold ZbB
 split
 ·exact⟨_,_,_,rfl⟩
 ·exact h
theorem isM.ite{c:Prop}[Decidable c]{a b:AV}(ha:isM a)(hb:isM b):isM (if c then a else b):=by
 split
 ·exact ha
 ·exact hb
theorem Zgs(p i e:Int):isM (Zbk p i e):=⟨_,_,_,rfl⟩
theorem ZjA(ms ks rs:List AV):isM (Zec ms ks rs):=
 .ite (.scan (.ite (.scan (.ite (.scan (Zgs _ _ _)) (Zgs _ _ _))) (Zgs _ _ _))) (Zgs _ _ _)
def Zkr(ms ks rs:List AV):Int:=mP (Zec ms ks rs)
def Zj0(ms ks rs:List AV):Int:=mI (Zec ms ks rs)
def ZaL(ms ks rs:List AV):Int:=mE (Zec ms ks rs)
theorem ZnT(ms ks rs:List AV)(hs:ZaA ms ks rs=true):Zao Tryz.prog 136 [.agg (.gen [.list (.big .str ms), .list (.big (.agg [.str, .int .i64]) ks), .list (.big (.agg [.str, .int .i64, .int .i64, .int .i64, .int .i64]) rs)])] (.tup [.agg (.gen [.int .i64 (Zkr ms ks rs), .int .i64 (Zj0 ms ks rs)]), .int .i64 (ZaL ms ks rs)]) none:=by
 have:=ZoO ms ks rs hs
 rw[(ZjA ms ks rs).eq]at this
 exact this
def k151n:Ctr:=⟨151,0,fun _ a=>match a with |[.nils, .str _]=>some (true, .bool false,none) |_=>none⟩
theorem Zra:k151n.OK Tryz.prog:=fun pa args r fr h=>by
 simp only[k151n]at h
 split at h
 ·cases h
  exact ZpI _
 ·cases h
def k89:Ctr:=⟨89,0,fun _ a=>match a with |[.int .i64 n]=>some (true, .bool (Zab n 0 1000000000000),none) |_=>none⟩
theorem ZCu:k89.OK Tryz.prog:=fun pa args r fr h=>by
 simp only[k89]at h
 split at h
 ·cases h
  exact Zpp _
 ·cases h
def k136:Ctr:=⟨136,0,fun _ a=>match a with |[.agg (.gen [.list (.big .str ms), .list (.big (.agg [.str, .int .i64]) ks), .list (.big (.agg [.str, .int .i64, .int .i64, .int .i64, .int .i64]) rs)])]=>some (decide (ZaA ms ks rs=true), .tup [.agg (.gen [.int .i64 (Zkr ms ks rs), .int .i64 (Zj0 ms ks rs)]), .int .i64 (ZaL ms ks rs)],none) |_=>none⟩
theorem ZtT:k136.OK Tryz.prog:=fun pa args r fr h=>by
 simp only[k136]at h
 split at h
 ·simp only[Option.some.injEq,Prod.mk.injEq,decide_eq_true_eq]at h
  obtain⟨h0,rfl,rfl⟩:=h
  exact ZnT _ _ _ h0
 ·cases h
def B4:List Ctr:=[k151n,k89,k136]++B3
theorem ZrC:ZaD Tryz.prog B4:=⟨Zra,⟨ZCu,⟨ZtT,Za6⟩⟩⟩
end Go.Proofs.YtkeoeooghhjibaaGreatDoor
/- Paths of functions, printed by the explorer (Gx). No condition. -/
namespace Go.Proofs.YtkeoeooghhjibaaGreatDoor
set_option maxRecDepth 100000
set_option linter.unusedVariables false
def Zzt(ms ks rs:List AV):AFrame:={ fn:=88,N:=11,env:=[(0,AV.agg (Row.gen [.list (Row.big .str ms), .list (Row.big (.agg [.str, .int .i64]) ks), .list (Row.big (.agg [.str, .int .i64, .int .i64, .int .i64, .int .i64]) rs)]))],todo:=[.code a88.code],defs:=[],rnd:=none,ret:=false,res:=[ARes.tmp 2] }
def ZIi(ms ks rs:List AV):List AFrame:=[(Zzt ms ks rs)]
theorem Zvd(ms ks rs:List AV):Zar tab 88 [AV.agg (Row.gen [.list (Row.big .str ms), .list (Row.big (.agg [.str, .int .i64]) ks), .list (Row.big (.agg [.str, .int .i64, .int .i64, .int .i64, .int .i64]) rs)])]=some (Zzt ms ks rs):=rfl
theorem ZDY(A:Ar)(ms ks rs:List AV):Za0 A tab B4 23 [] 88 (ZIi ms ks rs) []=
 some (tr [9,3] [decide (ZaA ms ks rs=true)],
  AV.int .i64 (ZaL ms ks rs),none):=by kernel_rfl
def ZsY(ms ks rs:List AV)(k lo hi:Int):AFrame:={ fn:=120,N:=34,env:=[(0,AV.agg (Row.gen [.list (Row.big .str ms), .list (Row.big (.agg [.str, .int .i64]) ks), .list (Row.big (.agg [.str, .int .i64, .int .i64, .int .i64, .int .i64]) rs)])),(1,AV.agg (Row.gen [.int .i64 k, .int .i64 lo, .int .i64 hi]))],todo:=[.code a120.code],defs:=[],rnd:=none,ret:=false,res:=[ARes.tmp 4] }
def ZCe(ms ks rs:List AV)(k lo hi:Int):List AFrame:=[(ZsY ms ks rs k lo hi)]
theorem Zrt(ms ks rs:List AV)(k lo hi:Int):Zar tab 120 [AV.agg (Row.gen [.list (Row.big .str ms), .list (Row.big (.agg [.str, .int .i64]) ks), .list (Row.big (.agg [.str, .int .i64, .int .i64, .int .i64, .int .i64]) rs)]),AV.agg (Row.gen [.int .i64 k, .int .i64 lo, .int .i64 hi])]=some (ZsY ms ks rs k lo hi):=rfl
theorem ZA7(A:Ar)(ms ks rs:List AV)(k lo hi:Int):Za0 A tab B4 10 [true] 120 (ZCe ms ks rs k lo hi) []=
 some (tr [2,0,14,7,8] [decide (List.length [Zaa (Zab k 0 (A.sub (A.int (A.lenA ks)) 1)) 15,Zaa (Zab hi 0 1000000000000) 2,Zaa (A.le lo hi) 9]≤1000000),List.all [AV.int .i64 (Zaa (Zab k 0 (A.sub (A.int (A.lenA ks)) 1)) 15),AV.int .i64 (Zaa (Zab hi 0 1000000000000) 2),AV.int .i64 (Zaa (A.le lo hi) 9)] fun x=>AV.bx x&&Nat.beq (Zae A x) 1,Zab lo 0 1000000000000,A.inR .i64 (A.sub (A.int (A.lenA ks)) 1)],
  AV.int .i64 (Zai [Zaa (Zab k 0 (A.sub (A.int (A.lenA ks)) 1)) 15,Zaa (Zab hi 0 1000000000000) 2,Zaa (A.le lo hi) 9]),none):=by kernel_rfl
theorem Zyq(A:Ar)(ms ks rs:List AV)(k lo hi:Int):Za0 A tab B4 10 [false] 120 (ZCe ms ks rs k lo hi) []=
 some (tr [2,0,14,7,8] [decide (List.length [Zaa (Zab k 0 (A.sub (A.int (A.lenA ks)) 1)) 15,2,Zaa (A.le lo hi) 9]≤1000000),List.all [AV.int .i64 (Zaa (Zab k 0 (A.sub (A.int (A.lenA ks)) 1)) 15),AV.int .i64 2,AV.int .i64 (Zaa (A.le lo hi) 9)] fun x=>AV.bx x&&Nat.beq (Zae A x) 1,!Zab lo 0 1000000000000,A.inR .i64 (A.sub (A.int (A.lenA ks)) 1)],
  AV.int .i64 (Zai [Zaa (Zab k 0 (A.sub (A.int (A.lenA ks)) 1)) 15,2,Zaa (A.le lo hi) 9]),none):=by kernel_rfl
end Go.Proofs.YtkeoeooghhjibaaGreatDoor
/- Contracts as a list. No condition. -/
namespace Go.Proofs.YtkeoeooghhjibaaGreatDoor
def ZmL(n k lo hi:Int):Int:=Zai [Zaa (Zab k 0 (n-1)) 15,Zaa (Zab lo 0 1000000000000&&Zab hi 0 1000000000000) 2,Zaa (decide (lo≤hi)) 9]
theorem Zq7(ms ks rs:List AV)(h:ZaA ms ks rs=true):Zao Tryz.prog 88 [.agg (.gen [.list (.big .str ms), .list (.big (.agg [.str, .int .i64]) ks), .list (.big (.agg [.str, .int .i64, .int .i64, .int .i64, .int .i64]) rs)])] (.int .i64 (ZaL ms ks rs)) none:=
 start (Zvd ms ks rs) fun C hC=>fin hC ZrC (ZDY std ms ks rs) (by simp[h]) rfl rfl
theorem ZrE(ms ks rs:List AV)(k lo hi:Int)(h:ks.length≤1000000):Zao Tryz.prog 120 [.agg (.gen [.list (.big .str ms), .list (.big (.agg [.str, .int .i64]) ks), .list (.big (.agg [.str, .int .i64, .int .i64, .int .i64, .int .i64]) rs)]), .agg (.gen [.int .i64 k, .int .i64 lo, .int .i64 hi])] (.int .i64 (ZmL ks.length k lo hi)) none:=
 start (Zrt ms ks rs k lo hi) fun C hC=>by
  by_cases h1:Zab lo 0 1000000000000=true
  ·exact fin hC ZrC (ZA7 std ms ks rs k lo hi) (by simp only[bx3];simp[h1];omega) (by simp[ZmL,h1]) rfl
  ·exact fin hC ZrC (Zyq std ms ks rs k lo hi) (by simp only[bx3];simp[h1];omega) (by unfold ZmL;rw[(by simpa using h1:Zab lo 0 1000000000000=false)];rfl) rfl
def k88:Ctr:=⟨88,0,fun _ a=>match a with |[.agg (.gen [.list (.big .str ms), .list (.big (.agg [.str, .int .i64]) ks), .list (.big (.agg [.str, .int .i64, .int .i64, .int .i64, .int .i64]) rs)])]=>some (decide (ZaA ms ks rs=true), .int .i64 (ZaL ms ks rs),none) |_=>none⟩
theorem ZCH:k88.OK Tryz.prog:=fun pa args r fr h=>by
 simp only[k88]at h
 split at h
 ·simp only[Option.some.injEq,Prod.mk.injEq,decide_eq_true_eq]at h
  obtain⟨h0,rfl,rfl⟩:=h
  exact Zq7 _ _ _ h0
 ·cases h
def k120:Ctr:=⟨120,0,fun _ a=>match a with |[.agg (.gen [.list (.big .str _), .list (.big (.agg [.str, .int .i64]) ks), .list (.big (.agg [.str, .int .i64, .int .i64, .int .i64, .int .i64]) _)]), .agg (.gen [.int .i64 k, .int .i64 lo, .int .i64 hi])]=>some (decide (ks.length≤1000000), .int .i64 (ZmL ks.length k lo hi),none) |_=>none⟩
theorem Zwo:k120.OK Tryz.prog:=fun pa args r fr h=>by
 simp only[k120]at h
 split at h
 ·simp only[Option.some.injEq,Prod.mk.injEq,decide_eq_true_eq]at h
  obtain⟨h0,rfl,rfl⟩:=h
  exact ZrE _ _ _ _ _ _ h0
 ·cases h
def B5:List Ctr:=[k88,k120]++B4
theorem Zm5:ZaD Tryz.prog B5:=⟨ZCH,⟨Zwo,ZrC⟩⟩
end Go.Proofs.YtkeoeooghhjibaaGreatDoor
/- Paths of functions, printed by the explorer (Gx). No condition. -/
namespace Go.Proofs.YtkeoeooghhjibaaGreatDoor
set_option maxRecDepth 100000
set_option linter.unusedVariables false
def Zzs(ms ks rs l:List AV):AFrame:={ fn:=71,N:=40,env:=[(0,AV.agg (Row.gen [.list (Row.big .str ms), .list (Row.big (.agg [.str, .int .i64]) ks), .list (Row.big (.agg [.str, .int .i64, .int .i64, .int .i64, .int .i64]) rs)])),(1,AV.list (Row.big (.agg [.int .i64, .int .i64, .int .i64]) l))],todo:=[.code a71.code],defs:=[],rnd:=none,ret:=false,res:=[ARes.tmp 4,ARes.tmp 5] }
def ZGV(ms ks rs l:List AV):List AFrame:=[(Zzs ms ks rs l)]
theorem Zxn(ms ks rs l:List AV):Zar tab 71 [AV.agg (Row.gen [.list (Row.big .str ms), .list (Row.big (.agg [.str, .int .i64]) ks), .list (Row.big (.agg [.str, .int .i64, .int .i64, .int .i64, .int .i64]) rs)]),AV.list (Row.big (.agg [.int .i64, .int .i64, .int .i64]) l)]=some (Zzs ms ks rs l):=rfl
def ZdL(ms ks rs l:List AV)(n0 n1:Int):List AFrame:=[{ fn:=71,N:=40,env:=[(2,AV.ptr 71003 0 0 0),(25,AV.list (Row.big (.agg [.int .i64, .int .i64, .int .i64]) l)),(26,AV.int .i64 n0),(27,AV.int .i64 n1)],todo:=.code (ACode.gh [] ZxK)::ZDx,defs:=[],rnd:=none,ret:=false,res:=[ARes.tmp 4,ARes.tmp 5] }]
def ZcQ(ms ks rs l:List AV)(n0 n1:Int):Zac:=[(71003,{ base:=0,blks:=[Blk.row 26 3 (Row.gen [AV.agg (Row.gen [AV.list (Row.big .str ms),AV.list (Row.big (.agg [.str, .int .i64]) ks),AV.list (Row.big (.agg [.str, .int .i64, .int .i64, .int .i64, .int .i64]) rs)])])] })]
abbrev Zie(ms ks rs l:List AV)(n0 n1:Int):List AFrame×Zac:=(ZdL ms ks rs l n0 n1,ZcQ ms ks rs l n0 n1)
theorem ZE4(A:Ar)(ms ks rs l:List AV):Za0 A tab B5 37 [true] 71 (ZGV ms ks rs l) []=
 some (tr [4,3,0,8,4] [A.not (A.eq (Zai [ZaL ms ks rs,Zaa (A.lt 0 (A.int (A.lenA l))) 10,Zaa (A.le (A.int (A.lenA l)) 12) 8]) 0),decide (List.length [ZaL ms ks rs,Zaa (A.lt 0 (A.int (A.lenA l))) 10,Zaa (A.le (A.int (A.lenA l)) 12) 8]≤1000000),List.all [AV.int .i64 (ZaL ms ks rs),AV.int .i64 (Zaa (A.lt 0 (A.int (A.lenA l))) 10),AV.int .i64 (Zaa (A.le (A.int (A.lenA l)) 12) 8)] fun x=>AV.bx x&&Nat.beq (Zae A x) 1,decide (ZaA ms ks rs=true)],
  AV.tup [AV.int .i64 0,AV.int .i64 (Zai [ZaL ms ks rs,Zaa (A.lt 0 (A.int (A.lenA l))) 10,Zaa (A.le (A.int (A.lenA l)) 12) 8])],none):=by kernel_rfl
theorem ZFg(A:Ar)(ms ks rs l:List AV):ZaC A tab B5 41 [false] (ZGV ms ks rs l) []=
 some (tr [3,3,0,8,4] [!A.not (A.eq (Zai [ZaL ms ks rs,Zaa (A.lt 0 (A.int (A.lenA l))) 10,Zaa (A.le (A.int (A.lenA l)) 12) 8]) 0),decide (List.length [ZaL ms ks rs,Zaa (A.lt 0 (A.int (A.lenA l))) 10,Zaa (A.le (A.int (A.lenA l)) 12) 8]≤1000000),List.all [AV.int .i64 (ZaL ms ks rs),AV.int .i64 (Zaa (A.lt 0 (A.int (A.lenA l))) 10),AV.int .i64 (Zaa (A.le (A.int (A.lenA l)) 12) 8)] fun x=>AV.bx x&&Nat.beq (Zae A x) 1,decide (ZaA ms ks rs=true)],
  Zie (ms) (ks) (rs) (l) (A.int (A.lenA l)) (0)):=by kernel_rfl
theorem ZDI(A:Ar)(ms ks rs l:List AV)(n0 n1:Int):Za0 A tab B5 40 [true,true] 71 (ZdL ms ks rs l n0 n1) (ZcQ ms ks rs l n0 n1)=
 some (tr [5,3,6,1,1] [A.not (A.eq (ZmL (↑(List.length ks)) ((A.nthA l (A.nat n1)).cellAt 0).toI ((A.nthA l (A.nat n1)).cellAt 1).toI ((A.nthA l (A.nat n1)).cellAt 2).toI) 0),decide (List.length ks≤1000000),Zag (Zag (A.le 0 n1) (Nat.blt (A.nat n1) (A.lenA l))) true,A.lt n1 n0],
  AV.tup [AV.int .i64 n1,AV.int .i64 (ZmL (↑(List.length ks)) ((A.nthA l (A.nat n1)).cellAt 0).toI ((A.nthA l (A.nat n1)).cellAt 1).toI ((A.nthA l (A.nat n1)).cellAt 2).toI)],none):=by kernel_rfl
theorem ZDw(A:Ar)(ms ks rs l:List AV)(n0 n1:Int):ZaC A tab B5 40 [true,false] (ZdL ms ks rs l n0 n1) (ZcQ ms ks rs l n0 n1)=
 some (tr [1,0,3,6,1,1] [A.inR .i64 (A.add n1 1),!A.not (A.eq (ZmL (↑(List.length ks)) ((A.nthA l (A.nat n1)).cellAt 0).toI ((A.nthA l (A.nat n1)).cellAt 1).toI ((A.nthA l (A.nat n1)).cellAt 2).toI) 0),decide (List.length ks≤1000000),Zag (Zag (A.le 0 n1) (Nat.blt (A.nat n1) (A.lenA l))) true,A.lt n1 n0],
  Zie (ms) (ks) (rs) (l) (n0) (A.add n1 1)):=by kernel_rfl
theorem ZDC(A:Ar)(ms ks rs l:List AV)(n0 n1:Int):Za0 A tab B5 14 [false] 71 (ZdL ms ks rs l n0 n1) (ZcQ ms ks rs l n0 n1)=
 some (tr [3,1] [!A.lt n1 n0],
  AV.tup [AV.int .i64 0,AV.int .i64 0],none):=by kernel_rfl
end Go.Proofs.YtkeoeooghhjibaaGreatDoor
/- CheckFile of the program. No condition. -/
namespace Go.Proofs.YtkeoeooghhjibaaGreatDoor
def Zk4(i e:Int):AV:=.tup [.int .i64 i, .int .i64 e]
def Zfd(f:Nat→Int):Nat→Nat→AV
 |0,_=>Zk4 0 0
 |m+1,k=>if f k=0 then Zfd f m (k+1)else Zk4 k (f k)
def ZhB(n:Int)(l:List AV)(k:Nat):Int:=ZmL n (Zaj l k 0) (Zaj l k 1) (Zaj l k 2)
def Zgk(e:Int)(l:List AV):Int:=Zai [e,Zaa (decide (0<(l.length:Int))) 10,Zaa (decide ((l.length:Int)≤12)) 8]
def ZeI(e n:Int)(l:List AV):AV:=if Zgk e l=0 then Zfd (ZhB n l) l.length 0 else Zk4 0 (Zgk e l)
theorem Zij{C:Ctx}(hC:C.P=Tryz.prog)(ms ks rs l:List AV)(hk:ks.length≤1000000)(hl:l.length≤1000000):∀(m k:Nat),k+m=l.length→Ev C (ZdL ms ks rs l l.length k) (ZcQ ms ks rs l l.length k) (ZcD 71 (Zfd (ZhB ks.length l) m k) none)
 |0,k,h=>fin hC Zm5 (ZDC std ms ks rs l l.length k) (by simp;omega) rfl rfl
 |m+1,k,h=>by
  by_cases h1:ZhB ks.length l k=0
  ·have h2:=h1
   unfold ZhB Zaj at h2
   refine go hC Zm5 (ZDw std ms ks rs l l.length k) (by simp[-List.getD_eq_getElem?_getD]at h2 ⊢;simp[-List.getD_eq_getElem?_getD,h2];omega) ?_
   rw[Zfd,if_pos h1]
   exact Zij hC ms ks rs l hk hl m (k+1) (by omega)
  ·have h2:=h1
   unfold ZhB Zaj at h2
   rw[Zfd,if_neg h1]
   exact fin hC Zm5 (ZDI std ms ks rs l l.length k) (by simp[-List.getD_eq_getElem?_getD]at h2 ⊢;simp[-List.getD_eq_getElem?_getD,h2];omega) rfl rfl
theorem Zrn(ms ks rs l:List AV)(hs:ZaA ms ks rs=true)(hl:l.length≤1000000):Zao Tryz.prog 71 [.agg (.gen [.list (.big .str ms), .list (.big (.agg [.str, .int .i64]) ks), .list (.big (.agg [.str, .int .i64, .int .i64, .int .i64, .int .i64]) rs)]), .list (.big (.agg [.int .i64, .int .i64, .int .i64]) l)] (ZeI (ZaL ms ks rs) ks.length l) none:=
 start (Zxn ms ks rs l) fun C hC=>by
  have hk:ks.length≤1000000:=by
   simp only[ZaA,Bool.and_eq_true,decide_eq_true_eq]at hs
   exact hs.2.2.1
  by_cases h:Zgk (ZaL ms ks rs) l=0
  ·have h':=h
   unfold Zgk at h'
   rw[ZeI,if_pos h]
   refine go hC Zm5 (ZFg std ms ks rs l) (by simp only[bx3,Zsq,ZGa,Zkp,ZcR,h'];simp[hs]) ?_
   exact Zij hC ms ks rs l hk hl l.length 0 (by omega)
  ·have h':=h
   unfold Zgk at h'
   rw[ZeI,if_neg h]
   exact fin hC Zm5 (ZE4 std ms ks rs l) (by simp only[bx3,ZDe,Zsq,ZGa,Zkp,ZcR,h'];simp[hs]) rfl rfl
end Go.Proofs.YtkeoeooghhjibaaGreatDoor
/- CheckFile of the reference. No condition. -/
namespace Go.Proofs.YtkeoeooghhjibaaGreatDoor
theorem Zgx{f:Nat→Int}{m k:Nat}{v:Int}(h:f k=v)(hv:v≠0):Zfd f (m+1) k=Zk4 k v:=by
 rw[Zfd,if_neg (by rw[h];exact hv),h]
theorem ZgV{C:Ctx}(hC:C.P=Tryz.prog)(ms ks rs l:List AV)(hk:ks.length≤1000000)(hl:l.length≤1000000):∀(m k:Nat),k+m=l.length→Ev C (ZbS ms ks rs l k) (Zbv ms ks rs l k) (ZcD 76 (Zfd (ZhB ks.length l) m k) none)
 |0,k,h=>fin hC Za6 (ZEh std ms ks rs l k) (by simp;omega) rfl rfl
 |m+1,k,h=>by
  have e0:((l.getD k .top).cellAt 0).toI=Zaj l k 0:=rfl
  have e1:((l.getD k .top).cellAt 1).toI=Zaj l k 1:=rfl
  have e2:((l.getD k .top).cellAt 2).toI=Zaj l k 2:=rfl
  by_cases h2:Zab (Zaj l k 0) 0 ((ks.length:Int)-1)=true
  ·by_cases h3:Zab (Zaj l k 1) 0 1000000000000=true
   ·by_cases h4:Zab (Zaj l k 2) 0 1000000000000=true
    ·by_cases h5:Zaj l k 2<Zaj l k 1
     ·rw[Zgx (show ZhB ks.length l k=9 by simp[ZhB,ZmL,Zai,Zaa,h2,h3,h4];omega) (by decide)]
      exact fin hC Za6 (ZFM std ms ks rs l k) (by simp[-List.getD_eq_getElem?_getD,e0,e1,e2,h2,h3,h4];omega) rfl rfl
     ·refine go hC Za6 (ZED std ms ks rs l k) (by simp[-List.getD_eq_getElem?_getD,e0,e1,e2,h2,h3,h4];omega) ?_
      rw[Zfd,if_pos (show ZhB ks.length l k=0 by simp[ZhB,ZmL,Zai,Zaa,h2,h3,h4];omega)]
      exact ZgV hC ms ks rs l hk hl m (k+1) (by omega)
    ·rw[Zgx (show ZhB ks.length l k=2 by simp[ZhB,ZmL,Zai,Zaa,h2,h3,h4]) (by decide)]
     exact fin hC Za6 (ZDN std ms ks rs l k) (by simp[-List.getD_eq_getElem?_getD,e0,e1,e2,h2,h3,h4];omega) rfl rfl
   ·rw[Zgx (show ZhB ks.length l k=2 by simp[ZhB,ZmL,Zai,Zaa,h2,h3]) (by decide)]
    exact fin hC Za6 (ZEB std ms ks rs l k) (by simp[-List.getD_eq_getElem?_getD,e0,e1,e2,h2,h3];omega) rfl rfl
  ·rw[Zgx (show ZhB ks.length l k=15 by simp[ZhB,ZmL,Zai,Zaa,h2]) (by decide)]
   exact fin hC Za6 (ZEK std ms ks rs l k) (by simp[-List.getD_eq_getElem?_getD,e0,e1,e2,h2];omega) rfl rfl
theorem Zpu(ms ks rs l:List AV)(hk:ks.length≤1000000)(hl:l.length≤1000000):Zao Tryz.prog 76 [.agg (.gen [.list (.big .str ms), .list (.big (.agg [.str, .int .i64]) ks), .list (.big (.agg [.str, .int .i64, .int .i64, .int .i64, .int .i64]) rs)]), .list (.big (.agg [.int .i64, .int .i64, .int .i64]) l)] (ZeI 0 ks.length l) none:=
 start (Zvm ms ks rs l) fun C hC=>by
  by_cases h1:l=[]
  ·have e:Zgk 0 l=10:=by rw[h1];rfl
   rw[ZeI,if_neg (by rw[e];decide),e]
   exact fin hC Za6 (ZFo std ms ks rs l) (by simp[h1]) rfl rfl
  ·have h0:0<l.length:=List.length_pos_iff.2 h1
   by_cases h2:12<l.length
   ·have e:Zgk 0 l=8:=by
     unfold Zgk
     rw[decide_eq_true (show 0<(l.length:Int) by omega),decide_eq_false (show ¬(l.length:Int)≤12 by omega)];rfl
    rw[ZeI,if_neg (by rw[e];decide),e]
    exact fin hC Za6 (ZDt std ms ks rs l) (by simp[h1];omega) rfl rfl
   ·have e:Zgk 0 l=0:=by
     unfold Zgk
     rw[decide_eq_true (show 0<(l.length:Int) by omega),decide_eq_true (show (l.length:Int)≤12 by omega)];rfl
    rw[ZeI,if_pos e]
    refine go hC Za6 (ZEl std ms ks rs l) (by simp[h1];omega) ?_
    exact ZgV hC ms ks rs l hk hl l.length 0 (by omega)
end Go.Proofs.YtkeoeooghhjibaaGreatDoor
/- Few. No condition. -/
namespace Go.Proofs.YtkeoeooghhjibaaGreatDoor
def ZyX(x:AV):Bool:=decide (x.toS.length≤20)
def Zn6(x:AV):Bool:=decide ((x.cellAt 0).toS.length≤20)
def Zqb(ms ks rs:List AV):Bool:=decide (ms.length≤8∧ks.length≤10∧rs.length≤12)&&(ms.all ZyX&&(ks.all Zn6&&rs.all Zn6))
theorem Zld{xs:List AV}{k:Nat}(h:k<xs.length):xs.drop k=xs.getD k .top::xs.drop (k+1):=by
 rw[List.drop_eq_getElem_cons h,List.getD_eq_getElem?_getD,List.getElem?_eq_getElem h];rfl
section
variable {C:Ctx}(hC:C.P=Tryz.prog)(ms ks rs:List AV)(hl:ms.length≤8∧ks.length≤10∧rs.length≤12)
include hC hl
theorem ZCt:∀(m k:Nat),k+m=rs.length→Ev C (Zdv ms ks rs k) (ZcF ms ks rs k) (ZcD 23 (.bool ((rs.drop k).all Zn6)) none)
 |0,k,h=>fin hC Za6 (Zz4 std ms ks rs k) (by simp;omega) (by rw[List.drop_of_length_le (by omega)];rfl) rfl
 |m+1,k,h=>by
  rw[Zld (show k<rs.length by omega)]
  by_cases h1:((rs.getD k .top).cellAt 0).toS.length≤20
  ·refine go hC Za6 (ZxH std ms ks rs k) (by simp[-List.getD_eq_getElem?_getD];omega) ?_
   rw[List.all_cons,show Zn6 (rs.getD k .top)=true from decide_eq_true h1,Bool.true_and]
   exact ZCt m (k+1) (by omega)
  ·exact fin hC Za6 (ZCG std ms ks rs k) (by simp[-List.getD_eq_getElem?_getD];omega) (by rw[List.all_cons,show Zn6 (rs.getD k .top)=false from decide_eq_false h1,Bool.false_and]) rfl
theorem Zzv:∀(m k:Nat),k+m=ks.length→Ev C (ZdJ ms ks rs k) (ZcO ms ks rs k) (ZcD 23 (.bool ((ks.drop k).all Zn6&&rs.all Zn6)) none)
 |0,k,h=>by
  refine go hC Za6 (ZFh std ms ks rs k) (by simp;omega) ?_
  rw[List.drop_of_length_le (by omega)]
  exact ZCt hC ms ks rs hl rs.length 0 (by omega)
 |m+1,k,h=>by
  rw[Zld (show k<ks.length by omega)]
  by_cases h1:((ks.getD k .top).cellAt 0).toS.length≤20
  ·refine go hC Za6 (ZFs std ms ks rs k) (by simp[-List.getD_eq_getElem?_getD];omega) ?_
   rw[List.all_cons,show Zn6 (ks.getD k .top)=true from decide_eq_true h1,Bool.true_and]
   exact Zzv m (k+1) (by omega)
  ·exact fin hC Za6 (ZEu std ms ks rs k) (by simp[-List.getD_eq_getElem?_getD];omega) (by rw[List.all_cons,show Zn6 (ks.getD k .top)=false from decide_eq_false h1,Bool.false_and,Bool.false_and]) rfl
theorem ZCA:∀(m k:Nat),k+m=ms.length→Ev C (ZdG ms ks rs k) (ZcZ ms ks rs k) (ZcD 23 (.bool ((ms.drop k).all ZyX&&(ks.all Zn6&&rs.all Zn6))) none)
 |0,k,h=>by
  refine go hC Za6 (ZDQ std ms ks rs k) (by simp;omega) ?_
  rw[List.drop_of_length_le (by omega)]
  exact Zzv hC ms ks rs hl ks.length 0 (by omega)
 |m+1,k,h=>by
  rw[Zld (show k<ms.length by omega)]
  by_cases h1:(ms.getD k .top).toS.length≤20
  ·refine go hC Za6 (ZFP std ms ks rs k) (by simp[-List.getD_eq_getElem?_getD];omega) ?_
   rw[List.all_cons,show ZyX (ms.getD k .top)=true from decide_eq_true h1,Bool.true_and]
   exact ZCA m (k+1) (by omega)
  ·exact fin hC Za6 (ZE7 std ms ks rs k) (by simp[-List.getD_eq_getElem?_getD];omega) (by rw[List.all_cons,show ZyX (ms.getD k .top)=false from decide_eq_false h1,Bool.false_and,Bool.false_and]) rfl
end
theorem ZuC(ms ks rs:List AV):Zao Tryz.prog 23 [.agg (.gen [.list (.big .str ms), .list (.big (.agg [.str, .int .i64]) ks), .list (.big (.agg [.str, .int .i64, .int .i64, .int .i64, .int .i64]) rs)])] (.bool (Zqb ms ks rs)) none:=
 start (ZwM ms ks rs) fun C hC=>by
  by_cases h1:ms.length≤8
  ·by_cases h2:ks.length≤10
   ·by_cases h3:rs.length≤12
    ·refine go hC Za6 (ZFe std ms ks rs) (by simp;omega) ?_
     unfold Zqb
     rw[decide_eq_true ⟨h1,h2,h3⟩,Bool.true_and]
     exact ZCA hC ms ks rs ⟨h1,h2,h3⟩ ms.length 0 (by omega)
    ·exact fin hC Za6 (ZDA std ms ks rs) (by simp;omega) (by simp[Zqb,h3]) rfl
   ·exact fin hC Za6 (ZFv std ms ks rs) (by simp;omega) (by simp[Zqb,h2]) rfl
  ·exact fin hC Za6 (ZE8 std ms ks rs) (by simp;omega) (by simp[Zqb,h1]) rfl
end Go.Proofs.YtkeoeooghhjibaaGreatDoor
/- Contracts as a list. No condition. -/
namespace Go.Proofs.YtkeoeooghhjibaaGreatDoor
def k23:Ctr:=⟨23,0,fun _ a=>match a with |[.agg (.gen [.list (.big .str ms), .list (.big (.agg [.str, .int .i64]) ks), .list (.big (.agg [.str, .int .i64, .int .i64, .int .i64, .int .i64]) rs)])]=>some (true, .bool (Zqb ms ks rs),none) |_=>none⟩
theorem ZxU:k23.OK Tryz.prog:=fun pa args r fr h=>by
 simp only[k23]at h
 split at h
 ·cases h
  exact ZuC _ _ _
 ·cases h
def B6:List Ctr:=[k23]++B5
theorem Zew:ZaD Tryz.prog B6:=⟨ZxU,Zm5⟩
end Go.Proofs.YtkeoeooghhjibaaGreatDoor
/- Paths of functions, printed by the explorer (Gx). No condition. -/
namespace Go.Proofs.YtkeoeooghhjibaaGreatDoor
set_option maxRecDepth 100000
set_option linter.unusedVariables false
def Zs8(ms ks rs:List AV):AFrame:={ fn:=119,N:=188,env:=[(0,AV.agg (Row.gen [.list (Row.big .str ms), .list (Row.big (.agg [.str, .int .i64]) ks), .list (Row.big (.agg [.str, .int .i64, .int .i64, .int .i64, .int .i64]) rs)]))],todo:=[.code a119.code],defs:=[],rnd:=none,ret:=false,res:=[ARes.cell 2 true 2,ARes.tmp 3] }
def ZEj(ms ks rs:List AV):List AFrame:=[(Zs8 ms ks rs)]
theorem Zr2(ms ks rs:List AV):Zar tab 119 [AV.agg (Row.gen [.list (Row.big .str ms), .list (Row.big (.agg [.str, .int .i64]) ks), .list (Row.big (.agg [.str, .int .i64, .int .i64, .int .i64, .int .i64]) rs)])]=some (Zs8 ms ks rs):=rfl
def Zes(ms ks rs:List AV)(n0:Int):List AFrame:=[{ fn:=119,N:=188,env:=[(1,AV.ptr 119002 0 0 0),(2,AV.ptr 119003 0 0 0),(4,AV.int .i64 n0)],todo:=.code (ACode.gh [] Zss)::ZzT,defs:=[],rnd:=none,ret:=false,res:=[ARes.cell 2 true 2,ARes.tmp 3] }]
def Zdq(ms ks rs:List AV)(n0:Int):Zac:=[(119002,{ base:=0,blks:=[Blk.row 26 3 (Row.gen [AV.agg (Row.gen [AV.list (Row.big .str ms),AV.list (Row.big (.agg [.str, .int .i64]) ks),AV.list (Row.big (.agg [.str, .int .i64, .int .i64, .int .i64, .int .i64]) rs)])])] }),(119003,{ base:=0,blks:=[Blk.row 195 2 (Row.gen [AV.agg (Row.gen [AV.int .i64 0,AV.int .i64 0])])] })]
abbrev Zf8(ms ks rs:List AV)(n0:Int):List AFrame×Zac:=(Zes ms ks rs n0,Zdq ms ks rs n0)
def Zc2(ms ks rs:List AV):List AFrame:=[{ fn:=119,N:=188,env:=[(1,AV.ptr 119002 0 0 0),(2,AV.ptr 119003 0 0 0),(5,AV.nils),(6,AV.int .i64 0)],todo:=.code (ACode.gh [] Zoz)::Zs9,defs:=[],rnd:=none,ret:=false,res:=[ARes.cell 2 true 2,ARes.tmp 3] }]
def Zcl(ms ks rs:List AV):Zac:=[(119002,{ base:=0,blks:=[Blk.row 26 3 (Row.gen [AV.agg (Row.gen [AV.list (Row.big .str ms),AV.list (Row.big (.agg [.str, .int .i64]) ks),AV.list (Row.big (.agg [.str, .int .i64, .int .i64, .int .i64, .int .i64]) rs)])])] }),(119003,{ base:=0,blks:=[Blk.row 195 2 (Row.gen [AV.agg (Row.gen [AV.int .i64 0,AV.int .i64 0])])] })]
abbrev ZjR(ms ks rs:List AV):List AFrame×Zac:=(Zc2 ms ks rs,Zcl ms ks rs)
def Zeo(ms ks rs:List AV)(n1:Int)(x2:List AV):List AFrame:=[{ fn:=119,N:=188,env:=[(1,AV.ptr 119002 0 0 0),(2,AV.ptr 119003 0 0 0),(5,AV.row 119093 0),(6,AV.int .i64 n1)],todo:=.code (ACode.gh [] Zoz)::Zs9,defs:=[],rnd:=none,ret:=false,res:=[ARes.cell 2 true 2,ARes.tmp 3] }]
def Zdx(ms ks rs:List AV)(n1:Int)(x2:List AV):Zac:=[(119002,{ base:=0,blks:=[Blk.row 26 3 (Row.gen [AV.agg (Row.gen [AV.list (Row.big .str ms),AV.list (Row.big (.agg [.str, .int .i64]) ks),AV.list (Row.big (.agg [.str, .int .i64, .int .i64, .int .i64, .int .i64]) rs)])])] }),(119003,{ base:=0,blks:=[Blk.row 195 2 (Row.gen [AV.agg (Row.gen [AV.int .i64 0,AV.int .i64 0])])] }),(119093,{ base:=0,blks:=[Blk.row 9 1 (Row.big .str x2)] })]
abbrev Zf1(ms ks rs:List AV)(n1:Int)(x2:List AV):List AFrame×Zac:=(Zeo ms ks rs n1 x2,Zdx ms ks rs n1 x2)
def Zc3(ms ks rs:List AV):List AFrame:=[{ fn:=119,N:=188,env:=[(1,AV.ptr 119002 0 0 0),(2,AV.ptr 119003 0 0 0),(5,AV.nils),(7,AV.int .i64 0)],todo:=.code (ACode.gh [] ZoF)::ZsW,defs:=[],rnd:=none,ret:=false,res:=[ARes.cell 2 true 2,ARes.tmp 3] }]
def Zcv(ms ks rs:List AV):Zac:=[(119002,{ base:=0,blks:=[Blk.row 26 3 (Row.gen [AV.agg (Row.gen [AV.list (Row.big .str ms),AV.list (Row.big (.agg [.str, .int .i64]) ks),AV.list (Row.big (.agg [.str, .int .i64, .int .i64, .int .i64, .int .i64]) rs)])])] }),(119003,{ base:=0,blks:=[Blk.row 195 2 (Row.gen [AV.agg (Row.gen [AV.int .i64 0,AV.int .i64 0])])] })]
abbrev Zgd(ms ks rs:List AV):List AFrame×Zac:=(Zc3 ms ks rs,Zcv ms ks rs)
def Zee(ms ks rs:List AV)(n3:Int)(x4:List AV):List AFrame:=[{ fn:=119,N:=188,env:=[(1,AV.ptr 119002 0 0 0),(2,AV.ptr 119003 0 0 0),(5,AV.row 119141 0),(7,AV.int .i64 n3)],todo:=.code (ACode.gh [] ZoF)::ZsW,defs:=[],rnd:=none,ret:=false,res:=[ARes.cell 2 true 2,ARes.tmp 3] }]
def Zdo(ms ks rs:List AV)(n3:Int)(x4:List AV):Zac:=[(119002,{ base:=0,blks:=[Blk.row 26 3 (Row.gen [AV.agg (Row.gen [AV.list (Row.big .str ms),AV.list (Row.big (.agg [.str, .int .i64]) ks),AV.list (Row.big (.agg [.str, .int .i64, .int .i64, .int .i64, .int .i64]) rs)])])] }),(119003,{ base:=0,blks:=[Blk.row 195 2 (Row.gen [AV.agg (Row.gen [AV.int .i64 0,AV.int .i64 0])])] }),(119141,{ base:=0,blks:=[Blk.row 9 1 (Row.big .str x4)] })]
abbrev Zcw(ms ks rs:List AV)(n3:Int)(x4:List AV):List AFrame×Zac:=(Zee ms ks rs n3 x4,Zdo ms ks rs n3 x4)
def ZmP(A:Ar)(K:KT)(F:FT)(ms ks rs:List AV):Prop:=bB (A.eq (A.int (A.lenA ms)) 0) (F (AV.tup [AV.agg (Row.gen [.int .i64 1, .int .i64 0]),AV.int .i64 10]) (none)) (bB (A.lt 6 (A.int (A.lenA ms))) (F (AV.tup [AV.agg (Row.gen [.int .i64 1, .int .i64 0]),AV.int .i64 8]) (none)) (K (Zf8 (ms) (ks) (rs) (0))))
theorem ZCX{A:Ar}{K:KT}{F:FT}{M:MT}{ms ks rs:List AV} :ZaH A tab B6 119 K F M (.run 14 (.tf (.run 20 (.fn)) (.run 9 (.tf (.run 20 (.fn)) (.run 9 (.hd)))))) (ZEj ms ks rs) []=ZmP A K F ms ks rs:=by kernel_rfl
def ZbN(A:Ar)(K:KT)(F:FT)(ms ks rs:List AV)(n0:Int):Prop:=bB (A.lt n0 (A.int (A.lenA ms))) (rB [decide (List.length (AV.toS (A.nthA ms (A.nat n0)))≤1000000),Zag (Zag (A.le 0 n0) (Nat.blt (A.nat n0) (A.lenA ms))) true] (bB (A.not (ZaU (AV.toS (A.nthA ms (A.nat n0))))) (F (AV.tup [AV.agg (Row.gen [.int .i64 1, .int .i64 n0]),AV.int .i64 4]) (none)) (rB [decide (List.length (A.subA ms 0 (A.nat n0-0))≤1000000),Zag (Zag (A.le 0 n0) (Nat.blt (A.nat n0) (A.lenA ms))) true,Zag (A.le 0 n0) (Zag (Zag (Nat.ble 0 (A.nat n0)) (Nat.ble (A.nat n0) (A.lenA ms))) true)] (bB (Zhz (A.subA ms 0 (A.nat n0-0)) (AV.toS (A.nthA ms (A.nat n0)))) (F (AV.tup [AV.agg (Row.gen [.int .i64 1, .int .i64 n0]),AV.int .i64 5]) (none)) (rB [A.inR .i64 (A.add n0 1)] (K (Zf8 (ms) (ks) (rs) (A.add n0 1)))))))) (bB (A.eq (A.int (A.lenA ks)) 0) (F (AV.tup [AV.agg (Row.gen [.int .i64 2, .int .i64 0]),AV.int .i64 10]) (none)) (bB (A.lt 8 (A.int (A.lenA ks))) (F (AV.tup [AV.agg (Row.gen [.int .i64 2, .int .i64 0]),AV.int .i64 8]) (none)) (K (ZjR (ms) (ks) (rs)))))
theorem ZfP{A:Ar}{K:KT}{F:FT}{M:MT}{ms ks rs:List AV}{n0:Int} :ZaH A tab B6 119 K F M (.run 10 (.tf (.run 15 (.tf (.run 21 (.fn)) (.run 4 (.tf (.run 21 (.fn)) (.run 9 (.hd)))))) (.run 9 (.tf (.run 20 (.fn)) (.run 9 (.tf (.run 20 (.fn)) (.run 13 (.hd)))))))) (Zes ms ks rs n0) (Zdq ms ks rs n0)=ZbN A K F ms ks rs n0:=by kernel_rfl
def Zcm(A:Ar)(K:KT)(F:FT)(ms ks rs:List AV):Prop:=bB (A.lt 0 (A.int (A.lenA ks))) (rB [decide (List.length ((A.nthA ks (A.nat 0)).cellAt 0).toS≤1000000),Zag (Zag (A.le 0 0) (Nat.blt (A.nat 0) (A.lenA ks))) true] (bB (A.not (ZaU ((A.nthA ks (A.nat 0)).cellAt 0).toS)) (F (AV.tup [AV.agg (Row.gen [.int .i64 2, .int .i64 0]),AV.int .i64 4]) (none)) (rB [Zag (Zag (A.le 0 0) (Nat.blt (A.nat 0) (A.lenA ks))) true] (rB [A.inR .i64 (A.sub (A.int (A.lenA ms)) 1),Zag (Zag (A.le 0 0) (Nat.blt (A.nat 0) (A.lenA ks))) true,Zag (Nat.ble (A.lenA [AV.str ((A.nthA ks (A.nat 0)).cellAt 0).toS]) 4294967296) (Nat.blt 0 (A.lenA [AV.str ((A.nthA ks (A.nat 0)).cellAt 0).toS])),List.all [AV.str ((A.nthA ks (A.nat 0)).cellAt 0).toS] fun x=>AV.bx x&&Nat.beq (Zae A x) 1,Zag (Zag (A.le 0 0) (Nat.blt (A.nat 0) (A.lenA ks))) true] (bB (A.not (Zab ((A.nthA ks (A.nat 0)).cellAt 1).toI (-1) (A.sub (A.int (A.lenA ms)) 1))) (F (AV.tup [AV.agg (Row.gen [.int .i64 2, .int .i64 0]),AV.int .i64 6]) (none)) (rB [A.inR .i64 (A.add 0 1)] (K (Zf1 (ms) (ks) (rs) (A.add 0 1) ([AV.str ((A.nthA ks (A.nat 0)).cellAt 0).toS]))))))))) (bB (A.lt 10 (A.int (A.lenA rs))) (F (AV.tup [AV.agg (Row.gen [.int .i64 3, .int .i64 0]),AV.int .i64 8]) (none)) (K (Zgd (ms) (ks) (rs))))
theorem Zf6{A:Ar}{K:KT}{F:FT}{M:MT}{ms ks rs:List AV} :ZaH A tab B6 119 K F M (.run 10 (.tf (.run 16 (.tf (.run 21 (.fn)) (.run 14 (.fy (.run 18 (.tf (.run 21 (.fn)) (.run 9 (.hd)))))))) (.run 9 (.tf (.run 20 (.fn)) (.run 13 (.hd)))))) (Zc2 ms ks rs) (Zcl ms ks rs)=Zcm A K F ms ks rs:=by kernel_rfl
def Zcr(A:Ar)(K:KT)(F:FT)(ms ks rs:List AV)(n1:Int)(x2:List AV):Prop:=bB (A.lt n1 (A.int (A.lenA ks))) (rB [decide (List.length ((A.nthA ks (A.nat n1)).cellAt 0).toS≤1000000),Zag (Zag (A.le 0 n1) (Nat.blt (A.nat n1) (A.lenA ks))) true] (bB (A.not (ZaU ((A.nthA ks (A.nat n1)).cellAt 0).toS)) (F (AV.tup [AV.agg (Row.gen [.int .i64 2, .int .i64 n1]),AV.int .i64 4]) (none)) (rB [decide (List.length x2≤1000000),Zag (Zag (A.le 0 n1) (Nat.blt (A.nat n1) (A.lenA ks))) true] (bB (Zhz x2 ((A.nthA ks (A.nat n1)).cellAt 0).toS) (F (AV.tup [AV.agg (Row.gen [.int .i64 2, .int .i64 n1]),AV.int .i64 5]) (none)) (rB [A.inR .i64 (A.sub (A.int (A.lenA ms)) 1),Zag (Zag (A.le 0 n1) (Nat.blt (A.nat n1) (A.lenA ks))) true,Nat.ble (A.lenA x2+A.lenA [AV.str ((A.nthA ks (A.nat n1)).cellAt 0).toS]) 4294967296,List.all [AV.str ((A.nthA ks (A.nat n1)).cellAt 0).toS] fun x=>AV.bx x&&Nat.beq (Zae A x) 1,Zag (Zag (A.le 0 n1) (Nat.blt (A.nat n1) (A.lenA ks))) true] (bB (A.not (Zab ((A.nthA ks (A.nat n1)).cellAt 1).toI (-1) (A.sub (A.int (A.lenA ms)) 1))) (F (AV.tup [AV.agg (Row.gen [.int .i64 2, .int .i64 n1]),AV.int .i64 6]) (none)) (rB [A.inR .i64 (A.add n1 1)] (K (Zf1 (ms) (ks) (rs) (A.add n1 1) (A.appA x2 [AV.str ((A.nthA ks (A.nat n1)).cellAt 0).toS])))))))))) (bB (A.lt 10 (A.int (A.lenA rs))) (F (AV.tup [AV.agg (Row.gen [.int .i64 3, .int .i64 0]),AV.int .i64 8]) (none)) (K (Zgd (ms) (ks) (rs))))
theorem ZfT{A:Ar}{K:KT}{F:FT}{M:MT}{ms ks rs:List AV}{n1:Int}{x2:List AV} :ZaH A tab B6 119 K F M (.run 10 (.tf (.run 16 (.tf (.run 21 (.fn)) (.run 14 (.tf (.run 21 (.fn)) (.run 18 (.tf (.run 21 (.fn)) (.run 9 (.hd)))))))) (.run 9 (.tf (.run 20 (.fn)) (.run 13 (.hd)))))) (Zeo ms ks rs n1 x2) (Zdx ms ks rs n1 x2)=Zcr A K F ms ks rs n1 x2:=by kernel_rfl
def Zdj(A:Ar)(K:KT)(F:FT)(ms ks rs:List AV):Prop:=bB (A.lt 0 (A.int (A.lenA rs))) (rB [decide (List.length ((A.nthA rs (A.nat 0)).cellAt 0).toS≤1000000),Zag (Zag (A.le 0 0) (Nat.blt (A.nat 0) (A.lenA rs))) true] (bB (A.not (ZaU ((A.nthA rs (A.nat 0)).cellAt 0).toS)) (F (AV.tup [AV.agg (Row.gen [.int .i64 3, .int .i64 0]),AV.int .i64 4]) (none)) (rB [A.inR .i64 (A.sub (A.int (A.lenA ks)) 1),Zag (Nat.ble (A.lenA [AV.str ((A.nthA rs (A.nat 0)).cellAt 0).toS]) 4294967296) (Nat.blt 0 (A.lenA [AV.str ((A.nthA rs (A.nat 0)).cellAt 0).toS])),List.all [AV.str ((A.nthA rs (A.nat 0)).cellAt 0).toS] fun x=>AV.bx x&&Nat.beq (Zae A x) 1] (bB (A.not (Zab ((A.nthA rs (A.nat 0)).cellAt 1).toI 0 (A.sub (A.int (A.lenA ks)) 1))) (F (AV.tup [AV.agg (Row.gen [.int .i64 3, .int .i64 0]),AV.int .i64 6]) (none)) (rB [A.inR .i64 (A.sub (A.int (A.lenA ms)) 1)] (bB (A.not (Zab ((A.nthA rs (A.nat 0)).cellAt 2).toI (-1) (A.sub (A.int (A.lenA ms)) 1))) (F (AV.tup [AV.agg (Row.gen [.int .i64 3, .int .i64 0]),AV.int .i64 6]) (none)) (rB [A.inR .i64 (A.sub (A.int (A.lenA ks)) 1)] (bB (A.not (Zab ((A.nthA rs (A.nat 0)).cellAt 3).toI (-1) (A.sub (A.int (A.lenA ks)) 1))) (F (AV.tup [AV.agg (Row.gen [.int .i64 3, .int .i64 0]),AV.int .i64 6]) (none)) (bB (A.not (Zab ((A.nthA rs (A.nat 0)).cellAt 4).toI 1 1000000)) (F (AV.tup [AV.agg (Row.gen [.int .i64 3, .int .i64 0]),AV.int .i64 2]) (none)) (bB (A.eq ((A.nthA rs (A.nat 0)).cellAt 3).toI (-1)) (bB (A.not (A.eq ((A.nthA rs (A.nat 0)).cellAt 4).toI 1)) (F (AV.tup [AV.agg (Row.gen [.int .i64 3, .int .i64 0]),AV.int .i64 3]) (none)) (rB [A.inR .i64 (A.add 0 1)] (K (Zcw (ms) (ks) (rs) (A.add 0 1) ([AV.str ((A.nthA rs (A.nat 0)).cellAt 0).toS]))))) (rB [A.inR .i64 (A.add 0 1)] (K (Zcw (ms) (ks) (rs) (A.add 0 1) ([AV.str ((A.nthA rs (A.nat 0)).cellAt 0).toS])))))))))))))) (F (AV.tup [AV.agg (Row.gen [.int .i64 0, .int .i64 0]),AV.int .i64 0]) (none))
theorem Zge{A:Ar}{K:KT}{F:FT}{M:MT}{ms ks rs:List AV} :ZaH A tab B6 119 K F M (.run 10 (.tf (.run 21 (.tf (.run 21 (.fn)) (.run 9 (.fy (.run 22 (.tf (.ty (.ty (.ty (.ty (.ty (.ty (.ty (.ty (.run 1 (.ty (.ty (.ty (.ty (.ty (.ty (.ty (.ty (.ty (.run 2 (.ty (.run 21 (.fn)))))))))))))))))))))) (.fy (.fy (.fy (.fy (.fy (.fy (.fy (.fy (.run 1 (.tf (.ty (.ty (.ty (.ty (.ty (.ty (.ty (.ty (.run 2 (.ty (.run 21 (.fn)))))))))))) (.fy (.fy (.fy (.fy (.fy (.fy (.fy (.fy (.run 2 (.tf (.run 21 (.fn)) (.run 9 (.tf (.run 21 (.fn)) (.run 7 (.tf (.ty (.ty (.ty (.run 2 (.tf (.run 21 (.fn)) (.run 9 (.hd))))))) (.fy (.fy (.fy (.run 2 (.fy (.run 9 (.hd))))))))))))))))))))))))))))))))))))) (.run 8 (.fn)))) (Zc3 ms ks rs) (Zcv ms ks rs)=Zdj A K F ms ks rs:=by kernel_rfl
def Zdk(A:Ar)(K:KT)(F:FT)(ms ks rs:List AV)(n3:Int)(x4:List AV):Prop:=bB (A.lt n3 (A.int (A.lenA rs))) (rB [decide (List.length ((A.nthA rs (A.nat n3)).cellAt 0).toS≤1000000),Zag (Zag (A.le 0 n3) (Nat.blt (A.nat n3) (A.lenA rs))) true] (bB (A.not (ZaU ((A.nthA rs (A.nat n3)).cellAt 0).toS)) (F (AV.tup [AV.agg (Row.gen [.int .i64 3, .int .i64 n3]),AV.int .i64 4]) (none)) (rB [decide (List.length x4≤1000000)] (bB (Zhz x4 ((A.nthA rs (A.nat n3)).cellAt 0).toS) (F (AV.tup [AV.agg (Row.gen [.int .i64 3, .int .i64 n3]),AV.int .i64 5]) (none)) (rB [A.inR .i64 (A.sub (A.int (A.lenA ks)) 1),Nat.ble (A.lenA x4+A.lenA [AV.str ((A.nthA rs (A.nat n3)).cellAt 0).toS]) 4294967296,List.all [AV.str ((A.nthA rs (A.nat n3)).cellAt 0).toS] fun x=>AV.bx x&&Nat.beq (Zae A x) 1] (bB (A.not (Zab ((A.nthA rs (A.nat n3)).cellAt 1).toI 0 (A.sub (A.int (A.lenA ks)) 1))) (F (AV.tup [AV.agg (Row.gen [.int .i64 3, .int .i64 n3]),AV.int .i64 6]) (none)) (rB [A.inR .i64 (A.sub (A.int (A.lenA ms)) 1)] (bB (A.not (Zab ((A.nthA rs (A.nat n3)).cellAt 2).toI (-1) (A.sub (A.int (A.lenA ms)) 1))) (F (AV.tup [AV.agg (Row.gen [.int .i64 3, .int .i64 n3]),AV.int .i64 6]) (none)) (rB [A.inR .i64 (A.sub (A.int (A.lenA ks)) 1)] (bB (A.not (Zab ((A.nthA rs (A.nat n3)).cellAt 3).toI (-1) (A.sub (A.int (A.lenA ks)) 1))) (F (AV.tup [AV.agg (Row.gen [.int .i64 3, .int .i64 n3]),AV.int .i64 6]) (none)) (bB (A.not (Zab ((A.nthA rs (A.nat n3)).cellAt 4).toI 1 1000000)) (F (AV.tup [AV.agg (Row.gen [.int .i64 3, .int .i64 n3]),AV.int .i64 2]) (none)) (bB (A.eq ((A.nthA rs (A.nat n3)).cellAt 3).toI (-1)) (bB (A.not (A.eq ((A.nthA rs (A.nat n3)).cellAt 4).toI 1)) (F (AV.tup [AV.agg (Row.gen [.int .i64 3, .int .i64 n3]),AV.int .i64 3]) (none)) (rB [A.inR .i64 (A.add n3 1)] (K (Zcw (ms) (ks) (rs) (A.add n3 1) (A.appA x4 [AV.str ((A.nthA rs (A.nat n3)).cellAt 0).toS]))))) (rB [A.inR .i64 (A.add n3 1)] (K (Zcw (ms) (ks) (rs) (A.add n3 1) (A.appA x4 [AV.str ((A.nthA rs (A.nat n3)).cellAt 0).toS])))))))))))))))) (F (AV.tup [AV.agg (Row.gen [.int .i64 0, .int .i64 0]),AV.int .i64 0]) (none))
theorem ZfQ{A:Ar}{K:KT}{F:FT}{M:MT}{ms ks rs:List AV}{n3:Int}{x4:List AV} :ZaH A tab B6 119 K F M (.run 10 (.tf (.run 21 (.tf (.run 21 (.fn)) (.run 9 (.tf (.run 21 (.fn)) (.run 22 (.tf (.ty (.ty (.ty (.ty (.ty (.ty (.ty (.ty (.run 1 (.ty (.ty (.ty (.ty (.ty (.ty (.ty (.ty (.ty (.run 2 (.ty (.run 21 (.fn)))))))))))))))))))))) (.fy (.fy (.fy (.fy (.fy (.fy (.fy (.fy (.run 1 (.tf (.ty (.ty (.ty (.ty (.ty (.ty (.ty (.ty (.run 2 (.ty (.run 21 (.fn)))))))))))) (.fy (.fy (.fy (.fy (.fy (.fy (.fy (.fy (.run 2 (.tf (.run 21 (.fn)) (.run 9 (.tf (.run 21 (.fn)) (.run 7 (.tf (.ty (.ty (.ty (.run 2 (.tf (.run 21 (.fn)) (.run 9 (.hd))))))) (.fy (.fy (.fy (.run 2 (.fy (.run 9 (.hd))))))))))))))))))))))))))))))))))))) (.run 8 (.fn)))) (Zee ms ks rs n3 x4) (Zdo ms ks rs n3 x4)=Zdk A K F ms ks rs n3 x4:=by kernel_rfl
def ZAu(ms ks rs:List AV)(a b:Int)(xs:List Int)(k:Int):AFrame:={ fn:=86,N:=65,env:=[(0,AV.agg (Row.gen [.list (Row.big .str ms), .list (Row.big (.agg [.str, .int .i64]) ks), .list (Row.big (.agg [.str, .int .i64, .int .i64, .int .i64, .int .i64]) rs)])),(1,AV.agg (Row.gen [.int .i64 a, .int .i64 b, .list (.ints .i64 xs)])),(2,AV.int .i64 k)],todo:=[.code a86.code],defs:=[],rnd:=none,ret:=false,res:=[ARes.tmp 6] }
def ZIy(ms ks rs:List AV)(a b:Int)(xs:List Int)(k:Int):List AFrame:=[(ZAu ms ks rs a b xs k)]
theorem ZvT(ms ks rs:List AV)(a b:Int)(xs:List Int)(k:Int):Zar tab 86 [AV.agg (Row.gen [.list (Row.big .str ms), .list (Row.big (.agg [.str, .int .i64]) ks), .list (Row.big (.agg [.str, .int .i64, .int .i64, .int .i64, .int .i64]) rs)]),AV.agg (Row.gen [.int .i64 a, .int .i64 b, .list (.ints .i64 xs)]),AV.int .i64 k]=some (ZAu ms ks rs a b xs k):=rfl
def ZeR(ms ks rs:List AV)(a b:Int)(xs:List Int)(k n0:Int):List AFrame:=[{ fn:=86,N:=65,env:=[(2,AV.int .i64 k),(3,AV.ptr 86004 0 0 0),(4,AV.ptr 86005 0 0 0),(7,AV.int .i64 n0)],todo:=.code (ACode.gh [] ZCT)::ZDO,defs:=[],rnd:=none,ret:=false,res:=[ARes.tmp 6] }]
def ZdR(ms ks rs:List AV)(a b:Int)(xs:List Int)(k n0:Int):Zac:=[(86004,{ base:=0,blks:=[Blk.row 26 3 (Row.gen [AV.agg (Row.gen [AV.list (Row.big .str ms),AV.list (Row.big (.agg [.str, .int .i64]) ks),AV.list (Row.big (.agg [.str, .int .i64, .int .i64, .int .i64, .int .i64]) rs)])])] }),(86005,{ base:=0,blks:=[Blk.row 76 3 (Row.gen [AV.agg (Row.gen [AV.int .i64 a,AV.int .i64 b,AV.list (.ints .i64 xs)])])] })]
abbrev ZbD(ms ks rs:List AV)(a b:Int)(xs:List Int)(k n0:Int):List AFrame×Zac:=(ZeR ms ks rs a b xs k n0,ZdR ms ks rs a b xs k n0)
def ZFJ(A:Ar)(K:KT)(F:FT)(ms ks rs:List AV)(a b:Int)(xs:List Int)(k:Int):Prop:=K (ZbD (ms) (ks) (rs) (a) (b) (xs) (k) (0))
theorem ZFH{A:Ar}{K:KT}{F:FT}{M:MT}{ms ks rs:List AV}{a b:Int}{xs:List Int}{k:Int} :ZaH A tab B6 86 K F M (.run 14 (.hd)) (ZIy ms ks rs a b xs k) []=ZFJ A K F ms ks rs a b xs k:=by kernel_rfl
def Zfz(A:Ar)(K:KT)(F:FT)(ms ks rs:List AV)(a b:Int)(xs:List Int)(k n0:Int):Prop:=bB (A.lt n0 (A.int (A.lenA rs))) (rB [Zag (Zag (A.le 0 n0) (Nat.blt (A.nat n0) (A.lenA rs))) true] (bB (A.not (A.eq ((A.nthA rs (A.nat n0)).cellAt 1).toI k)) (rB [A.inR .i64 (A.add n0 1)] (K (ZbD (ms) (ks) (rs) (a) (b) (xs) (k) (A.add n0 1)))) (bB (A.not (A.eq ((A.nthA rs (A.nat n0)).cellAt 2).toI (-1))) (bB (A.not (A.eq ((A.nthA rs (A.nat n0)).cellAt 2).toI a)) (rB [A.inR .i64 (A.add n0 1)] (K (ZbD (ms) (ks) (rs) (a) (b) (xs) (k) (A.add n0 1)))) (qB [A.eq ((A.nthA rs (A.nat n0)).cellAt 3).toI (-1)] (F (AV.str ((A.nthA rs (A.nat n0)).cellAt 0).toS) (none)) (qB [A.inR .i64 (A.sub b (A.nth xs (A.nat ((A.nthA rs (A.nat n0)).cellAt 3).toI))),Zag (Zag (A.le 0 ((A.nthA rs (A.nat n0)).cellAt 3).toI) (Nat.blt (A.nat ((A.nthA rs (A.nat n0)).cellAt 3).toI) (A.len xs))) true,A.not (A.eq (A.nth xs (A.nat ((A.nthA rs (A.nat n0)).cellAt 3).toI)) (-1)),Zag (Zag (A.le 0 ((A.nthA rs (A.nat n0)).cellAt 3).toI) (Nat.blt (A.nat ((A.nthA rs (A.nat n0)).cellAt 3).toI) (A.len xs))) true,!A.eq ((A.nthA rs (A.nat n0)).cellAt 3).toI (-1)] (bB (A.lt (A.sub b (A.nth xs (A.nat ((A.nthA rs (A.nat n0)).cellAt 3).toI))) ((A.nthA rs (A.nat n0)).cellAt 4).toI) (F (AV.str ((A.nthA rs (A.nat n0)).cellAt 0).toS) (none)) (rB [A.inR .i64 (A.add n0 1)] (K (ZbD (ms) (ks) (rs) (a) (b) (xs) (k) (A.add n0 1))))) (rB [!A.not (A.eq (A.nth xs (A.nat ((A.nthA rs (A.nat n0)).cellAt 3).toI)) (-1)),Zag (Zag (A.le 0 ((A.nthA rs (A.nat n0)).cellAt 3).toI) (Nat.blt (A.nat ((A.nthA rs (A.nat n0)).cellAt 3).toI) (A.len xs))) true,!A.eq ((A.nthA rs (A.nat n0)).cellAt 3).toI (-1)] (rB [A.inR .i64 (A.add n0 1)] (K (ZbD (ms) (ks) (rs) (a) (b) (xs) (k) (A.add n0 1)))))))) (qB [A.eq ((A.nthA rs (A.nat n0)).cellAt 3).toI (-1)] (F (AV.str ((A.nthA rs (A.nat n0)).cellAt 0).toS) (none)) (qB [A.inR .i64 (A.sub b (A.nth xs (A.nat ((A.nthA rs (A.nat n0)).cellAt 3).toI))),Zag (Zag (A.le 0 ((A.nthA rs (A.nat n0)).cellAt 3).toI) (Nat.blt (A.nat ((A.nthA rs (A.nat n0)).cellAt 3).toI) (A.len xs))) true,A.not (A.eq (A.nth xs (A.nat ((A.nthA rs (A.nat n0)).cellAt 3).toI)) (-1)),Zag (Zag (A.le 0 ((A.nthA rs (A.nat n0)).cellAt 3).toI) (Nat.blt (A.nat ((A.nthA rs (A.nat n0)).cellAt 3).toI) (A.len xs))) true,!A.eq ((A.nthA rs (A.nat n0)).cellAt 3).toI (-1)] (bB (A.lt (A.sub b (A.nth xs (A.nat ((A.nthA rs (A.nat n0)).cellAt 3).toI))) ((A.nthA rs (A.nat n0)).cellAt 4).toI) (F (AV.str ((A.nthA rs (A.nat n0)).cellAt 0).toS) (none)) (rB [A.inR .i64 (A.add n0 1)] (K (ZbD (ms) (ks) (rs) (a) (b) (xs) (k) (A.add n0 1))))) (rB [!A.not (A.eq (A.nth xs (A.nat ((A.nthA rs (A.nat n0)).cellAt 3).toI)) (-1)),Zag (Zag (A.le 0 ((A.nthA rs (A.nat n0)).cellAt 3).toI) (Nat.blt (A.nat ((A.nthA rs (A.nat n0)).cellAt 3).toI) (A.len xs))) true,!A.eq ((A.nthA rs (A.nat n0)).cellAt 3).toI (-1)] (rB [A.inR .i64 (A.add n0 1)] (K (ZbD (ms) (ks) (rs) (a) (b) (xs) (k) (A.add n0 1)))))))))) (F (AV.str []) (none))
theorem ZhV{A:Ar}{K:KT}{F:FT}{M:MT}{ms ks rs:List AV}{a b:Int}{xs:List Int}{k n0:Int} :ZaH A tab B6 86 K F M (.run 10 (.tf (.run 21 (.tf (.ty (.ty (.ty (.run 5 (.ty (.ty (.run 2 (.ty (.run 8 (.hd)))))))))) (.fy (.fy (.fy (.tf (.ty (.ty (.ty (.ty (.alt [false,true] (.fy (.run 2 (.tf (.run 8 (.hd)) (.run 2 (.alt [true] (.run 1 (.ty (.run 7 (.fn)))) (.alt [false,true] (.run 1 (.tf (.run 7 (.fn)) (.run 9 (.hd)))) (.alt [false,false] (.run 1 (.fy (.run 9 (.hd)))) (.no)))))))) (.no)))))) (.fy (.fy (.fy (.fy (.alt [false,false] (.fy (.run 2 (.fy (.run 2 (.alt [true] (.run 1 (.ty (.run 7 (.fn)))) (.alt [false,true] (.run 1 (.tf (.run 7 (.fn)) (.run 9 (.hd)))) (.alt [false,false] (.run 1 (.fy (.run 9 (.hd)))) (.no)))))))) (.no)))))))))))) (.run 6 (.fn)))) (ZeR ms ks rs a b xs k n0) (ZdR ms ks rs a b xs k n0)=Zfz A K F ms ks rs a b xs k n0:=by kernel_rfl
end Go.Proofs.YtkeoeooghhjibaaGreatDoor
