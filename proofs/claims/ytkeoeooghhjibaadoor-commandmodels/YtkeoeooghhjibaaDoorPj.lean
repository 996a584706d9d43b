/- Paths of functions, printed by the explorer (Gx). No condition. -/
import Derived.Test.YtkeoeooghhjibaaDoorCd
import Derived.KernelRfl
namespace Go.Proofs.YtkeoeooghhjibaaDoor
set_option maxRecDepth 100000
set_option linter.unusedVariables false
def Zsm(n:Int):AFrame:={ fn:=43,N:=5,env:=[(0,AV.int .i64 n)],todo:=[.code a43.code],defs:=[],rnd:=none,ret:=false,res:=[ARes.tmp 2] }
def Zxu(n:Int):List AFrame:=[(Zsm n)]
theorem ZoM(n:Int):ZaD tab 43 [AV.int .i64 n]=some (Zsm n):=rfl
theorem ZtL(A:Ar)(n:Int):ZaQ A tab B3 11 [] 43 (Zxu n) []=
 some (tr [5] [],
  AV.bool (Zaf n 0 1000000000000),none):=by kernel_rfl
def Zwx(ms:List AV)(ks:List AV)(rs:List AV):AFrame:={ fn:=6,N:=66,env:=[(0,AV.agg (Row.gen [.list (Row.big .str ms), .list (Row.big (.agg [.str, .int .i64]) ks), .list (Row.big (.agg [.str, .int .i64, .int .i64, .int .i64, .int .i64]) rs)]))],todo:=[.code a6.code],defs:=[],rnd:=none,ret:=false,res:=[ARes.tmp 2] }
def f6e(ms:List AV)(ks:List AV)(rs:List AV):List AFrame:=[(Zwx ms ks rs)]
theorem ZrT(ms:List AV)(ks:List AV)(rs:List AV):ZaD tab 6 [AV.agg (Row.gen [.list (Row.big .str ms), .list (Row.big (.agg [.str, .int .i64]) ks), .list (Row.big (.agg [.str, .int .i64, .int .i64, .int .i64, .int .i64]) rs)])]=some (Zwx ms ks rs):=rfl
def ZfG(ms ks rs:List AV)(n0:Int):List AFrame:=[{ fn:=6,N:=66,env:=[(1,AV.ptr 6002 0 0 0),(3,AV.int .i64 n0)],todo:=.code (ACode.gh [] Zwl)::Zxp,defs:=[],rnd:=none,ret:=false,res:=[ARes.tmp 2] }]
def Zdt(ms:List AV)(ks:List AV)(rs:List AV)(n0:Int):Zab:=[(6002,{ base:=0,blks:=[Blk.row 26 3 (Row.gen [AV.agg (Row.gen [AV.list (Row.big .str ms),AV.list (Row.big (.agg [.str, .int .i64]) ks),AV.list (Row.big (.agg [.str, .int .i64, .int .i64, .int .i64, .int .i64]) rs)])])] })]
abbrev Zjb(ms:List AV)(ks:List AV)(rs:List AV)(n0:Int):List AFrame×Zab:=(ZfG ms ks rs n0,Zdt ms ks rs n0)
def Zfc(ms ks rs:List AV)(n1:Int):List AFrame:=[{ fn:=6,N:=66,env:=[(1,AV.ptr 6002 0 0 0),(4,AV.int .i64 n1)],todo:=.code (ACode.gh [] Zwi)::Zxn,defs:=[],rnd:=none,ret:=false,res:=[ARes.tmp 2] }]
def ZdG(ms:List AV)(ks:List AV)(rs:List AV)(n1:Int):Zab:=[(6002,{ base:=0,blks:=[Blk.row 26 3 (Row.gen [AV.agg (Row.gen [AV.list (Row.big .str ms),AV.list (Row.big (.agg [.str, .int .i64]) ks),AV.list (Row.big (.agg [.str, .int .i64, .int .i64, .int .i64, .int .i64]) rs)])])] })]
abbrev Zjv(ms:List AV)(ks:List AV)(rs:List AV)(n1:Int):List AFrame×Zab:=(Zfc ms ks rs n1,ZdG ms ks rs n1)
def ZeR(ms ks rs:List AV)(n2:Int):List AFrame:=[{ fn:=6,N:=66,env:=[(1,AV.ptr 6002 0 0 0),(5,AV.int .i64 n2)],todo:=.code (ACode.gh [] Zv7)::Zxh,defs:=[],rnd:=none,ret:=false,res:=[ARes.tmp 2] }]
def ZdB(ms:List AV)(ks:List AV)(rs:List AV)(n2:Int):Zab:=[(6002,{ base:=0,blks:=[Blk.row 26 3 (Row.gen [AV.agg (Row.gen [AV.list (Row.big .str ms),AV.list (Row.big (.agg [.str, .int .i64]) ks),AV.list (Row.big (.agg [.str, .int .i64, .int .i64, .int .i64, .int .i64]) rs)])])] })]
abbrev Zjj(ms:List AV)(ks:List AV)(rs:List AV)(n2:Int):List AFrame×Zab:=(ZeR ms ks rs n2,ZdB ms ks rs n2)
theorem ZwH(A:Ar)(ms ks rs:List AV):ZaQ A tab B3 32 [true,true,true,true,true,true,true,true,true,true,true] 6 (f6e ms ks rs) []=
 some (tr [23,7] [A.lt 8 (A.int (A.lenA ms))],
  AV.bool false,none):=by kernel_rfl
theorem ZxH(A:Ar)(ms ks rs:List AV):ZaQ A tab B3 32 [false,false,false,false,false,true,true,true,true,true,true] 6 (f6e ms ks rs) []=
 some (tr [12,10,7] [A.lt 10 (A.int (A.lenA ks)),!A.lt 8 (A.int (A.lenA ms))],
  AV.bool false,none):=by kernel_rfl
theorem ZwY(A:Ar)(ms ks rs:List AV):ZaQ A tab B3 32 [false,false,false,false,false,false,false,false,false,false,true] 6 (f6e ms ks rs) []=
 some (tr [2,9,10,7] [A.lt 12 (A.int (A.lenA rs)),!A.lt 10 (A.int (A.lenA ks)),!A.lt 8 (A.int (A.lenA ms))],
  AV.bool false,none):=by kernel_rfl
theorem ZwK(A:Ar)(ms ks rs:List AV):Zau A tab B3 36 [false,false,false,false,false,false,false,false,false,false,false] (f6e ms ks rs) []=
 some (tr [1,9,10,7] [!A.lt 12 (A.int (A.lenA rs)),!A.lt 10 (A.int (A.lenA ks)),!A.lt 8 (A.int (A.lenA ms))],
  Zjb (ms) (ks) (rs) (0)):=by kernel_rfl
theorem Zxe(A:Ar)(ms ks rs:List AV)(n0:Int):ZaQ A tab B3 31 [true,true] 6 (ZfG ms ks rs n0) (Zdt ms ks rs n0)=
 some (tr [2,3,3,5] [A.lt 20 (A.int (A.lenS (AV.toS (A.nthA ms (A.nat n0))))),Zag (Zag (A.le 0 n0) (Nat.blt (A.nat n0) (A.lenA ms))) true,A.lt n0 (A.int (A.lenA ms))],
  AV.bool false,none):=by kernel_rfl
theorem ZwP(A:Ar)(ms ks rs:List AV)(n0:Int):Zau A tab B3 35 [true,false] (ZfG ms ks rs n0) (Zdt ms ks rs n0)=
 some (tr [1,1,3,3,5] [A.inR .i64 (A.add n0 1),!A.lt 20 (A.int (A.lenS (AV.toS (A.nthA ms (A.nat n0))))),Zag (Zag (A.le 0 n0) (Nat.blt (A.nat n0) (A.lenA ms))) true,A.lt n0 (A.int (A.lenA ms))],
  Zjb (ms) (ks) (rs) (A.add n0 1)):=by kernel_rfl
theorem ZxL(A:Ar)(ms ks rs:List AV)(n0:Int):Zau A tab B3 20 [false] (ZfG ms ks rs n0) (Zdt ms ks rs n0)=
 some (tr [1,5] [!A.lt n0 (A.int (A.lenA ms))],
  Zjv (ms) (ks) (rs) (0)):=by kernel_rfl
theorem Zxz(A:Ar)(ms ks rs:List AV)(n1:Int):ZaQ A tab B3 32 [true,true] 6 (Zfc ms ks rs n1) (ZdG ms ks rs n1)=
 some (tr [2,4,3,5] [A.lt 20 (A.int (A.lenS ((A.nthA ks (A.nat n1)).cellAt 0).toS)),Zag (Zag (A.le 0 n1) (Nat.blt (A.nat n1) (A.lenA ks))) true,A.lt n1 (A.int (A.lenA ks))],
  AV.bool false,none):=by kernel_rfl
theorem ZxD(A:Ar)(ms ks rs:List AV)(n1:Int):Zau A tab B3 36 [true,false] (Zfc ms ks rs n1) (ZdG ms ks rs n1)=
 some (tr [1,1,4,3,5] [A.inR .i64 (A.add n1 1),!A.lt 20 (A.int (A.lenS ((A.nthA ks (A.nat n1)).cellAt 0).toS)),Zag (Zag (A.le 0 n1) (Nat.blt (A.nat n1) (A.lenA ks))) true,A.lt n1 (A.int (A.lenA ks))],
  Zjv (ms) (ks) (rs) (A.add n1 1)):=by kernel_rfl
theorem ZwJ(A:Ar)(ms ks rs:List AV)(n1:Int):Zau A tab B3 20 [false] (Zfc ms ks rs n1) (ZdG ms ks rs n1)=
 some (tr [1,5] [!A.lt n1 (A.int (A.lenA ks))],
  Zjj (ms) (ks) (rs) (0)):=by kernel_rfl
theorem Zul(A:Ar)(ms ks rs:List AV)(n2:Int):ZaQ A tab B3 32 [true,true] 6 (ZeR ms ks rs n2) (ZdB ms ks rs n2)=
 some (tr [2,4,3,5] [A.lt 20 (A.int (A.lenS ((A.nthA rs (A.nat n2)).cellAt 0).toS)),Zag (Zag (A.le 0 n2) (Nat.blt (A.nat n2) (A.lenA rs))) true,A.lt n2 (A.int (A.lenA rs))],
  AV.bool false,none):=by kernel_rfl
theorem Zva(A:Ar)(ms ks rs:List AV)(n2:Int):Zau A tab B3 36 [true,false] (ZeR ms ks rs n2) (ZdB ms ks rs n2)=
 some (tr [1,1,4,3,5] [A.inR .i64 (A.add n2 1),!A.lt 20 (A.int (A.lenS ((A.nthA rs (A.nat n2)).cellAt 0).toS)),Zag (Zag (A.le 0 n2) (Nat.blt (A.nat n2) (A.lenA rs))) true,A.lt n2 (A.int (A.lenA rs))],
  Zjj (ms) (ks) (rs) (A.add n2 1)):=by kernel_rfl
theorem ZvO(A:Ar)(ms ks rs:List AV)(n2:Int):ZaQ A tab B3 17 [false] 6 (ZeR ms ks rs n2) (ZdB ms ks rs n2)=
 some (tr [2,5] [!A.lt n2 (A.int (A.lenA rs))],
  AV.bool true,none):=by kernel_rfl
def Zwy(ms:List AV)(ks:List AV)(rs:List AV):AFrame:={ fn:=7,N:=31,env:=[(0,AV.agg (Row.gen [.list (Row.big .str ms), .list (Row.big (.agg [.str, .int .i64]) ks), .list (Row.big (.agg [.str, .int .i64, .int .i64, .int .i64, .int .i64]) rs)]))],todo:=[.code a7.code],defs:=[],rnd:=none,ret:=false,res:=[ARes.cell 2 true 2,ARes.tmp 3] }
def f7e(ms:List AV)(ks:List AV)(rs:List AV):List AFrame:=[(Zwy ms ks rs)]
theorem Zqy(ms:List AV)(ks:List AV)(rs:List AV):ZaD tab 7 [AV.agg (Row.gen [.list (Row.big .str ms), .list (Row.big (.agg [.str, .int .i64]) ks), .list (Row.big (.agg [.str, .int .i64, .int .i64, .int .i64, .int .i64]) rs)])]=some (Zwy ms ks rs):=rfl
def ZcI(ms ks rs:List AV)(n0 n1 n2 n3 n4:Int)(x5:List AV):List AFrame:=[{ fn:=27,N:=83,env:=[(0,AV.ptr 7005 0 0 0),(1,AV.int .i64 1),(5,AV.fn 28 [AV.ptr 7002 0 0 0]),(6,AV.fn 29 []),(15,AV.mp 27045 0),(45,AV.int .i64 n0),(46,AV.int .i64 n4)],todo:=.code (ACode.gh [] Znp)::ZpO,defs:=[],rnd:=none,ret:=false,res:=[] },{ fn:=7,N:=31,env:=[(1,AV.ptr 7002 0 0 0),(2,AV.ptr 7003 0 0 0),(4,AV.ptr 7005 0 0 0),(5,AV.ptr 7006 0 0 0),(6,AV.ptr 7007 0 0 0),(7,AV.ptr 7008 0 0 0),(14,AV.int .i64 n1),(15,AV.fn 28 [AV.ptr 7002 0 0 0])],todo:=[AItem.inReg [oN 16 (OpK.icall 27 [Opd.t 4,cI 1,Opd.t 14,cI 1,cI 6,Opd.t 15,Opd.c (AV.fn 29 [])])], .code (ACode.seq (ACode.reg none [oN 17 (OpK.load false 1 (Opd.t 7)),oN 18 (OpK.mkfn 30 [Opd.t 1]),oN 19 (OpK.mkfn 31 [Opd.t 5,Opd.t 1,Opd.t 6]),oN 20 (OpK.icall 27 [Opd.t 4,cI 2,Opd.t 17,cI 1,cI 8,Opd.t 18,Opd.t 19])]) (ACode.seq (ACode.reg none [oN 21 (OpK.faddr 2 (Opd.t 1)),oN 22 (OpK.load false 1 (Opd.t 21)),oN 23 (OpK.len (Opd.t 22)),oN 24 (OpK.mkfn 33 [Opd.t 1]),oN 25 (OpK.mkfn 34 [Opd.t 1,Opd.t 7,Opd.t 5,Opd.t 6]),oN 26 (OpK.icall 27 [Opd.t 4,cI 3,Opd.t 23,cI 0,cI 10,Opd.t 24,Opd.t 25])]) (ACode.gh [Ghost.keep [2,4]] (ACode.seq (ACode.reg (some [(2,4),(3,4)]) [oN 27 (OpK.faddr 0 (Opd.t 4)),oN 28 (OpK.load true 2 (Opd.t 27)),oN 29 (OpK.faddr 2 (Opd.t 4)),oN 30 (OpK.load false 1 (Opd.t 29)),{ d:=none,g:=none,k:=OpK.store 2 (Opd.t 2) (Opd.t 28) },mV 3 30]) ACode.ret))))],defs:=[],rnd:=none,ret:=false,res:=[ARes.cell 2 true 2,ARes.tmp 3] }]
def ZbV(ms:List AV)(ks:List AV)(rs:List AV)(n0:Int)(n1:Int)(n2:Int)(n3:Int)(n4:Int)(x5:List AV):Zab:=[(7002,{ base:=0,blks:=[Blk.row 26 3 (Row.gen [AV.agg (Row.gen [AV.list (Row.big .str ms),AV.list (Row.big (.agg [.str, .int .i64]) ks),AV.list (Row.big (.agg [.str, .int .i64, .int .i64, .int .i64, .int .i64]) rs)])])] }),(7003,{ base:=0,blks:=[Blk.row 31 2 (Row.gen [AV.agg (Row.gen [AV.int .i64 0,AV.int .i64 0])])] }),(7005,{ base:=0,blks:=[Blk.row 79 3 (Row.gen [AV.agg (Row.gen [AV.int .i64 0,AV.int .i64 0,AV.int .i64 0])])] }),(7006,{ base:=0,blks:=[Blk.row 80 1 (Row.gen [AV.fn 25 []])] }),(7007,{ base:=0,blks:=[Blk.row 3 1 (Row.gen [.int .i64 n2])] }),(7008,{ base:=0,blks:=[Blk.row 3 1 (Row.gen [.int .i64 n3])] }),(27045,{ base:=0,blks:=[Blk.mp x5] })]
abbrev ZhO(ms:List AV)(ks:List AV)(rs:List AV)(n0:Int)(n1:Int)(n2:Int)(n3:Int)(n4:Int)(x5:List AV):List AFrame×Zab:=(ZcI ms ks rs n0 n1 n2 n3 n4 x5,ZbV ms ks rs n0 n1 n2 n3 n4 x5)
def ZcW(ms ks rs:List AV)(n1 n2 n3 n6:Int)(x7:List AV):List AFrame:=[{ fn:=27,N:=83,env:=[(0,AV.ptr 7005 0 0 0),(1,AV.int .i64 2),(5,AV.fn 30 [AV.ptr 7002 0 0 0]),(6,AV.fn 31 [AV.ptr 7006 0 0 0,AV.ptr 7002 0 0 0,AV.ptr 7007 0 0 0]),(15,AV.mp 27045 0),(45,AV.int .i64 n3),(46,AV.int .i64 n6)],todo:=.code (ACode.gh [] Znp)::ZpO,defs:=[],rnd:=none,ret:=false,res:=[] },{ fn:=7,N:=31,env:=[(1,AV.ptr 7002 0 0 0),(2,AV.ptr 7003 0 0 0),(4,AV.ptr 7005 0 0 0),(5,AV.ptr 7006 0 0 0),(6,AV.ptr 7007 0 0 0),(7,AV.ptr 7008 0 0 0),(14,AV.int .i64 n1),(15,AV.fn 28 [AV.ptr 7002 0 0 0]),(16,AV.tup []),(17,AV.int .i64 n3),(18,AV.fn 30 [AV.ptr 7002 0 0 0]),(19,AV.fn 31 [AV.ptr 7006 0 0 0,AV.ptr 7002 0 0 0,AV.ptr 7007 0 0 0])],todo:=[AItem.inReg [oN 20 (OpK.icall 27 [Opd.t 4,cI 2,Opd.t 17,cI 1,cI 8,Opd.t 18,Opd.t 19])], .code (ACode.seq (ACode.reg none [oN 21 (OpK.faddr 2 (Opd.t 1)),oN 22 (OpK.load false 1 (Opd.t 21)),oN 23 (OpK.len (Opd.t 22)),oN 24 (OpK.mkfn 33 [Opd.t 1]),oN 25 (OpK.mkfn 34 [Opd.t 1,Opd.t 7,Opd.t 5,Opd.t 6]),oN 26 (OpK.icall 27 [Opd.t 4,cI 3,Opd.t 23,cI 0,cI 10,Opd.t 24,Opd.t 25])]) (ACode.gh [Ghost.keep [2,4]] (ACode.seq (ACode.reg (some [(2,4),(3,4)]) [oN 27 (OpK.faddr 0 (Opd.t 4)),oN 28 (OpK.load true 2 (Opd.t 27)),oN 29 (OpK.faddr 2 (Opd.t 4)),oN 30 (OpK.load false 1 (Opd.t 29)),{ d:=none,g:=none,k:=OpK.store 2 (Opd.t 2) (Opd.t 28) },mV 3 30]) ACode.ret)))],defs:=[],rnd:=none,ret:=false,res:=[ARes.cell 2 true 2,ARes.tmp 3] }]
def ZbY(ms:List AV)(ks:List AV)(rs:List AV)(n1:Int)(n2:Int)(n3:Int)(n6:Int)(x7:List AV):Zab:=[(7002,{ base:=0,blks:=[Blk.row 26 3 (Row.gen [AV.agg (Row.gen [AV.list (Row.big .str ms),AV.list (Row.big (.agg [.str, .int .i64]) ks),AV.list (Row.big (.agg [.str, .int .i64, .int .i64, .int .i64, .int .i64]) rs)])])] }),(7003,{ base:=0,blks:=[Blk.row 31 2 (Row.gen [AV.agg (Row.gen [AV.int .i64 0,AV.int .i64 0])])] }),(7005,{ base:=0,blks:=[Blk.row 79 3 (Row.gen [AV.agg (Row.gen [AV.int .i64 0,AV.int .i64 0,AV.int .i64 0])])] }),(7006,{ base:=0,blks:=[Blk.row 80 1 (Row.gen [AV.fn 25 []])] }),(7007,{ base:=0,blks:=[Blk.row 3 1 (Row.gen [.int .i64 n2])] }),(7008,{ base:=0,blks:=[Blk.row 3 1 (Row.gen [.int .i64 n3])] }),(27045,{ base:=0,blks:=[Blk.mp x7] })]
abbrev ZhL(ms:List AV)(ks:List AV)(rs:List AV)(n1:Int)(n2:Int)(n3:Int)(n6:Int)(x7:List AV):List AFrame×Zab:=(ZcW ms ks rs n1 n2 n3 n6 x7,ZbY ms ks rs n1 n2 n3 n6 x7)
def ZdI(ms ks rs:List AV)(n1 n2 n3 n8 n9 n10:Int)(x11:List AV):List AFrame:=[{ fn:=27,N:=83,env:=[(0,AV.ptr 7005 0 0 0),(1,AV.int .i64 3),(5,AV.fn 33 [AV.ptr 7002 0 0 0]),(6,AV.fn 34 [AV.ptr 7002 0 0 0,AV.ptr 7008 0 0 0,AV.ptr 7006 0 0 0,AV.ptr 7007 0 0 0]),(15,AV.mp 27045 0),(45,AV.int .i64 n8),(46,AV.int .i64 n10)],todo:=.code (ACode.gh [] Znp)::ZpO,defs:=[],rnd:=none,ret:=false,res:=[] },{ fn:=7,N:=31,env:=[(1,AV.ptr 7002 0 0 0),(2,AV.ptr 7003 0 0 0),(4,AV.ptr 7005 0 0 0),(5,AV.ptr 7006 0 0 0),(6,AV.ptr 7007 0 0 0),(7,AV.ptr 7008 0 0 0),(14,AV.int .i64 n1),(15,AV.fn 28 [AV.ptr 7002 0 0 0]),(16,AV.tup []),(17,AV.int .i64 n3),(18,AV.fn 30 [AV.ptr 7002 0 0 0]),(19,AV.fn 31 [AV.ptr 7006 0 0 0,AV.ptr 7002 0 0 0,AV.ptr 7007 0 0 0]),(20,AV.tup []),(21,AV.ptr 7002 0 0 2),(22,AV.list (Row.big (.agg [.str, .int .i64, .int .i64, .int .i64, .int .i64]) rs)),(23,AV.int .i64 n9),(24,AV.fn 33 [AV.ptr 7002 0 0 0]),(25,AV.fn 34 [AV.ptr 7002 0 0 0,AV.ptr 7008 0 0 0,AV.ptr 7006 0 0 0,AV.ptr 7007 0 0 0])],todo:=[AItem.inReg [oN 26 (OpK.icall 27 [Opd.t 4,cI 3,Opd.t 23,cI 0,cI 10,Opd.t 24,Opd.t 25])], .code (ACode.gh [Ghost.keep [2,4]] (ACode.seq (ACode.reg (some [(2,4),(3,4)]) [oN 27 (OpK.faddr 0 (Opd.t 4)),oN 28 (OpK.load true 2 (Opd.t 27)),oN 29 (OpK.faddr 2 (Opd.t 4)),oN 30 (OpK.load false 1 (Opd.t 29)),{ d:=none,g:=none,k:=OpK.store 2 (Opd.t 2) (Opd.t 28) },mV 3 30]) ACode.ret))],defs:=[],rnd:=none,ret:=false,res:=[ARes.cell 2 true 2,ARes.tmp 3] }]
def ZcE(ms:List AV)(ks:List AV)(rs:List AV)(n1:Int)(n2:Int)(n3:Int)(n8:Int)(n9:Int)(n10:Int)(x11:List AV):Zab:=[(7002,{ base:=0,blks:=[Blk.row 26 3 (Row.gen [AV.agg (Row.gen [AV.list (Row.big .str ms),AV.list (Row.big (.agg [.str, .int .i64]) ks),AV.list (Row.big (.agg [.str, .int .i64, .int .i64, .int .i64, .int .i64]) rs)])])] }),(7003,{ base:=0,blks:=[Blk.row 31 2 (Row.gen [AV.agg (Row.gen [AV.int .i64 0,AV.int .i64 0])])] }),(7005,{ base:=0,blks:=[Blk.row 79 3 (Row.gen [AV.agg (Row.gen [AV.int .i64 0,AV.int .i64 0,AV.int .i64 0])])] }),(7006,{ base:=0,blks:=[Blk.row 80 1 (Row.gen [AV.fn 25 []])] }),(7007,{ base:=0,blks:=[Blk.row 3 1 (Row.gen [.int .i64 n2])] }),(7008,{ base:=0,blks:=[Blk.row 3 1 (Row.gen [.int .i64 n3])] }),(27045,{ base:=0,blks:=[Blk.mp x11] })]
abbrev ZhJ(ms:List AV)(ks:List AV)(rs:List AV)(n1:Int)(n2:Int)(n3:Int)(n8:Int)(n9:Int)(n10:Int)(x11:List AV):List AFrame×Zab:=(ZdI ms ks rs n1 n2 n3 n8 n9 n10 x11,ZcE ms ks rs n1 n2 n3 n8 n9 n10 x11)
theorem Zxg(A:Ar)(ms ks rs:List AV):ZaQ A tab B3 118 [false,true,true,true] 7 (f7e ms ks rs) []=
 some (tr [8,11,20,3,0,8,23] [A.not (A.eq (Zan [Zaa (A.le 1 (A.int (A.lenA ms))) 10,Zaa (A.le (A.int (A.lenA ms)) 6) 8]) 0),A.not (A.eq (Zan [Zaa (A.le 1 (A.int (A.lenA ms))) 10,Zaa (A.le (A.int (A.lenA ms)) 6) 8]) 0),A.not (A.eq (Zan [Zaa (A.le 1 (A.int (A.lenA ms))) 10,Zaa (A.le (A.int (A.lenA ms)) 6) 8]) 0),decide (List.length [Zaa (A.le 1 (A.int (A.lenA ms))) 10,Zaa (A.le (A.int (A.lenA ms)) 6) 8]≤1000000),List.all [AV.int .i64 (Zaa (A.le 1 (A.int (A.lenA ms))) 10),AV.int .i64 (Zaa (A.le (A.int (A.lenA ms)) 6) 8)] fun x=>AV.bx x&&Nat.beq (Zai A x) 1,!A.not (A.eq 0 0)],
  AV.tup [AV.agg (Row.gen [.int .i64 1, .int .i64 0]),AV.int .i64 (Zan [Zaa (A.le 1 (A.int (A.lenA ms))) 10,Zaa (A.le (A.int (A.lenA ms)) 6) 8])],none):=by kernel_rfl
theorem ZwR(A:Ar)(ms ks rs:List AV):Zau A tab B3 70 [false,false] (f7e ms ks rs) []=
 some (tr [4,3,0,8,23] [!A.not (A.eq (Zan [Zaa (A.le 1 (A.int (A.lenA ms))) 10,Zaa (A.le (A.int (A.lenA ms)) 6) 8]) 0),decide (List.length [Zaa (A.le 1 (A.int (A.lenA ms))) 10,Zaa (A.le (A.int (A.lenA ms)) 6) 8]≤1000000),List.all [AV.int .i64 (Zaa (A.le 1 (A.int (A.lenA ms))) 10),AV.int .i64 (Zaa (A.le (A.int (A.lenA ms)) 6) 8)] fun x=>AV.bx x&&Nat.beq (Zai A x) 1,!A.not (A.eq 0 0)],
  ZhO (ms) (ks) (rs) (A.int (A.lenA ms)) (A.int (A.lenA ms)) (A.int (A.lenA ms)) (A.int (A.lenA ks)) (0) ([])):=by kernel_rfl
theorem ZwX(A:Ar)(ms ks rs:List AV)(n0 n1 n2 n3 n4:Int)(x5:List AV):ZaQ A tab B3 107 [true,true,true,true] 7 (ZcI ms ks rs n0 n1 n2 n3 n4 x5) (ZbV ms ks rs n0 n1 n2 n3 n4 x5)=
 some (tr [8,11,21,3,0,6,4,0,4,1] [A.not (A.eq (Zan [Zaa (ZaP (ZaV ms n4)) 4,Zaa (A.not (A.hasS x5 (ZaV ms n4))) 5,0]) 0),A.not (A.eq (Zan [Zaa (ZaP (ZaV ms n4)) 4,Zaa (A.not (A.hasS x5 (ZaV ms n4))) 5,0]) 0),A.not (A.eq (Zan [Zaa (ZaP (ZaV ms n4)) 4,Zaa (A.not (A.hasS x5 (ZaV ms n4))) 5,0]) 0),decide (List.length [Zaa (ZaP (ZaV ms n4)) 4,Zaa (A.not (A.hasS x5 (ZaV ms n4))) 5,0]≤1000000),List.all [AV.int .i64 (Zaa (ZaP (ZaV ms n4)) 4),AV.int .i64 (Zaa (A.not (A.hasS x5 (ZaV ms n4))) 5),AV.int .i64 0] fun x=>AV.bx x&&Nat.beq (Zai A x) 1,decide (0≤n4∧n4< ↑(List.length ms)),decide (List.length (ZaV ms n4)≤1000000),decide (0≤n4∧n4< ↑(List.length ms)),A.lt n4 n0],
  AV.tup [AV.agg (Row.gen [.int .i64 1, .int .i64 n4]),AV.int .i64 (Zan [Zaa (ZaP (ZaV ms n4)) 4,Zaa (A.not (A.hasS x5 (ZaV ms n4))) 5,0])],none):=by kernel_rfl
theorem ZxG(A:Ar)(ms ks rs:List AV)(n0 n1 n2 n3 n4:Int)(x5:List AV):Zau A tab B3 59 [true,false] (ZcI ms ks rs n0 n1 n2 n3 n4 x5) (ZbV ms ks rs n0 n1 n2 n3 n4 x5)=
 some (tr [1,0,0,3,3,0,6,4,0,4,1] [A.inR .i64 (A.add n4 1),A.not (A.hasS x5 (ZaV ms n4)),decide (0≤n4∧n4< ↑(List.length ms)),!A.not (A.eq (Zan [Zaa (ZaP (ZaV ms n4)) 4,Zaa (A.not (A.hasS x5 (ZaV ms n4))) 5,0]) 0),decide (List.length [Zaa (ZaP (ZaV ms n4)) 4,Zaa (A.not (A.hasS x5 (ZaV ms n4))) 5,0]≤1000000),List.all [AV.int .i64 (Zaa (ZaP (ZaV ms n4)) 4),AV.int .i64 (Zaa (A.not (A.hasS x5 (ZaV ms n4))) 5),AV.int .i64 0] fun x=>AV.bx x&&Nat.beq (Zai A x) 1,decide (0≤n4∧n4< ↑(List.length ms)),decide (List.length (ZaV ms n4)≤1000000),decide (0≤n4∧n4< ↑(List.length ms)),A.lt n4 n0],
  ZhO (ms) (ks) (rs) (n0) (n1) (n2) (n3) (A.add n4 1) (A.appA x5 [AV.str (ZaV ms n4)])):=by kernel_rfl
theorem Zxw(A:Ar)(ms ks rs:List AV)(n0 n1 n2 n3 n4:Int)(x5:List AV):ZaQ A tab B3 93 [false,false,true,true] 7 (ZcI ms ks rs n0 n1 n2 n3 n4 x5) (ZbV ms ks rs n0 n1 n2 n3 n4 x5)=
 some (tr [8,22,3,0,8,9,1] [A.not (A.eq (Zan [Zaa (A.le 1 n3) 10,Zaa (A.le n3 8) 8]) 0),A.not (A.eq (Zan [Zaa (A.le 1 n3) 10,Zaa (A.le n3 8) 8]) 0),decide (List.length [Zaa (A.le 1 n3) 10,Zaa (A.le n3 8) 8]≤1000000),List.all [AV.int .i64 (Zaa (A.le 1 n3) 10),AV.int .i64 (Zaa (A.le n3 8) 8)] fun x=>AV.bx x&&Nat.beq (Zai A x) 1,!A.not (A.eq 0 0),!A.lt n4 n0],
  AV.tup [AV.agg (Row.gen [.int .i64 2, .int .i64 0]),AV.int .i64 (Zan [Zaa (A.le 1 n3) 10,Zaa (A.le n3 8) 8])],none):=by kernel_rfl
theorem ZxJ(A:Ar)(ms ks rs:List AV)(n0 n1 n2 n3 n4:Int)(x5:List AV):Zau A tab B3 64 [false,false,false] (ZcI ms ks rs n0 n1 n2 n3 n4 x5) (ZbV ms ks rs n0 n1 n2 n3 n4 x5)=
 some (tr [4,3,0,8,9,1] [!A.not (A.eq (Zan [Zaa (A.le 1 n3) 10,Zaa (A.le n3 8) 8]) 0),decide (List.length [Zaa (A.le 1 n3) 10,Zaa (A.le n3 8) 8]≤1000000),List.all [AV.int .i64 (Zaa (A.le 1 n3) 10),AV.int .i64 (Zaa (A.le n3 8) 8)] fun x=>AV.bx x&&Nat.beq (Zai A x) 1,!A.not (A.eq 0 0),!A.lt n4 n0],
  ZhL (ms) (ks) (rs) (n1) (n2) (n3) (0) ([])):=by kernel_rfl
theorem Zw2(A:Ar)(ms ks rs:List AV)(n1 n2 n3 n6:Int)(x7:List AV):ZaQ A tab B3 88 [true,true,true] 7 (ZcW ms ks rs n1 n2 n3 n6 x7) (ZbY ms ks rs n1 n2 n3 n6 x7)=
 some (tr [8,23,3,0,0,5,4,0,4,1] [A.not (A.eq (Zan [Zaa (ZaP (Zav ks n6)) 4,Zaa (A.not (A.hasS x7 (Zav ks n6))) 5,Zb8 ks n6 n2]) 0),A.not (A.eq (Zan [Zaa (ZaP (Zav ks n6)) 4,Zaa (A.not (A.hasS x7 (Zav ks n6))) 5,Zb8 ks n6 n2]) 0),decide (List.length [Zaa (ZaP (Zav ks n6)) 4,Zaa (A.not (A.hasS x7 (Zav ks n6))) 5,Zb8 ks n6 n2]≤1000000),List.all [AV.int .i64 (Zaa (ZaP (Zav ks n6)) 4),AV.int .i64 (Zaa (A.not (A.hasS x7 (Zav ks n6))) 5),AV.int .i64 (Zb8 ks n6 n2)] fun x=>AV.bx x&&Nat.beq (Zai A x) 1,decide ((0≤n6∧n6< ↑(List.length ks))∧ -1000000≤n2∧n2≤1000000),decide (0≤n6∧n6< ↑(List.length ks)),decide (List.length (Zav ks n6)≤1000000),decide (0≤n6∧n6< ↑(List.length ks)),A.lt n6 n3],
  AV.tup [AV.agg (Row.gen [.int .i64 2, .int .i64 n6]),AV.int .i64 (Zan [Zaa (ZaP (Zav ks n6)) 4,Zaa (A.not (A.hasS x7 (Zav ks n6))) 5,Zb8 ks n6 n2])],none):=by kernel_rfl
theorem Zw8(A:Ar)(ms ks rs:List AV)(n1 n2 n3 n6:Int)(x7:List AV):Zau A tab B3 59 [true,false] (ZcW ms ks rs n1 n2 n3 n6 x7) (ZbY ms ks rs n1 n2 n3 n6 x7)=
 some (tr [1,0,0,3,3,0,0,5,4,0,4,1] [A.inR .i64 (A.add n6 1),A.not (A.hasS x7 (Zav ks n6)),decide (0≤n6∧n6< ↑(List.length ks)),!A.not (A.eq (Zan [Zaa (ZaP (Zav ks n6)) 4,Zaa (A.not (A.hasS x7 (Zav ks n6))) 5,Zb8 ks n6 n2]) 0),decide (List.length [Zaa (ZaP (Zav ks n6)) 4,Zaa (A.not (A.hasS x7 (Zav ks n6))) 5,Zb8 ks n6 n2]≤1000000),List.all [AV.int .i64 (Zaa (ZaP (Zav ks n6)) 4),AV.int .i64 (Zaa (A.not (A.hasS x7 (Zav ks n6))) 5),AV.int .i64 (Zb8 ks n6 n2)] fun x=>AV.bx x&&Nat.beq (Zai A x) 1,decide ((0≤n6∧n6< ↑(List.length ks))∧ -1000000≤n2∧n2≤1000000),decide (0≤n6∧n6< ↑(List.length ks)),decide (List.length (Zav ks n6)≤1000000),decide (0≤n6∧n6< ↑(List.length ks)),A.lt n6 n3],
  ZhL (ms) (ks) (rs) (n1) (n2) (n3) (A.add n6 1) (A.appA x7 [AV.str (Zav ks n6)])):=by kernel_rfl
theorem ZwQ(A:Ar)(ms ks rs:List AV)(n1 n2 n3 n6:Int)(x7:List AV):ZaQ A tab B3 74 [false,false,true] 7 (ZcW ms ks rs n1 n2 n3 n6 x7) (ZbY ms ks rs n1 n2 n3 n6 x7)=
 some (tr [19,3,0,8,11,1] [A.not (A.eq (Zan [Zaa (A.le 0 (A.int (A.lenA rs))) 10,Zaa (A.le (A.int (A.lenA rs)) 10) 8]) 0),decide (List.length [Zaa (A.le 0 (A.int (A.lenA rs))) 10,Zaa (A.le (A.int (A.lenA rs)) 10) 8]≤1000000),List.all [AV.int .i64 (Zaa (A.le 0 (A.int (A.lenA rs))) 10),AV.int .i64 (Zaa (A.le (A.int (A.lenA rs)) 10) 8)] fun x=>AV.bx x&&Nat.beq (Zai A x) 1,!A.not (A.eq 0 0),!A.lt n6 n3],
  AV.tup [AV.agg (Row.gen [.int .i64 3, .int .i64 0]),AV.int .i64 (Zan [Zaa (A.le 0 (A.int (A.lenA rs))) 10,Zaa (A.le (A.int (A.lenA rs)) 10) 8])],none):=by kernel_rfl
theorem ZxB(A:Ar)(ms ks rs:List AV)(n1 n2 n3 n6:Int)(x7:List AV):Zau A tab B3 66 [false,false,false] (ZcW ms ks rs n1 n2 n3 n6 x7) (ZbY ms ks rs n1 n2 n3 n6 x7)=
 some (tr [4,3,0,8,11,1] [!A.not (A.eq (Zan [Zaa (A.le 0 (A.int (A.lenA rs))) 10,Zaa (A.le (A.int (A.lenA rs)) 10) 8]) 0),decide (List.length [Zaa (A.le 0 (A.int (A.lenA rs))) 10,Zaa (A.le (A.int (A.lenA rs)) 10) 8]≤1000000),List.all [AV.int .i64 (Zaa (A.le 0 (A.int (A.lenA rs))) 10),AV.int .i64 (Zaa (A.le (A.int (A.lenA rs)) 10) 8)] fun x=>AV.bx x&&Nat.beq (Zai A x) 1,!A.not (A.eq 0 0),!A.lt n6 n3],
  ZhJ (ms) (ks) (rs) (n1) (n2) (n3) (A.int (A.lenA rs)) (A.int (A.lenA rs)) (0) ([])):=by kernel_rfl
theorem ZuL(A:Ar)(ms ks rs:List AV)(n1 n2 n3 n8 n9 n10:Int)(x11:List AV):ZaQ A tab B3 67 [true,true] 7 (ZdI ms ks rs n1 n2 n3 n8 n9 n10 x11) (ZcE ms ks rs n1 n2 n3 n8 n9 n10 x11)=
 some (tr [20,3,0,0,5,4,0,4,1] [A.not (A.eq (Zan [Zaa (ZaP (Zav rs n10)) 4,Zaa (A.not (A.hasS x11 (Zav rs n10))) 5,Zbw rs n10 n3 n2]) 0),decide (List.length [Zaa (ZaP (Zav rs n10)) 4,Zaa (A.not (A.hasS x11 (Zav rs n10))) 5,Zbw rs n10 n3 n2]≤1000000),List.all [AV.int .i64 (Zaa (ZaP (Zav rs n10)) 4),AV.int .i64 (Zaa (A.not (A.hasS x11 (Zav rs n10))) 5),AV.int .i64 (Zbw rs n10 n3 n2)] fun x=>AV.bx x&&Nat.beq (Zai A x) 1,decide ((0≤n10∧n10< ↑(List.length rs))∧(-1000000≤n3∧n3≤1000000)∧ -1000000≤n2∧n2≤1000000),decide (0≤n10∧n10< ↑(List.length rs)),decide (List.length (Zav rs n10)≤1000000),decide (0≤n10∧n10< ↑(List.length rs)),A.lt n10 n8],
  AV.tup [AV.agg (Row.gen [.int .i64 3, .int .i64 n10]),AV.int .i64 (Zan [Zaa (ZaP (Zav rs n10)) 4,Zaa (A.not (A.hasS x11 (Zav rs n10))) 5,Zbw rs n10 n3 n2])],none):=by kernel_rfl
theorem Zu9(A:Ar)(ms ks rs:List AV)(n1 n2 n3 n8 n9 n10:Int)(x11:List AV):Zau A tab B3 59 [true,false] (ZdI ms ks rs n1 n2 n3 n8 n9 n10 x11) (ZcE ms ks rs n1 n2 n3 n8 n9 n10 x11)=
 some (tr [1,0,0,3,3,0,0,5,4,0,4,1] [A.inR .i64 (A.add n10 1),A.not (A.hasS x11 (Zav rs n10)),decide (0≤n10∧n10< ↑(List.length rs)),!A.not (A.eq (Zan [Zaa (ZaP (Zav rs n10)) 4,Zaa (A.not (A.hasS x11 (Zav rs n10))) 5,Zbw rs n10 n3 n2]) 0),decide (List.length [Zaa (ZaP (Zav rs n10)) 4,Zaa (A.not (A.hasS x11 (Zav rs n10))) 5,Zbw rs n10 n3 n2]≤1000000),List.all [AV.int .i64 (Zaa (ZaP (Zav rs n10)) 4),AV.int .i64 (Zaa (A.not (A.hasS x11 (Zav rs n10))) 5),AV.int .i64 (Zbw rs n10 n3 n2)] fun x=>AV.bx x&&Nat.beq (Zai A x) 1,decide ((0≤n10∧n10< ↑(List.length rs))∧(-1000000≤n3∧n3≤1000000)∧ -1000000≤n2∧n2≤1000000),decide (0≤n10∧n10< ↑(List.length rs)),decide (List.length (Zav rs n10)≤1000000),decide (0≤n10∧n10< ↑(List.length rs)),A.lt n10 n8],
  ZhJ (ms) (ks) (rs) (n1) (n2) (n3) (n8) (n9) (A.add n10 1) (A.appA x11 [AV.str (Zav rs n10)])):=by kernel_rfl
theorem ZtM(A:Ar)(ms ks rs:List AV)(n1 n2 n3 n8 n9 n10:Int)(x11:List AV):ZaQ A tab B3 15 [false] 7 (ZdI ms ks rs n1 n2 n3 n8 n9 n10 x11) (ZcE ms ks rs n1 n2 n3 n8 n9 n10 x11)=
 some (tr [8,1] [!A.lt n10 n8],
  AV.tup [AV.agg (Row.gen [.int .i64 0, .int .i64 0]),AV.int .i64 0],none):=by kernel_rfl
def ZsW(ms:List AV)(ks:List AV)(rs:List AV)(l:List AV):AFrame:={ fn:=12,N:=64,env:=[(0,AV.agg (Row.gen [.list (Row.big .str ms), .list (Row.big (.agg [.str, .int .i64]) ks), .list (Row.big (.agg [.str, .int .i64, .int .i64, .int .i64, .int .i64]) rs)])),(1,AV.list (Row.big (.agg [.int .i64, .int .i64, .int .i64]) l))],todo:=[.code a12.code],defs:=[],rnd:=none,ret:=false,res:=[ARes.tmp 4,ARes.tmp 5] }
def Zvi(ms:List AV)(ks:List AV)(rs:List AV)(l:List AV):List AFrame:=[(ZsW ms ks rs l)]
theorem Zqc(ms:List AV)(ks:List AV)(rs:List AV)(l:List AV):ZaD tab 12 [AV.agg (Row.gen [.list (Row.big .str ms), .list (Row.big (.agg [.str, .int .i64]) ks), .list (Row.big (.agg [.str, .int .i64, .int .i64, .int .i64, .int .i64]) rs)]),AV.list (Row.big (.agg [.int .i64, .int .i64, .int .i64]) l)]=some (ZsW ms ks rs l):=rfl
def Zbp(ms ks rs l:List AV)(n0:Int):List AFrame:=[{ fn:=12,N:=64,env:=[(1,AV.list (Row.big (.agg [.int .i64, .int .i64, .int .i64]) l)),(2,AV.ptr 12003 0 0 0),(6,AV.int .i64 n0)],todo:=.code (ACode.gh [] ZsV)::Zux,defs:=[],rnd:=none,ret:=false,res:=[ARes.tmp 4,ARes.tmp 5] }]
def Zbe(ms:List AV)(ks:List AV)(rs:List AV)(l:List AV)(n0:Int):Zab:=[(12003,{ base:=0,blks:=[Blk.row 26 3 (Row.gen [AV.agg (Row.gen [AV.list (Row.big .str ms),AV.list (Row.big (.agg [.str, .int .i64]) ks),AV.list (Row.big (.agg [.str, .int .i64, .int .i64, .int .i64, .int .i64]) rs)])])] })]
abbrev Zgj(ms:List AV)(ks:List AV)(rs:List AV)(l:List AV)(n0:Int):List AFrame×Zab:=(Zbp ms ks rs l n0,Zbe ms ks rs l n0)
theorem Zvj(A:Ar)(ms ks rs l:List AV):ZaQ A tab B3 20 [true] 12 (Zvi ms ks rs l) []=
 some (tr [3,6] [A.eq (A.int (A.lenA l)) 0],
  AV.tup [AV.int .i64 0,AV.int .i64 10],none):=by kernel_rfl
theorem Zuc(A:Ar)(ms ks rs l:List AV):ZaQ A tab B3 29 [false,true] 12 (Zvi ms ks rs l) []=
 some (tr [3,3,6] [A.lt 12 (A.int (A.lenA l)),!A.eq (A.int (A.lenA l)) 0],
  AV.tup [AV.int .i64 0,AV.int .i64 8],none):=by kernel_rfl
theorem ZuX(A:Ar)(ms ks rs l:List AV):Zau A tab B3 32 [false,false] (Zvi ms ks rs l) []=
 some (tr [1,3,6] [!A.lt 12 (A.int (A.lenA l)),!A.eq (A.int (A.lenA l)) 0],
  Zgj (ms) (ks) (rs) (l) (0)):=by kernel_rfl
theorem Zu2(A:Ar)(ms ks rs l:List AV)(n0:Int):ZaQ A tab B3 25 [true,true] 12 (Zbp ms ks rs l n0) (Zbe ms ks rs l n0)=
 some (tr [4,2,5,2,4] [A.not (Zaf ((A.nthA l (A.nat n0)).cellAt 0).toI 0 (A.sub (A.int (A.lenA ks)) 1)),A.inR .i64 (A.sub (A.int (A.lenA ks)) 1),Zag (Zag (A.le 0 n0) (Nat.blt (A.nat n0) (A.lenA l))) true,A.lt n0 (A.int (A.lenA l))],
  AV.tup [AV.int .i64 n0,AV.int .i64 15],none):=by kernel_rfl
theorem ZuT(A:Ar)(ms ks rs l:List AV)(n0:Int):ZaQ A tab B3 50 [true,false,true,true,true,true,true,true,true,true,true,true] 12 (Zbp ms ks rs l n0) (Zbe ms ks rs l n0)=
 some (tr [22,6,2,2,5,2,4] [A.not (Zaf ((A.nthA l (A.nat n0)).cellAt 1).toI 0 1000000000000),Zag (Zag (A.le 0 n0) (Nat.blt (A.nat n0) (A.lenA l))) true,!A.not (Zaf ((A.nthA l (A.nat n0)).cellAt 0).toI 0 (A.sub (A.int (A.lenA ks)) 1)),A.inR .i64 (A.sub (A.int (A.lenA ks)) 1),Zag (Zag (A.le 0 n0) (Nat.blt (A.nat n0) (A.lenA l))) true,A.lt n0 (A.int (A.lenA l))],
  AV.tup [AV.int .i64 n0,AV.int .i64 2],none):=by kernel_rfl
theorem Ztw(A:Ar)(ms ks rs l:List AV)(n0:Int):ZaQ A tab B3 50 [true,false,false,false,false,false,false,false,false,false,false,true] 12 (Zbp ms ks rs l n0) (Zbe ms ks rs l n0)=
 some (tr [4,12,4,6,2,2,5,2,4] [A.not (Zaf ((A.nthA l (A.nat n0)).cellAt 2).toI 0 1000000000000),Zag (Zag (A.le 0 n0) (Nat.blt (A.nat n0) (A.lenA l))) true,!A.not (Zaf ((A.nthA l (A.nat n0)).cellAt 1).toI 0 1000000000000),Zag (Zag (A.le 0 n0) (Nat.blt (A.nat n0) (A.lenA l))) true,!A.not (Zaf ((A.nthA l (A.nat n0)).cellAt 0).toI 0 (A.sub (A.int (A.lenA ks)) 1)),A.inR .i64 (A.sub (A.int (A.lenA ks)) 1),Zag (Zag (A.le 0 n0) (Nat.blt (A.nat n0) (A.lenA l))) true,A.lt n0 (A.int (A.lenA l))],
  AV.tup [AV.int .i64 n0,AV.int .i64 2],none):=by kernel_rfl
theorem Zt8(A:Ar)(ms ks rs l:List AV)(n0:Int):ZaQ A tab B3 55 [true,false,false,false,false,false,false,false,false,false,false,false,true] 12 (Zbp ms ks rs l n0) (Zbe ms ks rs l n0)=
 some (tr [4,4,5,2,12,4,6,2,2,5,2,4] [A.lt ((A.nthA l (A.nat n0)).cellAt 2).toI ((A.nthA l (A.nat n0)).cellAt 1).toI,Zag (Zag (A.le 0 n0) (Nat.blt (A.nat n0) (A.lenA l))) true,Zag (Zag (A.le 0 n0) (Nat.blt (A.nat n0) (A.lenA l))) true,!A.not (Zaf ((A.nthA l (A.nat n0)).cellAt 2).toI 0 1000000000000),Zag (Zag (A.le 0 n0) (Nat.blt (A.nat n0) (A.lenA l))) true,!A.not (Zaf ((A.nthA l (A.nat n0)).cellAt 1).toI 0 1000000000000),Zag (Zag (A.le 0 n0) (Nat.blt (A.nat n0) (A.lenA l))) true,!A.not (Zaf ((A.nthA l (A.nat n0)).cellAt 0).toI 0 (A.sub (A.int (A.lenA ks)) 1)),A.inR .i64 (A.sub (A.int (A.lenA ks)) 1),Zag (Zag (A.le 0 n0) (Nat.blt (A.nat n0) (A.lenA l))) true,A.lt n0 (A.int (A.lenA l))],
  AV.tup [AV.int .i64 n0,AV.int .i64 9],none):=by kernel_rfl
theorem Zum(A:Ar)(ms ks rs l:List AV)(n0:Int):Zau A tab B3 57 [true,false,false,false,false,false,false,false,false,false,false,false,false] (Zbp ms ks rs l n0) (Zbe ms ks rs l n0)=
 some (tr [1,1,4,5,2,12,4,6,2,2,5,2,4] [A.inR .i64 (A.add n0 1),!A.lt ((A.nthA l (A.nat n0)).cellAt 2).toI ((A.nthA l (A.nat n0)).cellAt 1).toI,Zag (Zag (A.le 0 n0) (Nat.blt (A.nat n0) (A.lenA l))) true,Zag (Zag (A.le 0 n0) (Nat.blt (A.nat n0) (A.lenA l))) true,!A.not (Zaf ((A.nthA l (A.nat n0)).cellAt 2).toI 0 1000000000000),Zag (Zag (A.le 0 n0) (Nat.blt (A.nat n0) (A.lenA l))) true,!A.not (Zaf ((A.nthA l (A.nat n0)).cellAt 1).toI 0 1000000000000),Zag (Zag (A.le 0 n0) (Nat.blt (A.nat n0) (A.lenA l))) true,!A.not (Zaf ((A.nthA l (A.nat n0)).cellAt 0).toI 0 (A.sub (A.int (A.lenA ks)) 1)),A.inR .i64 (A.sub (A.int (A.lenA ks)) 1),Zag (Zag (A.le 0 n0) (Nat.blt (A.nat n0) (A.lenA l))) true,A.lt n0 (A.int (A.lenA l))],
  Zgj (ms) (ks) (rs) (l) (A.add n0 1)):=by kernel_rfl
theorem ZuC(A:Ar)(ms ks rs l:List AV)(n0:Int):ZaQ A tab B3 17 [false] 12 (Zbp ms ks rs l n0) (Zbe ms ks rs l n0)=
 some (tr [3,4] [!A.lt n0 (A.int (A.lenA l))],
  AV.tup [AV.int .i64 0,AV.int .i64 0],none):=by kernel_rfl
end Go.Proofs.YtkeoeooghhjibaaDoor
/- Paths of functions, printed by the explorer (Gx). No condition. -/
namespace Go.Proofs.YtkeoeooghhjibaaDoor
set_option maxRecDepth 100000
set_option linter.unusedVariables false
def ZnS(s:List UInt8):AFrame:={ fn:=41,N:=18,env:=[(0,AV.nils),(1,AV.str s)],todo:=[.code a41.code],defs:=[],rnd:=none,ret:=false,res:=[ARes.tmp 4] }
def Zt3(s:List UInt8):List AFrame:=[(ZnS s)]
theorem Zm0(s:List UInt8):ZaD tab 41 [AV.nils,AV.str s]=some (ZnS s):=rfl
def Zf7(s:List UInt8):List AFrame:=[{ fn:=41,N:=18,env:=[(0,AV.nils),(1,AV.str s),(5,AV.int .i64 0)],todo:=.code (ACode.gh [] ZoK)::ZsG,defs:=[],rnd:=none,ret:=false,res:=[ARes.tmp 4] }]
def ZfD(s:List UInt8):Zab:=[]
abbrev Ziy(s:List UInt8):List AFrame×Zab:=(Zf7 s,ZfD s)
theorem ZsJ(A:Ar)(s:List UInt8):Zau A tab B3 12 [] (Zt3 s) []=
 some (tr [2] [],
  Ziy (s)):=by kernel_rfl
theorem ZsF(A:Ar)(s:List UInt8):ZaQ A tab B3 16 [false] 41 (Zf7 s) (ZfD s)=
 some (tr [2,4] [!A.lt 0 (A.int 0)],
  AV.bool false,none):=by kernel_rfl
end Go.Proofs.YtkeoeooghhjibaaDoor
/- CheckModel of the program. No condition. -/
namespace Go.Proofs.YtkeoeooghhjibaaDoor
def Za4(p i e:Int):AV:=.tup [.agg (.gen [.int .i64 p, .int .i64 i]), .int .i64 e]
def ZbS(nm:List UInt8)(ex:Int)(xs:List AV):Int:=Zan [Zaa (ZaP nm) 4,Zaa (!std.hasS xs nm) 5,ex]
def ZbG(a b:Bool):Int:=Zan [Zaa a 10,Zaa b 8]
def Za7(nm:Nat→List UInt8)(ex:Nat→Int):Nat→Nat→List AV→Option (Nat×Int)
 |0,_,_=>none
 |m+1,k,xs=>if ZbS (nm k) (ex k) xs=0 then Za7 nm ex m (k+1) (xs++[.str (nm k)])else some (k,ZbS (nm k) (ex k) xs)
def Zbn(p:Int)(o:Option (Nat×Int))(d:AV):AV:=match o with |some (k,e)=>Za4 p k e |none=>d
def Zlg(ms ks rs:List AV):AV:=Zbn 3 (Za7 (fun k=>Zav rs k) (fun k=>Zbw rs k ks.length ms.length) rs.length 0 []) (Za4 0 0 0)
def Zmj(ms ks rs:List AV):AV:=Zbn 2 (Za7 (fun k=>Zav ks k) (fun k=>Zb8 ks k ms.length) ks.length 0 []) (if ZbG (decide (0≤(rs.length:Int))) (decide ((rs.length:Int)≤10))=0 then Zlg ms ks rs else Za4 3 0 (ZbG (decide (0≤(rs.length:Int))) (decide ((rs.length:Int)≤10))))
def Zo1(ms ks rs:List AV):AV:=Zbn 1 (Za7 (fun k=>ZaV ms k) (fun _=>0) ms.length 0 []) (if ZbG (decide (1≤(ks.length:Int))) (decide ((ks.length:Int)≤8))=0 then Zmj ms ks rs else Za4 2 0 (ZbG (decide (1≤(ks.length:Int))) (decide ((ks.length:Int)≤8))))
def Zc6(ms ks rs:List AV):AV:=if ZbG (decide (1≤(ms.length:Int))) (decide ((ms.length:Int)≤6))=0 then Zo1 ms ks rs else Za4 1 0 (ZbG (decide (1≤(ms.length:Int))) (decide ((ms.length:Int)≤6)))
def ZaG(ms ks rs:List AV):Bool:=(ms.all fun x=>decide (x.toS.length≤1000000))&&(ks.all fun x=>decide ((x.cellAt 0).toS.length≤1000000))&&(rs.all fun x=>decide ((x.cellAt 0).toS.length≤1000000))&&decide (ms.length≤1000000∧ks.length≤1000000∧rs.length≤1000000)
theorem Zk8{xs:List AV}{k:Nat}(h:k<xs.length):xs.getD k .top∈xs:=by
 rw[List.getD_eq_getElem?_getD,List.getElem?_eq_getElem h];exact List.getElem_mem h
theorem Zby{ks:List AV}(h:(ks.all fun x=>decide ((x.cellAt 0).toS.length≤1000000))=true){k:Nat}(hk:k<ks.length):(Zav ks k).length≤1000000:=by
 have:=List.all_eq_true.1 h _ (Zk8 hk)
 simpa[Zav]using this
theorem Zgc{ks:List AV}(h:(ks.all fun x=>decide (x.toS.length≤1000000))=true){k:Nat}(hk:k<ks.length):(ZaV ks k).length≤1000000:=by
 have:=List.all_eq_true.1 h _ (Zk8 hk)
 simpa[ZaV]using this
theorem Zr5{a b c:Int}(h:Zan [a,b,c]=0):a=0∧b=0∧c=0:=by
 simp only[Zan]at h
 by_cases h1:a=0
 ·by_cases h2:b=0
  ·by_cases h3:c=0
   ·exact⟨h1,h2,h3⟩
   ·simp[h1,h2,h3]at h
  ·simp[h1,h2]at h
 ·simp[h1]at h
theorem Zg9{nm:List UInt8}{ex:Int}{xs:List AV}(h:ZbS nm ex xs=0):std.hasS xs nm=false:=by
 have:=(Zr5 h).2.1
 unfold Zaa at this
 split at this
 ·rename_i e;simpa using e
 ·cases this
theorem bx3(x y z:Int):([AV.int .i64 x,AV.int .i64 y,AV.int .i64 z].all fun x=>AV.bx x&&Nat.beq (Zai std x) 1)=true:=rfl
theorem bx2(x y:Int):([AV.int .i64 x,AV.int .i64 y].all fun x=>AV.bx x&&Nat.beq (Zai std x) 1)=true:=rfl
section
variable {C:Ctx}(hC:C.P=Tryd.prog)(ms ks rs:List AV)(hs:ZaG ms ks rs=true)
include hC hs
theorem ZrD(n1:Int):∀(m k:Nat) (xs:List AV),k+m=rs.length→Ev C (ZdI ms ks rs n1 ms.length ks.length rs.length rs.length k xs) (ZcE ms ks rs n1 ms.length ks.length rs.length rs.length k xs)
 (ZcP 7 (Zbn 3 (Za7 (fun k=>Zav rs k) (fun k=>Zbw rs k ks.length ms.length) m k xs) (Za4 0 0 0)) none)
 |0,k,xs,hk=>fin hC ZaU (ZtM std ms ks rs n1 ms.length ks.length rs.length rs.length k xs) (by simp;omega) rfl rfl
 |m+1,k,xs,hk=>by
  simp only[ZaG,Bool.and_eq_true,decide_eq_true_eq]at hs
  have hn:=Zby hs.1.2 (show k<rs.length by omega)
  by_cases h:ZbS (Zav rs k) (Zbw rs k ks.length ms.length) xs=0
  ·have hnew:=Zg9 h
   have h':=h
   unfold ZbS at h'
   refine go hC ZaU (Zu9 std ms ks rs n1 ms.length ks.length rs.length rs.length k xs) (by simp only[bx3];simp[-Zcw,hnew,hn];simp[-Zcw,hnew]at h';simp[h'];omega) ?_
   have:=ZrD n1 m (k+1) (xs++[.str (Zav rs k)]) (by omega)
   rw[Za7,if_pos h]
   exact this
  ·have h':=h
   unfold ZbS at h'
   rw[Za7,if_neg h]
   exact fin hC ZaU (ZuL std ms ks rs n1 ms.length ks.length rs.length rs.length k xs) (by simp only[bx3];simp[-Zcw,hn,h'];omega) rfl rfl
theorem ZrY(n1:Int):∀(m k:Nat) (xs:List AV),k+m=ks.length→Ev C (ZcW ms ks rs n1 ms.length ks.length k xs) (ZbY ms ks rs n1 ms.length ks.length k xs)
 (ZcP 7 (Zbn 2 (Za7 (fun k=>Zav ks k) (fun k=>Zb8 ks k ms.length) m k xs) (if ZbG (decide (0≤(rs.length:Int))) (decide ((rs.length:Int)≤10))=0 then Zlg ms ks rs else Za4 3 0 (ZbG (decide (0≤(rs.length:Int))) (decide ((rs.length:Int)≤10))))) none)
 |0,k,xs,hk=>by
  by_cases h:ZbG (decide (0≤(rs.length:Int))) (decide ((rs.length:Int)≤10))=0
  ·have h':=h
   unfold ZbG at h'
   rw[if_pos h]
   refine go hC ZaU (ZxB std ms ks rs n1 ms.length ks.length k xs) (by simp only[bx2,ZnQ,Zh3,Zem,h'];simp;omega) ?_
   exact ZrD hC ms ks rs hs n1 rs.length 0 [] (by omega)
  ·have h':=h
   unfold ZbG at h'
   rw[if_neg h]
   exact fin hC ZaU (ZwQ std ms ks rs n1 ms.length ks.length k xs) (by simp only[bx2,Ztr,ZnQ,Zh3,Zem,h'];simp;omega) rfl rfl
 |m+1,k,xs,hk=>by
  have hs':=hs
  simp only[ZaG,Bool.and_eq_true,decide_eq_true_eq]at hs'
  have hn:=Zby hs'.1.1.2 (show k<ks.length by omega)
  by_cases h:ZbS (Zav ks k) (Zb8 ks k ms.length) xs=0
  ·have hnew:=Zg9 h
   have h':=h
   unfold ZbS at h'
   refine go hC ZaU (Zw8 std ms ks rs n1 ms.length ks.length k xs) (by simp only[bx3];simp[-Zcw,hnew,hn];simp[-Zcw,hnew]at h';simp[h'];omega) ?_
   have:=ZrY n1 m (k+1) (xs++[.str (Zav ks k)]) (by omega)
   rw[Za7,if_pos h]
   exact this
  ·have h':=h
   unfold ZbS at h'
   rw[Za7,if_neg h]
   exact fin hC ZaU (Zw2 std ms ks rs n1 ms.length ks.length k xs) (by simp only[bx3];simp[-Zcw,hn,h'];omega) rfl rfl
theorem ZrF(n1:Int):∀(m k:Nat) (xs:List AV),k+m=ms.length→Ev C (ZcI ms ks rs ms.length n1 ms.length ks.length k xs) (ZbV ms ks rs ms.length n1 ms.length ks.length k xs)
 (ZcP 7 (Zbn 1 (Za7 (fun k=>ZaV ms k) (fun _=>0) m k xs) (if ZbG (decide (1≤(ks.length:Int))) (decide ((ks.length:Int)≤8))=0 then Zmj ms ks rs else Za4 2 0 (ZbG (decide (1≤(ks.length:Int))) (decide ((ks.length:Int)≤8))))) none)
 |0,k,xs,hk=>by
  by_cases h:ZbG (decide (1≤(ks.length:Int))) (decide ((ks.length:Int)≤8))=0
  ·have h':=h
   unfold ZbG at h'
   rw[if_pos h]
   refine go hC ZaU (ZxJ std ms ks rs ms.length n1 ms.length ks.length k xs) (by simp only[bx2,ZnQ,Zh3,Zem,h'];simp;omega) ?_
   exact ZrY hC ms ks rs hs n1 ks.length 0 [] (by omega)
  ·have h':=h
   unfold ZbG at h'
   rw[if_neg h]
   exact fin hC ZaU (Zxw std ms ks rs ms.length n1 ms.length ks.length k xs) (by simp only[bx2,Ztr,ZnQ,Zh3,Zem,h'];simp;omega) rfl rfl
 |m+1,k,xs,hk=>by
  have hs':=hs
  simp only[ZaG,Bool.and_eq_true,decide_eq_true_eq]at hs'
  have hn:=Zgc hs'.1.1.1 (show k<ms.length by omega)
  by_cases h:ZbS (ZaV ms k) 0 xs=0
  ·have hnew:=Zg9 h
   have h':=h
   unfold ZbS at h'
   refine go hC ZaU (ZxG std ms ks rs ms.length n1 ms.length ks.length k xs) (by simp only[bx3];simp[-Zcw,hnew,hn];simp[-Zcw,hnew]at h';simp[h'];omega) ?_
   have:=ZrF n1 m (k+1) (xs++[.str (ZaV ms k)]) (by omega)
   rw[Za7,if_pos h]
   exact this
  ·have h':=h
   unfold ZbS at h'
   rw[Za7,if_neg h]
   exact fin hC ZaU (ZwX std ms ks rs ms.length n1 ms.length ks.length k xs) (by simp only[bx3];simp[-Zcw,hn,h'];omega) rfl rfl
end
theorem ZlI(ms ks rs:List AV)(hs:ZaG ms ks rs=true):Zas Tryd.prog 7 [.agg (.gen [.list (.big .str ms), .list (.big (.agg [.str, .int .i64]) ks), .list (.big (.agg [.str, .int .i64, .int .i64, .int .i64, .int .i64]) rs)])] (Zc6 ms ks rs) none:=
 start (Zqy ms ks rs) fun C hC=>by
  by_cases h:ZbG (decide (1≤(ms.length:Int))) (decide ((ms.length:Int)≤6))=0
  ·have h':=h
   unfold ZbG at h'
   rw[Zc6,if_pos h]
   refine go hC ZaU (ZwR std ms ks rs) (by simp only[bx2,ZnQ,Zh3,Zem,h'];simp) ?_
   exact ZrF hC ms ks rs hs ms.length ms.length 0 [] (by omega)
  ·have h':=h
   unfold ZbG at h'
   rw[Zc6,if_neg h]
   exact fin hC ZaU (Zxg std ms ks rs) (by simp only[bx2,Ztr,ZnQ,Zh3,Zem,h'];simp) rfl rfl
end Go.Proofs.YtkeoeooghhjibaaDoor
/- Contracts as a list. No condition. -/
namespace Go.Proofs.YtkeoeooghhjibaaDoor
theorem ZkY(s:List UInt8):Zas Tryd.prog 41 [.nils, .str s] (.bool false) none:=
 start (Zm0 s) fun C hC=>go hC ZaU (ZsJ std s) (by simp) (fin hC ZaU (ZsF std s) (by simp) rfl rfl)
theorem Zmh(n:Int):Zas Tryd.prog 43 [.int .i64 n] (.bool (Zaf n 0 1000000000000)) none:=
 start (ZoM n) fun C hC=>fin hC ZaU (ZtL std n) (by simp) rfl rfl
def mP:AV→Int
 | .tup [.agg (.gen [.int _ p,_]),_]=>p
 |_=>0
def mI:AV→Int
 | .tup [.agg (.gen [_, .int _ i]),_]=>i
 |_=>0
def mE:AV→Int
 | .tup [_, .int _ e]=>e
 |_=>0
def isM(v:AV):Prop:=∃p i e,v=Za4 p i e
theorem isM.eq{v:AV}(h:isM v):v=Za4 (mP v) (mI v) (mE v):=by
 obtain⟨p,i,e,rfl⟩:=h
 rfl
theorem isM.scan{p:Int}{o:Option (Nat×Int)}{d:AV}(h:isM d):isM (Zbn p o d):=by
 unfold Zbn
 split
 ·exact⟨_,_,_,rfl⟩
 ·exact h
theorem isM.ite{c:Prop}[Decidable c]{a b:AV}(ha:isM a)(hb:isM b):isM (if c then a else b):=by
 split
 ·exact ha
 ·exact hb
theorem ZeH(p i e:Int):isM (Za4 p i e):=⟨_,_,_,rfl⟩
theorem ZhE(ms ks rs:List AV):isM (Zc6 ms ks rs):=
 .ite (.scan (.ite (.scan (.ite (.scan (ZeH _ _ _)) (ZeH _ _ _))) (ZeH _ _ _))) (ZeH _ _ _)
def ZfA(ms ks rs:List AV):Int:=mP (Zc6 ms ks rs)
def ZeX(ms ks rs:List AV):Int:=mI (Zc6 ms ks rs)
def ZaH(ms ks rs:List AV):Int:=mE (Zc6 ms ks rs)
theorem Zkc(ms ks rs:List AV)(hs:ZaG ms ks rs=true):Zas Tryd.prog 7 [.agg (.gen [.list (.big .str ms), .list (.big (.agg [.str, .int .i64]) ks), .list (.big (.agg [.str, .int .i64, .int .i64, .int .i64, .int .i64]) rs)])] (.tup [.agg (.gen [.int .i64 (ZfA ms ks rs), .int .i64 (ZeX ms ks rs)]), .int .i64 (ZaH ms ks rs)]) none:=by
 have:=ZlI ms ks rs hs
 rw[(ZhE ms ks rs).eq]at this
 exact this
def k41n:Ctr:=⟨41,0,fun _ a=>match a with |[.nils, .str _]=>some (true, .bool false,none) |_=>none⟩
theorem Zpq:k41n.OK Tryd.prog:=fun pa args r fr h=>by
 simp only[k41n]at h
 split at h
 ·cases h
  exact ZkY _
 ·cases h
def k43:Ctr:=⟨43,0,fun _ a=>match a with |[.int .i64 n]=>some (true, .bool (Zaf n 0 1000000000000),none) |_=>none⟩
theorem Zre:k43.OK Tryd.prog:=fun pa args r fr h=>by
 simp only[k43]at h
 split at h
 ·cases h
  exact Zmh _
 ·cases h
def k7:Ctr:=⟨7,0,fun _ a=>match a with |[.agg (.gen [.list (.big .str ms), .list (.big (.agg [.str, .int .i64]) ks), .list (.big (.agg [.str, .int .i64, .int .i64, .int .i64, .int .i64]) rs)])]=>some (decide (ZaG ms ks rs=true), .tup [.agg (.gen [.int .i64 (ZfA ms ks rs), .int .i64 (ZeX ms ks rs)]), .int .i64 (ZaH ms ks rs)],none) |_=>none⟩
theorem ZtT:k7.OK Tryd.prog:=fun pa args r fr h=>by
 simp only[k7]at h
 split at h
 ·simp only[Option.some.injEq,Prod.mk.injEq,decide_eq_true_eq]at h
  obtain⟨h0,rfl,rfl⟩:=h
  exact Zkc _ _ _ h0
 ·cases h
def B4:List Ctr:=[k41n,k43,k7]++B3
theorem ZmX:Za2 Tryd.prog B4:=⟨Zpq,⟨Zre,⟨ZtT,ZaU⟩⟩⟩
end Go.Proofs.YtkeoeooghhjibaaDoor
/- Paths of functions, printed by the explorer (Gx). No condition. -/
namespace Go.Proofs.YtkeoeooghhjibaaDoor
set_option maxRecDepth 100000
set_option linter.unusedVariables false
def Ztd(ms:List AV)(ks:List AV)(rs:List AV):AFrame:={ fn:=37,N:=11,env:=[(0,AV.agg (Row.gen [.list (Row.big .str ms), .list (Row.big (.agg [.str, .int .i64]) ks), .list (Row.big (.agg [.str, .int .i64, .int .i64, .int .i64, .int .i64]) rs)]))],todo:=[.code a37.code],defs:=[],rnd:=none,ret:=false,res:=[ARes.tmp 2] }
def Zw1(ms:List AV)(ks:List AV)(rs:List AV):List AFrame:=[(Ztd ms ks rs)]
theorem Zp9(ms:List AV)(ks:List AV)(rs:List AV):ZaD tab 37 [AV.agg (Row.gen [.list (Row.big .str ms), .list (Row.big (.agg [.str, .int .i64]) ks), .list (Row.big (.agg [.str, .int .i64, .int .i64, .int .i64, .int .i64]) rs)])]=some (Ztd ms ks rs):=rfl
theorem Zvk(A:Ar)(ms ks rs:List AV):ZaQ A tab B4 23 [] 37 (Zw1 ms ks rs) []=
 some (tr [9,3] [decide (ZaG ms ks rs=true)],
  AV.int .i64 (ZaH ms ks rs),none):=by kernel_rfl
def Zsu(ms:List AV)(ks:List AV)(rs:List AV)(k:Int)(lo:Int)(hi:Int):AFrame:={ fn:=38,N:=34,env:=[(0,AV.agg (Row.gen [.list (Row.big .str ms), .list (Row.big (.agg [.str, .int .i64]) ks), .list (Row.big (.agg [.str, .int .i64, .int .i64, .int .i64, .int .i64]) rs)])),(1,AV.agg (Row.gen [.int .i64 k, .int .i64 lo, .int .i64 hi]))],todo:=[.code a38.code],defs:=[],rnd:=none,ret:=false,res:=[ARes.tmp 4] }
def Zwf(ms:List AV)(ks:List AV)(rs:List AV)(k:Int)(lo:Int)(hi:Int):List AFrame:=[(Zsu ms ks rs k lo hi)]
theorem Zp3(ms:List AV)(ks:List AV)(rs:List AV)(k:Int)(lo:Int)(hi:Int):ZaD tab 38 [AV.agg (Row.gen [.list (Row.big .str ms), .list (Row.big (.agg [.str, .int .i64]) ks), .list (Row.big (.agg [.str, .int .i64, .int .i64, .int .i64, .int .i64]) rs)]),AV.agg (Row.gen [.int .i64 k, .int .i64 lo, .int .i64 hi])]=some (Zsu ms ks rs k lo hi):=rfl
theorem ZuN(A:Ar)(ms ks rs:List AV)(k lo hi:Int):ZaQ A tab B4 10 [true] 38 (Zwf ms ks rs k lo hi) []=
 some (tr [2,0,14,7,8] [decide (List.length [Zaa (Zaf k 0 (A.sub (A.int (A.lenA ks)) 1)) 15,Zaa (Zaf hi 0 1000000000000) 2,Zaa (A.le lo hi) 9]≤1000000),List.all [AV.int .i64 (Zaa (Zaf k 0 (A.sub (A.int (A.lenA ks)) 1)) 15),AV.int .i64 (Zaa (Zaf hi 0 1000000000000) 2),AV.int .i64 (Zaa (A.le lo hi) 9)] fun x=>AV.bx x&&Nat.beq (Zai A x) 1,Zaf lo 0 1000000000000,A.inR .i64 (A.sub (A.int (A.lenA ks)) 1)],
  AV.int .i64 (Zan [Zaa (Zaf k 0 (A.sub (A.int (A.lenA ks)) 1)) 15,Zaa (Zaf hi 0 1000000000000) 2,Zaa (A.le lo hi) 9]),none):=by kernel_rfl
theorem ZtY(A:Ar)(ms ks rs:List AV)(k lo hi:Int):ZaQ A tab B4 10 [false] 38 (Zwf ms ks rs k lo hi) []=
 some (tr [2,0,14,7,8] [decide (List.length [Zaa (Zaf k 0 (A.sub (A.int (A.lenA ks)) 1)) 15,2,Zaa (A.le lo hi) 9]≤1000000),List.all [AV.int .i64 (Zaa (Zaf k 0 (A.sub (A.int (A.lenA ks)) 1)) 15),AV.int .i64 2,AV.int .i64 (Zaa (A.le lo hi) 9)] fun x=>AV.bx x&&Nat.beq (Zai A x) 1,!Zaf lo 0 1000000000000,A.inR .i64 (A.sub (A.int (A.lenA ks)) 1)],
  AV.int .i64 (Zan [Zaa (Zaf k 0 (A.sub (A.int (A.lenA ks)) 1)) 15,2,Zaa (A.le lo hi) 9]),none):=by kernel_rfl
end Go.Proofs.YtkeoeooghhjibaaDoor
/- Contracts as a list. No condition. -/
namespace Go.Proofs.YtkeoeooghhjibaaDoor
def ZkE(n k lo hi:Int):Int:=Zan [Zaa (Zaf k 0 (n-1)) 15,Zaa (Zaf lo 0 1000000000000&&Zaf hi 0 1000000000000) 2,Zaa (decide (lo≤hi)) 9]
theorem ZmG(ms ks rs:List AV)(h:ZaG ms ks rs=true):Zas Tryd.prog 37 [.agg (.gen [.list (.big .str ms), .list (.big (.agg [.str, .int .i64]) ks), .list (.big (.agg [.str, .int .i64, .int .i64, .int .i64, .int .i64]) rs)])] (.int .i64 (ZaH ms ks rs)) none:=
 start (Zp9 ms ks rs) fun C hC=>fin hC ZmX (Zvk std ms ks rs) (by simp[h]) rfl rfl
theorem Znx(ms ks rs:List AV)(k lo hi:Int)(h:ks.length≤1000000):Zas Tryd.prog 38 [.agg (.gen [.list (.big .str ms), .list (.big (.agg [.str, .int .i64]) ks), .list (.big (.agg [.str, .int .i64, .int .i64, .int .i64, .int .i64]) rs)]), .agg (.gen [.int .i64 k, .int .i64 lo, .int .i64 hi])] (.int .i64 (ZkE ks.length k lo hi)) none:=
 start (Zp3 ms ks rs k lo hi) fun C hC=>by
  by_cases h1:Zaf lo 0 1000000000000=true
  ·exact fin hC ZmX (ZuN std ms ks rs k lo hi) (by simp only[bx3];simp[h1];omega) (by simp[ZkE,h1]) rfl
  ·exact fin hC ZmX (ZtY std ms ks rs k lo hi) (by simp only[bx3];simp[h1];omega) (by unfold ZkE;rw[(by simpa using h1:Zaf lo 0 1000000000000=false)];rfl) rfl
def k37:Ctr:=⟨37,0,fun _ a=>match a with |[.agg (.gen [.list (.big .str ms), .list (.big (.agg [.str, .int .i64]) ks), .list (.big (.agg [.str, .int .i64, .int .i64, .int .i64, .int .i64]) rs)])]=>some (decide (ZaG ms ks rs=true), .int .i64 (ZaH ms ks rs),none) |_=>none⟩
theorem ZrU:k37.OK Tryd.prog:=fun pa args r fr h=>by
 simp only[k37]at h
 split at h
 ·simp only[Option.some.injEq,Prod.mk.injEq,decide_eq_true_eq]at h
  obtain⟨h0,rfl,rfl⟩:=h
  exact ZmG _ _ _ h0
 ·cases h
def k38:Ctr:=⟨38,0,fun _ a=>match a with |[.agg (.gen [.list (.big .str _), .list (.big (.agg [.str, .int .i64]) ks), .list (.big (.agg [.str, .int .i64, .int .i64, .int .i64, .int .i64]) _)]), .agg (.gen [.int .i64 k, .int .i64 lo, .int .i64 hi])]=>some (decide (ks.length≤1000000), .int .i64 (ZkE ks.length k lo hi),none) |_=>none⟩
theorem Zr8:k38.OK Tryd.prog:=fun pa args r fr h=>by
 simp only[k38]at h
 split at h
 ·simp only[Option.some.injEq,Prod.mk.injEq,decide_eq_true_eq]at h
  obtain⟨h0,rfl,rfl⟩:=h
  exact Znx _ _ _ _ _ _ h0
 ·cases h
def B5:List Ctr:=[k37,k38]++B4
theorem Zkl:Za2 Tryd.prog B5:=⟨ZrU,⟨Zr8,ZmX⟩⟩
end Go.Proofs.YtkeoeooghhjibaaDoor
/- Paths of functions, printed by the explorer (Gx). No condition. -/
namespace Go.Proofs.YtkeoeooghhjibaaDoor
set_option maxRecDepth 100000
set_option linter.unusedVariables false
def ZvS(ms:List AV)(ks:List AV)(rs:List AV)(l:List AV):AFrame:={ fn:=9,N:=40,env:=[(0,AV.agg (Row.gen [.list (Row.big .str ms), .list (Row.big (.agg [.str, .int .i64]) ks), .list (Row.big (.agg [.str, .int .i64, .int .i64, .int .i64, .int .i64]) rs)])),(1,AV.list (Row.big (.agg [.int .i64, .int .i64, .int .i64]) l))],todo:=[.code a9.code],defs:=[],rnd:=none,ret:=false,res:=[ARes.tmp 4,ARes.tmp 5] }
def f9e(ms:List AV)(ks:List AV)(rs:List AV)(l:List AV):List AFrame:=[(ZvS ms ks rs l)]
theorem ZqO(ms:List AV)(ks:List AV)(rs:List AV)(l:List AV):ZaD tab 9 [AV.agg (Row.gen [.list (Row.big .str ms), .list (Row.big (.agg [.str, .int .i64]) ks), .list (Row.big (.agg [.str, .int .i64, .int .i64, .int .i64, .int .i64]) rs)]),AV.list (Row.big (.agg [.int .i64, .int .i64, .int .i64]) l)]=some (ZvS ms ks rs l):=rfl
def ZfH(ms ks rs l:List AV)(n0 n1:Int):List AFrame:=[{ fn:=9,N:=40,env:=[(2,AV.ptr 9003 0 0 0),(25,AV.list (Row.big (.agg [.int .i64, .int .i64, .int .i64]) l)),(26,AV.int .i64 n0),(27,AV.int .i64 n1)],todo:=.code (ACode.gh [] ZwB)::Zxa,defs:=[],rnd:=none,ret:=false,res:=[ARes.tmp 4,ARes.tmp 5] }]
def ZdA(ms:List AV)(ks:List AV)(rs:List AV)(l:List AV)(n0:Int)(n1:Int):Zab:=[(9003,{ base:=0,blks:=[Blk.row 26 3 (Row.gen [AV.agg (Row.gen [AV.list (Row.big .str ms),AV.list (Row.big (.agg [.str, .int .i64]) ks),AV.list (Row.big (.agg [.str, .int .i64, .int .i64, .int .i64, .int .i64]) rs)])])] })]
abbrev ZjL(ms:List AV)(ks:List AV)(rs:List AV)(l:List AV)(n0:Int)(n1:Int):List AFrame×Zab:=(ZfH ms ks rs l n0 n1,ZdA ms ks rs l n0 n1)
theorem ZxK(A:Ar)(ms ks rs l:List AV):ZaQ A tab B5 37 [true] 9 (f9e ms ks rs l) []=
 some (tr [4,3,0,8,4] [A.not (A.eq (Zan [ZaH ms ks rs,Zaa (A.lt 0 (A.int (A.lenA l))) 10,Zaa (A.le (A.int (A.lenA l)) 12) 8]) 0),decide (List.length [ZaH ms ks rs,Zaa (A.lt 0 (A.int (A.lenA l))) 10,Zaa (A.le (A.int (A.lenA l)) 12) 8]≤1000000),List.all [AV.int .i64 (ZaH ms ks rs),AV.int .i64 (Zaa (A.lt 0 (A.int (A.lenA l))) 10),AV.int .i64 (Zaa (A.le (A.int (A.lenA l)) 12) 8)] fun x=>AV.bx x&&Nat.beq (Zai A x) 1,decide (ZaG ms ks rs=true)],
  AV.tup [AV.int .i64 0,AV.int .i64 (Zan [ZaH ms ks rs,Zaa (A.lt 0 (A.int (A.lenA l))) 10,Zaa (A.le (A.int (A.lenA l)) 12) 8])],none):=by kernel_rfl
theorem Zxi(A:Ar)(ms ks rs l:List AV):Zau A tab B5 41 [false] (f9e ms ks rs l) []=
 some (tr [3,3,0,8,4] [!A.not (A.eq (Zan [ZaH ms ks rs,Zaa (A.lt 0 (A.int (A.lenA l))) 10,Zaa (A.le (A.int (A.lenA l)) 12) 8]) 0),decide (List.length [ZaH ms ks rs,Zaa (A.lt 0 (A.int (A.lenA l))) 10,Zaa (A.le (A.int (A.lenA l)) 12) 8]≤1000000),List.all [AV.int .i64 (ZaH ms ks rs),AV.int .i64 (Zaa (A.lt 0 (A.int (A.lenA l))) 10),AV.int .i64 (Zaa (A.le (A.int (A.lenA l)) 12) 8)] fun x=>AV.bx x&&Nat.beq (Zai A x) 1,decide (ZaG ms ks rs=true)],
  ZjL (ms) (ks) (rs) (l) (A.int (A.lenA l)) (0)):=by kernel_rfl
theorem Zxb(A:Ar)(ms ks rs l:List AV)(n0 n1:Int):ZaQ A tab B5 40 [true,true] 9 (ZfH ms ks rs l n0 n1) (ZdA ms ks rs l n0 n1)=
 some (tr [5,3,6,1,1] [A.not (A.eq (ZkE (↑(List.length ks)) ((A.nthA l (A.nat n1)).cellAt 0).toI ((A.nthA l (A.nat n1)).cellAt 1).toI ((A.nthA l (A.nat n1)).cellAt 2).toI) 0),decide (List.length ks≤1000000),Zag (Zag (A.le 0 n1) (Nat.blt (A.nat n1) (A.lenA l))) true,A.lt n1 n0],
  AV.tup [AV.int .i64 n1,AV.int .i64 (ZkE (↑(List.length ks)) ((A.nthA l (A.nat n1)).cellAt 0).toI ((A.nthA l (A.nat n1)).cellAt 1).toI ((A.nthA l (A.nat n1)).cellAt 2).toI)],none):=by kernel_rfl
theorem ZwO(A:Ar)(ms ks rs l:List AV)(n0 n1:Int):Zau A tab B5 40 [true,false] (ZfH ms ks rs l n0 n1) (ZdA ms ks rs l n0 n1)=
 some (tr [1,0,3,6,1,1] [A.inR .i64 (A.add n1 1),!A.not (A.eq (ZkE (↑(List.length ks)) ((A.nthA l (A.nat n1)).cellAt 0).toI ((A.nthA l (A.nat n1)).cellAt 1).toI ((A.nthA l (A.nat n1)).cellAt 2).toI) 0),decide (List.length ks≤1000000),Zag (Zag (A.le 0 n1) (Nat.blt (A.nat n1) (A.lenA l))) true,A.lt n1 n0],
  ZjL (ms) (ks) (rs) (l) (n0) (A.add n1 1)):=by kernel_rfl
theorem ZwV(A:Ar)(ms ks rs l:List AV)(n0 n1:Int):ZaQ A tab B5 14 [false] 9 (ZfH ms ks rs l n0 n1) (ZdA ms ks rs l n0 n1)=
 some (tr [3,1] [!A.lt n1 n0],
  AV.tup [AV.int .i64 0,AV.int .i64 0],none):=by kernel_rfl
end Go.Proofs.YtkeoeooghhjibaaDoor
/- CheckFile of the program. No condition. -/
namespace Go.Proofs.YtkeoeooghhjibaaDoor
def Ziv(i e:Int):AV:=.tup [.int .i64 i, .int .i64 e]
def ZeP(f:Nat→Int):Nat→Nat→AV
 |0,_=>Ziv 0 0
 |m+1,k=>if f k=0 then ZeP f m (k+1)else Ziv k (f k)
def Zie(n:Int)(l:List AV)(k:Nat):Int:=ZkE n (Zbd l k 0) (Zbd l k 1) (Zbd l k 2)
def ZeC(e:Int)(l:List AV):Int:=Zan [e,Zaa (decide (0<(l.length:Int))) 10,Zaa (decide ((l.length:Int)≤12)) 8]
def ZdS(e n:Int)(l:List AV):AV:=if ZeC e l=0 then ZeP (Zie n l) l.length 0 else Ziv 0 (ZeC e l)
theorem ZgD{C:Ctx}(hC:C.P=Tryd.prog)(ms ks rs l:List AV)(hk:ks.length≤1000000)(hl:l.length≤1000000):∀(m k:Nat),k+m=l.length→Ev C (ZfH ms ks rs l l.length k) (ZdA ms ks rs l l.length k) (ZcP 9 (ZeP (Zie ks.length l) m k) none)
 |0,k,h=>fin hC Zkl (ZwV std ms ks rs l l.length k) (by simp;omega) rfl rfl
 |m+1,k,h=>by
  by_cases h1:Zie ks.length l k=0
  ·have h2:=h1
   unfold Zie Zbd at h2
   refine go hC Zkl (ZwO std ms ks rs l l.length k) (by simp[-List.getD_eq_getElem?_getD]at h2 ⊢;simp[-List.getD_eq_getElem?_getD,h2];omega) ?_
   rw[ZeP,if_pos h1]
   exact ZgD hC ms ks rs l hk hl m (k+1) (by omega)
  ·have h2:=h1
   unfold Zie Zbd at h2
   rw[ZeP,if_neg h1]
   exact fin hC Zkl (Zxb std ms ks rs l l.length k) (by simp[-List.getD_eq_getElem?_getD]at h2 ⊢;simp[-List.getD_eq_getElem?_getD,h2];omega) rfl rfl
theorem Znk(ms ks rs l:List AV)(hs:ZaG ms ks rs=true)(hl:l.length≤1000000):Zas Tryd.prog 9 [.agg (.gen [.list (.big .str ms), .list (.big (.agg [.str, .int .i64]) ks), .list (.big (.agg [.str, .int .i64, .int .i64, .int .i64, .int .i64]) rs)]), .list (.big (.agg [.int .i64, .int .i64, .int .i64]) l)] (ZdS (ZaH ms ks rs) ks.length l) none:=
 start (ZqO ms ks rs l) fun C hC=>by
  have hk:ks.length≤1000000:=by
   simp only[ZaG,Bool.and_eq_true,decide_eq_true_eq]at hs
   exact hs.2.2.1
  by_cases h:ZeC (ZaH ms ks rs) l=0
  ·have h':=h
   unfold ZeC at h'
   rw[ZdS,if_pos h]
   refine go hC Zkl (Zxi std ms ks rs l) (by simp only[bx3,ZnQ,Zv2,Zh3,Zem,h'];simp[hs]) ?_
   exact ZgD hC ms ks rs l hk hl l.length 0 (by omega)
  ·have h':=h
   unfold ZeC at h'
   rw[ZdS,if_neg h]
   exact fin hC Zkl (ZxK std ms ks rs l) (by simp only[bx3,Ztr,ZnQ,Zv2,Zh3,Zem,h'];simp[hs]) rfl rfl
end Go.Proofs.YtkeoeooghhjibaaDoor
/- CheckFile of the reference. No condition. -/
namespace Go.Proofs.YtkeoeooghhjibaaDoor
theorem ZeJ{f:Nat→Int}{m k:Nat}{v:Int}(h:f k=v)(hv:v≠0):ZeP f (m+1) k=Ziv k v:=by
 rw[ZeP,if_neg (by rw[h];exact hv),h]
theorem ZfB{C:Ctx}(hC:C.P=Tryd.prog)(ms ks rs l:List AV)(hk:ks.length≤1000000)(hl:l.length≤1000000):∀(m k:Nat),k+m=l.length→Ev C (Zbp ms ks rs l k) (Zbe ms ks rs l k) (ZcP 12 (ZeP (Zie ks.length l) m k) none)
 |0,k,h=>fin hC ZaU (ZuC std ms ks rs l k) (by simp;omega) rfl rfl
 |m+1,k,h=>by
  have e0:((l.getD k .top).cellAt 0).toI=Zbd l k 0:=rfl
  have e1:((l.getD k .top).cellAt 1).toI=Zbd l k 1:=rfl
  have e2:((l.getD k .top).cellAt 2).toI=Zbd l k 2:=rfl
  by_cases h2:Zaf (Zbd l k 0) 0 ((ks.length:Int)-1)=true
  ·by_cases h3:Zaf (Zbd l k 1) 0 1000000000000=true
   ·by_cases h4:Zaf (Zbd l k 2) 0 1000000000000=true
    ·by_cases h5:Zbd l k 2<Zbd l k 1
     ·rw[ZeJ (show Zie ks.length l k=9 by simp[Zie,ZkE,Zan,Zaa,h2,h3,h4];omega) (by decide)]
      exact fin hC ZaU (Zt8 std ms ks rs l k) (by simp[-List.getD_eq_getElem?_getD,e0,e1,e2,h2,h3,h4];omega) rfl rfl
     ·refine go hC ZaU (Zum std ms ks rs l k) (by simp[-List.getD_eq_getElem?_getD,e0,e1,e2,h2,h3,h4];omega) ?_
      rw[ZeP,if_pos (show Zie ks.length l k=0 by simp[Zie,ZkE,Zan,Zaa,h2,h3,h4];omega)]
      exact ZfB hC ms ks rs l hk hl m (k+1) (by omega)
    ·rw[ZeJ (show Zie ks.length l k=2 by simp[Zie,ZkE,Zan,Zaa,h2,h3,h4]) (by decide)]
     exact fin hC ZaU (Ztw std ms ks rs l k) (by simp[-List.getD_eq_getElem?_getD,e0,e1,e2,h2,h3,h4];omega) rfl rfl
   ·rw[ZeJ (show Zie ks.length l k=2 by simp[Zie,ZkE,Zan,Zaa,h2,h3]) (by decide)]
    exact fin hC ZaU (ZuT std ms ks rs l k) (by simp[-List.getD_eq_getElem?_getD,e0,e1,e2,h2,h3];omega) rfl rfl
  ·rw[ZeJ (show Zie ks.length l k=15 by simp[Zie,ZkE,Zan,Zaa,h2]) (by decide)]
   exact fin hC ZaU (Zu2 std ms ks rs l k) (by simp[-List.getD_eq_getElem?_getD,e0,e1,e2,h2];omega) rfl rfl
theorem Zmr(ms ks rs l:List AV)(hk:ks.length≤1000000)(hl:l.length≤1000000):Zas Tryd.prog 12 [.agg (.gen [.list (.big .str ms), .list (.big (.agg [.str, .int .i64]) ks), .list (.big (.agg [.str, .int .i64, .int .i64, .int .i64, .int .i64]) rs)]), .list (.big (.agg [.int .i64, .int .i64, .int .i64]) l)] (ZdS 0 ks.length l) none:=
 start (Zqc ms ks rs l) fun C hC=>by
  by_cases h1:l=[]
  ·have e:ZeC 0 l=10:=by rw[h1];rfl
   rw[ZdS,if_neg (by rw[e];decide),e]
   exact fin hC ZaU (Zvj std ms ks rs l) (by simp[h1]) rfl rfl
  ·have h0:0<l.length:=List.length_pos_iff.2 h1
   by_cases h2:12<l.length
   ·have e:ZeC 0 l=8:=by
     unfold ZeC
     rw[decide_eq_true (show 0<(l.length:Int) by omega),decide_eq_false (show ¬(l.length:Int)≤12 by omega)];rfl
    rw[ZdS,if_neg (by rw[e];decide),e]
    exact fin hC ZaU (Zuc std ms ks rs l) (by simp[h1];omega) rfl rfl
   ·have e:ZeC 0 l=0:=by
     unfold ZeC
     rw[decide_eq_true (show 0<(l.length:Int) by omega),decide_eq_true (show (l.length:Int)≤12 by omega)];rfl
    rw[ZdS,if_pos e]
    refine go hC ZaU (ZuX std ms ks rs l) (by simp[h1];omega) ?_
    exact ZfB hC ms ks rs l hk hl l.length 0 (by omega)
end Go.Proofs.YtkeoeooghhjibaaDoor
/- Few. No condition. -/
namespace Go.Proofs.YtkeoeooghhjibaaDoor
def ZqN(x:AV):Bool:=decide (x.toS.length≤20)
def ZkW(x:AV):Bool:=decide ((x.cellAt 0).toS.length≤20)
def Zmx(ms ks rs:List AV):Bool:=decide (ms.length≤8∧ks.length≤10∧rs.length≤12)&&(ms.all ZqN&&(ks.all ZkW&&rs.all ZkW))
theorem Zif{xs:List AV}{k:Nat}(h:k<xs.length):xs.drop k=xs.getD k .top::xs.drop (k+1):=by
 rw[List.drop_eq_getElem_cons h,List.getD_eq_getElem?_getD,List.getElem?_eq_getElem h];rfl
section
variable {C:Ctx}(hC:C.P=Tryd.prog)(ms ks rs:List AV)(hl:ms.length≤8∧ks.length≤10∧rs.length≤12)
include hC hl
theorem ZsY:∀(m k:Nat),k+m=rs.length→Ev C (ZeR ms ks rs k) (ZdB ms ks rs k) (ZcP 6 (.bool ((rs.drop k).all ZkW)) none)
 |0,k,h=>fin hC ZaU (ZvO std ms ks rs k) (by simp;omega) (by rw[List.drop_of_length_le (by omega)];rfl) rfl
 |m+1,k,h=>by
  rw[Zif (show k<rs.length by omega)]
  by_cases h1:((rs.getD k .top).cellAt 0).toS.length≤20
  ·refine go hC ZaU (Zva std ms ks rs k) (by simp[-List.getD_eq_getElem?_getD];omega) ?_
   rw[List.all_cons,show ZkW (rs.getD k .top)=true from decide_eq_true h1,Bool.true_and]
   exact ZsY m (k+1) (by omega)
  ·exact fin hC ZaU (Zul std ms ks rs k) (by simp[-List.getD_eq_getElem?_getD];omega) (by rw[List.all_cons,show ZkW (rs.getD k .top)=false from decide_eq_false h1,Bool.false_and]) rfl
theorem Zrk:∀(m k:Nat),k+m=ks.length→Ev C (Zfc ms ks rs k) (ZdG ms ks rs k) (ZcP 6 (.bool ((ks.drop k).all ZkW&&rs.all ZkW)) none)
 |0,k,h=>by
  refine go hC ZaU (ZwJ std ms ks rs k) (by simp;omega) ?_
  rw[List.drop_of_length_le (by omega)]
  exact ZsY hC ms ks rs hl rs.length 0 (by omega)
 |m+1,k,h=>by
  rw[Zif (show k<ks.length by omega)]
  by_cases h1:((ks.getD k .top).cellAt 0).toS.length≤20
  ·refine go hC ZaU (ZxD std ms ks rs k) (by simp[-List.getD_eq_getElem?_getD];omega) ?_
   rw[List.all_cons,show ZkW (ks.getD k .top)=true from decide_eq_true h1,Bool.true_and]
   exact Zrk m (k+1) (by omega)
  ·exact fin hC ZaU (Zxz std ms ks rs k) (by simp[-List.getD_eq_getElem?_getD];omega) (by rw[List.all_cons,show ZkW (ks.getD k .top)=false from decide_eq_false h1,Bool.false_and,Bool.false_and]) rfl
theorem ZsI:∀(m k:Nat),k+m=ms.length→Ev C (ZfG ms ks rs k) (Zdt ms ks rs k) (ZcP 6 (.bool ((ms.drop k).all ZqN&&(ks.all ZkW&&rs.all ZkW))) none)
 |0,k,h=>by
  refine go hC ZaU (ZxL std ms ks rs k) (by simp;omega) ?_
  rw[List.drop_of_length_le (by omega)]
  exact Zrk hC ms ks rs hl ks.length 0 (by omega)
 |m+1,k,h=>by
  rw[Zif (show k<ms.length by omega)]
  by_cases h1:(ms.getD k .top).toS.length≤20
  ·refine go hC ZaU (ZwP std ms ks rs k) (by simp[-List.getD_eq_getElem?_getD];omega) ?_
   rw[List.all_cons,show ZqN (ms.getD k .top)=true from decide_eq_true h1,Bool.true_and]
   exact ZsI m (k+1) (by omega)
  ·exact fin hC ZaU (Zxe std ms ks rs k) (by simp[-List.getD_eq_getElem?_getD];omega) (by rw[List.all_cons,show ZqN (ms.getD k .top)=false from decide_eq_false h1,Bool.false_and,Bool.false_and]) rfl
end
theorem Zoq(ms ks rs:List AV):Zas Tryd.prog 6 [.agg (.gen [.list (.big .str ms), .list (.big (.agg [.str, .int .i64]) ks), .list (.big (.agg [.str, .int .i64, .int .i64, .int .i64, .int .i64]) rs)])] (.bool (Zmx ms ks rs)) none:=
 start (ZrT ms ks rs) fun C hC=>by
  by_cases h1:ms.length≤8
  ·by_cases h2:ks.length≤10
   ·by_cases h3:rs.length≤12
    ·refine go hC ZaU (ZwK std ms ks rs) (by simp;omega) ?_
     unfold Zmx
     rw[decide_eq_true ⟨h1,h2,h3⟩,Bool.true_and]
     exact ZsI hC ms ks rs ⟨h1,h2,h3⟩ ms.length 0 (by omega)
    ·exact fin hC ZaU (ZwY std ms ks rs) (by simp;omega) (by simp[Zmx,h3]) rfl
   ·exact fin hC ZaU (ZxH std ms ks rs) (by simp;omega) (by simp[Zmx,h2]) rfl
  ·exact fin hC ZaU (ZwH std ms ks rs) (by simp;omega) (by simp[Zmx,h1]) rfl
end Go.Proofs.YtkeoeooghhjibaaDoor
/- Contracts as a list. No condition. -/
namespace Go.Proofs.YtkeoeooghhjibaaDoor
def k6:Ctr:=⟨6,0,fun _ a=>match a with |[.agg (.gen [.list (.big .str ms), .list (.big (.agg [.str, .int .i64]) ks), .list (.big (.agg [.str, .int .i64, .int .i64, .int .i64, .int .i64]) rs)])]=>some (true, .bool (Zmx ms ks rs),none) |_=>none⟩
theorem Zvh:k6.OK Tryd.prog:=fun pa args r fr h=>by
 simp only[k6]at h
 split at h
 ·cases h
  exact Zoq _ _ _
 ·cases h
def B6:List Ctr:=[k6]++B5
theorem ZeE:Za2 Tryd.prog B6:=⟨Zvh,Zkl⟩
end Go.Proofs.YtkeoeooghhjibaaDoor
/- Paths of functions, printed by the explorer (Gx). No condition. -/
namespace Go.Proofs.YtkeoeooghhjibaaDoor
set_option maxRecDepth 100000
set_option linter.unusedVariables false
def Zs0(ms:List AV)(ks:List AV)(rs:List AV):AFrame:={ fn:=11,N:=188,env:=[(0,AV.agg (Row.gen [.list (Row.big .str ms), .list (Row.big (.agg [.str, .int .i64]) ks), .list (Row.big (.agg [.str, .int .i64, .int .i64, .int .i64, .int .i64]) rs)]))],todo:=[.code a11.code],defs:=[],rnd:=none,ret:=false,res:=[ARes.cell 2 true 2,ARes.tmp 3] }
def Zxs(ms:List AV)(ks:List AV)(rs:List AV):List AFrame:=[(Zs0 ms ks rs)]
theorem ZpG(ms:List AV)(ks:List AV)(rs:List AV):ZaD tab 11 [AV.agg (Row.gen [.list (Row.big .str ms), .list (Row.big (.agg [.str, .int .i64]) ks), .list (Row.big (.agg [.str, .int .i64, .int .i64, .int .i64, .int .i64]) rs)])]=some (Zs0 ms ks rs):=rfl
def Ze6(ms ks rs:List AV)(n0:Int):List AFrame:=[{ fn:=11,N:=188,env:=[(1,AV.ptr 11002 0 0 0),(2,AV.ptr 11003 0 0 0),(4,AV.int .i64 n0)],todo:=.code (ACode.gh [] Zsn)::ZvD,defs:=[],rnd:=none,ret:=false,res:=[ARes.cell 2 true 2,ARes.tmp 3] }]
def Zd7(ms:List AV)(ks:List AV)(rs:List AV)(n0:Int):Zab:=[(11002,{ base:=0,blks:=[Blk.row 26 3 (Row.gen [AV.agg (Row.gen [AV.list (Row.big .str ms),AV.list (Row.big (.agg [.str, .int .i64]) ks),AV.list (Row.big (.agg [.str, .int .i64, .int .i64, .int .i64, .int .i64]) rs)])])] }),(11003,{ base:=0,blks:=[Blk.row 31 2 (Row.gen [AV.agg (Row.gen [AV.int .i64 0,AV.int .i64 0])])] })]
abbrev Zf3(ms:List AV)(ks:List AV)(rs:List AV)(n0:Int):List AFrame×Zab:=(Ze6 ms ks rs n0,Zd7 ms ks rs n0)
def Zdx(ms ks rs:List AV):List AFrame:=[{ fn:=11,N:=188,env:=[(1,AV.ptr 11002 0 0 0),(2,AV.ptr 11003 0 0 0),(5,AV.nils),(6,AV.int .i64 0)],todo:=.code (ACode.gh [] ZoI)::Zq9,defs:=[],rnd:=none,ret:=false,res:=[ARes.cell 2 true 2,ARes.tmp 3] }]
def ZcU(ms:List AV)(ks:List AV)(rs:List AV):Zab:=[(11002,{ base:=0,blks:=[Blk.row 26 3 (Row.gen [AV.agg (Row.gen [AV.list (Row.big .str ms),AV.list (Row.big (.agg [.str, .int .i64]) ks),AV.list (Row.big (.agg [.str, .int .i64, .int .i64, .int .i64, .int .i64]) rs)])])] }),(11003,{ base:=0,blks:=[Blk.row 31 2 (Row.gen [AV.agg (Row.gen [AV.int .i64 0,AV.int .i64 0])])] })]
abbrev ZkR(ms:List AV)(ks:List AV)(rs:List AV):List AFrame×Zab:=(Zdx ms ks rs,ZcU ms ks rs)
def ZfI(ms ks rs:List AV)(n1:Int)(x2:List AV):List AFrame:=[{ fn:=11,N:=188,env:=[(1,AV.ptr 11002 0 0 0),(2,AV.ptr 11003 0 0 0),(5,AV.row 11093 0),(6,AV.int .i64 n1)],todo:=.code (ACode.gh [] ZoI)::Zq9,defs:=[],rnd:=none,ret:=false,res:=[ARes.cell 2 true 2,ARes.tmp 3] }]
def Zd5(ms:List AV)(ks:List AV)(rs:List AV)(n1:Int)(x2:List AV):Zab:=[(11002,{ base:=0,blks:=[Blk.row 26 3 (Row.gen [AV.agg (Row.gen [AV.list (Row.big .str ms),AV.list (Row.big (.agg [.str, .int .i64]) ks),AV.list (Row.big (.agg [.str, .int .i64, .int .i64, .int .i64, .int .i64]) rs)])])] }),(11003,{ base:=0,blks:=[Blk.row 31 2 (Row.gen [AV.agg (Row.gen [AV.int .i64 0,AV.int .i64 0])])] }),(11093,{ base:=0,blks:=[Blk.row 9 1 (Row.big .str x2)] })]
abbrev Zf4(ms:List AV)(ks:List AV)(rs:List AV)(n1:Int)(x2:List AV):List AFrame×Zab:=(ZfI ms ks rs n1 x2,Zd5 ms ks rs n1 x2)
def Zdq(ms ks rs:List AV):List AFrame:=[{ fn:=11,N:=188,env:=[(1,AV.ptr 11002 0 0 0),(2,AV.ptr 11003 0 0 0),(5,AV.nils),(7,AV.int .i64 0)],todo:=.code (ACode.gh [] ZoC)::Zsq,defs:=[],rnd:=none,ret:=false,res:=[ARes.cell 2 true 2,ARes.tmp 3] }]
def ZcM(ms:List AV)(ks:List AV)(rs:List AV):Zab:=[(11002,{ base:=0,blks:=[Blk.row 26 3 (Row.gen [AV.agg (Row.gen [AV.list (Row.big .str ms),AV.list (Row.big (.agg [.str, .int .i64]) ks),AV.list (Row.big (.agg [.str, .int .i64, .int .i64, .int .i64, .int .i64]) rs)])])] }),(11003,{ base:=0,blks:=[Blk.row 31 2 (Row.gen [AV.agg (Row.gen [AV.int .i64 0,AV.int .i64 0])])] })]
abbrev Zf5(ms:List AV)(ks:List AV)(rs:List AV):List AFrame×Zab:=(Zdq ms ks rs,ZcM ms ks rs)
def Zfa(ms ks rs:List AV)(n3:Int)(x4:List AV):List AFrame:=[{ fn:=11,N:=188,env:=[(1,AV.ptr 11002 0 0 0),(2,AV.ptr 11003 0 0 0),(5,AV.row 11141 0),(7,AV.int .i64 n3)],todo:=.code (ACode.gh [] ZoC)::Zsq,defs:=[],rnd:=none,ret:=false,res:=[ARes.cell 2 true 2,ARes.tmp 3] }]
def ZdK(ms:List AV)(ks:List AV)(rs:List AV)(n3:Int)(x4:List AV):Zab:=[(11002,{ base:=0,blks:=[Blk.row 26 3 (Row.gen [AV.agg (Row.gen [AV.list (Row.big .str ms),AV.list (Row.big (.agg [.str, .int .i64]) ks),AV.list (Row.big (.agg [.str, .int .i64, .int .i64, .int .i64, .int .i64]) rs)])])] }),(11003,{ base:=0,blks:=[Blk.row 31 2 (Row.gen [AV.agg (Row.gen [AV.int .i64 0,AV.int .i64 0])])] }),(11141,{ base:=0,blks:=[Blk.row 9 1 (Row.big .str x4)] })]
abbrev ZcZ(ms:List AV)(ks:List AV)(rs:List AV)(n3:Int)(x4:List AV):List AFrame×Zab:=(Zfa ms ks rs n3 x4,ZdK ms ks rs n3 x4)
def ZnE(A:Ar)(K:KT)(F:FT)(ms:List AV)(ks:List AV)(rs:List AV):Prop:=bB (A.eq (A.int (A.lenA ms)) 0) (F (AV.tup [AV.agg (Row.gen [.int .i64 1, .int .i64 0]),AV.int .i64 10]) (none)) (bB (A.lt 6 (A.int (A.lenA ms))) (F (AV.tup [AV.agg (Row.gen [.int .i64 1, .int .i64 0]),AV.int .i64 8]) (none)) (K (Zf3 (ms) (ks) (rs) (0))))
theorem ZvK{A:Ar}{K:KT}{F:FT}{M:MT}{ms:List AV}{ks:List AV}{rs:List AV} :ZcA A tab B6 11 K F M (.run 14 (.tf (.run 20 (.fn)) (.run 9 (.tf (.run 20 (.fn)) (.run 9 (.hd)))))) (Zxs ms ks rs) []=ZnE A K F ms ks rs:=by kernel_rfl
def Zb1(A:Ar)(K:KT)(F:FT)(ms:List AV)(ks:List AV)(rs:List AV)(n0:Int):Prop:=bB (A.lt n0 (A.int (A.lenA ms))) (rB [decide (List.length (AV.toS (A.nthA ms (A.nat n0)))≤1000000),Zag (Zag (A.le 0 n0) (Nat.blt (A.nat n0) (A.lenA ms))) true] (bB (A.not (ZaP (AV.toS (A.nthA ms (A.nat n0))))) (F (AV.tup [AV.agg (Row.gen [.int .i64 1, .int .i64 n0]),AV.int .i64 4]) (none)) (rB [decide (List.length (A.subA ms 0 (A.nat n0-0))≤1000000),Zag (Zag (A.le 0 n0) (Nat.blt (A.nat n0) (A.lenA ms))) true,Zag (A.le 0 n0) (Zag (Zag (Nat.ble 0 (A.nat n0)) (Nat.ble (A.nat n0) (A.lenA ms))) true)] (bB (ZfM (A.subA ms 0 (A.nat n0-0)) (AV.toS (A.nthA ms (A.nat n0)))) (F (AV.tup [AV.agg (Row.gen [.int .i64 1, .int .i64 n0]),AV.int .i64 5]) (none)) (rB [A.inR .i64 (A.add n0 1)] (K (Zf3 (ms) (ks) (rs) (A.add n0 1)))))))) (bB (A.eq (A.int (A.lenA ks)) 0) (F (AV.tup [AV.agg (Row.gen [.int .i64 2, .int .i64 0]),AV.int .i64 10]) (none)) (bB (A.lt 8 (A.int (A.lenA ks))) (F (AV.tup [AV.agg (Row.gen [.int .i64 2, .int .i64 0]),AV.int .i64 8]) (none)) (K (ZkR (ms) (ks) (rs)))))
theorem Zgv{A:Ar}{K:KT}{F:FT}{M:MT}{ms:List AV}{ks:List AV}{rs:List AV}{n0:Int} :ZcA A tab B6 11 K F M (.run 10 (.tf (.run 15 (.tf (.run 21 (.fn)) (.run 4 (.tf (.run 21 (.fn)) (.run 9 (.hd)))))) (.run 9 (.tf (.run 20 (.fn)) (.run 9 (.tf (.run 20 (.fn)) (.run 13 (.hd)))))))) (Ze6 ms ks rs n0) (Zd7 ms ks rs n0)=Zb1 A K F ms ks rs n0:=by kernel_rfl
def ZcR(A:Ar)(K:KT)(F:FT)(ms:List AV)(ks:List AV)(rs:List AV):Prop:=bB (A.lt 0 (A.int (A.lenA ks))) (rB [decide (List.length ((A.nthA ks (A.nat 0)).cellAt 0).toS≤1000000),Zag (Zag (A.le 0 0) (Nat.blt (A.nat 0) (A.lenA ks))) true] (bB (A.not (ZaP ((A.nthA ks (A.nat 0)).cellAt 0).toS)) (F (AV.tup [AV.agg (Row.gen [.int .i64 2, .int .i64 0]),AV.int .i64 4]) (none)) (rB [Zag (Zag (A.le 0 0) (Nat.blt (A.nat 0) (A.lenA ks))) true] (rB [A.inR .i64 (A.sub (A.int (A.lenA ms)) 1),Zag (Zag (A.le 0 0) (Nat.blt (A.nat 0) (A.lenA ks))) true,Zag (Nat.ble (A.lenA [AV.str ((A.nthA ks (A.nat 0)).cellAt 0).toS]) 4294967296) (Nat.blt 0 (A.lenA [AV.str ((A.nthA ks (A.nat 0)).cellAt 0).toS])),List.all [AV.str ((A.nthA ks (A.nat 0)).cellAt 0).toS] fun x=>AV.bx x&&Nat.beq (Zai A x) 1,Zag (Zag (A.le 0 0) (Nat.blt (A.nat 0) (A.lenA ks))) true] (bB (A.not (Zaf ((A.nthA ks (A.nat 0)).cellAt 1).toI (-1) (A.sub (A.int (A.lenA ms)) 1))) (F (AV.tup [AV.agg (Row.gen [.int .i64 2, .int .i64 0]),AV.int .i64 6]) (none)) (rB [A.inR .i64 (A.add 0 1)] (K (Zf4 (ms) (ks) (rs) (A.add 0 1) ([AV.str ((A.nthA ks (A.nat 0)).cellAt 0).toS]))))))))) (bB (A.lt 10 (A.int (A.lenA rs))) (F (AV.tup [AV.agg (Row.gen [.int .i64 3, .int .i64 0]),AV.int .i64 8]) (none)) (K (Zf5 (ms) (ks) (rs))))
theorem Zf8{A:Ar}{K:KT}{F:FT}{M:MT}{ms:List AV}{ks:List AV}{rs:List AV} :ZcA A tab B6 11 K F M (.run 10 (.tf (.run 16 (.tf (.run 21 (.fn)) (.run 14 (.fy (.run 18 (.tf (.run 21 (.fn)) (.run 9 (.hd)))))))) (.run 9 (.tf (.run 20 (.fn)) (.run 13 (.hd)))))) (Zdx ms ks rs) (ZcU ms ks rs)=ZcR A K F ms ks rs:=by kernel_rfl
def ZcL(A:Ar)(K:KT)(F:FT)(ms:List AV)(ks:List AV)(rs:List AV)(n1:Int)(x2:List AV):Prop:=bB (A.lt n1 (A.int (A.lenA ks))) (rB [decide (List.length ((A.nthA ks (A.nat n1)).cellAt 0).toS≤1000000),Zag (Zag (A.le 0 n1) (Nat.blt (A.nat n1) (A.lenA ks))) true] (bB (A.not (ZaP ((A.nthA ks (A.nat n1)).cellAt 0).toS)) (F (AV.tup [AV.agg (Row.gen [.int .i64 2, .int .i64 n1]),AV.int .i64 4]) (none)) (rB [decide (List.length x2≤1000000),Zag (Zag (A.le 0 n1) (Nat.blt (A.nat n1) (A.lenA ks))) true] (bB (ZfM x2 ((A.nthA ks (A.nat n1)).cellAt 0).toS) (F (AV.tup [AV.agg (Row.gen [.int .i64 2, .int .i64 n1]),AV.int .i64 5]) (none)) (rB [A.inR .i64 (A.sub (A.int (A.lenA ms)) 1),Zag (Zag (A.le 0 n1) (Nat.blt (A.nat n1) (A.lenA ks))) true,Nat.ble (A.lenA x2+A.lenA [AV.str ((A.nthA ks (A.nat n1)).cellAt 0).toS]) 4294967296,List.all [AV.str ((A.nthA ks (A.nat n1)).cellAt 0).toS] fun x=>AV.bx x&&Nat.beq (Zai A x) 1,Zag (Zag (A.le 0 n1) (Nat.blt (A.nat n1) (A.lenA ks))) true] (bB (A.not (Zaf ((A.nthA ks (A.nat n1)).cellAt 1).toI (-1) (A.sub (A.int (A.lenA ms)) 1))) (F (AV.tup [AV.agg (Row.gen [.int .i64 2, .int .i64 n1]),AV.int .i64 6]) (none)) (rB [A.inR .i64 (A.add n1 1)] (K (Zf4 (ms) (ks) (rs) (A.add n1 1) (A.appA x2 [AV.str ((A.nthA ks (A.nat n1)).cellAt 0).toS])))))))))) (bB (A.lt 10 (A.int (A.lenA rs))) (F (AV.tup [AV.agg (Row.gen [.int .i64 3, .int .i64 0]),AV.int .i64 8]) (none)) (K (Zf5 (ms) (ks) (rs))))
theorem Zgt{A:Ar}{K:KT}{F:FT}{M:MT}{ms:List AV}{ks:List AV}{rs:List AV}{n1:Int}{x2:List AV} :ZcA A tab B6 11 K F M (.run 10 (.tf (.run 16 (.tf (.run 21 (.fn)) (.run 14 (.tf (.run 21 (.fn)) (.run 18 (.tf (.run 21 (.fn)) (.run 9 (.hd)))))))) (.run 9 (.tf (.run 20 (.fn)) (.run 13 (.hd)))))) (ZfI ms ks rs n1 x2) (Zd5 ms ks rs n1 x2)=ZcL A K F ms ks rs n1 x2:=by kernel_rfl
def Zei(A:Ar)(K:KT)(F:FT)(ms:List AV)(ks:List AV)(rs:List AV):Prop:=bB (A.lt 0 (A.int (A.lenA rs))) (rB [decide (List.length ((A.nthA rs (A.nat 0)).cellAt 0).toS≤1000000),Zag (Zag (A.le 0 0) (Nat.blt (A.nat 0) (A.lenA rs))) true] (bB (A.not (ZaP ((A.nthA rs (A.nat 0)).cellAt 0).toS)) (F (AV.tup [AV.agg (Row.gen [.int .i64 3, .int .i64 0]),AV.int .i64 4]) (none)) (rB [A.inR .i64 (A.sub (A.int (A.lenA ks)) 1),Zag (Nat.ble (A.lenA [AV.str ((A.nthA rs (A.nat 0)).cellAt 0).toS]) 4294967296) (Nat.blt 0 (A.lenA [AV.str ((A.nthA rs (A.nat 0)).cellAt 0).toS])),List.all [AV.str ((A.nthA rs (A.nat 0)).cellAt 0).toS] fun x=>AV.bx x&&Nat.beq (Zai A x) 1] (bB (A.not (Zaf ((A.nthA rs (A.nat 0)).cellAt 1).toI 0 (A.sub (A.int (A.lenA ks)) 1))) (F (AV.tup [AV.agg (Row.gen [.int .i64 3, .int .i64 0]),AV.int .i64 6]) (none)) (rB [A.inR .i64 (A.sub (A.int (A.lenA ms)) 1)] (bB (A.not (Zaf ((A.nthA rs (A.nat 0)).cellAt 2).toI (-1) (A.sub (A.int (A.lenA ms)) 1))) (F (AV.tup [AV.agg (Row.gen [.int .i64 3, .int .i64 0]),AV.int .i64 6]) (none)) (rB [A.inR .i64 (A.sub (A.int (A.lenA ks)) 1)] (bB (A.not (Zaf ((A.nthA rs (A.nat 0)).cellAt 3).toI (-1) (A.sub (A.int (A.lenA ks)) 1))) (F (AV.tup [AV.agg (Row.gen [.int .i64 3, .int .i64 0]),AV.int .i64 6]) (none)) (bB (A.not (Zaf ((A.nthA rs (A.nat 0)).cellAt 4).toI 1 1000000)) (F (AV.tup [AV.agg (Row.gen [.int .i64 3, .int .i64 0]),AV.int .i64 2]) (none)) (bB (A.eq ((A.nthA rs (A.nat 0)).cellAt 3).toI (-1)) (bB (A.not (A.eq ((A.nthA rs (A.nat 0)).cellAt 4).toI 1)) (F (AV.tup [AV.agg (Row.gen [.int .i64 3, .int .i64 0]),AV.int .i64 3]) (none)) (rB [A.inR .i64 (A.add 0 1)] (K (ZcZ (ms) (ks) (rs) (A.add 0 1) ([AV.str ((A.nthA rs (A.nat 0)).cellAt 0).toS]))))) (rB [A.inR .i64 (A.add 0 1)] (K (ZcZ (ms) (ks) (rs) (A.add 0 1) ([AV.str ((A.nthA rs (A.nat 0)).cellAt 0).toS])))))))))))))) (F (AV.tup [AV.agg (Row.gen [.int .i64 0, .int .i64 0]),AV.int .i64 0]) (none))
theorem Zgs{A:Ar}{K:KT}{F:FT}{M:MT}{ms:List AV}{ks:List AV}{rs:List AV} :ZcA A tab B6 11 K F M (.run 10 (.tf (.run 21 (.tf (.run 21 (.fn)) (.run 9 (.fy (.run 22 (.tf (.ty (.ty (.ty (.ty (.ty (.ty (.ty (.ty (.run 1 (.ty (.ty (.ty (.ty (.ty (.ty (.ty (.ty (.ty (.run 2 (.ty (.run 21 (.fn)))))))))))))))))))))) (.fy (.fy (.fy (.fy (.fy (.fy (.fy (.fy (.run 1 (.tf (.ty (.ty (.ty (.ty (.ty (.ty (.ty (.ty (.run 2 (.ty (.run 21 (.fn)))))))))))) (.fy (.fy (.fy (.fy (.fy (.fy (.fy (.fy (.run 2 (.tf (.run 21 (.fn)) (.run 9 (.tf (.run 21 (.fn)) (.run 7 (.tf (.ty (.ty (.ty (.run 2 (.tf (.run 21 (.fn)) (.run 9 (.hd))))))) (.fy (.fy (.fy (.run 2 (.fy (.run 9 (.hd))))))))))))))))))))))))))))))))))))) (.run 8 (.fn)))) (Zdq ms ks rs) (ZcM ms ks rs)=Zei A K F ms ks rs:=by kernel_rfl
def ZdM(A:Ar)(K:KT)(F:FT)(ms:List AV)(ks:List AV)(rs:List AV)(n3:Int)(x4:List AV):Prop:=bB (A.lt n3 (A.int (A.lenA rs))) (rB [decide (List.length ((A.nthA rs (A.nat n3)).cellAt 0).toS≤1000000),Zag (Zag (A.le 0 n3) (Nat.blt (A.nat n3) (A.lenA rs))) true] (bB (A.not (ZaP ((A.nthA rs (A.nat n3)).cellAt 0).toS)) (F (AV.tup [AV.agg (Row.gen [.int .i64 3, .int .i64 n3]),AV.int .i64 4]) (none)) (rB [decide (List.length x4≤1000000)] (bB (ZfM x4 ((A.nthA rs (A.nat n3)).cellAt 0).toS) (F (AV.tup [AV.agg (Row.gen [.int .i64 3, .int .i64 n3]),AV.int .i64 5]) (none)) (rB [A.inR .i64 (A.sub (A.int (A.lenA ks)) 1),Nat.ble (A.lenA x4+A.lenA [AV.str ((A.nthA rs (A.nat n3)).cellAt 0).toS]) 4294967296,List.all [AV.str ((A.nthA rs (A.nat n3)).cellAt 0).toS] fun x=>AV.bx x&&Nat.beq (Zai A x) 1] (bB (A.not (Zaf ((A.nthA rs (A.nat n3)).cellAt 1).toI 0 (A.sub (A.int (A.lenA ks)) 1))) (F (AV.tup [AV.agg (Row.gen [.int .i64 3, .int .i64 n3]),AV.int .i64 6]) (none)) (rB [A.inR .i64 (A.sub (A.int (A.lenA ms)) 1)] (bB (A.not (Zaf ((A.nthA rs (A.nat n3)).cellAt 2).toI (-1) (A.sub (A.int (A.lenA ms)) 1))) (F (AV.tup [AV.agg (Row.gen [.int .i64 3, .int .i64 n3]),AV.int .i64 6]) (none)) (rB [A.inR .i64 (A.sub (A.int (A.lenA ks)) 1)] (bB (A.not (Zaf ((A.nthA rs (A.nat n3)).cellAt 3).toI (-1) (A.sub (A.int (A.lenA ks)) 1))) (F (AV.tup [AV.agg (Row.gen [.int .i64 3, .int .i64 n3]),AV.int .i64 6]) (none)) (bB (A.not (Zaf ((A.nthA rs (A.nat n3)).cellAt 4).toI 1 1000000)) (F (AV.tup [AV.agg (Row.gen [.int .i64 3, .int .i64 n3]),AV.int .i64 2]) (none)) (bB (A.eq ((A.nthA rs (A.nat n3)).cellAt 3).toI (-1)) (bB (A.not (A.eq ((A.nthA rs (A.nat n3)).cellAt 4).toI 1)) (F (AV.tup [AV.agg (Row.gen [.int .i64 3, .int .i64 n3]),AV.int .i64 3]) (none)) (rB [A.inR .i64 (A.add n3 1)] (K (ZcZ (ms) (ks) (rs) (A.add n3 1) (A.appA x4 [AV.str ((A.nthA rs (A.nat n3)).cellAt 0).toS]))))) (rB [A.inR .i64 (A.add n3 1)] (K (ZcZ (ms) (ks) (rs) (A.add n3 1) (A.appA x4 [AV.str ((A.nthA rs (A.nat n3)).cellAt 0).toS])))))))))))))))) (F (AV.tup [AV.agg (Row.gen [.int .i64 0, .int .i64 0]),AV.int .i64 0]) (none))
theorem ZgC{A:Ar}{K:KT}{F:FT}{M:MT}{ms:List AV}{ks:List AV}{rs:List AV}{n3:Int}{x4:List AV} :ZcA A tab B6 11 K F M (.run 10 (.tf (.run 21 (.tf (.run 21 (.fn)) (.run 9 (.tf (.run 21 (.fn)) (.run 22 (.tf (.ty (.ty (.ty (.ty (.ty (.ty (.ty (.ty (.run 1 (.ty (.ty (.ty (.ty (.ty (.ty (.ty (.ty (.ty (.run 2 (.ty (.run 21 (.fn)))))))))))))))))))))) (.fy (.fy (.fy (.fy (.fy (.fy (.fy (.fy (.run 1 (.tf (.ty (.ty (.ty (.ty (.ty (.ty (.ty (.ty (.run 2 (.ty (.run 21 (.fn)))))))))))) (.fy (.fy (.fy (.fy (.fy (.fy (.fy (.fy (.run 2 (.tf (.run 21 (.fn)) (.run 9 (.tf (.run 21 (.fn)) (.run 7 (.tf (.ty (.ty (.ty (.run 2 (.tf (.run 21 (.fn)) (.run 9 (.hd))))))) (.fy (.fy (.fy (.run 2 (.fy (.run 9 (.hd))))))))))))))))))))))))))))))))))))) (.run 8 (.fn)))) (Zfa ms ks rs n3 x4) (ZdK ms ks rs n3 x4)=ZdM A K F ms ks rs n3 x4:=by kernel_rfl
end Go.Proofs.YtkeoeooghhjibaaDoor
