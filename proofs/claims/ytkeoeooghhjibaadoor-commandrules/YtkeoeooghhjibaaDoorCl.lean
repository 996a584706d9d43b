/- Paths of functions, printed by the explorer (Gx). No condition. -/
import Derived.Test.YtkeoeooghhjibaaDoorCd
import Derived.KernelRfl
namespace Go.Proofs.YtkeoeooghhjibaaDoor
set_option maxRecDepth 100000
set_option linter.unusedVariables false
def Zsx(n:Int):AFrame:={ fn:=43,N:=5,env:=[(0,AV.int .i64 n)],todo:=[.code a43.code],defs:=[],rnd:=none,ret:=false,res:=[ARes.tmp 2] }
def Zx7(n:Int):List AFrame:=[(Zsx n)]
theorem Zov(n:Int):ZaC tab 43 [AV.int .i64 n]=some (Zsx n):=rfl
theorem ZvW(A:Ar)(n:Int):ZaT A tab B3 11 [] 43 (Zx7 n) []=
 some (tr [5] [],
  AV.bool (Zad n 0 1000000000000),none):=by kernel_rfl
def ZwS(ms:List AV)(ks:List AV)(rs:List AV):AFrame:={ fn:=6,N:=66,env:=[(0,AV.agg (Row.gen [.list (Row.big .str ms), .list (Row.big (.agg [.str, .int .i64]) ks), .list (Row.big (.agg [.str, .int .i64, .int .i64, .int .i64, .int .i64]) rs)]))],todo:=[.code a6.code],defs:=[],rnd:=none,ret:=false,res:=[ARes.tmp 2] }
def f6e(ms:List AV)(ks:List AV)(rs:List AV):List AFrame:=[(ZwS ms ks rs)]
theorem ZqR(ms:List AV)(ks:List AV)(rs:List AV):ZaC tab 6 [AV.agg (Row.gen [.list (Row.big .str ms), .list (Row.big (.agg [.str, .int .i64]) ks), .list (Row.big (.agg [.str, .int .i64, .int .i64, .int .i64, .int .i64]) rs)])]=some (ZwS ms ks rs):=rfl
def Zfq(ms ks rs:List AV)(n0:Int):List AFrame:=[{ fn:=6,N:=66,env:=[(1,AV.ptr 6002 0 0 0),(3,AV.int .i64 n0)],todo:=.code (ACode.gh [] Zw5)::ZxJ,defs:=[],rnd:=none,ret:=false,res:=[ARes.tmp 2] }]
def ZdE(ms:List AV)(ks:List AV)(rs:List AV)(n0:Int):Zab:=[(6002,{ base:=0,blks:=[Blk.row 26 3 (Row.gen [AV.agg (Row.gen [AV.list (Row.big .str ms),AV.list (Row.big (.agg [.str, .int .i64]) ks),AV.list (Row.big (.agg [.str, .int .i64, .int .i64, .int .i64, .int .i64]) rs)])])] })]
abbrev ZjZ(ms:List AV)(ks:List AV)(rs:List AV)(n0:Int):List AFrame×Zab:=(Zfq ms ks rs n0,ZdE ms ks rs n0)
def Zfi(ms ks rs:List AV)(n1:Int):List AFrame:=[{ fn:=6,N:=66,env:=[(1,AV.ptr 6002 0 0 0),(4,AV.int .i64 n1)],todo:=.code (ACode.gh [] ZwA)::Zxx,defs:=[],rnd:=none,ret:=false,res:=[ARes.tmp 2] }]
def Zdv(ms:List AV)(ks:List AV)(rs:List AV)(n1:Int):Zab:=[(6002,{ base:=0,blks:=[Blk.row 26 3 (Row.gen [AV.agg (Row.gen [AV.list (Row.big .str ms),AV.list (Row.big (.agg [.str, .int .i64]) ks),AV.list (Row.big (.agg [.str, .int .i64, .int .i64, .int .i64, .int .i64]) rs)])])] })]
abbrev ZjX(ms:List AV)(ks:List AV)(rs:List AV)(n1:Int):List AFrame×Zab:=(Zfi ms ks rs n1,Zdv ms ks rs n1)
def Ze2(ms ks rs:List AV)(n2:Int):List AFrame:=[{ fn:=6,N:=66,env:=[(1,AV.ptr 6002 0 0 0),(5,AV.int .i64 n2)],todo:=.code (ACode.gh [] ZwG)::Zx6,defs:=[],rnd:=none,ret:=false,res:=[ARes.tmp 2] }]
def ZdQ(ms:List AV)(ks:List AV)(rs:List AV)(n2:Int):Zab:=[(6002,{ base:=0,blks:=[Blk.row 26 3 (Row.gen [AV.agg (Row.gen [AV.list (Row.big .str ms),AV.list (Row.big (.agg [.str, .int .i64]) ks),AV.list (Row.big (.agg [.str, .int .i64, .int .i64, .int .i64, .int .i64]) rs)])])] })]
abbrev Zj8(ms:List AV)(ks:List AV)(rs:List AV)(n2:Int):List AFrame×Zab:=(Ze2 ms ks rs n2,ZdQ ms ks rs n2)
theorem Zyc(A:Ar)(ms ks rs:List AV):ZaT A tab B3 32 [true,true,true,true,true,true,true,true,true,true,true] 6 (f6e ms ks rs) []=
 some (tr [23,7] [A.lt 8 (A.int (A.lenA ms))],
  AV.bool false,none):=by kernel_rfl
theorem ZxN(A:Ar)(ms ks rs:List AV):ZaT A tab B3 32 [false,false,false,false,false,true,true,true,true,true,true] 6 (f6e ms ks rs) []=
 some (tr [12,10,7] [A.lt 10 (A.int (A.lenA ks)),!A.lt 8 (A.int (A.lenA ms))],
  AV.bool false,none):=by kernel_rfl
theorem Zx1(A:Ar)(ms ks rs:List AV):ZaT A tab B3 32 [false,false,false,false,false,false,false,false,false,false,true] 6 (f6e ms ks rs) []=
 some (tr [2,9,10,7] [A.lt 12 (A.int (A.lenA rs)),!A.lt 10 (A.int (A.lenA ks)),!A.lt 8 (A.int (A.lenA ms))],
  AV.bool false,none):=by kernel_rfl
theorem Zxp(A:Ar)(ms ks rs:List AV):Zav A tab B3 36 [false,false,false,false,false,false,false,false,false,false,false] (f6e ms ks rs) []=
 some (tr [1,9,10,7] [!A.lt 12 (A.int (A.lenA rs)),!A.lt 10 (A.int (A.lenA ks)),!A.lt 8 (A.int (A.lenA ms))],
  ZjZ (ms) (ks) (rs) (0)):=by kernel_rfl
theorem Zx9(A:Ar)(ms ks rs:List AV)(n0:Int):ZaT A tab B3 31 [true,true] 6 (Zfq ms ks rs n0) (ZdE ms ks rs n0)=
 some (tr [2,3,3,5] [A.lt 20 (A.int (A.lenS (AV.toS (A.nthA ms (A.nat n0))))),Zag (Zag (A.le 0 n0) (Nat.blt (A.nat n0) (A.lenA ms))) true,A.lt n0 (A.int (A.lenA ms))],
  AV.bool false,none):=by kernel_rfl
theorem ZxH(A:Ar)(ms ks rs:List AV)(n0:Int):Zav A tab B3 35 [true,false] (Zfq ms ks rs n0) (ZdE ms ks rs n0)=
 some (tr [1,1,3,3,5] [A.inR .i64 (A.add n0 1),!A.lt 20 (A.int (A.lenS (AV.toS (A.nthA ms (A.nat n0))))),Zag (Zag (A.le 0 n0) (Nat.blt (A.nat n0) (A.lenA ms))) true,A.lt n0 (A.int (A.lenA ms))],
  ZjZ (ms) (ks) (rs) (A.add n0 1)):=by kernel_rfl
theorem ZxC(A:Ar)(ms ks rs:List AV)(n0:Int):Zav A tab B3 20 [false] (Zfq ms ks rs n0) (ZdE ms ks rs n0)=
 some (tr [1,5] [!A.lt n0 (A.int (A.lenA ms))],
  ZjX (ms) (ks) (rs) (0)):=by kernel_rfl
theorem Zxn(A:Ar)(ms ks rs:List AV)(n1:Int):ZaT A tab B3 32 [true,true] 6 (Zfi ms ks rs n1) (Zdv ms ks rs n1)=
 some (tr [2,4,3,5] [A.lt 20 (A.int (A.lenS ((A.nthA ks (A.nat n1)).cellAt 0).toS)),Zag (Zag (A.le 0 n1) (Nat.blt (A.nat n1) (A.lenA ks))) true,A.lt n1 (A.int (A.lenA ks))],
  AV.bool false,none):=by kernel_rfl
theorem Zxs(A:Ar)(ms ks rs:List AV)(n1:Int):Zav A tab B3 36 [true,false] (Zfi ms ks rs n1) (Zdv ms ks rs n1)=
 some (tr [1,1,4,3,5] [A.inR .i64 (A.add n1 1),!A.lt 20 (A.int (A.lenS ((A.nthA ks (A.nat n1)).cellAt 0).toS)),Zag (Zag (A.le 0 n1) (Nat.blt (A.nat n1) (A.lenA ks))) true,A.lt n1 (A.int (A.lenA ks))],
  ZjX (ms) (ks) (rs) (A.add n1 1)):=by kernel_rfl
theorem Zx0(A:Ar)(ms ks rs:List AV)(n1:Int):Zav A tab B3 20 [false] (Zfi ms ks rs n1) (Zdv ms ks rs n1)=
 some (tr [1,5] [!A.lt n1 (A.int (A.lenA ks))],
  Zj8 (ms) (ks) (rs) (0)):=by kernel_rfl
theorem ZvT(A:Ar)(ms ks rs:List AV)(n2:Int):ZaT A tab B3 32 [true,true] 6 (Ze2 ms ks rs n2) (ZdQ ms ks rs n2)=
 some (tr [2,4,3,5] [A.lt 20 (A.int (A.lenS ((A.nthA rs (A.nat n2)).cellAt 0).toS)),Zag (Zag (A.le 0 n2) (Nat.blt (A.nat n2) (A.lenA rs))) true,A.lt n2 (A.int (A.lenA rs))],
  AV.bool false,none):=by kernel_rfl
theorem Zvr(A:Ar)(ms ks rs:List AV)(n2:Int):Zav A tab B3 36 [true,false] (Ze2 ms ks rs n2) (ZdQ ms ks rs n2)=
 some (tr [1,1,4,3,5] [A.inR .i64 (A.add n2 1),!A.lt 20 (A.int (A.lenS ((A.nthA rs (A.nat n2)).cellAt 0).toS)),Zag (Zag (A.le 0 n2) (Nat.blt (A.nat n2) (A.lenA rs))) true,A.lt n2 (A.int (A.lenA rs))],
  Zj8 (ms) (ks) (rs) (A.add n2 1)):=by kernel_rfl
theorem Zwy(A:Ar)(ms ks rs:List AV)(n2:Int):ZaT A tab B3 17 [false] 6 (Ze2 ms ks rs n2) (ZdQ ms ks rs n2)=
 some (tr [2,5] [!A.lt n2 (A.int (A.lenA rs))],
  AV.bool true,none):=by kernel_rfl
def ZwD(ms:List AV)(ks:List AV)(rs:List AV):AFrame:={ fn:=7,N:=31,env:=[(0,AV.agg (Row.gen [.list (Row.big .str ms), .list (Row.big (.agg [.str, .int .i64]) ks), .list (Row.big (.agg [.str, .int .i64, .int .i64, .int .i64, .int .i64]) rs)]))],todo:=[.code a7.code],defs:=[],rnd:=none,ret:=false,res:=[ARes.cell 2 true 2,ARes.tmp 3] }
def f7e(ms:List AV)(ks:List AV)(rs:List AV):List AFrame:=[(ZwD ms ks rs)]
theorem Zrz(ms:List AV)(ks:List AV)(rs:List AV):ZaC tab 7 [AV.agg (Row.gen [.list (Row.big .str ms), .list (Row.big (.agg [.str, .int .i64]) ks), .list (Row.big (.agg [.str, .int .i64, .int .i64, .int .i64, .int .i64]) rs)])]=some (ZwD ms ks rs):=rfl
def ZcZ(ms ks rs:List AV)(n0 n1 n2 n3 n4:Int)(x5:List AV):List AFrame:=[{ fn:=27,N:=83,env:=[(0,AV.ptr 7005 0 0 0),(1,AV.int .i64 1),(5,AV.fn 28 [AV.ptr 7002 0 0 0]),(6,AV.fn 29 []),(15,AV.mp 27045 0),(45,AV.int .i64 n0),(46,AV.int .i64 n4)],todo:=.code (ACode.gh [] ZnF)::Zqc,defs:=[],rnd:=none,ret:=false,res:=[] },{ fn:=7,N:=31,env:=[(1,AV.ptr 7002 0 0 0),(2,AV.ptr 7003 0 0 0),(4,AV.ptr 7005 0 0 0),(5,AV.ptr 7006 0 0 0),(6,AV.ptr 7007 0 0 0),(7,AV.ptr 7008 0 0 0),(14,AV.int .i64 n1),(15,AV.fn 28 [AV.ptr 7002 0 0 0])],todo:=[AItem.inReg [oN 16 (OpK.icall 27 [Opd.t 4,cI 1,Opd.t 14,cI 1,cI 6,Opd.t 15,Opd.c (AV.fn 29 [])])], .code (ACode.seq (ACode.reg none [oN 17 (OpK.load false 1 (Opd.t 7)),oN 18 (OpK.mkfn 30 [Opd.t 1]),oN 19 (OpK.mkfn 31 [Opd.t 5,Opd.t 1,Opd.t 6]),oN 20 (OpK.icall 27 [Opd.t 4,cI 2,Opd.t 17,cI 1,cI 8,Opd.t 18,Opd.t 19])]) (ACode.seq (ACode.reg none [oN 21 (OpK.faddr 2 (Opd.t 1)),oN 22 (OpK.load false 1 (Opd.t 21)),oN 23 (OpK.len (Opd.t 22)),oN 24 (OpK.mkfn 33 [Opd.t 1]),oN 25 (OpK.mkfn 34 [Opd.t 1,Opd.t 7,Opd.t 5,Opd.t 6]),oN 26 (OpK.icall 27 [Opd.t 4,cI 3,Opd.t 23,cI 0,cI 10,Opd.t 24,Opd.t 25])]) (ACode.gh [Ghost.keep [2,4]] (ACode.seq (ACode.reg (some [(2,4),(3,4)]) [oN 27 (OpK.faddr 0 (Opd.t 4)),oN 28 (OpK.load true 2 (Opd.t 27)),oN 29 (OpK.faddr 2 (Opd.t 4)),oN 30 (OpK.load false 1 (Opd.t 29)),{ d:=none,g:=none,k:=OpK.store 2 (Opd.t 2) (Opd.t 28) },mV 3 30]) ACode.ret))))],defs:=[],rnd:=none,ret:=false,res:=[ARes.cell 2 true 2,ARes.tmp 3] }]
def Zcc(ms:List AV)(ks:List AV)(rs:List AV)(n0:Int)(n1:Int)(n2:Int)(n3:Int)(n4:Int)(x5:List AV):Zab:=[(7002,{ base:=0,blks:=[Blk.row 26 3 (Row.gen [AV.agg (Row.gen [AV.list (Row.big .str ms),AV.list (Row.big (.agg [.str, .int .i64]) ks),AV.list (Row.big (.agg [.str, .int .i64, .int .i64, .int .i64, .int .i64]) rs)])])] }),(7003,{ base:=0,blks:=[Blk.row 31 2 (Row.gen [AV.agg (Row.gen [AV.int .i64 0,AV.int .i64 0])])] }),(7005,{ base:=0,blks:=[Blk.row 79 3 (Row.gen [AV.agg (Row.gen [AV.int .i64 0,AV.int .i64 0,AV.int .i64 0])])] }),(7006,{ base:=0,blks:=[Blk.row 80 1 (Row.gen [AV.fn 25 []])] }),(7007,{ base:=0,blks:=[Blk.row 3 1 (Row.gen [.int .i64 n2])] }),(7008,{ base:=0,blks:=[Blk.row 3 1 (Row.gen [.int .i64 n3])] }),(27045,{ base:=0,blks:=[Blk.mp x5] })]
abbrev Zii(ms:List AV)(ks:List AV)(rs:List AV)(n0:Int)(n1:Int)(n2:Int)(n3:Int)(n4:Int)(x5:List AV):List AFrame×Zab:=(ZcZ ms ks rs n0 n1 n2 n3 n4 x5,Zcc ms ks rs n0 n1 n2 n3 n4 x5)
def Zdc(ms ks rs:List AV)(n1 n2 n3 n6:Int)(x7:List AV):List AFrame:=[{ fn:=27,N:=83,env:=[(0,AV.ptr 7005 0 0 0),(1,AV.int .i64 2),(5,AV.fn 30 [AV.ptr 7002 0 0 0]),(6,AV.fn 31 [AV.ptr 7006 0 0 0,AV.ptr 7002 0 0 0,AV.ptr 7007 0 0 0]),(15,AV.mp 27045 0),(45,AV.int .i64 n3),(46,AV.int .i64 n6)],todo:=.code (ACode.gh [] ZnF)::Zqc,defs:=[],rnd:=none,ret:=false,res:=[] },{ fn:=7,N:=31,env:=[(1,AV.ptr 7002 0 0 0),(2,AV.ptr 7003 0 0 0),(4,AV.ptr 7005 0 0 0),(5,AV.ptr 7006 0 0 0),(6,AV.ptr 7007 0 0 0),(7,AV.ptr 7008 0 0 0),(14,AV.int .i64 n1),(15,AV.fn 28 [AV.ptr 7002 0 0 0]),(16,AV.tup []),(17,AV.int .i64 n3),(18,AV.fn 30 [AV.ptr 7002 0 0 0]),(19,AV.fn 31 [AV.ptr 7006 0 0 0,AV.ptr 7002 0 0 0,AV.ptr 7007 0 0 0])],todo:=[AItem.inReg [oN 20 (OpK.icall 27 [Opd.t 4,cI 2,Opd.t 17,cI 1,cI 8,Opd.t 18,Opd.t 19])], .code (ACode.seq (ACode.reg none [oN 21 (OpK.faddr 2 (Opd.t 1)),oN 22 (OpK.load false 1 (Opd.t 21)),oN 23 (OpK.len (Opd.t 22)),oN 24 (OpK.mkfn 33 [Opd.t 1]),oN 25 (OpK.mkfn 34 [Opd.t 1,Opd.t 7,Opd.t 5,Opd.t 6]),oN 26 (OpK.icall 27 [Opd.t 4,cI 3,Opd.t 23,cI 0,cI 10,Opd.t 24,Opd.t 25])]) (ACode.gh [Ghost.keep [2,4]] (ACode.seq (ACode.reg (some [(2,4),(3,4)]) [oN 27 (OpK.faddr 0 (Opd.t 4)),oN 28 (OpK.load true 2 (Opd.t 27)),oN 29 (OpK.faddr 2 (Opd.t 4)),oN 30 (OpK.load false 1 (Opd.t 29)),{ d:=none,g:=none,k:=OpK.store 2 (Opd.t 2) (Opd.t 28) },mV 3 30]) ACode.ret)))],defs:=[],rnd:=none,ret:=false,res:=[ARes.cell 2 true 2,ARes.tmp 3] }]
def Zb5(ms:List AV)(ks:List AV)(rs:List AV)(n1:Int)(n2:Int)(n3:Int)(n6:Int)(x7:List AV):Zab:=[(7002,{ base:=0,blks:=[Blk.row 26 3 (Row.gen [AV.agg (Row.gen [AV.list (Row.big .str ms),AV.list (Row.big (.agg [.str, .int .i64]) ks),AV.list (Row.big (.agg [.str, .int .i64, .int .i64, .int .i64, .int .i64]) rs)])])] }),(7003,{ base:=0,blks:=[Blk.row 31 2 (Row.gen [AV.agg (Row.gen [AV.int .i64 0,AV.int .i64 0])])] }),(7005,{ base:=0,blks:=[Blk.row 79 3 (Row.gen [AV.agg (Row.gen [AV.int .i64 0,AV.int .i64 0,AV.int .i64 0])])] }),(7006,{ base:=0,blks:=[Blk.row 80 1 (Row.gen [AV.fn 25 []])] }),(7007,{ base:=0,blks:=[Blk.row 3 1 (Row.gen [.int .i64 n2])] }),(7008,{ base:=0,blks:=[Blk.row 3 1 (Row.gen [.int .i64 n3])] }),(27045,{ base:=0,blks:=[Blk.mp x7] })]
abbrev Zin(ms:List AV)(ks:List AV)(rs:List AV)(n1:Int)(n2:Int)(n3:Int)(n6:Int)(x7:List AV):List AFrame×Zab:=(Zdc ms ks rs n1 n2 n3 n6 x7,Zb5 ms ks rs n1 n2 n3 n6 x7)
def ZdI(ms ks rs:List AV)(n1 n2 n3 n8 n9 n10:Int)(x11:List AV):List AFrame:=[{ fn:=27,N:=83,env:=[(0,AV.ptr 7005 0 0 0),(1,AV.int .i64 3),(5,AV.fn 33 [AV.ptr 7002 0 0 0]),(6,AV.fn 34 [AV.ptr 7002 0 0 0,AV.ptr 7008 0 0 0,AV.ptr 7006 0 0 0,AV.ptr 7007 0 0 0]),(15,AV.mp 27045 0),(45,AV.int .i64 n8),(46,AV.int .i64 n10)],todo:=.code (ACode.gh [] ZnF)::Zqc,defs:=[],rnd:=none,ret:=false,res:=[] },{ fn:=7,N:=31,env:=[(1,AV.ptr 7002 0 0 0),(2,AV.ptr 7003 0 0 0),(4,AV.ptr 7005 0 0 0),(5,AV.ptr 7006 0 0 0),(6,AV.ptr 7007 0 0 0),(7,AV.ptr 7008 0 0 0),(14,AV.int .i64 n1),(15,AV.fn 28 [AV.ptr 7002 0 0 0]),(16,AV.tup []),(17,AV.int .i64 n3),(18,AV.fn 30 [AV.ptr 7002 0 0 0]),(19,AV.fn 31 [AV.ptr 7006 0 0 0,AV.ptr 7002 0 0 0,AV.ptr 7007 0 0 0]),(20,AV.tup []),(21,AV.ptr 7002 0 0 2),(22,AV.list (Row.big (.agg [.str, .int .i64, .int .i64, .int .i64, .int .i64]) rs)),(23,AV.int .i64 n9),(24,AV.fn 33 [AV.ptr 7002 0 0 0]),(25,AV.fn 34 [AV.ptr 7002 0 0 0,AV.ptr 7008 0 0 0,AV.ptr 7006 0 0 0,AV.ptr 7007 0 0 0])],todo:=[AItem.inReg [oN 26 (OpK.icall 27 [Opd.t 4,cI 3,Opd.t 23,cI 0,cI 10,Opd.t 24,Opd.t 25])], .code (ACode.gh [Ghost.keep [2,4]] (ACode.seq (ACode.reg (some [(2,4),(3,4)]) [oN 27 (OpK.faddr 0 (Opd.t 4)),oN 28 (OpK.load true 2 (Opd.t 27)),oN 29 (OpK.faddr 2 (Opd.t 4)),oN 30 (OpK.load false 1 (Opd.t 29)),{ d:=none,g:=none,k:=OpK.store 2 (Opd.t 2) (Opd.t 28) },mV 3 30]) ACode.ret))],defs:=[],rnd:=none,ret:=false,res:=[ARes.cell 2 true 2,ARes.tmp 3] }]
def Zcz(ms:List AV)(ks:List AV)(rs:List AV)(n1:Int)(n2:Int)(n3:Int)(n8:Int)(n9:Int)(n10:Int)(x11:List AV):Zab:=[(7002,{ base:=0,blks:=[Blk.row 26 3 (Row.gen [AV.agg (Row.gen [AV.list (Row.big .str ms),AV.list (Row.big (.agg [.str, .int .i64]) ks),AV.list (Row.big (.agg [.str, .int .i64, .int .i64, .int .i64, .int .i64]) rs)])])] }),(7003,{ base:=0,blks:=[Blk.row 31 2 (Row.gen [AV.agg (Row.gen [AV.int .i64 0,AV.int .i64 0])])] }),(7005,{ base:=0,blks:=[Blk.row 79 3 (Row.gen [AV.agg (Row.gen [AV.int .i64 0,AV.int .i64 0,AV.int .i64 0])])] }),(7006,{ base:=0,blks:=[Blk.row 80 1 (Row.gen [AV.fn 25 []])] }),(7007,{ base:=0,blks:=[Blk.row 3 1 (Row.gen [.int .i64 n2])] }),(7008,{ base:=0,blks:=[Blk.row 3 1 (Row.gen [.int .i64 n3])] }),(27045,{ base:=0,blks:=[Blk.mp x11] })]
abbrev ZhU(ms:List AV)(ks:List AV)(rs:List AV)(n1:Int)(n2:Int)(n3:Int)(n8:Int)(n9:Int)(n10:Int)(x11:List AV):List AFrame×Zab:=(ZdI ms ks rs n1 n2 n3 n8 n9 n10 x11,Zcz ms ks rs n1 n2 n3 n8 n9 n10 x11)
theorem ZxW(A:Ar)(ms ks rs:List AV):ZaT A tab B3 118 [false,true,true,true] 7 (f7e ms ks rs) []=
 some (tr [8,11,20,3,0,8,23] [A.not (A.eq (Zan [Zaa (A.le 1 (A.int (A.lenA ms))) 10,Zaa (A.le (A.int (A.lenA ms)) 6) 8]) 0),A.not (A.eq (Zan [Zaa (A.le 1 (A.int (A.lenA ms))) 10,Zaa (A.le (A.int (A.lenA ms)) 6) 8]) 0),A.not (A.eq (Zan [Zaa (A.le 1 (A.int (A.lenA ms))) 10,Zaa (A.le (A.int (A.lenA ms)) 6) 8]) 0),decide (List.length [Zaa (A.le 1 (A.int (A.lenA ms))) 10,Zaa (A.le (A.int (A.lenA ms)) 6) 8]≤1000000),List.all [AV.int .i64 (Zaa (A.le 1 (A.int (A.lenA ms))) 10),AV.int .i64 (Zaa (A.le (A.int (A.lenA ms)) 6) 8)] fun x=>AV.bx x&&Nat.beq (Zam A x) 1,!A.not (A.eq 0 0)],
  AV.tup [AV.agg (Row.gen [.int .i64 1, .int .i64 0]),AV.int .i64 (Zan [Zaa (A.le 1 (A.int (A.lenA ms))) 10,Zaa (A.le (A.int (A.lenA ms)) 6) 8])],none):=by kernel_rfl
theorem Zxy(A:Ar)(ms ks rs:List AV):Zav A tab B3 70 [false,false] (f7e ms ks rs) []=
 some (tr [4,3,0,8,23] [!A.not (A.eq (Zan [Zaa (A.le 1 (A.int (A.lenA ms))) 10,Zaa (A.le (A.int (A.lenA ms)) 6) 8]) 0),decide (List.length [Zaa (A.le 1 (A.int (A.lenA ms))) 10,Zaa (A.le (A.int (A.lenA ms)) 6) 8]≤1000000),List.all [AV.int .i64 (Zaa (A.le 1 (A.int (A.lenA ms))) 10),AV.int .i64 (Zaa (A.le (A.int (A.lenA ms)) 6) 8)] fun x=>AV.bx x&&Nat.beq (Zam A x) 1,!A.not (A.eq 0 0)],
  Zii (ms) (ks) (rs) (A.int (A.lenA ms)) (A.int (A.lenA ms)) (A.int (A.lenA ms)) (A.int (A.lenA ks)) (0) ([])):=by kernel_rfl
theorem ZxE(A:Ar)(ms ks rs:List AV)(n0 n1 n2 n3 n4:Int)(x5:List AV):ZaT A tab B3 107 [true,true,true,true] 7 (ZcZ ms ks rs n0 n1 n2 n3 n4 x5) (Zcc ms ks rs n0 n1 n2 n3 n4 x5)=
 some (tr [8,11,21,3,0,6,4,0,4,1] [A.not (A.eq (Zan [Zaa (ZaH (ZaV ms n4)) 4,Zaa (A.not (A.hasS x5 (ZaV ms n4))) 5,0]) 0),A.not (A.eq (Zan [Zaa (ZaH (ZaV ms n4)) 4,Zaa (A.not (A.hasS x5 (ZaV ms n4))) 5,0]) 0),A.not (A.eq (Zan [Zaa (ZaH (ZaV ms n4)) 4,Zaa (A.not (A.hasS x5 (ZaV ms n4))) 5,0]) 0),decide (List.length [Zaa (ZaH (ZaV ms n4)) 4,Zaa (A.not (A.hasS x5 (ZaV ms n4))) 5,0]≤1000000),List.all [AV.int .i64 (Zaa (ZaH (ZaV ms n4)) 4),AV.int .i64 (Zaa (A.not (A.hasS x5 (ZaV ms n4))) 5),AV.int .i64 0] fun x=>AV.bx x&&Nat.beq (Zam A x) 1,decide (0≤n4∧n4< ↑(List.length ms)),decide (List.length (ZaV ms n4)≤1000000),decide (0≤n4∧n4< ↑(List.length ms)),A.lt n4 n0],
  AV.tup [AV.agg (Row.gen [.int .i64 1, .int .i64 n4]),AV.int .i64 (Zan [Zaa (ZaH (ZaV ms n4)) 4,Zaa (A.not (A.hasS x5 (ZaV ms n4))) 5,0])],none):=by kernel_rfl
theorem ZxL(A:Ar)(ms ks rs:List AV)(n0 n1 n2 n3 n4:Int)(x5:List AV):Zav A tab B3 59 [true,false] (ZcZ ms ks rs n0 n1 n2 n3 n4 x5) (Zcc ms ks rs n0 n1 n2 n3 n4 x5)=
 some (tr [1,0,0,3,3,0,6,4,0,4,1] [A.inR .i64 (A.add n4 1),A.not (A.hasS x5 (ZaV ms n4)),decide (0≤n4∧n4< ↑(List.length ms)),!A.not (A.eq (Zan [Zaa (ZaH (ZaV ms n4)) 4,Zaa (A.not (A.hasS x5 (ZaV ms n4))) 5,0]) 0),decide (List.length [Zaa (ZaH (ZaV ms n4)) 4,Zaa (A.not (A.hasS x5 (ZaV ms n4))) 5,0]≤1000000),List.all [AV.int .i64 (Zaa (ZaH (ZaV ms n4)) 4),AV.int .i64 (Zaa (A.not (A.hasS x5 (ZaV ms n4))) 5),AV.int .i64 0] fun x=>AV.bx x&&Nat.beq (Zam A x) 1,decide (0≤n4∧n4< ↑(List.length ms)),decide (List.length (ZaV ms n4)≤1000000),decide (0≤n4∧n4< ↑(List.length ms)),A.lt n4 n0],
  Zii (ms) (ks) (rs) (n0) (n1) (n2) (n3) (A.add n4 1) (A.appA x5 [AV.str (ZaV ms n4)])):=by kernel_rfl
theorem Zxg(A:Ar)(ms ks rs:List AV)(n0 n1 n2 n3 n4:Int)(x5:List AV):ZaT A tab B3 93 [false,false,true,true] 7 (ZcZ ms ks rs n0 n1 n2 n3 n4 x5) (Zcc ms ks rs n0 n1 n2 n3 n4 x5)=
 some (tr [8,22,3,0,8,9,1] [A.not (A.eq (Zan [Zaa (A.le 1 n3) 10,Zaa (A.le n3 8) 8]) 0),A.not (A.eq (Zan [Zaa (A.le 1 n3) 10,Zaa (A.le n3 8) 8]) 0),decide (List.length [Zaa (A.le 1 n3) 10,Zaa (A.le n3 8) 8]≤1000000),List.all [AV.int .i64 (Zaa (A.le 1 n3) 10),AV.int .i64 (Zaa (A.le n3 8) 8)] fun x=>AV.bx x&&Nat.beq (Zam A x) 1,!A.not (A.eq 0 0),!A.lt n4 n0],
  AV.tup [AV.agg (Row.gen [.int .i64 2, .int .i64 0]),AV.int .i64 (Zan [Zaa (A.le 1 n3) 10,Zaa (A.le n3 8) 8])],none):=by kernel_rfl
theorem ZxA(A:Ar)(ms ks rs:List AV)(n0 n1 n2 n3 n4:Int)(x5:List AV):Zav A tab B3 64 [false,false,false] (ZcZ ms ks rs n0 n1 n2 n3 n4 x5) (Zcc ms ks rs n0 n1 n2 n3 n4 x5)=
 some (tr [4,3,0,8,9,1] [!A.not (A.eq (Zan [Zaa (A.le 1 n3) 10,Zaa (A.le n3 8) 8]) 0),decide (List.length [Zaa (A.le 1 n3) 10,Zaa (A.le n3 8) 8]≤1000000),List.all [AV.int .i64 (Zaa (A.le 1 n3) 10),AV.int .i64 (Zaa (A.le n3 8) 8)] fun x=>AV.bx x&&Nat.beq (Zam A x) 1,!A.not (A.eq 0 0),!A.lt n4 n0],
  Zin (ms) (ks) (rs) (n1) (n2) (n3) (0) ([])):=by kernel_rfl
theorem ZxS(A:Ar)(ms ks rs:List AV)(n1 n2 n3 n6:Int)(x7:List AV):ZaT A tab B3 88 [true,true,true] 7 (Zdc ms ks rs n1 n2 n3 n6 x7) (Zb5 ms ks rs n1 n2 n3 n6 x7)=
 some (tr [8,23,3,0,0,5,4,0,4,1] [A.not (A.eq (Zan [Zaa (ZaH (Zau ks n6)) 4,Zaa (A.not (A.hasS x7 (Zau ks n6))) 5,ZbY ks n6 n2]) 0),A.not (A.eq (Zan [Zaa (ZaH (Zau ks n6)) 4,Zaa (A.not (A.hasS x7 (Zau ks n6))) 5,ZbY ks n6 n2]) 0),decide (List.length [Zaa (ZaH (Zau ks n6)) 4,Zaa (A.not (A.hasS x7 (Zau ks n6))) 5,ZbY ks n6 n2]≤1000000),List.all [AV.int .i64 (Zaa (ZaH (Zau ks n6)) 4),AV.int .i64 (Zaa (A.not (A.hasS x7 (Zau ks n6))) 5),AV.int .i64 (ZbY ks n6 n2)] fun x=>AV.bx x&&Nat.beq (Zam A x) 1,decide ((0≤n6∧n6< ↑(List.length ks))∧ -1000000≤n2∧n2≤1000000),decide (0≤n6∧n6< ↑(List.length ks)),decide (List.length (Zau ks n6)≤1000000),decide (0≤n6∧n6< ↑(List.length ks)),A.lt n6 n3],
  AV.tup [AV.agg (Row.gen [.int .i64 2, .int .i64 n6]),AV.int .i64 (Zan [Zaa (ZaH (Zau ks n6)) 4,Zaa (A.not (A.hasS x7 (Zau ks n6))) 5,ZbY ks n6 n2])],none):=by kernel_rfl
theorem Zxe(A:Ar)(ms ks rs:List AV)(n1 n2 n3 n6:Int)(x7:List AV):Zav A tab B3 59 [true,false] (Zdc ms ks rs n1 n2 n3 n6 x7) (Zb5 ms ks rs n1 n2 n3 n6 x7)=
 some (tr [1,0,0,3,3,0,0,5,4,0,4,1] [A.inR .i64 (A.add n6 1),A.not (A.hasS x7 (Zau ks n6)),decide (0≤n6∧n6< ↑(List.length ks)),!A.not (A.eq (Zan [Zaa (ZaH (Zau ks n6)) 4,Zaa (A.not (A.hasS x7 (Zau ks n6))) 5,ZbY ks n6 n2]) 0),decide (List.length [Zaa (ZaH (Zau ks n6)) 4,Zaa (A.not (A.hasS x7 (Zau ks n6))) 5,ZbY ks n6 n2]≤1000000),List.all [AV.int .i64 (Zaa (ZaH (Zau ks n6)) 4),AV.int .i64 (Zaa (A.not (A.hasS x7 (Zau ks n6))) 5),AV.int .i64 (ZbY ks n6 n2)] fun x=>AV.bx x&&Nat.beq (Zam A x) 1,decide ((0≤n6∧n6< ↑(List.length ks))∧ -1000000≤n2∧n2≤1000000),decide (0≤n6∧n6< ↑(List.length ks)),decide (List.length (Zau ks n6)≤1000000),decide (0≤n6∧n6< ↑(List.length ks)),A.lt n6 n3],
  Zin (ms) (ks) (rs) (n1) (n2) (n3) (A.add n6 1) (A.appA x7 [AV.str (Zau ks n6)])):=by kernel_rfl
theorem ZxD(A:Ar)(ms ks rs:List AV)(n1 n2 n3 n6:Int)(x7:List AV):ZaT A tab B3 74 [false,false,true] 7 (Zdc ms ks rs n1 n2 n3 n6 x7) (Zb5 ms ks rs n1 n2 n3 n6 x7)=
 some (tr [19,3,0,8,11,1] [A.not (A.eq (Zan [Zaa (A.le 0 (A.int (A.lenA rs))) 10,Zaa (A.le (A.int (A.lenA rs)) 10) 8]) 0),decide (List.length [Zaa (A.le 0 (A.int (A.lenA rs))) 10,Zaa (A.le (A.int (A.lenA rs)) 10) 8]≤1000000),List.all [AV.int .i64 (Zaa (A.le 0 (A.int (A.lenA rs))) 10),AV.int .i64 (Zaa (A.le (A.int (A.lenA rs)) 10) 8)] fun x=>AV.bx x&&Nat.beq (Zam A x) 1,!A.not (A.eq 0 0),!A.lt n6 n3],
  AV.tup [AV.agg (Row.gen [.int .i64 3, .int .i64 0]),AV.int .i64 (Zan [Zaa (A.le 0 (A.int (A.lenA rs))) 10,Zaa (A.le (A.int (A.lenA rs)) 10) 8])],none):=by kernel_rfl
theorem ZxY(A:Ar)(ms ks rs:List AV)(n1 n2 n3 n6:Int)(x7:List AV):Zav A tab B3 66 [false,false,false] (Zdc ms ks rs n1 n2 n3 n6 x7) (Zb5 ms ks rs n1 n2 n3 n6 x7)=
 some (tr [4,3,0,8,11,1] [!A.not (A.eq (Zan [Zaa (A.le 0 (A.int (A.lenA rs))) 10,Zaa (A.le (A.int (A.lenA rs)) 10) 8]) 0),decide (List.length [Zaa (A.le 0 (A.int (A.lenA rs))) 10,Zaa (A.le (A.int (A.lenA rs)) 10) 8]≤1000000),List.all [AV.int .i64 (Zaa (A.le 0 (A.int (A.lenA rs))) 10),AV.int .i64 (Zaa (A.le (A.int (A.lenA rs)) 10) 8)] fun x=>AV.bx x&&Nat.beq (Zam A x) 1,!A.not (A.eq 0 0),!A.lt n6 n3],
  ZhU (ms) (ks) (rs) (n1) (n2) (n3) (A.int (A.lenA rs)) (A.int (A.lenA rs)) (0) ([])):=by kernel_rfl
theorem Zwi(A:Ar)(ms ks rs:List AV)(n1 n2 n3 n8 n9 n10:Int)(x11:List AV):ZaT A tab B3 67 [true,true] 7 (ZdI ms ks rs n1 n2 n3 n8 n9 n10 x11) (Zcz ms ks rs n1 n2 n3 n8 n9 n10 x11)=
 some (tr [20,3,0,0,5,4,0,4,1] [A.not (A.eq (Zan [Zaa (ZaH (Zau rs n10)) 4,Zaa (A.not (A.hasS x11 (Zau rs n10))) 5,Zbs rs n10 n3 n2]) 0),decide (List.length [Zaa (ZaH (Zau rs n10)) 4,Zaa (A.not (A.hasS x11 (Zau rs n10))) 5,Zbs rs n10 n3 n2]≤1000000),List.all [AV.int .i64 (Zaa (ZaH (Zau rs n10)) 4),AV.int .i64 (Zaa (A.not (A.hasS x11 (Zau rs n10))) 5),AV.int .i64 (Zbs rs n10 n3 n2)] fun x=>AV.bx x&&Nat.beq (Zam A x) 1,decide ((0≤n10∧n10< ↑(List.length rs))∧(-1000000≤n3∧n3≤1000000)∧ -1000000≤n2∧n2≤1000000),decide (0≤n10∧n10< ↑(List.length rs)),decide (List.length (Zau rs n10)≤1000000),decide (0≤n10∧n10< ↑(List.length rs)),A.lt n10 n8],
  AV.tup [AV.agg (Row.gen [.int .i64 3, .int .i64 n10]),AV.int .i64 (Zan [Zaa (ZaH (Zau rs n10)) 4,Zaa (A.not (A.hasS x11 (Zau rs n10))) 5,Zbs rs n10 n3 n2])],none):=by kernel_rfl
theorem Zux(A:Ar)(ms ks rs:List AV)(n1 n2 n3 n8 n9 n10:Int)(x11:List AV):Zav A tab B3 59 [true,false] (ZdI ms ks rs n1 n2 n3 n8 n9 n10 x11) (Zcz ms ks rs n1 n2 n3 n8 n9 n10 x11)=
 some (tr [1,0,0,3,3,0,0,5,4,0,4,1] [A.inR .i64 (A.add n10 1),A.not (A.hasS x11 (Zau rs n10)),decide (0≤n10∧n10< ↑(List.length rs)),!A.not (A.eq (Zan [Zaa (ZaH (Zau rs n10)) 4,Zaa (A.not (A.hasS x11 (Zau rs n10))) 5,Zbs rs n10 n3 n2]) 0),decide (List.length [Zaa (ZaH (Zau rs n10)) 4,Zaa (A.not (A.hasS x11 (Zau rs n10))) 5,Zbs rs n10 n3 n2]≤1000000),List.all [AV.int .i64 (Zaa (ZaH (Zau rs n10)) 4),AV.int .i64 (Zaa (A.not (A.hasS x11 (Zau rs n10))) 5),AV.int .i64 (Zbs rs n10 n3 n2)] fun x=>AV.bx x&&Nat.beq (Zam A x) 1,decide ((0≤n10∧n10< ↑(List.length rs))∧(-1000000≤n3∧n3≤1000000)∧ -1000000≤n2∧n2≤1000000),decide (0≤n10∧n10< ↑(List.length rs)),decide (List.length (Zau rs n10)≤1000000),decide (0≤n10∧n10< ↑(List.length rs)),A.lt n10 n8],
  ZhU (ms) (ks) (rs) (n1) (n2) (n3) (n8) (n9) (A.add n10 1) (A.appA x11 [AV.str (Zau rs n10)])):=by kernel_rfl
theorem ZvN(A:Ar)(ms ks rs:List AV)(n1 n2 n3 n8 n9 n10:Int)(x11:List AV):ZaT A tab B3 15 [false] 7 (ZdI ms ks rs n1 n2 n3 n8 n9 n10 x11) (Zcz ms ks rs n1 n2 n3 n8 n9 n10 x11)=
 some (tr [8,1] [!A.lt n10 n8],
  AV.tup [AV.agg (Row.gen [.int .i64 0, .int .i64 0]),AV.int .i64 0],none):=by kernel_rfl
def ZtQ(ms:List AV)(ks:List AV)(rs:List AV)(a:Int)(b:Int)(xs:List Int):AFrame:={ fn:=16,N:=41,env:=[(0,AV.agg (Row.gen [.list (Row.big .str ms), .list (Row.big (.agg [.str, .int .i64]) ks), .list (Row.big (.agg [.str, .int .i64, .int .i64, .int .i64, .int .i64]) rs)])),(1,AV.agg (Row.gen [.int .i64 a, .int .i64 b, .list (.ints .i64 xs)]))],todo:=[.code a16.code],defs:=[],rnd:=none,ret:=false,res:=[ARes.tmp 4] }
def Zt3(ms:List AV)(ks:List AV)(rs:List AV)(a:Int)(b:Int)(xs:List Int):List AFrame:=[(ZtQ ms ks rs a b xs)]
theorem Zqo(ms:List AV)(ks:List AV)(rs:List AV)(a:Int)(b:Int)(xs:List Int):ZaC tab 16 [AV.agg (Row.gen [.list (Row.big .str ms), .list (Row.big (.agg [.str, .int .i64]) ks), .list (Row.big (.agg [.str, .int .i64, .int .i64, .int .i64, .int .i64]) rs)]),AV.agg (Row.gen [.int .i64 a, .int .i64 b, .list (.ints .i64 xs)])]=some (ZtQ ms ks rs a b xs):=rfl
def Zcu(a b:Int)(xs:List Int)(n0:Int):List AFrame:=[{ fn:=16,N:=41,env:=[(3,AV.ptr 16004 0 0 0),(5,AV.int .i64 n0)],todo:=.code (ACode.gh [] ZrR)::Zvw,defs:=[],rnd:=none,ret:=false,res:=[ARes.tmp 4] }]
def Zb4(a:Int)(b:Int)(xs:List Int)(n0:Int):Zab:=[(16004,{ base:=0,blks:=[Blk.row 46 3 (Row.gen [AV.agg (Row.gen [AV.int .i64 a,AV.int .i64 b,AV.list (.ints .i64 xs)])])] })]
abbrev ZgM(a:Int)(b:Int)(xs:List Int)(n0:Int):List AFrame×Zab:=(Zcu a b xs n0,Zb4 a b xs n0)
theorem Zui(A:Ar)(ms ks rs:List AV)(a b:Int)(xs:List Int):ZaT A tab B3 25 [true] 16 (Zt3 ms ks rs a b xs) []=
 some (tr [2,2,8] [A.not (Zad a 0 (A.sub (A.int (A.lenA ms)) 1)),A.inR .i64 (A.sub (A.int (A.lenA ms)) 1)],
  AV.int .i64 6,none):=by kernel_rfl
theorem Zu5(A:Ar)(ms ks rs:List AV)(a b:Int)(xs:List Int):ZaT A tab B3 35 [false,true] 16 (Zt3 ms ks rs a b xs) []=
 some (tr [2,4,2,8] [A.not (Zad b 0 1000000000000),!A.not (Zad a 0 (A.sub (A.int (A.lenA ms)) 1)),A.inR .i64 (A.sub (A.int (A.lenA ms)) 1)],
  AV.int .i64 2,none):=by kernel_rfl
theorem Zu8(A:Ar)(ms ks rs:List AV)(a b:Int)(xs:List Int):ZaT A tab B3 49 [false,false,true] 16 (Zt3 ms ks rs a b xs) []=
 some (tr [2,7,4,2,8] [A.not (A.eq (A.int (A.len xs)) (A.int (A.lenA ks))),!A.not (Zad b 0 1000000000000),!A.not (Zad a 0 (A.sub (A.int (A.lenA ms)) 1)),A.inR .i64 (A.sub (A.int (A.lenA ms)) 1)],
  AV.int .i64 10,none):=by kernel_rfl
theorem Zu9(A:Ar)(ms ks rs:List AV)(a b:Int)(xs:List Int):Zav A tab B3 53 [false,false,false] (Zt3 ms ks rs a b xs) []=
 some (tr [1,7,4,2,8] [!A.not (A.eq (A.int (A.len xs)) (A.int (A.lenA ks))),!A.not (Zad b 0 1000000000000),!A.not (Zad a 0 (A.sub (A.int (A.lenA ms)) 1)),A.inR .i64 (A.sub (A.int (A.lenA ms)) 1)],
  ZgM (a) (b) (xs) (0)):=by kernel_rfl
theorem Zwm(A:Ar)(a b:Int)(xs:List Int)(n0:Int):ZaT A tab B3 23 [true,true] 16 (Zcu a b xs n0) (Zb4 a b xs n0)=
 some (tr [2,5,3,5] [A.not (Zad (A.nth xs (A.nat n0)) (-1) b),Zag (Zag (A.le 0 n0) (Nat.blt (A.nat n0) (A.len xs))) true,A.lt n0 (A.int (A.len xs))],
  AV.int .i64 2,none):=by kernel_rfl
theorem Zwr(A:Ar)(a b:Int)(xs:List Int)(n0:Int):Zav A tab B3 27 [true,false] (Zcu a b xs n0) (Zb4 a b xs n0)=
 some (tr [1,1,5,3,5] [A.inR .i64 (A.add n0 1),!A.not (Zad (A.nth xs (A.nat n0)) (-1) b),Zag (Zag (A.le 0 n0) (Nat.blt (A.nat n0) (A.len xs))) true,A.lt n0 (A.int (A.len xs))],
  ZgM (a) (b) (xs) (A.add n0 1)):=by kernel_rfl
theorem ZvZ(A:Ar)(a b:Int)(xs:List Int)(n0:Int):ZaT A tab B3 17 [false] 16 (Zcu a b xs n0) (Zb4 a b xs n0)=
 some (tr [2,5] [!A.lt n0 (A.int (A.len xs))],
  AV.int .i64 0,none):=by kernel_rfl
end Go.Proofs.YtkeoeooghhjibaaDoor
/- Paths of functions, printed by the explorer (Gx). No condition. -/
namespace Go.Proofs.YtkeoeooghhjibaaDoor
set_option maxRecDepth 100000
set_option linter.unusedVariables false
def Zn2(s:List UInt8):AFrame:={ fn:=41,N:=18,env:=[(0,AV.nils),(1,AV.str s)],todo:=[.code a41.code],defs:=[],rnd:=none,ret:=false,res:=[ARes.tmp 4] }
def ZvA(s:List UInt8):List AFrame:=[(Zn2 s)]
theorem Znc(s:List UInt8):ZaC tab 41 [AV.nils,AV.str s]=some (Zn2 s):=rfl
def Zge(s:List UInt8):List AFrame:=[{ fn:=41,N:=18,env:=[(0,AV.nils),(1,AV.str s),(5,AV.int .i64 0)],todo:=.code (ACode.gh [] ZoG)::Zro,defs:=[],rnd:=none,ret:=false,res:=[ARes.tmp 4] }]
def ZfO(s:List UInt8):Zab:=[]
abbrev Zi5(s:List UInt8):List AFrame×Zab:=(Zge s,ZfO s)
theorem Ztd(A:Ar)(s:List UInt8):Zav A tab B3 12 [] (ZvA s) []=
 some (tr [2] [],
  Zi5 (s)):=by kernel_rfl
theorem Zta(A:Ar)(s:List UInt8):ZaT A tab B3 16 [false] 41 (Zge s) (ZfO s)=
 some (tr [2,4] [!A.lt 0 (A.int 0)],
  AV.bool false,none):=by kernel_rfl
end Go.Proofs.YtkeoeooghhjibaaDoor
/- CheckModel of the program. No condition. -/
namespace Go.Proofs.YtkeoeooghhjibaaDoor
def Za6(p i e:Int):AV:=.tup [.agg (.gen [.int .i64 p, .int .i64 i]), .int .i64 e]
def ZbW(nm:List UInt8)(ex:Int)(xs:List AV):Int:=Zan [Zaa (ZaH nm) 4,Zaa (!std.hasS xs nm) 5,ex]
def ZbE(a b:Bool):Int:=Zan [Zaa a 10,Zaa b 8]
def Za5(nm:Nat→List UInt8)(ex:Nat→Int):Nat→Nat→List AV→Option (Nat×Int)
 |0,_,_=>none
 |m+1,k,xs=>if ZbW (nm k) (ex k) xs=0 then Za5 nm ex m (k+1) (xs++[.str (nm k)])else some (k,ZbW (nm k) (ex k) xs)
def Zbg(p:Int)(o:Option (Nat×Int))(d:AV):AV:=match o with |some (k,e)=>Za6 p k e |none=>d
def ZlA(ms ks rs:List AV):AV:=Zbg 3 (Za5 (fun k=>Zau rs k) (fun k=>Zbs rs k ks.length ms.length) rs.length 0 []) (Za6 0 0 0)
def ZkT(ms ks rs:List AV):AV:=Zbg 2 (Za5 (fun k=>Zau ks k) (fun k=>ZbY ks k ms.length) ks.length 0 []) (if ZbE (decide (0≤(rs.length:Int))) (decide ((rs.length:Int)≤10))=0 then ZlA ms ks rs else Za6 3 0 (ZbE (decide (0≤(rs.length:Int))) (decide ((rs.length:Int)≤10))))
def Zm8(ms ks rs:List AV):AV:=Zbg 1 (Za5 (fun k=>ZaV ms k) (fun _=>0) ms.length 0 []) (if ZbE (decide (1≤(ks.length:Int))) (decide ((ks.length:Int)≤8))=0 then ZkT ms ks rs else Za6 2 0 (ZbE (decide (1≤(ks.length:Int))) (decide ((ks.length:Int)≤8))))
def Zdh(ms ks rs:List AV):AV:=if ZbE (decide (1≤(ms.length:Int))) (decide ((ms.length:Int)≤6))=0 then Zm8 ms ks rs else Za6 1 0 (ZbE (decide (1≤(ms.length:Int))) (decide ((ms.length:Int)≤6)))
def ZaI(ms ks rs:List AV):Bool:=(ms.all fun x=>decide (x.toS.length≤1000000))&&(ks.all fun x=>decide ((x.cellAt 0).toS.length≤1000000))&&(rs.all fun x=>decide ((x.cellAt 0).toS.length≤1000000))&&decide (ms.length≤1000000∧ks.length≤1000000∧rs.length≤1000000)
theorem Zle{xs:List AV}{k:Nat}(h:k<xs.length):xs.getD k .top∈xs:=by
 rw[List.getD_eq_getElem?_getD,List.getElem?_eq_getElem h];exact List.getElem_mem h
theorem ZbA{ks:List AV}(h:(ks.all fun x=>decide ((x.cellAt 0).toS.length≤1000000))=true){k:Nat}(hk:k<ks.length):(Zau ks k).length≤1000000:=by
 have:=List.all_eq_true.1 h _ (Zle hk)
 simpa[Zau]using this
theorem ZgB{ks:List AV}(h:(ks.all fun x=>decide (x.toS.length≤1000000))=true){k:Nat}(hk:k<ks.length):(ZaV ks k).length≤1000000:=by
 have:=List.all_eq_true.1 h _ (Zle hk)
 simpa[ZaV]using this
theorem Zn5{a b c:Int}(h:Zan [a,b,c]=0):a=0∧b=0∧c=0:=by
 simp only[Zan]at h
 by_cases h1:a=0
 ·by_cases h2:b=0
  ·by_cases h3:c=0
   ·exact⟨h1,h2,h3⟩
   ·simp[h1,h2,h3]at h
  ·simp[h1,h2]at h
 ·simp[h1]at h
theorem ZgX{nm:List UInt8}{ex:Int}{xs:List AV}(h:ZbW nm ex xs=0):std.hasS xs nm=false:=by
 have:=(Zn5 h).2.1
 unfold Zaa at this
 split at this
 ·rename_i e;simpa using e
 ·cases this
theorem bx3(x y z:Int):([AV.int .i64 x,AV.int .i64 y,AV.int .i64 z].all fun x=>AV.bx x&&Nat.beq (Zam std x) 1)=true:=rfl
theorem bx2(x y:Int):([AV.int .i64 x,AV.int .i64 y].all fun x=>AV.bx x&&Nat.beq (Zam std x) 1)=true:=rfl
section
variable {C:Ctx}(hC:C.P=Tryd.prog)(ms ks rs:List AV)(hs:ZaI ms ks rs=true)
include hC hs
theorem Zsu(n1:Int):∀(m k:Nat) (xs:List AV),k+m=rs.length→Ev C (ZdI ms ks rs n1 ms.length ks.length rs.length rs.length k xs) (Zcz ms ks rs n1 ms.length ks.length rs.length rs.length k xs)
 (Zcp 7 (Zbg 3 (Za5 (fun k=>Zau rs k) (fun k=>Zbs rs k ks.length ms.length) m k xs) (Za6 0 0 0)) none)
 |0,k,xs,hk=>fin hC ZaX (ZvN std ms ks rs n1 ms.length ks.length rs.length rs.length k xs) (by simp;omega) rfl rfl
 |m+1,k,xs,hk=>by
  simp only[ZaI,Bool.and_eq_true,decide_eq_true_eq]at hs
  have hn:=ZbA hs.1.2 (show k<rs.length by omega)
  by_cases h:ZbW (Zau rs k) (Zbs rs k ks.length ms.length) xs=0
  ·have hnew:=ZgX h
   have h':=h
   unfold ZbW at h'
   refine go hC ZaX (Zux std ms ks rs n1 ms.length ks.length rs.length rs.length k xs) (by simp only[bx3];simp[-ZcO,hnew,hn];simp[-ZcO,hnew]at h';simp[h'];omega) ?_
   have:=Zsu n1 m (k+1) (xs++[.str (Zau rs k)]) (by omega)
   rw[Za5,if_pos h]
   exact this
  ·have h':=h
   unfold ZbW at h'
   rw[Za5,if_neg h]
   exact fin hC ZaX (Zwi std ms ks rs n1 ms.length ks.length rs.length rs.length k xs) (by simp only[bx3];simp[-ZcO,hn,h'];omega) rfl rfl
theorem Zr0(n1:Int):∀(m k:Nat) (xs:List AV),k+m=ks.length→Ev C (Zdc ms ks rs n1 ms.length ks.length k xs) (Zb5 ms ks rs n1 ms.length ks.length k xs)
 (Zcp 7 (Zbg 2 (Za5 (fun k=>Zau ks k) (fun k=>ZbY ks k ms.length) m k xs) (if ZbE (decide (0≤(rs.length:Int))) (decide ((rs.length:Int)≤10))=0 then ZlA ms ks rs else Za6 3 0 (ZbE (decide (0≤(rs.length:Int))) (decide ((rs.length:Int)≤10))))) none)
 |0,k,xs,hk=>by
  by_cases h:ZbE (decide (0≤(rs.length:Int))) (decide ((rs.length:Int)≤10))=0
  ·have h':=h
   unfold ZbE at h'
   rw[if_pos h]
   refine go hC ZaX (ZxY std ms ks rs n1 ms.length ks.length k xs) (by simp only[bx2,ZqC,ZiZ,Ze9,h'];simp;omega) ?_
   exact Zsu hC ms ks rs hs n1 rs.length 0 [] (by omega)
  ·have h':=h
   unfold ZbE at h'
   rw[if_neg h]
   exact fin hC ZaX (ZxD std ms ks rs n1 ms.length ks.length k xs) (by simp only[bx2,Zt4,ZqC,ZiZ,Ze9,h'];simp;omega) rfl rfl
 |m+1,k,xs,hk=>by
  have hs':=hs
  simp only[ZaI,Bool.and_eq_true,decide_eq_true_eq]at hs'
  have hn:=ZbA hs'.1.1.2 (show k<ks.length by omega)
  by_cases h:ZbW (Zau ks k) (ZbY ks k ms.length) xs=0
  ·have hnew:=ZgX h
   have h':=h
   unfold ZbW at h'
   refine go hC ZaX (Zxe std ms ks rs n1 ms.length ks.length k xs) (by simp only[bx3];simp[-ZcO,hnew,hn];simp[-ZcO,hnew]at h';simp[h'];omega) ?_
   have:=Zr0 n1 m (k+1) (xs++[.str (Zau ks k)]) (by omega)
   rw[Za5,if_pos h]
   exact this
  ·have h':=h
   unfold ZbW at h'
   rw[Za5,if_neg h]
   exact fin hC ZaX (ZxS std ms ks rs n1 ms.length ks.length k xs) (by simp only[bx3];simp[-ZcO,hn,h'];omega) rfl rfl
theorem Zrw(n1:Int):∀(m k:Nat) (xs:List AV),k+m=ms.length→Ev C (ZcZ ms ks rs ms.length n1 ms.length ks.length k xs) (Zcc ms ks rs ms.length n1 ms.length ks.length k xs)
 (Zcp 7 (Zbg 1 (Za5 (fun k=>ZaV ms k) (fun _=>0) m k xs) (if ZbE (decide (1≤(ks.length:Int))) (decide ((ks.length:Int)≤8))=0 then ZkT ms ks rs else Za6 2 0 (ZbE (decide (1≤(ks.length:Int))) (decide ((ks.length:Int)≤8))))) none)
 |0,k,xs,hk=>by
  by_cases h:ZbE (decide (1≤(ks.length:Int))) (decide ((ks.length:Int)≤8))=0
  ·have h':=h
   unfold ZbE at h'
   rw[if_pos h]
   refine go hC ZaX (ZxA std ms ks rs ms.length n1 ms.length ks.length k xs) (by simp only[bx2,ZqC,ZiZ,Ze9,h'];simp;omega) ?_
   exact Zr0 hC ms ks rs hs n1 ks.length 0 [] (by omega)
  ·have h':=h
   unfold ZbE at h'
   rw[if_neg h]
   exact fin hC ZaX (Zxg std ms ks rs ms.length n1 ms.length ks.length k xs) (by simp only[bx2,Zt4,ZqC,ZiZ,Ze9,h'];simp;omega) rfl rfl
 |m+1,k,xs,hk=>by
  have hs':=hs
  simp only[ZaI,Bool.and_eq_true,decide_eq_true_eq]at hs'
  have hn:=ZgB hs'.1.1.1 (show k<ms.length by omega)
  by_cases h:ZbW (ZaV ms k) 0 xs=0
  ·have hnew:=ZgX h
   have h':=h
   unfold ZbW at h'
   refine go hC ZaX (ZxL std ms ks rs ms.length n1 ms.length ks.length k xs) (by simp only[bx3];simp[-ZcO,hnew,hn];simp[-ZcO,hnew]at h';simp[h'];omega) ?_
   have:=Zrw n1 m (k+1) (xs++[.str (ZaV ms k)]) (by omega)
   rw[Za5,if_pos h]
   exact this
  ·have h':=h
   unfold ZbW at h'
   rw[Za5,if_neg h]
   exact fin hC ZaX (ZxE std ms ks rs ms.length n1 ms.length ks.length k xs) (by simp only[bx3];simp[-ZcO,hn,h'];omega) rfl rfl
end
theorem Zmr(ms ks rs:List AV)(hs:ZaI ms ks rs=true):Zat Tryd.prog 7 [.agg (.gen [.list (.big .str ms), .list (.big (.agg [.str, .int .i64]) ks), .list (.big (.agg [.str, .int .i64, .int .i64, .int .i64, .int .i64]) rs)])] (Zdh ms ks rs) none:=
 start (Zrz ms ks rs) fun C hC=>by
  by_cases h:ZbE (decide (1≤(ms.length:Int))) (decide ((ms.length:Int)≤6))=0
  ·have h':=h
   unfold ZbE at h'
   rw[Zdh,if_pos h]
   refine go hC ZaX (Zxy std ms ks rs) (by simp only[bx2,ZqC,ZiZ,Ze9,h'];simp) ?_
   exact Zrw hC ms ks rs hs ms.length ms.length 0 [] (by omega)
  ·have h':=h
   unfold ZbE at h'
   rw[Zdh,if_neg h]
   exact fin hC ZaX (ZxW std ms ks rs) (by simp only[bx2,Zt4,ZqC,ZiZ,Ze9,h'];simp) rfl rfl
end Go.Proofs.YtkeoeooghhjibaaDoor
/- Contracts as a list. No condition. -/
namespace Go.Proofs.YtkeoeooghhjibaaDoor
theorem ZlU(s:List UInt8):Zat Tryd.prog 41 [.nils, .str s] (.bool false) none:=
 start (Znc s) fun C hC=>go hC ZaX (Ztd std s) (by simp) (fin hC ZaX (Zta std s) (by simp) rfl rfl)
theorem ZmM(n:Int):Zat Tryd.prog 43 [.int .i64 n] (.bool (Zad n 0 1000000000000)) none:=
 start (Zov n) fun C hC=>fin hC ZaX (ZvW std n) (by simp) rfl rfl
def mP:AV→Int
 | .tup [.agg (.gen [.int _ p,_]),_]=>p
 |_=>0
def mI:AV→Int
 | .tup [.agg (.gen [_, .int _ i]),_]=>i
 |_=>0
def mE:AV→Int
 | .tup [_, .int _ e]=>e
 |_=>0
def isM(v:AV):Prop:=∃p i e,v=Za6 p i e
theorem isM.eq{v:AV}(h:isM v):v=Za6 (mP v) (mI v) (mE v):=by
 obtain⟨p,i,e,rfl⟩:=h
 rfl
theorem isM.scan{p:Int}{o:Option (Nat×Int)}{d:AV}(h:isM d):isM (Zbg p o d):=by
 unfold Zbg
 split
 ·exact⟨_,_,_,rfl⟩
 ·exact h
theorem isM.ite{c:Prop}[Decidable c]{a b:AV}(ha:isM a)(hb:isM b):isM (if c then a else b):=by
 split
 ·exact ha
 ·exact hb
theorem ZeX(p i e:Int):isM (Za6 p i e):=⟨_,_,_,rfl⟩
theorem Zhx(ms ks rs:List AV):isM (Zdh ms ks rs):=
 .ite (.scan (.ite (.scan (.ite (.scan (ZeX _ _ _)) (ZeX _ _ _))) (ZeX _ _ _))) (ZeX _ _ _)
def ZhZ(ms ks rs:List AV):Int:=mP (Zdh ms ks rs)
def ZhB(ms ks rs:List AV):Int:=mI (Zdh ms ks rs)
def ZaF(ms ks rs:List AV):Int:=mE (Zdh ms ks rs)
theorem ZkX(ms ks rs:List AV)(hs:ZaI ms ks rs=true):Zat Tryd.prog 7 [.agg (.gen [.list (.big .str ms), .list (.big (.agg [.str, .int .i64]) ks), .list (.big (.agg [.str, .int .i64, .int .i64, .int .i64, .int .i64]) rs)])] (.tup [.agg (.gen [.int .i64 (ZhZ ms ks rs), .int .i64 (ZhB ms ks rs)]), .int .i64 (ZaF ms ks rs)]) none:=by
 have:=Zmr ms ks rs hs
 rw[(Zhx ms ks rs).eq]at this
 exact this
def k41n:Ctr:=⟨41,0,fun _ a=>match a with |[.nils, .str _]=>some (true, .bool false,none) |_=>none⟩
theorem Zqm:k41n.OK Tryd.prog:=fun pa args r fr h=>by
 simp only[k41n]at h
 split at h
 ·cases h
  exact ZlU _
 ·cases h
def k43:Ctr:=⟨43,0,fun _ a=>match a with |[.int .i64 n]=>some (true, .bool (Zad n 0 1000000000000),none) |_=>none⟩
theorem Ztp:k43.OK Tryd.prog:=fun pa args r fr h=>by
 simp only[k43]at h
 split at h
 ·cases h
  exact ZmM _
 ·cases h
def k7:Ctr:=⟨7,0,fun _ a=>match a with |[.agg (.gen [.list (.big .str ms), .list (.big (.agg [.str, .int .i64]) ks), .list (.big (.agg [.str, .int .i64, .int .i64, .int .i64, .int .i64]) rs)])]=>some (decide (ZaI ms ks rs=true), .tup [.agg (.gen [.int .i64 (ZhZ ms ks rs), .int .i64 (ZhB ms ks rs)]), .int .i64 (ZaF ms ks rs)],none) |_=>none⟩
theorem Zv9:k7.OK Tryd.prog:=fun pa args r fr h=>by
 simp only[k7]at h
 split at h
 ·simp only[Option.some.injEq,Prod.mk.injEq,decide_eq_true_eq]at h
  obtain⟨h0,rfl,rfl⟩:=h
  exact ZkX _ _ _ h0
 ·cases h
def B4:List Ctr:=[k41n,k43,k7]++B3
theorem ZsM:Za3 Tryd.prog B4:=⟨Zqm,⟨Ztp,⟨Zv9,ZaX⟩⟩⟩
end Go.Proofs.YtkeoeooghhjibaaDoor
/- Paths of functions, printed by the explorer (Gx). No condition. -/
namespace Go.Proofs.YtkeoeooghhjibaaDoor
set_option maxRecDepth 100000
set_option linter.unusedVariables false
def ZtE(ms:List AV)(ks:List AV)(rs:List AV):AFrame:={ fn:=37,N:=11,env:=[(0,AV.agg (Row.gen [.list (Row.big .str ms), .list (Row.big (.agg [.str, .int .i64]) ks), .list (Row.big (.agg [.str, .int .i64, .int .i64, .int .i64, .int .i64]) rs)]))],todo:=[.code a37.code],defs:=[],rnd:=none,ret:=false,res:=[ARes.tmp 2] }
def ZxB(ms:List AV)(ks:List AV)(rs:List AV):List AFrame:=[(ZtE ms ks rs)]
theorem Zpt(ms:List AV)(ks:List AV)(rs:List AV):ZaC tab 37 [AV.agg (Row.gen [.list (Row.big .str ms), .list (Row.big (.agg [.str, .int .i64]) ks), .list (Row.big (.agg [.str, .int .i64, .int .i64, .int .i64, .int .i64]) rs)])]=some (ZtE ms ks rs):=rfl
theorem Zud(A:Ar)(ms ks rs:List AV):ZaT A tab B4 23 [] 37 (ZxB ms ks rs) []=
 some (tr [9,3] [decide (ZaI ms ks rs=true)],
  AV.int .i64 (ZaF ms ks rs),none):=by kernel_rfl
end Go.Proofs.YtkeoeooghhjibaaDoor
/- Contracts as a list. No condition. -/
namespace Go.Proofs.YtkeoeooghhjibaaDoor
theorem ZnT(ms ks rs:List AV)(h:ZaI ms ks rs=true):Zat Tryd.prog 37 [.agg (.gen [.list (.big .str ms), .list (.big (.agg [.str, .int .i64]) ks), .list (.big (.agg [.str, .int .i64, .int .i64, .int .i64, .int .i64]) rs)])] (.int .i64 (ZaF ms ks rs)) none:=
 start (Zpt ms ks rs) fun C hC=>fin hC ZsM (Zud std ms ks rs) (by simp[h]) rfl rfl
def k37:Ctr:=⟨37,0,fun _ a=>match a with |[.agg (.gen [.list (.big .str ms), .list (.big (.agg [.str, .int .i64]) ks), .list (.big (.agg [.str, .int .i64, .int .i64, .int .i64, .int .i64]) rs)])]=>some (decide (ZaI ms ks rs=true), .int .i64 (ZaF ms ks rs),none) |_=>none⟩
theorem Zs0:k37.OK Tryd.prog:=fun pa args r fr h=>by
 simp only[k37]at h
 split at h
 ·simp only[Option.some.injEq,Prod.mk.injEq,decide_eq_true_eq]at h
  obtain⟨h0,rfl,rfl⟩:=h
  exact ZnT _ _ _ h0
 ·cases h
def B5:List Ctr:=[k37]++B4
theorem ZkE:Za3 Tryd.prog B5:=⟨Zs0,ZsM⟩
end Go.Proofs.YtkeoeooghhjibaaDoor
/- CheckFile of the program. No condition. -/
namespace Go.Proofs.YtkeoeooghhjibaaDoor
def Zsr(i e:Int):AV:=.tup [.int .i64 i, .int .i64 e]
end Go.Proofs.YtkeoeooghhjibaaDoor
/- Few. No condition. -/
namespace Go.Proofs.YtkeoeooghhjibaaDoor
def ZrC(x:AV):Bool:=decide (x.toS.length≤20)
def Zk9(x:AV):Bool:=decide ((x.cellAt 0).toS.length≤20)
def ZmO(ms ks rs:List AV):Bool:=decide (ms.length≤8∧ks.length≤10∧rs.length≤12)&&(ms.all ZrC&&(ks.all Zk9&&rs.all Zk9))
theorem ZiL{xs:List AV}{k:Nat}(h:k<xs.length):xs.drop k=xs.getD k .top::xs.drop (k+1):=by
 rw[List.drop_eq_getElem_cons h,List.getD_eq_getElem?_getD,List.getElem?_eq_getElem h];rfl
section
variable {C:Ctx}(hC:C.P=Tryd.prog)(ms ks rs:List AV)(hl:ms.length≤8∧ks.length≤10∧rs.length≤12)
include hC hl
theorem ZtK:∀(m k:Nat),k+m=rs.length→Ev C (Ze2 ms ks rs k) (ZdQ ms ks rs k) (Zcp 6 (.bool ((rs.drop k).all Zk9)) none)
 |0,k,h=>fin hC ZaX (Zwy std ms ks rs k) (by simp;omega) (by rw[List.drop_of_length_le (by omega)];rfl) rfl
 |m+1,k,h=>by
  rw[ZiL (show k<rs.length by omega)]
  by_cases h1:((rs.getD k .top).cellAt 0).toS.length≤20
  ·refine go hC ZaX (Zvr std ms ks rs k) (by simp[-List.getD_eq_getElem?_getD];omega) ?_
   rw[List.all_cons,show Zk9 (rs.getD k .top)=true from decide_eq_true h1,Bool.true_and]
   exact ZtK m (k+1) (by omega)
  ·exact fin hC ZaX (ZvT std ms ks rs k) (by simp[-List.getD_eq_getElem?_getD];omega) (by rw[List.all_cons,show Zk9 (rs.getD k .top)=false from decide_eq_false h1,Bool.false_and]) rfl
theorem Zs8:∀(m k:Nat),k+m=ks.length→Ev C (Zfi ms ks rs k) (Zdv ms ks rs k) (Zcp 6 (.bool ((ks.drop k).all Zk9&&rs.all Zk9)) none)
 |0,k,h=>by
  refine go hC ZaX (Zx0 std ms ks rs k) (by simp;omega) ?_
  rw[List.drop_of_length_le (by omega)]
  exact ZtK hC ms ks rs hl rs.length 0 (by omega)
 |m+1,k,h=>by
  rw[ZiL (show k<ks.length by omega)]
  by_cases h1:((ks.getD k .top).cellAt 0).toS.length≤20
  ·refine go hC ZaX (Zxs std ms ks rs k) (by simp[-List.getD_eq_getElem?_getD];omega) ?_
   rw[List.all_cons,show Zk9 (ks.getD k .top)=true from decide_eq_true h1,Bool.true_and]
   exact Zs8 m (k+1) (by omega)
  ·exact fin hC ZaX (Zxn std ms ks rs k) (by simp[-List.getD_eq_getElem?_getD];omega) (by rw[List.all_cons,show Zk9 (ks.getD k .top)=false from decide_eq_false h1,Bool.false_and,Bool.false_and]) rfl
theorem Zsp:∀(m k:Nat),k+m=ms.length→Ev C (Zfq ms ks rs k) (ZdE ms ks rs k) (Zcp 6 (.bool ((ms.drop k).all ZrC&&(ks.all Zk9&&rs.all Zk9))) none)
 |0,k,h=>by
  refine go hC ZaX (ZxC std ms ks rs k) (by simp;omega) ?_
  rw[List.drop_of_length_le (by omega)]
  exact Zs8 hC ms ks rs hl ks.length 0 (by omega)
 |m+1,k,h=>by
  rw[ZiL (show k<ms.length by omega)]
  by_cases h1:(ms.getD k .top).toS.length≤20
  ·refine go hC ZaX (ZxH std ms ks rs k) (by simp[-List.getD_eq_getElem?_getD];omega) ?_
   rw[List.all_cons,show ZrC (ms.getD k .top)=true from decide_eq_true h1,Bool.true_and]
   exact Zsp m (k+1) (by omega)
  ·exact fin hC ZaX (Zx9 std ms ks rs k) (by simp[-List.getD_eq_getElem?_getD];omega) (by rw[List.all_cons,show ZrC (ms.getD k .top)=false from decide_eq_false h1,Bool.false_and,Bool.false_and]) rfl
end
theorem ZpF(ms ks rs:List AV):Zat Tryd.prog 6 [.agg (.gen [.list (.big .str ms), .list (.big (.agg [.str, .int .i64]) ks), .list (.big (.agg [.str, .int .i64, .int .i64, .int .i64, .int .i64]) rs)])] (.bool (ZmO ms ks rs)) none:=
 start (ZqR ms ks rs) fun C hC=>by
  by_cases h1:ms.length≤8
  ·by_cases h2:ks.length≤10
   ·by_cases h3:rs.length≤12
    ·refine go hC ZaX (Zxp std ms ks rs) (by simp;omega) ?_
     unfold ZmO
     rw[decide_eq_true ⟨h1,h2,h3⟩,Bool.true_and]
     exact Zsp hC ms ks rs ⟨h1,h2,h3⟩ ms.length 0 (by omega)
    ·exact fin hC ZaX (Zx1 std ms ks rs) (by simp;omega) (by simp[ZmO,h3]) rfl
   ·exact fin hC ZaX (ZxN std ms ks rs) (by simp;omega) (by simp[ZmO,h2]) rfl
  ·exact fin hC ZaX (Zyc std ms ks rs) (by simp;omega) (by simp[ZmO,h1]) rfl
end Go.Proofs.YtkeoeooghhjibaaDoor
/- The reference's error of a moment. No condition. -/
namespace Go.Proofs.YtkeoeooghhjibaaDoor
def Zp0(b:Int):List Int→Int
 |[]=>0
 |x::xs=>if Zad x (-1) b=true then Zp0 b xs else 2
def ZiA(n m a b:Int)(xs:List Int):Int:=if Zad a 0 (m-1)=true then(if Zad b 0 1000000000000=true then(if (xs.length:Int)=n then Zp0 b xs else 10)else 2)else 6
theorem ZgU{C:Ctx}(hC:C.P=Tryd.prog)(a b:Int)(xs:List Int)(hl:xs.length≤1000000):∀(m k:Nat),k+m=xs.length→Ev C (Zcu a b xs k) (Zb4 a b xs k) (Zcp 16 (.int .i64 (Zp0 b (xs.drop k))) none)
 |0,k,h=>fin hC ZaX (ZvZ std a b xs k) (by simp;omega) (by rw[List.drop_of_length_le (by omega)];rfl) rfl
 |m+1,k,h=>by
  have hd:xs.drop k=xs.getD k 0::xs.drop (k+1):=by
   rw[List.drop_eq_getElem_cons (show k<xs.length by omega),List.getD_eq_getElem?_getD,List.getElem?_eq_getElem (show k<xs.length by omega)];rfl
  rw[hd]
  by_cases h1:Zad (xs.getD k 0) (-1) b=true
  ·refine go hC ZaX (Zwr std a b xs k) (by simp[-List.getD_eq_getElem?_getD,h1];omega) ?_
   rw[Zp0,if_pos h1]
   exact ZgU hC a b xs hl m (k+1) (by omega)
  ·exact fin hC ZaX (Zwm std a b xs k) (by simp[-List.getD_eq_getElem?_getD,h1];omega) (by rw[Zp0,if_neg h1]) rfl
theorem Zm1(ms ks rs:List AV)(a b:Int)(xs:List Int)(hm:ms.length≤1000000)(hl:xs.length≤1000000):Zat Tryd.prog 16 [.agg (.gen [.list (.big .str ms), .list (.big (.agg [.str, .int .i64]) ks), .list (.big (.agg [.str, .int .i64, .int .i64, .int .i64, .int .i64]) rs)]), .agg (.gen [.int .i64 a, .int .i64 b, .list (.ints .i64 xs)])] (.int .i64 (ZiA ks.length ms.length a b xs)) none:=
 start (Zqo ms ks rs a b xs) fun C hC=>by
  by_cases h1:Zad a 0 ((ms.length:Int)-1)=true
  ·by_cases h2:Zad b 0 1000000000000=true
   ·by_cases h3:xs.length=ks.length
    ·refine go hC ZaX (Zu9 std ms ks rs a b xs) (by simp[h1,h2,h3];omega) ?_
     rw[ZiA,if_pos h1,if_pos h2,if_pos (by omega)]
     exact ZgU hC a b xs hl xs.length 0 (by omega)
    ·exact fin hC ZaX (Zu8 std ms ks rs a b xs) (by simp[h1,h2];omega) (by rw[ZiA,if_pos h1,if_pos h2,if_neg (by omega)]) rfl
   ·exact fin hC ZaX (Zu5 std ms ks rs a b xs) (by simp[h1,h2];omega) (by rw[ZiA,if_pos h1,if_neg h2]) rfl
  ·exact fin hC ZaX (Zui std ms ks rs a b xs) (by simp[h1];omega) (by rw[ZiA,if_neg h1]) rfl
end Go.Proofs.YtkeoeooghhjibaaDoor
/- Paths of functions, printed by the explorer (Gx). No condition. -/
namespace Go.Proofs.YtkeoeooghhjibaaDoor
set_option maxRecDepth 100000
set_option linter.unusedVariables false
def ZrU(l:List Int)(a:Int)(b:Int)(xs:List Int):AFrame:={ fn:=44,N:=9,env:=[(0,AV.list (.ints .i64 l)),(1,AV.fn 42 [AV.eptr (AV.agg (Row.gen [.int .i64 a, .int .i64 b, .list (.ints .i64 xs)])) 0])],todo:=[.code a44.code],defs:=[],rnd:=none,ret:=false,res:=[ARes.tmp 4] }
def Zyk(l:List Int)(a:Int)(b:Int)(xs:List Int):List AFrame:=[(ZrU l a b xs)]
theorem Zpe(l:List Int)(a:Int)(b:Int)(xs:List Int):ZaC tab 44 [AV.list (.ints .i64 l),AV.fn 42 [AV.eptr (AV.agg (Row.gen [.int .i64 a, .int .i64 b, .list (.ints .i64 xs)])) 0]]=some (ZrU l a b xs):=rfl
def Zb2(l:List Int)(a b:Int)(xs:List Int)(n0 n1:Int):List AFrame:=[{ fn:=57,N:=19,env:=[(0,AV.list (.ints .i64 l)),(1,AV.fn 42 [AV.eptr (AV.agg (Row.gen [.int .i64 a, .int .i64 b, .list (.ints .i64 xs)])) 0]),(7,AV.int .i64 n0),(8,AV.int .i64 n1)],todo:=.code (ACode.gh [] Zrm)::Zuz,defs:=[],rnd:=none,ret:=false,res:=[ARes.tmp 4] },{ fn:=44,N:=9,env:=[(0,AV.list (.ints .i64 l)),(1,AV.fn 42 [AV.eptr (AV.agg (Row.gen [.int .i64 a, .int .i64 b, .list (.ints .i64 xs)])) 0]),(4,AV.bool false),(5,AV.list (.ints .i64 l)),(6,AV.fn 42 [AV.eptr (AV.agg (Row.gen [.int .i64 a, .int .i64 b, .list (.ints .i64 xs)])) 0])],todo:=[AItem.inReg [oN 7 (OpK.ncall true 0 57 [Opd.t 5,Opd.t 6]),oN 8 (OpK.bin Go.BinOp.geq (Opd.t 7) (cI 0)),mV 4 8], .code ACode.ret],defs:=[],rnd:=none,ret:=false,res:=[ARes.tmp 4] }]
def ZbB(l:List Int)(a:Int)(b:Int)(xs:List Int)(n0:Int)(n1:Int):Zab:=[]
abbrev Zd5(l:List Int)(a:Int)(b:Int)(xs:List Int)(n0:Int)(n1:Int):List AFrame×Zab:=(Zb2 l a b xs n0 n1,ZbB l a b xs n0 n1)
theorem Zwf(A:Ar)(l:List Int)(a b:Int)(xs:List Int):Zav A tab B5 23 [] (Zyk l a b xs) []=
 some (tr [7] [],
  Zd5 (l) (a) (b) (xs) (A.int (A.len l)) (0)):=by kernel_rfl
theorem ZuI(A:Ar)(l:List Int)(a b:Int)(xs:List Int)(n0 n1:Int):ZaT A tab B5 56 [true,true,true,true,true,true,true,true] 44 (Zb2 l a b xs n0 n1) (ZbB l a b xs n0 n1)=
 some (tr [6,13,5,5,1] [A.not (Zad (A.nth l (A.nat n1)) 0 b),A.not (A.eq (A.nth l (A.nat n1)) (-1)),Zag (Zag (A.le 0 n1) (Nat.blt (A.nat n1) (A.len l))) true,A.lt n1 n0],
  AV.bool (A.le 0 n1),none):=by kernel_rfl
theorem Zu1(A:Ar)(l:List Int)(a b:Int)(xs:List Int)(n0 n1:Int):Zav A tab B5 53 [true,true,true,true,true,true,true,false] (Zb2 l a b xs n0 n1) (ZbB l a b xs n0 n1)=
 some (tr [1,0,13,5,5,1] [A.inR .i64 (A.add n1 1),!A.not (Zad (A.nth l (A.nat n1)) 0 b),A.not (A.eq (A.nth l (A.nat n1)) (-1)),Zag (Zag (A.le 0 n1) (Nat.blt (A.nat n1) (A.len l))) true,A.lt n1 n0],
  Zd5 (l) (a) (b) (xs) (n0) (A.add n1 1)):=by kernel_rfl
theorem ZuM(A:Ar)(l:List Int)(a b:Int)(xs:List Int)(n0 n1:Int):Zav A tab B5 53 [true,false,false,false,false,false,false,false] (Zb2 l a b xs n0 n1) (ZbB l a b xs n0 n1)=
 some (tr [1,14,5,5,1] [A.inR .i64 (A.add n1 1),!A.not (A.eq (A.nth l (A.nat n1)) (-1)),Zag (Zag (A.le 0 n1) (Nat.blt (A.nat n1) (A.len l))) true,A.lt n1 n0],
  Zd5 (l) (a) (b) (xs) (n0) (A.add n1 1)):=by kernel_rfl
theorem Zvn(A:Ar)(l:List Int)(a b:Int)(xs:List Int)(n0 n1:Int):ZaT A tab B5 18 [false] 44 (Zb2 l a b xs n0 n1) (ZbB l a b xs n0 n1)=
 some (tr [5,1] [!A.lt n1 n0],
  AV.bool (A.le 0 (-1)),none):=by kernel_rfl
end Go.Proofs.YtkeoeooghhjibaaDoor
/- Whether a moment's last times hold a bad one. No condition. -/
namespace Go.Proofs.YtkeoeooghhjibaaDoor
def ZeP(b n:Int):Bool:=decide (n≠ -1)&&!Zad n 0 b
theorem Zed{C:Ctx}(hC:C.P=Tryd.prog)(l:List Int)(a b:Int)(xs:List Int)(hl:l.length≤1000000):∀(m k:Nat),k+m=l.length→Ev C (Zb2 l a b xs l.length k) (ZbB l a b xs l.length k) (Zcp 44 (.bool ((l.drop k).any (ZeP b))) none)
 |0,k,h=>fin hC ZkE (Zvn std l a b xs l.length k) (by simp;omega) (by rw[List.drop_of_length_le (by omega)];rfl) rfl
 |m+1,k,h=>by
  have hd:l.drop k=l.getD k 0::l.drop (k+1):=by
   rw[List.drop_eq_getElem_cons (show k<l.length by omega),List.getD_eq_getElem?_getD,List.getElem?_eq_getElem (show k<l.length by omega)];rfl
  rw[hd,List.any_cons]
  by_cases h1:l.getD k 0= -1
  ·refine go hC ZkE (ZuM std l a b xs l.length k) (by simp[-List.getD_eq_getElem?_getD,h1];omega) ?_
   rw[show ZeP b (l.getD k 0)=false by rw[ZeP,decide_eq_false (by simp only[h1,ne_eq,not_true_eq_false,not_false_eq_true]),Bool.false_and],Bool.false_or]
   exact Zed hC l a b xs hl m (k+1) (by omega)
  ·by_cases h2:Zad (l.getD k 0) 0 b=true
   ·refine go hC ZkE (Zu1 std l a b xs l.length k) (by simp[-List.getD_eq_getElem?_getD,h1,h2];omega) ?_
    rw[show ZeP b (l.getD k 0)=false by rw[ZeP,h2,Bool.not_true,Bool.and_false],Bool.false_or]
    exact Zed hC l a b xs hl m (k+1) (by omega)
   ·exact fin hC ZkE (ZuI std l a b xs l.length k) (by simp[-List.getD_eq_getElem?_getD,h1,h2];omega) (by
     have e:ZeP b (l.getD k 0)=true:=by rw[ZeP,decide_eq_true h1,(by simpa using h2:Zad (l.getD k 0) 0 b=false)];rfl
     rw[e,Bool.true_or]
     show AV.bool (decide ((0:Int)≤k))=_
     rw[decide_eq_true (by omega)]) rfl
theorem Znr(l:List Int)(a b:Int)(xs:List Int)(hl:l.length≤1000000):Zat Tryd.prog 44 [.list (.ints .i64 l), .fn 42 [.eptr (.agg (.gen [.int .i64 a, .int .i64 b, .list (.ints .i64 xs)])) 0]] (.bool (l.any (ZeP b))) none:=
 start (Zpe l a b xs) fun C hC=>go hC ZkE (Zwf std l a b xs) (by simp) (Zed hC l a b xs hl l.length 0 (by omega))
end Go.Proofs.YtkeoeooghhjibaaDoor
/- Contracts as a list. No condition. -/
namespace Go.Proofs.YtkeoeooghhjibaaDoor
def k6:Ctr:=⟨6,0,fun _ a=>match a with |[.agg (.gen [.list (.big .str ms), .list (.big (.agg [.str, .int .i64]) ks), .list (.big (.agg [.str, .int .i64, .int .i64, .int .i64, .int .i64]) rs)])]=>some (true, .bool (ZmO ms ks rs),none) |_=>none⟩
theorem Zwl:k6.OK Tryd.prog:=fun pa args r fr h=>by
 simp only[k6]at h
 split at h
 ·cases h
  exact ZpF _ _ _
 ·cases h
def k44:Ctr:=⟨44,0,fun _ a=>match a with |[.list (.ints .i64 l), .fn 42 [.eptr (.agg (.gen [.int .i64 _, .int .i64 b, .list (.ints .i64 _)])) 0]]=>some (decide (l.length≤1000000), .bool (l.any (ZeP b)),none) |_=>none⟩
theorem ZsE:k44.OK Tryd.prog:=fun pa args r fr h=>by
 simp only[k44]at h
 split at h
 ·simp only[Option.some.injEq,Prod.mk.injEq,decide_eq_true_eq]at h
  obtain⟨h0,rfl,rfl⟩:=h
  exact Znr _ _ _ _ h0
 ·cases h
def k16:Ctr:=⟨16,0,fun _ a=>match a with |[.agg (.gen [.list (.big .str ms), .list (.big (.agg [.str, .int .i64]) ks), .list (.big (.agg [.str, .int .i64, .int .i64, .int .i64, .int .i64]) _)]), .agg (.gen [.int .i64 a, .int .i64 b, .list (.ints .i64 xs)])]=>some (decide (ms.length≤1000000∧xs.length≤1000000), .int .i64 (ZiA ks.length ms.length a b xs),none) |_=>none⟩
theorem ZqP:k16.OK Tryd.prog:=fun pa args r fr h=>by
 simp only[k16]at h
 split at h
 ·simp only[Option.some.injEq,Prod.mk.injEq,decide_eq_true_eq]at h
  obtain⟨h0,rfl,rfl⟩:=h
  exact Zm1 _ _ _ _ _ _ h0.1 h0.2
 ·cases h
def B6:List Ctr:=[k6,k44,k16]++B5
theorem Zcs:Za3 Tryd.prog B6:=⟨Zwl,⟨ZsE,⟨ZqP,ZkE⟩⟩⟩
end Go.Proofs.YtkeoeooghhjibaaDoor
