/- Paths of functions, printed by the explorer (Gx). No condition. -/
import Derived.Test.YtkeoeooghhjibaaGreatDoorCd
import Derived.KernelRfl
namespace Go.Proofs.YtkeoeooghhjibaaGreatDoor
set_option maxRecDepth 100000
set_option linter.unusedVariables false
def ZyW(n:Int):AFrame:={ fn:=89,N:=5,env:=[(0,AV.int .i64 n)],todo:=[.code a89.code],defs:=[],rnd:=none,ret:=false,res:=[ARes.tmp 2] }
def ZHW(n:Int):List AFrame:=[(ZyW n)]
theorem Zuw(n:Int):Zaq tab 89 [AV.int .i64 n]=some (ZyW n):=rfl
theorem ZD1(A:Ar)(n:Int):ZaT A tab B3 11 [] 89 (ZHW n) []=
 some (tr [5] [],
  AV.bool (Zab n 0 1000000000000),none):=by kernel_rfl
def ZAD(ms ks rs:List AV):AFrame:={ fn:=23,N:=66,env:=[(0,AV.agg (Row.gen [.list (Row.big .str ms), .list (Row.big (.agg [.str, .int .i64]) ks), .list (Row.big (.agg [.str, .int .i64, .int .i64, .int .i64, .int .i64]) rs)]))],todo:=[.code a23.code],defs:=[],rnd:=none,ret:=false,res:=[ARes.tmp 2] }
def ZB9(ms ks rs:List AV):List AFrame:=[(ZAD ms ks rs)]
theorem Zu3(ms ks rs:List AV):Zaq tab 23 [AV.agg (Row.gen [.list (Row.big .str ms), .list (Row.big (.agg [.str, .int .i64]) ks), .list (Row.big (.agg [.str, .int .i64, .int .i64, .int .i64, .int .i64]) rs)])]=some (ZAD ms ks rs):=rfl
def Zc7(ms ks rs:List AV)(n0:Int):List AFrame:=[{ fn:=23,N:=66,env:=[(1,AV.ptr 23002 0 0 0),(3,AV.int .i64 n0)],todo:=.code (ACode.gh [] ZAh)::ZCv,defs:=[],rnd:=none,ret:=false,res:=[ARes.tmp 2] }]
def ZcD(ms ks rs:List AV)(n0:Int):Zac:=[(23002,{ base:=0,blks:=[Blk.row 26 3 (Row.gen [AV.agg (Row.gen [AV.list (Row.big .str ms),AV.list (Row.big (.agg [.str, .int .i64]) ks),AV.list (Row.big (.agg [.str, .int .i64, .int .i64, .int .i64, .int .i64]) rs)])])] })]
abbrev Zig(ms ks rs:List AV)(n0:Int):List AFrame×Zac:=(Zc7 ms ks rs n0,ZcD ms ks rs n0)
def Zc1(ms ks rs:List AV)(n1:Int):List AFrame:=[{ fn:=23,N:=66,env:=[(1,AV.ptr 23002 0 0 0),(4,AV.int .i64 n1)],todo:=.code (ACode.gh [] ZAg)::ZEA,defs:=[],rnd:=none,ret:=false,res:=[ARes.tmp 2] }]
def ZcH(ms ks rs:List AV)(n1:Int):Zac:=[(23002,{ base:=0,blks:=[Blk.row 26 3 (Row.gen [AV.agg (Row.gen [AV.list (Row.big .str ms),AV.list (Row.big (.agg [.str, .int .i64]) ks),AV.list (Row.big (.agg [.str, .int .i64, .int .i64, .int .i64, .int .i64]) rs)])])] })]
abbrev Ziv(ms ks rs:List AV)(n1:Int):List AFrame×Zac:=(Zc1 ms ks rs n1,ZcH ms ks rs n1)
def Zdk(ms ks rs:List AV)(n2:Int):List AFrame:=[{ fn:=23,N:=66,env:=[(1,AV.ptr 23002 0 0 0),(5,AV.int .i64 n2)],todo:=.code (ACode.gh [] Zxo)::ZCw,defs:=[],rnd:=none,ret:=false,res:=[ARes.tmp 2] }]
def Zcu(ms ks rs:List AV)(n2:Int):Zac:=[(23002,{ base:=0,blks:=[Blk.row 26 3 (Row.gen [AV.agg (Row.gen [AV.list (Row.big .str ms),AV.list (Row.big (.agg [.str, .int .i64]) ks),AV.list (Row.big (.agg [.str, .int .i64, .int .i64, .int .i64, .int .i64]) rs)])])] })]
abbrev Zic(ms ks rs:List AV)(n2:Int):List AFrame×Zac:=(Zdk ms ks rs n2,Zcu ms ks rs n2)
theorem ZDW(A:Ar)(ms ks rs:List AV):ZaT A tab B3 32 [true,true,true,true,true,true,true,true,true,true,true] 23 (ZB9 ms ks rs) []=
 some (tr [23,7] [A.lt 8 (A.int (A.lenA ms))],
  AV.bool false,none):=by kernel_rfl
theorem ZCK(A:Ar)(ms ks rs:List AV):ZaT A tab B3 32 [false,false,false,false,false,true,true,true,true,true,true] 23 (ZB9 ms ks rs) []=
 some (tr [12,10,7] [A.lt 10 (A.int (A.lenA ks)),!A.lt 8 (A.int (A.lenA ms))],
  AV.bool false,none):=by kernel_rfl
theorem ZEb(A:Ar)(ms ks rs:List AV):ZaT A tab B3 32 [false,false,false,false,false,false,false,false,false,false,true] 23 (ZB9 ms ks rs) []=
 some (tr [2,9,10,7] [A.lt 12 (A.int (A.lenA rs)),!A.lt 10 (A.int (A.lenA ks)),!A.lt 8 (A.int (A.lenA ms))],
  AV.bool false,none):=by kernel_rfl
theorem ZD7(A:Ar)(ms ks rs:List AV):Zaz A tab B3 36 [false,false,false,false,false,false,false,false,false,false,false] (ZB9 ms ks rs) []=
 some (tr [1,9,10,7] [!A.lt 12 (A.int (A.lenA rs)),!A.lt 10 (A.int (A.lenA ks)),!A.lt 8 (A.int (A.lenA ms))],
  Zig (ms) (ks) (rs) (0)):=by kernel_rfl
theorem ZCW(A:Ar)(ms ks rs:List AV)(n0:Int):ZaT A tab B3 31 [true,true] 23 (Zc7 ms ks rs n0) (ZcD ms ks rs n0)=
 some (tr [2,3,3,5] [A.lt 20 (A.int (A.lenS (AV.toS (A.nthA ms (A.nat n0))))),Zaf (Zaf (A.le 0 n0) (Nat.blt (A.nat n0) (A.lenA ms))) true,A.lt n0 (A.int (A.lenA ms))],
  AV.bool false,none):=by kernel_rfl
theorem ZCj(A:Ar)(ms ks rs:List AV)(n0:Int):Zaz A tab B3 35 [true,false] (Zc7 ms ks rs n0) (ZcD ms ks rs n0)=
 some (tr [1,1,3,3,5] [A.inR .i64 (A.add n0 1),!A.lt 20 (A.int (A.lenS (AV.toS (A.nthA ms (A.nat n0))))),Zaf (Zaf (A.le 0 n0) (Nat.blt (A.nat n0) (A.lenA ms))) true,A.lt n0 (A.int (A.lenA ms))],
  Zig (ms) (ks) (rs) (A.add n0 1)):=by kernel_rfl
theorem ZC9(A:Ar)(ms ks rs:List AV)(n0:Int):Zaz A tab B3 20 [false] (Zc7 ms ks rs n0) (ZcD ms ks rs n0)=
 some (tr [1,5] [!A.lt n0 (A.int (A.lenA ms))],
  Ziv (ms) (ks) (rs) (0)):=by kernel_rfl
theorem ZDY(A:Ar)(ms ks rs:List AV)(n1:Int):ZaT A tab B3 32 [true,true] 23 (Zc1 ms ks rs n1) (ZcH ms ks rs n1)=
 some (tr [2,4,3,5] [A.lt 20 (A.int (A.lenS ((A.nthA ks (A.nat n1)).cellAt 0).toS)),Zaf (Zaf (A.le 0 n1) (Nat.blt (A.nat n1) (A.lenA ks))) true,A.lt n1 (A.int (A.lenA ks))],
  AV.bool false,none):=by kernel_rfl
theorem ZCr(A:Ar)(ms ks rs:List AV)(n1:Int):Zaz A tab B3 36 [true,false] (Zc1 ms ks rs n1) (ZcH ms ks rs n1)=
 some (tr [1,1,4,3,5] [A.inR .i64 (A.add n1 1),!A.lt 20 (A.int (A.lenS ((A.nthA ks (A.nat n1)).cellAt 0).toS)),Zaf (Zaf (A.le 0 n1) (Nat.blt (A.nat n1) (A.lenA ks))) true,A.lt n1 (A.int (A.lenA ks))],
  Ziv (ms) (ks) (rs) (A.add n1 1)):=by kernel_rfl
theorem ZDm(A:Ar)(ms ks rs:List AV)(n1:Int):Zaz A tab B3 20 [false] (Zc1 ms ks rs n1) (ZcH ms ks rs n1)=
 some (tr [1,5] [!A.lt n1 (A.int (A.lenA ks))],
  Zic (ms) (ks) (rs) (0)):=by kernel_rfl
theorem Zzd(A:Ar)(ms ks rs:List AV)(n2:Int):ZaT A tab B3 32 [true,true] 23 (Zdk ms ks rs n2) (Zcu ms ks rs n2)=
 some (tr [2,4,3,5] [A.lt 20 (A.int (A.lenS ((A.nthA rs (A.nat n2)).cellAt 0).toS)),Zaf (Zaf (A.le 0 n2) (Nat.blt (A.nat n2) (A.lenA rs))) true,A.lt n2 (A.int (A.lenA rs))],
  AV.bool false,none):=by kernel_rfl
theorem Zyj(A:Ar)(ms ks rs:List AV)(n2:Int):Zaz A tab B3 36 [true,false] (Zdk ms ks rs n2) (Zcu ms ks rs n2)=
 some (tr [1,1,4,3,5] [A.inR .i64 (A.add n2 1),!A.lt 20 (A.int (A.lenS ((A.nthA rs (A.nat n2)).cellAt 0).toS)),Zaf (Zaf (A.le 0 n2) (Nat.blt (A.nat n2) (A.lenA rs))) true,A.lt n2 (A.int (A.lenA rs))],
  Zic (ms) (ks) (rs) (A.add n2 1)):=by kernel_rfl
theorem Zyz(A:Ar)(ms ks rs:List AV)(n2:Int):ZaT A tab B3 17 [false] 23 (Zdk ms ks rs n2) (Zcu ms ks rs n2)=
 some (tr [2,5] [!A.lt n2 (A.int (A.lenA rs))],
  AV.bool true,none):=by kernel_rfl
def Zsd(ms ks rs:List AV):AFrame:={ fn:=136,N:=31,env:=[(0,AV.agg (Row.gen [.list (Row.big .str ms), .list (Row.big (.agg [.str, .int .i64]) ks), .list (Row.big (.agg [.str, .int .i64, .int .i64, .int .i64, .int .i64]) rs)]))],todo:=[.code a136.code],defs:=[],rnd:=none,ret:=false,res:=[ARes.cell 2 true 2,ARes.tmp 3] }
def ZxT(ms ks rs:List AV):List AFrame:=[(Zsd ms ks rs)]
theorem Zp9(ms ks rs:List AV):Zaq tab 136 [AV.agg (Row.gen [.list (Row.big .str ms), .list (Row.big (.agg [.str, .int .i64]) ks), .list (Row.big (.agg [.str, .int .i64, .int .i64, .int .i64, .int .i64]) rs)])]=some (Zsd ms ks rs):=rfl
def Zbz(ms ks rs:List AV)(n0 n1 n2 n3 n4:Int)(x5:List AV):List AFrame:=[{ fn:=159,N:=83,env:=[(0,AV.ptr 136005 0 0 0),(1,AV.int .i64 1),(5,AV.fn 160 [AV.ptr 136002 0 0 0]),(6,AV.fn 161 []),(15,AV.mp 159045 0),(45,AV.int .i64 n0),(46,AV.int .i64 n4)],todo:=.code (ACode.gh [] Zmj)::ZnE,defs:=[],rnd:=none,ret:=false,res:=[] },{ fn:=136,N:=31,env:=[(1,AV.ptr 136002 0 0 0),(2,AV.ptr 136003 0 0 0),(4,AV.ptr 136005 0 0 0),(5,AV.ptr 136006 0 0 0),(6,AV.ptr 136007 0 0 0),(7,AV.ptr 136008 0 0 0),(14,AV.int .i64 n1),(15,AV.fn 160 [AV.ptr 136002 0 0 0])],todo:=[AItem.inReg [oN 16 (OpK.icall 159 [Opd.t 4,cI 1,Opd.t 14,cI 1,cI 6,Opd.t 15,Opd.c (AV.fn 161 [])])], .code (ACode.seq (ACode.reg none [oN 17 (OpK.load false 1 (Opd.t 7)),oN 18 (OpK.mkfn 162 [Opd.t 1]),oN 19 (OpK.mkfn 163 [Opd.t 5,Opd.t 1,Opd.t 6]),oN 20 (OpK.icall 159 [Opd.t 4,cI 2,Opd.t 17,cI 1,cI 8,Opd.t 18,Opd.t 19])]) (ACode.seq (ACode.reg none [oN 21 (OpK.faddr 2 (Opd.t 1)),oN 22 (OpK.load false 1 (Opd.t 21)),oN 23 (OpK.len (Opd.t 22)),oN 24 (OpK.mkfn 164 [Opd.t 1]),oN 25 (OpK.mkfn 165 [Opd.t 1,Opd.t 7,Opd.t 5,Opd.t 6]),oN 26 (OpK.icall 159 [Opd.t 4,cI 3,Opd.t 23,cI 0,cI 10,Opd.t 24,Opd.t 25])]) (ACode.gh [Ghost.keep [2,4]] (ACode.seq (ACode.reg (some [(2,4),(3,4)]) [oN 27 (OpK.faddr 0 (Opd.t 4)),oN 28 (OpK.load true 2 (Opd.t 27)),oN 29 (OpK.faddr 2 (Opd.t 4)),oN 30 (OpK.load false 1 (Opd.t 29)),{ d:=none,g:=none,k:=OpK.store 2 (Opd.t 2) (Opd.t 28) },mV 3 30]) ACode.ret))))],defs:=[],rnd:=none,ret:=false,res:=[ARes.cell 2 true 2,ARes.tmp 3] }]
def Zbr(ms ks rs:List AV)(n0 n1 n2 n3 n4:Int)(x5:List AV):Zac:=[(136002,{ base:=0,blks:=[Blk.row 26 3 (Row.gen [AV.agg (Row.gen [AV.list (Row.big .str ms),AV.list (Row.big (.agg [.str, .int .i64]) ks),AV.list (Row.big (.agg [.str, .int .i64, .int .i64, .int .i64, .int .i64]) rs)])])] }),(136003,{ base:=0,blks:=[Blk.row 195 2 (Row.gen [AV.agg (Row.gen [AV.int .i64 0,AV.int .i64 0])])] }),(136005,{ base:=0,blks:=[Blk.row 236 3 (Row.gen [AV.agg (Row.gen [AV.int .i64 0,AV.int .i64 0,AV.int .i64 0])])] }),(136006,{ base:=0,blks:=[Blk.row 237 1 (Row.gen [AV.fn 158 []])] }),(136007,{ base:=0,blks:=[Blk.row 3 1 (Row.gen [.int .i64 n2])] }),(136008,{ base:=0,blks:=[Blk.row 3 1 (Row.gen [.int .i64 n3])] }),(159045,{ base:=0,blks:=[Blk.mp x5] })]
abbrev ZfM(ms ks rs:List AV)(n0 n1 n2 n3 n4:Int)(x5:List AV):List AFrame×Zac:=(Zbz ms ks rs n0 n1 n2 n3 n4 x5,Zbr ms ks rs n0 n1 n2 n3 n4 x5)
def Zbu(ms ks rs:List AV)(n1 n2 n3 n6:Int)(x7:List AV):List AFrame:=[{ fn:=159,N:=83,env:=[(0,AV.ptr 136005 0 0 0),(1,AV.int .i64 2),(5,AV.fn 162 [AV.ptr 136002 0 0 0]),(6,AV.fn 163 [AV.ptr 136006 0 0 0,AV.ptr 136002 0 0 0,AV.ptr 136007 0 0 0]),(15,AV.mp 159045 0),(45,AV.int .i64 n3),(46,AV.int .i64 n6)],todo:=.code (ACode.gh [] Zmj)::ZnE,defs:=[],rnd:=none,ret:=false,res:=[] },{ fn:=136,N:=31,env:=[(1,AV.ptr 136002 0 0 0),(2,AV.ptr 136003 0 0 0),(4,AV.ptr 136005 0 0 0),(5,AV.ptr 136006 0 0 0),(6,AV.ptr 136007 0 0 0),(7,AV.ptr 136008 0 0 0),(14,AV.int .i64 n1),(15,AV.fn 160 [AV.ptr 136002 0 0 0]),(16,AV.tup []),(17,AV.int .i64 n3),(18,AV.fn 162 [AV.ptr 136002 0 0 0]),(19,AV.fn 163 [AV.ptr 136006 0 0 0,AV.ptr 136002 0 0 0,AV.ptr 136007 0 0 0])],todo:=[AItem.inReg [oN 20 (OpK.icall 159 [Opd.t 4,cI 2,Opd.t 17,cI 1,cI 8,Opd.t 18,Opd.t 19])], .code (ACode.seq (ACode.reg none [oN 21 (OpK.faddr 2 (Opd.t 1)),oN 22 (OpK.load false 1 (Opd.t 21)),oN 23 (OpK.len (Opd.t 22)),oN 24 (OpK.mkfn 164 [Opd.t 1]),oN 25 (OpK.mkfn 165 [Opd.t 1,Opd.t 7,Opd.t 5,Opd.t 6]),oN 26 (OpK.icall 159 [Opd.t 4,cI 3,Opd.t 23,cI 0,cI 10,Opd.t 24,Opd.t 25])]) (ACode.gh [Ghost.keep [2,4]] (ACode.seq (ACode.reg (some [(2,4),(3,4)]) [oN 27 (OpK.faddr 0 (Opd.t 4)),oN 28 (OpK.load true 2 (Opd.t 27)),oN 29 (OpK.faddr 2 (Opd.t 4)),oN 30 (OpK.load false 1 (Opd.t 29)),{ d:=none,g:=none,k:=OpK.store 2 (Opd.t 2) (Opd.t 28) },mV 3 30]) ACode.ret)))],defs:=[],rnd:=none,ret:=false,res:=[ARes.cell 2 true 2,ARes.tmp 3] }]
def Zbp(ms ks rs:List AV)(n1 n2 n3 n6:Int)(x7:List AV):Zac:=[(136002,{ base:=0,blks:=[Blk.row 26 3 (Row.gen [AV.agg (Row.gen [AV.list (Row.big .str ms),AV.list (Row.big (.agg [.str, .int .i64]) ks),AV.list (Row.big (.agg [.str, .int .i64, .int .i64, .int .i64, .int .i64]) rs)])])] }),(136003,{ base:=0,blks:=[Blk.row 195 2 (Row.gen [AV.agg (Row.gen [AV.int .i64 0,AV.int .i64 0])])] }),(136005,{ base:=0,blks:=[Blk.row 236 3 (Row.gen [AV.agg (Row.gen [AV.int .i64 0,AV.int .i64 0,AV.int .i64 0])])] }),(136006,{ base:=0,blks:=[Blk.row 237 1 (Row.gen [AV.fn 158 []])] }),(136007,{ base:=0,blks:=[Blk.row 3 1 (Row.gen [.int .i64 n2])] }),(136008,{ base:=0,blks:=[Blk.row 3 1 (Row.gen [.int .i64 n3])] }),(159045,{ base:=0,blks:=[Blk.mp x7] })]
abbrev ZfH(ms ks rs:List AV)(n1 n2 n3 n6:Int)(x7:List AV):List AFrame×Zac:=(Zbu ms ks rs n1 n2 n3 n6 x7,Zbp ms ks rs n1 n2 n3 n6 x7)
def Zcb(ms ks rs:List AV)(n1 n2 n3 n8 n9 n10:Int)(x11:List AV):List AFrame:=[{ fn:=159,N:=83,env:=[(0,AV.ptr 136005 0 0 0),(1,AV.int .i64 3),(5,AV.fn 164 [AV.ptr 136002 0 0 0]),(6,AV.fn 165 [AV.ptr 136002 0 0 0,AV.ptr 136008 0 0 0,AV.ptr 136006 0 0 0,AV.ptr 136007 0 0 0]),(15,AV.mp 159045 0),(45,AV.int .i64 n8),(46,AV.int .i64 n10)],todo:=.code (ACode.gh [] Zmj)::ZnE,defs:=[],rnd:=none,ret:=false,res:=[] },{ fn:=136,N:=31,env:=[(1,AV.ptr 136002 0 0 0),(2,AV.ptr 136003 0 0 0),(4,AV.ptr 136005 0 0 0),(5,AV.ptr 136006 0 0 0),(6,AV.ptr 136007 0 0 0),(7,AV.ptr 136008 0 0 0),(14,AV.int .i64 n1),(15,AV.fn 160 [AV.ptr 136002 0 0 0]),(16,AV.tup []),(17,AV.int .i64 n3),(18,AV.fn 162 [AV.ptr 136002 0 0 0]),(19,AV.fn 163 [AV.ptr 136006 0 0 0,AV.ptr 136002 0 0 0,AV.ptr 136007 0 0 0]),(20,AV.tup []),(21,AV.ptr 136002 0 0 2),(22,AV.list (Row.big (.agg [.str, .int .i64, .int .i64, .int .i64, .int .i64]) rs)),(23,AV.int .i64 n9),(24,AV.fn 164 [AV.ptr 136002 0 0 0]),(25,AV.fn 165 [AV.ptr 136002 0 0 0,AV.ptr 136008 0 0 0,AV.ptr 136006 0 0 0,AV.ptr 136007 0 0 0])],todo:=[AItem.inReg [oN 26 (OpK.icall 159 [Opd.t 4,cI 3,Opd.t 23,cI 0,cI 10,Opd.t 24,Opd.t 25])], .code (ACode.gh [Ghost.keep [2,4]] (ACode.seq (ACode.reg (some [(2,4),(3,4)]) [oN 27 (OpK.faddr 0 (Opd.t 4)),oN 28 (OpK.load true 2 (Opd.t 27)),oN 29 (OpK.faddr 2 (Opd.t 4)),oN 30 (OpK.load false 1 (Opd.t 29)),{ d:=none,g:=none,k:=OpK.store 2 (Opd.t 2) (Opd.t 28) },mV 3 30]) ACode.ret))],defs:=[],rnd:=none,ret:=false,res:=[ARes.cell 2 true 2,ARes.tmp 3] }]
def ZbN(ms ks rs:List AV)(n1 n2 n3 n8 n9 n10:Int)(x11:List AV):Zac:=[(136002,{ base:=0,blks:=[Blk.row 26 3 (Row.gen [AV.agg (Row.gen [AV.list (Row.big .str ms),AV.list (Row.big (.agg [.str, .int .i64]) ks),AV.list (Row.big (.agg [.str, .int .i64, .int .i64, .int .i64, .int .i64]) rs)])])] }),(136003,{ base:=0,blks:=[Blk.row 195 2 (Row.gen [AV.agg (Row.gen [AV.int .i64 0,AV.int .i64 0])])] }),(136005,{ base:=0,blks:=[Blk.row 236 3 (Row.gen [AV.agg (Row.gen [AV.int .i64 0,AV.int .i64 0,AV.int .i64 0])])] }),(136006,{ base:=0,blks:=[Blk.row 237 1 (Row.gen [AV.fn 158 []])] }),(136007,{ base:=0,blks:=[Blk.row 3 1 (Row.gen [.int .i64 n2])] }),(136008,{ base:=0,blks:=[Blk.row 3 1 (Row.gen [.int .i64 n3])] }),(159045,{ base:=0,blks:=[Blk.mp x11] })]
abbrev ZfD(ms ks rs:List AV)(n1 n2 n3 n8 n9 n10:Int)(x11:List AV):List AFrame×Zac:=(Zcb ms ks rs n1 n2 n3 n8 n9 n10 x11,ZbN ms ks rs n1 n2 n3 n8 n9 n10 x11)
theorem Zxp(A:Ar)(ms ks rs:List AV):ZaT A tab B3 118 [false,true,true,true] 136 (ZxT ms ks rs) []=
 some (tr [8,11,20,3,0,8,23] [A.not (A.eq (Zai [Zaa (A.le 1 (A.int (A.lenA ms))) 10,Zaa (A.le (A.int (A.lenA ms)) 6) 8]) 0),A.not (A.eq (Zai [Zaa (A.le 1 (A.int (A.lenA ms))) 10,Zaa (A.le (A.int (A.lenA ms)) 6) 8]) 0),A.not (A.eq (Zai [Zaa (A.le 1 (A.int (A.lenA ms))) 10,Zaa (A.le (A.int (A.lenA ms)) 6) 8]) 0),decide (List.length [Zaa (A.le 1 (A.int (A.lenA ms))) 10,Zaa (A.le (A.int (A.lenA ms)) 6) 8]≤1000000),List.all [AV.int .i64 (Zaa (A.le 1 (A.int (A.lenA ms))) 10),AV.int .i64 (Zaa (A.le (A.int (A.lenA ms)) 6) 8)] fun x=>AV.bx x&&Nat.beq (Zah A x) 1,!A.not (A.eq 0 0)],
  AV.tup [AV.agg (Row.gen [.int .i64 1, .int .i64 0]),AV.int .i64 (Zai [Zaa (A.le 1 (A.int (A.lenA ms))) 10,Zaa (A.le (A.int (A.lenA ms)) 6) 8])],none):=by kernel_rfl
theorem Zxy(A:Ar)(ms ks rs:List AV):Zaz A tab B3 70 [false,false] (ZxT ms ks rs) []=
 some (tr [4,3,0,8,23] [!A.not (A.eq (Zai [Zaa (A.le 1 (A.int (A.lenA ms))) 10,Zaa (A.le (A.int (A.lenA ms)) 6) 8]) 0),decide (List.length [Zaa (A.le 1 (A.int (A.lenA ms))) 10,Zaa (A.le (A.int (A.lenA ms)) 6) 8]≤1000000),List.all [AV.int .i64 (Zaa (A.le 1 (A.int (A.lenA ms))) 10),AV.int .i64 (Zaa (A.le (A.int (A.lenA ms)) 6) 8)] fun x=>AV.bx x&&Nat.beq (Zah A x) 1,!A.not (A.eq 0 0)],
  ZfM (ms) (ks) (rs) (A.int (A.lenA ms)) (A.int (A.lenA ms)) (A.int (A.lenA ms)) (A.int (A.lenA ks)) (0) ([])):=by kernel_rfl
theorem Zw2(A:Ar)(ms ks rs:List AV)(n0 n1 n2 n3 n4:Int)(x5:List AV):ZaT A tab B3 107 [true,true,true,true] 136 (Zbz ms ks rs n0 n1 n2 n3 n4 x5) (Zbr ms ks rs n0 n1 n2 n3 n4 x5)=
 some (tr [8,11,21,3,0,6,4,0,4,1] [A.not (A.eq (Zai [Zaa (ZaQ (Za3 ms n4)) 4,Zaa (A.not (A.hasS x5 (Za3 ms n4))) 5,0]) 0),A.not (A.eq (Zai [Zaa (ZaQ (Za3 ms n4)) 4,Zaa (A.not (A.hasS x5 (Za3 ms n4))) 5,0]) 0),A.not (A.eq (Zai [Zaa (ZaQ (Za3 ms n4)) 4,Zaa (A.not (A.hasS x5 (Za3 ms n4))) 5,0]) 0),decide (List.length [Zaa (ZaQ (Za3 ms n4)) 4,Zaa (A.not (A.hasS x5 (Za3 ms n4))) 5,0]≤1000000),List.all [AV.int .i64 (Zaa (ZaQ (Za3 ms n4)) 4),AV.int .i64 (Zaa (A.not (A.hasS x5 (Za3 ms n4))) 5),AV.int .i64 0] fun x=>AV.bx x&&Nat.beq (Zah A x) 1,decide (0≤n4∧n4< ↑(List.length ms)),decide (List.length (Za3 ms n4)≤1000000),decide (0≤n4∧n4< ↑(List.length ms)),A.lt n4 n0],
  AV.tup [AV.agg (Row.gen [.int .i64 1, .int .i64 n4]),AV.int .i64 (Zai [Zaa (ZaQ (Za3 ms n4)) 4,Zaa (A.not (A.hasS x5 (Za3 ms n4))) 5,0])],none):=by kernel_rfl
theorem Zyy(A:Ar)(ms ks rs:List AV)(n0 n1 n2 n3 n4:Int)(x5:List AV):Zaz A tab B3 59 [true,false] (Zbz ms ks rs n0 n1 n2 n3 n4 x5) (Zbr ms ks rs n0 n1 n2 n3 n4 x5)=
 some (tr [1,0,0,3,3,0,6,4,0,4,1] [A.inR .i64 (A.add n4 1),A.not (A.hasS x5 (Za3 ms n4)),decide (0≤n4∧n4< ↑(List.length ms)),!A.not (A.eq (Zai [Zaa (ZaQ (Za3 ms n4)) 4,Zaa (A.not (A.hasS x5 (Za3 ms n4))) 5,0]) 0),decide (List.length [Zaa (ZaQ (Za3 ms n4)) 4,Zaa (A.not (A.hasS x5 (Za3 ms n4))) 5,0]≤1000000),List.all [AV.int .i64 (Zaa (ZaQ (Za3 ms n4)) 4),AV.int .i64 (Zaa (A.not (A.hasS x5 (Za3 ms n4))) 5),AV.int .i64 0] fun x=>AV.bx x&&Nat.beq (Zah A x) 1,decide (0≤n4∧n4< ↑(List.length ms)),decide (List.length (Za3 ms n4)≤1000000),decide (0≤n4∧n4< ↑(List.length ms)),A.lt n4 n0],
  ZfM (ms) (ks) (rs) (n0) (n1) (n2) (n3) (A.add n4 1) (A.appA x5 [AV.str (Za3 ms n4)])):=by kernel_rfl
theorem Zx6(A:Ar)(ms ks rs:List AV)(n0 n1 n2 n3 n4:Int)(x5:List AV):ZaT A tab B3 93 [false,false,true,true] 136 (Zbz ms ks rs n0 n1 n2 n3 n4 x5) (Zbr ms ks rs n0 n1 n2 n3 n4 x5)=
 some (tr [8,22,3,0,8,9,1] [A.not (A.eq (Zai [Zaa (A.le 1 n3) 10,Zaa (A.le n3 8) 8]) 0),A.not (A.eq (Zai [Zaa (A.le 1 n3) 10,Zaa (A.le n3 8) 8]) 0),decide (List.length [Zaa (A.le 1 n3) 10,Zaa (A.le n3 8) 8]≤1000000),List.all [AV.int .i64 (Zaa (A.le 1 n3) 10),AV.int .i64 (Zaa (A.le n3 8) 8)] fun x=>AV.bx x&&Nat.beq (Zah A x) 1,!A.not (A.eq 0 0),!A.lt n4 n0],
  AV.tup [AV.agg (Row.gen [.int .i64 2, .int .i64 0]),AV.int .i64 (Zai [Zaa (A.le 1 n3) 10,Zaa (A.le n3 8) 8])],none):=by kernel_rfl
theorem ZzY(A:Ar)(ms ks rs:List AV)(n0 n1 n2 n3 n4:Int)(x5:List AV):Zaz A tab B3 64 [false,false,false] (Zbz ms ks rs n0 n1 n2 n3 n4 x5) (Zbr ms ks rs n0 n1 n2 n3 n4 x5)=
 some (tr [4,3,0,8,9,1] [!A.not (A.eq (Zai [Zaa (A.le 1 n3) 10,Zaa (A.le n3 8) 8]) 0),decide (List.length [Zaa (A.le 1 n3) 10,Zaa (A.le n3 8) 8]≤1000000),List.all [AV.int .i64 (Zaa (A.le 1 n3) 10),AV.int .i64 (Zaa (A.le n3 8) 8)] fun x=>AV.bx x&&Nat.beq (Zah A x) 1,!A.not (A.eq 0 0),!A.lt n4 n0],
  ZfH (ms) (ks) (rs) (n1) (n2) (n3) (0) ([])):=by kernel_rfl
theorem ZBj(A:Ar)(ms ks rs:List AV)(n1 n2 n3 n6:Int)(x7:List AV):ZaT A tab B3 88 [true,true,true] 136 (Zbu ms ks rs n1 n2 n3 n6 x7) (Zbp ms ks rs n1 n2 n3 n6 x7)=
 some (tr [8,23,3,0,0,5,4,0,4,1] [A.not (A.eq (Zai [Zaa (ZaQ (Zaw ks n6)) 4,Zaa (A.not (A.hasS x7 (Zaw ks n6))) 5,Zcx ks n6 n2]) 0),A.not (A.eq (Zai [Zaa (ZaQ (Zaw ks n6)) 4,Zaa (A.not (A.hasS x7 (Zaw ks n6))) 5,Zcx ks n6 n2]) 0),decide (List.length [Zaa (ZaQ (Zaw ks n6)) 4,Zaa (A.not (A.hasS x7 (Zaw ks n6))) 5,Zcx ks n6 n2]≤1000000),List.all [AV.int .i64 (Zaa (ZaQ (Zaw ks n6)) 4),AV.int .i64 (Zaa (A.not (A.hasS x7 (Zaw ks n6))) 5),AV.int .i64 (Zcx ks n6 n2)] fun x=>AV.bx x&&Nat.beq (Zah A x) 1,decide ((0≤n6∧n6< ↑(List.length ks))∧ -1000000≤n2∧n2≤1000000),decide (0≤n6∧n6< ↑(List.length ks)),decide (List.length (Zaw ks n6)≤1000000),decide (0≤n6∧n6< ↑(List.length ks)),A.lt n6 n3],
  AV.tup [AV.agg (Row.gen [.int .i64 2, .int .i64 n6]),AV.int .i64 (Zai [Zaa (ZaQ (Zaw ks n6)) 4,Zaa (A.not (A.hasS x7 (Zaw ks n6))) 5,Zcx ks n6 n2])],none):=by kernel_rfl
theorem Zzo(A:Ar)(ms ks rs:List AV)(n1 n2 n3 n6:Int)(x7:List AV):Zaz A tab B3 59 [true,false] (Zbu ms ks rs n1 n2 n3 n6 x7) (Zbp ms ks rs n1 n2 n3 n6 x7)=
 some (tr [1,0,0,3,3,0,0,5,4,0,4,1] [A.inR .i64 (A.add n6 1),A.not (A.hasS x7 (Zaw ks n6)),decide (0≤n6∧n6< ↑(List.length ks)),!A.not (A.eq (Zai [Zaa (ZaQ (Zaw ks n6)) 4,Zaa (A.not (A.hasS x7 (Zaw ks n6))) 5,Zcx ks n6 n2]) 0),decide (List.length [Zaa (ZaQ (Zaw ks n6)) 4,Zaa (A.not (A.hasS x7 (Zaw ks n6))) 5,Zcx ks n6 n2]≤1000000),List.all [AV.int .i64 (Zaa (ZaQ (Zaw ks n6)) 4),AV.int .i64 (Zaa (A.not (A.hasS x7 (Zaw ks n6))) 5),AV.int .i64 (Zcx ks n6 n2)] fun x=>AV.bx x&&Nat.beq (Zah A x) 1,decide ((0≤n6∧n6< ↑(List.length ks))∧ -1000000≤n2∧n2≤1000000),decide (0≤n6∧n6< ↑(List.length ks)),decide (List.length (Zaw ks n6)≤1000000),decide (0≤n6∧n6< ↑(List.length ks)),A.lt n6 n3],
  ZfH (ms) (ks) (rs) (n1) (n2) (n3) (A.add n6 1) (A.appA x7 [AV.str (Zaw ks n6)])):=by kernel_rfl
theorem ZzC(A:Ar)(ms ks rs:List AV)(n1 n2 n3 n6:Int)(x7:List AV):ZaT A tab B3 74 [false,false,true] 136 (Zbu ms ks rs n1 n2 n3 n6 x7) (Zbp ms ks rs n1 n2 n3 n6 x7)=
 some (tr [19,3,0,8,11,1] [A.not (A.eq (Zai [Zaa (A.le 0 (A.int (A.lenA rs))) 10,Zaa (A.le (A.int (A.lenA rs)) 10) 8]) 0),decide (List.length [Zaa (A.le 0 (A.int (A.lenA rs))) 10,Zaa (A.le (A.int (A.lenA rs)) 10) 8]≤1000000),List.all [AV.int .i64 (Zaa (A.le 0 (A.int (A.lenA rs))) 10),AV.int .i64 (Zaa (A.le (A.int (A.lenA rs)) 10) 8)] fun x=>AV.bx x&&Nat.beq (Zah A x) 1,!A.not (A.eq 0 0),!A.lt n6 n3],
  AV.tup [AV.agg (Row.gen [.int .i64 3, .int .i64 0]),AV.int .i64 (Zai [Zaa (A.le 0 (A.int (A.lenA rs))) 10,Zaa (A.le (A.int (A.lenA rs)) 10) 8])],none):=by kernel_rfl
theorem Zys(A:Ar)(ms ks rs:List AV)(n1 n2 n3 n6:Int)(x7:List AV):Zaz A tab B3 66 [false,false,false] (Zbu ms ks rs n1 n2 n3 n6 x7) (Zbp ms ks rs n1 n2 n3 n6 x7)=
 some (tr [4,3,0,8,11,1] [!A.not (A.eq (Zai [Zaa (A.le 0 (A.int (A.lenA rs))) 10,Zaa (A.le (A.int (A.lenA rs)) 10) 8]) 0),decide (List.length [Zaa (A.le 0 (A.int (A.lenA rs))) 10,Zaa (A.le (A.int (A.lenA rs)) 10) 8]≤1000000),List.all [AV.int .i64 (Zaa (A.le 0 (A.int (A.lenA rs))) 10),AV.int .i64 (Zaa (A.le (A.int (A.lenA rs)) 10) 8)] fun x=>AV.bx x&&Nat.beq (Zah A x) 1,!A.not (A.eq 0 0),!A.lt n6 n3],
  ZfD (ms) (ks) (rs) (n1) (n2) (n3) (A.int (A.lenA rs)) (A.int (A.lenA rs)) (0) ([])):=by kernel_rfl
theorem Ztj(A:Ar)(ms ks rs:List AV)(n1 n2 n3 n8 n9 n10:Int)(x11:List AV):ZaT A tab B3 67 [true,true] 136 (Zcb ms ks rs n1 n2 n3 n8 n9 n10 x11) (ZbN ms ks rs n1 n2 n3 n8 n9 n10 x11)=
 some (tr [20,3,0,0,5,4,0,4,1] [A.not (A.eq (Zai [Zaa (ZaQ (Zaw rs n10)) 4,Zaa (A.not (A.hasS x11 (Zaw rs n10))) 5,ZbJ rs n10 n3 n2]) 0),decide (List.length [Zaa (ZaQ (Zaw rs n10)) 4,Zaa (A.not (A.hasS x11 (Zaw rs n10))) 5,ZbJ rs n10 n3 n2]≤1000000),List.all [AV.int .i64 (Zaa (ZaQ (Zaw rs n10)) 4),AV.int .i64 (Zaa (A.not (A.hasS x11 (Zaw rs n10))) 5),AV.int .i64 (ZbJ rs n10 n3 n2)] fun x=>AV.bx x&&Nat.beq (Zah A x) 1,decide ((0≤n10∧n10< ↑(List.length rs))∧(-1000000≤n3∧n3≤1000000)∧ -1000000≤n2∧n2≤1000000),decide (0≤n10∧n10< ↑(List.length rs)),decide (List.length (Zaw rs n10)≤1000000),decide (0≤n10∧n10< ↑(List.length rs)),A.lt n10 n8],
  AV.tup [AV.agg (Row.gen [.int .i64 3, .int .i64 n10]),AV.int .i64 (Zai [Zaa (ZaQ (Zaw rs n10)) 4,Zaa (A.not (A.hasS x11 (Zaw rs n10))) 5,ZbJ rs n10 n3 n2])],none):=by kernel_rfl
theorem Zvt(A:Ar)(ms ks rs:List AV)(n1 n2 n3 n8 n9 n10:Int)(x11:List AV):Zaz A tab B3 59 [true,false] (Zcb ms ks rs n1 n2 n3 n8 n9 n10 x11) (ZbN ms ks rs n1 n2 n3 n8 n9 n10 x11)=
 some (tr [1,0,0,3,3,0,0,5,4,0,4,1] [A.inR .i64 (A.add n10 1),A.not (A.hasS x11 (Zaw rs n10)),decide (0≤n10∧n10< ↑(List.length rs)),!A.not (A.eq (Zai [Zaa (ZaQ (Zaw rs n10)) 4,Zaa (A.not (A.hasS x11 (Zaw rs n10))) 5,ZbJ rs n10 n3 n2]) 0),decide (List.length [Zaa (ZaQ (Zaw rs n10)) 4,Zaa (A.not (A.hasS x11 (Zaw rs n10))) 5,ZbJ rs n10 n3 n2]≤1000000),List.all [AV.int .i64 (Zaa (ZaQ (Zaw rs n10)) 4),AV.int .i64 (Zaa (A.not (A.hasS x11 (Zaw rs n10))) 5),AV.int .i64 (ZbJ rs n10 n3 n2)] fun x=>AV.bx x&&Nat.beq (Zah A x) 1,decide ((0≤n10∧n10< ↑(List.length rs))∧(-1000000≤n3∧n3≤1000000)∧ -1000000≤n2∧n2≤1000000),decide (0≤n10∧n10< ↑(List.length rs)),decide (List.length (Zaw rs n10)≤1000000),decide (0≤n10∧n10< ↑(List.length rs)),A.lt n10 n8],
  ZfD (ms) (ks) (rs) (n1) (n2) (n3) (n8) (n9) (A.add n10 1) (A.appA x11 [AV.str (Zaw rs n10)])):=by kernel_rfl
theorem Ztr(A:Ar)(ms ks rs:List AV)(n1 n2 n3 n8 n9 n10:Int)(x11:List AV):ZaT A tab B3 15 [false] 136 (Zcb ms ks rs n1 n2 n3 n8 n9 n10 x11) (ZbN ms ks rs n1 n2 n3 n8 n9 n10 x11)=
 some (tr [8,1] [!A.lt n10 n8],
  AV.tup [AV.agg (Row.gen [.int .i64 0, .int .i64 0]),AV.int .i64 0],none):=by kernel_rfl
def ZAk(ms ks rs l:List AV):AFrame:={ fn:=76,N:=64,env:=[(0,AV.agg (Row.gen [.list (Row.big .str ms), .list (Row.big (.agg [.str, .int .i64]) ks), .list (Row.big (.agg [.str, .int .i64, .int .i64, .int .i64, .int .i64]) rs)])),(1,AV.list (Row.big (.agg [.int .i64, .int .i64, .int .i64]) l))],todo:=[.code a76.code],defs:=[],rnd:=none,ret:=false,res:=[ARes.tmp 4,ARes.tmp 5] }
def ZD5(ms ks rs l:List AV):List AFrame:=[(ZAk ms ks rs l)]
theorem ZtI(ms ks rs l:List AV):Zaq tab 76 [AV.agg (Row.gen [.list (Row.big .str ms), .list (Row.big (.agg [.str, .int .i64]) ks), .list (Row.big (.agg [.str, .int .i64, .int .i64, .int .i64, .int .i64]) rs)]),AV.list (Row.big (.agg [.int .i64, .int .i64, .int .i64]) l)]=some (ZAk ms ks rs l):=rfl
def ZbI(ms ks rs l:List AV)(n0:Int):List AFrame:=[{ fn:=76,N:=64,env:=[(1,AV.list (Row.big (.agg [.int .i64, .int .i64, .int .i64]) l)),(2,AV.ptr 76003 0 0 0),(6,AV.int .i64 n0)],todo:=.code (ACode.gh [] ZBR)::ZEB,defs:=[],rnd:=none,ret:=false,res:=[ARes.tmp 4,ARes.tmp 5] }]
def Zbo(ms ks rs l:List AV)(n0:Int):Zac:=[(76003,{ base:=0,blks:=[Blk.row 26 3 (Row.gen [AV.agg (Row.gen [AV.list (Row.big .str ms),AV.list (Row.big (.agg [.str, .int .i64]) ks),AV.list (Row.big (.agg [.str, .int .i64, .int .i64, .int .i64, .int .i64]) rs)])])] })]
abbrev Zh3(ms ks rs l:List AV)(n0:Int):List AFrame×Zac:=(ZbI ms ks rs l n0,Zbo ms ks rs l n0)
theorem ZDx(A:Ar)(ms ks rs l:List AV):ZaT A tab B3 20 [true] 76 (ZD5 ms ks rs l) []=
 some (tr [3,6] [A.eq (A.int (A.lenA l)) 0],
  AV.tup [AV.int .i64 0,AV.int .i64 10],none):=by kernel_rfl
theorem ZD4(A:Ar)(ms ks rs l:List AV):ZaT A tab B3 29 [false,true] 76 (ZD5 ms ks rs l) []=
 some (tr [3,3,6] [A.lt 12 (A.int (A.lenA l)),!A.eq (A.int (A.lenA l)) 0],
  AV.tup [AV.int .i64 0,AV.int .i64 8],none):=by kernel_rfl
theorem ZCP(A:Ar)(ms ks rs l:List AV):Zaz A tab B3 32 [false,false] (ZD5 ms ks rs l) []=
 some (tr [1,3,6] [!A.lt 12 (A.int (A.lenA l)),!A.eq (A.int (A.lenA l)) 0],
  Zh3 (ms) (ks) (rs) (l) (0)):=by kernel_rfl
theorem ZDl(A:Ar)(ms ks rs l:List AV)(n0:Int):ZaT A tab B3 25 [true,true] 76 (ZbI ms ks rs l n0) (Zbo ms ks rs l n0)=
 some (tr [4,2,5,2,4] [A.not (Zab ((A.nthA l (A.nat n0)).cellAt 0).toI 0 (A.sub (A.int (A.lenA ks)) 1)),A.inR .i64 (A.sub (A.int (A.lenA ks)) 1),Zaf (Zaf (A.le 0 n0) (Nat.blt (A.nat n0) (A.lenA l))) true,A.lt n0 (A.int (A.lenA l))],
  AV.tup [AV.int .i64 n0,AV.int .i64 15],none):=by kernel_rfl
theorem ZDk(A:Ar)(ms ks rs l:List AV)(n0:Int):ZaT A tab B3 50 [true,false,true,true,true,true,true,true,true,true,true,true] 76 (ZbI ms ks rs l n0) (Zbo ms ks rs l n0)=
 some (tr [22,6,2,2,5,2,4] [A.not (Zab ((A.nthA l (A.nat n0)).cellAt 1).toI 0 1000000000000),Zaf (Zaf (A.le 0 n0) (Nat.blt (A.nat n0) (A.lenA l))) true,!A.not (Zab ((A.nthA l (A.nat n0)).cellAt 0).toI 0 (A.sub (A.int (A.lenA ks)) 1)),A.inR .i64 (A.sub (A.int (A.lenA ks)) 1),Zaf (Zaf (A.le 0 n0) (Nat.blt (A.nat n0) (A.lenA l))) true,A.lt n0 (A.int (A.lenA l))],
  AV.tup [AV.int .i64 n0,AV.int .i64 2],none):=by kernel_rfl
theorem ZEu(A:Ar)(ms ks rs l:List AV)(n0:Int):ZaT A tab B3 50 [true,false,false,false,false,false,false,false,false,false,false,true] 76 (ZbI ms ks rs l n0) (Zbo ms ks rs l n0)=
 some (tr [4,12,4,6,2,2,5,2,4] [A.not (Zab ((A.nthA l (A.nat n0)).cellAt 2).toI 0 1000000000000),Zaf (Zaf (A.le 0 n0) (Nat.blt (A.nat n0) (A.lenA l))) true,!A.not (Zab ((A.nthA l (A.nat n0)).cellAt 1).toI 0 1000000000000),Zaf (Zaf (A.le 0 n0) (Nat.blt (A.nat n0) (A.lenA l))) true,!A.not (Zab ((A.nthA l (A.nat n0)).cellAt 0).toI 0 (A.sub (A.int (A.lenA ks)) 1)),A.inR .i64 (A.sub (A.int (A.lenA ks)) 1),Zaf (Zaf (A.le 0 n0) (Nat.blt (A.nat n0) (A.lenA l))) true,A.lt n0 (A.int (A.lenA l))],
  AV.tup [AV.int .i64 n0,AV.int .i64 2],none):=by kernel_rfl
theorem ZDb(A:Ar)(ms ks rs l:List AV)(n0:Int):ZaT A tab B3 55 [true,false,false,false,false,false,false,false,false,false,false,false,true] 76 (ZbI ms ks rs l n0) (Zbo ms ks rs l n0)=
 some (tr [4,4,5,2,12,4,6,2,2,5,2,4] [A.lt ((A.nthA l (A.nat n0)).cellAt 2).toI ((A.nthA l (A.nat n0)).cellAt 1).toI,Zaf (Zaf (A.le 0 n0) (Nat.blt (A.nat n0) (A.lenA l))) true,Zaf (Zaf (A.le 0 n0) (Nat.blt (A.nat n0) (A.lenA l))) true,!A.not (Zab ((A.nthA l (A.nat n0)).cellAt 2).toI 0 1000000000000),Zaf (Zaf (A.le 0 n0) (Nat.blt (A.nat n0) (A.lenA l))) true,!A.not (Zab ((A.nthA l (A.nat n0)).cellAt 1).toI 0 1000000000000),Zaf (Zaf (A.le 0 n0) (Nat.blt (A.nat n0) (A.lenA l))) true,!A.not (Zab ((A.nthA l (A.nat n0)).cellAt 0).toI 0 (A.sub (A.int (A.lenA ks)) 1)),A.inR .i64 (A.sub (A.int (A.lenA ks)) 1),Zaf (Zaf (A.le 0 n0) (Nat.blt (A.nat n0) (A.lenA l))) true,A.lt n0 (A.int (A.lenA l))],
  AV.tup [AV.int .i64 n0,AV.int .i64 9],none):=by kernel_rfl
theorem ZDM(A:Ar)(ms ks rs l:List AV)(n0:Int):Zaz A tab B3 57 [true,false,false,false,false,false,false,false,false,false,false,false,false] (ZbI ms ks rs l n0) (Zbo ms ks rs l n0)=
 some (tr [1,1,4,5,2,12,4,6,2,2,5,2,4] [A.inR .i64 (A.add n0 1),!A.lt ((A.nthA l (A.nat n0)).cellAt 2).toI ((A.nthA l (A.nat n0)).cellAt 1).toI,Zaf (Zaf (A.le 0 n0) (Nat.blt (A.nat n0) (A.lenA l))) true,Zaf (Zaf (A.le 0 n0) (Nat.blt (A.nat n0) (A.lenA l))) true,!A.not (Zab ((A.nthA l (A.nat n0)).cellAt 2).toI 0 1000000000000),Zaf (Zaf (A.le 0 n0) (Nat.blt (A.nat n0) (A.lenA l))) true,!A.not (Zab ((A.nthA l (A.nat n0)).cellAt 1).toI 0 1000000000000),Zaf (Zaf (A.le 0 n0) (Nat.blt (A.nat n0) (A.lenA l))) true,!A.not (Zab ((A.nthA l (A.nat n0)).cellAt 0).toI 0 (A.sub (A.int (A.lenA ks)) 1)),A.inR .i64 (A.sub (A.int (A.lenA ks)) 1),Zaf (Zaf (A.le 0 n0) (Nat.blt (A.nat n0) (A.lenA l))) true,A.lt n0 (A.int (A.lenA l))],
  Zh3 (ms) (ks) (rs) (l) (A.add n0 1)):=by kernel_rfl
theorem ZCn(A:Ar)(ms ks rs l:List AV)(n0:Int):ZaT A tab B3 17 [false] 76 (ZbI ms ks rs l n0) (Zbo ms ks rs l n0)=
 some (tr [3,4] [!A.lt n0 (A.int (A.lenA l))],
  AV.tup [AV.int .i64 0,AV.int .i64 0],none):=by kernel_rfl
end Go.Proofs.YtkeoeooghhjibaaGreatDoor
/- Paths of functions, printed by the explorer (Gx). No condition. -/
namespace Go.Proofs.YtkeoeooghhjibaaGreatDoor
set_option maxRecDepth 100000
set_option linter.unusedVariables false
def ZoB(s:List UInt8):AFrame:={ fn:=151,N:=18,env:=[(0,AV.nils),(1,AV.str s)],todo:=[.code a151.code],defs:=[],rnd:=none,ret:=false,res:=[ARes.tmp 4] }
def ZxO(s:List UInt8):List AFrame:=[(ZoB s)]
theorem ZpB(s:List UInt8):Zaq tab 151 [AV.nils,AV.str s]=some (ZoB s):=rfl
def ZfK(s:List UInt8):List AFrame:=[{ fn:=151,N:=18,env:=[(0,AV.nils),(1,AV.str s),(5,AV.int .i64 0)],todo:=.code (ACode.gh [] ZnH)::Zsb,defs:=[],rnd:=none,ret:=false,res:=[ARes.tmp 4] }]
def Zer(s:List UInt8):Zac:=[]
abbrev ZiP(s:List UInt8):List AFrame×Zac:=(ZfK s,Zer s)
theorem ZwD(A:Ar)(s:List UInt8):Zaz A tab B3 12 [] (ZxO s) []=
 some (tr [2] [],
  ZiP (s)):=by kernel_rfl
theorem Ztz(A:Ar)(s:List UInt8):ZaT A tab B3 16 [false] 151 (ZfK s) (Zer s)=
 some (tr [2,4] [!A.lt 0 (A.int 0)],
  AV.bool false,none):=by kernel_rfl
end Go.Proofs.YtkeoeooghhjibaaGreatDoor
/- CheckModel of the program. No condition. -/
namespace Go.Proofs.YtkeoeooghhjibaaGreatDoor
def Zbf(p i e:Int):AV:=.tup [.agg (.gen [.int .i64 p, .int .i64 i]), .int .i64 e]
def Zcr(nm:List UInt8)(ex:Int)(xs:List AV):Int:=Zai [Zaa (ZaQ nm) 4,Zaa (!std.hasS xs nm) 5,ex]
def Zb8(a b:Bool):Int:=Zai [Zaa a 10,Zaa b 8]
def Zbc(nm:Nat→List UInt8)(ex:Nat→Int):Nat→Nat→List AV→Option (Nat×Int)
 |0,_,_=>none
 |m+1,k,xs=>if Zcr (nm k) (ex k) xs=0 then Zbc nm ex m (k+1) (xs++[.str (nm k)])else some (k,Zcr (nm k) (ex k) xs)
def Zbs(p:Int)(o:Option (Nat×Int))(d:AV):AV:=match o with |some (k,e)=>Zbf p k e |none=>d
def Zpz(ms ks rs:List AV):AV:=Zbs 3 (Zbc (fun k=>Zaw rs k) (fun k=>ZbJ rs k ks.length ms.length) rs.length 0 []) (Zbf 0 0 0)
def Zmp(ms ks rs:List AV):AV:=Zbs 2 (Zbc (fun k=>Zaw ks k) (fun k=>Zcx ks k ms.length) ks.length 0 []) (if Zb8 (decide (0≤(rs.length:Int))) (decide ((rs.length:Int)≤10))=0 then Zpz ms ks rs else Zbf 3 0 (Zb8 (decide (0≤(rs.length:Int))) (decide ((rs.length:Int)≤10))))
def ZqL(ms ks rs:List AV):AV:=Zbs 1 (Zbc (fun k=>Za3 ms k) (fun _=>0) ms.length 0 []) (if Zb8 (decide (1≤(ks.length:Int))) (decide ((ks.length:Int)≤8))=0 then Zmp ms ks rs else Zbf 2 0 (Zb8 (decide (1≤(ks.length:Int))) (decide ((ks.length:Int)≤8))))
def ZdM(ms ks rs:List AV):AV:=if Zb8 (decide (1≤(ms.length:Int))) (decide ((ms.length:Int)≤6))=0 then ZqL ms ks rs else Zbf 1 0 (Zb8 (decide (1≤(ms.length:Int))) (decide ((ms.length:Int)≤6)))
def Zax(ms ks rs:List AV):Bool:=(ms.all fun x=>decide (x.toS.length≤1000000))&&(ks.all fun x=>decide ((x.cellAt 0).toS.length≤1000000))&&(rs.all fun x=>decide ((x.cellAt 0).toS.length≤1000000))&&decide (ms.length≤1000000∧ks.length≤1000000∧rs.length≤1000000)
theorem ZoI{xs:List AV}{k:Nat}(h:k<xs.length):xs.getD k .top∈xs:=by
 rw[List.getD_eq_getElem?_getD,List.getElem?_eq_getElem h];exact List.getElem_mem h
theorem Zb0{ks:List AV}(h:(ks.all fun x=>decide ((x.cellAt 0).toS.length≤1000000))=true){k:Nat}(hk:k<ks.length):(Zaw ks k).length≤1000000:=by
 have:=List.all_eq_true.1 h _ (ZoI hk)
 simpa[Zaw]using this
theorem Zh4{ks:List AV}(h:(ks.all fun x=>decide (x.toS.length≤1000000))=true){k:Nat}(hk:k<ks.length):(Za3 ks k).length≤1000000:=by
 have:=List.all_eq_true.1 h _ (ZoI hk)
 simpa[Za3]using this
theorem ZrS{a b c:Int}(h:Zai [a,b,c]=0):a=0∧b=0∧c=0:=by
 simp only[Zai]at h
 by_cases h1:a=0
 ·by_cases h2:b=0
  ·by_cases h3:c=0
   ·exact⟨h1,h2,h3⟩
   ·simp[h1,h2,h3]at h
  ·simp[h1,h2]at h
 ·simp[h1]at h
theorem ZiG{nm:List UInt8}{ex:Int}{xs:List AV}(h:Zcr nm ex xs=0):std.hasS xs nm=false:=by
 have:=(ZrS h).2.1
 unfold Zaa at this
 split at this
 ·rename_i e;simpa using e
 ·cases this
theorem bx3(x y z:Int):([AV.int .i64 x,AV.int .i64 y,AV.int .i64 z].all fun x=>AV.bx x&&Nat.beq (Zah std x) 1)=true:=rfl
theorem bx2(x y:Int):([AV.int .i64 x,AV.int .i64 y].all fun x=>AV.bx x&&Nat.beq (Zah std x) 1)=true:=rfl
section
variable {C:Ctx}(hC:C.P=Tryz.prog)(ms ks rs:List AV)(hs:Zax ms ks rs=true)
include hC hs
theorem ZBT(n1:Int):∀(m k:Nat) (xs:List AV),k+m=rs.length→Ev C (Zcb ms ks rs n1 ms.length ks.length rs.length rs.length k xs) (ZbN ms ks rs n1 ms.length ks.length rs.length rs.length k xs)
 (ZbT 136 (Zbs 3 (Zbc (fun k=>Zaw rs k) (fun k=>ZbJ rs k ks.length ms.length) m k xs) (Zbf 0 0 0)) none)
 |0,k,xs,hk=>fin hC Za2 (Ztr std ms ks rs n1 ms.length ks.length rs.length rs.length k xs) (by simp;omega) rfl rfl
 |m+1,k,xs,hk=>by
  simp only[Zax,Bool.and_eq_true,decide_eq_true_eq]at hs
  have hn:=Zb0 hs.1.2 (show k<rs.length by omega)
  by_cases h:Zcr (Zaw rs k) (ZbJ rs k ks.length ms.length) xs=0
  ·have hnew:=ZiG h
   have h':=h
   unfold Zcr at h'
   refine go hC Za2 (Zvt std ms ks rs n1 ms.length ks.length rs.length rs.length k xs) (by simp only[bx3];simp[-Zc9,hnew,hn];simp[-Zc9,hnew]at h';simp[h'];omega) ?_
   have:=ZBT n1 m (k+1) (xs++[.str (Zaw rs k)]) (by omega)
   rw[Zbc,if_pos h]
   exact this
  ·have h':=h
   unfold Zcr at h'
   rw[Zbc,if_neg h]
   exact fin hC Za2 (Ztj std ms ks rs n1 ms.length ks.length rs.length rs.length k xs) (by simp only[bx3];simp[-Zc9,hn,h'];omega) rfl rfl
theorem Zxz(n1:Int):∀(m k:Nat) (xs:List AV),k+m=ks.length→Ev C (Zbu ms ks rs n1 ms.length ks.length k xs) (Zbp ms ks rs n1 ms.length ks.length k xs)
 (ZbT 136 (Zbs 2 (Zbc (fun k=>Zaw ks k) (fun k=>Zcx ks k ms.length) m k xs) (if Zb8 (decide (0≤(rs.length:Int))) (decide ((rs.length:Int)≤10))=0 then Zpz ms ks rs else Zbf 3 0 (Zb8 (decide (0≤(rs.length:Int))) (decide ((rs.length:Int)≤10))))) none)
 |0,k,xs,hk=>by
  by_cases h:Zb8 (decide (0≤(rs.length:Int))) (decide ((rs.length:Int)≤10))=0
  ·have h':=h
   unfold Zb8 at h'
   rw[if_pos h]
   refine go hC Za2 (Zys std ms ks rs n1 ms.length ks.length k xs) (by simp only[bx2,Zsw,Zjh,Zfz,h'];simp;omega) ?_
   exact ZBT hC ms ks rs hs n1 rs.length 0 [] (by omega)
  ·have h':=h
   unfold Zb8 at h'
   rw[if_neg h]
   exact fin hC Za2 (ZzC std ms ks rs n1 ms.length ks.length k xs) (by simp only[bx2,ZB1,Zsw,Zjh,Zfz,h'];simp;omega) rfl rfl
 |m+1,k,xs,hk=>by
  have hs':=hs
  simp only[Zax,Bool.and_eq_true,decide_eq_true_eq]at hs'
  have hn:=Zb0 hs'.1.1.2 (show k<ks.length by omega)
  by_cases h:Zcr (Zaw ks k) (Zcx ks k ms.length) xs=0
  ·have hnew:=ZiG h
   have h':=h
   unfold Zcr at h'
   refine go hC Za2 (Zzo std ms ks rs n1 ms.length ks.length k xs) (by simp only[bx3];simp[-Zc9,hnew,hn];simp[-Zc9,hnew]at h';simp[h'];omega) ?_
   have:=Zxz n1 m (k+1) (xs++[.str (Zaw ks k)]) (by omega)
   rw[Zbc,if_pos h]
   exact this
  ·have h':=h
   unfold Zcr at h'
   rw[Zbc,if_neg h]
   exact fin hC Za2 (ZBj std ms ks rs n1 ms.length ks.length k xs) (by simp only[bx3];simp[-Zc9,hn,h'];omega) rfl rfl
theorem ZwY(n1:Int):∀(m k:Nat) (xs:List AV),k+m=ms.length→Ev C (Zbz ms ks rs ms.length n1 ms.length ks.length k xs) (Zbr ms ks rs ms.length n1 ms.length ks.length k xs)
 (ZbT 136 (Zbs 1 (Zbc (fun k=>Za3 ms k) (fun _=>0) m k xs) (if Zb8 (decide (1≤(ks.length:Int))) (decide ((ks.length:Int)≤8))=0 then Zmp ms ks rs else Zbf 2 0 (Zb8 (decide (1≤(ks.length:Int))) (decide ((ks.length:Int)≤8))))) none)
 |0,k,xs,hk=>by
  by_cases h:Zb8 (decide (1≤(ks.length:Int))) (decide ((ks.length:Int)≤8))=0
  ·have h':=h
   unfold Zb8 at h'
   rw[if_pos h]
   refine go hC Za2 (ZzY std ms ks rs ms.length n1 ms.length ks.length k xs) (by simp only[bx2,Zsw,Zjh,Zfz,h'];simp;omega) ?_
   exact Zxz hC ms ks rs hs n1 ks.length 0 [] (by omega)
  ·have h':=h
   unfold Zb8 at h'
   rw[if_neg h]
   exact fin hC Za2 (Zx6 std ms ks rs ms.length n1 ms.length ks.length k xs) (by simp only[bx2,ZB1,Zsw,Zjh,Zfz,h'];simp;omega) rfl rfl
 |m+1,k,xs,hk=>by
  have hs':=hs
  simp only[Zax,Bool.and_eq_true,decide_eq_true_eq]at hs'
  have hn:=Zh4 hs'.1.1.1 (show k<ms.length by omega)
  by_cases h:Zcr (Za3 ms k) 0 xs=0
  ·have hnew:=ZiG h
   have h':=h
   unfold Zcr at h'
   refine go hC Za2 (Zyy std ms ks rs ms.length n1 ms.length ks.length k xs) (by simp only[bx3];simp[-Zc9,hnew,hn];simp[-Zc9,hnew]at h';simp[h'];omega) ?_
   have:=ZwY n1 m (k+1) (xs++[.str (Za3 ms k)]) (by omega)
   rw[Zbc,if_pos h]
   exact this
  ·have h':=h
   unfold Zcr at h'
   rw[Zbc,if_neg h]
   exact fin hC Za2 (Zw2 std ms ks rs ms.length n1 ms.length ks.length k xs) (by simp only[bx3];simp[-Zc9,hn,h'];omega) rfl rfl
end
theorem ZnI(ms ks rs:List AV)(hs:Zax ms ks rs=true):Zan Tryz.prog 136 [.agg (.gen [.list (.big .str ms), .list (.big (.agg [.str, .int .i64]) ks), .list (.big (.agg [.str, .int .i64, .int .i64, .int .i64, .int .i64]) rs)])] (ZdM ms ks rs) none:=
 start (Zp9 ms ks rs) fun C hC=>by
  by_cases h:Zb8 (decide (1≤(ms.length:Int))) (decide ((ms.length:Int)≤6))=0
  ·have h':=h
   unfold Zb8 at h'
   rw[ZdM,if_pos h]
   refine go hC Za2 (Zxy std ms ks rs) (by simp only[bx2,Zsw,Zjh,Zfz,h'];simp) ?_
   exact ZwY hC ms ks rs hs ms.length ms.length 0 [] (by omega)
  ·have h':=h
   unfold Zb8 at h'
   rw[ZdM,if_neg h]
   exact fin hC Za2 (Zxp std ms ks rs) (by simp only[bx2,ZB1,Zsw,Zjh,Zfz,h'];simp) rfl rfl
end Go.Proofs.YtkeoeooghhjibaaGreatDoor
/- Contracts as a list. No condition. -/
namespace Go.Proofs.YtkeoeooghhjibaaGreatDoor
theorem ZpA(s:List UInt8):Zan Tryz.prog 151 [.nils, .str s] (.bool false) none:=
 start (ZpB s) fun C hC=>go hC Za2 (ZwD std s) (by simp) (fin hC Za2 (Ztz std s) (by simp) rfl rfl)
theorem Zou(n:Int):Zan Tryz.prog 89 [.int .i64 n] (.bool (Zab n 0 1000000000000)) none:=
 start (Zuw n) fun C hC=>fin hC Za2 (ZD1 std n) (by simp) rfl rfl
def mP:AV→Int
 | .tup [.agg (.gen [.int _ p,_]),_]=>p
 |_=>0
def mI:AV→Int
 | .tup [.agg (.gen [_, .int _ i]),_]=>i
 |_=>0
def mE:AV→Int
 | .tup [_, .int _ e]=>e
 |_=>0
def isM(v:AV):Prop:=∃p i e,v=Zbf p i e
theorem isM.eq{v:AV}(h:isM v):v=Zbf (mP v) (mI v) (mE v):=by
 obtain⟨p,i,e,rfl⟩:=h
 rfl
theorem isM.scan{p:Int}{o:Option (Nat×Int)}{d:AV}(h:isM d):isM (Zbs p o d):=by
 unfold Zbs
 split
 ·exact⟨_,_,_,rfl⟩
 ·exact h
theorem isM.ite{c:Prop}[Decidable c]{a b:AV}(ha:isM a)(hb:isM b):isM (if c then a else b):=by
 split
 ·exact ha
 ·exact hb
theorem Zf3(p i e:Int):isM (Zbf p i e):=⟨_,_,_,rfl⟩
theorem ZjZ(ms ks rs:List AV):isM (ZdM ms ks rs):=
 .ite (.scan (.ite (.scan (.ite (.scan (Zf3 _ _ _)) (Zf3 _ _ _))) (Zf3 _ _ _))) (Zf3 _ _ _)
def Zjg(ms ks rs:List AV):Int:=mP (ZdM ms ks rs)
def ZjT(ms ks rs:List AV):Int:=mI (ZdM ms ks rs)
def ZaA(ms ks rs:List AV):Int:=mE (ZdM ms ks rs)
theorem ZmX(ms ks rs:List AV)(hs:Zax ms ks rs=true):Zan Tryz.prog 136 [.agg (.gen [.list (.big .str ms), .list (.big (.agg [.str, .int .i64]) ks), .list (.big (.agg [.str, .int .i64, .int .i64, .int .i64, .int .i64]) rs)])] (.tup [.agg (.gen [.int .i64 (Zjg ms ks rs), .int .i64 (ZjT ms ks rs)]), .int .i64 (ZaA ms ks rs)]) none:=by
 have:=ZnI ms ks rs hs
 rw[(ZjZ ms ks rs).eq]at this
 exact this
def k151n:Ctr:=⟨151,0,fun _ a=>match a with |[.nils, .str _]=>some (true, .bool false,none) |_=>none⟩
theorem ZpT:k151n.OK Tryz.prog:=fun pa args r fr h=>by
 simp only[k151n]at h
 split at h
 ·cases h
  exact ZpA _
 ·cases h
def k89:Ctr:=⟨89,0,fun _ a=>match a with |[.int .i64 n]=>some (true, .bool (Zab n 0 1000000000000),none) |_=>none⟩
theorem ZAy:k89.OK Tryz.prog:=fun pa args r fr h=>by
 simp only[k89]at h
 split at h
 ·cases h
  exact Zou _
 ·cases h
def k136:Ctr:=⟨136,0,fun _ a=>match a with |[.agg (.gen [.list (.big .str ms), .list (.big (.agg [.str, .int .i64]) ks), .list (.big (.agg [.str, .int .i64, .int .i64, .int .i64, .int .i64]) rs)])]=>some (decide (Zax ms ks rs=true), .tup [.agg (.gen [.int .i64 (Zjg ms ks rs), .int .i64 (ZjT ms ks rs)]), .int .i64 (ZaA ms ks rs)],none) |_=>none⟩
theorem Zv4:k136.OK Tryz.prog:=fun pa args r fr h=>by
 simp only[k136]at h
 split at h
 ·simp only[Option.some.injEq,Prod.mk.injEq,decide_eq_true_eq]at h
  obtain⟨h0,rfl,rfl⟩:=h
  exact ZmX _ _ _ h0
 ·cases h
def B4:List Ctr:=[k151n,k89,k136]++B3
theorem ZqI:ZaI Tryz.prog B4:=⟨ZpT,⟨ZAy,⟨Zv4,Za2⟩⟩⟩
end Go.Proofs.YtkeoeooghhjibaaGreatDoor
/- Paths of functions, printed by the explorer (Gx). No condition. -/
namespace Go.Proofs.YtkeoeooghhjibaaGreatDoor
set_option maxRecDepth 100000
set_option linter.unusedVariables false
def ZBF(ms ks rs:List AV):AFrame:={ fn:=88,N:=11,env:=[(0,AV.agg (Row.gen [.list (Row.big .str ms), .list (Row.big (.agg [.str, .int .i64]) ks), .list (Row.big (.agg [.str, .int .i64, .int .i64, .int .i64, .int .i64]) rs)]))],todo:=[.code a88.code],defs:=[],rnd:=none,ret:=false,res:=[ARes.tmp 2] }
def ZGd(ms ks rs:List AV):List AFrame:=[(ZBF ms ks rs)]
theorem ZtO(ms ks rs:List AV):Zaq tab 88 [AV.agg (Row.gen [.list (Row.big .str ms), .list (Row.big (.agg [.str, .int .i64]) ks), .list (Row.big (.agg [.str, .int .i64, .int .i64, .int .i64, .int .i64]) rs)])]=some (ZBF ms ks rs):=rfl
theorem ZDN(A:Ar)(ms ks rs:List AV):ZaT A tab B4 23 [] 88 (ZGd ms ks rs) []=
 some (tr [9,3] [decide (Zax ms ks rs=true)],
  AV.int .i64 (ZaA ms ks rs),none):=by kernel_rfl
def ZrI(ms ks rs:List AV)(k lo hi:Int):AFrame:={ fn:=120,N:=34,env:=[(0,AV.agg (Row.gen [.list (Row.big .str ms), .list (Row.big (.agg [.str, .int .i64]) ks), .list (Row.big (.agg [.str, .int .i64, .int .i64, .int .i64, .int .i64]) rs)])),(1,AV.agg (Row.gen [.int .i64 k, .int .i64 lo, .int .i64 hi]))],todo:=[.code a120.code],defs:=[],rnd:=none,ret:=false,res:=[ARes.tmp 4] }
def ZyA(ms ks rs:List AV)(k lo hi:Int):List AFrame:=[(ZrI ms ks rs k lo hi)]
theorem ZqN(ms ks rs:List AV)(k lo hi:Int):Zaq tab 120 [AV.agg (Row.gen [.list (Row.big .str ms), .list (Row.big (.agg [.str, .int .i64]) ks), .list (Row.big (.agg [.str, .int .i64, .int .i64, .int .i64, .int .i64]) rs)]),AV.agg (Row.gen [.int .i64 k, .int .i64 lo, .int .i64 hi])]=some (ZrI ms ks rs k lo hi):=rfl
theorem Zxl(A:Ar)(ms ks rs:List AV)(k lo hi:Int):ZaT A tab B4 10 [true] 120 (ZyA ms ks rs k lo hi) []=
 some (tr [2,0,14,7,8] [decide (List.length [Zaa (Zab k 0 (A.sub (A.int (A.lenA ks)) 1)) 15,Zaa (Zab hi 0 1000000000000) 2,Zaa (A.le lo hi) 9]≤1000000),List.all [AV.int .i64 (Zaa (Zab k 0 (A.sub (A.int (A.lenA ks)) 1)) 15),AV.int .i64 (Zaa (Zab hi 0 1000000000000) 2),AV.int .i64 (Zaa (A.le lo hi) 9)] fun x=>AV.bx x&&Nat.beq (Zah A x) 1,Zab lo 0 1000000000000,A.inR .i64 (A.sub (A.int (A.lenA ks)) 1)],
  AV.int .i64 (Zai [Zaa (Zab k 0 (A.sub (A.int (A.lenA ks)) 1)) 15,Zaa (Zab hi 0 1000000000000) 2,Zaa (A.le lo hi) 9]),none):=by kernel_rfl
theorem Zxb(A:Ar)(ms ks rs:List AV)(k lo hi:Int):ZaT A tab B4 10 [false] 120 (ZyA ms ks rs k lo hi) []=
 some (tr [2,0,14,7,8] [decide (List.length [Zaa (Zab k 0 (A.sub (A.int (A.lenA ks)) 1)) 15,2,Zaa (A.le lo hi) 9]≤1000000),List.all [AV.int .i64 (Zaa (Zab k 0 (A.sub (A.int (A.lenA ks)) 1)) 15),AV.int .i64 2,AV.int .i64 (Zaa (A.le lo hi) 9)] fun x=>AV.bx x&&Nat.beq (Zah A x) 1,!Zab lo 0 1000000000000,A.inR .i64 (A.sub (A.int (A.lenA ks)) 1)],
  AV.int .i64 (Zai [Zaa (Zab k 0 (A.sub (A.int (A.lenA ks)) 1)) 15,2,Zaa (A.le lo hi) 9]),none):=by kernel_rfl
end Go.Proofs.YtkeoeooghhjibaaGreatDoor
/- Contracts as a list. No condition. -/
namespace Go.Proofs.YtkeoeooghhjibaaGreatDoor
def ZlG(n k lo hi:Int):Int:=Zai [Zaa (Zab k 0 (n-1)) 15,Zaa (Zab lo 0 1000000000000&&Zab hi 0 1000000000000) 2,Zaa (decide (lo≤hi)) 9]
theorem ZqP(ms ks rs:List AV)(h:Zax ms ks rs=true):Zan Tryz.prog 88 [.agg (.gen [.list (.big .str ms), .list (.big (.agg [.str, .int .i64]) ks), .list (.big (.agg [.str, .int .i64, .int .i64, .int .i64, .int .i64]) rs)])] (.int .i64 (ZaA ms ks rs)) none:=
 start (ZtO ms ks rs) fun C hC=>fin hC ZqI (ZDN std ms ks rs) (by simp[h]) rfl rfl
theorem Zrr(ms ks rs:List AV)(k lo hi:Int)(h:ks.length≤1000000):Zan Tryz.prog 120 [.agg (.gen [.list (.big .str ms), .list (.big (.agg [.str, .int .i64]) ks), .list (.big (.agg [.str, .int .i64, .int .i64, .int .i64, .int .i64]) rs)]), .agg (.gen [.int .i64 k, .int .i64 lo, .int .i64 hi])] (.int .i64 (ZlG ks.length k lo hi)) none:=
 start (ZqN ms ks rs k lo hi) fun C hC=>by
  by_cases h1:Zab lo 0 1000000000000=true
  ·exact fin hC ZqI (Zxl std ms ks rs k lo hi) (by simp only[bx3];simp[h1];omega) (by simp[ZlG,h1]) rfl
  ·exact fin hC ZqI (Zxb std ms ks rs k lo hi) (by simp only[bx3];simp[h1];omega) (by unfold ZlG;rw[(by simpa using h1:Zab lo 0 1000000000000=false)];rfl) rfl
def k88:Ctr:=⟨88,0,fun _ a=>match a with |[.agg (.gen [.list (.big .str ms), .list (.big (.agg [.str, .int .i64]) ks), .list (.big (.agg [.str, .int .i64, .int .i64, .int .i64, .int .i64]) rs)])]=>some (decide (Zax ms ks rs=true), .int .i64 (ZaA ms ks rs),none) |_=>none⟩
theorem Zzf:k88.OK Tryz.prog:=fun pa args r fr h=>by
 simp only[k88]at h
 split at h
 ·simp only[Option.some.injEq,Prod.mk.injEq,decide_eq_true_eq]at h
  obtain⟨h0,rfl,rfl⟩:=h
  exact ZqP _ _ _ h0
 ·cases h
def k120:Ctr:=⟨120,0,fun _ a=>match a with |[.agg (.gen [.list (.big .str _), .list (.big (.agg [.str, .int .i64]) ks), .list (.big (.agg [.str, .int .i64, .int .i64, .int .i64, .int .i64]) _)]), .agg (.gen [.int .i64 k, .int .i64 lo, .int .i64 hi])]=>some (decide (ks.length≤1000000), .int .i64 (ZlG ks.length k lo hi),none) |_=>none⟩
theorem Zwp:k120.OK Tryz.prog:=fun pa args r fr h=>by
 simp only[k120]at h
 split at h
 ·simp only[Option.some.injEq,Prod.mk.injEq,decide_eq_true_eq]at h
  obtain⟨h0,rfl,rfl⟩:=h
  exact Zrr _ _ _ _ _ _ h0
 ·cases h
def B5:List Ctr:=[k88,k120]++B4
theorem ZgY:ZaI Tryz.prog B5:=⟨Zzf,⟨Zwp,ZqI⟩⟩
end Go.Proofs.YtkeoeooghhjibaaGreatDoor
/- Paths of functions, printed by the explorer (Gx). No condition. -/
namespace Go.Proofs.YtkeoeooghhjibaaGreatDoor
set_option maxRecDepth 100000
set_option linter.unusedVariables false
def Zzv(ms ks rs l:List AV):AFrame:={ fn:=71,N:=40,env:=[(0,AV.agg (Row.gen [.list (Row.big .str ms), .list (Row.big (.agg [.str, .int .i64]) ks), .list (Row.big (.agg [.str, .int .i64, .int .i64, .int .i64, .int .i64]) rs)])),(1,AV.list (Row.big (.agg [.int .i64, .int .i64, .int .i64]) l))],todo:=[.code a71.code],defs:=[],rnd:=none,ret:=false,res:=[ARes.tmp 4,ARes.tmp 5] }
def ZFf(ms ks rs l:List AV):List AFrame:=[(Zzv ms ks rs l)]
theorem Zvv(ms ks rs l:List AV):Zaq tab 71 [AV.agg (Row.gen [.list (Row.big .str ms), .list (Row.big (.agg [.str, .int .i64]) ks), .list (Row.big (.agg [.str, .int .i64, .int .i64, .int .i64, .int .i64]) rs)]),AV.list (Row.big (.agg [.int .i64, .int .i64, .int .i64]) l)]=some (Zzv ms ks rs l):=rfl
def Zda(ms ks rs l:List AV)(n0 n1:Int):List AFrame:=[{ fn:=71,N:=40,env:=[(2,AV.ptr 71003 0 0 0),(25,AV.list (Row.big (.agg [.int .i64, .int .i64, .int .i64]) l)),(26,AV.int .i64 n0),(27,AV.int .i64 n1)],todo:=.code (ACode.gh [] ZwZ)::ZDE,defs:=[],rnd:=none,ret:=false,res:=[ARes.tmp 4,ARes.tmp 5] }]
def ZcF(ms ks rs l:List AV)(n0 n1:Int):Zac:=[(71003,{ base:=0,blks:=[Blk.row 26 3 (Row.gen [AV.agg (Row.gen [AV.list (Row.big .str ms),AV.list (Row.big (.agg [.str, .int .i64]) ks),AV.list (Row.big (.agg [.str, .int .i64, .int .i64, .int .i64, .int .i64]) rs)])])] })]
abbrev Zh6(ms ks rs l:List AV)(n0 n1:Int):List AFrame×Zac:=(Zda ms ks rs l n0 n1,ZcF ms ks rs l n0 n1)
theorem ZCM(A:Ar)(ms ks rs l:List AV):ZaT A tab B5 37 [true] 71 (ZFf ms ks rs l) []=
 some (tr [4,3,0,8,4] [A.not (A.eq (Zai [ZaA ms ks rs,Zaa (A.lt 0 (A.int (A.lenA l))) 10,Zaa (A.le (A.int (A.lenA l)) 12) 8]) 0),decide (List.length [ZaA ms ks rs,Zaa (A.lt 0 (A.int (A.lenA l))) 10,Zaa (A.le (A.int (A.lenA l)) 12) 8]≤1000000),List.all [AV.int .i64 (ZaA ms ks rs),AV.int .i64 (Zaa (A.lt 0 (A.int (A.lenA l))) 10),AV.int .i64 (Zaa (A.le (A.int (A.lenA l)) 12) 8)] fun x=>AV.bx x&&Nat.beq (Zah A x) 1,decide (Zax ms ks rs=true)],
  AV.tup [AV.int .i64 0,AV.int .i64 (Zai [ZaA ms ks rs,Zaa (A.lt 0 (A.int (A.lenA l))) 10,Zaa (A.le (A.int (A.lenA l)) 12) 8])],none):=by kernel_rfl
theorem ZEC(A:Ar)(ms ks rs l:List AV):Zaz A tab B5 41 [false] (ZFf ms ks rs l) []=
 some (tr [3,3,0,8,4] [!A.not (A.eq (Zai [ZaA ms ks rs,Zaa (A.lt 0 (A.int (A.lenA l))) 10,Zaa (A.le (A.int (A.lenA l)) 12) 8]) 0),decide (List.length [ZaA ms ks rs,Zaa (A.lt 0 (A.int (A.lenA l))) 10,Zaa (A.le (A.int (A.lenA l)) 12) 8]≤1000000),List.all [AV.int .i64 (ZaA ms ks rs),AV.int .i64 (Zaa (A.lt 0 (A.int (A.lenA l))) 10),AV.int .i64 (Zaa (A.le (A.int (A.lenA l)) 12) 8)] fun x=>AV.bx x&&Nat.beq (Zah A x) 1,decide (Zax ms ks rs=true)],
  Zh6 (ms) (ks) (rs) (l) (A.int (A.lenA l)) (0)):=by kernel_rfl
theorem ZDu(A:Ar)(ms ks rs l:List AV)(n0 n1:Int):ZaT A tab B5 40 [true,true] 71 (Zda ms ks rs l n0 n1) (ZcF ms ks rs l n0 n1)=
 some (tr [5,3,6,1,1] [A.not (A.eq (ZlG (↑(List.length ks)) ((A.nthA l (A.nat n1)).cellAt 0).toI ((A.nthA l (A.nat n1)).cellAt 1).toI ((A.nthA l (A.nat n1)).cellAt 2).toI) 0),decide (List.length ks≤1000000),Zaf (Zaf (A.le 0 n1) (Nat.blt (A.nat n1) (A.lenA l))) true,A.lt n1 n0],
  AV.tup [AV.int .i64 n1,AV.int .i64 (ZlG (↑(List.length ks)) ((A.nthA l (A.nat n1)).cellAt 0).toI ((A.nthA l (A.nat n1)).cellAt 1).toI ((A.nthA l (A.nat n1)).cellAt 2).toI)],none):=by kernel_rfl
theorem ZCB(A:Ar)(ms ks rs l:List AV)(n0 n1:Int):Zaz A tab B5 40 [true,false] (Zda ms ks rs l n0 n1) (ZcF ms ks rs l n0 n1)=
 some (tr [1,0,3,6,1,1] [A.inR .i64 (A.add n1 1),!A.not (A.eq (ZlG (↑(List.length ks)) ((A.nthA l (A.nat n1)).cellAt 0).toI ((A.nthA l (A.nat n1)).cellAt 1).toI ((A.nthA l (A.nat n1)).cellAt 2).toI) 0),decide (List.length ks≤1000000),Zaf (Zaf (A.le 0 n1) (Nat.blt (A.nat n1) (A.lenA l))) true,A.lt n1 n0],
  Zh6 (ms) (ks) (rs) (l) (n0) (A.add n1 1)):=by kernel_rfl
theorem ZDv(A:Ar)(ms ks rs l:List AV)(n0 n1:Int):ZaT A tab B5 14 [false] 71 (Zda ms ks rs l n0 n1) (ZcF ms ks rs l n0 n1)=
 some (tr [3,1] [!A.lt n1 n0],
  AV.tup [AV.int .i64 0,AV.int .i64 0],none):=by kernel_rfl
end Go.Proofs.YtkeoeooghhjibaaGreatDoor
/- CheckFile of the program. No condition. -/
namespace Go.Proofs.YtkeoeooghhjibaaGreatDoor
def Zli(i e:Int):AV:=.tup [.int .i64 i, .int .i64 e]
def Zfp(f:Nat→Int):Nat→Nat→AV
 |0,_=>Zli 0 0
 |m+1,k=>if f k=0 then Zfp f m (k+1)else Zli k (f k)
def Zhk(n:Int)(l:List AV)(k:Nat):Int:=ZlG n (Zal l k 0) (Zal l k 1) (Zal l k 2)
def ZfY(e:Int)(l:List AV):Int:=Zai [e,Zaa (decide (0<(l.length:Int))) 10,Zaa (decide ((l.length:Int)≤12)) 8]
def ZeC(e n:Int)(l:List AV):AV:=if ZfY e l=0 then Zfp (Zhk n l) l.length 0 else Zli 0 (ZfY e l)
theorem Zhz{C:Ctx}(hC:C.P=Tryz.prog)(ms ks rs l:List AV)(hk:ks.length≤1000000)(hl:l.length≤1000000):∀(m k:Nat),k+m=l.length→Ev C (Zda ms ks rs l l.length k) (ZcF ms ks rs l l.length k) (ZbT 71 (Zfp (Zhk ks.length l) m k) none)
 |0,k,h=>fin hC ZgY (ZDv std ms ks rs l l.length k) (by simp;omega) rfl rfl
 |m+1,k,h=>by
  by_cases h1:Zhk ks.length l k=0
  ·have h2:=h1
   unfold Zhk Zal at h2
   refine go hC ZgY (ZCB std ms ks rs l l.length k) (by simp[-List.getD_eq_getElem?_getD]at h2 ⊢;simp[-List.getD_eq_getElem?_getD,h2];omega) ?_
   rw[Zfp,if_pos h1]
   exact Zhz hC ms ks rs l hk hl m (k+1) (by omega)
  ·have h2:=h1
   unfold Zhk Zal at h2
   rw[Zfp,if_neg h1]
   exact fin hC ZgY (ZDu std ms ks rs l l.length k) (by simp[-List.getD_eq_getElem?_getD]at h2 ⊢;simp[-List.getD_eq_getElem?_getD,h2];omega) rfl rfl
theorem Zq2(ms ks rs l:List AV)(hs:Zax ms ks rs=true)(hl:l.length≤1000000):Zan Tryz.prog 71 [.agg (.gen [.list (.big .str ms), .list (.big (.agg [.str, .int .i64]) ks), .list (.big (.agg [.str, .int .i64, .int .i64, .int .i64, .int .i64]) rs)]), .list (.big (.agg [.int .i64, .int .i64, .int .i64]) l)] (ZeC (ZaA ms ks rs) ks.length l) none:=
 start (Zvv ms ks rs l) fun C hC=>by
  have hk:ks.length≤1000000:=by
   simp only[Zax,Bool.and_eq_true,decide_eq_true_eq]at hs
   exact hs.2.2.1
  by_cases h:ZfY (ZaA ms ks rs) l=0
  ·have h':=h
   unfold ZfY at h'
   rw[ZeC,if_pos h]
   refine go hC ZgY (ZEC std ms ks rs l) (by simp only[bx3,Zsw,ZFt,Zjh,Zfz,h'];simp[hs]) ?_
   exact Zhz hC ms ks rs l hk hl l.length 0 (by omega)
  ·have h':=h
   unfold ZfY at h'
   rw[ZeC,if_neg h]
   exact fin hC ZgY (ZCM std ms ks rs l) (by simp only[bx3,ZB1,Zsw,ZFt,Zjh,Zfz,h'];simp[hs]) rfl rfl
end Go.Proofs.YtkeoeooghhjibaaGreatDoor
/- CheckFile of the reference. No condition. -/
namespace Go.Proofs.YtkeoeooghhjibaaGreatDoor
theorem Zf2{f:Nat→Int}{m k:Nat}{v:Int}(h:f k=v)(hv:v≠0):Zfp f (m+1) k=Zli k v:=by
 rw[Zfp,if_neg (by rw[h];exact hv),h]
theorem Zgx{C:Ctx}(hC:C.P=Tryz.prog)(ms ks rs l:List AV)(hk:ks.length≤1000000)(hl:l.length≤1000000):∀(m k:Nat),k+m=l.length→Ev C (ZbI ms ks rs l k) (Zbo ms ks rs l k) (ZbT 76 (Zfp (Zhk ks.length l) m k) none)
 |0,k,h=>fin hC Za2 (ZCn std ms ks rs l k) (by simp;omega) rfl rfl
 |m+1,k,h=>by
  have e0:((l.getD k .top).cellAt 0).toI=Zal l k 0:=rfl
  have e1:((l.getD k .top).cellAt 1).toI=Zal l k 1:=rfl
  have e2:((l.getD k .top).cellAt 2).toI=Zal l k 2:=rfl
  by_cases h2:Zab (Zal l k 0) 0 ((ks.length:Int)-1)=true
  ·by_cases h3:Zab (Zal l k 1) 0 1000000000000=true
   ·by_cases h4:Zab (Zal l k 2) 0 1000000000000=true
    ·by_cases h5:Zal l k 2<Zal l k 1
     ·rw[Zf2 (show Zhk ks.length l k=9 by simp[Zhk,ZlG,Zai,Zaa,h2,h3,h4];omega) (by decide)]
      exact fin hC Za2 (ZDb std ms ks rs l k) (by simp[-List.getD_eq_getElem?_getD,e0,e1,e2,h2,h3,h4];omega) rfl rfl
     ·refine go hC Za2 (ZDM std ms ks rs l k) (by simp[-List.getD_eq_getElem?_getD,e0,e1,e2,h2,h3,h4];omega) ?_
      rw[Zfp,if_pos (show Zhk ks.length l k=0 by simp[Zhk,ZlG,Zai,Zaa,h2,h3,h4];omega)]
      exact Zgx hC ms ks rs l hk hl m (k+1) (by omega)
    ·rw[Zf2 (show Zhk ks.length l k=2 by simp[Zhk,ZlG,Zai,Zaa,h2,h3,h4]) (by decide)]
     exact fin hC Za2 (ZEu std ms ks rs l k) (by simp[-List.getD_eq_getElem?_getD,e0,e1,e2,h2,h3,h4];omega) rfl rfl
   ·rw[Zf2 (show Zhk ks.length l k=2 by simp[Zhk,ZlG,Zai,Zaa,h2,h3]) (by decide)]
    exact fin hC Za2 (ZDk std ms ks rs l k) (by simp[-List.getD_eq_getElem?_getD,e0,e1,e2,h2,h3];omega) rfl rfl
  ·rw[Zf2 (show Zhk ks.length l k=15 by simp[Zhk,ZlG,Zai,Zaa,h2]) (by decide)]
   exact fin hC Za2 (ZDl std ms ks rs l k) (by simp[-List.getD_eq_getElem?_getD,e0,e1,e2,h2];omega) rfl rfl
theorem Zpp(ms ks rs l:List AV)(hk:ks.length≤1000000)(hl:l.length≤1000000):Zan Tryz.prog 76 [.agg (.gen [.list (.big .str ms), .list (.big (.agg [.str, .int .i64]) ks), .list (.big (.agg [.str, .int .i64, .int .i64, .int .i64, .int .i64]) rs)]), .list (.big (.agg [.int .i64, .int .i64, .int .i64]) l)] (ZeC 0 ks.length l) none:=
 start (ZtI ms ks rs l) fun C hC=>by
  by_cases h1:l=[]
  ·have e:ZfY 0 l=10:=by rw[h1];rfl
   rw[ZeC,if_neg (by rw[e];decide),e]
   exact fin hC Za2 (ZDx std ms ks rs l) (by simp[h1]) rfl rfl
  ·have h0:0<l.length:=List.length_pos_iff.2 h1
   by_cases h2:12<l.length
   ·have e:ZfY 0 l=8:=by
     unfold ZfY
     rw[decide_eq_true (show 0<(l.length:Int) by omega),decide_eq_false (show ¬(l.length:Int)≤12 by omega)];rfl
    rw[ZeC,if_neg (by rw[e];decide),e]
    exact fin hC Za2 (ZD4 std ms ks rs l) (by simp[h1];omega) rfl rfl
   ·have e:ZfY 0 l=0:=by
     unfold ZfY
     rw[decide_eq_true (show 0<(l.length:Int) by omega),decide_eq_true (show (l.length:Int)≤12 by omega)];rfl
    rw[ZeC,if_pos e]
    refine go hC Za2 (ZCP std ms ks rs l) (by simp[h1];omega) ?_
    exact Zgx hC ms ks rs l hk hl l.length 0 (by omega)
end Go.Proofs.YtkeoeooghhjibaaGreatDoor
/- Few. No condition. -/
namespace Go.Proofs.YtkeoeooghhjibaaGreatDoor
def ZBc(x:AV):Bool:=decide (x.toS.length≤20)
def ZnA(x:AV):Bool:=decide ((x.cellAt 0).toS.length≤20)
def Zpb(ms ks rs:List AV):Bool:=decide (ms.length≤8∧ks.length≤10∧rs.length≤12)&&(ms.all ZBc&&(ks.all ZnA&&rs.all ZnA))
theorem ZkD{xs:List AV}{k:Nat}(h:k<xs.length):xs.drop k=xs.getD k .top::xs.drop (k+1):=by
 rw[List.drop_eq_getElem_cons h,List.getD_eq_getElem?_getD,List.getElem?_eq_getElem h];rfl
section
variable {C:Ctx}(hC:C.P=Tryz.prog)(ms ks rs:List AV)(hl:ms.length≤8∧ks.length≤10∧rs.length≤12)
include hC hl
theorem ZBf:∀(m k:Nat),k+m=rs.length→Ev C (Zdk ms ks rs k) (Zcu ms ks rs k) (ZbT 23 (.bool ((rs.drop k).all ZnA)) none)
 |0,k,h=>fin hC Za2 (Zyz std ms ks rs k) (by simp;omega) (by rw[List.drop_of_length_le (by omega)];rfl) rfl
 |m+1,k,h=>by
  rw[ZkD (show k<rs.length by omega)]
  by_cases h1:((rs.getD k .top).cellAt 0).toS.length≤20
  ·refine go hC Za2 (Zyj std ms ks rs k) (by simp[-List.getD_eq_getElem?_getD];omega) ?_
   rw[List.all_cons,show ZnA (rs.getD k .top)=true from decide_eq_true h1,Bool.true_and]
   exact ZBf m (k+1) (by omega)
  ·exact fin hC Za2 (Zzd std ms ks rs k) (by simp[-List.getD_eq_getElem?_getD];omega) (by rw[List.all_cons,show ZnA (rs.getD k .top)=false from decide_eq_false h1,Bool.false_and]) rfl
theorem ZAs:∀(m k:Nat),k+m=ks.length→Ev C (Zc1 ms ks rs k) (ZcH ms ks rs k) (ZbT 23 (.bool ((ks.drop k).all ZnA&&rs.all ZnA)) none)
 |0,k,h=>by
  refine go hC Za2 (ZDm std ms ks rs k) (by simp;omega) ?_
  rw[List.drop_of_length_le (by omega)]
  exact ZBf hC ms ks rs hl rs.length 0 (by omega)
 |m+1,k,h=>by
  rw[ZkD (show k<ks.length by omega)]
  by_cases h1:((ks.getD k .top).cellAt 0).toS.length≤20
  ·refine go hC Za2 (ZCr std ms ks rs k) (by simp[-List.getD_eq_getElem?_getD];omega) ?_
   rw[List.all_cons,show ZnA (ks.getD k .top)=true from decide_eq_true h1,Bool.true_and]
   exact ZAs m (k+1) (by omega)
  ·exact fin hC Za2 (ZDY std ms ks rs k) (by simp[-List.getD_eq_getElem?_getD];omega) (by rw[List.all_cons,show ZnA (ks.getD k .top)=false from decide_eq_false h1,Bool.false_and,Bool.false_and]) rfl
theorem Zx8:∀(m k:Nat),k+m=ms.length→Ev C (Zc7 ms ks rs k) (ZcD ms ks rs k) (ZbT 23 (.bool ((ms.drop k).all ZBc&&(ks.all ZnA&&rs.all ZnA))) none)
 |0,k,h=>by
  refine go hC Za2 (ZC9 std ms ks rs k) (by simp;omega) ?_
  rw[List.drop_of_length_le (by omega)]
  exact ZAs hC ms ks rs hl ks.length 0 (by omega)
 |m+1,k,h=>by
  rw[ZkD (show k<ms.length by omega)]
  by_cases h1:(ms.getD k .top).toS.length≤20
  ·refine go hC Za2 (ZCj std ms ks rs k) (by simp[-List.getD_eq_getElem?_getD];omega) ?_
   rw[List.all_cons,show ZBc (ms.getD k .top)=true from decide_eq_true h1,Bool.true_and]
   exact Zx8 m (k+1) (by omega)
  ·exact fin hC Za2 (ZCW std ms ks rs k) (by simp[-List.getD_eq_getElem?_getD];omega) (by rw[List.all_cons,show ZBc (ms.getD k .top)=false from decide_eq_false h1,Bool.false_and,Bool.false_and]) rfl
end
theorem ZvY(ms ks rs:List AV):Zan Tryz.prog 23 [.agg (.gen [.list (.big .str ms), .list (.big (.agg [.str, .int .i64]) ks), .list (.big (.agg [.str, .int .i64, .int .i64, .int .i64, .int .i64]) rs)])] (.bool (Zpb ms ks rs)) none:=
 start (Zu3 ms ks rs) fun C hC=>by
  by_cases h1:ms.length≤8
  ·by_cases h2:ks.length≤10
   ·by_cases h3:rs.length≤12
    ·refine go hC Za2 (ZD7 std ms ks rs) (by simp;omega) ?_
     unfold Zpb
     rw[decide_eq_true ⟨h1,h2,h3⟩,Bool.true_and]
     exact Zx8 hC ms ks rs ⟨h1,h2,h3⟩ ms.length 0 (by omega)
    ·exact fin hC Za2 (ZEb std ms ks rs) (by simp;omega) (by simp[Zpb,h3]) rfl
   ·exact fin hC Za2 (ZCK std ms ks rs) (by simp;omega) (by simp[Zpb,h2]) rfl
  ·exact fin hC Za2 (ZDW std ms ks rs) (by simp;omega) (by simp[Zpb,h1]) rfl
end Go.Proofs.YtkeoeooghhjibaaGreatDoor
/- Paths of functions, printed by the explorer (Gx). No condition. -/
namespace Go.Proofs.YtkeoeooghhjibaaGreatDoor
set_option maxRecDepth 100000
set_option linter.unusedVariables false
def Zxn(l:List Int)(a b:Int)(xs:List Int):AFrame:={ fn:=90,N:=9,env:=[(0,AV.list (.ints .i64 l)),(1,AV.fn 87 [AV.eptr (AV.agg (Row.gen [.int .i64 a, .int .i64 b, .list (.ints .i64 xs)])) 0])],todo:=[.code a90.code],defs:=[],rnd:=none,ret:=false,res:=[ARes.tmp 4] }
def ZGK(l:List Int)(a b:Int)(xs:List Int):List AFrame:=[(Zxn l a b xs)]
theorem ZvH(l:List Int)(a b:Int)(xs:List Int):Zaq tab 90 [AV.list (.ints .i64 l),AV.fn 87 [AV.eptr (AV.agg (Row.gen [.int .i64 a, .int .i64 b, .list (.ints .i64 xs)])) 0]]=some (Zxn l a b xs):=rfl
def ZbY(l:List Int)(a b:Int)(xs:List Int)(n0 n1:Int):List AFrame:=[{ fn:=137,N:=19,env:=[(0,AV.list (.ints .i64 l)),(1,AV.fn 87 [AV.eptr (AV.agg (Row.gen [.int .i64 a, .int .i64 b, .list (.ints .i64 xs)])) 0]),(7,AV.int .i64 n0),(8,AV.int .i64 n1)],todo:=.code (ACode.gh [] Zoq)::Zso,defs:=[],rnd:=none,ret:=false,res:=[ARes.tmp 4] },{ fn:=90,N:=9,env:=[(0,AV.list (.ints .i64 l)),(1,AV.fn 87 [AV.eptr (AV.agg (Row.gen [.int .i64 a, .int .i64 b, .list (.ints .i64 xs)])) 0]),(4,AV.bool false),(5,AV.list (.ints .i64 l)),(6,AV.fn 87 [AV.eptr (AV.agg (Row.gen [.int .i64 a, .int .i64 b, .list (.ints .i64 xs)])) 0])],todo:=[AItem.inReg [oN 7 (OpK.ncall true 0 137 [Opd.t 5,Opd.t 6]),oN 8 (OpK.bin Go.BinOp.geq (Opd.t 7) (cI 0)),mV 4 8], .code ACode.ret],defs:=[],rnd:=none,ret:=false,res:=[ARes.tmp 4] }]
def Zby(l:List Int)(a b:Int)(xs:List Int)(n0 n1:Int):Zac:=[]
abbrev Zd9(l:List Int)(a b:Int)(xs:List Int)(n0 n1:Int):List AFrame×Zac:=(ZbY l a b xs n0 n1,Zby l a b xs n0 n1)
theorem ZCU(A:Ar)(l:List Int)(a b:Int)(xs:List Int):Zaz A tab B5 23 [] (ZGK l a b xs) []=
 some (tr [7] [],
  Zd9 (l) (a) (b) (xs) (A.int (A.len l)) (0)):=by kernel_rfl
theorem ZDT(A:Ar)(l:List Int)(a b:Int)(xs:List Int)(n0 n1:Int):ZaT A tab B5 56 [true,true,true,true,true,true,true,true] 90 (ZbY l a b xs n0 n1) (Zby l a b xs n0 n1)=
 some (tr [6,13,5,5,1] [A.not (Zab (A.nth l (A.nat n1)) 0 b),A.not (A.eq (A.nth l (A.nat n1)) (-1)),Zaf (Zaf (A.le 0 n1) (Nat.blt (A.nat n1) (A.len l))) true,A.lt n1 n0],
  AV.bool (A.le 0 n1),none):=by kernel_rfl
theorem ZEd(A:Ar)(l:List Int)(a b:Int)(xs:List Int)(n0 n1:Int):Zaz A tab B5 53 [true,true,true,true,true,true,true,false] (ZbY l a b xs n0 n1) (Zby l a b xs n0 n1)=
 some (tr [1,0,13,5,5,1] [A.inR .i64 (A.add n1 1),!A.not (Zab (A.nth l (A.nat n1)) 0 b),A.not (A.eq (A.nth l (A.nat n1)) (-1)),Zaf (Zaf (A.le 0 n1) (Nat.blt (A.nat n1) (A.len l))) true,A.lt n1 n0],
  Zd9 (l) (a) (b) (xs) (n0) (A.add n1 1)):=by kernel_rfl
theorem ZCk(A:Ar)(l:List Int)(a b:Int)(xs:List Int)(n0 n1:Int):Zaz A tab B5 53 [true,false,false,false,false,false,false,false] (ZbY l a b xs n0 n1) (Zby l a b xs n0 n1)=
 some (tr [1,14,5,5,1] [A.inR .i64 (A.add n1 1),!A.not (A.eq (A.nth l (A.nat n1)) (-1)),Zaf (Zaf (A.le 0 n1) (Nat.blt (A.nat n1) (A.len l))) true,A.lt n1 n0],
  Zd9 (l) (a) (b) (xs) (n0) (A.add n1 1)):=by kernel_rfl
theorem ZD9(A:Ar)(l:List Int)(a b:Int)(xs:List Int)(n0 n1:Int):ZaT A tab B5 18 [false] 90 (ZbY l a b xs n0 n1) (Zby l a b xs n0 n1)=
 some (tr [5,1] [!A.lt n1 n0],
  AV.bool (A.le 0 (-1)),none):=by kernel_rfl
end Go.Proofs.YtkeoeooghhjibaaGreatDoor
/- Whether a moment's last times hold a bad one. No condition. -/
namespace Go.Proofs.YtkeoeooghhjibaaGreatDoor
def ZqX(b n:Int):Bool:=decide (n≠ -1)&&!Zab n 0 b
theorem ZeM{C:Ctx}(hC:C.P=Tryz.prog)(l:List Int)(a b:Int)(xs:List Int)(hl:l.length≤1000000):∀(m k:Nat),k+m=l.length→Ev C (ZbY l a b xs l.length k) (Zby l a b xs l.length k) (ZbT 90 (.bool ((l.drop k).any (ZqX b))) none)
 |0,k,h=>fin hC ZgY (ZD9 std l a b xs l.length k) (by simp;omega) (by rw[List.drop_of_length_le (by omega)];rfl) rfl
 |m+1,k,h=>by
  have hd:l.drop k=l.getD k 0::l.drop (k+1):=by
   rw[List.drop_eq_getElem_cons (show k<l.length by omega),List.getD_eq_getElem?_getD,List.getElem?_eq_getElem (show k<l.length by omega)];rfl
  rw[hd,List.any_cons]
  by_cases h1:l.getD k 0= -1
  ·refine go hC ZgY (ZCk std l a b xs l.length k) (by simp[-List.getD_eq_getElem?_getD,h1];omega) ?_
   rw[show ZqX b (l.getD k 0)=false by rw[ZqX,decide_eq_false (by simp only[h1,ne_eq,not_true_eq_false,not_false_eq_true]),Bool.false_and],Bool.false_or]
   exact ZeM hC l a b xs hl m (k+1) (by omega)
  ·by_cases h2:Zab (l.getD k 0) 0 b=true
   ·refine go hC ZgY (ZEd std l a b xs l.length k) (by simp[-List.getD_eq_getElem?_getD,h1,h2];omega) ?_
    rw[show ZqX b (l.getD k 0)=false by rw[ZqX,h2,Bool.not_true,Bool.and_false],Bool.false_or]
    exact ZeM hC l a b xs hl m (k+1) (by omega)
   ·exact fin hC ZgY (ZDT std l a b xs l.length k) (by simp[-List.getD_eq_getElem?_getD,h1,h2];omega) (by
     have e:ZqX b (l.getD k 0)=true:=by rw[ZqX,decide_eq_true h1,(by simpa using h2:Zab (l.getD k 0) 0 b=false)];rfl
     rw[e,Bool.true_or]
     show AV.bool (decide ((0:Int)≤k))=_
     rw[decide_eq_true (by omega)]) rfl
theorem ZpZ(l:List Int)(a b:Int)(xs:List Int)(hl:l.length≤1000000):Zan Tryz.prog 90 [.list (.ints .i64 l), .fn 87 [.eptr (.agg (.gen [.int .i64 a, .int .i64 b, .list (.ints .i64 xs)])) 0]] (.bool (l.any (ZqX b))) none:=
 start (ZvH l a b xs) fun C hC=>go hC ZgY (ZCU std l a b xs) (by simp) (ZeM hC l a b xs hl l.length 0 (by omega))
end Go.Proofs.YtkeoeooghhjibaaGreatDoor
/- Contracts as a list. No condition. -/
namespace Go.Proofs.YtkeoeooghhjibaaGreatDoor
def k23:Ctr:=⟨23,0,fun _ a=>match a with |[.agg (.gen [.list (.big .str ms), .list (.big (.agg [.str, .int .i64]) ks), .list (.big (.agg [.str, .int .i64, .int .i64, .int .i64, .int .i64]) rs)])]=>some (true, .bool (Zpb ms ks rs),none) |_=>none⟩
theorem ZyQ:k23.OK Tryz.prog:=fun pa args r fr h=>by
 simp only[k23]at h
 split at h
 ·cases h
  exact ZvY _ _ _
 ·cases h
def k90:Ctr:=⟨90,0,fun _ a=>match a with |[.list (.ints .i64 l), .fn 87 [.eptr (.agg (.gen [.int .i64 _, .int .i64 b, .list (.ints .i64 _)])) 0]]=>some (decide (l.length≤1000000), .bool (l.any (ZqX b)),none) |_=>none⟩
theorem Zz1:k90.OK Tryz.prog:=fun pa args r fr h=>by
 simp only[k90]at h
 split at h
 ·simp only[Option.some.injEq,Prod.mk.injEq,decide_eq_true_eq]at h
  obtain⟨h0,rfl,rfl⟩:=h
  exact ZpZ _ _ _ _ h0
 ·cases h
def B6:List Ctr:=[k23,k90]++B5
theorem Zd2:ZaI Tryz.prog B6:=⟨ZyQ,⟨Zz1,ZgY⟩⟩
end Go.Proofs.YtkeoeooghhjibaaGreatDoor
