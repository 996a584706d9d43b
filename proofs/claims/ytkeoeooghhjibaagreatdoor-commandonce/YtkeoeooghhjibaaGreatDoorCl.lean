/- Paths of functions, printed by the explorer (Gx). No condition. -/
import Derived.Test.YtkeoeooghhjibaaGreatDoorPe
import Derived.KernelRfl
namespace Go.Proofs.YtkeoeooghhjibaaGreatDoor
set_option maxRecDepth 100000
set_option linter.unusedVariables false
def ZyA(n:Int):AFrame:={ fn:=89,N:=5,env:=[(0,AV.int .i64 n)],todo:=[.code a89.code],defs:=[],rnd:=none,ret:=false,res:=[ARes.tmp 2] }
def ZIv(n:Int):List AFrame:=[(ZyA n)]
theorem ZwZ(n:Int):Zat tab 89 [AV.int .i64 n]=some (ZyA n):=rfl
theorem ZEK(A:Ar)(n:Int):ZaX A tab B3 11 [] 89 (ZIv n) []=
 some (tr [5] [],
  AV.bool (Zab n 0 1000000000000),none):=by kernel_rfl
def ZzF(ms ks rs:List AV):AFrame:={ fn:=23,N:=66,env:=[(0,AV.agg (Row.gen [.list (Row.big .str ms), .list (Row.big (.agg [.str, .int .i64]) ks), .list (Row.big (.agg [.str, .int .i64, .int .i64, .int .i64, .int .i64]) rs)]))],todo:=[.code a23.code],defs:=[],rnd:=none,ret:=false,res:=[ARes.tmp 2] }
def ZB8(ms ks rs:List AV):List AFrame:=[(ZzF ms ks rs)]
theorem Zwn(ms ks rs:List AV):Zat tab 23 [AV.agg (Row.gen [.list (Row.big .str ms), .list (Row.big (.agg [.str, .int .i64]) ks), .list (Row.big (.agg [.str, .int .i64, .int .i64, .int .i64, .int .i64]) rs)])]=some (ZzF ms ks rs):=rfl
def Zdo(ms ks rs:List AV)(n0:Int):List AFrame:=[{ fn:=23,N:=66,env:=[(1,AV.ptr 23002 0 0 0),(3,AV.int .i64 n0)],todo:=.code (ACode.gh [] Zyy)::ZC0,defs:=[],rnd:=none,ret:=false,res:=[ARes.tmp 2] }]
def ZcJ(ms ks rs:List AV)(n0:Int):Zac:=[(23002,{ base:=0,blks:=[Blk.row 26 3 (Row.gen [AV.agg (Row.gen [AV.list (Row.big .str ms),AV.list (Row.big (.agg [.str, .int .i64]) ks),AV.list (Row.big (.agg [.str, .int .i64, .int .i64, .int .i64, .int .i64]) rs)])])] })]
abbrev Zip(ms ks rs:List AV)(n0:Int):List AFrame×Zac:=(Zdo ms ks rs n0,ZcJ ms ks rs n0)
def Zdu(ms ks rs:List AV)(n1:Int):List AFrame:=[{ fn:=23,N:=66,env:=[(1,AV.ptr 23002 0 0 0),(4,AV.int .i64 n1)],todo:=.code (ACode.gh [] ZBX)::ZC1,defs:=[],rnd:=none,ret:=false,res:=[ARes.tmp 2] }]
def ZcK(ms ks rs:List AV)(n1:Int):Zac:=[(23002,{ base:=0,blks:=[Blk.row 26 3 (Row.gen [AV.agg (Row.gen [AV.list (Row.big .str ms),AV.list (Row.big (.agg [.str, .int .i64]) ks),AV.list (Row.big (.agg [.str, .int .i64, .int .i64, .int .i64, .int .i64]) rs)])])] })]
abbrev Zig(ms ks rs:List AV)(n1:Int):List AFrame×Zac:=(Zdu ms ks rs n1,ZcK ms ks rs n1)
def ZdB(ms ks rs:List AV)(n2:Int):List AFrame:=[{ fn:=23,N:=66,env:=[(1,AV.ptr 23002 0 0 0),(5,AV.int .i64 n2)],todo:=.code (ACode.gh [] ZA3)::ZCJ,defs:=[],rnd:=none,ret:=false,res:=[ARes.tmp 2] }]
def ZcP(ms ks rs:List AV)(n2:Int):Zac:=[(23002,{ base:=0,blks:=[Blk.row 26 3 (Row.gen [AV.agg (Row.gen [AV.list (Row.big .str ms),AV.list (Row.big (.agg [.str, .int .i64]) ks),AV.list (Row.big (.agg [.str, .int .i64, .int .i64, .int .i64, .int .i64]) rs)])])] })]
abbrev ZhT(ms ks rs:List AV)(n2:Int):List AFrame×Zac:=(ZdB ms ks rs n2,ZcP ms ks rs n2)
theorem ZEs(A:Ar)(ms ks rs:List AV):ZaX A tab B3 32 [true,true,true,true,true,true,true,true,true,true,true] 23 (ZB8 ms ks rs) []=
 some (tr [23,7] [A.lt 8 (A.int (A.lenA ms))],
  AV.bool false,none):=by kernel_rfl
theorem ZDe(A:Ar)(ms ks rs:List AV):ZaX A tab B3 32 [false,false,false,false,false,true,true,true,true,true,true] 23 (ZB8 ms ks rs) []=
 some (tr [12,10,7] [A.lt 10 (A.int (A.lenA ks)),!A.lt 8 (A.int (A.lenA ms))],
  AV.bool false,none):=by kernel_rfl
theorem ZDp(A:Ar)(ms ks rs:List AV):ZaX A tab B3 32 [false,false,false,false,false,false,false,false,false,false,true] 23 (ZB8 ms ks rs) []=
 some (tr [2,9,10,7] [A.lt 12 (A.int (A.lenA rs)),!A.lt 10 (A.int (A.lenA ks)),!A.lt 8 (A.int (A.lenA ms))],
  AV.bool false,none):=by kernel_rfl
theorem ZCq(A:Ar)(ms ks rs:List AV):ZaC A tab B3 36 [false,false,false,false,false,false,false,false,false,false,false] (ZB8 ms ks rs) []=
 some (tr [1,9,10,7] [!A.lt 12 (A.int (A.lenA rs)),!A.lt 10 (A.int (A.lenA ks)),!A.lt 8 (A.int (A.lenA ms))],
  Zip (ms) (ks) (rs) (0)):=by kernel_rfl
theorem ZEM(A:Ar)(ms ks rs:List AV)(n0:Int):ZaX A tab B3 31 [true,true] 23 (Zdo ms ks rs n0) (ZcJ ms ks rs n0)=
 some (tr [2,3,3,5] [A.lt 20 (A.int (A.lenS (AV.toS (A.nthA ms (A.nat n0))))),Zah (Zah (A.le 0 n0) (Nat.blt (A.nat n0) (A.lenA ms))) true,A.lt n0 (A.int (A.lenA ms))],
  AV.bool false,none):=by kernel_rfl
theorem ZEG(A:Ar)(ms ks rs:List AV)(n0:Int):ZaC A tab B3 35 [true,false] (Zdo ms ks rs n0) (ZcJ ms ks rs n0)=
 some (tr [1,1,3,3,5] [A.inR .i64 (A.add n0 1),!A.lt 20 (A.int (A.lenS (AV.toS (A.nthA ms (A.nat n0))))),Zah (Zah (A.le 0 n0) (Nat.blt (A.nat n0) (A.lenA ms))) true,A.lt n0 (A.int (A.lenA ms))],
  Zip (ms) (ks) (rs) (A.add n0 1)):=by kernel_rfl
theorem ZEb(A:Ar)(ms ks rs:List AV)(n0:Int):ZaC A tab B3 20 [false] (Zdo ms ks rs n0) (ZcJ ms ks rs n0)=
 some (tr [1,5] [!A.lt n0 (A.int (A.lenA ms))],
  Zig (ms) (ks) (rs) (0)):=by kernel_rfl
theorem ZDQ(A:Ar)(ms ks rs:List AV)(n1:Int):ZaX A tab B3 32 [true,true] 23 (Zdu ms ks rs n1) (ZcK ms ks rs n1)=
 some (tr [2,4,3,5] [A.lt 20 (A.int (A.lenS ((A.nthA ks (A.nat n1)).cellAt 0).toS)),Zah (Zah (A.le 0 n1) (Nat.blt (A.nat n1) (A.lenA ks))) true,A.lt n1 (A.int (A.lenA ks))],
  AV.bool false,none):=by kernel_rfl
theorem ZCv(A:Ar)(ms ks rs:List AV)(n1:Int):ZaC A tab B3 36 [true,false] (Zdu ms ks rs n1) (ZcK ms ks rs n1)=
 some (tr [1,1,4,3,5] [A.inR .i64 (A.add n1 1),!A.lt 20 (A.int (A.lenS ((A.nthA ks (A.nat n1)).cellAt 0).toS)),Zah (Zah (A.le 0 n1) (Nat.blt (A.nat n1) (A.lenA ks))) true,A.lt n1 (A.int (A.lenA ks))],
  Zig (ms) (ks) (rs) (A.add n1 1)):=by kernel_rfl
theorem ZEE(A:Ar)(ms ks rs:List AV)(n1:Int):ZaC A tab B3 20 [false] (Zdu ms ks rs n1) (ZcK ms ks rs n1)=
 some (tr [1,5] [!A.lt n1 (A.int (A.lenA ks))],
  ZhT (ms) (ks) (rs) (0)):=by kernel_rfl
theorem ZBG(A:Ar)(ms ks rs:List AV)(n2:Int):ZaX A tab B3 32 [true,true] 23 (ZdB ms ks rs n2) (ZcP ms ks rs n2)=
 some (tr [2,4,3,5] [A.lt 20 (A.int (A.lenS ((A.nthA rs (A.nat n2)).cellAt 0).toS)),Zah (Zah (A.le 0 n2) (Nat.blt (A.nat n2) (A.lenA rs))) true,A.lt n2 (A.int (A.lenA rs))],
  AV.bool false,none):=by kernel_rfl
theorem ZzB(A:Ar)(ms ks rs:List AV)(n2:Int):ZaC A tab B3 36 [true,false] (ZdB ms ks rs n2) (ZcP ms ks rs n2)=
 some (tr [1,1,4,3,5] [A.inR .i64 (A.add n2 1),!A.lt 20 (A.int (A.lenS ((A.nthA rs (A.nat n2)).cellAt 0).toS)),Zah (Zah (A.le 0 n2) (Nat.blt (A.nat n2) (A.lenA rs))) true,A.lt n2 (A.int (A.lenA rs))],
  ZhT (ms) (ks) (rs) (A.add n2 1)):=by kernel_rfl
theorem ZxQ(A:Ar)(ms ks rs:List AV)(n2:Int):ZaX A tab B3 17 [false] 23 (ZdB ms ks rs n2) (ZcP ms ks rs n2)=
 some (tr [2,5] [!A.lt n2 (A.int (A.lenA rs))],
  AV.bool true,none):=by kernel_rfl
def Zs3(ms ks rs:List AV):AFrame:={ fn:=136,N:=31,env:=[(0,AV.agg (Row.gen [.list (Row.big .str ms), .list (Row.big (.agg [.str, .int .i64]) ks), .list (Row.big (.agg [.str, .int .i64, .int .i64, .int .i64, .int .i64]) rs)]))],todo:=[.code a136.code],defs:=[],rnd:=none,ret:=false,res:=[ARes.cell 2 true 2,ARes.tmp 3] }
def ZBH(ms ks rs:List AV):List AFrame:=[(Zs3 ms ks rs)]
theorem ZqD(ms ks rs:List AV):Zat tab 136 [AV.agg (Row.gen [.list (Row.big .str ms), .list (Row.big (.agg [.str, .int .i64]) ks), .list (Row.big (.agg [.str, .int .i64, .int .i64, .int .i64, .int .i64]) rs)])]=some (Zs3 ms ks rs):=rfl
def ZbA(ms ks rs:List AV)(n0 n1 n2 n3 n4:Int)(x5:List AV):List AFrame:=[{ fn:=159,N:=83,env:=[(0,AV.ptr 136005 0 0 0),(1,AV.int .i64 1),(5,AV.fn 160 [AV.ptr 136002 0 0 0]),(6,AV.fn 161 []),(15,AV.mp 159045 0),(45,AV.int .i64 n0),(46,AV.int .i64 n4)],todo:=.code (ACode.gh [] ZmF)::ZpA,defs:=[],rnd:=none,ret:=false,res:=[] },{ fn:=136,N:=31,env:=[(1,AV.ptr 136002 0 0 0),(2,AV.ptr 136003 0 0 0),(4,AV.ptr 136005 0 0 0),(5,AV.ptr 136006 0 0 0),(6,AV.ptr 136007 0 0 0),(7,AV.ptr 136008 0 0 0),(14,AV.int .i64 n1),(15,AV.fn 160 [AV.ptr 136002 0 0 0])],todo:=[AItem.inReg [oN 16 (OpK.icall 159 [Opd.t 4,cI 1,Opd.t 14,cI 1,cI 6,Opd.t 15,Opd.c (AV.fn 161 [])])], .code (ACode.seq (ACode.reg none [oN 17 (OpK.load false 1 (Opd.t 7)),oN 18 (OpK.mkfn 162 [Opd.t 1]),oN 19 (OpK.mkfn 163 [Opd.t 5,Opd.t 1,Opd.t 6]),oN 20 (OpK.icall 159 [Opd.t 4,cI 2,Opd.t 17,cI 1,cI 8,Opd.t 18,Opd.t 19])]) (ACode.seq (ACode.reg none [oN 21 (OpK.faddr 2 (Opd.t 1)),oN 22 (OpK.load false 1 (Opd.t 21)),oN 23 (OpK.len (Opd.t 22)),oN 24 (OpK.mkfn 164 [Opd.t 1]),oN 25 (OpK.mkfn 165 [Opd.t 1,Opd.t 7,Opd.t 5,Opd.t 6]),oN 26 (OpK.icall 159 [Opd.t 4,cI 3,Opd.t 23,cI 0,cI 10,Opd.t 24,Opd.t 25])]) (ACode.gh [Ghost.keep [2,4]] (ACode.seq (ACode.reg (some [(2,4),(3,4)]) [oN 27 (OpK.faddr 0 (Opd.t 4)),oN 28 (OpK.load true 2 (Opd.t 27)),oN 29 (OpK.faddr 2 (Opd.t 4)),oN 30 (OpK.load false 1 (Opd.t 29)),{ d:=none,g:=none,k:=OpK.store 2 (Opd.t 2) (Opd.t 28) },mV 3 30]) ACode.ret))))],defs:=[],rnd:=none,ret:=false,res:=[ARes.cell 2 true 2,ARes.tmp 3] }]
def Zbw(ms ks rs:List AV)(n0 n1 n2 n3 n4:Int)(x5:List AV):Zac:=[(136002,{ base:=0,blks:=[Blk.row 26 3 (Row.gen [AV.agg (Row.gen [AV.list (Row.big .str ms),AV.list (Row.big (.agg [.str, .int .i64]) ks),AV.list (Row.big (.agg [.str, .int .i64, .int .i64, .int .i64, .int .i64]) rs)])])] }),(136003,{ base:=0,blks:=[Blk.row 195 2 (Row.gen [AV.agg (Row.gen [AV.int .i64 0,AV.int .i64 0])])] }),(136005,{ base:=0,blks:=[Blk.row 236 3 (Row.gen [AV.agg (Row.gen [AV.int .i64 0,AV.int .i64 0,AV.int .i64 0])])] }),(136006,{ base:=0,blks:=[Blk.row 237 1 (Row.gen [AV.fn 158 []])] }),(136007,{ base:=0,blks:=[Blk.row 3 1 (Row.gen [.int .i64 n2])] }),(136008,{ base:=0,blks:=[Blk.row 3 1 (Row.gen [.int .i64 n3])] }),(159045,{ base:=0,blks:=[Blk.mp x5] })]
abbrev ZfG(ms ks rs:List AV)(n0 n1 n2 n3 n4:Int)(x5:List AV):List AFrame×Zac:=(ZbA ms ks rs n0 n1 n2 n3 n4 x5,Zbw ms ks rs n0 n1 n2 n3 n4 x5)
def ZbD(ms ks rs:List AV)(n1 n2 n3 n6:Int)(x7:List AV):List AFrame:=[{ fn:=159,N:=83,env:=[(0,AV.ptr 136005 0 0 0),(1,AV.int .i64 2),(5,AV.fn 162 [AV.ptr 136002 0 0 0]),(6,AV.fn 163 [AV.ptr 136006 0 0 0,AV.ptr 136002 0 0 0,AV.ptr 136007 0 0 0]),(15,AV.mp 159045 0),(45,AV.int .i64 n3),(46,AV.int .i64 n6)],todo:=.code (ACode.gh [] ZmF)::ZpA,defs:=[],rnd:=none,ret:=false,res:=[] },{ fn:=136,N:=31,env:=[(1,AV.ptr 136002 0 0 0),(2,AV.ptr 136003 0 0 0),(4,AV.ptr 136005 0 0 0),(5,AV.ptr 136006 0 0 0),(6,AV.ptr 136007 0 0 0),(7,AV.ptr 136008 0 0 0),(14,AV.int .i64 n1),(15,AV.fn 160 [AV.ptr 136002 0 0 0]),(16,AV.tup []),(17,AV.int .i64 n3),(18,AV.fn 162 [AV.ptr 136002 0 0 0]),(19,AV.fn 163 [AV.ptr 136006 0 0 0,AV.ptr 136002 0 0 0,AV.ptr 136007 0 0 0])],todo:=[AItem.inReg [oN 20 (OpK.icall 159 [Opd.t 4,cI 2,Opd.t 17,cI 1,cI 8,Opd.t 18,Opd.t 19])], .code (ACode.seq (ACode.reg none [oN 21 (OpK.faddr 2 (Opd.t 1)),oN 22 (OpK.load false 1 (Opd.t 21)),oN 23 (OpK.len (Opd.t 22)),oN 24 (OpK.mkfn 164 [Opd.t 1]),oN 25 (OpK.mkfn 165 [Opd.t 1,Opd.t 7,Opd.t 5,Opd.t 6]),oN 26 (OpK.icall 159 [Opd.t 4,cI 3,Opd.t 23,cI 0,cI 10,Opd.t 24,Opd.t 25])]) (ACode.gh [Ghost.keep [2,4]] (ACode.seq (ACode.reg (some [(2,4),(3,4)]) [oN 27 (OpK.faddr 0 (Opd.t 4)),oN 28 (OpK.load true 2 (Opd.t 27)),oN 29 (OpK.faddr 2 (Opd.t 4)),oN 30 (OpK.load false 1 (Opd.t 29)),{ d:=none,g:=none,k:=OpK.store 2 (Opd.t 2) (Opd.t 28) },mV 3 30]) ACode.ret)))],defs:=[],rnd:=none,ret:=false,res:=[ARes.cell 2 true 2,ARes.tmp 3] }]
def Zbr(ms ks rs:List AV)(n1 n2 n3 n6:Int)(x7:List AV):Zac:=[(136002,{ base:=0,blks:=[Blk.row 26 3 (Row.gen [AV.agg (Row.gen [AV.list (Row.big .str ms),AV.list (Row.big (.agg [.str, .int .i64]) ks),AV.list (Row.big (.agg [.str, .int .i64, .int .i64, .int .i64, .int .i64]) rs)])])] }),(136003,{ base:=0,blks:=[Blk.row 195 2 (Row.gen [AV.agg (Row.gen [AV.int .i64 0,AV.int .i64 0])])] }),(136005,{ base:=0,blks:=[Blk.row 236 3 (Row.gen [AV.agg (Row.gen [AV.int .i64 0,AV.int .i64 0,AV.int .i64 0])])] }),(136006,{ base:=0,blks:=[Blk.row 237 1 (Row.gen [AV.fn 158 []])] }),(136007,{ base:=0,blks:=[Blk.row 3 1 (Row.gen [.int .i64 n2])] }),(136008,{ base:=0,blks:=[Blk.row 3 1 (Row.gen [.int .i64 n3])] }),(159045,{ base:=0,blks:=[Blk.mp x7] })]
abbrev ZfX(ms ks rs:List AV)(n1 n2 n3 n6:Int)(x7:List AV):List AFrame×Zac:=(ZbD ms ks rs n1 n2 n3 n6 x7,Zbr ms ks rs n1 n2 n3 n6 x7)
def Zcc(ms ks rs:List AV)(n1 n2 n3 n8 n9 n10:Int)(x11:List AV):List AFrame:=[{ fn:=159,N:=83,env:=[(0,AV.ptr 136005 0 0 0),(1,AV.int .i64 3),(5,AV.fn 164 [AV.ptr 136002 0 0 0]),(6,AV.fn 165 [AV.ptr 136002 0 0 0,AV.ptr 136008 0 0 0,AV.ptr 136006 0 0 0,AV.ptr 136007 0 0 0]),(15,AV.mp 159045 0),(45,AV.int .i64 n8),(46,AV.int .i64 n10)],todo:=.code (ACode.gh [] ZmF)::ZpA,defs:=[],rnd:=none,ret:=false,res:=[] },{ fn:=136,N:=31,env:=[(1,AV.ptr 136002 0 0 0),(2,AV.ptr 136003 0 0 0),(4,AV.ptr 136005 0 0 0),(5,AV.ptr 136006 0 0 0),(6,AV.ptr 136007 0 0 0),(7,AV.ptr 136008 0 0 0),(14,AV.int .i64 n1),(15,AV.fn 160 [AV.ptr 136002 0 0 0]),(16,AV.tup []),(17,AV.int .i64 n3),(18,AV.fn 162 [AV.ptr 136002 0 0 0]),(19,AV.fn 163 [AV.ptr 136006 0 0 0,AV.ptr 136002 0 0 0,AV.ptr 136007 0 0 0]),(20,AV.tup []),(21,AV.ptr 136002 0 0 2),(22,AV.list (Row.big (.agg [.str, .int .i64, .int .i64, .int .i64, .int .i64]) rs)),(23,AV.int .i64 n9),(24,AV.fn 164 [AV.ptr 136002 0 0 0]),(25,AV.fn 165 [AV.ptr 136002 0 0 0,AV.ptr 136008 0 0 0,AV.ptr 136006 0 0 0,AV.ptr 136007 0 0 0])],todo:=[AItem.inReg [oN 26 (OpK.icall 159 [Opd.t 4,cI 3,Opd.t 23,cI 0,cI 10,Opd.t 24,Opd.t 25])], .code (ACode.gh [Ghost.keep [2,4]] (ACode.seq (ACode.reg (some [(2,4),(3,4)]) [oN 27 (OpK.faddr 0 (Opd.t 4)),oN 28 (OpK.load true 2 (Opd.t 27)),oN 29 (OpK.faddr 2 (Opd.t 4)),oN 30 (OpK.load false 1 (Opd.t 29)),{ d:=none,g:=none,k:=OpK.store 2 (Opd.t 2) (Opd.t 28) },mV 3 30]) ACode.ret))],defs:=[],rnd:=none,ret:=false,res:=[ARes.cell 2 true 2,ARes.tmp 3] }]
def ZbS(ms ks rs:List AV)(n1 n2 n3 n8 n9 n10:Int)(x11:List AV):Zac:=[(136002,{ base:=0,blks:=[Blk.row 26 3 (Row.gen [AV.agg (Row.gen [AV.list (Row.big .str ms),AV.list (Row.big (.agg [.str, .int .i64]) ks),AV.list (Row.big (.agg [.str, .int .i64, .int .i64, .int .i64, .int .i64]) rs)])])] }),(136003,{ base:=0,blks:=[Blk.row 195 2 (Row.gen [AV.agg (Row.gen [AV.int .i64 0,AV.int .i64 0])])] }),(136005,{ base:=0,blks:=[Blk.row 236 3 (Row.gen [AV.agg (Row.gen [AV.int .i64 0,AV.int .i64 0,AV.int .i64 0])])] }),(136006,{ base:=0,blks:=[Blk.row 237 1 (Row.gen [AV.fn 158 []])] }),(136007,{ base:=0,blks:=[Blk.row 3 1 (Row.gen [.int .i64 n2])] }),(136008,{ base:=0,blks:=[Blk.row 3 1 (Row.gen [.int .i64 n3])] }),(159045,{ base:=0,blks:=[Blk.mp x11] })]
abbrev ZfA(ms ks rs:List AV)(n1 n2 n3 n8 n9 n10:Int)(x11:List AV):List AFrame×Zac:=(Zcc ms ks rs n1 n2 n3 n8 n9 n10 x11,ZbS ms ks rs n1 n2 n3 n8 n9 n10 x11)
theorem Zx8(A:Ar)(ms ks rs:List AV):ZaX A tab B3 118 [false,true,true,true] 136 (ZBH ms ks rs) []=
 some (tr [8,11,20,3,0,8,23] [A.not (A.eq (Zaf [Zaa (A.le 1 (A.int (A.lenA ms))) 10,Zaa (A.le (A.int (A.lenA ms)) 6) 8]) 0),A.not (A.eq (Zaf [Zaa (A.le 1 (A.int (A.lenA ms))) 10,Zaa (A.le (A.int (A.lenA ms)) 6) 8]) 0),A.not (A.eq (Zaf [Zaa (A.le 1 (A.int (A.lenA ms))) 10,Zaa (A.le (A.int (A.lenA ms)) 6) 8]) 0),decide (List.length [Zaa (A.le 1 (A.int (A.lenA ms))) 10,Zaa (A.le (A.int (A.lenA ms)) 6) 8]≤1000000),List.all [AV.int .i64 (Zaa (A.le 1 (A.int (A.lenA ms))) 10),AV.int .i64 (Zaa (A.le (A.int (A.lenA ms)) 6) 8)] fun x=>AV.bx x&&Nat.beq (Zad A x) 1,!A.not (A.eq 0 0)],
  AV.tup [AV.agg (Row.gen [.int .i64 1, .int .i64 0]),AV.int .i64 (Zaf [Zaa (A.le 1 (A.int (A.lenA ms))) 10,Zaa (A.le (A.int (A.lenA ms)) 6) 8])],none):=by kernel_rfl
theorem ZBD(A:Ar)(ms ks rs:List AV):ZaC A tab B3 70 [false,false] (ZBH ms ks rs) []=
 some (tr [4,3,0,8,23] [!A.not (A.eq (Zaf [Zaa (A.le 1 (A.int (A.lenA ms))) 10,Zaa (A.le (A.int (A.lenA ms)) 6) 8]) 0),decide (List.length [Zaa (A.le 1 (A.int (A.lenA ms))) 10,Zaa (A.le (A.int (A.lenA ms)) 6) 8]≤1000000),List.all [AV.int .i64 (Zaa (A.le 1 (A.int (A.lenA ms))) 10),AV.int .i64 (Zaa (A.le (A.int (A.lenA ms)) 6) 8)] fun x=>AV.bx x&&Nat.beq (Zad A x) 1,!A.not (A.eq 0 0)],
  ZfG (ms) (ks) (rs) (A.int (A.lenA ms)) (A.int (A.lenA ms)) (A.int (A.lenA ms)) (A.int (A.lenA ks)) (0) ([])):=by kernel_rfl
theorem ZAE(A:Ar)(ms ks rs:List AV)(n0 n1 n2 n3 n4:Int)(x5:List AV):ZaX A tab B3 107 [true,true,true,true] 136 (ZbA ms ks rs n0 n1 n2 n3 n4 x5) (Zbw ms ks rs n0 n1 n2 n3 n4 x5)=
 some (tr [8,11,21,3,0,6,4,0,4,1] [A.not (A.eq (Zaf [Zaa (ZaT (Za7 ms n4)) 4,Zaa (A.not (A.hasS x5 (Za7 ms n4))) 5,0]) 0),A.not (A.eq (Zaf [Zaa (ZaT (Za7 ms n4)) 4,Zaa (A.not (A.hasS x5 (Za7 ms n4))) 5,0]) 0),A.not (A.eq (Zaf [Zaa (ZaT (Za7 ms n4)) 4,Zaa (A.not (A.hasS x5 (Za7 ms n4))) 5,0]) 0),decide (List.length [Zaa (ZaT (Za7 ms n4)) 4,Zaa (A.not (A.hasS x5 (Za7 ms n4))) 5,0]≤1000000),List.all [AV.int .i64 (Zaa (ZaT (Za7 ms n4)) 4),AV.int .i64 (Zaa (A.not (A.hasS x5 (Za7 ms n4))) 5),AV.int .i64 0] fun x=>AV.bx x&&Nat.beq (Zad A x) 1,decide (0≤n4∧n4< ↑(List.length ms)),decide (List.length (Za7 ms n4)≤1000000),decide (0≤n4∧n4< ↑(List.length ms)),A.lt n4 n0],
  AV.tup [AV.agg (Row.gen [.int .i64 1, .int .i64 n4]),AV.int .i64 (Zaf [Zaa (ZaT (Za7 ms n4)) 4,Zaa (A.not (A.hasS x5 (Za7 ms n4))) 5,0])],none):=by kernel_rfl
theorem ZyR(A:Ar)(ms ks rs:List AV)(n0 n1 n2 n3 n4:Int)(x5:List AV):ZaC A tab B3 59 [true,false] (ZbA ms ks rs n0 n1 n2 n3 n4 x5) (Zbw ms ks rs n0 n1 n2 n3 n4 x5)=
 some (tr [1,0,0,3,3,0,6,4,0,4,1] [A.inR .i64 (A.add n4 1),A.not (A.hasS x5 (Za7 ms n4)),decide (0≤n4∧n4< ↑(List.length ms)),!A.not (A.eq (Zaf [Zaa (ZaT (Za7 ms n4)) 4,Zaa (A.not (A.hasS x5 (Za7 ms n4))) 5,0]) 0),decide (List.length [Zaa (ZaT (Za7 ms n4)) 4,Zaa (A.not (A.hasS x5 (Za7 ms n4))) 5,0]≤1000000),List.all [AV.int .i64 (Zaa (ZaT (Za7 ms n4)) 4),AV.int .i64 (Zaa (A.not (A.hasS x5 (Za7 ms n4))) 5),AV.int .i64 0] fun x=>AV.bx x&&Nat.beq (Zad A x) 1,decide (0≤n4∧n4< ↑(List.length ms)),decide (List.length (Za7 ms n4)≤1000000),decide (0≤n4∧n4< ↑(List.length ms)),A.lt n4 n0],
  ZfG (ms) (ks) (rs) (n0) (n1) (n2) (n3) (A.add n4 1) (A.appA x5 [AV.str (Za7 ms n4)])):=by kernel_rfl
theorem Zyh(A:Ar)(ms ks rs:List AV)(n0 n1 n2 n3 n4:Int)(x5:List AV):ZaX A tab B3 93 [false,false,true,true] 136 (ZbA ms ks rs n0 n1 n2 n3 n4 x5) (Zbw ms ks rs n0 n1 n2 n3 n4 x5)=
 some (tr [8,22,3,0,8,9,1] [A.not (A.eq (Zaf [Zaa (A.le 1 n3) 10,Zaa (A.le n3 8) 8]) 0),A.not (A.eq (Zaf [Zaa (A.le 1 n3) 10,Zaa (A.le n3 8) 8]) 0),decide (List.length [Zaa (A.le 1 n3) 10,Zaa (A.le n3 8) 8]≤1000000),List.all [AV.int .i64 (Zaa (A.le 1 n3) 10),AV.int .i64 (Zaa (A.le n3 8) 8)] fun x=>AV.bx x&&Nat.beq (Zad A x) 1,!A.not (A.eq 0 0),!A.lt n4 n0],
  AV.tup [AV.agg (Row.gen [.int .i64 2, .int .i64 0]),AV.int .i64 (Zaf [Zaa (A.le 1 n3) 10,Zaa (A.le n3 8) 8])],none):=by kernel_rfl
theorem Zzz(A:Ar)(ms ks rs:List AV)(n0 n1 n2 n3 n4:Int)(x5:List AV):ZaC A tab B3 64 [false,false,false] (ZbA ms ks rs n0 n1 n2 n3 n4 x5) (Zbw ms ks rs n0 n1 n2 n3 n4 x5)=
 some (tr [4,3,0,8,9,1] [!A.not (A.eq (Zaf [Zaa (A.le 1 n3) 10,Zaa (A.le n3 8) 8]) 0),decide (List.length [Zaa (A.le 1 n3) 10,Zaa (A.le n3 8) 8]≤1000000),List.all [AV.int .i64 (Zaa (A.le 1 n3) 10),AV.int .i64 (Zaa (A.le n3 8) 8)] fun x=>AV.bx x&&Nat.beq (Zad A x) 1,!A.not (A.eq 0 0),!A.lt n4 n0],
  ZfX (ms) (ks) (rs) (n1) (n2) (n3) (0) ([])):=by kernel_rfl
theorem ZAm(A:Ar)(ms ks rs:List AV)(n1 n2 n3 n6:Int)(x7:List AV):ZaX A tab B3 88 [true,true,true] 136 (ZbD ms ks rs n1 n2 n3 n6 x7) (Zbr ms ks rs n1 n2 n3 n6 x7)=
 some (tr [8,23,3,0,0,5,4,0,4,1] [A.not (A.eq (Zaf [Zaa (ZaT (ZaA ks n6)) 4,Zaa (A.not (A.hasS x7 (ZaA ks n6))) 5,ZcA ks n6 n2]) 0),A.not (A.eq (Zaf [Zaa (ZaT (ZaA ks n6)) 4,Zaa (A.not (A.hasS x7 (ZaA ks n6))) 5,ZcA ks n6 n2]) 0),decide (List.length [Zaa (ZaT (ZaA ks n6)) 4,Zaa (A.not (A.hasS x7 (ZaA ks n6))) 5,ZcA ks n6 n2]≤1000000),List.all [AV.int .i64 (Zaa (ZaT (ZaA ks n6)) 4),AV.int .i64 (Zaa (A.not (A.hasS x7 (ZaA ks n6))) 5),AV.int .i64 (ZcA ks n6 n2)] fun x=>AV.bx x&&Nat.beq (Zad A x) 1,decide ((0≤n6∧n6< ↑(List.length ks))∧ -1000000≤n2∧n2≤1000000),decide (0≤n6∧n6< ↑(List.length ks)),decide (List.length (ZaA ks n6)≤1000000),decide (0≤n6∧n6< ↑(List.length ks)),A.lt n6 n3],
  AV.tup [AV.agg (Row.gen [.int .i64 2, .int .i64 n6]),AV.int .i64 (Zaf [Zaa (ZaT (ZaA ks n6)) 4,Zaa (A.not (A.hasS x7 (ZaA ks n6))) 5,ZcA ks n6 n2])],none):=by kernel_rfl
theorem Zzu(A:Ar)(ms ks rs:List AV)(n1 n2 n3 n6:Int)(x7:List AV):ZaC A tab B3 59 [true,false] (ZbD ms ks rs n1 n2 n3 n6 x7) (Zbr ms ks rs n1 n2 n3 n6 x7)=
 some (tr [1,0,0,3,3,0,0,5,4,0,4,1] [A.inR .i64 (A.add n6 1),A.not (A.hasS x7 (ZaA ks n6)),decide (0≤n6∧n6< ↑(List.length ks)),!A.not (A.eq (Zaf [Zaa (ZaT (ZaA ks n6)) 4,Zaa (A.not (A.hasS x7 (ZaA ks n6))) 5,ZcA ks n6 n2]) 0),decide (List.length [Zaa (ZaT (ZaA ks n6)) 4,Zaa (A.not (A.hasS x7 (ZaA ks n6))) 5,ZcA ks n6 n2]≤1000000),List.all [AV.int .i64 (Zaa (ZaT (ZaA ks n6)) 4),AV.int .i64 (Zaa (A.not (A.hasS x7 (ZaA ks n6))) 5),AV.int .i64 (ZcA ks n6 n2)] fun x=>AV.bx x&&Nat.beq (Zad A x) 1,decide ((0≤n6∧n6< ↑(List.length ks))∧ -1000000≤n2∧n2≤1000000),decide (0≤n6∧n6< ↑(List.length ks)),decide (List.length (ZaA ks n6)≤1000000),decide (0≤n6∧n6< ↑(List.length ks)),A.lt n6 n3],
  ZfX (ms) (ks) (rs) (n1) (n2) (n3) (A.add n6 1) (A.appA x7 [AV.str (ZaA ks n6)])):=by kernel_rfl
theorem ZBF(A:Ar)(ms ks rs:List AV)(n1 n2 n3 n6:Int)(x7:List AV):ZaX A tab B3 74 [false,false,true] 136 (ZbD ms ks rs n1 n2 n3 n6 x7) (Zbr ms ks rs n1 n2 n3 n6 x7)=
 some (tr [19,3,0,8,11,1] [A.not (A.eq (Zaf [Zaa (A.le 0 (A.int (A.lenA rs))) 10,Zaa (A.le (A.int (A.lenA rs)) 10) 8]) 0),decide (List.length [Zaa (A.le 0 (A.int (A.lenA rs))) 10,Zaa (A.le (A.int (A.lenA rs)) 10) 8]≤1000000),List.all [AV.int .i64 (Zaa (A.le 0 (A.int (A.lenA rs))) 10),AV.int .i64 (Zaa (A.le (A.int (A.lenA rs)) 10) 8)] fun x=>AV.bx x&&Nat.beq (Zad A x) 1,!A.not (A.eq 0 0),!A.lt n6 n3],
  AV.tup [AV.agg (Row.gen [.int .i64 3, .int .i64 0]),AV.int .i64 (Zaf [Zaa (A.le 0 (A.int (A.lenA rs))) 10,Zaa (A.le (A.int (A.lenA rs)) 10) 8])],none):=by kernel_rfl
theorem ZAa(A:Ar)(ms ks rs:List AV)(n1 n2 n3 n6:Int)(x7:List AV):ZaC A tab B3 66 [false,false,false] (ZbD ms ks rs n1 n2 n3 n6 x7) (Zbr ms ks rs n1 n2 n3 n6 x7)=
 some (tr [4,3,0,8,11,1] [!A.not (A.eq (Zaf [Zaa (A.le 0 (A.int (A.lenA rs))) 10,Zaa (A.le (A.int (A.lenA rs)) 10) 8]) 0),decide (List.length [Zaa (A.le 0 (A.int (A.lenA rs))) 10,Zaa (A.le (A.int (A.lenA rs)) 10) 8]≤1000000),List.all [AV.int .i64 (Zaa (A.le 0 (A.int (A.lenA rs))) 10),AV.int .i64 (Zaa (A.le (A.int (A.lenA rs)) 10) 8)] fun x=>AV.bx x&&Nat.beq (Zad A x) 1,!A.not (A.eq 0 0),!A.lt n6 n3],
  ZfA (ms) (ks) (rs) (n1) (n2) (n3) (A.int (A.lenA rs)) (A.int (A.lenA rs)) (0) ([])):=by kernel_rfl
theorem ZtH(A:Ar)(ms ks rs:List AV)(n1 n2 n3 n8 n9 n10:Int)(x11:List AV):ZaX A tab B3 67 [true,true] 136 (Zcc ms ks rs n1 n2 n3 n8 n9 n10 x11) (ZbS ms ks rs n1 n2 n3 n8 n9 n10 x11)=
 some (tr [20,3,0,0,5,4,0,4,1] [A.not (A.eq (Zaf [Zaa (ZaT (ZaA rs n10)) 4,Zaa (A.not (A.hasS x11 (ZaA rs n10))) 5,ZbO rs n10 n3 n2]) 0),decide (List.length [Zaa (ZaT (ZaA rs n10)) 4,Zaa (A.not (A.hasS x11 (ZaA rs n10))) 5,ZbO rs n10 n3 n2]≤1000000),List.all [AV.int .i64 (Zaa (ZaT (ZaA rs n10)) 4),AV.int .i64 (Zaa (A.not (A.hasS x11 (ZaA rs n10))) 5),AV.int .i64 (ZbO rs n10 n3 n2)] fun x=>AV.bx x&&Nat.beq (Zad A x) 1,decide ((0≤n10∧n10< ↑(List.length rs))∧(-1000000≤n3∧n3≤1000000)∧ -1000000≤n2∧n2≤1000000),decide (0≤n10∧n10< ↑(List.length rs)),decide (List.length (ZaA rs n10)≤1000000),decide (0≤n10∧n10< ↑(List.length rs)),A.lt n10 n8],
  AV.tup [AV.agg (Row.gen [.int .i64 3, .int .i64 n10]),AV.int .i64 (Zaf [Zaa (ZaT (ZaA rs n10)) 4,Zaa (A.not (A.hasS x11 (ZaA rs n10))) 5,ZbO rs n10 n3 n2])],none):=by kernel_rfl
theorem ZuY(A:Ar)(ms ks rs:List AV)(n1 n2 n3 n8 n9 n10:Int)(x11:List AV):ZaC A tab B3 59 [true,false] (Zcc ms ks rs n1 n2 n3 n8 n9 n10 x11) (ZbS ms ks rs n1 n2 n3 n8 n9 n10 x11)=
 some (tr [1,0,0,3,3,0,0,5,4,0,4,1] [A.inR .i64 (A.add n10 1),A.not (A.hasS x11 (ZaA rs n10)),decide (0≤n10∧n10< ↑(List.length rs)),!A.not (A.eq (Zaf [Zaa (ZaT (ZaA rs n10)) 4,Zaa (A.not (A.hasS x11 (ZaA rs n10))) 5,ZbO rs n10 n3 n2]) 0),decide (List.length [Zaa (ZaT (ZaA rs n10)) 4,Zaa (A.not (A.hasS x11 (ZaA rs n10))) 5,ZbO rs n10 n3 n2]≤1000000),List.all [AV.int .i64 (Zaa (ZaT (ZaA rs n10)) 4),AV.int .i64 (Zaa (A.not (A.hasS x11 (ZaA rs n10))) 5),AV.int .i64 (ZbO rs n10 n3 n2)] fun x=>AV.bx x&&Nat.beq (Zad A x) 1,decide ((0≤n10∧n10< ↑(List.length rs))∧(-1000000≤n3∧n3≤1000000)∧ -1000000≤n2∧n2≤1000000),decide (0≤n10∧n10< ↑(List.length rs)),decide (List.length (ZaA rs n10)≤1000000),decide (0≤n10∧n10< ↑(List.length rs)),A.lt n10 n8],
  ZfA (ms) (ks) (rs) (n1) (n2) (n3) (n8) (n9) (A.add n10 1) (A.appA x11 [AV.str (ZaA rs n10)])):=by kernel_rfl
theorem Zty(A:Ar)(ms ks rs:List AV)(n1 n2 n3 n8 n9 n10:Int)(x11:List AV):ZaX A tab B3 15 [false] 136 (Zcc ms ks rs n1 n2 n3 n8 n9 n10 x11) (ZbS ms ks rs n1 n2 n3 n8 n9 n10 x11)=
 some (tr [8,1] [!A.lt n10 n8],
  AV.tup [AV.agg (Row.gen [.int .i64 0, .int .i64 0]),AV.int .i64 0],none):=by kernel_rfl
def Zx0(ms ks rs l:List AV):AFrame:={ fn:=76,N:=64,env:=[(0,AV.agg (Row.gen [.list (Row.big .str ms), .list (Row.big (.agg [.str, .int .i64]) ks), .list (Row.big (.agg [.str, .int .i64, .int .i64, .int .i64, .int .i64]) rs)])),(1,AV.list (Row.big (.agg [.int .i64, .int .i64, .int .i64]) l))],todo:=[.code a76.code],defs:=[],rnd:=none,ret:=false,res:=[ARes.tmp 4,ARes.tmp 5] }
def ZDj(ms ks rs l:List AV):List AFrame:=[(Zx0 ms ks rs l)]
theorem ZvW(ms ks rs l:List AV):Zat tab 76 [AV.agg (Row.gen [.list (Row.big .str ms), .list (Row.big (.agg [.str, .int .i64]) ks), .list (Row.big (.agg [.str, .int .i64, .int .i64, .int .i64, .int .i64]) rs)]),AV.list (Row.big (.agg [.int .i64, .int .i64, .int .i64]) l)]=some (Zx0 ms ks rs l):=rfl
def ZbM(ms ks rs l:List AV)(n0:Int):List AFrame:=[{ fn:=76,N:=64,env:=[(1,AV.list (Row.big (.agg [.int .i64, .int .i64, .int .i64]) l)),(2,AV.ptr 76003 0 0 0),(6,AV.int .i64 n0)],todo:=.code (ACode.gh [] Zxs)::ZDY,defs:=[],rnd:=none,ret:=false,res:=[ARes.tmp 4,ARes.tmp 5] }]
def Zbs(ms ks rs l:List AV)(n0:Int):Zac:=[(76003,{ base:=0,blks:=[Blk.row 26 3 (Row.gen [AV.agg (Row.gen [AV.list (Row.big .str ms),AV.list (Row.big (.agg [.str, .int .i64]) ks),AV.list (Row.big (.agg [.str, .int .i64, .int .i64, .int .i64, .int .i64]) rs)])])] })]
abbrev Zh2(ms ks rs l:List AV)(n0:Int):List AFrame×Zac:=(ZbM ms ks rs l n0,Zbs ms ks rs l n0)
theorem ZCA(A:Ar)(ms ks rs l:List AV):ZaX A tab B3 20 [true] 76 (ZDj ms ks rs l) []=
 some (tr [3,6] [A.eq (A.int (A.lenA l)) 0],
  AV.tup [AV.int .i64 0,AV.int .i64 10],none):=by kernel_rfl
theorem ZCQ(A:Ar)(ms ks rs l:List AV):ZaX A tab B3 29 [false,true] 76 (ZDj ms ks rs l) []=
 some (tr [3,3,6] [A.lt 12 (A.int (A.lenA l)),!A.eq (A.int (A.lenA l)) 0],
  AV.tup [AV.int .i64 0,AV.int .i64 8],none):=by kernel_rfl
theorem ZCi(A:Ar)(ms ks rs l:List AV):ZaC A tab B3 32 [false,false] (ZDj ms ks rs l) []=
 some (tr [1,3,6] [!A.lt 12 (A.int (A.lenA l)),!A.eq (A.int (A.lenA l)) 0],
  Zh2 (ms) (ks) (rs) (l) (0)):=by kernel_rfl
theorem ZD2(A:Ar)(ms ks rs l:List AV)(n0:Int):ZaX A tab B3 25 [true,true] 76 (ZbM ms ks rs l n0) (Zbs ms ks rs l n0)=
 some (tr [4,2,5,2,4] [A.not (Zab ((A.nthA l (A.nat n0)).cellAt 0).toI 0 (A.sub (A.int (A.lenA ks)) 1)),A.inR .i64 (A.sub (A.int (A.lenA ks)) 1),Zah (Zah (A.le 0 n0) (Nat.blt (A.nat n0) (A.lenA l))) true,A.lt n0 (A.int (A.lenA l))],
  AV.tup [AV.int .i64 n0,AV.int .i64 15],none):=by kernel_rfl
theorem ZDf(A:Ar)(ms ks rs l:List AV)(n0:Int):ZaX A tab B3 50 [true,false,true,true,true,true,true,true,true,true,true,true] 76 (ZbM ms ks rs l n0) (Zbs ms ks rs l n0)=
 some (tr [22,6,2,2,5,2,4] [A.not (Zab ((A.nthA l (A.nat n0)).cellAt 1).toI 0 1000000000000),Zah (Zah (A.le 0 n0) (Nat.blt (A.nat n0) (A.lenA l))) true,!A.not (Zab ((A.nthA l (A.nat n0)).cellAt 0).toI 0 (A.sub (A.int (A.lenA ks)) 1)),A.inR .i64 (A.sub (A.int (A.lenA ks)) 1),Zah (Zah (A.le 0 n0) (Nat.blt (A.nat n0) (A.lenA l))) true,A.lt n0 (A.int (A.lenA l))],
  AV.tup [AV.int .i64 n0,AV.int .i64 2],none):=by kernel_rfl
theorem ZCP(A:Ar)(ms ks rs l:List AV)(n0:Int):ZaX A tab B3 50 [true,false,false,false,false,false,false,false,false,false,false,true] 76 (ZbM ms ks rs l n0) (Zbs ms ks rs l n0)=
 some (tr [4,12,4,6,2,2,5,2,4] [A.not (Zab ((A.nthA l (A.nat n0)).cellAt 2).toI 0 1000000000000),Zah (Zah (A.le 0 n0) (Nat.blt (A.nat n0) (A.lenA l))) true,!A.not (Zab ((A.nthA l (A.nat n0)).cellAt 1).toI 0 1000000000000),Zah (Zah (A.le 0 n0) (Nat.blt (A.nat n0) (A.lenA l))) true,!A.not (Zab ((A.nthA l (A.nat n0)).cellAt 0).toI 0 (A.sub (A.int (A.lenA ks)) 1)),A.inR .i64 (A.sub (A.int (A.lenA ks)) 1),Zah (Zah (A.le 0 n0) (Nat.blt (A.nat n0) (A.lenA l))) true,A.lt n0 (A.int (A.lenA l))],
  AV.tup [AV.int .i64 n0,AV.int .i64 2],none):=by kernel_rfl
theorem ZDi(A:Ar)(ms ks rs l:List AV)(n0:Int):ZaX A tab B3 55 [true,false,false,false,false,false,false,false,false,false,false,false,true] 76 (ZbM ms ks rs l n0) (Zbs ms ks rs l n0)=
 some (tr [4,4,5,2,12,4,6,2,2,5,2,4] [A.lt ((A.nthA l (A.nat n0)).cellAt 2).toI ((A.nthA l (A.nat n0)).cellAt 1).toI,Zah (Zah (A.le 0 n0) (Nat.blt (A.nat n0) (A.lenA l))) true,Zah (Zah (A.le 0 n0) (Nat.blt (A.nat n0) (A.lenA l))) true,!A.not (Zab ((A.nthA l (A.nat n0)).cellAt 2).toI 0 1000000000000),Zah (Zah (A.le 0 n0) (Nat.blt (A.nat n0) (A.lenA l))) true,!A.not (Zab ((A.nthA l (A.nat n0)).cellAt 1).toI 0 1000000000000),Zah (Zah (A.le 0 n0) (Nat.blt (A.nat n0) (A.lenA l))) true,!A.not (Zab ((A.nthA l (A.nat n0)).cellAt 0).toI 0 (A.sub (A.int (A.lenA ks)) 1)),A.inR .i64 (A.sub (A.int (A.lenA ks)) 1),Zah (Zah (A.le 0 n0) (Nat.blt (A.nat n0) (A.lenA l))) true,A.lt n0 (A.int (A.lenA l))],
  AV.tup [AV.int .i64 n0,AV.int .i64 9],none):=by kernel_rfl
theorem ZDm(A:Ar)(ms ks rs l:List AV)(n0:Int):ZaC A tab B3 57 [true,false,false,false,false,false,false,false,false,false,false,false,false] (ZbM ms ks rs l n0) (Zbs ms ks rs l n0)=
 some (tr [1,1,4,5,2,12,4,6,2,2,5,2,4] [A.inR .i64 (A.add n0 1),!A.lt ((A.nthA l (A.nat n0)).cellAt 2).toI ((A.nthA l (A.nat n0)).cellAt 1).toI,Zah (Zah (A.le 0 n0) (Nat.blt (A.nat n0) (A.lenA l))) true,Zah (Zah (A.le 0 n0) (Nat.blt (A.nat n0) (A.lenA l))) true,!A.not (Zab ((A.nthA l (A.nat n0)).cellAt 2).toI 0 1000000000000),Zah (Zah (A.le 0 n0) (Nat.blt (A.nat n0) (A.lenA l))) true,!A.not (Zab ((A.nthA l (A.nat n0)).cellAt 1).toI 0 1000000000000),Zah (Zah (A.le 0 n0) (Nat.blt (A.nat n0) (A.lenA l))) true,!A.not (Zab ((A.nthA l (A.nat n0)).cellAt 0).toI 0 (A.sub (A.int (A.lenA ks)) 1)),A.inR .i64 (A.sub (A.int (A.lenA ks)) 1),Zah (Zah (A.le 0 n0) (Nat.blt (A.nat n0) (A.lenA l))) true,A.lt n0 (A.int (A.lenA l))],
  Zh2 (ms) (ks) (rs) (l) (A.add n0 1)):=by kernel_rfl
theorem ZCT(A:Ar)(ms ks rs l:List AV)(n0:Int):ZaX A tab B3 17 [false] 76 (ZbM ms ks rs l n0) (Zbs ms ks rs l n0)=
 some (tr [3,4] [!A.lt n0 (A.int (A.lenA l))],
  AV.tup [AV.int .i64 0,AV.int .i64 0],none):=by kernel_rfl
end Go.Proofs.YtkeoeooghhjibaaGreatDoor
/- CheckModel of the program. No condition. -/
namespace Go.Proofs.YtkeoeooghhjibaaGreatDoor
def Zbh(p i e:Int):AV:=.tup [.agg (.gen [.int .i64 p, .int .i64 i]), .int .i64 e]
def Zcz(nm:List UInt8)(ex:Int)(xs:List AV):Int:=Zaf [Zaa (ZaT nm) 4,Zaa (!std.hasS xs nm) 5,ex]
def Zcf(a b:Bool):Int:=Zaf [Zaa a 10,Zaa b 8]
def Zbj(nm:Nat→List UInt8)(ex:Nat→Int):Nat→Nat→List AV→Option (Nat×Int)
 |0,_,_=>none
 |m+1,k,xs=>if Zcz (nm k) (ex k) xs=0 then Zbj nm ex m (k+1) (xs++[.str (nm k)])else some (k,Zcz (nm k) (ex k) xs)
def Zbz(p:Int)(o:Option (Nat×Int))(d:AV):AV:=match o with |some (k,e)=>Zbh p k e |none=>d
def Zos(ms ks rs:List AV):AV:=Zbz 3 (Zbj (fun k=>ZaA rs k) (fun k=>ZbO rs k ks.length ms.length) rs.length 0 []) (Zbh 0 0 0)
def Zm7(ms ks rs:List AV):AV:=Zbz 2 (Zbj (fun k=>ZaA ks k) (fun k=>ZcA ks k ms.length) ks.length 0 []) (if Zcf (decide (0≤(rs.length:Int))) (decide ((rs.length:Int)≤10))=0 then Zos ms ks rs else Zbh 3 0 (Zcf (decide (0≤(rs.length:Int))) (decide ((rs.length:Int)≤10))))
def ZrW(ms ks rs:List AV):AV:=Zbz 1 (Zbj (fun k=>Za7 ms k) (fun _=>0) ms.length 0 []) (if Zcf (decide (1≤(ks.length:Int))) (decide ((ks.length:Int)≤8))=0 then Zm7 ms ks rs else Zbh 2 0 (Zcf (decide (1≤(ks.length:Int))) (decide ((ks.length:Int)≤8))))
def Zd1(ms ks rs:List AV):AV:=if Zcf (decide (1≤(ms.length:Int))) (decide ((ms.length:Int)≤6))=0 then ZrW ms ks rs else Zbh 1 0 (Zcf (decide (1≤(ms.length:Int))) (decide ((ms.length:Int)≤6)))
def Zay(ms ks rs:List AV):Bool:=(ms.all fun x=>decide (x.toS.length≤1000000))&&(ks.all fun x=>decide ((x.cellAt 0).toS.length≤1000000))&&(rs.all fun x=>decide ((x.cellAt 0).toS.length≤1000000))&&decide (ms.length≤1000000∧ks.length≤1000000∧rs.length≤1000000)
theorem Zo3{xs:List AV}{k:Nat}(h:k<xs.length):xs.getD k .top∈xs:=by
 rw[List.getD_eq_getElem?_getD,List.getElem?_eq_getElem h];exact List.getElem_mem h
theorem Zb3{ks:List AV}(h:(ks.all fun x=>decide ((x.cellAt 0).toS.length≤1000000))=true){k:Nat}(hk:k<ks.length):(ZaA ks k).length≤1000000:=by
 have:=List.all_eq_true.1 h _ (Zo3 hk)
 simpa[ZaA]using this
theorem ZhW{ks:List AV}(h:(ks.all fun x=>decide (x.toS.length≤1000000))=true){k:Nat}(hk:k<ks.length):(Za7 ks k).length≤1000000:=by
 have:=List.all_eq_true.1 h _ (Zo3 hk)
 simpa[Za7]using this
theorem ZsJ{a b c:Int}(h:Zaf [a,b,c]=0):a=0∧b=0∧c=0:=by
 simp only[Zaf]at h
 by_cases h1:a=0
 ·by_cases h2:b=0
  ·by_cases h3:c=0
   ·exact⟨h1,h2,h3⟩
   ·simp[h1,h2,h3]at h
  ·simp[h1,h2]at h
 ·simp[h1]at h
theorem Zja{nm:List UInt8}{ex:Int}{xs:List AV}(h:Zcz nm ex xs=0):std.hasS xs nm=false:=by
 have:=(ZsJ h).2.1
 unfold Zaa at this
 split at this
 ·rename_i e;simpa using e
 ·cases this
theorem bx3(x y z:Int):([AV.int .i64 x,AV.int .i64 y,AV.int .i64 z].all fun x=>AV.bx x&&Nat.beq (Zad std x) 1)=true:=rfl
theorem bx2(x y:Int):([AV.int .i64 x,AV.int .i64 y].all fun x=>AV.bx x&&Nat.beq (Zad std x) 1)=true:=rfl
section
variable {C:Ctx}(hC:C.P=Tryz.prog)(ms ks rs:List AV)(hs:Zay ms ks rs=true)
include hC hs
theorem Zz1(n1:Int):∀(m k:Nat) (xs:List AV),k+m=rs.length→Ev C (Zcc ms ks rs n1 ms.length ks.length rs.length rs.length k xs) (ZbS ms ks rs n1 ms.length ks.length rs.length rs.length k xs)
 (Zco 136 (Zbz 3 (Zbj (fun k=>ZaA rs k) (fun k=>ZbO rs k ks.length ms.length) m k xs) (Zbh 0 0 0)) none)
 |0,k,xs,hk=>fin hC Za8 (Zty std ms ks rs n1 ms.length ks.length rs.length rs.length k xs) (by simp;omega) rfl rfl
 |m+1,k,xs,hk=>by
  simp only[Zay,Bool.and_eq_true,decide_eq_true_eq]at hs
  have hn:=Zb3 hs.1.2 (show k<rs.length by omega)
  by_cases h:Zcz (ZaA rs k) (ZbO rs k ks.length ms.length) xs=0
  ·have hnew:=Zja h
   have h':=h
   unfold Zcz at h'
   refine go hC Za8 (ZuY std ms ks rs n1 ms.length ks.length rs.length rs.length k xs) (by simp only[bx3];simp[-Zdj,hnew,hn];simp[-Zdj,hnew]at h';simp[h'];omega) ?_
   have:=Zz1 n1 m (k+1) (xs++[.str (ZaA rs k)]) (by omega)
   rw[Zbj,if_pos h]
   exact this
  ·have h':=h
   unfold Zcz at h'
   rw[Zbj,if_neg h]
   exact fin hC Za8 (ZtH std ms ks rs n1 ms.length ks.length rs.length rs.length k xs) (by simp only[bx3];simp[-Zdj,hn,h'];omega) rfl rfl
theorem ZyE(n1:Int):∀(m k:Nat) (xs:List AV),k+m=ks.length→Ev C (ZbD ms ks rs n1 ms.length ks.length k xs) (Zbr ms ks rs n1 ms.length ks.length k xs)
 (Zco 136 (Zbz 2 (Zbj (fun k=>ZaA ks k) (fun k=>ZcA ks k ms.length) m k xs) (if Zcf (decide (0≤(rs.length:Int))) (decide ((rs.length:Int)≤10))=0 then Zos ms ks rs else Zbh 3 0 (Zcf (decide (0≤(rs.length:Int))) (decide ((rs.length:Int)≤10))))) none)
 |0,k,xs,hk=>by
  by_cases h:Zcf (decide (0≤(rs.length:Int))) (decide ((rs.length:Int)≤10))=0
  ·have h':=h
   unfold Zcf at h'
   rw[if_pos h]
   refine go hC Za8 (ZAa std ms ks rs n1 ms.length ks.length k xs) (by simp only[bx2,Zs4,ZiG,Zcn,h'];simp;omega) ?_
   exact Zz1 hC ms ks rs hs n1 rs.length 0 [] (by omega)
  ·have h':=h
   unfold Zcf at h'
   rw[if_neg h]
   exact fin hC Za8 (ZBF std ms ks rs n1 ms.length ks.length k xs) (by simp only[bx2,Zyq,Zs4,ZiG,Zcn,h'];simp;omega) rfl rfl
 |m+1,k,xs,hk=>by
  have hs':=hs
  simp only[Zay,Bool.and_eq_true,decide_eq_true_eq]at hs'
  have hn:=Zb3 hs'.1.1.2 (show k<ks.length by omega)
  by_cases h:Zcz (ZaA ks k) (ZcA ks k ms.length) xs=0
  ·have hnew:=Zja h
   have h':=h
   unfold Zcz at h'
   refine go hC Za8 (Zzu std ms ks rs n1 ms.length ks.length k xs) (by simp only[bx3];simp[-Zdj,hnew,hn];simp[-Zdj,hnew]at h';simp[h'];omega) ?_
   have:=ZyE n1 m (k+1) (xs++[.str (ZaA ks k)]) (by omega)
   rw[Zbj,if_pos h]
   exact this
  ·have h':=h
   unfold Zcz at h'
   rw[Zbj,if_neg h]
   exact fin hC Za8 (ZAm std ms ks rs n1 ms.length ks.length k xs) (by simp only[bx3];simp[-Zdj,hn,h'];omega) rfl rfl
theorem ZBW(n1:Int):∀(m k:Nat) (xs:List AV),k+m=ms.length→Ev C (ZbA ms ks rs ms.length n1 ms.length ks.length k xs) (Zbw ms ks rs ms.length n1 ms.length ks.length k xs)
 (Zco 136 (Zbz 1 (Zbj (fun k=>Za7 ms k) (fun _=>0) m k xs) (if Zcf (decide (1≤(ks.length:Int))) (decide ((ks.length:Int)≤8))=0 then Zm7 ms ks rs else Zbh 2 0 (Zcf (decide (1≤(ks.length:Int))) (decide ((ks.length:Int)≤8))))) none)
 |0,k,xs,hk=>by
  by_cases h:Zcf (decide (1≤(ks.length:Int))) (decide ((ks.length:Int)≤8))=0
  ·have h':=h
   unfold Zcf at h'
   rw[if_pos h]
   refine go hC Za8 (Zzz std ms ks rs ms.length n1 ms.length ks.length k xs) (by simp only[bx2,Zs4,ZiG,Zcn,h'];simp;omega) ?_
   exact ZyE hC ms ks rs hs n1 ks.length 0 [] (by omega)
  ·have h':=h
   unfold Zcf at h'
   rw[if_neg h]
   exact fin hC Za8 (Zyh std ms ks rs ms.length n1 ms.length ks.length k xs) (by simp only[bx2,Zyq,Zs4,ZiG,Zcn,h'];simp;omega) rfl rfl
 |m+1,k,xs,hk=>by
  have hs':=hs
  simp only[Zay,Bool.and_eq_true,decide_eq_true_eq]at hs'
  have hn:=ZhW hs'.1.1.1 (show k<ms.length by omega)
  by_cases h:Zcz (Za7 ms k) 0 xs=0
  ·have hnew:=Zja h
   have h':=h
   unfold Zcz at h'
   refine go hC Za8 (ZyR std ms ks rs ms.length n1 ms.length ks.length k xs) (by simp only[bx3];simp[-Zdj,hnew,hn];simp[-Zdj,hnew]at h';simp[h'];omega) ?_
   have:=ZBW n1 m (k+1) (xs++[.str (Za7 ms k)]) (by omega)
   rw[Zbj,if_pos h]
   exact this
  ·have h':=h
   unfold Zcz at h'
   rw[Zbj,if_neg h]
   exact fin hC Za8 (ZAE std ms ks rs ms.length n1 ms.length ks.length k xs) (by simp only[bx3];simp[-Zdj,hn,h'];omega) rfl rfl
end
theorem Zo5(ms ks rs:List AV)(hs:Zay ms ks rs=true):Zap Tryz.prog 136 [.agg (.gen [.list (.big .str ms), .list (.big (.agg [.str, .int .i64]) ks), .list (.big (.agg [.str, .int .i64, .int .i64, .int .i64, .int .i64]) rs)])] (Zd1 ms ks rs) none:=
 start (ZqD ms ks rs) fun C hC=>by
  by_cases h:Zcf (decide (1≤(ms.length:Int))) (decide ((ms.length:Int)≤6))=0
  ·have h':=h
   unfold Zcf at h'
   rw[Zd1,if_pos h]
   refine go hC Za8 (ZBD std ms ks rs) (by simp only[bx2,Zs4,ZiG,Zcn,h'];simp) ?_
   exact ZBW hC ms ks rs hs ms.length ms.length 0 [] (by omega)
  ·have h':=h
   unfold Zcf at h'
   rw[Zd1,if_neg h]
   exact fin hC Za8 (Zx8 std ms ks rs) (by simp only[bx2,Zyq,Zs4,ZiG,Zcn,h'];simp) rfl rfl
end Go.Proofs.YtkeoeooghhjibaaGreatDoor
/- Contracts as a list. No condition. -/
namespace Go.Proofs.YtkeoeooghhjibaaGreatDoor
theorem ZpF(s:List UInt8):Zap Tryz.prog 151 [.nils, .str s] (.bool false) none:=
 start (ZpR s) fun C hC=>go hC Za8 (Zvc std s) (by simp) (fin hC Za8 (ZtP std s) (by simp) rfl rfl)
theorem ZnX(n:Int):Zap Tryz.prog 89 [.int .i64 n] (.bool (Zab n 0 1000000000000)) none:=
 start (ZwZ n) fun C hC=>fin hC Za8 (ZEK std n) (by simp) rfl rfl
def mP:AV→Int
 | .tup [.agg (.gen [.int _ p,_]),_]=>p
 |_=>0
def mI:AV→Int
 | .tup [.agg (.gen [_, .int _ i]),_]=>i
 |_=>0
def mE:AV→Int
 | .tup [_, .int _ e]=>e
 |_=>0
def isM(v:AV):Prop:=∃p i e,v=Zbh p i e
theorem isM.eq{v:AV}(h:isM v):v=Zbh (mP v) (mI v) (mE v):=by
 obtain⟨p,i,e,rfl⟩:=h
 rfl
theorem isM.scan{p:Int}{o:Option (Nat×Int)}{d:AV}(h:isM d):isM (Zbz p o d):=by
 unfold Zbz
 split
 ·exact⟨_,_,_,rfl⟩
 ·exact h
theorem isM.ite{c:Prop}[Decidable c]{a b:AV}(ha:isM a)(hb:isM b):isM (if c then a else b):=by
 split
 ·exact ha
 ·exact hb
theorem Zgg(p i e:Int):isM (Zbh p i e):=⟨_,_,_,rfl⟩
theorem Zj4(ms ks rs:List AV):isM (Zd1 ms ks rs):=
 .ite (.scan (.ite (.scan (.ite (.scan (Zgg _ _ _)) (Zgg _ _ _))) (Zgg _ _ _))) (Zgg _ _ _)
def Zke(ms ks rs:List AV):Int:=mP (Zd1 ms ks rs)
def ZjK(ms ks rs:List AV):Int:=mI (Zd1 ms ks rs)
def Zaz(ms ks rs:List AV):Int:=mE (Zd1 ms ks rs)
theorem Zm4(ms ks rs:List AV)(hs:Zay ms ks rs=true):Zap Tryz.prog 136 [.agg (.gen [.list (.big .str ms), .list (.big (.agg [.str, .int .i64]) ks), .list (.big (.agg [.str, .int .i64, .int .i64, .int .i64, .int .i64]) rs)])] (.tup [.agg (.gen [.int .i64 (Zke ms ks rs), .int .i64 (ZjK ms ks rs)]), .int .i64 (Zaz ms ks rs)]) none:=by
 have:=Zo5 ms ks rs hs
 rw[(Zj4 ms ks rs).eq]at this
 exact this
def k151n:Ctr:=⟨151,0,fun _ a=>match a with |[.nils, .str _]=>some (true, .bool false,none) |_=>none⟩
theorem Zqe:k151n.OK Tryz.prog:=fun pa args r fr h=>by
 simp only[k151n]at h
 split at h
 ·cases h
  exact ZpF _
 ·cases h
def k89:Ctr:=⟨89,0,fun _ a=>match a with |[.int .i64 n]=>some (true, .bool (Zab n 0 1000000000000),none) |_=>none⟩
theorem ZzJ:k89.OK Tryz.prog:=fun pa args r fr h=>by
 simp only[k89]at h
 split at h
 ·cases h
  exact ZnX _
 ·cases h
def k136:Ctr:=⟨136,0,fun _ a=>match a with |[.agg (.gen [.list (.big .str ms), .list (.big (.agg [.str, .int .i64]) ks), .list (.big (.agg [.str, .int .i64, .int .i64, .int .i64, .int .i64]) rs)])]=>some (decide (Zay ms ks rs=true), .tup [.agg (.gen [.int .i64 (Zke ms ks rs), .int .i64 (ZjK ms ks rs)]), .int .i64 (Zaz ms ks rs)],none) |_=>none⟩
theorem Ztq:k136.OK Tryz.prog:=fun pa args r fr h=>by
 simp only[k136]at h
 split at h
 ·simp only[Option.some.injEq,Prod.mk.injEq,decide_eq_true_eq]at h
  obtain⟨h0,rfl,rfl⟩:=h
  exact Zm4 _ _ _ h0
 ·cases h
def B4:List Ctr:=[k151n,k89,k136]++B3
theorem ZqI:ZaE Tryz.prog B4:=⟨Zqe,⟨ZzJ,⟨Ztq,Za8⟩⟩⟩
end Go.Proofs.YtkeoeooghhjibaaGreatDoor
/- Paths of functions, printed by the explorer (Gx). No condition. -/
namespace Go.Proofs.YtkeoeooghhjibaaGreatDoor
set_option maxRecDepth 100000
set_option linter.unusedVariables false
def ZAC(ms ks rs:List AV):AFrame:={ fn:=88,N:=11,env:=[(0,AV.agg (Row.gen [.list (Row.big .str ms), .list (Row.big (.agg [.str, .int .i64]) ks), .list (Row.big (.agg [.str, .int .i64, .int .i64, .int .i64, .int .i64]) rs)]))],todo:=[.code a88.code],defs:=[],rnd:=none,ret:=false,res:=[ARes.tmp 2] }
def ZHs(ms ks rs:List AV):List AFrame:=[(ZAC ms ks rs)]
theorem Zwj(ms ks rs:List AV):Zat tab 88 [AV.agg (Row.gen [.list (Row.big .str ms), .list (Row.big (.agg [.str, .int .i64]) ks), .list (Row.big (.agg [.str, .int .i64, .int .i64, .int .i64, .int .i64]) rs)])]=some (ZAC ms ks rs):=rfl
theorem ZCG(A:Ar)(ms ks rs:List AV):ZaX A tab B4 23 [] 88 (ZHs ms ks rs) []=
 some (tr [9,3] [decide (Zay ms ks rs=true)],
  AV.int .i64 (Zaz ms ks rs),none):=by kernel_rfl
def ZsS(ms ks rs:List AV)(k lo hi:Int):AFrame:={ fn:=120,N:=34,env:=[(0,AV.agg (Row.gen [.list (Row.big .str ms), .list (Row.big (.agg [.str, .int .i64]) ks), .list (Row.big (.agg [.str, .int .i64, .int .i64, .int .i64, .int .i64]) rs)])),(1,AV.agg (Row.gen [.int .i64 k, .int .i64 lo, .int .i64 hi]))],todo:=[.code a120.code],defs:=[],rnd:=none,ret:=false,res:=[ARes.tmp 4] }
def Zzr(ms ks rs:List AV)(k lo hi:Int):List AFrame:=[(ZsS ms ks rs k lo hi)]
theorem Zrn(ms ks rs:List AV)(k lo hi:Int):Zat tab 120 [AV.agg (Row.gen [.list (Row.big .str ms), .list (Row.big (.agg [.str, .int .i64]) ks), .list (Row.big (.agg [.str, .int .i64, .int .i64, .int .i64, .int .i64]) rs)]),AV.agg (Row.gen [.int .i64 k, .int .i64 lo, .int .i64 hi])]=some (ZsS ms ks rs k lo hi):=rfl
theorem ZzM(A:Ar)(ms ks rs:List AV)(k lo hi:Int):ZaX A tab B4 10 [true] 120 (Zzr ms ks rs k lo hi) []=
 some (tr [2,0,14,7,8] [decide (List.length [Zaa (Zab k 0 (A.sub (A.int (A.lenA ks)) 1)) 15,Zaa (Zab hi 0 1000000000000) 2,Zaa (A.le lo hi) 9]≤1000000),List.all [AV.int .i64 (Zaa (Zab k 0 (A.sub (A.int (A.lenA ks)) 1)) 15),AV.int .i64 (Zaa (Zab hi 0 1000000000000) 2),AV.int .i64 (Zaa (A.le lo hi) 9)] fun x=>AV.bx x&&Nat.beq (Zad A x) 1,Zab lo 0 1000000000000,A.inR .i64 (A.sub (A.int (A.lenA ks)) 1)],
  AV.int .i64 (Zaf [Zaa (Zab k 0 (A.sub (A.int (A.lenA ks)) 1)) 15,Zaa (Zab hi 0 1000000000000) 2,Zaa (A.le lo hi) 9]),none):=by kernel_rfl
theorem ZzD(A:Ar)(ms ks rs:List AV)(k lo hi:Int):ZaX A tab B4 10 [false] 120 (Zzr ms ks rs k lo hi) []=
 some (tr [2,0,14,7,8] [decide (List.length [Zaa (Zab k 0 (A.sub (A.int (A.lenA ks)) 1)) 15,2,Zaa (A.le lo hi) 9]≤1000000),List.all [AV.int .i64 (Zaa (Zab k 0 (A.sub (A.int (A.lenA ks)) 1)) 15),AV.int .i64 2,AV.int .i64 (Zaa (A.le lo hi) 9)] fun x=>AV.bx x&&Nat.beq (Zad A x) 1,!Zab lo 0 1000000000000,A.inR .i64 (A.sub (A.int (A.lenA ks)) 1)],
  AV.int .i64 (Zaf [Zaa (Zab k 0 (A.sub (A.int (A.lenA ks)) 1)) 15,2,Zaa (A.le lo hi) 9]),none):=by kernel_rfl
end Go.Proofs.YtkeoeooghhjibaaGreatDoor
/- Contracts as a list. No condition. -/
namespace Go.Proofs.YtkeoeooghhjibaaGreatDoor
def Zmb(n k lo hi:Int):Int:=Zaf [Zaa (Zab k 0 (n-1)) 15,Zaa (Zab lo 0 1000000000000&&Zab hi 0 1000000000000) 2,Zaa (decide (lo≤hi)) 9]
theorem ZqW(ms ks rs:List AV)(h:Zay ms ks rs=true):Zap Tryz.prog 88 [.agg (.gen [.list (.big .str ms), .list (.big (.agg [.str, .int .i64]) ks), .list (.big (.agg [.str, .int .i64, .int .i64, .int .i64, .int .i64]) rs)])] (.int .i64 (Zaz ms ks rs)) none:=
 start (Zwj ms ks rs) fun C hC=>fin hC ZqI (ZCG std ms ks rs) (by simp[h]) rfl rfl
theorem Zq5(ms ks rs:List AV)(k lo hi:Int)(h:ks.length≤1000000):Zap Tryz.prog 120 [.agg (.gen [.list (.big .str ms), .list (.big (.agg [.str, .int .i64]) ks), .list (.big (.agg [.str, .int .i64, .int .i64, .int .i64, .int .i64]) rs)]), .agg (.gen [.int .i64 k, .int .i64 lo, .int .i64 hi])] (.int .i64 (Zmb ks.length k lo hi)) none:=
 start (Zrn ms ks rs k lo hi) fun C hC=>by
  by_cases h1:Zab lo 0 1000000000000=true
  ·exact fin hC ZqI (ZzM std ms ks rs k lo hi) (by simp only[bx3];simp[h1];omega) (by simp[Zmb,h1]) rfl
  ·exact fin hC ZqI (ZzD std ms ks rs k lo hi) (by simp only[bx3];simp[h1];omega) (by unfold Zmb;rw[(by simpa using h1:Zab lo 0 1000000000000=false)];rfl) rfl
def k88:Ctr:=⟨88,0,fun _ a=>match a with |[.agg (.gen [.list (.big .str ms), .list (.big (.agg [.str, .int .i64]) ks), .list (.big (.agg [.str, .int .i64, .int .i64, .int .i64, .int .i64]) rs)])]=>some (decide (Zay ms ks rs=true), .int .i64 (Zaz ms ks rs),none) |_=>none⟩
theorem ZyS:k88.OK Tryz.prog:=fun pa args r fr h=>by
 simp only[k88]at h
 split at h
 ·simp only[Option.some.injEq,Prod.mk.injEq,decide_eq_true_eq]at h
  obtain⟨h0,rfl,rfl⟩:=h
  exact ZqW _ _ _ h0
 ·cases h
def k120:Ctr:=⟨120,0,fun _ a=>match a with |[.agg (.gen [.list (.big .str _), .list (.big (.agg [.str, .int .i64]) ks), .list (.big (.agg [.str, .int .i64, .int .i64, .int .i64, .int .i64]) _)]), .agg (.gen [.int .i64 k, .int .i64 lo, .int .i64 hi])]=>some (decide (ks.length≤1000000), .int .i64 (Zmb ks.length k lo hi),none) |_=>none⟩
theorem ZvZ:k120.OK Tryz.prog:=fun pa args r fr h=>by
 simp only[k120]at h
 split at h
 ·simp only[Option.some.injEq,Prod.mk.injEq,decide_eq_true_eq]at h
  obtain⟨h0,rfl,rfl⟩:=h
  exact Zq5 _ _ _ _ _ _ h0
 ·cases h
def B5:List Ctr:=[k88,k120]++B4
theorem ZgY:ZaE Tryz.prog B5:=⟨ZyS,⟨ZvZ,ZqI⟩⟩
end Go.Proofs.YtkeoeooghhjibaaGreatDoor
/- Paths of functions, printed by the explorer (Gx). No condition. -/
namespace Go.Proofs.YtkeoeooghhjibaaGreatDoor
set_option maxRecDepth 100000
set_option linter.unusedVariables false
def ZxE(ms ks rs l:List AV):AFrame:={ fn:=71,N:=40,env:=[(0,AV.agg (Row.gen [.list (Row.big .str ms), .list (Row.big (.agg [.str, .int .i64]) ks), .list (Row.big (.agg [.str, .int .i64, .int .i64, .int .i64, .int .i64]) rs)])),(1,AV.list (Row.big (.agg [.int .i64, .int .i64, .int .i64]) l))],todo:=[.code a71.code],defs:=[],rnd:=none,ret:=false,res:=[ARes.tmp 4,ARes.tmp 5] }
def ZE9(ms ks rs l:List AV):List AFrame:=[(ZxE ms ks rs l)]
theorem ZwW(ms ks rs l:List AV):Zat tab 71 [AV.agg (Row.gen [.list (Row.big .str ms), .list (Row.big (.agg [.str, .int .i64]) ks), .list (Row.big (.agg [.str, .int .i64, .int .i64, .int .i64, .int .i64]) rs)]),AV.list (Row.big (.agg [.int .i64, .int .i64, .int .i64]) l)]=some (ZxE ms ks rs l):=rfl
def Zdx(ms ks rs l:List AV)(n0 n1:Int):List AFrame:=[{ fn:=71,N:=40,env:=[(2,AV.ptr 71003 0 0 0),(25,AV.list (Row.big (.agg [.int .i64, .int .i64, .int .i64]) l)),(26,AV.int .i64 n0),(27,AV.int .i64 n1)],todo:=.code (ACode.gh [] ZxS)::ZDF,defs:=[],rnd:=none,ret:=false,res:=[ARes.tmp 4,ARes.tmp 5] }]
def ZcR(ms ks rs l:List AV)(n0 n1:Int):Zac:=[(71003,{ base:=0,blks:=[Blk.row 26 3 (Row.gen [AV.agg (Row.gen [AV.list (Row.big .str ms),AV.list (Row.big (.agg [.str, .int .i64]) ks),AV.list (Row.big (.agg [.str, .int .i64, .int .i64, .int .i64, .int .i64]) rs)])])] })]
abbrev Zh8(ms ks rs l:List AV)(n0 n1:Int):List AFrame×Zac:=(Zdx ms ks rs l n0 n1,ZcR ms ks rs l n0 n1)
theorem ZDR(A:Ar)(ms ks rs l:List AV):ZaX A tab B5 37 [true] 71 (ZE9 ms ks rs l) []=
 some (tr [4,3,0,8,4] [A.not (A.eq (Zaf [Zaz ms ks rs,Zaa (A.lt 0 (A.int (A.lenA l))) 10,Zaa (A.le (A.int (A.lenA l)) 12) 8]) 0),decide (List.length [Zaz ms ks rs,Zaa (A.lt 0 (A.int (A.lenA l))) 10,Zaa (A.le (A.int (A.lenA l)) 12) 8]≤1000000),List.all [AV.int .i64 (Zaz ms ks rs),AV.int .i64 (Zaa (A.lt 0 (A.int (A.lenA l))) 10),AV.int .i64 (Zaa (A.le (A.int (A.lenA l)) 12) 8)] fun x=>AV.bx x&&Nat.beq (Zad A x) 1,decide (Zay ms ks rs=true)],
  AV.tup [AV.int .i64 0,AV.int .i64 (Zaf [Zaz ms ks rs,Zaa (A.lt 0 (A.int (A.lenA l))) 10,Zaa (A.le (A.int (A.lenA l)) 12) 8])],none):=by kernel_rfl
theorem ZEa(A:Ar)(ms ks rs l:List AV):ZaC A tab B5 41 [false] (ZE9 ms ks rs l) []=
 some (tr [3,3,0,8,4] [!A.not (A.eq (Zaf [Zaz ms ks rs,Zaa (A.lt 0 (A.int (A.lenA l))) 10,Zaa (A.le (A.int (A.lenA l)) 12) 8]) 0),decide (List.length [Zaz ms ks rs,Zaa (A.lt 0 (A.int (A.lenA l))) 10,Zaa (A.le (A.int (A.lenA l)) 12) 8]≤1000000),List.all [AV.int .i64 (Zaz ms ks rs),AV.int .i64 (Zaa (A.lt 0 (A.int (A.lenA l))) 10),AV.int .i64 (Zaa (A.le (A.int (A.lenA l)) 12) 8)] fun x=>AV.bx x&&Nat.beq (Zad A x) 1,decide (Zay ms ks rs=true)],
  Zh8 (ms) (ks) (rs) (l) (A.int (A.lenA l)) (0)):=by kernel_rfl
theorem ZED(A:Ar)(ms ks rs l:List AV)(n0 n1:Int):ZaX A tab B5 40 [true,true] 71 (Zdx ms ks rs l n0 n1) (ZcR ms ks rs l n0 n1)=
 some (tr [5,3,6,1,1] [A.not (A.eq (Zmb (↑(List.length ks)) ((A.nthA l (A.nat n1)).cellAt 0).toI ((A.nthA l (A.nat n1)).cellAt 1).toI ((A.nthA l (A.nat n1)).cellAt 2).toI) 0),decide (List.length ks≤1000000),Zah (Zah (A.le 0 n1) (Nat.blt (A.nat n1) (A.lenA l))) true,A.lt n1 n0],
  AV.tup [AV.int .i64 n1,AV.int .i64 (Zmb (↑(List.length ks)) ((A.nthA l (A.nat n1)).cellAt 0).toI ((A.nthA l (A.nat n1)).cellAt 1).toI ((A.nthA l (A.nat n1)).cellAt 2).toI)],none):=by kernel_rfl
theorem ZD0(A:Ar)(ms ks rs l:List AV)(n0 n1:Int):ZaC A tab B5 40 [true,false] (Zdx ms ks rs l n0 n1) (ZcR ms ks rs l n0 n1)=
 some (tr [1,0,3,6,1,1] [A.inR .i64 (A.add n1 1),!A.not (A.eq (Zmb (↑(List.length ks)) ((A.nthA l (A.nat n1)).cellAt 0).toI ((A.nthA l (A.nat n1)).cellAt 1).toI ((A.nthA l (A.nat n1)).cellAt 2).toI) 0),decide (List.length ks≤1000000),Zah (Zah (A.le 0 n1) (Nat.blt (A.nat n1) (A.lenA l))) true,A.lt n1 n0],
  Zh8 (ms) (ks) (rs) (l) (n0) (A.add n1 1)):=by kernel_rfl
theorem ZD8(A:Ar)(ms ks rs l:List AV)(n0 n1:Int):ZaX A tab B5 14 [false] 71 (Zdx ms ks rs l n0 n1) (ZcR ms ks rs l n0 n1)=
 some (tr [3,1] [!A.lt n1 n0],
  AV.tup [AV.int .i64 0,AV.int .i64 0],none):=by kernel_rfl
end Go.Proofs.YtkeoeooghhjibaaGreatDoor
/- CheckFile of the program. No condition. -/
namespace Go.Proofs.YtkeoeooghhjibaaGreatDoor
def Zlf(i e:Int):AV:=.tup [.int .i64 i, .int .i64 e]
def Zfw(f:Nat→Int):Nat→Nat→AV
 |0,_=>Zlf 0 0
 |m+1,k=>if f k=0 then Zfw f m (k+1)else Zlf k (f k)
def Zhq(n:Int)(l:List AV)(k:Nat):Int:=Zmb n (Zak l k 0) (Zak l k 1) (Zak l k 2)
def Zf4(e:Int)(l:List AV):Int:=Zaf [e,Zaa (decide (0<(l.length:Int))) 10,Zaa (decide ((l.length:Int)≤12)) 8]
def ZeC(e n:Int)(l:List AV):AV:=if Zf4 e l=0 then Zfw (Zhq n l) l.length 0 else Zlf 0 (Zf4 e l)
theorem ZhB{C:Ctx}(hC:C.P=Tryz.prog)(ms ks rs l:List AV)(hk:ks.length≤1000000)(hl:l.length≤1000000):∀(m k:Nat),k+m=l.length→Ev C (Zdx ms ks rs l l.length k) (ZcR ms ks rs l l.length k) (Zco 71 (Zfw (Zhq ks.length l) m k) none)
 |0,k,h=>fin hC ZgY (ZD8 std ms ks rs l l.length k) (by simp;omega) rfl rfl
 |m+1,k,h=>by
  by_cases h1:Zhq ks.length l k=0
  ·have h2:=h1
   unfold Zhq Zak at h2
   refine go hC ZgY (ZD0 std ms ks rs l l.length k) (by simp[-List.getD_eq_getElem?_getD]at h2 ⊢;simp[-List.getD_eq_getElem?_getD,h2];omega) ?_
   rw[Zfw,if_pos h1]
   exact ZhB hC ms ks rs l hk hl m (k+1) (by omega)
  ·have h2:=h1
   unfold Zhq Zak at h2
   rw[Zfw,if_neg h1]
   exact fin hC ZgY (ZED std ms ks rs l l.length k) (by simp[-List.getD_eq_getElem?_getD]at h2 ⊢;simp[-List.getD_eq_getElem?_getD,h2];omega) rfl rfl
theorem ZrK(ms ks rs l:List AV)(hs:Zay ms ks rs=true)(hl:l.length≤1000000):Zap Tryz.prog 71 [.agg (.gen [.list (.big .str ms), .list (.big (.agg [.str, .int .i64]) ks), .list (.big (.agg [.str, .int .i64, .int .i64, .int .i64, .int .i64]) rs)]), .list (.big (.agg [.int .i64, .int .i64, .int .i64]) l)] (ZeC (Zaz ms ks rs) ks.length l) none:=
 start (ZwW ms ks rs l) fun C hC=>by
  have hk:ks.length≤1000000:=by
   simp only[Zay,Bool.and_eq_true,decide_eq_true_eq]at hs
   exact hs.2.2.1
  by_cases h:Zf4 (Zaz ms ks rs) l=0
  ·have h':=h
   unfold Zf4 at h'
   rw[ZeC,if_pos h]
   refine go hC ZgY (ZEa std ms ks rs l) (by simp only[bx3,Zs4,ZFg,ZiG,Zcn,h'];simp[hs]) ?_
   exact ZhB hC ms ks rs l hk hl l.length 0 (by omega)
  ·have h':=h
   unfold Zf4 at h'
   rw[ZeC,if_neg h]
   exact fin hC ZgY (ZDR std ms ks rs l) (by simp only[bx3,Zyq,Zs4,ZFg,ZiG,Zcn,h'];simp[hs]) rfl rfl
end Go.Proofs.YtkeoeooghhjibaaGreatDoor
/- CheckFile of the reference. No condition. -/
namespace Go.Proofs.YtkeoeooghhjibaaGreatDoor
theorem Zga{f:Nat→Int}{m k:Nat}{v:Int}(h:f k=v)(hv:v≠0):Zfw f (m+1) k=Zlf k v:=by
 rw[Zfw,if_neg (by rw[h];exact hv),h]
theorem Zgz{C:Ctx}(hC:C.P=Tryz.prog)(ms ks rs l:List AV)(hk:ks.length≤1000000)(hl:l.length≤1000000):∀(m k:Nat),k+m=l.length→Ev C (ZbM ms ks rs l k) (Zbs ms ks rs l k) (Zco 76 (Zfw (Zhq ks.length l) m k) none)
 |0,k,h=>fin hC Za8 (ZCT std ms ks rs l k) (by simp;omega) rfl rfl
 |m+1,k,h=>by
  have e0:((l.getD k .top).cellAt 0).toI=Zak l k 0:=rfl
  have e1:((l.getD k .top).cellAt 1).toI=Zak l k 1:=rfl
  have e2:((l.getD k .top).cellAt 2).toI=Zak l k 2:=rfl
  by_cases h2:Zab (Zak l k 0) 0 ((ks.length:Int)-1)=true
  ·by_cases h3:Zab (Zak l k 1) 0 1000000000000=true
   ·by_cases h4:Zab (Zak l k 2) 0 1000000000000=true
    ·by_cases h5:Zak l k 2<Zak l k 1
     ·rw[Zga (show Zhq ks.length l k=9 by simp[Zhq,Zmb,Zaf,Zaa,h2,h3,h4];omega) (by decide)]
      exact fin hC Za8 (ZDi std ms ks rs l k) (by simp[-List.getD_eq_getElem?_getD,e0,e1,e2,h2,h3,h4];omega) rfl rfl
     ·refine go hC Za8 (ZDm std ms ks rs l k) (by simp[-List.getD_eq_getElem?_getD,e0,e1,e2,h2,h3,h4];omega) ?_
      rw[Zfw,if_pos (show Zhq ks.length l k=0 by simp[Zhq,Zmb,Zaf,Zaa,h2,h3,h4];omega)]
      exact Zgz hC ms ks rs l hk hl m (k+1) (by omega)
    ·rw[Zga (show Zhq ks.length l k=2 by simp[Zhq,Zmb,Zaf,Zaa,h2,h3,h4]) (by decide)]
     exact fin hC Za8 (ZCP std ms ks rs l k) (by simp[-List.getD_eq_getElem?_getD,e0,e1,e2,h2,h3,h4];omega) rfl rfl
   ·rw[Zga (show Zhq ks.length l k=2 by simp[Zhq,Zmb,Zaf,Zaa,h2,h3]) (by decide)]
    exact fin hC Za8 (ZDf std ms ks rs l k) (by simp[-List.getD_eq_getElem?_getD,e0,e1,e2,h2,h3];omega) rfl rfl
  ·rw[Zga (show Zhq ks.length l k=15 by simp[Zhq,Zmb,Zaf,Zaa,h2]) (by decide)]
   exact fin hC Za8 (ZD2 std ms ks rs l k) (by simp[-List.getD_eq_getElem?_getD,e0,e1,e2,h2];omega) rfl rfl
theorem Zn1(ms ks rs l:List AV)(hk:ks.length≤1000000)(hl:l.length≤1000000):Zap Tryz.prog 76 [.agg (.gen [.list (.big .str ms), .list (.big (.agg [.str, .int .i64]) ks), .list (.big (.agg [.str, .int .i64, .int .i64, .int .i64, .int .i64]) rs)]), .list (.big (.agg [.int .i64, .int .i64, .int .i64]) l)] (ZeC 0 ks.length l) none:=
 start (ZvW ms ks rs l) fun C hC=>by
  by_cases h1:l=[]
  ·have e:Zf4 0 l=10:=by rw[h1];rfl
   rw[ZeC,if_neg (by rw[e];decide),e]
   exact fin hC Za8 (ZCA std ms ks rs l) (by simp[h1]) rfl rfl
  ·have h0:0<l.length:=List.length_pos_iff.2 h1
   by_cases h2:12<l.length
   ·have e:Zf4 0 l=8:=by
     unfold Zf4
     rw[decide_eq_true (show 0<(l.length:Int) by omega),decide_eq_false (show ¬(l.length:Int)≤12 by omega)];rfl
    rw[ZeC,if_neg (by rw[e];decide),e]
    exact fin hC Za8 (ZCQ std ms ks rs l) (by simp[h1];omega) rfl rfl
   ·have e:Zf4 0 l=0:=by
     unfold Zf4
     rw[decide_eq_true (show 0<(l.length:Int) by omega),decide_eq_true (show (l.length:Int)≤12 by omega)];rfl
    rw[ZeC,if_pos e]
    refine go hC Za8 (ZCi std ms ks rs l) (by simp[h1];omega) ?_
    exact Zgz hC ms ks rs l hk hl l.length 0 (by omega)
end Go.Proofs.YtkeoeooghhjibaaGreatDoor
/- Few. No condition. -/
namespace Go.Proofs.YtkeoeooghhjibaaGreatDoor
def ZzH(x:AV):Bool:=decide (x.toS.length≤20)
def ZnL(x:AV):Bool:=decide ((x.cellAt 0).toS.length≤20)
def ZpO(ms ks rs:List AV):Bool:=decide (ms.length≤8∧ks.length≤10∧rs.length≤12)&&(ms.all ZzH&&(ks.all ZnL&&rs.all ZnL))
theorem Zk1{xs:List AV}{k:Nat}(h:k<xs.length):xs.drop k=xs.getD k .top::xs.drop (k+1):=by
 rw[List.drop_eq_getElem_cons h,List.getD_eq_getElem?_getD,List.getElem?_eq_getElem h];rfl
section
variable {C:Ctx}(hC:C.P=Tryz.prog)(ms ks rs:List AV)(hl:ms.length≤8∧ks.length≤10∧rs.length≤12)
include hC hl
theorem ZyQ:∀(m k:Nat),k+m=rs.length→Ev C (ZdB ms ks rs k) (ZcP ms ks rs k) (Zco 23 (.bool ((rs.drop k).all ZnL)) none)
 |0,k,h=>fin hC Za8 (ZxQ std ms ks rs k) (by simp;omega) (by rw[List.drop_of_length_le (by omega)];rfl) rfl
 |m+1,k,h=>by
  rw[Zk1 (show k<rs.length by omega)]
  by_cases h1:((rs.getD k .top).cellAt 0).toS.length≤20
  ·refine go hC Za8 (ZzB std ms ks rs k) (by simp[-List.getD_eq_getElem?_getD];omega) ?_
   rw[List.all_cons,show ZnL (rs.getD k .top)=true from decide_eq_true h1,Bool.true_and]
   exact ZyQ m (k+1) (by omega)
  ·exact fin hC Za8 (ZBG std ms ks rs k) (by simp[-List.getD_eq_getElem?_getD];omega) (by rw[List.all_cons,show ZnL (rs.getD k .top)=false from decide_eq_false h1,Bool.false_and]) rfl
theorem ZBO:∀(m k:Nat),k+m=ks.length→Ev C (Zdu ms ks rs k) (ZcK ms ks rs k) (Zco 23 (.bool ((ks.drop k).all ZnL&&rs.all ZnL)) none)
 |0,k,h=>by
  refine go hC Za8 (ZEE std ms ks rs k) (by simp;omega) ?_
  rw[List.drop_of_length_le (by omega)]
  exact ZyQ hC ms ks rs hl rs.length 0 (by omega)
 |m+1,k,h=>by
  rw[Zk1 (show k<ks.length by omega)]
  by_cases h1:((ks.getD k .top).cellAt 0).toS.length≤20
  ·refine go hC Za8 (ZCv std ms ks rs k) (by simp[-List.getD_eq_getElem?_getD];omega) ?_
   rw[List.all_cons,show ZnL (ks.getD k .top)=true from decide_eq_true h1,Bool.true_and]
   exact ZBO m (k+1) (by omega)
  ·exact fin hC Za8 (ZDQ std ms ks rs k) (by simp[-List.getD_eq_getElem?_getD];omega) (by rw[List.all_cons,show ZnL (ks.getD k .top)=false from decide_eq_false h1,Bool.false_and,Bool.false_and]) rfl
theorem Zyi:∀(m k:Nat),k+m=ms.length→Ev C (Zdo ms ks rs k) (ZcJ ms ks rs k) (Zco 23 (.bool ((ms.drop k).all ZzH&&(ks.all ZnL&&rs.all ZnL))) none)
 |0,k,h=>by
  refine go hC Za8 (ZEb std ms ks rs k) (by simp;omega) ?_
  rw[List.drop_of_length_le (by omega)]
  exact ZBO hC ms ks rs hl ks.length 0 (by omega)
 |m+1,k,h=>by
  rw[Zk1 (show k<ms.length by omega)]
  by_cases h1:(ms.getD k .top).toS.length≤20
  ·refine go hC Za8 (ZEG std ms ks rs k) (by simp[-List.getD_eq_getElem?_getD];omega) ?_
   rw[List.all_cons,show ZzH (ms.getD k .top)=true from decide_eq_true h1,Bool.true_and]
   exact Zyi m (k+1) (by omega)
  ·exact fin hC Za8 (ZEM std ms ks rs k) (by simp[-List.getD_eq_getElem?_getD];omega) (by rw[List.all_cons,show ZzH (ms.getD k .top)=false from decide_eq_false h1,Bool.false_and,Bool.false_and]) rfl
end
theorem Zte(ms ks rs:List AV):Zap Tryz.prog 23 [.agg (.gen [.list (.big .str ms), .list (.big (.agg [.str, .int .i64]) ks), .list (.big (.agg [.str, .int .i64, .int .i64, .int .i64, .int .i64]) rs)])] (.bool (ZpO ms ks rs)) none:=
 start (Zwn ms ks rs) fun C hC=>by
  by_cases h1:ms.length≤8
  ·by_cases h2:ks.length≤10
   ·by_cases h3:rs.length≤12
    ·refine go hC Za8 (ZCq std ms ks rs) (by simp;omega) ?_
     unfold ZpO
     rw[decide_eq_true ⟨h1,h2,h3⟩,Bool.true_and]
     exact Zyi hC ms ks rs ⟨h1,h2,h3⟩ ms.length 0 (by omega)
    ·exact fin hC Za8 (ZDp std ms ks rs) (by simp;omega) (by simp[ZpO,h3]) rfl
   ·exact fin hC Za8 (ZDe std ms ks rs) (by simp;omega) (by simp[ZpO,h2]) rfl
  ·exact fin hC Za8 (ZEs std ms ks rs) (by simp;omega) (by simp[ZpO,h1]) rfl
end Go.Proofs.YtkeoeooghhjibaaGreatDoor
/- Paths of functions, printed by the explorer (Gx). No condition. -/
namespace Go.Proofs.YtkeoeooghhjibaaGreatDoor
set_option maxRecDepth 100000
set_option linter.unusedVariables false
def Zya(l:List Int)(a b:Int)(xs:List Int):AFrame:={ fn:=90,N:=9,env:=[(0,AV.list (.ints .i64 l)),(1,AV.fn 87 [AV.eptr (AV.agg (Row.gen [.int .i64 a, .int .i64 b, .list (.ints .i64 xs)])) 0])],todo:=[.code a90.code],defs:=[],rnd:=none,ret:=false,res:=[ARes.tmp 4] }
def ZHl(l:List Int)(a b:Int)(xs:List Int):List AFrame:=[(Zya l a b xs)]
theorem Zu6(l:List Int)(a b:Int)(xs:List Int):Zat tab 90 [AV.list (.ints .i64 l),AV.fn 87 [AV.eptr (AV.agg (Row.gen [.int .i64 a, .int .i64 b, .list (.ints .i64 xs)])) 0]]=some (Zya l a b xs):=rfl
def Zb4(l:List Int)(a b:Int)(xs:List Int)(n0 n1:Int):List AFrame:=[{ fn:=137,N:=19,env:=[(0,AV.list (.ints .i64 l)),(1,AV.fn 87 [AV.eptr (AV.agg (Row.gen [.int .i64 a, .int .i64 b, .list (.ints .i64 xs)])) 0]),(7,AV.int .i64 n0),(8,AV.int .i64 n1)],todo:=.code (ACode.gh [] Zpf)::Zst,defs:=[],rnd:=none,ret:=false,res:=[ARes.tmp 4] },{ fn:=90,N:=9,env:=[(0,AV.list (.ints .i64 l)),(1,AV.fn 87 [AV.eptr (AV.agg (Row.gen [.int .i64 a, .int .i64 b, .list (.ints .i64 xs)])) 0]),(4,AV.bool false),(5,AV.list (.ints .i64 l)),(6,AV.fn 87 [AV.eptr (AV.agg (Row.gen [.int .i64 a, .int .i64 b, .list (.ints .i64 xs)])) 0])],todo:=[AItem.inReg [oN 7 (OpK.ncall true 0 137 [Opd.t 5,Opd.t 6]),oN 8 (OpK.bin Go.BinOp.geq (Opd.t 7) (cI 0)),mV 4 8], .code ACode.ret],defs:=[],rnd:=none,ret:=false,res:=[ARes.tmp 4] }]
def ZbG(l:List Int)(a b:Int)(xs:List Int)(n0 n1:Int):Zac:=[]
abbrev Zed(l:List Int)(a b:Int)(xs:List Int)(n0 n1:Int):List AFrame×Zac:=(Zb4 l a b xs n0 n1,ZbG l a b xs n0 n1)
theorem ZC8(A:Ar)(l:List Int)(a b:Int)(xs:List Int):ZaC A tab B5 23 [] (ZHl l a b xs) []=
 some (tr [7] [],
  Zed (l) (a) (b) (xs) (A.int (A.len l)) (0)):=by kernel_rfl
theorem ZDI(A:Ar)(l:List Int)(a b:Int)(xs:List Int)(n0 n1:Int):ZaX A tab B5 56 [true,true,true,true,true,true,true,true] 90 (Zb4 l a b xs n0 n1) (ZbG l a b xs n0 n1)=
 some (tr [6,13,5,5,1] [A.not (Zab (A.nth l (A.nat n1)) 0 b),A.not (A.eq (A.nth l (A.nat n1)) (-1)),Zah (Zah (A.le 0 n1) (Nat.blt (A.nat n1) (A.len l))) true,A.lt n1 n0],
  AV.bool (A.le 0 n1),none):=by kernel_rfl
theorem ZDt(A:Ar)(l:List Int)(a b:Int)(xs:List Int)(n0 n1:Int):ZaC A tab B5 53 [true,true,true,true,true,true,true,false] (Zb4 l a b xs n0 n1) (ZbG l a b xs n0 n1)=
 some (tr [1,0,13,5,5,1] [A.inR .i64 (A.add n1 1),!A.not (Zab (A.nth l (A.nat n1)) 0 b),A.not (A.eq (A.nth l (A.nat n1)) (-1)),Zah (Zah (A.le 0 n1) (Nat.blt (A.nat n1) (A.len l))) true,A.lt n1 n0],
  Zed (l) (a) (b) (xs) (n0) (A.add n1 1)):=by kernel_rfl
theorem ZDn(A:Ar)(l:List Int)(a b:Int)(xs:List Int)(n0 n1:Int):ZaC A tab B5 53 [true,false,false,false,false,false,false,false] (Zb4 l a b xs n0 n1) (ZbG l a b xs n0 n1)=
 some (tr [1,14,5,5,1] [A.inR .i64 (A.add n1 1),!A.not (A.eq (A.nth l (A.nat n1)) (-1)),Zah (Zah (A.le 0 n1) (Nat.blt (A.nat n1) (A.len l))) true,A.lt n1 n0],
  Zed (l) (a) (b) (xs) (n0) (A.add n1 1)):=by kernel_rfl
theorem ZEe(A:Ar)(l:List Int)(a b:Int)(xs:List Int)(n0 n1:Int):ZaX A tab B5 18 [false] 90 (Zb4 l a b xs n0 n1) (ZbG l a b xs n0 n1)=
 some (tr [5,1] [!A.lt n1 n0],
  AV.bool (A.le 0 (-1)),none):=by kernel_rfl
end Go.Proofs.YtkeoeooghhjibaaGreatDoor
/- Whether a moment's last times hold a bad one. No condition. -/
namespace Go.Proofs.YtkeoeooghhjibaaGreatDoor
def ZgS(b n:Int):Bool:=decide (n≠ -1)&&!Zab n 0 b
theorem ZeX{C:Ctx}(hC:C.P=Tryz.prog)(l:List Int)(a b:Int)(xs:List Int)(hl:l.length≤1000000):∀(m k:Nat),k+m=l.length→Ev C (Zb4 l a b xs l.length k) (ZbG l a b xs l.length k) (Zco 90 (.bool ((l.drop k).any (ZgS b))) none)
 |0,k,h=>fin hC ZgY (ZEe std l a b xs l.length k) (by simp;omega) (by rw[List.drop_of_length_le (by omega)];rfl) rfl
 |m+1,k,h=>by
  have hd:l.drop k=l.getD k 0::l.drop (k+1):=by
   rw[List.drop_eq_getElem_cons (show k<l.length by omega),List.getD_eq_getElem?_getD,List.getElem?_eq_getElem (show k<l.length by omega)];rfl
  rw[hd,List.any_cons]
  by_cases h1:l.getD k 0= -1
  ·refine go hC ZgY (ZDn std l a b xs l.length k) (by simp[-List.getD_eq_getElem?_getD,h1];omega) ?_
   rw[show ZgS b (l.getD k 0)=false by rw[ZgS,decide_eq_false (by simp only[h1,ne_eq,not_true_eq_false,not_false_eq_true]),Bool.false_and],Bool.false_or]
   exact ZeX hC l a b xs hl m (k+1) (by omega)
  ·by_cases h2:Zab (l.getD k 0) 0 b=true
   ·refine go hC ZgY (ZDt std l a b xs l.length k) (by simp[-List.getD_eq_getElem?_getD,h1,h2];omega) ?_
    rw[show ZgS b (l.getD k 0)=false by rw[ZgS,h2,Bool.not_true,Bool.and_false],Bool.false_or]
    exact ZeX hC l a b xs hl m (k+1) (by omega)
   ·exact fin hC ZgY (ZDI std l a b xs l.length k) (by simp[-List.getD_eq_getElem?_getD,h1,h2];omega) (by
     have e:ZgS b (l.getD k 0)=true:=by rw[ZgS,decide_eq_true h1,(by simpa using h2:Zab (l.getD k 0) 0 b=false)];rfl
     rw[e,Bool.true_or]
     show AV.bool (decide ((0:Int)≤k))=_
     rw[decide_eq_true (by omega)]) rfl
theorem ZqY(l:List Int)(a b:Int)(xs:List Int)(hl:l.length≤1000000):Zap Tryz.prog 90 [.list (.ints .i64 l), .fn 87 [.eptr (.agg (.gen [.int .i64 a, .int .i64 b, .list (.ints .i64 xs)])) 0]] (.bool (l.any (ZgS b))) none:=
 start (Zu6 l a b xs) fun C hC=>go hC ZgY (ZC8 std l a b xs) (by simp) (ZeX hC l a b xs hl l.length 0 (by omega))
end Go.Proofs.YtkeoeooghhjibaaGreatDoor
/- Contracts as a list. No condition. -/
namespace Go.Proofs.YtkeoeooghhjibaaGreatDoor
def k23:Ctr:=⟨23,0,fun _ a=>match a with |[.agg (.gen [.list (.big .str ms), .list (.big (.agg [.str, .int .i64]) ks), .list (.big (.agg [.str, .int .i64, .int .i64, .int .i64, .int .i64]) rs)])]=>some (true, .bool (ZpO ms ks rs),none) |_=>none⟩
theorem ZB3:k23.OK Tryz.prog:=fun pa args r fr h=>by
 simp only[k23]at h
 split at h
 ·cases h
  exact Zte _ _ _
 ·cases h
def k90:Ctr:=⟨90,0,fun _ a=>match a with |[.list (.ints .i64 l), .fn 87 [.eptr (.agg (.gen [.int .i64 _, .int .i64 b, .list (.ints .i64 _)])) 0]]=>some (decide (l.length≤1000000), .bool (l.any (ZgS b)),none) |_=>none⟩
theorem ZBN:k90.OK Tryz.prog:=fun pa args r fr h=>by
 simp only[k90]at h
 split at h
 ·simp only[Option.some.injEq,Prod.mk.injEq,decide_eq_true_eq]at h
  obtain⟨h0,rfl,rfl⟩:=h
  exact ZqY _ _ _ _ h0
 ·cases h
def B6:List Ctr:=[k23,k90]++B5
theorem Zeh:ZaE Tryz.prog B6:=⟨ZB3,⟨ZBN,ZgY⟩⟩
end Go.Proofs.YtkeoeooghhjibaaGreatDoor
