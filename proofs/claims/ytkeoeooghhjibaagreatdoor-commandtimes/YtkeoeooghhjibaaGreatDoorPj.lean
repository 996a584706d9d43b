/- Paths of functions, printed by the explorer (Gx). No condition. -/
import Derived.Test.YtkeoeooghhjibaaGreatDoorCd
import Derived.KernelRfl
namespace Go.Proofs.YtkeoeooghhjibaaGreatDoor
set_option maxRecDepth 100000
set_option linter.unusedVariables false
def ZAI(n:Int):AFrame:={ fn:=89,N:=5,env:=[(0,AV.int .i64 n)],todo:=[.code a89.code],defs:=[],rnd:=none,ret:=false,res:=[ARes.tmp 2] }
def ZFI(n:Int):List AFrame:=[(ZAI n)]
theorem Zuf(n:Int):Zat tab 89 [AV.int .i64 n]=some (ZAI n):=rfl
theorem ZBv(A:Ar)(n:Int):ZaT A tab B3 11 [] 89 (ZFI n) []=
 some (tr [5] [],
  AV.bool (Zae n 0 1000000000000),none):=by kernel_rfl
def ZxA(ms ks rs:List AV):AFrame:={ fn:=23,N:=66,env:=[(0,AV.agg (Row.gen [.list (Row.big .str ms), .list (Row.big (.agg [.str, .int .i64]) ks), .list (Row.big (.agg [.str, .int .i64, .int .i64, .int .i64, .int .i64]) rs)]))],todo:=[.code a23.code],defs:=[],rnd:=none,ret:=false,res:=[ARes.tmp 2] }
def ZA3(ms ks rs:List AV):List AFrame:=[(ZxA ms ks rs)]
theorem Zvd(ms ks rs:List AV):Zat tab 23 [AV.agg (Row.gen [.list (Row.big .str ms), .list (Row.big (.agg [.str, .int .i64]) ks), .list (Row.big (.agg [.str, .int .i64, .int .i64, .int .i64, .int .i64]) rs)])]=some (ZxA ms ks rs):=rfl
def Zdt(ms ks rs:List AV)(n0:Int):List AFrame:=[{ fn:=23,N:=66,env:=[(1,AV.ptr 23002 0 0 0),(3,AV.int .i64 n0)],todo:=.code (ACode.gh [] Zx3)::ZB7,defs:=[],rnd:=none,ret:=false,res:=[ARes.tmp 2] }]
def ZcG(ms ks rs:List AV)(n0:Int):Zab:=[(23002,{ base:=0,blks:=[Blk.row 26 3 (Row.gen [AV.agg (Row.gen [AV.list (Row.big .str ms),AV.list (Row.big (.agg [.str, .int .i64]) ks),AV.list (Row.big (.agg [.str, .int .i64, .int .i64, .int .i64, .int .i64]) rs)])])] })]
abbrev Zii(ms ks rs:List AV)(n0:Int):List AFrame×Zab:=(Zdt ms ks rs n0,ZcG ms ks rs n0)
def ZdA(ms ks rs:List AV)(n1:Int):List AFrame:=[{ fn:=23,N:=66,env:=[(1,AV.ptr 23002 0 0 0),(4,AV.int .i64 n1)],todo:=.code (ACode.gh [] ZyE)::ZCi,defs:=[],rnd:=none,ret:=false,res:=[ARes.tmp 2] }]
def ZcO(ms ks rs:List AV)(n1:Int):Zab:=[(23002,{ base:=0,blks:=[Blk.row 26 3 (Row.gen [AV.agg (Row.gen [AV.list (Row.big .str ms),AV.list (Row.big (.agg [.str, .int .i64]) ks),AV.list (Row.big (.agg [.str, .int .i64, .int .i64, .int .i64, .int .i64]) rs)])])] })]
abbrev ZiQ(ms ks rs:List AV)(n1:Int):List AFrame×Zab:=(ZdA ms ks rs n1,ZcO ms ks rs n1)
def Zda(ms ks rs:List AV)(n2:Int):List AFrame:=[{ fn:=23,N:=66,env:=[(1,AV.ptr 23002 0 0 0),(5,AV.int .i64 n2)],todo:=.code (ACode.gh [] Zy7)::ZBF,defs:=[],rnd:=none,ret:=false,res:=[ARes.tmp 2] }]
def ZcD(ms ks rs:List AV)(n2:Int):Zab:=[(23002,{ base:=0,blks:=[Blk.row 26 3 (Row.gen [AV.agg (Row.gen [AV.list (Row.big .str ms),AV.list (Row.big (.agg [.str, .int .i64]) ks),AV.list (Row.big (.agg [.str, .int .i64, .int .i64, .int .i64, .int .i64]) rs)])])] })]
abbrev Zh4(ms ks rs:List AV)(n2:Int):List AFrame×Zab:=(Zda ms ks rs n2,ZcD ms ks rs n2)
theorem ZB5(A:Ar)(ms ks rs:List AV):ZaT A tab B3 32 [true,true,true,true,true,true,true,true,true,true,true] 23 (ZA3 ms ks rs) []=
 some (tr [23,7] [A.lt 8 (A.int (A.lenA ms))],
  AV.bool false,none):=by kernel_rfl
theorem ZCm(A:Ar)(ms ks rs:List AV):ZaT A tab B3 32 [false,false,false,false,false,true,true,true,true,true,true] 23 (ZA3 ms ks rs) []=
 some (tr [12,10,7] [A.lt 10 (A.int (A.lenA ks)),!A.lt 8 (A.int (A.lenA ms))],
  AV.bool false,none):=by kernel_rfl
theorem ZBj(A:Ar)(ms ks rs:List AV):ZaT A tab B3 32 [false,false,false,false,false,false,false,false,false,false,true] 23 (ZA3 ms ks rs) []=
 some (tr [2,9,10,7] [A.lt 12 (A.int (A.lenA rs)),!A.lt 10 (A.int (A.lenA ks)),!A.lt 8 (A.int (A.lenA ms))],
  AV.bool false,none):=by kernel_rfl
theorem ZCM(A:Ar)(ms ks rs:List AV):Zay A tab B3 36 [false,false,false,false,false,false,false,false,false,false,false] (ZA3 ms ks rs) []=
 some (tr [1,9,10,7] [!A.lt 12 (A.int (A.lenA rs)),!A.lt 10 (A.int (A.lenA ks)),!A.lt 8 (A.int (A.lenA ms))],
  Zii (ms) (ks) (rs) (0)):=by kernel_rfl
theorem ZC2(A:Ar)(ms ks rs:List AV)(n0:Int):ZaT A tab B3 31 [true,true] 23 (Zdt ms ks rs n0) (ZcG ms ks rs n0)=
 some (tr [2,3,3,5] [A.lt 20 (A.int (A.lenS (AV.toS (A.nthA ms (A.nat n0))))),Zaf (Zaf (A.le 0 n0) (Nat.blt (A.nat n0) (A.lenA ms))) true,A.lt n0 (A.int (A.lenA ms))],
  AV.bool false,none):=by kernel_rfl
theorem ZBE(A:Ar)(ms ks rs:List AV)(n0:Int):Zay A tab B3 35 [true,false] (Zdt ms ks rs n0) (ZcG ms ks rs n0)=
 some (tr [1,1,3,3,5] [A.inR .i64 (A.add n0 1),!A.lt 20 (A.int (A.lenS (AV.toS (A.nthA ms (A.nat n0))))),Zaf (Zaf (A.le 0 n0) (Nat.blt (A.nat n0) (A.lenA ms))) true,A.lt n0 (A.int (A.lenA ms))],
  Zii (ms) (ks) (rs) (A.add n0 1)):=by kernel_rfl
theorem ZCC(A:Ar)(ms ks rs:List AV)(n0:Int):Zay A tab B3 20 [false] (Zdt ms ks rs n0) (ZcG ms ks rs n0)=
 some (tr [1,5] [!A.lt n0 (A.int (A.lenA ms))],
  ZiQ (ms) (ks) (rs) (0)):=by kernel_rfl
theorem ZBh(A:Ar)(ms ks rs:List AV)(n1:Int):ZaT A tab B3 32 [true,true] 23 (ZdA ms ks rs n1) (ZcO ms ks rs n1)=
 some (tr [2,4,3,5] [A.lt 20 (A.int (A.lenS ((A.nthA ks (A.nat n1)).cellAt 0).toS)),Zaf (Zaf (A.le 0 n1) (Nat.blt (A.nat n1) (A.lenA ks))) true,A.lt n1 (A.int (A.lenA ks))],
  AV.bool false,none):=by kernel_rfl
theorem ZBf(A:Ar)(ms ks rs:List AV)(n1:Int):Zay A tab B3 36 [true,false] (ZdA ms ks rs n1) (ZcO ms ks rs n1)=
 some (tr [1,1,4,3,5] [A.inR .i64 (A.add n1 1),!A.lt 20 (A.int (A.lenS ((A.nthA ks (A.nat n1)).cellAt 0).toS)),Zaf (Zaf (A.le 0 n1) (Nat.blt (A.nat n1) (A.lenA ks))) true,A.lt n1 (A.int (A.lenA ks))],
  ZiQ (ms) (ks) (rs) (A.add n1 1)):=by kernel_rfl
theorem ZCg(A:Ar)(ms ks rs:List AV)(n1:Int):Zay A tab B3 20 [false] (ZdA ms ks rs n1) (ZcO ms ks rs n1)=
 some (tr [1,5] [!A.lt n1 (A.int (A.lenA ks))],
  Zh4 (ms) (ks) (rs) (0)):=by kernel_rfl
theorem ZxS(A:Ar)(ms ks rs:List AV)(n2:Int):ZaT A tab B3 32 [true,true] 23 (Zda ms ks rs n2) (ZcD ms ks rs n2)=
 some (tr [2,4,3,5] [A.lt 20 (A.int (A.lenS ((A.nthA rs (A.nat n2)).cellAt 0).toS)),Zaf (Zaf (A.le 0 n2) (Nat.blt (A.nat n2) (A.lenA rs))) true,A.lt n2 (A.int (A.lenA rs))],
  AV.bool false,none):=by kernel_rfl
theorem Zx4(A:Ar)(ms ks rs:List AV)(n2:Int):Zay A tab B3 36 [true,false] (Zda ms ks rs n2) (ZcD ms ks rs n2)=
 some (tr [1,1,4,3,5] [A.inR .i64 (A.add n2 1),!A.lt 20 (A.int (A.lenS ((A.nthA rs (A.nat n2)).cellAt 0).toS)),Zaf (Zaf (A.le 0 n2) (Nat.blt (A.nat n2) (A.lenA rs))) true,A.lt n2 (A.int (A.lenA rs))],
  Zh4 (ms) (ks) (rs) (A.add n2 1)):=by kernel_rfl
theorem Zyp(A:Ar)(ms ks rs:List AV)(n2:Int):ZaT A tab B3 17 [false] 23 (Zda ms ks rs n2) (ZcD ms ks rs n2)=
 some (tr [2,5] [!A.lt n2 (A.int (A.lenA rs))],
  AV.bool true,none):=by kernel_rfl
def Zsh(ms ks rs:List AV):AFrame:={ fn:=136,N:=31,env:=[(0,AV.agg (Row.gen [.list (Row.big .str ms), .list (Row.big (.agg [.str, .int .i64]) ks), .list (Row.big (.agg [.str, .int .i64, .int .i64, .int .i64, .int .i64]) rs)]))],todo:=[.code a136.code],defs:=[],rnd:=none,ret:=false,res:=[ARes.cell 2 true 2,ARes.tmp 3] }
def Zyu(ms ks rs:List AV):List AFrame:=[(Zsh ms ks rs)]
theorem Zqw(ms ks rs:List AV):Zat tab 136 [AV.agg (Row.gen [.list (Row.big .str ms), .list (Row.big (.agg [.str, .int .i64]) ks), .list (Row.big (.agg [.str, .int .i64, .int .i64, .int .i64, .int .i64]) rs)])]=some (Zsh ms ks rs):=rfl
def ZbF(ms ks rs:List AV)(n0 n1 n2 n3 n4:Int)(x5:List AV):List AFrame:=[{ fn:=159,N:=83,env:=[(0,AV.ptr 136005 0 0 0),(1,AV.int .i64 1),(5,AV.fn 160 [AV.ptr 136002 0 0 0]),(6,AV.fn 161 []),(15,AV.mp 159045 0),(45,AV.int .i64 n0),(46,AV.int .i64 n4)],todo:=.code (ACode.gh [] ZmA)::Zog,defs:=[],rnd:=none,ret:=false,res:=[] },{ fn:=136,N:=31,env:=[(1,AV.ptr 136002 0 0 0),(2,AV.ptr 136003 0 0 0),(4,AV.ptr 136005 0 0 0),(5,AV.ptr 136006 0 0 0),(6,AV.ptr 136007 0 0 0),(7,AV.ptr 136008 0 0 0),(14,AV.int .i64 n1),(15,AV.fn 160 [AV.ptr 136002 0 0 0])],todo:=[AItem.inReg [oN 16 (OpK.icall 159 [Opd.t 4,cI 1,Opd.t 14,cI 1,cI 6,Opd.t 15,Opd.c (AV.fn 161 [])])], .code (ACode.seq (ACode.reg none [oN 17 (OpK.load false 1 (Opd.t 7)),oN 18 (OpK.mkfn 162 [Opd.t 1]),oN 19 (OpK.mkfn 163 [Opd.t 5,Opd.t 1,Opd.t 6]),oN 20 (OpK.icall 159 [Opd.t 4,cI 2,Opd.t 17,cI 1,cI 8,Opd.t 18,Opd.t 19])]) (ACode.seq (ACode.reg none [oN 21 (OpK.faddr 2 (Opd.t 1)),oN 22 (OpK.load false 1 (Opd.t 21)),oN 23 (OpK.len (Opd.t 22)),oN 24 (OpK.mkfn 164 [Opd.t 1]),oN 25 (OpK.mkfn 165 [Opd.t 1,Opd.t 7,Opd.t 5,Opd.t 6]),oN 26 (OpK.icall 159 [Opd.t 4,cI 3,Opd.t 23,cI 0,cI 10,Opd.t 24,Opd.t 25])]) (ACode.gh [Ghost.keep [2,4]] (ACode.seq (ACode.reg (some [(2,4),(3,4)]) [oN 27 (OpK.faddr 0 (Opd.t 4)),oN 28 (OpK.load true 2 (Opd.t 27)),oN 29 (OpK.faddr 2 (Opd.t 4)),oN 30 (OpK.load false 1 (Opd.t 29)),{ d:=none,g:=none,k:=OpK.store 2 (Opd.t 2) (Opd.t 28) },mV 3 30]) ACode.ret))))],defs:=[],rnd:=none,ret:=false,res:=[ARes.cell 2 true 2,ARes.tmp 3] }]
def Zbp(ms ks rs:List AV)(n0 n1 n2 n3 n4:Int)(x5:List AV):Zab:=[(136002,{ base:=0,blks:=[Blk.row 26 3 (Row.gen [AV.agg (Row.gen [AV.list (Row.big .str ms),AV.list (Row.big (.agg [.str, .int .i64]) ks),AV.list (Row.big (.agg [.str, .int .i64, .int .i64, .int .i64, .int .i64]) rs)])])] }),(136003,{ base:=0,blks:=[Blk.row 195 2 (Row.gen [AV.agg (Row.gen [AV.int .i64 0,AV.int .i64 0])])] }),(136005,{ base:=0,blks:=[Blk.row 236 3 (Row.gen [AV.agg (Row.gen [AV.int .i64 0,AV.int .i64 0,AV.int .i64 0])])] }),(136006,{ base:=0,blks:=[Blk.row 237 1 (Row.gen [AV.fn 158 []])] }),(136007,{ base:=0,blks:=[Blk.row 3 1 (Row.gen [.int .i64 n2])] }),(136008,{ base:=0,blks:=[Blk.row 3 1 (Row.gen [.int .i64 n3])] }),(159045,{ base:=0,blks:=[Blk.mp x5] })]
abbrev Zf2(ms ks rs:List AV)(n0 n1 n2 n3 n4:Int)(x5:List AV):List AFrame×Zab:=(ZbF ms ks rs n0 n1 n2 n3 n4 x5,Zbp ms ks rs n0 n1 n2 n3 n4 x5)
def ZbA(ms ks rs:List AV)(n1 n2 n3 n6:Int)(x7:List AV):List AFrame:=[{ fn:=159,N:=83,env:=[(0,AV.ptr 136005 0 0 0),(1,AV.int .i64 2),(5,AV.fn 162 [AV.ptr 136002 0 0 0]),(6,AV.fn 163 [AV.ptr 136006 0 0 0,AV.ptr 136002 0 0 0,AV.ptr 136007 0 0 0]),(15,AV.mp 159045 0),(45,AV.int .i64 n3),(46,AV.int .i64 n6)],todo:=.code (ACode.gh [] ZmA)::Zog,defs:=[],rnd:=none,ret:=false,res:=[] },{ fn:=136,N:=31,env:=[(1,AV.ptr 136002 0 0 0),(2,AV.ptr 136003 0 0 0),(4,AV.ptr 136005 0 0 0),(5,AV.ptr 136006 0 0 0),(6,AV.ptr 136007 0 0 0),(7,AV.ptr 136008 0 0 0),(14,AV.int .i64 n1),(15,AV.fn 160 [AV.ptr 136002 0 0 0]),(16,AV.tup []),(17,AV.int .i64 n3),(18,AV.fn 162 [AV.ptr 136002 0 0 0]),(19,AV.fn 163 [AV.ptr 136006 0 0 0,AV.ptr 136002 0 0 0,AV.ptr 136007 0 0 0])],todo:=[AItem.inReg [oN 20 (OpK.icall 159 [Opd.t 4,cI 2,Opd.t 17,cI 1,cI 8,Opd.t 18,Opd.t 19])], .code (ACode.seq (ACode.reg none [oN 21 (OpK.faddr 2 (Opd.t 1)),oN 22 (OpK.load false 1 (Opd.t 21)),oN 23 (OpK.len (Opd.t 22)),oN 24 (OpK.mkfn 164 [Opd.t 1]),oN 25 (OpK.mkfn 165 [Opd.t 1,Opd.t 7,Opd.t 5,Opd.t 6]),oN 26 (OpK.icall 159 [Opd.t 4,cI 3,Opd.t 23,cI 0,cI 10,Opd.t 24,Opd.t 25])]) (ACode.gh [Ghost.keep [2,4]] (ACode.seq (ACode.reg (some [(2,4),(3,4)]) [oN 27 (OpK.faddr 0 (Opd.t 4)),oN 28 (OpK.load true 2 (Opd.t 27)),oN 29 (OpK.faddr 2 (Opd.t 4)),oN 30 (OpK.load false 1 (Opd.t 29)),{ d:=none,g:=none,k:=OpK.store 2 (Opd.t 2) (Opd.t 28) },mV 3 30]) ACode.ret)))],defs:=[],rnd:=none,ret:=false,res:=[ARes.cell 2 true 2,ARes.tmp 3] }]
def Zbr(ms ks rs:List AV)(n1 n2 n3 n6:Int)(x7:List AV):Zab:=[(136002,{ base:=0,blks:=[Blk.row 26 3 (Row.gen [AV.agg (Row.gen [AV.list (Row.big .str ms),AV.list (Row.big (.agg [.str, .int .i64]) ks),AV.list (Row.big (.agg [.str, .int .i64, .int .i64, .int .i64, .int .i64]) rs)])])] }),(136003,{ base:=0,blks:=[Blk.row 195 2 (Row.gen [AV.agg (Row.gen [AV.int .i64 0,AV.int .i64 0])])] }),(136005,{ base:=0,blks:=[Blk.row 236 3 (Row.gen [AV.agg (Row.gen [AV.int .i64 0,AV.int .i64 0,AV.int .i64 0])])] }),(136006,{ base:=0,blks:=[Blk.row 237 1 (Row.gen [AV.fn 158 []])] }),(136007,{ base:=0,blks:=[Blk.row 3 1 (Row.gen [.int .i64 n2])] }),(136008,{ base:=0,blks:=[Blk.row 3 1 (Row.gen [.int .i64 n3])] }),(159045,{ base:=0,blks:=[Blk.mp x7] })]
abbrev ZfO(ms ks rs:List AV)(n1 n2 n3 n6:Int)(x7:List AV):List AFrame×Zab:=(ZbA ms ks rs n1 n2 n3 n6 x7,Zbr ms ks rs n1 n2 n3 n6 x7)
def Zb4(ms ks rs:List AV)(n1 n2 n3 n8 n9 n10:Int)(x11:List AV):List AFrame:=[{ fn:=159,N:=83,env:=[(0,AV.ptr 136005 0 0 0),(1,AV.int .i64 3),(5,AV.fn 164 [AV.ptr 136002 0 0 0]),(6,AV.fn 165 [AV.ptr 136002 0 0 0,AV.ptr 136008 0 0 0,AV.ptr 136006 0 0 0,AV.ptr 136007 0 0 0]),(15,AV.mp 159045 0),(45,AV.int .i64 n8),(46,AV.int .i64 n10)],todo:=.code (ACode.gh [] ZmA)::Zog,defs:=[],rnd:=none,ret:=false,res:=[] },{ fn:=136,N:=31,env:=[(1,AV.ptr 136002 0 0 0),(2,AV.ptr 136003 0 0 0),(4,AV.ptr 136005 0 0 0),(5,AV.ptr 136006 0 0 0),(6,AV.ptr 136007 0 0 0),(7,AV.ptr 136008 0 0 0),(14,AV.int .i64 n1),(15,AV.fn 160 [AV.ptr 136002 0 0 0]),(16,AV.tup []),(17,AV.int .i64 n3),(18,AV.fn 162 [AV.ptr 136002 0 0 0]),(19,AV.fn 163 [AV.ptr 136006 0 0 0,AV.ptr 136002 0 0 0,AV.ptr 136007 0 0 0]),(20,AV.tup []),(21,AV.ptr 136002 0 0 2),(22,AV.list (Row.big (.agg [.str, .int .i64, .int .i64, .int .i64, .int .i64]) rs)),(23,AV.int .i64 n9),(24,AV.fn 164 [AV.ptr 136002 0 0 0]),(25,AV.fn 165 [AV.ptr 136002 0 0 0,AV.ptr 136008 0 0 0,AV.ptr 136006 0 0 0,AV.ptr 136007 0 0 0])],todo:=[AItem.inReg [oN 26 (OpK.icall 159 [Opd.t 4,cI 3,Opd.t 23,cI 0,cI 10,Opd.t 24,Opd.t 25])], .code (ACode.gh [Ghost.keep [2,4]] (ACode.seq (ACode.reg (some [(2,4),(3,4)]) [oN 27 (OpK.faddr 0 (Opd.t 4)),oN 28 (OpK.load true 2 (Opd.t 27)),oN 29 (OpK.faddr 2 (Opd.t 4)),oN 30 (OpK.load false 1 (Opd.t 29)),{ d:=none,g:=none,k:=OpK.store 2 (Opd.t 2) (Opd.t 28) },mV 3 30]) ACode.ret))],defs:=[],rnd:=none,ret:=false,res:=[ARes.cell 2 true 2,ARes.tmp 3] }]
def ZbJ(ms ks rs:List AV)(n1 n2 n3 n8 n9 n10:Int)(x11:List AV):Zab:=[(136002,{ base:=0,blks:=[Blk.row 26 3 (Row.gen [AV.agg (Row.gen [AV.list (Row.big .str ms),AV.list (Row.big (.agg [.str, .int .i64]) ks),AV.list (Row.big (.agg [.str, .int .i64, .int .i64, .int .i64, .int .i64]) rs)])])] }),(136003,{ base:=0,blks:=[Blk.row 195 2 (Row.gen [AV.agg (Row.gen [AV.int .i64 0,AV.int .i64 0])])] }),(136005,{ base:=0,blks:=[Blk.row 236 3 (Row.gen [AV.agg (Row.gen [AV.int .i64 0,AV.int .i64 0,AV.int .i64 0])])] }),(136006,{ base:=0,blks:=[Blk.row 237 1 (Row.gen [AV.fn 158 []])] }),(136007,{ base:=0,blks:=[Blk.row 3 1 (Row.gen [.int .i64 n2])] }),(136008,{ base:=0,blks:=[Blk.row 3 1 (Row.gen [.int .i64 n3])] }),(159045,{ base:=0,blks:=[Blk.mp x11] })]
abbrev Zf9(ms ks rs:List AV)(n1 n2 n3 n8 n9 n10:Int)(x11:List AV):List AFrame×Zab:=(Zb4 ms ks rs n1 n2 n3 n8 n9 n10 x11,ZbJ ms ks rs n1 n2 n3 n8 n9 n10 x11)
theorem ZwF(A:Ar)(ms ks rs:List AV):ZaT A tab B3 118 [false,true,true,true] 136 (Zyu ms ks rs) []=
 some (tr [8,11,20,3,0,8,23] [A.not (A.eq (Zas [Zaa (A.le 1 (A.int (A.lenA ms))) 10,Zaa (A.le (A.int (A.lenA ms)) 6) 8]) 0),A.not (A.eq (Zas [Zaa (A.le 1 (A.int (A.lenA ms))) 10,Zaa (A.le (A.int (A.lenA ms)) 6) 8]) 0),A.not (A.eq (Zas [Zaa (A.le 1 (A.int (A.lenA ms))) 10,Zaa (A.le (A.int (A.lenA ms)) 6) 8]) 0),decide (List.length [Zaa (A.le 1 (A.int (A.lenA ms))) 10,Zaa (A.le (A.int (A.lenA ms)) 6) 8]≤1000000),List.all [AV.int .i64 (Zaa (A.le 1 (A.int (A.lenA ms))) 10),AV.int .i64 (Zaa (A.le (A.int (A.lenA ms)) 6) 8)] fun x=>AV.bx x&&Nat.beq (Zai A x) 1,!A.not (A.eq 0 0)],
  AV.tup [AV.agg (Row.gen [.int .i64 1, .int .i64 0]),AV.int .i64 (Zas [Zaa (A.le 1 (A.int (A.lenA ms))) 10,Zaa (A.le (A.int (A.lenA ms)) 6) 8])],none):=by kernel_rfl
theorem ZxN(A:Ar)(ms ks rs:List AV):Zay A tab B3 70 [false,false] (Zyu ms ks rs) []=
 some (tr [4,3,0,8,23] [!A.not (A.eq (Zas [Zaa (A.le 1 (A.int (A.lenA ms))) 10,Zaa (A.le (A.int (A.lenA ms)) 6) 8]) 0),decide (List.length [Zaa (A.le 1 (A.int (A.lenA ms))) 10,Zaa (A.le (A.int (A.lenA ms)) 6) 8]≤1000000),List.all [AV.int .i64 (Zaa (A.le 1 (A.int (A.lenA ms))) 10),AV.int .i64 (Zaa (A.le (A.int (A.lenA ms)) 6) 8)] fun x=>AV.bx x&&Nat.beq (Zai A x) 1,!A.not (A.eq 0 0)],
  Zf2 (ms) (ks) (rs) (A.int (A.lenA ms)) (A.int (A.lenA ms)) (A.int (A.lenA ms)) (A.int (A.lenA ks)) (0) ([])):=by kernel_rfl
theorem ZzK(A:Ar)(ms ks rs:List AV)(n0 n1 n2 n3 n4:Int)(x5:List AV):ZaT A tab B3 107 [true,true,true,true] 136 (ZbF ms ks rs n0 n1 n2 n3 n4 x5) (Zbp ms ks rs n0 n1 n2 n3 n4 x5)=
 some (tr [8,11,21,3,0,6,4,0,4,1] [A.not (A.eq (Zas [Zaa (ZaM (Za2 ms n4)) 4,Zaa (A.not (A.hasS x5 (Za2 ms n4))) 5,0]) 0),A.not (A.eq (Zas [Zaa (ZaM (Za2 ms n4)) 4,Zaa (A.not (A.hasS x5 (Za2 ms n4))) 5,0]) 0),A.not (A.eq (Zas [Zaa (ZaM (Za2 ms n4)) 4,Zaa (A.not (A.hasS x5 (Za2 ms n4))) 5,0]) 0),decide (List.length [Zaa (ZaM (Za2 ms n4)) 4,Zaa (A.not (A.hasS x5 (Za2 ms n4))) 5,0]≤1000000),List.all [AV.int .i64 (Zaa (ZaM (Za2 ms n4)) 4),AV.int .i64 (Zaa (A.not (A.hasS x5 (Za2 ms n4))) 5),AV.int .i64 0] fun x=>AV.bx x&&Nat.beq (Zai A x) 1,decide (0≤n4∧n4< ↑(List.length ms)),decide (List.length (Za2 ms n4)≤1000000),decide (0≤n4∧n4< ↑(List.length ms)),A.lt n4 n0],
  AV.tup [AV.agg (Row.gen [.int .i64 1, .int .i64 n4]),AV.int .i64 (Zas [Zaa (ZaM (Za2 ms n4)) 4,Zaa (A.not (A.hasS x5 (Za2 ms n4))) 5,0])],none):=by kernel_rfl
theorem ZyX(A:Ar)(ms ks rs:List AV)(n0 n1 n2 n3 n4:Int)(x5:List AV):Zay A tab B3 59 [true,false] (ZbF ms ks rs n0 n1 n2 n3 n4 x5) (Zbp ms ks rs n0 n1 n2 n3 n4 x5)=
 some (tr [1,0,0,3,3,0,6,4,0,4,1] [A.inR .i64 (A.add n4 1),A.not (A.hasS x5 (Za2 ms n4)),decide (0≤n4∧n4< ↑(List.length ms)),!A.not (A.eq (Zas [Zaa (ZaM (Za2 ms n4)) 4,Zaa (A.not (A.hasS x5 (Za2 ms n4))) 5,0]) 0),decide (List.length [Zaa (ZaM (Za2 ms n4)) 4,Zaa (A.not (A.hasS x5 (Za2 ms n4))) 5,0]≤1000000),List.all [AV.int .i64 (Zaa (ZaM (Za2 ms n4)) 4),AV.int .i64 (Zaa (A.not (A.hasS x5 (Za2 ms n4))) 5),AV.int .i64 0] fun x=>AV.bx x&&Nat.beq (Zai A x) 1,decide (0≤n4∧n4< ↑(List.length ms)),decide (List.length (Za2 ms n4)≤1000000),decide (0≤n4∧n4< ↑(List.length ms)),A.lt n4 n0],
  Zf2 (ms) (ks) (rs) (n0) (n1) (n2) (n3) (A.add n4 1) (A.appA x5 [AV.str (Za2 ms n4)])):=by kernel_rfl
theorem ZyS(A:Ar)(ms ks rs:List AV)(n0 n1 n2 n3 n4:Int)(x5:List AV):ZaT A tab B3 93 [false,false,true,true] 136 (ZbF ms ks rs n0 n1 n2 n3 n4 x5) (Zbp ms ks rs n0 n1 n2 n3 n4 x5)=
 some (tr [8,22,3,0,8,9,1] [A.not (A.eq (Zas [Zaa (A.le 1 n3) 10,Zaa (A.le n3 8) 8]) 0),A.not (A.eq (Zas [Zaa (A.le 1 n3) 10,Zaa (A.le n3 8) 8]) 0),decide (List.length [Zaa (A.le 1 n3) 10,Zaa (A.le n3 8) 8]≤1000000),List.all [AV.int .i64 (Zaa (A.le 1 n3) 10),AV.int .i64 (Zaa (A.le n3 8) 8)] fun x=>AV.bx x&&Nat.beq (Zai A x) 1,!A.not (A.eq 0 0),!A.lt n4 n0],
  AV.tup [AV.agg (Row.gen [.int .i64 2, .int .i64 0]),AV.int .i64 (Zas [Zaa (A.le 1 n3) 10,Zaa (A.le n3 8) 8])],none):=by kernel_rfl
theorem ZxD(A:Ar)(ms ks rs:List AV)(n0 n1 n2 n3 n4:Int)(x5:List AV):Zay A tab B3 64 [false,false,false] (ZbF ms ks rs n0 n1 n2 n3 n4 x5) (Zbp ms ks rs n0 n1 n2 n3 n4 x5)=
 some (tr [4,3,0,8,9,1] [!A.not (A.eq (Zas [Zaa (A.le 1 n3) 10,Zaa (A.le n3 8) 8]) 0),decide (List.length [Zaa (A.le 1 n3) 10,Zaa (A.le n3 8) 8]≤1000000),List.all [AV.int .i64 (Zaa (A.le 1 n3) 10),AV.int .i64 (Zaa (A.le n3 8) 8)] fun x=>AV.bx x&&Nat.beq (Zai A x) 1,!A.not (A.eq 0 0),!A.lt n4 n0],
  ZfO (ms) (ks) (rs) (n1) (n2) (n3) (0) ([])):=by kernel_rfl
theorem Zyx(A:Ar)(ms ks rs:List AV)(n1 n2 n3 n6:Int)(x7:List AV):ZaT A tab B3 88 [true,true,true] 136 (ZbA ms ks rs n1 n2 n3 n6 x7) (Zbr ms ks rs n1 n2 n3 n6 x7)=
 some (tr [8,23,3,0,0,5,4,0,4,1] [A.not (A.eq (Zas [Zaa (ZaM (Zau ks n6)) 4,Zaa (A.not (A.hasS x7 (Zau ks n6))) 5,ZcK ks n6 n2]) 0),A.not (A.eq (Zas [Zaa (ZaM (Zau ks n6)) 4,Zaa (A.not (A.hasS x7 (Zau ks n6))) 5,ZcK ks n6 n2]) 0),decide (List.length [Zaa (ZaM (Zau ks n6)) 4,Zaa (A.not (A.hasS x7 (Zau ks n6))) 5,ZcK ks n6 n2]≤1000000),List.all [AV.int .i64 (Zaa (ZaM (Zau ks n6)) 4),AV.int .i64 (Zaa (A.not (A.hasS x7 (Zau ks n6))) 5),AV.int .i64 (ZcK ks n6 n2)] fun x=>AV.bx x&&Nat.beq (Zai A x) 1,decide ((0≤n6∧n6< ↑(List.length ks))∧ -1000000≤n2∧n2≤1000000),decide (0≤n6∧n6< ↑(List.length ks)),decide (List.length (Zau ks n6)≤1000000),decide (0≤n6∧n6< ↑(List.length ks)),A.lt n6 n3],
  AV.tup [AV.agg (Row.gen [.int .i64 2, .int .i64 n6]),AV.int .i64 (Zas [Zaa (ZaM (Zau ks n6)) 4,Zaa (A.not (A.hasS x7 (Zau ks n6))) 5,ZcK ks n6 n2])],none):=by kernel_rfl
theorem Zw4(A:Ar)(ms ks rs:List AV)(n1 n2 n3 n6:Int)(x7:List AV):Zay A tab B3 59 [true,false] (ZbA ms ks rs n1 n2 n3 n6 x7) (Zbr ms ks rs n1 n2 n3 n6 x7)=
 some (tr [1,0,0,3,3,0,0,5,4,0,4,1] [A.inR .i64 (A.add n6 1),A.not (A.hasS x7 (Zau ks n6)),decide (0≤n6∧n6< ↑(List.length ks)),!A.not (A.eq (Zas [Zaa (ZaM (Zau ks n6)) 4,Zaa (A.not (A.hasS x7 (Zau ks n6))) 5,ZcK ks n6 n2]) 0),decide (List.length [Zaa (ZaM (Zau ks n6)) 4,Zaa (A.not (A.hasS x7 (Zau ks n6))) 5,ZcK ks n6 n2]≤1000000),List.all [AV.int .i64 (Zaa (ZaM (Zau ks n6)) 4),AV.int .i64 (Zaa (A.not (A.hasS x7 (Zau ks n6))) 5),AV.int .i64 (ZcK ks n6 n2)] fun x=>AV.bx x&&Nat.beq (Zai A x) 1,decide ((0≤n6∧n6< ↑(List.length ks))∧ -1000000≤n2∧n2≤1000000),decide (0≤n6∧n6< ↑(List.length ks)),decide (List.length (Zau ks n6)≤1000000),decide (0≤n6∧n6< ↑(List.length ks)),A.lt n6 n3],
  ZfO (ms) (ks) (rs) (n1) (n2) (n3) (A.add n6 1) (A.appA x7 [AV.str (Zau ks n6)])):=by kernel_rfl
theorem ZAJ(A:Ar)(ms ks rs:List AV)(n1 n2 n3 n6:Int)(x7:List AV):ZaT A tab B3 74 [false,false,true] 136 (ZbA ms ks rs n1 n2 n3 n6 x7) (Zbr ms ks rs n1 n2 n3 n6 x7)=
 some (tr [19,3,0,8,11,1] [A.not (A.eq (Zas [Zaa (A.le 0 (A.int (A.lenA rs))) 10,Zaa (A.le (A.int (A.lenA rs)) 10) 8]) 0),decide (List.length [Zaa (A.le 0 (A.int (A.lenA rs))) 10,Zaa (A.le (A.int (A.lenA rs)) 10) 8]≤1000000),List.all [AV.int .i64 (Zaa (A.le 0 (A.int (A.lenA rs))) 10),AV.int .i64 (Zaa (A.le (A.int (A.lenA rs)) 10) 8)] fun x=>AV.bx x&&Nat.beq (Zai A x) 1,!A.not (A.eq 0 0),!A.lt n6 n3],
  AV.tup [AV.agg (Row.gen [.int .i64 3, .int .i64 0]),AV.int .i64 (Zas [Zaa (A.le 0 (A.int (A.lenA rs))) 10,Zaa (A.le (A.int (A.lenA rs)) 10) 8])],none):=by kernel_rfl
theorem ZxX(A:Ar)(ms ks rs:List AV)(n1 n2 n3 n6:Int)(x7:List AV):Zay A tab B3 66 [false,false,false] (ZbA ms ks rs n1 n2 n3 n6 x7) (Zbr ms ks rs n1 n2 n3 n6 x7)=
 some (tr [4,3,0,8,11,1] [!A.not (A.eq (Zas [Zaa (A.le 0 (A.int (A.lenA rs))) 10,Zaa (A.le (A.int (A.lenA rs)) 10) 8]) 0),decide (List.length [Zaa (A.le 0 (A.int (A.lenA rs))) 10,Zaa (A.le (A.int (A.lenA rs)) 10) 8]≤1000000),List.all [AV.int .i64 (Zaa (A.le 0 (A.int (A.lenA rs))) 10),AV.int .i64 (Zaa (A.le (A.int (A.lenA rs)) 10) 8)] fun x=>AV.bx x&&Nat.beq (Zai A x) 1,!A.not (A.eq 0 0),!A.lt n6 n3],
  Zf9 (ms) (ks) (rs) (n1) (n2) (n3) (A.int (A.lenA rs)) (A.int (A.lenA rs)) (0) ([])):=by kernel_rfl
theorem Ztt(A:Ar)(ms ks rs:List AV)(n1 n2 n3 n8 n9 n10:Int)(x11:List AV):ZaT A tab B3 67 [true,true] 136 (Zb4 ms ks rs n1 n2 n3 n8 n9 n10 x11) (ZbJ ms ks rs n1 n2 n3 n8 n9 n10 x11)=
 some (tr [20,3,0,0,5,4,0,4,1] [A.not (A.eq (Zas [Zaa (ZaM (Zau rs n10)) 4,Zaa (A.not (A.hasS x11 (Zau rs n10))) 5,ZbM rs n10 n3 n2]) 0),decide (List.length [Zaa (ZaM (Zau rs n10)) 4,Zaa (A.not (A.hasS x11 (Zau rs n10))) 5,ZbM rs n10 n3 n2]≤1000000),List.all [AV.int .i64 (Zaa (ZaM (Zau rs n10)) 4),AV.int .i64 (Zaa (A.not (A.hasS x11 (Zau rs n10))) 5),AV.int .i64 (ZbM rs n10 n3 n2)] fun x=>AV.bx x&&Nat.beq (Zai A x) 1,decide ((0≤n10∧n10< ↑(List.length rs))∧(-1000000≤n3∧n3≤1000000)∧ -1000000≤n2∧n2≤1000000),decide (0≤n10∧n10< ↑(List.length rs)),decide (List.length (Zau rs n10)≤1000000),decide (0≤n10∧n10< ↑(List.length rs)),A.lt n10 n8],
  AV.tup [AV.agg (Row.gen [.int .i64 3, .int .i64 n10]),AV.int .i64 (Zas [Zaa (ZaM (Zau rs n10)) 4,Zaa (A.not (A.hasS x11 (Zau rs n10))) 5,ZbM rs n10 n3 n2])],none):=by kernel_rfl
theorem Zvm(A:Ar)(ms ks rs:List AV)(n1 n2 n3 n8 n9 n10:Int)(x11:List AV):Zay A tab B3 59 [true,false] (Zb4 ms ks rs n1 n2 n3 n8 n9 n10 x11) (ZbJ ms ks rs n1 n2 n3 n8 n9 n10 x11)=
 some (tr [1,0,0,3,3,0,0,5,4,0,4,1] [A.inR .i64 (A.add n10 1),A.not (A.hasS x11 (Zau rs n10)),decide (0≤n10∧n10< ↑(List.length rs)),!A.not (A.eq (Zas [Zaa (ZaM (Zau rs n10)) 4,Zaa (A.not (A.hasS x11 (Zau rs n10))) 5,ZbM rs n10 n3 n2]) 0),decide (List.length [Zaa (ZaM (Zau rs n10)) 4,Zaa (A.not (A.hasS x11 (Zau rs n10))) 5,ZbM rs n10 n3 n2]≤1000000),List.all [AV.int .i64 (Zaa (ZaM (Zau rs n10)) 4),AV.int .i64 (Zaa (A.not (A.hasS x11 (Zau rs n10))) 5),AV.int .i64 (ZbM rs n10 n3 n2)] fun x=>AV.bx x&&Nat.beq (Zai A x) 1,decide ((0≤n10∧n10< ↑(List.length rs))∧(-1000000≤n3∧n3≤1000000)∧ -1000000≤n2∧n2≤1000000),decide (0≤n10∧n10< ↑(List.length rs)),decide (List.length (Zau rs n10)≤1000000),decide (0≤n10∧n10< ↑(List.length rs)),A.lt n10 n8],
  Zf9 (ms) (ks) (rs) (n1) (n2) (n3) (n8) (n9) (A.add n10 1) (A.appA x11 [AV.str (Zau rs n10)])):=by kernel_rfl
theorem ZtT(A:Ar)(ms ks rs:List AV)(n1 n2 n3 n8 n9 n10:Int)(x11:List AV):ZaT A tab B3 15 [false] 136 (Zb4 ms ks rs n1 n2 n3 n8 n9 n10 x11) (ZbJ ms ks rs n1 n2 n3 n8 n9 n10 x11)=
 some (tr [8,1] [!A.lt n10 n8],
  AV.tup [AV.agg (Row.gen [.int .i64 0, .int .i64 0]),AV.int .i64 0],none):=by kernel_rfl
def Zzi(ms ks rs l:List AV):AFrame:={ fn:=76,N:=64,env:=[(0,AV.agg (Row.gen [.list (Row.big .str ms), .list (Row.big (.agg [.str, .int .i64]) ks), .list (Row.big (.agg [.str, .int .i64, .int .i64, .int .i64, .int .i64]) rs)])),(1,AV.list (Row.big (.agg [.int .i64, .int .i64, .int .i64]) l))],todo:=[.code a76.code],defs:=[],rnd:=none,ret:=false,res:=[ARes.tmp 4,ARes.tmp 5] }
def ZB6(ms ks rs l:List AV):List AFrame:=[(Zzi ms ks rs l)]
theorem Zs6(ms ks rs l:List AV):Zat tab 76 [AV.agg (Row.gen [.list (Row.big .str ms), .list (Row.big (.agg [.str, .int .i64]) ks), .list (Row.big (.agg [.str, .int .i64, .int .i64, .int .i64, .int .i64]) rs)]),AV.list (Row.big (.agg [.int .i64, .int .i64, .int .i64]) l)]=some (Zzi ms ks rs l):=rfl
def ZbO(ms ks rs l:List AV)(n0:Int):List AFrame:=[{ fn:=76,N:=64,env:=[(1,AV.list (Row.big (.agg [.int .i64, .int .i64, .int .i64]) l)),(2,AV.ptr 76003 0 0 0),(6,AV.int .i64 n0)],todo:=.code (ACode.gh [] ZyL)::ZBV,defs:=[],rnd:=none,ret:=false,res:=[ARes.tmp 4,ARes.tmp 5] }]
def Zbs(ms ks rs l:List AV)(n0:Int):Zab:=[(76003,{ base:=0,blks:=[Blk.row 26 3 (Row.gen [AV.agg (Row.gen [AV.list (Row.big .str ms),AV.list (Row.big (.agg [.str, .int .i64]) ks),AV.list (Row.big (.agg [.str, .int .i64, .int .i64, .int .i64, .int .i64]) rs)])])] })]
abbrev Zh3(ms ks rs l:List AV)(n0:Int):List AFrame×Zab:=(ZbO ms ks rs l n0,Zbs ms ks rs l n0)
theorem ZCK(A:Ar)(ms ks rs l:List AV):ZaT A tab B3 20 [true] 76 (ZB6 ms ks rs l) []=
 some (tr [3,6] [A.eq (A.int (A.lenA l)) 0],
  AV.tup [AV.int .i64 0,AV.int .i64 10],none):=by kernel_rfl
theorem ZCe(A:Ar)(ms ks rs l:List AV):ZaT A tab B3 29 [false,true] 76 (ZB6 ms ks rs l) []=
 some (tr [3,3,6] [A.lt 12 (A.int (A.lenA l)),!A.eq (A.int (A.lenA l)) 0],
  AV.tup [AV.int .i64 0,AV.int .i64 8],none):=by kernel_rfl
theorem ZBk(A:Ar)(ms ks rs l:List AV):Zay A tab B3 32 [false,false] (ZB6 ms ks rs l) []=
 some (tr [1,3,6] [!A.lt 12 (A.int (A.lenA l)),!A.eq (A.int (A.lenA l)) 0],
  Zh3 (ms) (ks) (rs) (l) (0)):=by kernel_rfl
theorem ZBx(A:Ar)(ms ks rs l:List AV)(n0:Int):ZaT A tab B3 25 [true,true] 76 (ZbO ms ks rs l n0) (Zbs ms ks rs l n0)=
 some (tr [4,2,5,2,4] [A.not (Zae ((A.nthA l (A.nat n0)).cellAt 0).toI 0 (A.sub (A.int (A.lenA ks)) 1)),A.inR .i64 (A.sub (A.int (A.lenA ks)) 1),Zaf (Zaf (A.le 0 n0) (Nat.blt (A.nat n0) (A.lenA l))) true,A.lt n0 (A.int (A.lenA l))],
  AV.tup [AV.int .i64 n0,AV.int .i64 15],none):=by kernel_rfl
theorem ZCH(A:Ar)(ms ks rs l:List AV)(n0:Int):ZaT A tab B3 50 [true,false,true,true,true,true,true,true,true,true,true,true] 76 (ZbO ms ks rs l n0) (Zbs ms ks rs l n0)=
 some (tr [22,6,2,2,5,2,4] [A.not (Zae ((A.nthA l (A.nat n0)).cellAt 1).toI 0 1000000000000),Zaf (Zaf (A.le 0 n0) (Nat.blt (A.nat n0) (A.lenA l))) true,!A.not (Zae ((A.nthA l (A.nat n0)).cellAt 0).toI 0 (A.sub (A.int (A.lenA ks)) 1)),A.inR .i64 (A.sub (A.int (A.lenA ks)) 1),Zaf (Zaf (A.le 0 n0) (Nat.blt (A.nat n0) (A.lenA l))) true,A.lt n0 (A.int (A.lenA l))],
  AV.tup [AV.int .i64 n0,AV.int .i64 2],none):=by kernel_rfl
theorem ZBs(A:Ar)(ms ks rs l:List AV)(n0:Int):ZaT A tab B3 50 [true,false,false,false,false,false,false,false,false,false,false,true] 76 (ZbO ms ks rs l n0) (Zbs ms ks rs l n0)=
 some (tr [4,12,4,6,2,2,5,2,4] [A.not (Zae ((A.nthA l (A.nat n0)).cellAt 2).toI 0 1000000000000),Zaf (Zaf (A.le 0 n0) (Nat.blt (A.nat n0) (A.lenA l))) true,!A.not (Zae ((A.nthA l (A.nat n0)).cellAt 1).toI 0 1000000000000),Zaf (Zaf (A.le 0 n0) (Nat.blt (A.nat n0) (A.lenA l))) true,!A.not (Zae ((A.nthA l (A.nat n0)).cellAt 0).toI 0 (A.sub (A.int (A.lenA ks)) 1)),A.inR .i64 (A.sub (A.int (A.lenA ks)) 1),Zaf (Zaf (A.le 0 n0) (Nat.blt (A.nat n0) (A.lenA l))) true,A.lt n0 (A.int (A.lenA l))],
  AV.tup [AV.int .i64 n0,AV.int .i64 2],none):=by kernel_rfl
theorem ZCj(A:Ar)(ms ks rs l:List AV)(n0:Int):ZaT A tab B3 55 [true,false,false,false,false,false,false,false,false,false,false,false,true] 76 (ZbO ms ks rs l n0) (Zbs ms ks rs l n0)=
 some (tr [4,4,5,2,12,4,6,2,2,5,2,4] [A.lt ((A.nthA l (A.nat n0)).cellAt 2).toI ((A.nthA l (A.nat n0)).cellAt 1).toI,Zaf (Zaf (A.le 0 n0) (Nat.blt (A.nat n0) (A.lenA l))) true,Zaf (Zaf (A.le 0 n0) (Nat.blt (A.nat n0) (A.lenA l))) true,!A.not (Zae ((A.nthA l (A.nat n0)).cellAt 2).toI 0 1000000000000),Zaf (Zaf (A.le 0 n0) (Nat.blt (A.nat n0) (A.lenA l))) true,!A.not (Zae ((A.nthA l (A.nat n0)).cellAt 1).toI 0 1000000000000),Zaf (Zaf (A.le 0 n0) (Nat.blt (A.nat n0) (A.lenA l))) true,!A.not (Zae ((A.nthA l (A.nat n0)).cellAt 0).toI 0 (A.sub (A.int (A.lenA ks)) 1)),A.inR .i64 (A.sub (A.int (A.lenA ks)) 1),Zaf (Zaf (A.le 0 n0) (Nat.blt (A.nat n0) (A.lenA l))) true,A.lt n0 (A.int (A.lenA l))],
  AV.tup [AV.int .i64 n0,AV.int .i64 9],none):=by kernel_rfl
theorem ZBU(A:Ar)(ms ks rs l:List AV)(n0:Int):Zay A tab B3 57 [true,false,false,false,false,false,false,false,false,false,false,false,false] (ZbO ms ks rs l n0) (Zbs ms ks rs l n0)=
 some (tr [1,1,4,5,2,12,4,6,2,2,5,2,4] [A.inR .i64 (A.add n0 1),!A.lt ((A.nthA l (A.nat n0)).cellAt 2).toI ((A.nthA l (A.nat n0)).cellAt 1).toI,Zaf (Zaf (A.le 0 n0) (Nat.blt (A.nat n0) (A.lenA l))) true,Zaf (Zaf (A.le 0 n0) (Nat.blt (A.nat n0) (A.lenA l))) true,!A.not (Zae ((A.nthA l (A.nat n0)).cellAt 2).toI 0 1000000000000),Zaf (Zaf (A.le 0 n0) (Nat.blt (A.nat n0) (A.lenA l))) true,!A.not (Zae ((A.nthA l (A.nat n0)).cellAt 1).toI 0 1000000000000),Zaf (Zaf (A.le 0 n0) (Nat.blt (A.nat n0) (A.lenA l))) true,!A.not (Zae ((A.nthA l (A.nat n0)).cellAt 0).toI 0 (A.sub (A.int (A.lenA ks)) 1)),A.inR .i64 (A.sub (A.int (A.lenA ks)) 1),Zaf (Zaf (A.le 0 n0) (Nat.blt (A.nat n0) (A.lenA l))) true,A.lt n0 (A.int (A.lenA l))],
  Zh3 (ms) (ks) (rs) (l) (A.add n0 1)):=by kernel_rfl
theorem ZCJ(A:Ar)(ms ks rs l:List AV)(n0:Int):ZaT A tab B3 17 [false] 76 (ZbO ms ks rs l n0) (Zbs ms ks rs l n0)=
 some (tr [3,4] [!A.lt n0 (A.int (A.lenA l))],
  AV.tup [AV.int .i64 0,AV.int .i64 0],none):=by kernel_rfl
end Go.Proofs.YtkeoeooghhjibaaGreatDoor
/- Paths of functions, printed by the explorer (Gx). No condition. -/
namespace Go.Proofs.YtkeoeooghhjibaaGreatDoor
set_option maxRecDepth 100000
set_option linter.unusedVariables false
def ZoJ(s:List UInt8):AFrame:={ fn:=151,N:=18,env:=[(0,AV.nils),(1,AV.str s)],todo:=[.code a151.code],defs:=[],rnd:=none,ret:=false,res:=[ARes.tmp 4] }
def ZAf(s:List UInt8):List AFrame:=[(ZoJ s)]
theorem Zo2(s:List UInt8):Zat tab 151 [AV.nils,AV.str s]=some (ZoJ s):=rfl
def ZfM(s:List UInt8):List AFrame:=[{ fn:=151,N:=18,env:=[(0,AV.nils),(1,AV.str s),(5,AV.int .i64 0)],todo:=.code (ACode.gh [] ZoE)::ZrJ,defs:=[],rnd:=none,ret:=false,res:=[ARes.tmp 4] }]
def ZeJ(s:List UInt8):Zab:=[]
abbrev Zje(s:List UInt8):List AFrame×Zab:=(ZfM s,ZeJ s)
theorem Ztw(A:Ar)(s:List UInt8):Zay A tab B3 12 [] (ZAf s) []=
 some (tr [2] [],
  Zje (s)):=by kernel_rfl
theorem Zv9(A:Ar)(s:List UInt8):ZaT A tab B3 16 [false] 151 (ZfM s) (ZeJ s)=
 some (tr [2,4] [!A.lt 0 (A.int 0)],
  AV.bool false,none):=by kernel_rfl
end Go.Proofs.YtkeoeooghhjibaaGreatDoor
/- CheckModel of the program. No condition. -/
namespace Go.Proofs.YtkeoeooghhjibaaGreatDoor
def Zbf(p i e:Int):AV:=.tup [.agg (.gen [.int .i64 p, .int .i64 i]), .int .i64 e]
def Zcv(nm:List UInt8)(ex:Int)(xs:List AV):Int:=Zas [Zaa (ZaM nm) 4,Zaa (!std.hasS xs nm) 5,ex]
def Zce(a b:Bool):Int:=Zas [Zaa a 10,Zaa b 8]
def Zbg(nm:Nat→List UInt8)(ex:Nat→Int):Nat→Nat→List AV→Option (Nat×Int)
 |0,_,_=>none
 |m+1,k,xs=>if Zcv (nm k) (ex k) xs=0 then Zbg nm ex m (k+1) (xs++[.str (nm k)])else some (k,Zcv (nm k) (ex k) xs)
def Zbx(p:Int)(o:Option (Nat×Int))(d:AV):AV:=match o with |some (k,e)=>Zbf p k e |none=>d
def ZpB(ms ks rs:List AV):AV:=Zbx 3 (Zbg (fun k=>Zau rs k) (fun k=>ZbM rs k ks.length ms.length) rs.length 0 []) (Zbf 0 0 0)
def Zm5(ms ks rs:List AV):AV:=Zbx 2 (Zbg (fun k=>Zau ks k) (fun k=>ZcK ks k ms.length) ks.length 0 []) (if Zce (decide (0≤(rs.length:Int))) (decide ((rs.length:Int)≤10))=0 then ZpB ms ks rs else Zbf 3 0 (Zce (decide (0≤(rs.length:Int))) (decide ((rs.length:Int)≤10))))
def Zrj(ms ks rs:List AV):AV:=Zbx 1 (Zbg (fun k=>Za2 ms k) (fun _=>0) ms.length 0 []) (if Zce (decide (1≤(ks.length:Int))) (decide ((ks.length:Int)≤8))=0 then Zm5 ms ks rs else Zbf 2 0 (Zce (decide (1≤(ks.length:Int))) (decide ((ks.length:Int)≤8))))
def Zeb(ms ks rs:List AV):AV:=if Zce (decide (1≤(ms.length:Int))) (decide ((ms.length:Int)≤6))=0 then Zrj ms ks rs else Zbf 1 0 (Zce (decide (1≤(ms.length:Int))) (decide ((ms.length:Int)≤6)))
def ZaB(ms ks rs:List AV):Bool:=(ms.all fun x=>decide (x.toS.length≤1000000))&&(ks.all fun x=>decide ((x.cellAt 0).toS.length≤1000000))&&(rs.all fun x=>decide ((x.cellAt 0).toS.length≤1000000))&&decide (ms.length≤1000000∧ks.length≤1000000∧rs.length≤1000000)
theorem Zot{xs:List AV}{k:Nat}(h:k<xs.length):xs.getD k .top∈xs:=by
 rw[List.getD_eq_getElem?_getD,List.getElem?_eq_getElem h];exact List.getElem_mem h
theorem Zb1{ks:List AV}(h:(ks.all fun x=>decide ((x.cellAt 0).toS.length≤1000000))=true){k:Nat}(hk:k<ks.length):(Zau ks k).length≤1000000:=by
 have:=List.all_eq_true.1 h _ (Zot hk)
 simpa[Zau]using this
theorem Ziw{ks:List AV}(h:(ks.all fun x=>decide (x.toS.length≤1000000))=true){k:Nat}(hk:k<ks.length):(Za2 ks k).length≤1000000:=by
 have:=List.all_eq_true.1 h _ (Zot hk)
 simpa[Za2]using this
theorem ZrL{a b c:Int}(h:Zas [a,b,c]=0):a=0∧b=0∧c=0:=by
 simp only[Zas]at h
 by_cases h1:a=0
 ·by_cases h2:b=0
  ·by_cases h3:c=0
   ·exact⟨h1,h2,h3⟩
   ·simp[h1,h2,h3]at h
  ·simp[h1,h2]at h
 ·simp[h1]at h
theorem Zjc{nm:List UInt8}{ex:Int}{xs:List AV}(h:Zcv nm ex xs=0):std.hasS xs nm=false:=by
 have:=(ZrL h).2.1
 unfold Zaa at this
 split at this
 ·rename_i e;simpa using e
 ·cases this
theorem bx3(x y z:Int):([AV.int .i64 x,AV.int .i64 y,AV.int .i64 z].all fun x=>AV.bx x&&Nat.beq (Zai std x) 1)=true:=rfl
theorem bx2(x y:Int):([AV.int .i64 x,AV.int .i64 y].all fun x=>AV.bx x&&Nat.beq (Zai std x) 1)=true:=rfl
section
variable {C:Ctx}(hC:C.P=Tryz.prog)(ms ks rs:List AV)(hs:ZaB ms ks rs=true)
include hC hs
theorem ZAK(n1:Int):∀(m k:Nat) (xs:List AV),k+m=rs.length→Ev C (Zb4 ms ks rs n1 ms.length ks.length rs.length rs.length k xs) (ZbJ ms ks rs n1 ms.length ks.length rs.length rs.length k xs)
 (Zb3 136 (Zbx 3 (Zbg (fun k=>Zau rs k) (fun k=>ZbM rs k ks.length ms.length) m k xs) (Zbf 0 0 0)) none)
 |0,k,xs,hk=>fin hC Za0 (ZtT std ms ks rs n1 ms.length ks.length rs.length rs.length k xs) (by simp;omega) rfl rfl
 |m+1,k,xs,hk=>by
  simp only[ZaB,Bool.and_eq_true,decide_eq_true_eq]at hs
  have hn:=Zb1 hs.1.2 (show k<rs.length by omega)
  by_cases h:Zcv (Zau rs k) (ZbM rs k ks.length ms.length) xs=0
  ·have hnew:=Zjc h
   have h':=h
   unfold Zcv at h'
   refine go hC Za0 (Zvm std ms ks rs n1 ms.length ks.length rs.length rs.length k xs) (by simp only[bx3];simp[-Zdi,hnew,hn];simp[-Zdi,hnew]at h';simp[h'];omega) ?_
   have:=ZAK n1 m (k+1) (xs++[.str (Zau rs k)]) (by omega)
   rw[Zbg,if_pos h]
   exact this
  ·have h':=h
   unfold Zcv at h'
   rw[Zbg,if_neg h]
   exact fin hC Za0 (Ztt std ms ks rs n1 ms.length ks.length rs.length rs.length k xs) (by simp only[bx3];simp[-Zdi,hn,h'];omega) rfl rfl
theorem ZxB(n1:Int):∀(m k:Nat) (xs:List AV),k+m=ks.length→Ev C (ZbA ms ks rs n1 ms.length ks.length k xs) (Zbr ms ks rs n1 ms.length ks.length k xs)
 (Zb3 136 (Zbx 2 (Zbg (fun k=>Zau ks k) (fun k=>ZcK ks k ms.length) m k xs) (if Zce (decide (0≤(rs.length:Int))) (decide ((rs.length:Int)≤10))=0 then ZpB ms ks rs else Zbf 3 0 (Zce (decide (0≤(rs.length:Int))) (decide ((rs.length:Int)≤10))))) none)
 |0,k,xs,hk=>by
  by_cases h:Zce (decide (0≤(rs.length:Int))) (decide ((rs.length:Int)≤10))=0
  ·have h':=h
   unfold Zce at h'
   rw[if_pos h]
   refine go hC Za0 (ZxX std ms ks rs n1 ms.length ks.length k xs) (by simp only[bx2,Zsm,Zgc,Zc5,h'];simp;omega) ?_
   exact ZAK hC ms ks rs hs n1 rs.length 0 [] (by omega)
  ·have h':=h
   unfold Zce at h'
   rw[if_neg h]
   exact fin hC Za0 (ZAJ std ms ks rs n1 ms.length ks.length k xs) (by simp only[bx2,ZA7,Zsm,Zgc,Zc5,h'];simp;omega) rfl rfl
 |m+1,k,xs,hk=>by
  have hs':=hs
  simp only[ZaB,Bool.and_eq_true,decide_eq_true_eq]at hs'
  have hn:=Zb1 hs'.1.1.2 (show k<ks.length by omega)
  by_cases h:Zcv (Zau ks k) (ZcK ks k ms.length) xs=0
  ·have hnew:=Zjc h
   have h':=h
   unfold Zcv at h'
   refine go hC Za0 (Zw4 std ms ks rs n1 ms.length ks.length k xs) (by simp only[bx3];simp[-Zdi,hnew,hn];simp[-Zdi,hnew]at h';simp[h'];omega) ?_
   have:=ZxB n1 m (k+1) (xs++[.str (Zau ks k)]) (by omega)
   rw[Zbg,if_pos h]
   exact this
  ·have h':=h
   unfold Zcv at h'
   rw[Zbg,if_neg h]
   exact fin hC Za0 (Zyx std ms ks rs n1 ms.length ks.length k xs) (by simp only[bx3];simp[-Zdi,hn,h'];omega) rfl rfl
theorem ZwX(n1:Int):∀(m k:Nat) (xs:List AV),k+m=ms.length→Ev C (ZbF ms ks rs ms.length n1 ms.length ks.length k xs) (Zbp ms ks rs ms.length n1 ms.length ks.length k xs)
 (Zb3 136 (Zbx 1 (Zbg (fun k=>Za2 ms k) (fun _=>0) m k xs) (if Zce (decide (1≤(ks.length:Int))) (decide ((ks.length:Int)≤8))=0 then Zm5 ms ks rs else Zbf 2 0 (Zce (decide (1≤(ks.length:Int))) (decide ((ks.length:Int)≤8))))) none)
 |0,k,xs,hk=>by
  by_cases h:Zce (decide (1≤(ks.length:Int))) (decide ((ks.length:Int)≤8))=0
  ·have h':=h
   unfold Zce at h'
   rw[if_pos h]
   refine go hC Za0 (ZxD std ms ks rs ms.length n1 ms.length ks.length k xs) (by simp only[bx2,Zsm,Zgc,Zc5,h'];simp;omega) ?_
   exact ZxB hC ms ks rs hs n1 ks.length 0 [] (by omega)
  ·have h':=h
   unfold Zce at h'
   rw[if_neg h]
   exact fin hC Za0 (ZyS std ms ks rs ms.length n1 ms.length ks.length k xs) (by simp only[bx2,ZA7,Zsm,Zgc,Zc5,h'];simp;omega) rfl rfl
 |m+1,k,xs,hk=>by
  have hs':=hs
  simp only[ZaB,Bool.and_eq_true,decide_eq_true_eq]at hs'
  have hn:=Ziw hs'.1.1.1 (show k<ms.length by omega)
  by_cases h:Zcv (Za2 ms k) 0 xs=0
  ·have hnew:=Zjc h
   have h':=h
   unfold Zcv at h'
   refine go hC Za0 (ZyX std ms ks rs ms.length n1 ms.length ks.length k xs) (by simp only[bx3];simp[-Zdi,hnew,hn];simp[-Zdi,hnew]at h';simp[h'];omega) ?_
   have:=ZwX n1 m (k+1) (xs++[.str (Za2 ms k)]) (by omega)
   rw[Zbg,if_pos h]
   exact this
  ·have h':=h
   unfold Zcv at h'
   rw[Zbg,if_neg h]
   exact fin hC Za0 (ZzK std ms ks rs ms.length n1 ms.length ks.length k xs) (by simp only[bx3];simp[-Zdi,hn,h'];omega) rfl rfl
end
theorem Zo8(ms ks rs:List AV)(hs:ZaB ms ks rs=true):Zan Tryz.prog 136 [.agg (.gen [.list (.big .str ms), .list (.big (.agg [.str, .int .i64]) ks), .list (.big (.agg [.str, .int .i64, .int .i64, .int .i64, .int .i64]) rs)])] (Zeb ms ks rs) none:=
 start (Zqw ms ks rs) fun C hC=>by
  by_cases h:Zce (decide (1≤(ms.length:Int))) (decide ((ms.length:Int)≤6))=0
  ·have h':=h
   unfold Zce at h'
   rw[Zeb,if_pos h]
   refine go hC Za0 (ZxN std ms ks rs) (by simp only[bx2,Zsm,Zgc,Zc5,h'];simp) ?_
   exact ZwX hC ms ks rs hs ms.length ms.length 0 [] (by omega)
  ·have h':=h
   unfold Zce at h'
   rw[Zeb,if_neg h]
   exact fin hC Za0 (ZwF std ms ks rs) (by simp only[bx2,ZA7,Zsm,Zgc,Zc5,h'];simp) rfl rfl
end Go.Proofs.YtkeoeooghhjibaaGreatDoor
/- Contracts as a list. No condition. -/
namespace Go.Proofs.YtkeoeooghhjibaaGreatDoor
theorem Zpt(s:List UInt8):Zan Tryz.prog 151 [.nils, .str s] (.bool false) none:=
 start (Zo2 s) fun C hC=>go hC Za0 (Ztw std s) (by simp) (fin hC Za0 (Zv9 std s) (by simp) rfl rfl)
theorem Zoy(n:Int):Zan Tryz.prog 89 [.int .i64 n] (.bool (Zae n 0 1000000000000)) none:=
 start (Zuf n) fun C hC=>fin hC Za0 (ZBv std n) (by simp) rfl rfl
def mP:AV→Int
 | .tup [.agg (.gen [.int _ p,_]),_]=>p
 |_=>0
def mI:AV→Int
 | .tup [.agg (.gen [_, .int _ i]),_]=>i
 |_=>0
def mE:AV→Int
 | .tup [_, .int _ e]=>e
 |_=>0
def isM(v:AV):Prop:=∃p i e,v=Zbf p i e
theorem isM.eq{v:AV}(h:isM v):v=Zbf (mP v) (mI v) (mE v):=by
 obtain⟨p,i,e,rfl⟩:=h
 rfl
theorem isM.scan{p:Int}{o:Option (Nat×Int)}{d:AV}(h:isM d):isM (Zbx p o d):=by
 unfold Zbx
 split
 ·exact⟨_,_,_,rfl⟩
 ·exact h
theorem isM.ite{c:Prop}[Decidable c]{a b:AV}(ha:isM a)(hb:isM b):isM (if c then a else b):=by
 split
 ·exact ha
 ·exact hb
theorem Zgu(p i e:Int):isM (Zbf p i e):=⟨_,_,_,rfl⟩
theorem Zkx(ms ks rs:List AV):isM (Zeb ms ks rs):=
 .ite (.scan (.ite (.scan (.ite (.scan (Zgu _ _ _)) (Zgu _ _ _))) (Zgu _ _ _))) (Zgu _ _ _)
def Zkk(ms ks rs:List AV):Int:=mP (Zeb ms ks rs)
def Zkn(ms ks rs:List AV):Int:=mI (Zeb ms ks rs)
def ZaJ(ms ks rs:List AV):Int:=mE (Zeb ms ks rs)
theorem Zm6(ms ks rs:List AV)(hs:ZaB ms ks rs=true):Zan Tryz.prog 136 [.agg (.gen [.list (.big .str ms), .list (.big (.agg [.str, .int .i64]) ks), .list (.big (.agg [.str, .int .i64, .int .i64, .int .i64, .int .i64]) rs)])] (.tup [.agg (.gen [.int .i64 (Zkk ms ks rs), .int .i64 (Zkn ms ks rs)]), .int .i64 (ZaJ ms ks rs)]) none:=by
 have:=Zo8 ms ks rs hs
 rw[(Zkx ms ks rs).eq]at this
 exact this
def k151n:Ctr:=⟨151,0,fun _ a=>match a with |[.nils, .str _]=>some (true, .bool false,none) |_=>none⟩
theorem Zqg:k151n.OK Tryz.prog:=fun pa args r fr h=>by
 simp only[k151n]at h
 split at h
 ·cases h
  exact Zpt _
 ·cases h
def k89:Ctr:=⟨89,0,fun _ a=>match a with |[.int .i64 n]=>some (true, .bool (Zae n 0 1000000000000),none) |_=>none⟩
theorem ZyY:k89.OK Tryz.prog:=fun pa args r fr h=>by
 simp only[k89]at h
 split at h
 ·cases h
  exact Zoy _
 ·cases h
def k136:Ctr:=⟨136,0,fun _ a=>match a with |[.agg (.gen [.list (.big .str ms), .list (.big (.agg [.str, .int .i64]) ks), .list (.big (.agg [.str, .int .i64, .int .i64, .int .i64, .int .i64]) rs)])]=>some (decide (ZaB ms ks rs=true), .tup [.agg (.gen [.int .i64 (Zkk ms ks rs), .int .i64 (Zkn ms ks rs)]), .int .i64 (ZaJ ms ks rs)],none) |_=>none⟩
theorem ZtJ:k136.OK Tryz.prog:=fun pa args r fr h=>by
 simp only[k136]at h
 split at h
 ·simp only[Option.some.injEq,Prod.mk.injEq,decide_eq_true_eq]at h
  obtain⟨h0,rfl,rfl⟩:=h
  exact Zm6 _ _ _ h0
 ·cases h
def B4:List Ctr:=[k151n,k89,k136]++B3
theorem ZqS:ZaK Tryz.prog B4:=⟨Zqg,⟨ZyY,⟨ZtJ,Za0⟩⟩⟩
end Go.Proofs.YtkeoeooghhjibaaGreatDoor
/- Paths of functions, printed by the explorer (Gx). No condition. -/
namespace Go.Proofs.YtkeoeooghhjibaaGreatDoor
set_option maxRecDepth 100000
set_option linter.unusedVariables false
def ZwQ(ms ks rs:List AV):AFrame:={ fn:=88,N:=11,env:=[(0,AV.agg (Row.gen [.list (Row.big .str ms), .list (Row.big (.agg [.str, .int .i64]) ks), .list (Row.big (.agg [.str, .int .i64, .int .i64, .int .i64, .int .i64]) rs)]))],todo:=[.code a88.code],defs:=[],rnd:=none,ret:=false,res:=[ARes.tmp 2] }
def ZEr(ms ks rs:List AV):List AFrame:=[(ZwQ ms ks rs)]
theorem Zut(ms ks rs:List AV):Zat tab 88 [AV.agg (Row.gen [.list (Row.big .str ms), .list (Row.big (.agg [.str, .int .i64]) ks), .list (Row.big (.agg [.str, .int .i64, .int .i64, .int .i64, .int .i64]) rs)])]=some (ZwQ ms ks rs):=rfl
theorem ZBO(A:Ar)(ms ks rs:List AV):ZaT A tab B4 23 [] 88 (ZEr ms ks rs) []=
 some (tr [9,3] [decide (ZaB ms ks rs=true)],
  AV.int .i64 (ZaJ ms ks rs),none):=by kernel_rfl
def ZrB(ms ks rs:List AV)(k lo hi:Int):AFrame:={ fn:=120,N:=34,env:=[(0,AV.agg (Row.gen [.list (Row.big .str ms), .list (Row.big (.agg [.str, .int .i64]) ks), .list (Row.big (.agg [.str, .int .i64, .int .i64, .int .i64, .int .i64]) rs)])),(1,AV.agg (Row.gen [.int .i64 k, .int .i64 lo, .int .i64 hi]))],todo:=[.code a120.code],defs:=[],rnd:=none,ret:=false,res:=[ARes.tmp 4] }
def ZyV(ms ks rs:List AV)(k lo hi:Int):List AFrame:=[(ZrB ms ks rs k lo hi)]
theorem Zrg(ms ks rs:List AV)(k lo hi:Int):Zat tab 120 [AV.agg (Row.gen [.list (Row.big .str ms), .list (Row.big (.agg [.str, .int .i64]) ks), .list (Row.big (.agg [.str, .int .i64, .int .i64, .int .i64, .int .i64]) rs)]),AV.agg (Row.gen [.int .i64 k, .int .i64 lo, .int .i64 hi])]=some (ZrB ms ks rs k lo hi):=rfl
theorem Zz5(A:Ar)(ms ks rs:List AV)(k lo hi:Int):ZaT A tab B4 10 [true] 120 (ZyV ms ks rs k lo hi) []=
 some (tr [2,0,14,7,8] [decide (List.length [Zaa (Zae k 0 (A.sub (A.int (A.lenA ks)) 1)) 15,Zaa (Zae hi 0 1000000000000) 2,Zaa (A.le lo hi) 9]≤1000000),List.all [AV.int .i64 (Zaa (Zae k 0 (A.sub (A.int (A.lenA ks)) 1)) 15),AV.int .i64 (Zaa (Zae hi 0 1000000000000) 2),AV.int .i64 (Zaa (A.le lo hi) 9)] fun x=>AV.bx x&&Nat.beq (Zai A x) 1,Zae lo 0 1000000000000,A.inR .i64 (A.sub (A.int (A.lenA ks)) 1)],
  AV.int .i64 (Zas [Zaa (Zae k 0 (A.sub (A.int (A.lenA ks)) 1)) 15,Zaa (Zae hi 0 1000000000000) 2,Zaa (A.le lo hi) 9]),none):=by kernel_rfl
theorem Zz1(A:Ar)(ms ks rs:List AV)(k lo hi:Int):ZaT A tab B4 10 [false] 120 (ZyV ms ks rs k lo hi) []=
 some (tr [2,0,14,7,8] [decide (List.length [Zaa (Zae k 0 (A.sub (A.int (A.lenA ks)) 1)) 15,2,Zaa (A.le lo hi) 9]≤1000000),List.all [AV.int .i64 (Zaa (Zae k 0 (A.sub (A.int (A.lenA ks)) 1)) 15),AV.int .i64 2,AV.int .i64 (Zaa (A.le lo hi) 9)] fun x=>AV.bx x&&Nat.beq (Zai A x) 1,!Zae lo 0 1000000000000,A.inR .i64 (A.sub (A.int (A.lenA ks)) 1)],
  AV.int .i64 (Zas [Zaa (Zae k 0 (A.sub (A.int (A.lenA ks)) 1)) 15,2,Zaa (A.le lo hi) 9]),none):=by kernel_rfl
end Go.Proofs.YtkeoeooghhjibaaGreatDoor
/- Contracts as a list. No condition. -/
namespace Go.Proofs.YtkeoeooghhjibaaGreatDoor
def Zmu(n k lo hi:Int):Int:=Zas [Zaa (Zae k 0 (n-1)) 15,Zaa (Zae lo 0 1000000000000&&Zae hi 0 1000000000000) 2,Zaa (decide (lo≤hi)) 9]
theorem ZpS(ms ks rs:List AV)(h:ZaB ms ks rs=true):Zan Tryz.prog 88 [.agg (.gen [.list (.big .str ms), .list (.big (.agg [.str, .int .i64]) ks), .list (.big (.agg [.str, .int .i64, .int .i64, .int .i64, .int .i64]) rs)])] (.int .i64 (ZaJ ms ks rs)) none:=
 start (Zut ms ks rs) fun C hC=>fin hC ZqS (ZBO std ms ks rs) (by simp[h]) rfl rfl
theorem ZpT(ms ks rs:List AV)(k lo hi:Int)(h:ks.length≤1000000):Zan Tryz.prog 120 [.agg (.gen [.list (.big .str ms), .list (.big (.agg [.str, .int .i64]) ks), .list (.big (.agg [.str, .int .i64, .int .i64, .int .i64, .int .i64]) rs)]), .agg (.gen [.int .i64 k, .int .i64 lo, .int .i64 hi])] (.int .i64 (Zmu ks.length k lo hi)) none:=
 start (Zrg ms ks rs k lo hi) fun C hC=>by
  by_cases h1:Zae lo 0 1000000000000=true
  ·exact fin hC ZqS (Zz5 std ms ks rs k lo hi) (by simp only[bx3];simp[h1];omega) (by simp[Zmu,h1]) rfl
  ·exact fin hC ZqS (Zz1 std ms ks rs k lo hi) (by simp only[bx3];simp[h1];omega) (by unfold Zmu;rw[(by simpa using h1:Zae lo 0 1000000000000=false)];rfl) rfl
def k88:Ctr:=⟨88,0,fun _ a=>match a with |[.agg (.gen [.list (.big .str ms), .list (.big (.agg [.str, .int .i64]) ks), .list (.big (.agg [.str, .int .i64, .int .i64, .int .i64, .int .i64]) rs)])]=>some (decide (ZaB ms ks rs=true), .int .i64 (ZaJ ms ks rs),none) |_=>none⟩
theorem ZxI:k88.OK Tryz.prog:=fun pa args r fr h=>by
 simp only[k88]at h
 split at h
 ·simp only[Option.some.injEq,Prod.mk.injEq,decide_eq_true_eq]at h
  obtain⟨h0,rfl,rfl⟩:=h
  exact ZpS _ _ _ h0
 ·cases h
def k120:Ctr:=⟨120,0,fun _ a=>match a with |[.agg (.gen [.list (.big .str _), .list (.big (.agg [.str, .int .i64]) ks), .list (.big (.agg [.str, .int .i64, .int .i64, .int .i64, .int .i64]) _)]), .agg (.gen [.int .i64 k, .int .i64 lo, .int .i64 hi])]=>some (decide (ks.length≤1000000), .int .i64 (Zmu ks.length k lo hi),none) |_=>none⟩
theorem Zwd:k120.OK Tryz.prog:=fun pa args r fr h=>by
 simp only[k120]at h
 split at h
 ·simp only[Option.some.injEq,Prod.mk.injEq,decide_eq_true_eq]at h
  obtain⟨h0,rfl,rfl⟩:=h
  exact ZpT _ _ _ _ _ _ h0
 ·cases h
def B5:List Ctr:=[k88,k120]++B4
theorem Zm3:ZaK Tryz.prog B5:=⟨ZxI,⟨Zwd,ZqS⟩⟩
end Go.Proofs.YtkeoeooghhjibaaGreatDoor
/- Paths of functions, printed by the explorer (Gx). No condition. -/
namespace Go.Proofs.YtkeoeooghhjibaaGreatDoor
set_option maxRecDepth 100000
set_option linter.unusedVariables false
def Zxm(ms ks rs l:List AV):AFrame:={ fn:=71,N:=40,env:=[(0,AV.agg (Row.gen [.list (Row.big .str ms), .list (Row.big (.agg [.str, .int .i64]) ks), .list (Row.big (.agg [.str, .int .i64, .int .i64, .int .i64, .int .i64]) rs)])),(1,AV.list (Row.big (.agg [.int .i64, .int .i64, .int .i64]) l))],todo:=[.code a71.code],defs:=[],rnd:=none,ret:=false,res:=[ARes.tmp 4,ARes.tmp 5] }
def ZDZ(ms ks rs l:List AV):List AFrame:=[(Zxm ms ks rs l)]
theorem ZuA(ms ks rs l:List AV):Zat tab 71 [AV.agg (Row.gen [.list (Row.big .str ms), .list (Row.big (.agg [.str, .int .i64]) ks), .list (Row.big (.agg [.str, .int .i64, .int .i64, .int .i64, .int .i64]) rs)]),AV.list (Row.big (.agg [.int .i64, .int .i64, .int .i64]) l)]=some (Zxm ms ks rs l):=rfl
def Zdv(ms ks rs l:List AV)(n0 n1:Int):List AFrame:=[{ fn:=71,N:=40,env:=[(2,AV.ptr 71003 0 0 0),(25,AV.list (Row.big (.agg [.int .i64, .int .i64, .int .i64]) l)),(26,AV.int .i64 n0),(27,AV.int .i64 n1)],todo:=.code (ACode.gh [] ZzJ)::ZCb,defs:=[],rnd:=none,ret:=false,res:=[ARes.tmp 4,ARes.tmp 5] }]
def ZcJ(ms ks rs l:List AV)(n0 n1:Int):Zab:=[(71003,{ base:=0,blks:=[Blk.row 26 3 (Row.gen [AV.agg (Row.gen [AV.list (Row.big .str ms),AV.list (Row.big (.agg [.str, .int .i64]) ks),AV.list (Row.big (.agg [.str, .int .i64, .int .i64, .int .i64, .int .i64]) rs)])])] })]
abbrev ZhZ(ms ks rs l:List AV)(n0 n1:Int):List AFrame×Zab:=(Zdv ms ks rs l n0 n1,ZcJ ms ks rs l n0 n1)
theorem ZB2(A:Ar)(ms ks rs l:List AV):ZaT A tab B5 37 [true] 71 (ZDZ ms ks rs l) []=
 some (tr [4,3,0,8,4] [A.not (A.eq (Zas [ZaJ ms ks rs,Zaa (A.lt 0 (A.int (A.lenA l))) 10,Zaa (A.le (A.int (A.lenA l)) 12) 8]) 0),decide (List.length [ZaJ ms ks rs,Zaa (A.lt 0 (A.int (A.lenA l))) 10,Zaa (A.le (A.int (A.lenA l)) 12) 8]≤1000000),List.all [AV.int .i64 (ZaJ ms ks rs),AV.int .i64 (Zaa (A.lt 0 (A.int (A.lenA l))) 10),AV.int .i64 (Zaa (A.le (A.int (A.lenA l)) 12) 8)] fun x=>AV.bx x&&Nat.beq (Zai A x) 1,decide (ZaB ms ks rs=true)],
  AV.tup [AV.int .i64 0,AV.int .i64 (Zas [ZaJ ms ks rs,Zaa (A.lt 0 (A.int (A.lenA l))) 10,Zaa (A.le (A.int (A.lenA l)) 12) 8])],none):=by kernel_rfl
theorem ZBI(A:Ar)(ms ks rs l:List AV):Zay A tab B5 41 [false] (ZDZ ms ks rs l) []=
 some (tr [3,3,0,8,4] [!A.not (A.eq (Zas [ZaJ ms ks rs,Zaa (A.lt 0 (A.int (A.lenA l))) 10,Zaa (A.le (A.int (A.lenA l)) 12) 8]) 0),decide (List.length [ZaJ ms ks rs,Zaa (A.lt 0 (A.int (A.lenA l))) 10,Zaa (A.le (A.int (A.lenA l)) 12) 8]≤1000000),List.all [AV.int .i64 (ZaJ ms ks rs),AV.int .i64 (Zaa (A.lt 0 (A.int (A.lenA l))) 10),AV.int .i64 (Zaa (A.le (A.int (A.lenA l)) 12) 8)] fun x=>AV.bx x&&Nat.beq (Zai A x) 1,decide (ZaB ms ks rs=true)],
  ZhZ (ms) (ks) (rs) (l) (A.int (A.lenA l)) (0)):=by kernel_rfl
theorem ZBT(A:Ar)(ms ks rs l:List AV)(n0 n1:Int):ZaT A tab B5 40 [true,true] 71 (Zdv ms ks rs l n0 n1) (ZcJ ms ks rs l n0 n1)=
 some (tr [5,3,6,1,1] [A.not (A.eq (Zmu (↑(List.length ks)) ((A.nthA l (A.nat n1)).cellAt 0).toI ((A.nthA l (A.nat n1)).cellAt 1).toI ((A.nthA l (A.nat n1)).cellAt 2).toI) 0),decide (List.length ks≤1000000),Zaf (Zaf (A.le 0 n1) (Nat.blt (A.nat n1) (A.lenA l))) true,A.lt n1 n0],
  AV.tup [AV.int .i64 n1,AV.int .i64 (Zmu (↑(List.length ks)) ((A.nthA l (A.nat n1)).cellAt 0).toI ((A.nthA l (A.nat n1)).cellAt 1).toI ((A.nthA l (A.nat n1)).cellAt 2).toI)],none):=by kernel_rfl
theorem ZBp(A:Ar)(ms ks rs l:List AV)(n0 n1:Int):Zay A tab B5 40 [true,false] (Zdv ms ks rs l n0 n1) (ZcJ ms ks rs l n0 n1)=
 some (tr [1,0,3,6,1,1] [A.inR .i64 (A.add n1 1),!A.not (A.eq (Zmu (↑(List.length ks)) ((A.nthA l (A.nat n1)).cellAt 0).toI ((A.nthA l (A.nat n1)).cellAt 1).toI ((A.nthA l (A.nat n1)).cellAt 2).toI) 0),decide (List.length ks≤1000000),Zaf (Zaf (A.le 0 n1) (Nat.blt (A.nat n1) (A.lenA l))) true,A.lt n1 n0],
  ZhZ (ms) (ks) (rs) (l) (n0) (A.add n1 1)):=by kernel_rfl
theorem ZCR(A:Ar)(ms ks rs l:List AV)(n0 n1:Int):ZaT A tab B5 14 [false] 71 (Zdv ms ks rs l n0 n1) (ZcJ ms ks rs l n0 n1)=
 some (tr [3,1] [!A.lt n1 n0],
  AV.tup [AV.int .i64 0,AV.int .i64 0],none):=by kernel_rfl
end Go.Proofs.YtkeoeooghhjibaaGreatDoor
/- CheckFile of the program. No condition. -/
namespace Go.Proofs.YtkeoeooghhjibaaGreatDoor
def Zln(i e:Int):AV:=.tup [.int .i64 i, .int .i64 e]
def ZeW(f:Nat→Int):Nat→Nat→AV
 |0,_=>Zln 0 0
 |m+1,k=>if f k=0 then ZeW f m (k+1)else Zln k (f k)
def Zhv(n:Int)(l:List AV)(k:Nat):Int:=Zmu n (Zag l k 0) (Zag l k 1) (Zag l k 2)
def Zgh(e:Int)(l:List AV):Int:=Zas [e,Zaa (decide (0<(l.length:Int))) 10,Zaa (decide ((l.length:Int)≤12)) 8]
def ZeR(e n:Int)(l:List AV):AV:=if Zgh e l=0 then ZeW (Zhv n l) l.length 0 else Zln 0 (Zgh e l)
theorem ZhH{C:Ctx}(hC:C.P=Tryz.prog)(ms ks rs l:List AV)(hk:ks.length≤1000000)(hl:l.length≤1000000):∀(m k:Nat),k+m=l.length→Ev C (Zdv ms ks rs l l.length k) (ZcJ ms ks rs l l.length k) (Zb3 71 (ZeW (Zhv ks.length l) m k) none)
 |0,k,h=>fin hC Zm3 (ZCR std ms ks rs l l.length k) (by simp;omega) rfl rfl
 |m+1,k,h=>by
  by_cases h1:Zhv ks.length l k=0
  ·have h2:=h1
   unfold Zhv Zag at h2
   refine go hC Zm3 (ZBp std ms ks rs l l.length k) (by simp[-List.getD_eq_getElem?_getD]at h2 ⊢;simp[-List.getD_eq_getElem?_getD,h2];omega) ?_
   rw[ZeW,if_pos h1]
   exact ZhH hC ms ks rs l hk hl m (k+1) (by omega)
  ·have h2:=h1
   unfold Zhv Zag at h2
   rw[ZeW,if_neg h1]
   exact fin hC Zm3 (ZBT std ms ks rs l l.length k) (by simp[-List.getD_eq_getElem?_getD]at h2 ⊢;simp[-List.getD_eq_getElem?_getD,h2];omega) rfl rfl
theorem ZpY(ms ks rs l:List AV)(hs:ZaB ms ks rs=true)(hl:l.length≤1000000):Zan Tryz.prog 71 [.agg (.gen [.list (.big .str ms), .list (.big (.agg [.str, .int .i64]) ks), .list (.big (.agg [.str, .int .i64, .int .i64, .int .i64, .int .i64]) rs)]), .list (.big (.agg [.int .i64, .int .i64, .int .i64]) l)] (ZeR (ZaJ ms ks rs) ks.length l) none:=
 start (ZuA ms ks rs l) fun C hC=>by
  have hk:ks.length≤1000000:=by
   simp only[ZaB,Bool.and_eq_true,decide_eq_true_eq]at hs
   exact hs.2.2.1
  by_cases h:Zgh (ZaJ ms ks rs) l=0
  ·have h':=h
   unfold Zgh at h'
   rw[ZeR,if_pos h]
   refine go hC Zm3 (ZBI std ms ks rs l) (by simp only[bx3,Zsm,Zr2,Zgc,Zc5,h'];simp[hs]) ?_
   exact ZhH hC ms ks rs l hk hl l.length 0 (by omega)
  ·have h':=h
   unfold Zgh at h'
   rw[ZeR,if_neg h]
   exact fin hC Zm3 (ZB2 std ms ks rs l) (by simp only[bx3,ZA7,Zsm,Zr2,Zgc,Zc5,h'];simp[hs]) rfl rfl
end Go.Proofs.YtkeoeooghhjibaaGreatDoor
/- CheckFile of the reference. No condition. -/
namespace Go.Proofs.YtkeoeooghhjibaaGreatDoor
theorem Zgt{f:Nat→Int}{m k:Nat}{v:Int}(h:f k=v)(hv:v≠0):ZeW f (m+1) k=Zln k v:=by
 rw[ZeW,if_neg (by rw[h];exact hv),h]
theorem ZgY{C:Ctx}(hC:C.P=Tryz.prog)(ms ks rs l:List AV)(hk:ks.length≤1000000)(hl:l.length≤1000000):∀(m k:Nat),k+m=l.length→Ev C (ZbO ms ks rs l k) (Zbs ms ks rs l k) (Zb3 76 (ZeW (Zhv ks.length l) m k) none)
 |0,k,h=>fin hC Za0 (ZCJ std ms ks rs l k) (by simp;omega) rfl rfl
 |m+1,k,h=>by
  have e0:((l.getD k .top).cellAt 0).toI=Zag l k 0:=rfl
  have e1:((l.getD k .top).cellAt 1).toI=Zag l k 1:=rfl
  have e2:((l.getD k .top).cellAt 2).toI=Zag l k 2:=rfl
  by_cases h2:Zae (Zag l k 0) 0 ((ks.length:Int)-1)=true
  ·by_cases h3:Zae (Zag l k 1) 0 1000000000000=true
   ·by_cases h4:Zae (Zag l k 2) 0 1000000000000=true
    ·by_cases h5:Zag l k 2<Zag l k 1
     ·rw[Zgt (show Zhv ks.length l k=9 by simp[Zhv,Zmu,Zas,Zaa,h2,h3,h4];omega) (by decide)]
      exact fin hC Za0 (ZCj std ms ks rs l k) (by simp[-List.getD_eq_getElem?_getD,e0,e1,e2,h2,h3,h4];omega) rfl rfl
     ·refine go hC Za0 (ZBU std ms ks rs l k) (by simp[-List.getD_eq_getElem?_getD,e0,e1,e2,h2,h3,h4];omega) ?_
      rw[ZeW,if_pos (show Zhv ks.length l k=0 by simp[Zhv,Zmu,Zas,Zaa,h2,h3,h4];omega)]
      exact ZgY hC ms ks rs l hk hl m (k+1) (by omega)
    ·rw[Zgt (show Zhv ks.length l k=2 by simp[Zhv,Zmu,Zas,Zaa,h2,h3,h4]) (by decide)]
     exact fin hC Za0 (ZBs std ms ks rs l k) (by simp[-List.getD_eq_getElem?_getD,e0,e1,e2,h2,h3,h4];omega) rfl rfl
   ·rw[Zgt (show Zhv ks.length l k=2 by simp[Zhv,Zmu,Zas,Zaa,h2,h3]) (by decide)]
    exact fin hC Za0 (ZCH std ms ks rs l k) (by simp[-List.getD_eq_getElem?_getD,e0,e1,e2,h2,h3];omega) rfl rfl
  ·rw[Zgt (show Zhv ks.length l k=15 by simp[Zhv,Zmu,Zas,Zaa,h2]) (by decide)]
   exact fin hC Za0 (ZBx std ms ks rs l k) (by simp[-List.getD_eq_getElem?_getD,e0,e1,e2,h2];omega) rfl rfl
theorem Zor(ms ks rs l:List AV)(hk:ks.length≤1000000)(hl:l.length≤1000000):Zan Tryz.prog 76 [.agg (.gen [.list (.big .str ms), .list (.big (.agg [.str, .int .i64]) ks), .list (.big (.agg [.str, .int .i64, .int .i64, .int .i64, .int .i64]) rs)]), .list (.big (.agg [.int .i64, .int .i64, .int .i64]) l)] (ZeR 0 ks.length l) none:=
 start (Zs6 ms ks rs l) fun C hC=>by
  by_cases h1:l=[]
  ·have e:Zgh 0 l=10:=by rw[h1];rfl
   rw[ZeR,if_neg (by rw[e];decide),e]
   exact fin hC Za0 (ZCK std ms ks rs l) (by simp[h1]) rfl rfl
  ·have h0:0<l.length:=List.length_pos_iff.2 h1
   by_cases h2:12<l.length
   ·have e:Zgh 0 l=8:=by
     unfold Zgh
     rw[decide_eq_true (show 0<(l.length:Int) by omega),decide_eq_false (show ¬(l.length:Int)≤12 by omega)];rfl
    rw[ZeR,if_neg (by rw[e];decide),e]
    exact fin hC Za0 (ZCe std ms ks rs l) (by simp[h1];omega) rfl rfl
   ·have e:Zgh 0 l=0:=by
     unfold Zgh
     rw[decide_eq_true (show 0<(l.length:Int) by omega),decide_eq_true (show (l.length:Int)≤12 by omega)];rfl
    rw[ZeR,if_pos e]
    refine go hC Za0 (ZBk std ms ks rs l) (by simp[h1];omega) ?_
    exact ZgY hC ms ks rs l hk hl l.length 0 (by omega)
end Go.Proofs.YtkeoeooghhjibaaGreatDoor
/- Few. No condition. -/
namespace Go.Proofs.YtkeoeooghhjibaaGreatDoor
def ZyM(x:AV):Bool:=decide (x.toS.length≤20)
def ZnW(x:AV):Bool:=decide ((x.cellAt 0).toS.length≤20)
def ZpO(ms ks rs:List AV):Bool:=decide (ms.length≤8∧ks.length≤10∧rs.length≤12)&&(ms.all ZyM&&(ks.all ZnW&&rs.all ZnW))
theorem Zk4{xs:List AV}{k:Nat}(h:k<xs.length):xs.drop k=xs.getD k .top::xs.drop (k+1):=by
 rw[List.drop_eq_getElem_cons h,List.getD_eq_getElem?_getD,List.getElem?_eq_getElem h];rfl
section
variable {C:Ctx}(hC:C.P=Tryz.prog)(ms ks rs:List AV)(hl:ms.length≤8∧ks.length≤10∧rs.length≤12)
include hC hl
theorem ZyN:∀(m k:Nat),k+m=rs.length→Ev C (Zda ms ks rs k) (ZcD ms ks rs k) (Zb3 23 (.bool ((rs.drop k).all ZnW)) none)
 |0,k,h=>fin hC Za0 (Zyp std ms ks rs k) (by simp;omega) (by rw[List.drop_of_length_le (by omega)];rfl) rfl
 |m+1,k,h=>by
  rw[Zk4 (show k<rs.length by omega)]
  by_cases h1:((rs.getD k .top).cellAt 0).toS.length≤20
  ·refine go hC Za0 (Zx4 std ms ks rs k) (by simp[-List.getD_eq_getElem?_getD];omega) ?_
   rw[List.all_cons,show ZnW (rs.getD k .top)=true from decide_eq_true h1,Bool.true_and]
   exact ZyN m (k+1) (by omega)
  ·exact fin hC Za0 (ZxS std ms ks rs k) (by simp[-List.getD_eq_getElem?_getD];omega) (by rw[List.all_cons,show ZnW (rs.getD k .top)=false from decide_eq_false h1,Bool.false_and]) rfl
theorem Zxy:∀(m k:Nat),k+m=ks.length→Ev C (ZdA ms ks rs k) (ZcO ms ks rs k) (Zb3 23 (.bool ((ks.drop k).all ZnW&&rs.all ZnW)) none)
 |0,k,h=>by
  refine go hC Za0 (ZCg std ms ks rs k) (by simp;omega) ?_
  rw[List.drop_of_length_le (by omega)]
  exact ZyN hC ms ks rs hl rs.length 0 (by omega)
 |m+1,k,h=>by
  rw[Zk4 (show k<ks.length by omega)]
  by_cases h1:((ks.getD k .top).cellAt 0).toS.length≤20
  ·refine go hC Za0 (ZBf std ms ks rs k) (by simp[-List.getD_eq_getElem?_getD];omega) ?_
   rw[List.all_cons,show ZnW (ks.getD k .top)=true from decide_eq_true h1,Bool.true_and]
   exact Zxy m (k+1) (by omega)
  ·exact fin hC Za0 (ZBh std ms ks rs k) (by simp[-List.getD_eq_getElem?_getD];omega) (by rw[List.all_cons,show ZnW (ks.getD k .top)=false from decide_eq_false h1,Bool.false_and,Bool.false_and]) rfl
theorem Zwy:∀(m k:Nat),k+m=ms.length→Ev C (Zdt ms ks rs k) (ZcG ms ks rs k) (Zb3 23 (.bool ((ms.drop k).all ZyM&&(ks.all ZnW&&rs.all ZnW))) none)
 |0,k,h=>by
  refine go hC Za0 (ZCC std ms ks rs k) (by simp;omega) ?_
  rw[List.drop_of_length_le (by omega)]
  exact Zxy hC ms ks rs hl ks.length 0 (by omega)
 |m+1,k,h=>by
  rw[Zk4 (show k<ms.length by omega)]
  by_cases h1:(ms.getD k .top).toS.length≤20
  ·refine go hC Za0 (ZBE std ms ks rs k) (by simp[-List.getD_eq_getElem?_getD];omega) ?_
   rw[List.all_cons,show ZyM (ms.getD k .top)=true from decide_eq_true h1,Bool.true_and]
   exact Zwy m (k+1) (by omega)
  ·exact fin hC Za0 (ZC2 std ms ks rs k) (by simp[-List.getD_eq_getElem?_getD];omega) (by rw[List.all_cons,show ZyM (ms.getD k .top)=false from decide_eq_false h1,Bool.false_and,Bool.false_and]) rfl
end
theorem ZsW(ms ks rs:List AV):Zan Tryz.prog 23 [.agg (.gen [.list (.big .str ms), .list (.big (.agg [.str, .int .i64]) ks), .list (.big (.agg [.str, .int .i64, .int .i64, .int .i64, .int .i64]) rs)])] (.bool (ZpO ms ks rs)) none:=
 start (Zvd ms ks rs) fun C hC=>by
  by_cases h1:ms.length≤8
  ·by_cases h2:ks.length≤10
   ·by_cases h3:rs.length≤12
    ·refine go hC Za0 (ZCM std ms ks rs) (by simp;omega) ?_
     unfold ZpO
     rw[decide_eq_true ⟨h1,h2,h3⟩,Bool.true_and]
     exact Zwy hC ms ks rs ⟨h1,h2,h3⟩ ms.length 0 (by omega)
    ·exact fin hC Za0 (ZBj std ms ks rs) (by simp;omega) (by simp[ZpO,h3]) rfl
   ·exact fin hC Za0 (ZCm std ms ks rs) (by simp;omega) (by simp[ZpO,h2]) rfl
  ·exact fin hC Za0 (ZB5 std ms ks rs) (by simp;omega) (by simp[ZpO,h1]) rfl
end Go.Proofs.YtkeoeooghhjibaaGreatDoor
/- Contracts as a list. No condition. -/
namespace Go.Proofs.YtkeoeooghhjibaaGreatDoor
def k23:Ctr:=⟨23,0,fun _ a=>match a with |[.agg (.gen [.list (.big .str ms), .list (.big (.agg [.str, .int .i64]) ks), .list (.big (.agg [.str, .int .i64, .int .i64, .int .i64, .int .i64]) rs)])]=>some (true, .bool (ZpO ms ks rs),none) |_=>none⟩
theorem ZAR:k23.OK Tryz.prog:=fun pa args r fr h=>by
 simp only[k23]at h
 split at h
 ·cases h
  exact ZsW _ _ _
 ·cases h
def B6:List Ctr:=[k23]++B5
theorem Zen:ZaK Tryz.prog B6:=⟨ZAR,Zm3⟩
end Go.Proofs.YtkeoeooghhjibaaGreatDoor
/- Paths of functions, printed by the explorer (Gx). No condition. -/
namespace Go.Proofs.YtkeoeooghhjibaaGreatDoor
set_option maxRecDepth 100000
set_option linter.unusedVariables false
def Zsx(ms ks rs:List AV):AFrame:={ fn:=119,N:=188,env:=[(0,AV.agg (Row.gen [.list (Row.big .str ms), .list (Row.big (.agg [.str, .int .i64]) ks), .list (Row.big (.agg [.str, .int .i64, .int .i64, .int .i64, .int .i64]) rs)]))],todo:=[.code a119.code],defs:=[],rnd:=none,ret:=false,res:=[ARes.cell 2 true 2,ARes.tmp 3] }
def ZCZ(ms ks rs:List AV):List AFrame:=[(Zsx ms ks rs)]
theorem Zp2(ms ks rs:List AV):Zat tab 119 [AV.agg (Row.gen [.list (Row.big .str ms), .list (Row.big (.agg [.str, .int .i64]) ks), .list (Row.big (.agg [.str, .int .i64, .int .i64, .int .i64, .int .i64]) rs)])]=some (Zsx ms ks rs):=rfl
def Zem(ms ks rs:List AV)(n0:Int):List AFrame:=[{ fn:=119,N:=188,env:=[(1,AV.ptr 119002 0 0 0),(2,AV.ptr 119003 0 0 0),(4,AV.int .i64 n0)],todo:=.code (ACode.gh [] Zru)::Zw9,defs:=[],rnd:=none,ret:=false,res:=[ARes.cell 2 true 2,ARes.tmp 3] }]
def Zdo(ms ks rs:List AV)(n0:Int):Zab:=[(119002,{ base:=0,blks:=[Blk.row 26 3 (Row.gen [AV.agg (Row.gen [AV.list (Row.big .str ms),AV.list (Row.big (.agg [.str, .int .i64]) ks),AV.list (Row.big (.agg [.str, .int .i64, .int .i64, .int .i64, .int .i64]) rs)])])] }),(119003,{ base:=0,blks:=[Blk.row 195 2 (Row.gen [AV.agg (Row.gen [AV.int .i64 0,AV.int .i64 0])])] })]
abbrev Zgb(ms ks rs:List AV)(n0:Int):List AFrame×Zab:=(Zem ms ks rs n0,Zdo ms ks rs n0)
def ZcY(ms ks rs:List AV):List AFrame:=[{ fn:=119,N:=188,env:=[(1,AV.ptr 119002 0 0 0),(2,AV.ptr 119003 0 0 0),(5,AV.nils),(6,AV.int .i64 0)],todo:=.code (ACode.gh [] Zod)::ZrI,defs:=[],rnd:=none,ret:=false,res:=[ARes.cell 2 true 2,ARes.tmp 3] }]
def Zci(ms ks rs:List AV):Zab:=[(119002,{ base:=0,blks:=[Blk.row 26 3 (Row.gen [AV.agg (Row.gen [AV.list (Row.big .str ms),AV.list (Row.big (.agg [.str, .int .i64]) ks),AV.list (Row.big (.agg [.str, .int .i64, .int .i64, .int .i64, .int .i64]) rs)])])] }),(119003,{ base:=0,blks:=[Blk.row 195 2 (Row.gen [AV.agg (Row.gen [AV.int .i64 0,AV.int .i64 0])])] })]
abbrev Zj7(ms ks rs:List AV):List AFrame×Zab:=(ZcY ms ks rs,Zci ms ks rs)
def Zek(ms ks rs:List AV)(n1:Int)(x2:List AV):List AFrame:=[{ fn:=119,N:=188,env:=[(1,AV.ptr 119002 0 0 0),(2,AV.ptr 119003 0 0 0),(5,AV.row 119093 0),(6,AV.int .i64 n1)],todo:=.code (ACode.gh [] Zod)::ZrI,defs:=[],rnd:=none,ret:=false,res:=[ARes.cell 2 true 2,ARes.tmp 3] }]
def Zdn(ms ks rs:List AV)(n1:Int)(x2:List AV):Zab:=[(119002,{ base:=0,blks:=[Blk.row 26 3 (Row.gen [AV.agg (Row.gen [AV.list (Row.big .str ms),AV.list (Row.big (.agg [.str, .int .i64]) ks),AV.list (Row.big (.agg [.str, .int .i64, .int .i64, .int .i64, .int .i64]) rs)])])] }),(119003,{ base:=0,blks:=[Blk.row 195 2 (Row.gen [AV.agg (Row.gen [AV.int .i64 0,AV.int .i64 0])])] }),(119093,{ base:=0,blks:=[Blk.row 9 1 (Row.big .str x2)] })]
abbrev ZfP(ms ks rs:List AV)(n1:Int)(x2:List AV):List AFrame×Zab:=(Zek ms ks rs n1 x2,Zdn ms ks rs n1 x2)
def ZcU(ms ks rs:List AV):List AFrame:=[{ fn:=119,N:=188,env:=[(1,AV.ptr 119002 0 0 0),(2,AV.ptr 119003 0 0 0),(5,AV.nils),(7,AV.int .i64 0)],todo:=.code (ACode.gh [] ZoQ)::Zsy,defs:=[],rnd:=none,ret:=false,res:=[ARes.cell 2 true 2,ARes.tmp 3] }]
def Zcn(ms ks rs:List AV):Zab:=[(119002,{ base:=0,blks:=[Blk.row 26 3 (Row.gen [AV.agg (Row.gen [AV.list (Row.big .str ms),AV.list (Row.big (.agg [.str, .int .i64]) ks),AV.list (Row.big (.agg [.str, .int .i64, .int .i64, .int .i64, .int .i64]) rs)])])] }),(119003,{ base:=0,blks:=[Blk.row 195 2 (Row.gen [AV.agg (Row.gen [AV.int .i64 0,AV.int .i64 0])])] })]
abbrev Zf0(ms ks rs:List AV):List AFrame×Zab:=(ZcU ms ks rs,Zcn ms ks rs)
def Zes(ms ks rs:List AV)(n3:Int)(x4:List AV):List AFrame:=[{ fn:=119,N:=188,env:=[(1,AV.ptr 119002 0 0 0),(2,AV.ptr 119003 0 0 0),(5,AV.row 119141 0),(7,AV.int .i64 n3)],todo:=.code (ACode.gh [] ZoQ)::Zsy,defs:=[],rnd:=none,ret:=false,res:=[ARes.cell 2 true 2,ARes.tmp 3] }]
def ZdD(ms ks rs:List AV)(n3:Int)(x4:List AV):Zab:=[(119002,{ base:=0,blks:=[Blk.row 26 3 (Row.gen [AV.agg (Row.gen [AV.list (Row.big .str ms),AV.list (Row.big (.agg [.str, .int .i64]) ks),AV.list (Row.big (.agg [.str, .int .i64, .int .i64, .int .i64, .int .i64]) rs)])])] }),(119003,{ base:=0,blks:=[Blk.row 195 2 (Row.gen [AV.agg (Row.gen [AV.int .i64 0,AV.int .i64 0])])] }),(119141,{ base:=0,blks:=[Blk.row 9 1 (Row.big .str x4)] })]
abbrev Zcs(ms ks rs:List AV)(n3:Int)(x4:List AV):List AFrame×Zab:=(Zes ms ks rs n3 x4,ZdD ms ks rs n3 x4)
def Zmm(A:Ar)(K:KT)(F:FT)(ms ks rs:List AV):Prop:=bB (A.eq (A.int (A.lenA ms)) 0) (F (AV.tup [AV.agg (Row.gen [.int .i64 1, .int .i64 0]),AV.int .i64 10]) (none)) (bB (A.lt 6 (A.int (A.lenA ms))) (F (AV.tup [AV.agg (Row.gen [.int .i64 1, .int .i64 0]),AV.int .i64 8]) (none)) (K (Zgb (ms) (ks) (rs) (0))))
theorem ZAF{A:Ar}{K:KT}{F:FT}{M:MT}{ms ks rs:List AV} :ZaI A tab B6 119 K F M (.run 14 (.tf (.run 20 (.fn)) (.run 9 (.tf (.run 20 (.fn)) (.run 9 (.hd)))))) (ZCZ ms ks rs) []=Zmm A K F ms ks rs:=by kernel_rfl
def ZbK(A:Ar)(K:KT)(F:FT)(ms ks rs:List AV)(n0:Int):Prop:=bB (A.lt n0 (A.int (A.lenA ms))) (rB [decide (List.length (AV.toS (A.nthA ms (A.nat n0)))≤1000000),Zaf (Zaf (A.le 0 n0) (Nat.blt (A.nat n0) (A.lenA ms))) true] (bB (A.not (ZaM (AV.toS (A.nthA ms (A.nat n0))))) (F (AV.tup [AV.agg (Row.gen [.int .i64 1, .int .i64 n0]),AV.int .i64 4]) (none)) (rB [decide (List.length (A.subA ms 0 (A.nat n0-0))≤1000000),Zaf (Zaf (A.le 0 n0) (Nat.blt (A.nat n0) (A.lenA ms))) true,Zaf (A.le 0 n0) (Zaf (Zaf (Nat.ble 0 (A.nat n0)) (Nat.ble (A.nat n0) (A.lenA ms))) true)] (bB (Zhr (A.subA ms 0 (A.nat n0-0)) (AV.toS (A.nthA ms (A.nat n0)))) (F (AV.tup [AV.agg (Row.gen [.int .i64 1, .int .i64 n0]),AV.int .i64 5]) (none)) (rB [A.inR .i64 (A.add n0 1)] (K (Zgb (ms) (ks) (rs) (A.add n0 1)))))))) (bB (A.eq (A.int (A.lenA ks)) 0) (F (AV.tup [AV.agg (Row.gen [.int .i64 2, .int .i64 0]),AV.int .i64 10]) (none)) (bB (A.lt 8 (A.int (A.lenA ks))) (F (AV.tup [AV.agg (Row.gen [.int .i64 2, .int .i64 0]),AV.int .i64 8]) (none)) (K (Zj7 (ms) (ks) (rs)))))
theorem Zf4{A:Ar}{K:KT}{F:FT}{M:MT}{ms ks rs:List AV}{n0:Int} :ZaI A tab B6 119 K F M (.run 10 (.tf (.run 15 (.tf (.run 21 (.fn)) (.run 4 (.tf (.run 21 (.fn)) (.run 9 (.hd)))))) (.run 9 (.tf (.run 20 (.fn)) (.run 9 (.tf (.run 20 (.fn)) (.run 13 (.hd)))))))) (Zem ms ks rs n0) (Zdo ms ks rs n0)=ZbK A K F ms ks rs n0:=by kernel_rfl
def Zcl(A:Ar)(K:KT)(F:FT)(ms ks rs:List AV):Prop:=bB (A.lt 0 (A.int (A.lenA ks))) (rB [decide (List.length ((A.nthA ks (A.nat 0)).cellAt 0).toS≤1000000),Zaf (Zaf (A.le 0 0) (Nat.blt (A.nat 0) (A.lenA ks))) true] (bB (A.not (ZaM ((A.nthA ks (A.nat 0)).cellAt 0).toS)) (F (AV.tup [AV.agg (Row.gen [.int .i64 2, .int .i64 0]),AV.int .i64 4]) (none)) (rB [Zaf (Zaf (A.le 0 0) (Nat.blt (A.nat 0) (A.lenA ks))) true] (rB [A.inR .i64 (A.sub (A.int (A.lenA ms)) 1),Zaf (Zaf (A.le 0 0) (Nat.blt (A.nat 0) (A.lenA ks))) true,Zaf (Nat.ble (A.lenA [AV.str ((A.nthA ks (A.nat 0)).cellAt 0).toS]) 4294967296) (Nat.blt 0 (A.lenA [AV.str ((A.nthA ks (A.nat 0)).cellAt 0).toS])),List.all [AV.str ((A.nthA ks (A.nat 0)).cellAt 0).toS] fun x=>AV.bx x&&Nat.beq (Zai A x) 1,Zaf (Zaf (A.le 0 0) (Nat.blt (A.nat 0) (A.lenA ks))) true] (bB (A.not (Zae ((A.nthA ks (A.nat 0)).cellAt 1).toI (-1) (A.sub (A.int (A.lenA ms)) 1))) (F (AV.tup [AV.agg (Row.gen [.int .i64 2, .int .i64 0]),AV.int .i64 6]) (none)) (rB [A.inR .i64 (A.add 0 1)] (K (ZfP (ms) (ks) (rs) (A.add 0 1) ([AV.str ((A.nthA ks (A.nat 0)).cellAt 0).toS]))))))))) (bB (A.lt 10 (A.int (A.lenA rs))) (F (AV.tup [AV.agg (Row.gen [.int .i64 3, .int .i64 0]),AV.int .i64 8]) (none)) (K (Zf0 (ms) (ks) (rs))))
theorem Zf1{A:Ar}{K:KT}{F:FT}{M:MT}{ms ks rs:List AV} :ZaI A tab B6 119 K F M (.run 10 (.tf (.run 16 (.tf (.run 21 (.fn)) (.run 14 (.fy (.run 18 (.tf (.run 21 (.fn)) (.run 9 (.hd)))))))) (.run 9 (.tf (.run 20 (.fn)) (.run 13 (.hd)))))) (ZcY ms ks rs) (Zci ms ks rs)=Zcl A K F ms ks rs:=by kernel_rfl
def Zcj(A:Ar)(K:KT)(F:FT)(ms ks rs:List AV)(n1:Int)(x2:List AV):Prop:=bB (A.lt n1 (A.int (A.lenA ks))) (rB [decide (List.length ((A.nthA ks (A.nat n1)).cellAt 0).toS≤1000000),Zaf (Zaf (A.le 0 n1) (Nat.blt (A.nat n1) (A.lenA ks))) true] (bB (A.not (ZaM ((A.nthA ks (A.nat n1)).cellAt 0).toS)) (F (AV.tup [AV.agg (Row.gen [.int .i64 2, .int .i64 n1]),AV.int .i64 4]) (none)) (rB [decide (List.length x2≤1000000),Zaf (Zaf (A.le 0 n1) (Nat.blt (A.nat n1) (A.lenA ks))) true] (bB (Zhr x2 ((A.nthA ks (A.nat n1)).cellAt 0).toS) (F (AV.tup [AV.agg (Row.gen [.int .i64 2, .int .i64 n1]),AV.int .i64 5]) (none)) (rB [A.inR .i64 (A.sub (A.int (A.lenA ms)) 1),Zaf (Zaf (A.le 0 n1) (Nat.blt (A.nat n1) (A.lenA ks))) true,Nat.ble (A.lenA x2+A.lenA [AV.str ((A.nthA ks (A.nat n1)).cellAt 0).toS]) 4294967296,List.all [AV.str ((A.nthA ks (A.nat n1)).cellAt 0).toS] fun x=>AV.bx x&&Nat.beq (Zai A x) 1,Zaf (Zaf (A.le 0 n1) (Nat.blt (A.nat n1) (A.lenA ks))) true] (bB (A.not (Zae ((A.nthA ks (A.nat n1)).cellAt 1).toI (-1) (A.sub (A.int (A.lenA ms)) 1))) (F (AV.tup [AV.agg (Row.gen [.int .i64 2, .int .i64 n1]),AV.int .i64 6]) (none)) (rB [A.inR .i64 (A.add n1 1)] (K (ZfP (ms) (ks) (rs) (A.add n1 1) (A.appA x2 [AV.str ((A.nthA ks (A.nat n1)).cellAt 0).toS])))))))))) (bB (A.lt 10 (A.int (A.lenA rs))) (F (AV.tup [AV.agg (Row.gen [.int .i64 3, .int .i64 0]),AV.int .i64 8]) (none)) (K (Zf0 (ms) (ks) (rs))))
theorem Zga{A:Ar}{K:KT}{F:FT}{M:MT}{ms ks rs:List AV}{n1:Int}{x2:List AV} :ZaI A tab B6 119 K F M (.run 10 (.tf (.run 16 (.tf (.run 21 (.fn)) (.run 14 (.tf (.run 21 (.fn)) (.run 18 (.tf (.run 21 (.fn)) (.run 9 (.hd)))))))) (.run 9 (.tf (.run 20 (.fn)) (.run 13 (.hd)))))) (Zek ms ks rs n1 x2) (Zdn ms ks rs n1 x2)=Zcj A K F ms ks rs n1 x2:=by kernel_rfl
def Zdl(A:Ar)(K:KT)(F:FT)(ms ks rs:List AV):Prop:=bB (A.lt 0 (A.int (A.lenA rs))) (rB [decide (List.length ((A.nthA rs (A.nat 0)).cellAt 0).toS≤1000000),Zaf (Zaf (A.le 0 0) (Nat.blt (A.nat 0) (A.lenA rs))) true] (bB (A.not (ZaM ((A.nthA rs (A.nat 0)).cellAt 0).toS)) (F (AV.tup [AV.agg (Row.gen [.int .i64 3, .int .i64 0]),AV.int .i64 4]) (none)) (rB [A.inR .i64 (A.sub (A.int (A.lenA ks)) 1),Zaf (Nat.ble (A.lenA [AV.str ((A.nthA rs (A.nat 0)).cellAt 0).toS]) 4294967296) (Nat.blt 0 (A.lenA [AV.str ((A.nthA rs (A.nat 0)).cellAt 0).toS])),List.all [AV.str ((A.nthA rs (A.nat 0)).cellAt 0).toS] fun x=>AV.bx x&&Nat.beq (Zai A x) 1] (bB (A.not (Zae ((A.nthA rs (A.nat 0)).cellAt 1).toI 0 (A.sub (A.int (A.lenA ks)) 1))) (F (AV.tup [AV.agg (Row.gen [.int .i64 3, .int .i64 0]),AV.int .i64 6]) (none)) (rB [A.inR .i64 (A.sub (A.int (A.lenA ms)) 1)] (bB (A.not (Zae ((A.nthA rs (A.nat 0)).cellAt 2).toI (-1) (A.sub (A.int (A.lenA ms)) 1))) (F (AV.tup [AV.agg (Row.gen [.int .i64 3, .int .i64 0]),AV.int .i64 6]) (none)) (rB [A.inR .i64 (A.sub (A.int (A.lenA ks)) 1)] (bB (A.not (Zae ((A.nthA rs (A.nat 0)).cellAt 3).toI (-1) (A.sub (A.int (A.lenA ks)) 1))) (F (AV.tup [AV.agg (Row.gen [.int .i64 3, .int .i64 0]),AV.int .i64 6]) (none)) (bB (A.not (Zae ((A.nthA rs (A.nat 0)).cellAt 4).toI 1 1000000)) (F (AV.tup [AV.agg (Row.gen [.int .i64 3, .int .i64 0]),AV.int .i64 2]) (none)) (bB (A.eq ((A.nthA rs (A.nat 0)).cellAt 3).toI (-1)) (bB (A.not (A.eq ((A.nthA rs (A.nat 0)).cellAt 4).toI 1)) (F (AV.tup [AV.agg (Row.gen [.int .i64 3, .int .i64 0]),AV.int .i64 3]) (none)) (rB [A.inR .i64 (A.add 0 1)] (K (Zcs (ms) (ks) (rs) (A.add 0 1) ([AV.str ((A.nthA rs (A.nat 0)).cellAt 0).toS]))))) (rB [A.inR .i64 (A.add 0 1)] (K (Zcs (ms) (ks) (rs) (A.add 0 1) ([AV.str ((A.nthA rs (A.nat 0)).cellAt 0).toS])))))))))))))) (F (AV.tup [AV.agg (Row.gen [.int .i64 0, .int .i64 0]),AV.int .i64 0]) (none))
theorem Zf3{A:Ar}{K:KT}{F:FT}{M:MT}{ms ks rs:List AV} :ZaI A tab B6 119 K F M (.run 10 (.tf (.run 21 (.tf (.run 21 (.fn)) (.run 9 (.fy (.run 22 (.tf (.ty (.ty (.ty (.ty (.ty (.ty (.ty (.ty (.run 1 (.ty (.ty (.ty (.ty (.ty (.ty (.ty (.ty (.ty (.run 2 (.ty (.run 21 (.fn)))))))))))))))))))))) (.fy (.fy (.fy (.fy (.fy (.fy (.fy (.fy (.run 1 (.tf (.ty (.ty (.ty (.ty (.ty (.ty (.ty (.ty (.run 2 (.ty (.run 21 (.fn)))))))))))) (.fy (.fy (.fy (.fy (.fy (.fy (.fy (.fy (.run 2 (.tf (.run 21 (.fn)) (.run 9 (.tf (.run 21 (.fn)) (.run 7 (.tf (.ty (.ty (.ty (.run 2 (.tf (.run 21 (.fn)) (.run 9 (.hd))))))) (.fy (.fy (.fy (.run 2 (.fy (.run 9 (.hd))))))))))))))))))))))))))))))))))))) (.run 8 (.fn)))) (ZcU ms ks rs) (Zcn ms ks rs)=Zdl A K F ms ks rs:=by kernel_rfl
def Zdm(A:Ar)(K:KT)(F:FT)(ms ks rs:List AV)(n3:Int)(x4:List AV):Prop:=bB (A.lt n3 (A.int (A.lenA rs))) (rB [decide (List.length ((A.nthA rs (A.nat n3)).cellAt 0).toS≤1000000),Zaf (Zaf (A.le 0 n3) (Nat.blt (A.nat n3) (A.lenA rs))) true] (bB (A.not (ZaM ((A.nthA rs (A.nat n3)).cellAt 0).toS)) (F (AV.tup [AV.agg (Row.gen [.int .i64 3, .int .i64 n3]),AV.int .i64 4]) (none)) (rB [decide (List.length x4≤1000000)] (bB (Zhr x4 ((A.nthA rs (A.nat n3)).cellAt 0).toS) (F (AV.tup [AV.agg (Row.gen [.int .i64 3, .int .i64 n3]),AV.int .i64 5]) (none)) (rB [A.inR .i64 (A.sub (A.int (A.lenA ks)) 1),Nat.ble (A.lenA x4+A.lenA [AV.str ((A.nthA rs (A.nat n3)).cellAt 0).toS]) 4294967296,List.all [AV.str ((A.nthA rs (A.nat n3)).cellAt 0).toS] fun x=>AV.bx x&&Nat.beq (Zai A x) 1] (bB (A.not (Zae ((A.nthA rs (A.nat n3)).cellAt 1).toI 0 (A.sub (A.int (A.lenA ks)) 1))) (F (AV.tup [AV.agg (Row.gen [.int .i64 3, .int .i64 n3]),AV.int .i64 6]) (none)) (rB [A.inR .i64 (A.sub (A.int (A.lenA ms)) 1)] (bB (A.not (Zae ((A.nthA rs (A.nat n3)).cellAt 2).toI (-1) (A.sub (A.int (A.lenA ms)) 1))) (F (AV.tup [AV.agg (Row.gen [.int .i64 3, .int .i64 n3]),AV.int .i64 6]) (none)) (rB [A.inR .i64 (A.sub (A.int (A.lenA ks)) 1)] (bB (A.not (Zae ((A.nthA rs (A.nat n3)).cellAt 3).toI (-1) (A.sub (A.int (A.lenA ks)) 1))) (F (AV.tup [AV.agg (Row.gen [.int .i64 3, .int .i64 n3]),AV.int .i64 6]) (none)) (bB (A.not (Zae ((A.nthA rs (A.nat n3)).cellAt 4).toI 1 1000000)) (F (AV.tup [AV.agg (Row.gen [.int .i64 3, .int .i64 n3]),AV.int .i64 2]) (none)) (bB (A.eq ((A.nthA rs (A.nat n3)).cellAt 3).toI (-1)) (bB (A.not (A.eq ((A.nthA rs (A.nat n3)).cellAt 4).toI 1)) (F (AV.tup [AV.agg (Row.gen [.int .i64 3, .int .i64 n3]),AV.int .i64 3]) (none)) (rB [A.inR .i64 (A.add n3 1)] (K (Zcs (ms) (ks) (rs) (A.add n3 1) (A.appA x4 [AV.str ((A.nthA rs (A.nat n3)).cellAt 0).toS]))))) (rB [A.inR .i64 (A.add n3 1)] (K (Zcs (ms) (ks) (rs) (A.add n3 1) (A.appA x4 [AV.str ((A.nthA rs (A.nat n3)).cellAt 0).toS])))))))))))))))) (F (AV.tup [AV.agg (Row.gen [.int .i64 0, .int .i64 0]),AV.int .i64 0]) (none))
theorem ZfT{A:Ar}{K:KT}{F:FT}{M:MT}{ms ks rs:List AV}{n3:Int}{x4:List AV} :ZaI A tab B6 119 K F M (.run 10 (.tf (.run 21 (.tf (.run 21 (.fn)) (.run 9 (.tf (.run 21 (.fn)) (.run 22 (.tf (.ty (.ty (.ty (.ty (.ty (.ty (.ty (.ty (.run 1 (.ty (.ty (.ty (.ty (.ty (.ty (.ty (.ty (.ty (.run 2 (.ty (.run 21 (.fn)))))))))))))))))))))) (.fy (.fy (.fy (.fy (.fy (.fy (.fy (.fy (.run 1 (.tf (.ty (.ty (.ty (.ty (.ty (.ty (.ty (.ty (.run 2 (.ty (.run 21 (.fn)))))))))))) (.fy (.fy (.fy (.fy (.fy (.fy (.fy (.fy (.run 2 (.tf (.run 21 (.fn)) (.run 9 (.tf (.run 21 (.fn)) (.run 7 (.tf (.ty (.ty (.ty (.run 2 (.tf (.run 21 (.fn)) (.run 9 (.hd))))))) (.fy (.fy (.fy (.run 2 (.fy (.run 9 (.hd))))))))))))))))))))))))))))))))))))) (.run 8 (.fn)))) (Zes ms ks rs n3 x4) (ZdD ms ks rs n3 x4)=Zdm A K F ms ks rs n3 x4:=by kernel_rfl
def Zxj(ms ks rs:List AV)(a b:Int)(xs:List Int)(k:Int):AFrame:={ fn:=86,N:=65,env:=[(0,AV.agg (Row.gen [.list (Row.big .str ms), .list (Row.big (.agg [.str, .int .i64]) ks), .list (Row.big (.agg [.str, .int .i64, .int .i64, .int .i64, .int .i64]) rs)])),(1,AV.agg (Row.gen [.int .i64 a, .int .i64 b, .list (.ints .i64 xs)])),(2,AV.int .i64 k)],todo:=[.code a86.code],defs:=[],rnd:=none,ret:=false,res:=[ARes.tmp 6] }
def ZEL(ms ks rs:List AV)(a b:Int)(xs:List Int)(k:Int):List AFrame:=[(Zxj ms ks rs a b xs k)]
theorem ZuU(ms ks rs:List AV)(a b:Int)(xs:List Int)(k:Int):Zat tab 86 [AV.agg (Row.gen [.list (Row.big .str ms), .list (Row.big (.agg [.str, .int .i64]) ks), .list (Row.big (.agg [.str, .int .i64, .int .i64, .int .i64, .int .i64]) rs)]),AV.agg (Row.gen [.int .i64 a, .int .i64 b, .list (.ints .i64 xs)]),AV.int .i64 k]=some (Zxj ms ks rs a b xs k):=rfl
def Zex(ms ks rs:List AV)(a b:Int)(xs:List Int)(k n0:Int):List AFrame:=[{ fn:=86,N:=65,env:=[(2,AV.int .i64 k),(3,AV.ptr 86004 0 0 0),(4,AV.ptr 86005 0 0 0),(7,AV.int .i64 n0)],todo:=.code (ACode.gh [] Zzj)::ZCW,defs:=[],rnd:=none,ret:=false,res:=[ARes.tmp 6] }]
def ZdX(ms ks rs:List AV)(a b:Int)(xs:List Int)(k n0:Int):Zab:=[(86004,{ base:=0,blks:=[Blk.row 26 3 (Row.gen [AV.agg (Row.gen [AV.list (Row.big .str ms),AV.list (Row.big (.agg [.str, .int .i64]) ks),AV.list (Row.big (.agg [.str, .int .i64, .int .i64, .int .i64, .int .i64]) rs)])])] }),(86005,{ base:=0,blks:=[Blk.row 76 3 (Row.gen [AV.agg (Row.gen [AV.int .i64 a,AV.int .i64 b,AV.list (.ints .i64 xs)])])] })]
abbrev ZbC(ms ks rs:List AV)(a b:Int)(xs:List Int)(k n0:Int):List AFrame×Zab:=(Zex ms ks rs a b xs k n0,ZdX ms ks rs a b xs k n0)
def ZCd(A:Ar)(K:KT)(F:FT)(ms ks rs:List AV)(a b:Int)(xs:List Int)(k:Int):Prop:=K (ZbC (ms) (ks) (rs) (a) (b) (xs) (k) (0))
theorem ZCB{A:Ar}{K:KT}{F:FT}{M:MT}{ms ks rs:List AV}{a b:Int}{xs:List Int}{k:Int} :ZaI A tab B6 86 K F M (.run 14 (.hd)) (ZEL ms ks rs a b xs k) []=ZCd A K F ms ks rs a b xs k:=by kernel_rfl
def Ze1(A:Ar)(K:KT)(F:FT)(ms ks rs:List AV)(a b:Int)(xs:List Int)(k n0:Int):Prop:=bB (A.lt n0 (A.int (A.lenA rs))) (rB [Zaf (Zaf (A.le 0 n0) (Nat.blt (A.nat n0) (A.lenA rs))) true] (bB (A.not (A.eq ((A.nthA rs (A.nat n0)).cellAt 1).toI k)) (rB [A.inR .i64 (A.add n0 1)] (K (ZbC (ms) (ks) (rs) (a) (b) (xs) (k) (A.add n0 1)))) (bB (A.not (A.eq ((A.nthA rs (A.nat n0)).cellAt 2).toI (-1))) (bB (A.not (A.eq ((A.nthA rs (A.nat n0)).cellAt 2).toI a)) (rB [A.inR .i64 (A.add n0 1)] (K (ZbC (ms) (ks) (rs) (a) (b) (xs) (k) (A.add n0 1)))) (qB [A.eq ((A.nthA rs (A.nat n0)).cellAt 3).toI (-1)] (F (AV.str ((A.nthA rs (A.nat n0)).cellAt 0).toS) (none)) (qB [A.inR .i64 (A.sub b (A.nth xs (A.nat ((A.nthA rs (A.nat n0)).cellAt 3).toI))),Zaf (Zaf (A.le 0 ((A.nthA rs (A.nat n0)).cellAt 3).toI) (Nat.blt (A.nat ((A.nthA rs (A.nat n0)).cellAt 3).toI) (A.len xs))) true,A.not (A.eq (A.nth xs (A.nat ((A.nthA rs (A.nat n0)).cellAt 3).toI)) (-1)),Zaf (Zaf (A.le 0 ((A.nthA rs (A.nat n0)).cellAt 3).toI) (Nat.blt (A.nat ((A.nthA rs (A.nat n0)).cellAt 3).toI) (A.len xs))) true,!A.eq ((A.nthA rs (A.nat n0)).cellAt 3).toI (-1)] (bB (A.lt (A.sub b (A.nth xs (A.nat ((A.nthA rs (A.nat n0)).cellAt 3).toI))) ((A.nthA rs (A.nat n0)).cellAt 4).toI) (F (AV.str ((A.nthA rs (A.nat n0)).cellAt 0).toS) (none)) (rB [A.inR .i64 (A.add n0 1)] (K (ZbC (ms) (ks) (rs) (a) (b) (xs) (k) (A.add n0 1))))) (rB [!A.not (A.eq (A.nth xs (A.nat ((A.nthA rs (A.nat n0)).cellAt 3).toI)) (-1)),Zaf (Zaf (A.le 0 ((A.nthA rs (A.nat n0)).cellAt 3).toI) (Nat.blt (A.nat ((A.nthA rs (A.nat n0)).cellAt 3).toI) (A.len xs))) true,!A.eq ((A.nthA rs (A.nat n0)).cellAt 3).toI (-1)] (rB [A.inR .i64 (A.add n0 1)] (K (ZbC (ms) (ks) (rs) (a) (b) (xs) (k) (A.add n0 1)))))))) (qB [A.eq ((A.nthA rs (A.nat n0)).cellAt 3).toI (-1)] (F (AV.str ((A.nthA rs (A.nat n0)).cellAt 0).toS) (none)) (qB [A.inR .i64 (A.sub b (A.nth xs (A.nat ((A.nthA rs (A.nat n0)).cellAt 3).toI))),Zaf (Zaf (A.le 0 ((A.nthA rs (A.nat n0)).cellAt 3).toI) (Nat.blt (A.nat ((A.nthA rs (A.nat n0)).cellAt 3).toI) (A.len xs))) true,A.not (A.eq (A.nth xs (A.nat ((A.nthA rs (A.nat n0)).cellAt 3).toI)) (-1)),Zaf (Zaf (A.le 0 ((A.nthA rs (A.nat n0)).cellAt 3).toI) (Nat.blt (A.nat ((A.nthA rs (A.nat n0)).cellAt 3).toI) (A.len xs))) true,!A.eq ((A.nthA rs (A.nat n0)).cellAt 3).toI (-1)] (bB (A.lt (A.sub b (A.nth xs (A.nat ((A.nthA rs (A.nat n0)).cellAt 3).toI))) ((A.nthA rs (A.nat n0)).cellAt 4).toI) (F (AV.str ((A.nthA rs (A.nat n0)).cellAt 0).toS) (none)) (rB [A.inR .i64 (A.add n0 1)] (K (ZbC (ms) (ks) (rs) (a) (b) (xs) (k) (A.add n0 1))))) (rB [!A.not (A.eq (A.nth xs (A.nat ((A.nthA rs (A.nat n0)).cellAt 3).toI)) (-1)),Zaf (Zaf (A.le 0 ((A.nthA rs (A.nat n0)).cellAt 3).toI) (Nat.blt (A.nat ((A.nthA rs (A.nat n0)).cellAt 3).toI) (A.len xs))) true,!A.eq ((A.nthA rs (A.nat n0)).cellAt 3).toI (-1)] (rB [A.inR .i64 (A.add n0 1)] (K (ZbC (ms) (ks) (rs) (a) (b) (xs) (k) (A.add n0 1)))))))))) (F (AV.str []) (none))
theorem Zin{A:Ar}{K:KT}{F:FT}{M:MT}{ms ks rs:List AV}{a b:Int}{xs:List Int}{k n0:Int} :ZaI A tab B6 86 K F M (.run 10 (.tf (.run 21 (.tf (.ty (.ty (.ty (.run 5 (.ty (.ty (.run 2 (.ty (.run 8 (.hd)))))))))) (.fy (.fy (.fy (.tf (.ty (.ty (.ty (.ty (.alt [false,true] (.fy (.run 2 (.tf (.run 8 (.hd)) (.run 2 (.alt [true] (.run 1 (.ty (.run 7 (.fn)))) (.alt [false,true] (.run 1 (.tf (.run 7 (.fn)) (.run 9 (.hd)))) (.alt [false,false] (.run 1 (.fy (.run 9 (.hd)))) (.no)))))))) (.no)))))) (.fy (.fy (.fy (.fy (.alt [false,false] (.fy (.run 2 (.fy (.run 2 (.alt [true] (.run 1 (.ty (.run 7 (.fn)))) (.alt [false,true] (.run 1 (.tf (.run 7 (.fn)) (.run 9 (.hd)))) (.alt [false,false] (.run 1 (.fy (.run 9 (.hd)))) (.no)))))))) (.no)))))))))))) (.run 6 (.fn)))) (Zex ms ks rs a b xs k n0) (ZdX ms ks rs a b xs k n0)=Ze1 A K F ms ks rs a b xs k n0:=by kernel_rfl
end Go.Proofs.YtkeoeooghhjibaaGreatDoor
