/- Paths of functions, printed by the explorer (Gx). No condition. -/
import Derived.Test.YtklbmkllepkjcaaGe0
import Derived.KernelRfl
namespace Go.Proofs.Ytklbmkllepkjcaa
set_option maxRecDepth 100000
set_option linter.unusedVariables false
def ZzC(w:List Int)(h:Int)(e:List Int):AFrame:={ fn:=92,N:=87,env:=[(0,AV.agg (.ints .i64 w)),(1,AV.int .i64 h),(2,AV.list (.ints .i64 e))],todo:=[.code a92.code],defs:=[],rnd:=none,ret:=false,res:=[ARes.cell 6 true 15,ARes.tmp 7] }
def ZFS(w:List Int)(h:Int)(e:List Int):List AFrame:=[(ZzC w h e)]
theorem ZvO(w:List Int)(h:Int)(e:List Int):Zat tab 92 [AV.agg (.ints .i64 w),AV.int .i64 h,AV.list (.ints .i64 e)]=some (ZzC w h e):=rfl
def ZgX(w:List Int)(h:Int)(e:List Int)(A:Ar)(n0 n1:Int)(l2:List Int):List AFrame:=[{ fn:=92,N:=87,env:=[(1,AV.int .i64 h),(2,AV.list (.ints .i64 e)),(3,AV.ptr 92004 0 0 0),(6,AV.ptr 92007 0 0 0),(20,AV.list (.ints .i64 e)),(21,AV.int .i64 n0),(22,AV.int .i64 n1)],todo:=.code (ACode.gh [] Zx6)::ZDO,defs:=[],rnd:=none,ret:=false,res:=[ARes.cell 6 true 15,ARes.tmp 7] }]
def ZfB(w:List Int)(h:Int)(e:List Int)(A:Ar)(n0 n1:Int)(l2:List Int):Zaa:=[(92004,{ base:=0,blks:=[Blk.row 107 (A.len w) (Row.gen [.agg (.ints .i64 l2)])] }),(92007,{ base:=0,blks:=[Blk.row 107 15 (Row.gen [.agg (.ints .i64 [0,0,0,0,0,0,0,0,0,0,0,0,0,0,0])])] }),(1000092,{ base:=0,blks:=[],sym:=Sym.ints 3 1 .i64 [] })]
abbrev Zir(w:List Int)(h:Int)(e:List Int)(A:Ar)(n0 n1:Int)(l2:List Int):List AFrame×Zaa:=(ZgX w h e A n0 n1 l2,ZfB w h e A n0 n1 l2)
def ZcR(w e:List Int)(A:Ar)(l2:List Int)(n3:Int)(l4:List Int)(n5:Int)(l6:List Nat)(l7:List (List Int)):List AFrame:=[{ fn:=92,N:=87,env:=[(2,AV.list (.ints .i64 e)),(3,AV.ptr 92004 0 0 0),(6,AV.ptr 92007 0 0 0),(10,AV.row 92061 0),(31,AV.row 92032 0),(32,AV.int .i64 n3),(33,AV.int .i64 n5)],todo:=.code (ACode.gh [] Zzz)::ZCi,defs:=[],rnd:=none,ret:=false,res:=[ARes.cell 6 true 15,ARes.tmp 7] }]
def Zcl(w e:List Int)(A:Ar)(l2:List Int)(n3:Int)(l4:List Int)(n5:Int)(l6:List Nat)(l7:List (List Int)):Zaa:=[(92004,{ base:=0,blks:=[Blk.row 107 (A.len w) (Row.gen [.agg (.ints .i64 l2)])] }),(92007,{ base:=0,blks:=[Blk.row 107 15 (Row.gen [.agg (.ints .i64 [0,0,0,0,0,0,0,0,0,0,0,0,0,0,0])])] }),(92032,{ base:=0,blks:=[Blk.row 3 1 (.ints .i64 l4)] }),(92061,{ base:=0,blks:=[Blk.row 25 1 (Row.refs 1000092 l6)] }),(1000092,{ base:=0,blks:=[],sym:=Sym.ints 3 1 .i64 l7 })]
abbrev Zjj(w e:List Int)(A:Ar)(l2:List Int)(n3:Int)(l4:List Int)(n5:Int)(l6:List Nat)(l7:List (List Int)):List AFrame×Zaa:=(ZcR w e A l2 n3 l4 n5 l6 l7,Zcl w e A l2 n3 l4 n5 l6 l7)
def ZgT(w e:List Int)(A:Ar)(l2:List Int)(n3:Int)(l4:List Int)(n5:Int)(l6:List Nat)(l7:List (List Int))(n8 n9 n10:Int)(l11:List Int):List AFrame:=[{ fn:=92,N:=87,env:=[(2,AV.list (.ints .i64 e)),(3,AV.ptr 92004 0 0 0),(6,AV.ptr 92007 0 0 0),(10,AV.row 92061 0),(11,AV.int .i64 n5),(12,AV.int .i64 n8),(13,AV.row 92053 0),(31,AV.row 92032 0),(32,AV.int .i64 n3),(33,AV.int .i64 n5),(38,AV.list (.ints .i64 e)),(39,AV.int .i64 n9),(40,AV.int .i64 n10)],todo:=.code (ACode.gh [] ZAV)::ZDi,defs:=[],rnd:=none,ret:=false,res:=[ARes.cell 6 true 15,ARes.tmp 7] }]
def Zfe(w e:List Int)(A:Ar)(l2:List Int)(n3:Int)(l4:List Int)(n5:Int)(l6:List Nat)(l7:List (List Int))(n8 n9 n10:Int)(l11:List Int):Zaa:=[(92004,{ base:=0,blks:=[Blk.row 107 (A.len w) (Row.gen [.agg (.ints .i64 l2)])] }),(92007,{ base:=0,blks:=[Blk.row 107 15 (Row.gen [.agg (.ints .i64 [0,0,0,0,0,0,0,0,0,0,0,0,0,0,0])])] }),(92032,{ base:=0,blks:=[Blk.row 3 1 (.ints .i64 l4)] }),(92053,{ base:=0,blks:=[Blk.row 3 1 (.ints .i64 l11)] }),(92061,{ base:=0,blks:=[Blk.row 25 1 (Row.refs 1000092 l6)] }),(1000092,{ base:=0,blks:=[],sym:=Sym.ints 3 1 .i64 l7 })]
abbrev ZiD(w e:List Int)(A:Ar)(l2:List Int)(n3:Int)(l4:List Int)(n5:Int)(l6:List Nat)(l7:List (List Int))(n8 n9 n10:Int)(l11:List Int):List AFrame×Zaa:=(ZgT w e A l2 n3 l4 n5 l6 l7 n8 n9 n10 l11,Zfe w e A l2 n3 l4 n5 l6 l7 n8 n9 n10 l11)
def ZbL(w e:List Int)(A:Ar)(l2:List Int)(n3:Int)(l4:List Int)(n5 n12 n13:Int)(b14:Bool)(n15 n16:Int)(l17:List Nat)(l18:List (List Int)):List AFrame:=[{ fn:=118,N:=146,env:=[(0,AV.row 92061 0),(1,AV.int .i64 n12),(17,AV.int .i64 n13),(18,AV.int .i64 n16)],todo:=.code (ACode.gh [] ZtI)::Zua,defs:=[],rnd:=none,ret:=false,res:=[ARes.tmp 4,ARes.tmp 5] },{ fn:=92,N:=87,env:=[(2,AV.list (.ints .i64 e)),(3,AV.ptr 92004 0 0 0),(6,AV.ptr 92007 0 0 0),(10,AV.row 92061 0),(31,AV.row 92032 0),(32,AV.int .i64 n3),(33,AV.int .i64 n5),(34,AV.bool b14),(63,AV.row 92061 0),(64,AV.list (.ints .i64 e)),(65,AV.int .i64 n15)],todo:=[AItem.inReg [oN 66 (OpK.icall 118 [Opd.t 63,Opd.t 65]),mV 62 66,oN 67 (OpK.ext 0 (Opd.t 62)),oN 68 (OpK.ext 1 (Opd.t 62)),mV 16 67,mV 17 68], .code (ACode.gh [Ghost.keep [2,3,6,16,17]] (ACode.seq (ACode.seq (ACode.reg none [mV 69 17,oN 70 (OpK.not (Opd.t 69))]) (ACode.cond (Opd.t 70) (ACode.seq (ACode.reg none [oN 71 (OpK.build (.ints .i64 [0,0,0,0,0,0,0,0,0,0,0,0,0,0,0]) []),{ d:=none,g:=none,k:=OpK.store 15 (Opd.t 6) (Opd.t 71) },oN 7 (OpK.mov (Opd.c (AV.bool false)))]) ACode.ret) ACode.skip)) (ACode.seq (ACode.seq (ACode.reg none [mV 72 2,oN 73 (OpK.len (Opd.t 72)),oN 74 (OpK.mov (cI 0))]) (ACode.block 6 (ACode.loop Zkq))) ZkV)))],defs:=[],rnd:=none,ret:=false,res:=[ARes.cell 6 true 15,ARes.tmp 7] }]
def Zbr(w e:List Int)(A:Ar)(l2:List Int)(n3:Int)(l4:List Int)(n5 n12 n13:Int)(b14:Bool)(n15 n16:Int)(l17:List Nat)(l18:List (List Int)):Zaa:=[(92004,{ base:=0,blks:=[Blk.row 107 (A.len w) (Row.gen [.agg (.ints .i64 l2)])] }),(92007,{ base:=0,blks:=[Blk.row 107 15 (Row.gen [.agg (.ints .i64 [0,0,0,0,0,0,0,0,0,0,0,0,0,0,0])])] }),(92032,{ base:=0,blks:=[Blk.row 3 1 (.ints .i64 l4)] }),(92061,{ base:=0,blks:=[Blk.row 25 1 (Row.refs 1000092 l17)] }),(1000092,{ base:=0,blks:=[],sym:=Sym.ints 3 1 .i64 l18 })]
abbrev ZhE(w e:List Int)(A:Ar)(l2:List Int)(n3:Int)(l4:List Int)(n5 n12 n13:Int)(b14:Bool)(n15 n16:Int)(l17:List Nat)(l18:List (List Int)):List AFrame×Zaa:=(ZbL w e A l2 n3 l4 n5 n12 n13 b14 n15 n16 l17 l18,Zbr w e A l2 n3 l4 n5 n12 n13 b14 n15 n16 l17 l18)
def Zfw(w e:List Int)(A:Ar)(l2:List Int)(n3:Int)(l4:List Int)(n5 n12 n13:Int)(b14:Bool)(n15 n16:Int)(l17:List Nat)(l18:List (List Int))(j19 j20:Nat)(n21:Int)(b22:Bool)(n23 n24:Int)(j25 j26:Nat)(n27:Int):List AFrame:=[{ fn:=130,N:=19,env:=[(0,AV.slc 92061 0 j19 j20 none),(1,AV.fn 131 [AV.ptr 118007 0 0 0]),(7,AV.int .i64 n21),(8,AV.int .i64 n27)],todo:=.code (ACode.gh [] Zuj)::ZzR,defs:=[],rnd:=none,ret:=false,res:=[ARes.tmp 4] },{ fn:=118,N:=146,env:=[(0,AV.row 92061 0),(1,AV.int .i64 n12),(6,AV.ptr 118007 0 0 0),(17,AV.int .i64 n13),(18,AV.int .i64 n16),(19,AV.bool b22),(20,AV.int .i64 n16),(21,AV.row 92061 0),(22,AV.int .i64 n16),(23,AV.row 92061 0),(24,AV.int .i64 n23),(25,AV.int .i64 n24),(26,AV.slc 92061 0 j25 j26 none),(27,AV.fn 131 [AV.ptr 118007 0 0 0])],todo:=AItem.inReg [oN 28 (OpK.icall 130 [Opd.t 26,Opd.t 27]),mV 7 28]::.code (ACode.gh [Ghost.keep [0,1,6,7,17,18]] (ACode.seq (ACode.seq (ACode.reg none [mV 29 7,oN 30 (OpK.bin Go.BinOp.lss (Opd.t 29) (cI 0))]) (ACode.cond (Opd.t 30) (ACode.seq (ACode.reg none [oN 4 (OpK.mov (Opd.c AV.nils)),oN 5 (OpK.mov (Opd.c (AV.bool false)))]) ACode.ret) ACode.skip)) (ACode.seq (ACode.reg (some [(2,17),(3,17),(4,17),(5,17)]) [mV 31 0,oN 32 (OpK.load false 1 (Opd.t 6)),mV 33 0,oN 34 (OpK.load false 1 (Opd.t 6)),mV 35 7,oN 36 (OpK.bin Go.BinOp.add (Opd.t 34) (Opd.t 35)),mV 37 0,oN 38 (OpK.load false 1 (Opd.t 6)),mV 39 7,oN 40 (OpK.bin Go.BinOp.add (Opd.t 38) (Opd.t 39)),oN 41 (OpK.iaddr 1 (Opd.t 37) (Opd.t 40)),oN 42 (OpK.load false 1 (Opd.t 41)),mV 43 0,oN 44 (OpK.load false 1 (Opd.t 6)),oN 45 (OpK.iaddr 1 (Opd.t 43) (Opd.t 44)),oN 46 (OpK.load false 1 (Opd.t 45)),oN 47 (OpK.iaddr 1 (Opd.t 31) (Opd.t 32)),{ d:=none,g:=none,k:=OpK.store 1 (Opd.t 47) (Opd.t 42) },oN 48 (OpK.iaddr 1 (Opd.t 33) (Opd.t 36)),{ d:=none,g:=none,k:=OpK.store 1 (Opd.t 48) (Opd.t 46) }]) (ACode.gh [Ghost.keep [0,1,6,17,18]] (ACode.seq (ACode.reg (some []) [mV 49 0,oN 50 (OpK.load false 1 (Opd.t 6)),oN 51 (OpK.iaddr 1 (Opd.t 49) (Opd.t 50)),oN 52 (OpK.load false 1 (Opd.t 51)),oN 53 (OpK.load false 1 (Opd.t 6)),oN 54 (OpK.iaddr 1 (Opd.t 52) (Opd.t 53)),oN 55 (OpK.load false 1 (Opd.t 54)),oN 56 (OpK.ncall true 0 128 [Opd.t 55]),mV 8 56]) (ACode.gh [Ghost.keep [0,1,6,8,17,18]] (ACode.seq (ACode.seq (ACode.reg none [mV 57 0,oN 58 (OpK.load false 1 (Opd.t 6)),oN 59 (OpK.iaddr 1 (Opd.t 57) (Opd.t 58)),oN 60 (OpK.load false 1 (Opd.t 59)),oN 61 (OpK.len (Opd.t 60)),oN 62 (OpK.mov (cI 0))]) (ACode.block 2 (ACode.loop ZpP))) Zqo)))))))::AItem.inBlock 1::.code ZkN::Zua,defs:=[],rnd:=none,ret:=false,res:=[ARes.tmp 4,ARes.tmp 5] },{ fn:=92,N:=87,env:=[(2,AV.list (.ints .i64 e)),(3,AV.ptr 92004 0 0 0),(6,AV.ptr 92007 0 0 0),(10,AV.row 92061 0),(31,AV.row 92032 0),(32,AV.int .i64 n3),(33,AV.int .i64 n5),(34,AV.bool b14),(63,AV.row 92061 0),(64,AV.list (.ints .i64 e)),(65,AV.int .i64 n15)],todo:=[AItem.inReg [oN 66 (OpK.icall 118 [Opd.t 63,Opd.t 65]),mV 62 66,oN 67 (OpK.ext 0 (Opd.t 62)),oN 68 (OpK.ext 1 (Opd.t 62)),mV 16 67,mV 17 68], .code (ACode.gh [Ghost.keep [2,3,6,16,17]] (ACode.seq (ACode.seq (ACode.reg none [mV 69 17,oN 70 (OpK.not (Opd.t 69))]) (ACode.cond (Opd.t 70) (ACode.seq (ACode.reg none [oN 71 (OpK.build (.ints .i64 [0,0,0,0,0,0,0,0,0,0,0,0,0,0,0]) []),{ d:=none,g:=none,k:=OpK.store 15 (Opd.t 6) (Opd.t 71) },oN 7 (OpK.mov (Opd.c (AV.bool false)))]) ACode.ret) ACode.skip)) (ACode.seq (ACode.seq (ACode.reg none [mV 72 2,oN 73 (OpK.len (Opd.t 72)),oN 74 (OpK.mov (cI 0))]) (ACode.block 6 (ACode.loop Zkq))) ZkV)))],defs:=[],rnd:=none,ret:=false,res:=[ARes.cell 6 true 15,ARes.tmp 7] }]
def Zeg(w e:List Int)(A:Ar)(l2:List Int)(n3:Int)(l4:List Int)(n5 n12 n13:Int)(b14:Bool)(n15 n16:Int)(l17:List Nat)(l18:List (List Int))(j19 j20:Nat)(n21:Int)(b22:Bool)(n23 n24:Int)(j25 j26:Nat)(n27:Int):Zaa:=[(92004,{ base:=0,blks:=[Blk.row 107 (A.len w) (Row.gen [.agg (.ints .i64 l2)])] }),(92007,{ base:=0,blks:=[Blk.row 107 15 (Row.gen [.agg (.ints .i64 [0,0,0,0,0,0,0,0,0,0,0,0,0,0,0])])] }),(92032,{ base:=0,blks:=[Blk.row 3 1 (.ints .i64 l4)] }),(92061,{ base:=0,blks:=[Blk.row 25 1 (Row.refs 1000092 l17)] }),(118007,{ base:=0,blks:=[Blk.row 3 1 (Row.gen [.int .i64 n16])] }),(1000092,{ base:=0,blks:=[],sym:=Sym.ints 3 1 .i64 l18 })]
abbrev Zhl(w e:List Int)(A:Ar)(l2:List Int)(n3:Int)(l4:List Int)(n5 n12 n13:Int)(b14:Bool)(n15 n16:Int)(l17:List Nat)(l18:List (List Int))(j19 j20:Nat)(n21:Int)(b22:Bool)(n23 n24:Int)(j25 j26:Nat)(n27:Int):List AFrame×Zaa:=(Zfw w e A l2 n3 l4 n5 n12 n13 b14 n15 n16 l17 l18 j19 j20 n21 b22 n23 n24 j25 j26 n27,Zeg w e A l2 n3 l4 n5 n12 n13 b14 n15 n16 l17 l18 j19 j20 n21 b22 n23 n24 j25 j26 n27)
def ZdI(w e:List Int)(A:Ar)(l2:List Int)(n3:Int)(l4:List Int)(n5 n12:Int)(b14:Bool)(n15:Int)(l17:List Nat)(l18:List (List Int))(n28 n29:Int)(l30:List Int):List AFrame:=[{ fn:=118,N:=146,env:=[(1,AV.int .i64 n12),(14,AV.row 118139 0),(122,AV.row 92061 0),(123,AV.int .i64 n28),(124,AV.int .i64 n29)],todo:=.code (ACode.gh [] Zt6)::Zzw,defs:=[],rnd:=none,ret:=false,res:=[ARes.tmp 4,ARes.tmp 5] },{ fn:=92,N:=87,env:=[(2,AV.list (.ints .i64 e)),(3,AV.ptr 92004 0 0 0),(6,AV.ptr 92007 0 0 0),(10,AV.row 92061 0),(31,AV.row 92032 0),(32,AV.int .i64 n3),(33,AV.int .i64 n5),(34,AV.bool b14),(63,AV.row 92061 0),(64,AV.list (.ints .i64 e)),(65,AV.int .i64 n15)],todo:=[AItem.inReg [oN 66 (OpK.icall 118 [Opd.t 63,Opd.t 65]),mV 62 66,oN 67 (OpK.ext 0 (Opd.t 62)),oN 68 (OpK.ext 1 (Opd.t 62)),mV 16 67,mV 17 68], .code (ACode.gh [Ghost.keep [2,3,6,16,17]] (ACode.seq (ACode.seq (ACode.reg none [mV 69 17,oN 70 (OpK.not (Opd.t 69))]) (ACode.cond (Opd.t 70) (ACode.seq (ACode.reg none [oN 71 (OpK.build (.ints .i64 [0,0,0,0,0,0,0,0,0,0,0,0,0,0,0]) []),{ d:=none,g:=none,k:=OpK.store 15 (Opd.t 6) (Opd.t 71) },oN 7 (OpK.mov (Opd.c (AV.bool false)))]) ACode.ret) ACode.skip)) (ACode.seq (ACode.seq (ACode.reg none [mV 72 2,oN 73 (OpK.len (Opd.t 72)),oN 74 (OpK.mov (cI 0))]) (ACode.block 6 (ACode.loop Zkq))) ZkV)))],defs:=[],rnd:=none,ret:=false,res:=[ARes.cell 6 true 15,ARes.tmp 7] }]
def ZcL(w e:List Int)(A:Ar)(l2:List Int)(n3:Int)(l4:List Int)(n5 n12:Int)(b14:Bool)(n15:Int)(l17:List Nat)(l18:List (List Int))(n28 n29:Int)(l30:List Int):Zaa:=[(92004,{ base:=0,blks:=[Blk.row 107 (A.len w) (Row.gen [.agg (.ints .i64 l2)])] }),(92007,{ base:=0,blks:=[Blk.row 107 15 (Row.gen [.agg (.ints .i64 [0,0,0,0,0,0,0,0,0,0,0,0,0,0,0])])] }),(92032,{ base:=0,blks:=[Blk.row 3 1 (.ints .i64 l4)] }),(92061,{ base:=0,blks:=[Blk.row 25 1 (Row.refs 1000092 l17)] }),(118139,{ base:=0,blks:=[Blk.row 3 1 (.ints .i64 l30)] }),(1000092,{ base:=0,blks:=[],sym:=Sym.ints 3 1 .i64 l18 })]
abbrev Zd6(w e:List Int)(A:Ar)(l2:List Int)(n3:Int)(l4:List Int)(n5 n12:Int)(b14:Bool)(n15:Int)(l17:List Nat)(l18:List (List Int))(n28 n29:Int)(l30:List Int):List AFrame×Zaa:=(ZdI w e A l2 n3 l4 n5 n12 b14 n15 l17 l18 n28 n29 l30,ZcL w e A l2 n3 l4 n5 n12 b14 n15 l17 l18 n28 n29 l30)
def Zdt(w e:List Int)(A:Ar)(l2:List Int)(n3:Int)(l4:List Int)(n5 n12 n13:Int)(b14:Bool)(n15 n16 n31 n32:Int)(l33:List Nat)(n34:Int)(l35:List (List Int)):List AFrame:=[{ fn:=118,N:=146,env:=[(0,AV.row 92061 0),(1,AV.int .i64 n12),(6,AV.ptr 118007 0 0 0),(8,AV.int .i64 n31),(17,AV.int .i64 n13),(18,AV.int .i64 n16),(61,AV.int .i64 n32),(62,AV.int .i64 n34)],todo:=.code (ACode.gh [] Zuw)::ZBl,defs:=[],rnd:=none,ret:=false,res:=[ARes.tmp 4,ARes.tmp 5] },{ fn:=92,N:=87,env:=[(2,AV.list (.ints .i64 e)),(3,AV.ptr 92004 0 0 0),(6,AV.ptr 92007 0 0 0),(10,AV.row 92061 0),(31,AV.row 92032 0),(32,AV.int .i64 n3),(33,AV.int .i64 n5),(34,AV.bool b14),(63,AV.row 92061 0),(64,AV.list (.ints .i64 e)),(65,AV.int .i64 n15)],todo:=[AItem.inReg [oN 66 (OpK.icall 118 [Opd.t 63,Opd.t 65]),mV 62 66,oN 67 (OpK.ext 0 (Opd.t 62)),oN 68 (OpK.ext 1 (Opd.t 62)),mV 16 67,mV 17 68], .code (ACode.gh [Ghost.keep [2,3,6,16,17]] (ACode.seq (ACode.seq (ACode.reg none [mV 69 17,oN 70 (OpK.not (Opd.t 69))]) (ACode.cond (Opd.t 70) (ACode.seq (ACode.reg none [oN 71 (OpK.build (.ints .i64 [0,0,0,0,0,0,0,0,0,0,0,0,0,0,0]) []),{ d:=none,g:=none,k:=OpK.store 15 (Opd.t 6) (Opd.t 71) },oN 7 (OpK.mov (Opd.c (AV.bool false)))]) ACode.ret) ACode.skip)) (ACode.seq (ACode.seq (ACode.reg none [mV 72 2,oN 73 (OpK.len (Opd.t 72)),oN 74 (OpK.mov (cI 0))]) (ACode.block 6 (ACode.loop Zkq))) ZkV)))],defs:=[],rnd:=none,ret:=false,res:=[ARes.cell 6 true 15,ARes.tmp 7] }]
def ZcC(w e:List Int)(A:Ar)(l2:List Int)(n3:Int)(l4:List Int)(n5 n12 n13:Int)(b14:Bool)(n15 n16 n31 n32:Int)(l33:List Nat)(n34:Int)(l35:List (List Int)):Zaa:=[(92004,{ base:=0,blks:=[Blk.row 107 (A.len w) (Row.gen [.agg (.ints .i64 l2)])] }),(92007,{ base:=0,blks:=[Blk.row 107 15 (Row.gen [.agg (.ints .i64 [0,0,0,0,0,0,0,0,0,0,0,0,0,0,0])])] }),(92032,{ base:=0,blks:=[Blk.row 3 1 (.ints .i64 l4)] }),(92061,{ base:=0,blks:=[Blk.row 25 1 (Row.refs 1000092 l33)] }),(118007,{ base:=0,blks:=[Blk.row 3 1 (Row.gen [.int .i64 n16])] }),(1000092,{ base:=0,blks:=[],sym:=Sym.ints 3 1 .i64 l35 })]
abbrev Zhn(w e:List Int)(A:Ar)(l2:List Int)(n3:Int)(l4:List Int)(n5 n12 n13:Int)(b14:Bool)(n15 n16 n31 n32:Int)(l33:List Nat)(n34:Int)(l35:List (List Int)):List AFrame×Zaa:=(Zdt w e A l2 n3 l4 n5 n12 n13 b14 n15 n16 n31 n32 l33 n34 l35,ZcC w e A l2 n3 l4 n5 n12 n13 b14 n15 n16 n31 n32 l33 n34 l35)
def Zc2(w e:List Int)(A:Ar)(l18:List (List Int))(l30:List Int)(n36 n37:Int)(l38:List Int):List AFrame:=[{ fn:=92,N:=87,env:=[(3,AV.ptr 92004 0 0 0),(6,AV.ptr 92007 0 0 0),(16,AV.row 118139 0),(72,AV.list (.ints .i64 e)),(73,AV.int .i64 n36),(74,AV.int .i64 n37)],todo:=.code (ACode.gh [] ZBc)::ZCg,defs:=[],rnd:=none,ret:=false,res:=[ARes.cell 6 true 15,ARes.tmp 7] }]
def Zci(w e:List Int)(A:Ar)(l18:List (List Int))(l30:List Int)(n36 n37:Int)(l38:List Int):Zaa:=[(92004,{ base:=0,blks:=[Blk.row 107 (A.len w) (Row.gen [.agg (.ints .i64 l38)])] }),(92007,{ base:=0,blks:=[Blk.row 107 15 (Row.gen [.agg (.ints .i64 [0,0,0,0,0,0,0,0,0,0,0,0,0,0,0])])] }),(118139,{ base:=0,blks:=[Blk.row 3 1 (.ints .i64 l30)] }),(1000092,{ base:=0,blks:=[],sym:=Sym.ints 3 1 .i64 l18 })]
abbrev Zjg(w e:List Int)(A:Ar)(l18:List (List Int))(l30:List Int)(n36 n37:Int)(l38:List Int):List AFrame×Zaa:=(Zc2 w e A l18 l30 n36 n37 l38,Zci w e A l18 l30 n36 n37 l38)
def Zck(w e:List Int)(A:Ar)(l2:List Int)(n3:Int)(l4:List Int)(n5 n12 n13:Int)(b14:Bool)(n15 n16:Int)(l33:List Nat)(n39 n40:Int)(l41:List (List Int)):List AFrame:=[{ fn:=118,N:=146,env:=[(0,AV.row 92061 0),(1,AV.int .i64 n12),(6,AV.ptr 118007 0 0 0),(17,AV.int .i64 n13),(18,AV.int .i64 n16),(81,AV.row 92061 0),(82,AV.int .i64 n39),(83,AV.int .i64 n40)],todo:=.code (ACode.gh [] Zug)::ZBm,defs:=[],rnd:=none,ret:=false,res:=[ARes.tmp 4,ARes.tmp 5] },{ fn:=92,N:=87,env:=[(2,AV.list (.ints .i64 e)),(3,AV.ptr 92004 0 0 0),(6,AV.ptr 92007 0 0 0),(10,AV.row 92061 0),(31,AV.row 92032 0),(32,AV.int .i64 n3),(33,AV.int .i64 n5),(34,AV.bool b14),(63,AV.row 92061 0),(64,AV.list (.ints .i64 e)),(65,AV.int .i64 n15)],todo:=[AItem.inReg [oN 66 (OpK.icall 118 [Opd.t 63,Opd.t 65]),mV 62 66,oN 67 (OpK.ext 0 (Opd.t 62)),oN 68 (OpK.ext 1 (Opd.t 62)),mV 16 67,mV 17 68], .code (ACode.gh [Ghost.keep [2,3,6,16,17]] (ACode.seq (ACode.seq (ACode.reg none [mV 69 17,oN 70 (OpK.not (Opd.t 69))]) (ACode.cond (Opd.t 70) (ACode.seq (ACode.reg none [oN 71 (OpK.build (.ints .i64 [0,0,0,0,0,0,0,0,0,0,0,0,0,0,0]) []),{ d:=none,g:=none,k:=OpK.store 15 (Opd.t 6) (Opd.t 71) },oN 7 (OpK.mov (Opd.c (AV.bool false)))]) ACode.ret) ACode.skip)) (ACode.seq (ACode.seq (ACode.reg none [mV 72 2,oN 73 (OpK.len (Opd.t 72)),oN 74 (OpK.mov (cI 0))]) (ACode.block 6 (ACode.loop Zkq))) ZkV)))],defs:=[],rnd:=none,ret:=false,res:=[ARes.cell 6 true 15,ARes.tmp 7] }]
def ZbS(w e:List Int)(A:Ar)(l2:List Int)(n3:Int)(l4:List Int)(n5 n12 n13:Int)(b14:Bool)(n15 n16:Int)(l33:List Nat)(n39 n40:Int)(l41:List (List Int)):Zaa:=[(92004,{ base:=0,blks:=[Blk.row 107 (A.len w) (Row.gen [.agg (.ints .i64 l2)])] }),(92007,{ base:=0,blks:=[Blk.row 107 15 (Row.gen [.agg (.ints .i64 [0,0,0,0,0,0,0,0,0,0,0,0,0,0,0])])] }),(92032,{ base:=0,blks:=[Blk.row 3 1 (.ints .i64 l4)] }),(92061,{ base:=0,blks:=[Blk.row 25 1 (Row.refs 1000092 l33)] }),(118007,{ base:=0,blks:=[Blk.row 3 1 (Row.gen [.int .i64 n16])] }),(1000092,{ base:=0,blks:=[],sym:=Sym.ints 3 1 .i64 l41 })]
abbrev ZcN(w e:List Int)(A:Ar)(l2:List Int)(n3:Int)(l4:List Int)(n5 n12 n13:Int)(b14:Bool)(n15 n16:Int)(l33:List Nat)(n39 n40:Int)(l41:List (List Int)):List AFrame×Zaa:=(Zck w e A l2 n3 l4 n5 n12 n13 b14 n15 n16 l33 n39 n40 l41,ZbS w e A l2 n3 l4 n5 n12 n13 b14 n15 n16 l33 n39 n40 l41)
def Zft(w e:List Int)(A:Ar)(l2:List Int)(n3:Int)(l4:List Int)(n5 n12 n13:Int)(b14:Bool)(n15 n16:Int)(l33:List Nat)(n39 n40:Int)(j42:Nat)(n43 n44 n45:Int)(l46:List (List Int)):List AFrame:=[{ fn:=118,N:=146,env:=[(0,AV.row 92061 0),(1,AV.int .i64 n12),(6,AV.ptr 118007 0 0 0),(11,AV.row 1000092 j42),(12,AV.int .i64 n43),(17,AV.int .i64 n13),(18,AV.int .i64 n16),(81,AV.row 92061 0),(82,AV.int .i64 n39),(83,AV.int .i64 n40),(100,AV.int .i64 n44),(101,AV.int .i64 n45)],todo:=.code (ACode.gh [] Zuz)::ZAq,defs:=[],rnd:=none,ret:=false,res:=[ARes.tmp 4,ARes.tmp 5] },{ fn:=92,N:=87,env:=[(2,AV.list (.ints .i64 e)),(3,AV.ptr 92004 0 0 0),(6,AV.ptr 92007 0 0 0),(10,AV.row 92061 0),(31,AV.row 92032 0),(32,AV.int .i64 n3),(33,AV.int .i64 n5),(34,AV.bool b14),(63,AV.row 92061 0),(64,AV.list (.ints .i64 e)),(65,AV.int .i64 n15)],todo:=[AItem.inReg [oN 66 (OpK.icall 118 [Opd.t 63,Opd.t 65]),mV 62 66,oN 67 (OpK.ext 0 (Opd.t 62)),oN 68 (OpK.ext 1 (Opd.t 62)),mV 16 67,mV 17 68], .code (ACode.gh [Ghost.keep [2,3,6,16,17]] (ACode.seq (ACode.seq (ACode.reg none [mV 69 17,oN 70 (OpK.not (Opd.t 69))]) (ACode.cond (Opd.t 70) (ACode.seq (ACode.reg none [oN 71 (OpK.build (.ints .i64 [0,0,0,0,0,0,0,0,0,0,0,0,0,0,0]) []),{ d:=none,g:=none,k:=OpK.store 15 (Opd.t 6) (Opd.t 71) },oN 7 (OpK.mov (Opd.c (AV.bool false)))]) ACode.ret) ACode.skip)) (ACode.seq (ACode.seq (ACode.reg none [mV 72 2,oN 73 (OpK.len (Opd.t 72)),oN 74 (OpK.mov (cI 0))]) (ACode.block 6 (ACode.loop Zkq))) ZkV)))],defs:=[],rnd:=none,ret:=false,res:=[ARes.cell 6 true 15,ARes.tmp 7] }]
def Zd5(w e:List Int)(A:Ar)(l2:List Int)(n3:Int)(l4:List Int)(n5 n12 n13:Int)(b14:Bool)(n15 n16:Int)(l33:List Nat)(n39 n40:Int)(j42:Nat)(n43 n44 n45:Int)(l46:List (List Int)):Zaa:=[(92004,{ base:=0,blks:=[Blk.row 107 (A.len w) (Row.gen [.agg (.ints .i64 l2)])] }),(92007,{ base:=0,blks:=[Blk.row 107 15 (Row.gen [.agg (.ints .i64 [0,0,0,0,0,0,0,0,0,0,0,0,0,0,0])])] }),(92032,{ base:=0,blks:=[Blk.row 3 1 (.ints .i64 l4)] }),(92061,{ base:=0,blks:=[Blk.row 25 1 (Row.refs 1000092 l33)] }),(118007,{ base:=0,blks:=[Blk.row 3 1 (Row.gen [.int .i64 n16])] }),(1000092,{ base:=0,blks:=[],sym:=Sym.ints 3 1 .i64 l46 })]
abbrev Zh0(w e:List Int)(A:Ar)(l2:List Int)(n3:Int)(l4:List Int)(n5 n12 n13:Int)(b14:Bool)(n15 n16:Int)(l33:List Nat)(n39 n40:Int)(j42:Nat)(n43 n44 n45:Int)(l46:List (List Int)):List AFrame×Zaa:=(Zft w e A l2 n3 l4 n5 n12 n13 b14 n15 n16 l33 n39 n40 j42 n43 n44 n45 l46,Zd5 w e A l2 n3 l4 n5 n12 n13 b14 n15 n16 l33 n39 n40 j42 n43 n44 n45 l46)
def ZA6(A:Ar)(K:KT)(F:FT)(w:List Int)(h:Int)(e:List Int):Prop:=rB [Nat.blt 0 (A.len [0,0,0,0,0,0,0,0,0,0,0,0,0,0,0]),Nat.blt 0 (A.len w)] (K (Zir (w) (h) (e) (A) (A.int (A.len e)) (0) (w)))
theorem ZDk{A:Ar}{K:KT}{F:FT}{M:MT}{w:List Int}{h:Int}{e:List Int} :Zam A tab Ke 92 K F M (.run 17 (.hd)) (ZFS w h e) []=ZA6 A K F w h e:=by kernel_rfl
def ZeV(A:Ar)(K:KT)(F:FT)(w:List Int)(h:Int)(e:List Int)(n0 n1:Int)(l2:List Int):Prop:=bB (A.lt n1 n0) (rB [A.inR .i64 (A.add n1 1),Nat.blt (0+A.nat (A.nth e (A.nat n1))) (A.len w),Zae (A.le 0 (A.nth e (A.nat n1))) (A.lt (A.nth e (A.nat n1)) (A.int 15)),Zae (Zae (A.le 0 n1) (Nat.blt (A.nat n1) (A.len e))) true] (K (Zir (w) (h) (e) (A) (n0) (A.add n1 1) (A.set l2 (0+A.nat (A.nth e (A.nat n1))) 0)))) (rB [decide (okw (A.sub3 l2 0 15)=true∧hfB h=true),Nat.ble 15 (A.len l2)] (K (Zjj (w) (e) (A) (l2) (A.int (A.len (syL (A.sub3 l2 0 15) (Nat.mul 2 (Int.toNat h))))) (syL (A.sub3 l2 0 15) (Nat.mul 2 (Int.toNat h))) (0) ([]) ([]))))
theorem Zh8{A:Ar}{K:KT}{F:FT}{M:MT}{w:List Int}{h:Int}{e:List Int}{n0 n1:Int}{l2:List Int} :Zam A tab Ke 92 K F M (.run 6 (.tf (.run 21 (.hd)) (.run 18 (.hd)))) (ZgX w h e A n0 n1 l2) (ZfB w h e A n0 n1 l2)=ZeV A K F w h e n0 n1 l2:=by kernel_rfl
def Zfl(A:Ar)(K:KT)(F:FT)(w e l2:List Int)(n3:Int)(l4:List Int)(n5:Int)(l6:List Nat)(l7:List (List Int)):Prop:=bB (A.lt n5 n3) (rB [Zae (Nat.blt (A.nat n5) (A.len l4)) true,Zae (A.le 0 n5) (Nat.blt (A.nat n5) (A.len l4))] (K (ZiD (w) (e) (A) (l2) (n3) (l4) (n5) (l6) (l7) (A.nth l4 (A.nat n5)) (A.int (A.len e)) (0) ([])))) (K (ZhE (w) (e) (A) (l2) (n3) (l4) (n5) (A.int (A.len e)) (A.int (A.len e)) (A.lt n5 n3) (A.int (A.len e)) (0) (l6) (l7)))
theorem ZiH{A:Ar}{K:KT}{F:FT}{M:MT}{w e l2:List Int}{n3:Int}{l4:List Int}{n5:Int}{l6:List Nat}{l7:List (List Int)} :Zam A tab Ke 92 K F M (.run 6 (.tf (.run 26 (.hd)) (.run 21 (.hd)))) (ZcR w e A l2 n3 l4 n5 l6 l7) (Zcl w e A l2 n3 l4 n5 l6 l7)=Zfl A K F w e l2 n3 l4 n5 l6 l7:=by kernel_rfl
def ZfR(A:Ar)(K:KT)(F:FT)(w e l2:List Int)(n3:Int)(l4:List Int)(n5:Int)(l6:List Nat)(l7:List (List Int))(n8 n9 n10:Int)(l11:List Int):Prop:=bB (A.lt n10 n9) (rB [A.inR .i64 (A.add n10 1),Nat.ble (A.len l11+A.len [gP (A.mul (A.add n5 1) (A.sub 14 (A.nth e (A.nat n10))))]) 4294967296,List.all [AV.int .i64 (gP (A.mul (A.add n5 1) (A.sub 14 (A.nth e (A.nat n10)))))] fun x=>AV.bx x&&Nat.beq (Zaf A x) 1,decide (0≤A.mul (A.add n5 1) (A.sub 14 (A.nth e (A.nat n10)))),A.inR .i64 (A.mul (A.add n5 1) (A.sub 14 (A.nth e (A.nat n10)))),A.inR .i64 (A.sub 14 (A.nth e (A.nat n10))),A.inR .i64 (A.add n5 1),Zae (Zae (A.le 0 n10) (Nat.blt (A.nat n10) (A.len e))) true] (K (ZiD (w) (e) (A) (l2) (n3) (l4) (n5) (l6) (l7) (n8) (n9) (A.add n10 1) (A.app l11 [gP (A.mul (A.add n5 1) (A.sub 14 (A.nth e (A.nat n10))))])))) (rB [A.inR .i64 (A.add n5 1),Nat.ble (A.lenF l6+A.lenF [0+List.length (List.map (fun l=>Blk.row 3 1 (.ints .i64 l)) l7)]) 4294967296,List.all [AV.row 1000092 (0+List.length (List.map (fun l=>Blk.row 3 1 (.ints .i64 l)) l7))] fun x=>AV.bx x&&Nat.beq (Zaf A x) 1,Nat.ble (A.len l11+A.len [n8]) 4294967296,List.all [AV.int .i64 n8] fun x=>AV.bx x&&Nat.beq (Zaf A x) 1] (K (Zjj (w) (e) (A) (l2) (n3) (l4) (A.add n5 1) (A.appF l6 [0+List.length (List.map (fun l=>Blk.row 3 1 (.ints .i64 l)) l7)]) (List.append l7 [A.app l11 [n8]]))))
theorem ZjB{A:Ar}{K:KT}{F:FT}{M:MT}{w e l2:List Int}{n3:Int}{l4:List Int}{n5:Int}{l6:List Nat}{l7:List (List Int)}{n8 n9 n10:Int}{l11:List Int} :Zam A tab Ke 92 K F M (.run 6 (.tf (.run 28 (.hd)) (.run 18 (.hd)))) (ZgT w e A l2 n3 l4 n5 l6 l7 n8 n9 n10 l11) (Zfe w e A l2 n3 l4 n5 l6 l7 n8 n9 n10 l11)=ZfR A K F w e l2 n3 l4 n5 l6 l7 n8 n9 n10 l11:=by kernel_rfl
def Zcy(A:Ar)(K:KT)(F:FT)(w e l2:List Int)(n3:Int)(l4:List Int)(n5 n12 n13:Int)(b14:Bool)(n15 n16:Int)(l17:List Nat)(l18:List (List Int)):Prop:=bB (A.lt n16 n13) (rB [Nat.ble (A.nat (A.min n16 (A.int (A.lenF l17)))+(A.lenF l17-A.nat (A.min n16 (A.int (A.lenF l17))))) (A.lenF l17),Zae (Zae (A.le 0 (A.min n16 (A.int (A.lenF l17)))) true) (Zae (Zae (Nat.ble (A.nat (A.min n16 (A.int (A.lenF l17)))) (A.lenF l17)) (Nat.ble (A.lenF l17) (A.lenF l17))) true)] (K (Zhl (w) (e) (A) (l2) (n3) (l4) (n5) (n12) (n13) (b14) (n15) (n16) (l17) (l18) (A.nat (A.min n16 (A.int (A.lenF l17)))) (A.lenF l17-A.nat (A.min n16 (A.int (A.lenF l17)))) (A.int (A.lenF (A.subF l17 (A.nat (A.min n16 (A.int (A.lenF l17)))) (A.lenF l17-A.nat (A.min n16 (A.int (A.lenF l17))))))) (A.lt n16 n13) (A.int (A.lenF l17)) (A.min n16 (A.int (A.lenF l17))) (A.nat (A.min n16 (A.int (A.lenF l17)))) (A.lenF l17-A.nat (A.min n16 (A.int (A.lenF l17)))) (0)))) (K (Zd6 (w) (e) (A) (l2) (n3) (l4) (n5) (n12) (b14) (n15) (l17) (l18) (A.int (A.lenF l17)) (0) ([])))
theorem Zho{A:Ar}{K:KT}{F:FT}{M:MT}{w e l2:List Int}{n3:Int}{l4:List Int}{n5 n12 n13:Int}{b14:Bool}{n15 n16:Int}{l17:List Nat}{l18:List (List Int)} :Zam A tab Ke 92 K F M (.run 6 (.tf (.run 33 (.hd)) (.run 16 (.hd)))) (ZbL w e A l2 n3 l4 n5 n12 n13 b14 n15 n16 l17 l18) (Zbr w e A l2 n3 l4 n5 n12 n13 b14 n15 n16 l17 l18)=Zcy A K F w e l2 n3 l4 n5 n12 n13 b14 n15 n16 l17 l18:=by kernel_rfl
def ZbV(A:Ar)(K:KT)(F:FT)(w e l2:List Int)(n3:Int)(l4:List Int)(n5 n12 n13:Int)(b14:Bool)(n15 n16:Int)(l17:List Nat)(l18:List (List Int))(j19 j20:Nat)(n21:Int)(b22:Bool)(n23 n24:Int)(j25 j26:Nat)(n27:Int):Prop:=bB (A.lt n27 n21) (rB [Zae (Nat.blt (A.nthF l17 (j19+A.nat n27)) (List.length l18)) (Zae (Nat.blt (A.nat n16) (A.len (List.getD l18 (A.nthF l17 (j19+A.nat n27)) []))) true),Zae (Nat.blt (A.nthF l17 (j19+A.nat n27)) (List.length l18)) (Zae (A.le 0 n16) (Nat.blt (A.nat n16) (A.len (List.getD l18 (A.nthF l17 (j19+A.nat n27)) [])))),Zae (Nat.blt (j19+A.nat n27) (A.lenF l17)) true,Zae (A.le 0 n27) (Nat.blt (A.nat n27) j20)] (bB (A.not (A.eq (A.nth (List.getD l18 (A.nthF l17 (j19+A.nat n27)) []) (A.nat n16)) 0)) (bB (A.lt n27 0) (rB [A.not false] (rB [Nat.beq (A.len [0,0,0,0,0,0,0,0,0,0,0,0,0,0,0]) 15] (rB [Zae (Zae (Nat.ble 15 (A.len [0,0,0,0,0,0,0,0,0,0,0,0,0,0,0])) true) true] (F (AV.tup [AV.agg (.ints .i64 (A.sub3 [0,0,0,0,0,0,0,0,0,0,0,0,0,0,0] 0 15)),AV.bool false]) (none))))) (rB [Nat.blt (A.nthF (A.setF (A.setF l17 (A.nat n16) (A.nthF l17 (A.nat (A.add n16 n27)))) (A.nat (A.add n16 n27)) (A.nthF l17 (A.nat n16))) (A.nat n16)) (List.length l18),Zae (Nat.blt (A.nat n16) (A.lenF (A.setF (A.setF l17 (A.nat n16) (A.nthF l17 (A.nat (A.add n16 n27)))) (A.nat (A.add n16 n27)) (A.nthF l17 (A.nat n16))))) true,Zae (A.le 0 n16) (Nat.blt (A.nat n16) (A.lenF (A.setF (A.setF l17 (A.nat n16) (A.nthF l17 (A.nat (A.add n16 n27)))) (A.nat (A.add n16 n27)) (A.nthF l17 (A.nat n16))))),decide (elB (A.nth (List.getD l18 (A.nthF (A.setF (A.setF l17 (A.nat n16) (A.nthF l17 (A.nat (A.add n16 n27)))) (A.nat (A.add n16 n27)) (A.nthF l17 (A.nat n16))) (A.nat n16)) []) (A.nat n16))=true),Zae (Nat.blt (A.nthF (A.setF (A.setF l17 (A.nat n16) (A.nthF l17 (A.nat (A.add n16 n27)))) (A.nat (A.add n16 n27)) (A.nthF l17 (A.nat n16))) (A.nat n16)) (List.length l18)) (Zae (Nat.blt (A.nat n16) (A.len (List.getD l18 (A.nthF (A.setF (A.setF l17 (A.nat n16) (A.nthF l17 (A.nat (A.add n16 n27)))) (A.nat (A.add n16 n27)) (A.nthF l17 (A.nat n16))) (A.nat n16)) []))) true),Zae (Nat.blt (A.nthF (A.setF (A.setF l17 (A.nat n16) (A.nthF l17 (A.nat (A.add n16 n27)))) (A.nat (A.add n16 n27)) (A.nthF l17 (A.nat n16))) (A.nat n16)) (List.length l18)) (Zae (A.le 0 n16) (Nat.blt (A.nat n16) (A.len (List.getD l18 (A.nthF (A.setF (A.setF l17 (A.nat n16) (A.nthF l17 (A.nat (A.add n16 n27)))) (A.nat (A.add n16 n27)) (A.nthF l17 (A.nat n16))) (A.nat n16)) [])))),Zae (Nat.blt (A.nat n16) (A.lenF (A.setF (A.setF l17 (A.nat n16) (A.nthF l17 (A.nat (A.add n16 n27)))) (A.nat (A.add n16 n27)) (A.nthF l17 (A.nat n16))))) true,Zae (A.le 0 n16) (Nat.blt (A.nat n16) (A.lenF (A.setF (A.setF l17 (A.nat n16) (A.nthF l17 (A.nat (A.add n16 n27)))) (A.nat (A.add n16 n27)) (A.nthF l17 (A.nat n16))))),Zae (Nat.blt (A.nat (A.add n16 n27)) (A.lenF (A.setF l17 (A.nat n16) (A.nthF l17 (A.nat (A.add n16 n27)))))) true,Zae (A.le 0 (A.add n16 n27)) (Nat.blt (A.nat (A.add n16 n27)) (A.lenF (A.setF l17 (A.nat n16) (A.nthF l17 (A.nat (A.add n16 n27)))))),Zae (Nat.blt (A.nat n16) (A.lenF l17)) true,Zae (A.le 0 n16) (Nat.blt (A.nat n16) (A.lenF l17)),Zae (Nat.blt (A.nat n16) (A.lenF l17)) true,Zae (A.le 0 n16) (Nat.blt (A.nat n16) (A.lenF l17)),Zae (Nat.blt (A.nat (A.add n16 n27)) (A.lenF l17)) true,Zae (A.le 0 (A.add n16 n27)) (Nat.blt (A.nat (A.add n16 n27)) (A.lenF l17)),A.inR .i64 (A.add n16 n27),A.inR .i64 (A.add n16 n27)] (K (Zhn (w) (e) (A) (l2) (n3) (l4) (n5) (n12) (n13) (b14) (n15) (n16) (gI (A.nth (List.getD l18 (A.nthF (A.setF (A.setF l17 (A.nat n16) (A.nthF l17 (A.nat (A.add n16 n27)))) (A.nat (A.add n16 n27)) (A.nthF l17 (A.nat n16))) (A.nat n16)) []) (A.nat n16))) (A.int (A.len (List.getD l18 (A.nthF (A.setF (A.setF l17 (A.nat n16) (A.nthF l17 (A.nat (A.add n16 n27)))) (A.nat (A.add n16 n27)) (A.nthF l17 (A.nat n16))) (A.nat n16)) []))) (A.setF (A.setF l17 (A.nat n16) (A.nthF l17 (A.nat (A.add n16 n27)))) (A.nat (A.add n16 n27)) (A.nthF l17 (A.nat n16))) (0) (l18))))) (rB [A.inR .i64 (A.add n27 1)] (K (Zhl (w) (e) (A) (l2) (n3) (l4) (n5) (n12) (n13) (b14) (n15) (n16) (l17) (l18) (j19) (j20) (n21) (b22) (n23) (n24) (j25) (j26) (A.add n27 1)))))) (rB [A.lt (-1) 0] (rB [A.not false] (rB [Nat.beq (A.len [0,0,0,0,0,0,0,0,0,0,0,0,0,0,0]) 15] (rB [Zae (Zae (Nat.ble 15 (A.len [0,0,0,0,0,0,0,0,0,0,0,0,0,0,0])) true) true] (F (AV.tup [AV.agg (.ints .i64 (A.sub3 [0,0,0,0,0,0,0,0,0,0,0,0,0,0,0] 0 15)),AV.bool false]) (none))))))
theorem Zel{A:Ar}{K:KT}{F:FT}{M:MT}{w e l2:List Int}{n3:Int}{l4:List Int}{n5 n12 n13:Int}{b14:Bool}{n15 n16:Int}{l17:List Nat}{l18:List (List Int)}{j19 j20:Nat}{n21:Int}{b22:Bool}{n23 n24:Int}{j25 j26:Nat}{n27:Int} :Zam A tab Ke 92 K F M (.run 6 (.tf (.run 32 (.tf (.run 16 (.tf (.run 20 (.ty (.run 7 (.fn)))) (.run 20 (.hd)))) (.run 8 (.hd)))) (.run 16 (.ty (.run 20 (.ty (.run 7 (.fn)))))))) (Zfw w e A l2 n3 l4 n5 n12 n13 b14 n15 n16 l17 l18 j19 j20 n21 b22 n23 n24 j25 j26 n27) (Zeg w e A l2 n3 l4 n5 n12 n13 b14 n15 n16 l17 l18 j19 j20 n21 b22 n23 n24 j25 j26 n27)=ZbV A K F w e l2 n3 l4 n5 n12 n13 b14 n15 n16 l17 l18 j19 j20 n21 b22 n23 n24 j25 j26 n27:=by kernel_rfl
def ZbT(A:Ar)(K:KT)(F:FT)(w e l2:List Int)(n3:Int)(l4:List Int)(n5 n12:Int)(b14:Bool)(n15:Int)(l17:List Nat)(l18:List (List Int))(n28 n29:Int)(l30:List Int):Prop:=bB (A.lt n29 n28) (rB [Zae (Nat.blt (A.nat n29) (A.lenF l17)) true,Zae (A.le 0 n29) (Nat.blt (A.nat n29) (A.lenF l17))] (bB (A.lt n29 n12) (rB [A.inR .i64 (A.add n29 1),Nat.ble (A.len l30+A.len [A.nth (List.getD l18 (A.nthF l17 (A.nat n29)) []) (A.nat n12)]) 4294967296,List.all [AV.int .i64 (A.nth (List.getD l18 (A.nthF l17 (A.nat n29)) []) (A.nat n12))] fun x=>AV.bx x&&Nat.beq (Zaf A x) 1,Zae (Nat.blt (A.nthF l17 (A.nat n29)) (List.length l18)) (Zae (Nat.blt (A.nat n12) (A.len (List.getD l18 (A.nthF l17 (A.nat n29)) []))) true),Zae (Nat.blt (A.nthF l17 (A.nat n29)) (List.length l18)) (Zae (A.le 0 n12) (Nat.blt (A.nat n12) (A.len (List.getD l18 (A.nthF l17 (A.nat n29)) []))))] (K (Zd6 (w) (e) (A) (l2) (n3) (l4) (n5) (n12) (b14) (n15) (l17) (l18) (n28) (A.add n29 1) (A.app l30 [A.nth (List.getD l18 (A.nthF l17 (A.nat n29)) []) (A.nat n12)])))) (rB [Zae (Nat.blt (A.nthF l17 (A.nat n29)) (List.length l18)) (Zae (Nat.blt (A.nat n12) (A.len (List.getD l18 (A.nthF l17 (A.nat n29)) []))) true),Zae (Nat.blt (A.nthF l17 (A.nat n29)) (List.length l18)) (Zae (A.le 0 n12) (Nat.blt (A.nat n12) (A.len (List.getD l18 (A.nthF l17 (A.nat n29)) []))))] (bB (A.not (A.eq (A.nth (List.getD l18 (A.nthF l17 (A.nat n29)) []) (A.nat n12)) 0)) (rB [A.not false] (rB [Nat.beq (A.len [0,0,0,0,0,0,0,0,0,0,0,0,0,0,0]) 15] (rB [Zae (Zae (Nat.ble 15 (A.len [0,0,0,0,0,0,0,0,0,0,0,0,0,0,0])) true) true] (F (AV.tup [AV.agg (.ints .i64 (A.sub3 [0,0,0,0,0,0,0,0,0,0,0,0,0,0,0] 0 15)),AV.bool false]) (none))))) (rB [A.inR .i64 (A.add n29 1)] (K (Zd6 (w) (e) (A) (l2) (n3) (l4) (n5) (n12) (b14) (n15) (l17) (l18) (n28) (A.add n29 1) (l30)))))))) (rB [!A.not true] (K (Zjg (w) (e) (A) (l18) (l30) (A.int (A.len e)) (0) (l2))))
theorem Zhm{A:Ar}{K:KT}{F:FT}{M:MT}{w e l2:List Int}{n3:Int}{l4:List Int}{n5 n12:Int}{b14:Bool}{n15:Int}{l17:List Nat}{l18:List (List Int)}{n28 n29:Int}{l30:List Int} :Zam A tab Ke 92 K F M (.run 6 (.tf (.run 18 (.tf (.run 19 (.hd)) (.run 9 (.tf (.run 20 (.ty (.run 7 (.fn)))) (.run 8 (.hd)))))) (.run 22 (.fy (.run 11 (.hd)))))) (ZdI w e A l2 n3 l4 n5 n12 b14 n15 l17 l18 n28 n29 l30) (ZcL w e A l2 n3 l4 n5 n12 b14 n15 l17 l18 n28 n29 l30)=ZbT A K F w e l2 n3 l4 n5 n12 b14 n15 l17 l18 n28 n29 l30:=by kernel_rfl
def Zeb(A:Ar)(K:KT)(F:FT)(w e l2:List Int)(n3:Int)(l4:List Int)(n5 n12 n13:Int)(b14:Bool)(n15 n16 n31 n32:Int)(l33:List Nat)(n34:Int)(l35:List (List Int)):Prop:=bB (A.lt n34 n32) (rB [A.inR .i64 (A.add n34 1),Zae (Nat.blt (A.nthF l33 (A.nat n16)) (List.length l35)) (Nat.blt (A.nat n34) (A.len (List.getD l35 (A.nthF l33 (A.nat n16)) []))),Zae (Nat.blt (A.nthF l33 (A.nat n16)) (List.length l35)) (Zae (A.le 0 n34) (Nat.blt (A.nat n34) (A.len (List.getD l35 (A.nthF l33 (A.nat n16)) [])))),decide (elB (A.nth (List.getD l35 (A.nthF l33 (A.nat n16)) []) (A.nat n34))=true∧elB n31=true),Zae (Nat.blt (A.nthF l33 (A.nat n16)) (List.length l35)) (Zae (Nat.blt (A.nat n34) (A.len (List.getD l35 (A.nthF l33 (A.nat n16)) []))) true),Zae (Nat.blt (A.nthF l33 (A.nat n16)) (List.length l35)) (Zae (A.le 0 n34) (Nat.blt (A.nat n34) (A.len (List.getD l35 (A.nthF l33 (A.nat n16)) [])))),Zae (Nat.blt (A.nat n16) (A.lenF l33)) true,Zae (A.le 0 n16) (Nat.blt (A.nat n16) (A.lenF l33)),Zae (Nat.blt (A.nat n16) (A.lenF l33)) true,Zae (A.le 0 n16) (Nat.blt (A.nat n16) (A.lenF l33))] (K (Zhn (w) (e) (A) (l2) (n3) (l4) (n5) (n12) (n13) (b14) (n15) (n16) (n31) (n32) (l33) (A.add n34 1) (List.set l35 (A.nthF l33 (A.nat n16)-0) (A.set (List.getD l35 (A.nthF l33 (A.nat n16)) []) (A.nat n34) (gM (A.nth (List.getD l35 (A.nthF l33 (A.nat n16)) []) (A.nat n34)) n31)))))) (K (ZcN (w) (e) (A) (l2) (n3) (l4) (n5) (n12) (n13) (b14) (n15) (n16) (l33) (A.int (A.lenF l33)) (0) (l35)))
theorem Zhe{A:Ar}{K:KT}{F:FT}{M:MT}{w e l2:List Int}{n3:Int}{l4:List Int}{n5 n12 n13:Int}{b14:Bool}{n15 n16 n31 n32:Int}{l33:List Nat}{n34:Int}{l35:List (List Int)} :Zam A tab Ke 92 K F M (.run 6 (.tf (.run 16 (.hd)) (.run 10 (.hd)))) (Zdt w e A l2 n3 l4 n5 n12 n13 b14 n15 n16 n31 n32 l33 n34 l35) (ZcC w e A l2 n3 l4 n5 n12 n13 b14 n15 n16 n31 n32 l33 n34 l35)=Zeb A K F w e l2 n3 l4 n5 n12 n13 b14 n15 n16 n31 n32 l33 n34 l35:=by kernel_rfl
def Ze0(A:Ar)(K:KT)(F:FT)(w e:List Int)(l18:List (List Int))(l30:List Int)(n36 n37:Int)(l38:List Int):Prop:=bB (A.lt n37 n36) (rB [A.inR .i64 (A.add n37 1),Nat.blt (0+A.nat (A.nth e (A.nat n37))) (A.len w),Zae (A.le 0 (A.nth e (A.nat n37))) (A.lt (A.nth e (A.nat n37)) (A.int 15)),Zae (Nat.blt (A.nat n37) (A.len l30)) true,Zae (A.le 0 n37) (Nat.blt (A.nat n37) (A.len l30)),Zae (Zae (A.le 0 n37) (Nat.blt (A.nat n37) (A.len e))) true] (K (Zjg (w) (e) (A) (l18) (l30) (n36) (A.add n37 1) (A.set l38 (0+A.nat (A.nth e (A.nat n37))) (A.nth l30 (A.nat n37)))))) (rB [Nat.beq (A.len (A.sub3 l38 0 15)) 15,Nat.ble 15 (A.len l38)] (rB [Zae (Zae (Nat.ble 15 (A.len (A.sub3 l38 0 15))) true) true] (F (AV.tup [AV.agg (.ints .i64 (A.sub3 (A.sub3 l38 0 15) 0 15)),AV.bool true]) (none))))
theorem Ziq{A:Ar}{K:KT}{F:FT}{M:MT}{w e:List Int}{l18:List (List Int)}{l30:List Int}{n36 n37:Int}{l38:List Int} :Zam A tab Ke 92 K F M (.run 6 (.tf (.run 27 (.hd)) (.run 8 (.fn)))) (Zc2 w e A l18 l30 n36 n37 l38) (Zci w e A l18 l30 n36 n37 l38)=Ze0 A K F w e l18 l30 n36 n37 l38:=by kernel_rfl
def ZbW(A:Ar)(K:KT)(F:FT)(w e l2:List Int)(n3:Int)(l4:List Int)(n5 n12 n13:Int)(b14:Bool)(n15 n16:Int)(l33:List Nat)(n39 n40:Int)(l41:List (List Int)):Prop:=bB (A.lt n40 n39) (rB [Zae (Nat.blt (A.nthF l33 (A.nat n40)) (List.length l41)) (Zae (Nat.blt (A.nat n16) (A.len (List.getD l41 (A.nthF l33 (A.nat n40)) []))) true),Zae (Nat.blt (A.nthF l33 (A.nat n40)) (List.length l41)) (Zae (A.le 0 n16) (Nat.blt (A.nat n16) (A.len (List.getD l41 (A.nthF l33 (A.nat n40)) [])))),Zae (Nat.blt (A.nat n40) (A.lenF l33)) true,Zae (A.le 0 n40) (Nat.blt (A.nat n40) (A.lenF l33))] (bB (A.not (A.eq n40 n16)) (bB (A.not (A.eq (A.nth (List.getD l41 (A.nthF l33 (A.nat n40)) []) (A.nat n16)) 0)) (rB [Nat.blt (A.nthF l33 (A.nat n40)) (List.length l41)] (K (Zh0 (w) (e) (A) (l2) (n3) (l4) (n5) (n12) (n13) (b14) (n15) (n16) (l33) (n39) (n40) (A.nthF l33 (A.nat n40)) (A.nth (List.getD l41 (A.nthF l33 (A.nat n40)) []) (A.nat n16)) (A.int (A.len (List.getD l41 (A.nthF l33 (A.nat n40)) []))) (0) (l41)))) (rB [A.inR .i64 (A.add n40 1)] (K (ZcN (w) (e) (A) (l2) (n3) (l4) (n5) (n12) (n13) (b14) (n15) (n16) (l33) (n39) (A.add n40 1) (l41))))) (rB [A.inR .i64 (A.add n40 1)] (K (ZcN (w) (e) (A) (l2) (n3) (l4) (n5) (n12) (n13) (b14) (n15) (n16) (l33) (n39) (A.add n40 1) (l41)))))) (rB [A.inR .i64 (A.add n16 1)] (K (ZhE (w) (e) (A) (l2) (n3) (l4) (n5) (n12) (n13) (b14) (n15) (A.add n16 1) (l33) (l41))))
theorem ZgW{A:Ar}{K:KT}{F:FT}{M:MT}{w e l2:List Int}{n3:Int}{l4:List Int}{n5 n12 n13:Int}{b14:Bool}{n15 n16:Int}{l33:List Nat}{n39 n40:Int}{l41:List (List Int)} :Zam A tab Ke 92 K F M (.run 6 (.tf (.run 25 (.tf (.ty (.ty (.run 2 (.tf (.run 9 (.hd)) (.run 8 (.hd)))))) (.fy (.fy (.run 2 (.fy (.run 8 (.hd)))))))) (.run 8 (.hd)))) (Zck w e A l2 n3 l4 n5 n12 n13 b14 n15 n16 l33 n39 n40 l41) (ZbS w e A l2 n3 l4 n5 n12 n13 b14 n15 n16 l33 n39 n40 l41)=ZbW A K F w e l2 n3 l4 n5 n12 n13 b14 n15 n16 l33 n39 n40 l41:=by kernel_rfl
def Zd0(A:Ar)(K:KT)(F:FT)(w e l2:List Int)(n3:Int)(l4:List Int)(n5 n12 n13:Int)(b14:Bool)(n15 n16:Int)(l33:List Nat)(n39 n40:Int)(j42:Nat)(n43 n44 n45:Int)(l46:List (List Int)):Prop:=bB (A.lt n45 n44) (rB [A.inR .i64 (A.add n45 1),Zae (Nat.blt j42 (List.length l46)) (Nat.blt (A.nat n45) (A.len (List.getD l46 j42 []))),Zae (Nat.blt j42 (List.length l46)) (Zae (A.le 0 n45) (Nat.blt (A.nat n45) (A.len (List.getD l46 j42 [])))),decide (elB (A.nth (List.getD l46 (A.nthF l33 (A.nat n16)) []) (A.nat n45))=true∧elB n43=true),Zae (Nat.blt (A.nthF l33 (A.nat n16)) (List.length l46)) (Zae (Nat.blt (A.nat n45) (A.len (List.getD l46 (A.nthF l33 (A.nat n16)) []))) true),Zae (Nat.blt (A.nthF l33 (A.nat n16)) (List.length l46)) (Zae (A.le 0 n45) (Nat.blt (A.nat n45) (A.len (List.getD l46 (A.nthF l33 (A.nat n16)) [])))),Zae (Nat.blt (A.nat n16) (A.lenF l33)) true,Zae (A.le 0 n16) (Nat.blt (A.nat n16) (A.lenF l33)),Zae (Nat.blt j42 (List.length l46)) (Zae (Nat.blt (A.nat n45) (A.len (List.getD l46 j42 []))) true),Zae (Nat.blt j42 (List.length l46)) (Zae (A.le 0 n45) (Nat.blt (A.nat n45) (A.len (List.getD l46 j42 []))))] (K (Zh0 (w) (e) (A) (l2) (n3) (l4) (n5) (n12) (n13) (b14) (n15) (n16) (l33) (n39) (n40) (j42) (n43) (n44) (A.add n45 1) (List.set l46 (j42-0) (A.set (List.getD l46 j42 []) (A.nat n45) (A.bits Go.BinOp.xor .i64 (A.nth (List.getD l46 j42 []) (A.nat n45)) (gM (A.nth (List.getD l46 (A.nthF l33 (A.nat n16)) []) (A.nat n45)) n43))))))) (rB [A.inR .i64 (A.add n40 1)] (K (ZcN (w) (e) (A) (l2) (n3) (l4) (n5) (n12) (n13) (b14) (n15) (n16) (l33) (n39) (A.add n40 1) (l46))))
theorem Zhz{A:Ar}{K:KT}{F:FT}{M:MT}{w e l2:List Int}{n3:Int}{l4:List Int}{n5 n12 n13:Int}{b14:Bool}{n15 n16:Int}{l33:List Nat}{n39 n40:Int}{j42:Nat}{n43 n44 n45:Int}{l46:List (List Int)} :Zam A tab Ke 92 K F M (.run 6 (.tf (.run 16 (.hd)) (.run 8 (.hd)))) (Zft w e A l2 n3 l4 n5 n12 n13 b14 n15 n16 l33 n39 n40 j42 n43 n44 n45 l46) (Zd5 w e A l2 n3 l4 n5 n12 n13 b14 n15 n16 l33 n39 n40 j42 n43 n44 n45 l46)=Zd0 A K F w e l2 n3 l4 n5 n12 n13 b14 n15 n16 l33 n39 n40 j42 n43 n44 n45 l46:=by kernel_rfl
def ZzU(h:Int)(w e:List Int):AFrame:={ fn:=46,N:=204,env:=[(0,AV.int .i64 h),(1,AV.list (.ints .i64 w)),(2,AV.list (.ints .i64 e))],todo:=[.code a46.code],defs:=[],rnd:=none,ret:=false,res:=[ARes.tmp 6,ARes.tmp 7] }
def ZGO(h:Int)(w e:List Int):List AFrame:=[(ZzU h w e)]
theorem ZuF(h:Int)(w e:List Int):Zat tab 46 [AV.int .i64 h,AV.list (.ints .i64 w),AV.list (.ints .i64 e)]=some (ZzU h w e):=rfl
def Zhi(h:Int)(e:List Int)(n0:Int)(l1:List Int):List AFrame:=[{ fn:=46,N:=204,env:=[(0,AV.int .i64 h),(2,AV.list (.ints .i64 e)),(8,AV.row 46025 0),(9,AV.int .i64 n0)],todo:=[.code (ACode.gh [] Zyx),AItem.inLoop ZAT,AItem.inBlock 0, .code ZAS],defs:=[],rnd:=none,ret:=false,res:=[ARes.tmp 6,ARes.tmp 7] }]
def ZfC(h:Int)(e:List Int)(n0:Int)(l1:List Int):Zaa:=[(46025,{ base:=0,blks:=[Blk.row 3 1 (.ints .i64 l1)] }),(1000046,{ base:=0,blks:=[],sym:=Sym.ints 3 1 .i64 [] })]
abbrev Zju(h:Int)(e:List Int)(n0:Int)(l1:List Int):List AFrame×Zaa:=(Zhi h e n0 l1,ZfC h e n0 l1)
def Zc5(h:Int)(e l1 l2:List Int)(n3:Int)(l4:List Nat)(l5:List (List Int)):List AFrame:=[{ fn:=46,N:=204,env:=[(0,AV.int .i64 h),(2,AV.list (.ints .i64 e)),(8,AV.row 46025 0),(10,AV.row 46040 0),(11,AV.row 46075 0),(12,AV.int .i64 n3)],todo:=.code (ACode.gh [] ZxG)::ZDd,defs:=[],rnd:=none,ret:=false,res:=[ARes.tmp 6,ARes.tmp 7] }]
def Zcu(h:Int)(e l1 l2:List Int)(n3:Int)(l4:List Nat)(l5:List (List Int)):Zaa:=[(46025,{ base:=0,blks:=[Blk.row 3 1 (.ints .i64 l1)] }),(46040,{ base:=0,blks:=[Blk.row 3 1 (.ints .i64 l2)] }),(46075,{ base:=0,blks:=[Blk.row 25 1 (Row.refs 1000046 l4)] }),(1000046,{ base:=0,blks:=[],sym:=Sym.ints 3 1 .i64 l5 })]
abbrev ZiG(h:Int)(e l1 l2:List Int)(n3:Int)(l4:List Nat)(l5:List (List Int)):List AFrame×Zaa:=(Zc5 h e l1 l2 n3 l4 l5,Zcu h e l1 l2 n3 l4 l5)
def Zg6(h:Int)(e l1 l2:List Int)(n3:Int)(l4:List Nat)(l5:List (List Int))(n6:Int)(l7:List Int):List AFrame:=[{ fn:=46,N:=204,env:=[(0,AV.int .i64 h),(2,AV.list (.ints .i64 e)),(8,AV.row 46025 0),(10,AV.row 46040 0),(11,AV.row 46075 0),(12,AV.int .i64 n3),(13,AV.row 46064 0),(14,AV.int .i64 n6)],todo:=.code (ACode.gh [] ZzN)::ZD8,defs:=[],rnd:=none,ret:=false,res:=[ARes.tmp 6,ARes.tmp 7] }]
def ZfT(h:Int)(e l1 l2:List Int)(n3:Int)(l4:List Nat)(l5:List (List Int))(n6:Int)(l7:List Int):Zaa:=[(46025,{ base:=0,blks:=[Blk.row 3 1 (.ints .i64 l1)] }),(46040,{ base:=0,blks:=[Blk.row 3 1 (.ints .i64 l2)] }),(46064,{ base:=0,blks:=[Blk.row 3 1 (.ints .i64 l7)] }),(46075,{ base:=0,blks:=[Blk.row 25 1 (Row.refs 1000046 l4)] }),(1000046,{ base:=0,blks:=[],sym:=Sym.ints 3 1 .i64 l5 })]
abbrev Ziu(h:Int)(e l1 l2:List Int)(n3:Int)(l4:List Nat)(l5:List (List Int))(n6:Int)(l7:List Int):List AFrame×Zaa:=(Zg6 h e l1 l2 n3 l4 l5 n6 l7,ZfT h e l1 l2 n3 l4 l5 n6 l7)
def Zdi(h:Int)(e l1:List Int)(n8:Int)(l9:List Nat)(l10:List (List Int)):List AFrame:=[{ fn:=46,N:=204,env:=[(0,AV.int .i64 h),(2,AV.list (.ints .i64 e)),(8,AV.row 46025 0),(11,AV.row 46075 0),(15,AV.int .i64 n8)],todo:=.code (ACode.gh [] Zyk)::ZCD,defs:=[],rnd:=none,ret:=false,res:=[ARes.tmp 6,ARes.tmp 7] }]
def Zcj(h:Int)(e l1:List Int)(n8:Int)(l9:List Nat)(l10:List (List Int)):Zaa:=[(46025,{ base:=0,blks:=[Blk.row 3 1 (.ints .i64 l1)] }),(46075,{ base:=0,blks:=[Blk.row 25 1 (Row.refs 1000046 l9)] }),(1000046,{ base:=0,blks:=[],sym:=Sym.ints 3 1 .i64 l10 })]
abbrev ZiU(h:Int)(e l1:List Int)(n8:Int)(l9:List Nat)(l10:List (List Int)):List AFrame×Zaa:=(Zdi h e l1 n8 l9 l10,Zcj h e l1 n8 l9 l10)
def ZgS(h:Int)(e l1:List Int)(n8:Int)(l9:List Nat)(l10:List (List Int))(n11:Int):List AFrame:=[{ fn:=46,N:=204,env:=[(0,AV.int .i64 h),(2,AV.list (.ints .i64 e)),(8,AV.row 46025 0),(11,AV.row 46075 0),(15,AV.int .i64 n8),(16,AV.int .i64 n11)],todo:=.code (ACode.gh [] ZxU)::ZCy,defs:=[],rnd:=none,ret:=false,res:=[ARes.tmp 6,ARes.tmp 7] }]
def ZfN(h:Int)(e l1:List Int)(n8:Int)(l9:List Nat)(l10:List (List Int))(n11:Int):Zaa:=[(46025,{ base:=0,blks:=[Blk.row 3 1 (.ints .i64 l1)] }),(46075,{ base:=0,blks:=[Blk.row 25 1 (Row.refs 1000046 l9)] }),(1000046,{ base:=0,blks:=[],sym:=Sym.ints 3 1 .i64 l10 })]
abbrev Zh7(h:Int)(e l1:List Int)(n8:Int)(l9:List Nat)(l10:List (List Int))(n11:Int):List AFrame×Zaa:=(ZgS h e l1 n8 l9 l10 n11,ZfN h e l1 n8 l9 l10 n11)
def ZeN(h:Int)(e:List Int)(l9:List Nat)(l10:List (List Int))(n12:Int)(l13:List Int):List AFrame:=[{ fn:=46,N:=204,env:=[(0,AV.int .i64 h),(2,AV.list (.ints .i64 e)),(8,AV.row 46025 0),(11,AV.row 46075 0),(22,AV.int .i64 n12)],todo:=.code (ACode.gh [] ZAx)::ZB8,defs:=[],rnd:=none,ret:=false,res:=[ARes.tmp 6,ARes.tmp 7] }]
def Zdr(h:Int)(e:List Int)(l9:List Nat)(l10:List (List Int))(n12:Int)(l13:List Int):Zaa:=[(46025,{ base:=0,blks:=[Blk.row 3 1 (.ints .i64 l13)] }),(46075,{ base:=0,blks:=[Blk.row 25 1 (Row.refs 1000046 l9)] }),(1000046,{ base:=0,blks:=[],sym:=Sym.ints 3 1 .i64 l10 })]
abbrev Zjl(h:Int)(e:List Int)(l9:List Nat)(l10:List (List Int))(n12:Int)(l13:List Int):List AFrame×Zaa:=(ZeN h e l9 l10 n12 l13,Zdr h e l9 l10 n12 l13)
def Zem(h:Int)(e l1:List Int)(n8 n14:Int)(l15:List Nat)(n16:Int)(l17:List (List Int)):List AFrame:=[{ fn:=46,N:=204,env:=[(0,AV.int .i64 h),(2,AV.list (.ints .i64 e)),(8,AV.row 46025 0),(11,AV.row 46075 0),(15,AV.int .i64 n8),(17,AV.int .i64 n14),(18,AV.int .i64 n16)],todo:=.code (ACode.gh [] Zx4)::ZDP,defs:=[],rnd:=none,ret:=false,res:=[ARes.tmp 6,ARes.tmp 7] }]
def Zdq(h:Int)(e l1:List Int)(n8 n14:Int)(l15:List Nat)(n16:Int)(l17:List (List Int)):Zaa:=[(46025,{ base:=0,blks:=[Blk.row 3 1 (.ints .i64 l1)] }),(46075,{ base:=0,blks:=[Blk.row 25 1 (Row.refs 1000046 l15)] }),(1000046,{ base:=0,blks:=[],sym:=Sym.ints 3 1 .i64 l17 })]
abbrev ZiN(h:Int)(e l1:List Int)(n8 n14:Int)(l15:List Nat)(n16:Int)(l17:List (List Int)):List AFrame×Zaa:=(Zem h e l1 n8 n14 l15 n16 l17,Zdq h e l1 n8 n14 l15 n16 l17)
def ZcV(h:Int)(e l1:List Int)(n8:Int)(l15:List Nat)(n18:Int)(l19:List (List Int)):List AFrame:=[{ fn:=46,N:=204,env:=[(0,AV.int .i64 h),(2,AV.list (.ints .i64 e)),(8,AV.row 46025 0),(11,AV.row 46075 0),(15,AV.int .i64 n8),(19,AV.int .i64 n18)],todo:=.code (ACode.gh [] ZBz)::ZCI,defs:=[],rnd:=none,ret:=false,res:=[ARes.tmp 6,ARes.tmp 7] }]
def Zcv(h:Int)(e l1:List Int)(n8:Int)(l15:List Nat)(n18:Int)(l19:List (List Int)):Zaa:=[(46025,{ base:=0,blks:=[Blk.row 3 1 (.ints .i64 l1)] }),(46075,{ base:=0,blks:=[Blk.row 25 1 (Row.refs 1000046 l15)] }),(1000046,{ base:=0,blks:=[],sym:=Sym.ints 3 1 .i64 l19 })]
abbrev Ze8(h:Int)(e l1:List Int)(n8:Int)(l15:List Nat)(n18:Int)(l19:List (List Int)):List AFrame×Zaa:=(ZcV h e l1 n8 l15 n18 l19,Zcv h e l1 n8 l15 n18 l19)
def ZhG(h:Int)(e l1:List Int)(n8:Int)(l15:List Nat)(n18 n20 n21:Int)(l22:List (List Int)):List AFrame:=[{ fn:=46,N:=204,env:=[(0,AV.int .i64 h),(2,AV.list (.ints .i64 e)),(8,AV.row 46025 0),(11,AV.row 46075 0),(15,AV.int .i64 n8),(19,AV.int .i64 n18),(20,AV.int .i64 n20),(21,AV.int .i64 n21)],todo:=.code (ACode.gh [] Zzu)::ZD0,defs:=[],rnd:=none,ret:=false,res:=[ARes.tmp 6,ARes.tmp 7] }]
def Zfn(h:Int)(e l1:List Int)(n8:Int)(l15:List Nat)(n18 n20 n21:Int)(l22:List (List Int)):Zaa:=[(46025,{ base:=0,blks:=[Blk.row 3 1 (.ints .i64 l1)] }),(46075,{ base:=0,blks:=[Blk.row 25 1 (Row.refs 1000046 l15)] }),(1000046,{ base:=0,blks:=[],sym:=Sym.ints 3 1 .i64 l22 })]
abbrev Zic(h:Int)(e l1:List Int)(n8:Int)(l15:List Nat)(n18 n20 n21:Int)(l22:List (List Int)):List AFrame×Zaa:=(ZhG h e l1 n8 l15 n18 n20 n21 l22,Zfn h e l1 n8 l15 n18 n20 n21 l22)
def ZAp(A:Ar)(K:KT)(F:FT)(h:Int)(w e:List Int):Prop:=rB [decide (List.length w≤1000000)] (K (Zju (h) (e) (0) (w)))
theorem ZCO{A:Ar}{K:KT}{F:FT}{M:MT}{h:Int}{w e:List Int} :Zam A tab Ke 46 K F M (.run 20 (.hd)) (ZGO h w e) []=ZAp A K F h w e:=by kernel_rfl
def Zfs(A:Ar)(K:KT)(F:FT)(h:Int)(e:List Int)(n0:Int)(l1:List Int):Prop:=bB (A.lt n0 (A.int (A.len e))) (rB [A.inR .i64 (A.add n0 1),Zae (Nat.blt (A.nat (A.nth e (A.nat n0))) (A.len l1)) true,Zae (A.le 0 (A.nth e (A.nat n0))) (Nat.blt (A.nat (A.nth e (A.nat n0))) (A.len l1)),Zae (Zae (A.le 0 n0) (Nat.blt (A.nat n0) (A.len e))) true] (K (Zju (h) (e) (A.add n0 1) (A.set l1 (A.nat (A.nth e (A.nat n0))) 0)))) (rB [decide (hfB h=true∧okw l1=true)] (K (ZiG (h) (e) (l1) (syL l1 (Nat.mul 2 (Int.toNat h))) (1) ([]) ([]))))
theorem Zjd{A:Ar}{K:KT}{F:FT}{M:MT}{h:Int}{e:List Int}{n0:Int}{l1:List Int} :Zam A tab Ke 46 K F M (.run 9 (.tf (.run 20 (.hd)) (.run 21 (.hd)))) (Zhi h e n0 l1) (ZfC h e n0 l1)=Zfs A K F h e n0 l1:=by kernel_rfl
def Zfz(A:Ar)(K:KT)(F:FT)(h:Int)(e l1 l2:List Int)(n3:Int)(l4:List Nat)(l5:List (List Int)):Prop:=rB [A.inR .i64 (A.mul 2 h)] (bB (A.le n3 (A.mul 2 h)) (K (Ziu (h) (e) (l1) (l2) (n3) (l4) (l5) (0) ([]))) (K (ZiU (h) (e) (l1) (0) (l4) (l5))))
theorem Zjv{A:Ar}{K:KT}{F:FT}{M:MT}{h:Int}{e l1 l2:List Int}{n3:Int}{l4:List Nat}{l5:List (List Int)} :Zam A tab Ke 46 K F M (.run 9 (.tf (.run 16 (.hd)) (.run 9 (.hd)))) (Zc5 h e l1 l2 n3 l4 l5) (Zcu h e l1 l2 n3 l4 l5)=Zfz A K F h e l1 l2 n3 l4 l5:=by kernel_rfl
def Zfq(A:Ar)(K:KT)(F:FT)(h:Int)(e l1 l2:List Int)(n3:Int)(l4:List Nat)(l5:List (List Int))(n6:Int)(l7:List Int):Prop:=bB (A.lt n6 (A.int (A.len e))) (rB [A.inR .i64 (A.add n6 1),Nat.ble (A.len l7+A.len [gP (A.rem (A.mul n3 (A.sub 14 (A.nth e (A.nat n6)))) 15)]) 4294967296,List.all [AV.int .i64 (gP (A.rem (A.mul n3 (A.sub 14 (A.nth e (A.nat n6)))) 15))] fun x=>AV.bx x&&Nat.beq (Zaf A x) 1,decide (0≤A.rem (A.mul n3 (A.sub 14 (A.nth e (A.nat n6)))) 15∧A.rem (A.mul n3 (A.sub 14 (A.nth e (A.nat n6)))) 15≤1000),A.not (A.eq 15 0),A.inR .i64 (A.mul n3 (A.sub 14 (A.nth e (A.nat n6)))),A.inR .i64 (A.sub 14 (A.nth e (A.nat n6))),Zae (Zae (A.le 0 n6) (Nat.blt (A.nat n6) (A.len e))) true] (K (Ziu (h) (e) (l1) (l2) (n3) (l4) (l5) (A.add n6 1) (A.app l7 [gP (A.rem (A.mul n3 (A.sub 14 (A.nth e (A.nat n6)))) 15)])))) (rB [A.inR .i64 (A.add n3 1),Nat.ble (A.lenF l4+A.lenF [0+List.length (List.map (fun l=>Blk.row 3 1 (.ints .i64 l)) l5)]) 4294967296,List.all [AV.row 1000046 (0+List.length (List.map (fun l=>Blk.row 3 1 (.ints .i64 l)) l5))] fun x=>AV.bx x&&Nat.beq (Zaf A x) 1,Nat.ble (A.len l7+A.len [A.nth l2 (A.nat (A.sub n3 1))]) 4294967296,List.all [AV.int .i64 (A.nth l2 (A.nat (A.sub n3 1)))] fun x=>AV.bx x&&Nat.beq (Zaf A x) 1,Zae (Nat.blt (A.nat (A.sub n3 1)) (A.len l2)) true,Zae (A.le 0 (A.sub n3 1)) (Nat.blt (A.nat (A.sub n3 1)) (A.len l2)),A.inR .i64 (A.sub n3 1)] (K (ZiG (h) (e) (l1) (l2) (A.add n3 1) (A.appF l4 [0+List.length (List.map (fun l=>Blk.row 3 1 (.ints .i64 l)) l5)]) (List.append l5 [A.app l7 [A.nth l2 (A.nat (A.sub n3 1))]]))))
theorem Zi7{A:Ar}{K:KT}{F:FT}{M:MT}{h:Int}{e l1 l2:List Int}{n3:Int}{l4:List Nat}{l5:List (List Int)}{n6:Int}{l7:List Int} :Zam A tab Ke 46 K F M (.run 9 (.tf (.run 26 (.hd)) (.run 23 (.hd)))) (Zg6 h e l1 l2 n3 l4 l5 n6 l7) (ZfT h e l1 l2 n3 l4 l5 n6 l7)=Zfq A K F h e l1 l2 n3 l4 l5 n6 l7:=by kernel_rfl
def Zfg(A:Ar)(K:KT)(F:FT)(h:Int)(e l1:List Int)(n8:Int)(l9:List Nat)(l10:List (List Int)):Prop:=bB (A.lt n8 (A.int (A.len e))) (K (Zh7 (h) (e) (l1) (n8) (l9) (l10) (n8))) (K (Zjl (h) (e) (l9) (l10) (0) (l1)))
theorem ZiS{A:Ar}{K:KT}{F:FT}{M:MT}{h:Int}{e l1:List Int}{n8:Int}{l9:List Nat}{l10:List (List Int)} :Zam A tab Ke 46 K F M (.run 9 (.tf (.run 12 (.hd)) (.run 9 (.hd)))) (Zdi h e l1 n8 l9 l10) (Zcj h e l1 n8 l9 l10)=Zfg A K F h e l1 n8 l9 l10:=by kernel_rfl
def Zfp(A:Ar)(K:KT)(F:FT)(h:Int)(e l1:List Int)(n8:Int)(l9:List Nat)(l10:List (List Int))(n11:Int):Prop:=rB [Zae (Nat.blt (A.nthF l9 (A.nat n11)) (List.length l10)) (Zae (Nat.blt (A.nat n8) (A.len (List.getD l10 (A.nthF l9 (A.nat n11)) []))) true),Zae (Nat.blt (A.nthF l9 (A.nat n11)) (List.length l10)) (Zae (A.le 0 n8) (Nat.blt (A.nat n8) (A.len (List.getD l10 (A.nthF l9 (A.nat n11)) [])))),Zae (Nat.blt (A.nat n11) (A.lenF l9)) true,Zae (A.le 0 n11) (Nat.blt (A.nat n11) (A.lenF l9))] (bB (A.eq (A.nth (List.getD l10 (A.nthF l9 (A.nat n11)) []) (A.nat n8)) 0) (rB [A.inR .i64 (A.add n11 1)] (K (Zh7 (h) (e) (l1) (n8) (l9) (l10) (A.add n11 1)))) (rB [decide (elB (A.nth (List.getD l10 (A.nthF (A.setF (A.setF l9 (A.nat n8) (A.nthF l9 (A.nat n11))) (A.nat n11) (A.nthF l9 (A.nat n8))) (A.nat n8)) []) (A.nat n8))=true),Zae (Nat.blt (A.nthF (A.setF (A.setF l9 (A.nat n8) (A.nthF l9 (A.nat n11))) (A.nat n11) (A.nthF l9 (A.nat n8))) (A.nat n8)) (List.length l10)) (Zae (Nat.blt (A.nat n8) (A.len (List.getD l10 (A.nthF (A.setF (A.setF l9 (A.nat n8) (A.nthF l9 (A.nat n11))) (A.nat n11) (A.nthF l9 (A.nat n8))) (A.nat n8)) []))) true),Zae (Nat.blt (A.nthF (A.setF (A.setF l9 (A.nat n8) (A.nthF l9 (A.nat n11))) (A.nat n11) (A.nthF l9 (A.nat n8))) (A.nat n8)) (List.length l10)) (Zae (A.le 0 n8) (Nat.blt (A.nat n8) (A.len (List.getD l10 (A.nthF (A.setF (A.setF l9 (A.nat n8) (A.nthF l9 (A.nat n11))) (A.nat n11) (A.nthF l9 (A.nat n8))) (A.nat n8)) [])))),Zae (Nat.blt (A.nat n8) (A.lenF (A.setF (A.setF l9 (A.nat n8) (A.nthF l9 (A.nat n11))) (A.nat n11) (A.nthF l9 (A.nat n8))))) true,Zae (A.le 0 n8) (Nat.blt (A.nat n8) (A.lenF (A.setF (A.setF l9 (A.nat n8) (A.nthF l9 (A.nat n11))) (A.nat n11) (A.nthF l9 (A.nat n8))))),Zae (Nat.blt (A.nat n11) (A.lenF (A.setF l9 (A.nat n8) (A.nthF l9 (A.nat n11))))) true,Zae (A.le 0 n11) (Nat.blt (A.nat n11) (A.lenF (A.setF l9 (A.nat n8) (A.nthF l9 (A.nat n11))))),Zae (Nat.blt (A.nat n8) (A.lenF l9)) true,Zae (A.le 0 n8) (Nat.blt (A.nat n8) (A.lenF l9)),Zae (Nat.blt (A.nat n8) (A.lenF l9)) true,Zae (A.le 0 n8) (Nat.blt (A.nat n8) (A.lenF l9)),Zae (Nat.blt (A.nat n11) (A.lenF l9)) true,Zae (A.le 0 n11) (Nat.blt (A.nat n11) (A.lenF l9))] (K (ZiN (h) (e) (l1) (n8) (gI (A.nth (List.getD l10 (A.nthF (A.setF (A.setF l9 (A.nat n8) (A.nthF l9 (A.nat n11))) (A.nat n11) (A.nthF l9 (A.nat n8))) (A.nat n8)) []) (A.nat n8))) (A.setF (A.setF l9 (A.nat n8) (A.nthF l9 (A.nat n11))) (A.nat n11) (A.nthF l9 (A.nat n8))) (0) (l10)))))
theorem Zn5{A:Ar}{K:KT}{F:FT}{M:MT}{h:Int}{e l1:List Int}{n8:Int}{l9:List Nat}{l10:List (List Int)}{n11:Int} :Zam A tab Ke 46 K F M (.run 14 (.tf (.run 10 (.hd)) (.run 25 (.hd)))) (ZgS h e l1 n8 l9 l10 n11) (ZfN h e l1 n8 l9 l10 n11)=Zfp A K F h e l1 n8 l9 l10 n11:=by kernel_rfl
def Ze6(A:Ar)(K:KT)(F:FT)(h:Int)(e:List Int)(l9:List Nat)(l10:List (List Int))(n12:Int)(l13:List Int):Prop:=bB (A.lt n12 (A.int (A.len e))) (rB [A.inR .i64 (A.add n12 1),Zae (Nat.blt (A.nat (A.nth e (A.nat n12))) (A.len l13)) true,Zae (A.le 0 (A.nth e (A.nat n12))) (Nat.blt (A.nat (A.nth e (A.nat n12))) (A.len l13)),Zae (Nat.blt (A.nthF l9 (A.nat n12)) (List.length l10)) (Zae (Nat.blt (A.nat (A.int (A.len e))) (A.len (List.getD l10 (A.nthF l9 (A.nat n12)) []))) true),Zae (Nat.blt (A.nthF l9 (A.nat n12)) (List.length l10)) (Zae (A.le 0 (A.int (A.len e))) (Nat.blt (A.nat (A.int (A.len e))) (A.len (List.getD l10 (A.nthF l9 (A.nat n12)) [])))),Zae (Nat.blt (A.nat n12) (A.lenF l9)) true,Zae (A.le 0 n12) (Nat.blt (A.nat n12) (A.lenF l9)),Zae (Zae (A.le 0 n12) (Nat.blt (A.nat n12) (A.len e))) true] (K (Zjl (h) (e) (l9) (l10) (A.add n12 1) (A.set l13 (A.nat (A.nth e (A.nat n12))) (A.nth (List.getD l10 (A.nthF l9 (A.nat n12)) []) (A.nat (A.int (A.len e)))))))) (rB [decide (hfB h=true∧okw l13=true)] (F (AV.tup [AV.row 0 0,AV.bool (isW h l13)]) (some { e:=3,sz:=1,r:=.ints .i64 l13 })))
theorem ZiJ{A:Ar}{K:KT}{F:FT}{M:MT}{h:Int}{e:List Int}{l9:List Nat}{l10:List (List Int)}{n12:Int}{l13:List Int} :Zam A tab Ke 46 K F M (.run 9 (.tf (.run 12 (.hd)) (.run 11 (.fn)))) (ZeN h e l9 l10 n12 l13) (Zdr h e l9 l10 n12 l13)=Ze6 A K F h e l9 l10 n12 l13:=by kernel_rfl
def ZfS(A:Ar)(K:KT)(F:FT)(h:Int)(e l1:List Int)(n8 n14:Int)(l15:List Nat)(n16:Int)(l17:List (List Int)):Prop:=bB (A.le n16 (A.int (A.len e))) (rB [A.inR .i64 (A.add n16 1),Zae (Nat.blt (A.nthF l15 (A.nat n8)) (List.length l17)) (Nat.blt (A.nat n16) (A.len (List.getD l17 (A.nthF l15 (A.nat n8)) []))),Zae (Nat.blt (A.nthF l15 (A.nat n8)) (List.length l17)) (Zae (A.le 0 n16) (Nat.blt (A.nat n16) (A.len (List.getD l17 (A.nthF l15 (A.nat n8)) [])))),decide (elB (A.nth (List.getD l17 (A.nthF l15 (A.nat n8)) []) (A.nat n16))=true∧elB n14=true),Zae (Nat.blt (A.nthF l15 (A.nat n8)) (List.length l17)) (Zae (Nat.blt (A.nat n16) (A.len (List.getD l17 (A.nthF l15 (A.nat n8)) []))) true),Zae (Nat.blt (A.nthF l15 (A.nat n8)) (List.length l17)) (Zae (A.le 0 n16) (Nat.blt (A.nat n16) (A.len (List.getD l17 (A.nthF l15 (A.nat n8)) [])))),Zae (Nat.blt (A.nat n8) (A.lenF l15)) true,Zae (A.le 0 n8) (Nat.blt (A.nat n8) (A.lenF l15)),Zae (Nat.blt (A.nat n8) (A.lenF l15)) true,Zae (A.le 0 n8) (Nat.blt (A.nat n8) (A.lenF l15))] (K (ZiN (h) (e) (l1) (n8) (n14) (l15) (A.add n16 1) (List.set l17 (A.nthF l15 (A.nat n8)-0) (A.set (List.getD l17 (A.nthF l15 (A.nat n8)) []) (A.nat n16) (gM (A.nth (List.getD l17 (A.nthF l15 (A.nat n8)) []) (A.nat n16)) n14)))))) (K (Ze8 (h) (e) (l1) (n8) (l15) (0) (l17)))
theorem Zjq{A:Ar}{K:KT}{F:FT}{M:MT}{h:Int}{e l1:List Int}{n8 n14:Int}{l15:List Nat}{n16:Int}{l17:List (List Int)} :Zam A tab Ke 46 K F M (.run 9 (.tf (.run 12 (.hd)) (.run 8 (.hd)))) (Zem h e l1 n8 n14 l15 n16 l17) (Zdq h e l1 n8 n14 l15 n16 l17)=ZfS A K F h e l1 n8 n14 l15 n16 l17:=by kernel_rfl
def ZdL(A:Ar)(K:KT)(F:FT)(h:Int)(e l1:List Int)(n8:Int)(l15:List Nat)(n18:Int)(l19:List (List Int)):Prop:=bB (A.lt n18 (A.int (A.lenF l15))) (rB [Zae (Nat.blt (A.nthF l15 (A.nat n18)) (List.length l19)) (Zae (Nat.blt (A.nat n8) (A.len (List.getD l19 (A.nthF l15 (A.nat n18)) []))) true),Zae (Nat.blt (A.nthF l15 (A.nat n18)) (List.length l19)) (Zae (A.le 0 n8) (Nat.blt (A.nat n8) (A.len (List.getD l19 (A.nthF l15 (A.nat n18)) [])))),Zae (Nat.blt (A.nat n18) (A.lenF l15)) true,Zae (A.le 0 n18) (Nat.blt (A.nat n18) (A.lenF l15))] (bB (A.eq n18 n8) (rB [A.inR .i64 (A.add n18 1)] (K (Ze8 (h) (e) (l1) (n8) (l15) (A.add n18 1) (l19)))) (K (Zic (h) (e) (l1) (n8) (l15) (n18) (A.nth (List.getD l19 (A.nthF l15 (A.nat n18)) []) (A.nat n8)) (0) (l19))))) (rB [A.inR .i64 (A.add n8 1)] (K (ZiU (h) (e) (l1) (A.add n8 1) (l15) (l19))))
theorem Zji{A:Ar}{K:KT}{F:FT}{M:MT}{h:Int}{e l1:List Int}{n8:Int}{l15:List Nat}{n18:Int}{l19:List (List Int)} :Zam A tab Ke 46 K F M (.run 9 (.tf (.run 22 (.tf (.run 8 (.hd)) (.run 8 (.hd)))) (.run 9 (.hd)))) (ZcV h e l1 n8 l15 n18 l19) (Zcv h e l1 n8 l15 n18 l19)=ZdL A K F h e l1 n8 l15 n18 l19:=by kernel_rfl
def ZfO(A:Ar)(K:KT)(F:FT)(h:Int)(e l1:List Int)(n8:Int)(l15:List Nat)(n18 n20 n21:Int)(l22:List (List Int)):Prop:=bB (A.le n21 (A.int (A.len e))) (rB [A.inR .i64 (A.add n21 1),Zae (Nat.blt (A.nthF l15 (A.nat n18)) (List.length l22)) (Nat.blt (A.nat n21) (A.len (List.getD l22 (A.nthF l15 (A.nat n18)) []))),Zae (Nat.blt (A.nthF l15 (A.nat n18)) (List.length l22)) (Zae (A.le 0 n21) (Nat.blt (A.nat n21) (A.len (List.getD l22 (A.nthF l15 (A.nat n18)) [])))),decide (elB n20=true∧elB (A.nth (List.getD l22 (A.nthF l15 (A.nat n8)) []) (A.nat n21))=true),Zae (Nat.blt (A.nthF l15 (A.nat n8)) (List.length l22)) (Zae (Nat.blt (A.nat n21) (A.len (List.getD l22 (A.nthF l15 (A.nat n8)) []))) true),Zae (Nat.blt (A.nthF l15 (A.nat n8)) (List.length l22)) (Zae (A.le 0 n21) (Nat.blt (A.nat n21) (A.len (List.getD l22 (A.nthF l15 (A.nat n8)) [])))),Zae (Nat.blt (A.nat n8) (A.lenF l15)) true,Zae (A.le 0 n8) (Nat.blt (A.nat n8) (A.lenF l15)),Zae (Nat.blt (A.nthF l15 (A.nat n18)) (List.length l22)) (Zae (Nat.blt (A.nat n21) (A.len (List.getD l22 (A.nthF l15 (A.nat n18)) []))) true),Zae (Nat.blt (A.nthF l15 (A.nat n18)) (List.length l22)) (Zae (A.le 0 n21) (Nat.blt (A.nat n21) (A.len (List.getD l22 (A.nthF l15 (A.nat n18)) [])))),Zae (Nat.blt (A.nat n18) (A.lenF l15)) true,Zae (A.le 0 n18) (Nat.blt (A.nat n18) (A.lenF l15)),Zae (Nat.blt (A.nat n18) (A.lenF l15)) true,Zae (A.le 0 n18) (Nat.blt (A.nat n18) (A.lenF l15))] (K (Zic (h) (e) (l1) (n8) (l15) (n18) (n20) (A.add n21 1) (List.set l22 (A.nthF l15 (A.nat n18)-0) (A.set (List.getD l22 (A.nthF l15 (A.nat n18)) []) (A.nat n21) (A.bits Go.BinOp.xor .i64 (A.nth (List.getD l22 (A.nthF l15 (A.nat n18)) []) (A.nat n21)) (gM n20 (A.nth (List.getD l22 (A.nthF l15 (A.nat n8)) []) (A.nat n21))))))))) (rB [A.inR .i64 (A.add n18 1)] (K (Ze8 (h) (e) (l1) (n8) (l15) (A.add n18 1) (l22))))
theorem Zh9{A:Ar}{K:KT}{F:FT}{M:MT}{h:Int}{e l1:List Int}{n8:Int}{l15:List Nat}{n18 n20 n21:Int}{l22:List (List Int)} :Zam A tab Ke 46 K F M (.run 9 (.tf (.run 12 (.hd)) (.run 9 (.hd)))) (ZhG h e l1 n8 l15 n18 n20 n21 l22) (Zfn h e l1 n8 l15 n18 n20 n21 l22)=ZfO A K F h e l1 n8 l15 n18 n20 n21 l22:=by kernel_rfl
end Go.Proofs.Ytklbmkllepkjcaa
/- Linear equations over the field of 16 elements: elimination. No condition. -/
namespace Go.Proofs.Ytklbmkllepkjcaa
theorem Zgt{a:Nat}(ha:a<16):ZaB 0 a=0:=by rw[ZbX (by decide) ha,ZcY ha]
theorem Zz8{a:Nat}(ha:a<16):ZaB 1 a=a:=by rw[ZbX (by decide) ha,Znx ha]
theorem ZCz{a b c:Nat}(ha:a<16)(hb:b<16)(hc:c<16):ZaB c (a ^^^ b)=ZaB c a ^^^ ZaB c b:=by
 rw[ZbX hc (Zgx ha hb),Zhq ha hb hc,ZbX ha hc,ZbX hb hc]
theorem Zpa(a b c d:Nat):(a ^^^ b) ^^^ (c ^^^ d)=(a ^^^ c) ^^^ (b ^^^ d):=by
 rw[Nat.xor_assoc,Nat.xor_assoc,←Nat.xor_assoc b c d,Nat.xor_comm b c,Nat.xor_assoc c b d]
abbrev Mat:=Nat→Nat→Nat
def El(r:Nat→Nat):Prop:=∀j,r j<16
def ElM(A:Mat):Prop:=∀i,El (A i)
def dt(r y:Nat→Nat):Nat→Nat
 |0=>0
 |n+1=>dt r y n ^^^ ZaB (r n) (y n)
theorem ZqA{r y:Nat→Nat}(hr:El r)(hy:El y):∀n,dt r y n<16
 |0=>by simp[dt]
 |n+1=>Zgx (ZqA hr hy n) (ZdO (hr n) (hy n))
theorem ZmX{r y:Nat→Nat}(hr:El r)(hy:El y){c:Nat}(hc:c<16):∀n,dt (fun j=>ZaB (r j) c) y n=ZaB (dt r y n) c
 |0=>by rw[dt,dt,Zgt hc]
 |n+1=>by
  rw[dt,dt,ZmX hr hy hc n,Zhq (ZqA hr hy n) (ZdO (hr n) (hy n)) hc,Zb9 (hr n) hc (hy n),Zb9 (hr n) (hy n) hc,ZbX hc (hy n)]
theorem ZtH{r p y:Nat→Nat}(hr:El r)(hp:El p)(hy:El y){c:Nat}(hc:c<16):∀n,dt (fun j=>r j ^^^ ZaB (p j) c) y n=dt r y n ^^^ ZaB (dt p y n) c
 |0=>by rw[dt,dt,dt,Zgt hc,Nat.xor_zero]
 |n+1=>by
  rw[dt,dt,dt,ZtH hr hp hy hc n,Zhq (hr n) (ZdO (hp n) hc) (hy n),Zhq (ZqA hp hy n) (ZdO (hp n) (hy n)) hc,Zb9 (hp n) hc (hy n),Zb9 (hp n) (hy n) hc,ZbX hc (hy n),Zpa]
theorem ZdB{r s y z:Nat→Nat} :∀n,(∀j,j<n→r j=s j)→(∀j,j<n→y j=z j)→dt r y n=dt s z n
 |0,_,_=>rfl
 |n+1,h1,h2=>by rw[dt,dt,ZdB n (fun j hj=>h1 j (by omega)) (fun j hj=>h2 j (by omega)),h1 n (by omega),h2 n (by omega)]
theorem ZpG{r y:Nat→Nat}(hy:El y):∀n,(∀j,j<n→r j=0)→dt r y n=0
 |0,_=>rfl
 |n+1,h=>by rw[dt,ZpG hy n (fun j hj=>h j (by omega)),h n (by omega),Zgt (hy n)];rfl
theorem Zo8{r y:Nat→Nat}(hy:El y){i:Nat} :∀n,(∀j,j<n→r j=if i=j then 1 else 0)→dt r y n=if i<n then y i else 0
 |0,_=>rfl
 |n+1,h=>by
  rw[dt,Zo8 hy n (fun j hj=>h j (by omega)),h n (by omega)]
  by_cases h1:i=n
  ·subst h1;rw[if_neg (Nat.lt_irrefl _),if_pos rfl,if_pos (by omega),Zz8 (hy i),Nat.zero_xor]
  ·rw[if_neg h1,Zgt (hy n),Nat.xor_zero]
   by_cases h2:i<n
   ·rw[if_pos h2,if_pos (by omega)]
   ·rw[if_neg h2,if_neg (by omega)]
def ZA(A:Mat)(R u:Nat)(y:Nat→Nat):Prop:=∀i,i<R→dt (A i) y (u+1)=0
def ZaP(A:Mat)(k p:Nat):Mat:=fun i=>if i=k then A p else if i=p then A k else A i
def Zbo(A:Mat)(k c:Nat):Mat:=fun i j=>if i=k then ZaB (A k j) c else A i j
def ZhJ(A:Mat)(k:Nat):Mat:=fun i j=>if i=k then A k j else A i j ^^^ ZaB (A k j) (A i k)
theorem Zdk{A:Mat}(h:ElM A)(k p:Nat):ElM (ZaP A k p):=fun i=>by
 unfold ZaP;split
 ·exact h p
 ·split
  ·exact h k
  ·exact h i
theorem ZeB{A:Mat}(h:ElM A)(k:Nat){c:Nat}(hc:c<16):ElM (Zbo A k c):=fun i j=>by
 unfold Zbo;split
 ·exact ZdO (h k j) hc
 ·exact h i j
theorem Zp7{A:Mat}(h:ElM A)(k:Nat):ElM (ZhJ A k):=fun i j=>by
 unfold ZhJ;split
 ·exact h k j
 ·exact Zgx (h i j) (ZdO (h k j) (h i k))
theorem Zza{A:Mat}{R u k p:Nat}{y:Nat→Nat}(hk:k<R)(hp:p<R):ZA (ZaP A k p) R u y↔ZA A R u y:=by
 constructor
 ·intro h i hi
  by_cases h1:i=k
  ·subst h1
   have:=h p hp
   unfold ZaP at this
   by_cases h2:p=i
   ·subst h2;simpa using this
   ·simpa[h2]using this
  ·by_cases h2:i=p
   ·subst h2
    have:=h k hk
    unfold ZaP at this
    simpa using this
   ·have:=h i hi
    unfold ZaP at this
    simpa[h1,h2]using this
 ·intro h i hi
  unfold ZaP
  split
  ·exact h p hp
  ·split
   ·exact h k hk
   ·exact h i hi
theorem Zwp{A:Mat}(hA:ElM A){R u k c:Nat}(hc:c<16)(h0:c≠0){y:Nat→Nat}(hy:El y)(hk:k<R):ZA (Zbo A k c) R u y↔ZA A R u y:=by
 have e:dt (Zbo A k c k) y (u+1)=ZaB (dt (A k) y (u+1)) c:=by
  rw[←ZmX (hA k) hy hc]
  exact ZdB _ (fun j _=>by simp[Zbo]) (fun _ _=>rfl)
 have e2:∀i,i≠k→dt (Zbo A k c i) y (u+1)=dt (A i) y (u+1):=fun i hi=>ZdB _ (fun j _=>by simp[Zbo,hi]) (fun _ _=>rfl)
 constructor
 ·intro h i hi
  by_cases h1:i=k
  ·subst h1
   have:=h i hi
   rw[e]at this
   exact(Zdu (ZqA (hA i) hy _) hc this).resolve_right h0
  ·rw[←e2 i h1];exact h i hi
 ·intro h i hi
  by_cases h1:i=k
  ·subst h1;rw[e,h i hi,Zgt hc]
  ·rw[e2 i h1];exact h i hi
theorem ZEd{A:Mat}(hA:ElM A){R u k:Nat}{y:Nat→Nat}(hy:El y)(hk:k<R):ZA (ZhJ A k) R u y↔ZA A R u y:=by
 have e:dt (ZhJ A k k) y (u+1)=dt (A k) y (u+1):=ZdB _ (fun j _=>by simp[ZhJ]) (fun _ _=>rfl)
 have e2:∀i,i≠k→dt (ZhJ A k i) y (u+1)=dt (A i) y (u+1) ^^^ ZaB (dt (A k) y (u+1)) (A i k):=fun i hi=>by
  rw[←ZtH (hA i) (hA k) hy (hA i k)]
  exact ZdB _ (fun j _=>by simp[ZhJ,hi]) (fun _ _=>rfl)
 constructor
 ·intro h
  have hk0:=h k hk
  rw[e]at hk0
  intro i hi
  by_cases h1:i=k
  ·subst h1;exact hk0
  ·have:=h i hi
   rw[e2 i h1,hk0,Zgt (hA i k),Nat.xor_zero]at this
   exact this
 ·intro h i hi
  by_cases h1:i=k
  ·subst h1;rw[e];exact h i hi
  ·rw[e2 i h1,h i hi,h k hk,Zgt (hA i k)];rfl
def piv(A:Mat)(k:Nat):Nat→Nat→Option Nat
 |0,_=>none
 |c+1,i=>if A i k=0 then piv A k c (i+1)else some i
theorem Znn{A:Mat}{k:Nat} :∀ {c i p:Nat},piv A k c i=some p→i≤p∧p<i+c∧A p k≠0
 |0,_,_,h=>by cases h
 |c+1,i,p,h=>by
  rw[piv]at h
  split at h
  ·have:=Znn h;omega
  ·rename_i h0
   cases h;exact⟨Nat.le_refl _,by omega,h0⟩
theorem Znb{A:Mat}{k:Nat} :∀ {c i:Nat},piv A k c i=none→∀j,i≤j→j<i+c→A j k=0
 |0,i,_,j,h1,h2=>by omega
 |c+1,i,h,j,h1,h2=>by
  rw[piv]at h
  split at h
  ·rename_i h0
   by_cases hj:j=i
   ·subst hj;exact h0
   ·exact Znb h j (by omega) (by omega)
  ·cases h
def Zh3(A:Mat)(k p:Nat):Mat:=ZhJ (Zbo (ZaP A k p) k (Zgs (ZaP A k p k k))) k
def elA(R:Nat):Nat→Nat→Mat→Option Mat
 |0,_,A=>some A
 |c+1,k,A=>match piv A k (R-k) k with
  |none=>none
  |some p=>elA R c (k+1) (Zh3 A k p)
def Red(A:Mat)(R k:Nat):Prop:=∀i j,i<R→j<k→A i j=if i=j then 1 else 0
theorem ZcD{A:Mat}(hA:ElM A){R k p:Nat}(hp:piv A k (R-k) k=some p):ElM (Zh3 A k p)∧k<R∧p<R∧k≤p∧Zgs (ZaP A k p k k)<16∧Zgs (ZaP A k p k k)≠0∧ZaB (ZaP A k p k k) (Zgs (ZaP A k p k k))=1:=by
 obtain⟨h1,h2,h3⟩:=Znn hp
 have e:ZaP A k p k k=A p k:=by simp[ZaP]
 obtain⟨g1,g2⟩:=ZzH (hA p k) h3
 rw[e]
 have g3:Zgs (A p k)≠0:=fun h0=>by rw[h0,ZcY (hA p k)]at g2;cases g2
 refine⟨?_,by omega,by omega,h1,g1,g3,g2⟩
 unfold Zh3
 rw[e]
 exact Zp7 (ZeB (Zdk hA k p) k g1) k
theorem Zux{A:Mat}(hA:ElM A){R u k p:Nat}(hp:piv A k (R-k) k=some p){y:Nat→Nat}(hy:El y):ZA (Zh3 A k p) R u y↔ZA A R u y:=by
 obtain⟨_,h1,h2,_,h3,h4,_⟩:=ZcD hA hp
 unfold Zh3
 rw[ZEd (ZeB (Zdk hA k p) k h3) hy h1,Zwp (Zdk hA k p) h3 h4 hy h1,Zza h1 h2]
theorem ZmU{A:Mat}(hA:ElM A){R k p:Nat}(hp:piv A k (R-k) k=some p)(hr:Red A R k):Red (Zh3 A k p) R (k+1):=by
 obtain⟨_,h1,h2,h3,h4,h5,h6⟩:=ZcD hA hp
 have hs:∀i j,i<R→j<k→ZaP A k p i j=if i=j then 1 else 0:=fun i j hi hj=>by
  unfold ZaP
  split
  ·rename_i h;subst h;rw[hr p j h2 hj,if_neg (by omega),if_neg (by omega)]
  ·split
   ·rename_i h;subst h;rw[hr k j h1 hj,if_neg (by omega),if_neg (by omega)]
   ·exact hr i j hi hj
 have hB:∀i j,i<R→j<k→Zbo (ZaP A k p) k (Zgs (ZaP A k p k k)) i j=if i=j then 1 else 0:=fun i j hi hj=>by
  unfold Zbo
  split
  ·rename_i h;subst h;rw[hs i j hi hj,if_neg (by omega),Zgt h4]
  ·exact hs i j hi hj
 have hk:Zbo (ZaP A k p) k (Zgs (ZaP A k p k k)) k k=1:=by unfold Zbo;rw[if_pos rfl,h6]
 have hel:=ZeB (Zdk hA k p) k h4
 intro i j hi hj
 show ZhJ (Zbo (ZaP A k p) k (Zgs (ZaP A k p k k))) k i j=_
 generalize Zbo (ZaP A k p) k (Zgs (ZaP A k p k k))=B at*
 unfold ZhJ
 by_cases hjk:j=k
 ·subst hjk
  by_cases hik:i=j
  ·subst hik;rw[if_pos rfl,if_pos rfl,hk]
  ·rw[if_neg hik,if_neg hik,hk,Zz8 (hel i j),Nat.xor_self]
 ·have hj':j<k:=by omega
  by_cases hik:i=k
  ·subst hik;rw[if_pos rfl];exact hB i j hi hj'
  ·rw[if_neg hik,hB k j h1 hj',if_neg (by omega),Zgt (hel i k),Nat.xor_zero];exact hB i j hi hj'
theorem Zl2{R u:Nat} :∀(c k:Nat) (A B:Mat),ElM A→Red A R k→k+c=u→(c=0→k≤R)→elA R c k A=some B→ElM B∧Red B R u∧u≤R∧∀y,El y→(ZA B R u y↔ZA A R u y)
 |0,k,A,B,hA,hr,hc,hk,h=>by
  cases h
  have:k=u:=by omega
  subst this
  exact⟨hA,hr,hk rfl,fun _ _=>Iff.rfl⟩
 |c+1,k,A,B,hA,hr,hc,_,h=>by
  rw[elA]at h
  split at h
  ·cases h
  ·rename_i p hp
   have h1:=(ZcD hA hp).1
   have h2:=(ZcD hA hp).2.1
   obtain⟨a,b,c',d⟩:=Zl2 (u:=u) c (k+1) (Zh3 A k p) B h1 (ZmU hA hp hr) (by omega) (fun _=>by omega) h
   exact⟨a,b,c',fun y hy=>(d y hy).trans (Zux hA hp hy)⟩
theorem Zp2{R u:Nat} :∀(c k:Nat) (A:Mat),ElM A→Red A R k→k+c=u→elA R c k A=none→∃y,El y∧ZA A R u y∧y u=0∧∃j,j<u∧y j≠0
 |0,k,A,_,_,_,h=>by cases h
 |c+1,k,A,hA,hr,hc,h=>by
  rw[elA]at h
  split at h
  ·rename_i hp
   have h0:=Znb hp
   refine⟨fun j=>if j<k then A j k else if j=k then 1 else 0,fun j=>?_,fun i hi=>?_,?_,k,by omega,by simp⟩
   ·show(if j<k then A j k else if j=k then 1 else 0)<16
    split
    ·exact hA j k
    ·split<;>decide
   ·have hy:El (fun j=>if j<k then A j k else if j=k then 1 else 0):=fun j=>by
     show(if j<k then A j k else if j=k then 1 else 0)<16
     split
     ·exact hA j k
     ·split<;>decide
    have key:∀n,dt (A i) (fun j=>if j<k then A j k else if j=k then 1 else 0) (k+1+n)=0:=by
     intro n
     induction n with
     |zero=>
      rw[Nat.add_zero,dt,Zo8 hy k (fun j hj=>hr i j hi hj)]
      have e:(if k<k then A k k else if k=k then 1 else 0)=1:=by simp
      rw[e,Znx (hA i k)]
      by_cases hik:i<k
      ·rw[if_pos hik]
       show(if i<k then A i k else if i=k then 1 else 0) ^^^ A i k=0
       rw[if_pos hik,Nat.xor_self]
      ·rw[if_neg hik,Nat.zero_xor]
       exact h0 i (by omega) (by omega)
     |succ n ih=>
      rw[show k+1+(n+1)=(k+1+n)+1 by omega,dt,ih]
      show 0 ^^^ ZaB (A i (k+1+n)) (if k+1+n<k then A (k+1+n) k else if k+1+n=k then 1 else 0)=0
      rw[if_neg (by omega),if_neg (by omega),ZcY (hA i _)];rfl
    have:=key (u-k)
    rwa[show k+1+(u-k)=u+1 by omega]at this
   ·show(if u<k then A u k else if u=k then 1 else 0)=0
    rw[if_neg (by omega),if_neg (by omega)]
  ·rename_i p hp
   obtain⟨y,h1,h2,h3,h4⟩:=Zp2 (u:=u) c (k+1) (Zh3 A k p) (ZcD hA hp).1 (ZmU hA hp hr) (by omega) h
   exact⟨y,h1,(Zux hA hp h1).1 h2,h3,h4⟩
theorem ZjJ(A:Mat)(R:Nat):Red A R 0:=fun i j _ hj=>by omega
end Go.Proofs.Ytklbmkllepkjcaa
/- Rows in memory, as a matrix. No condition. -/
namespace Go.Proofs.Ytklbmkllepkjcaa
def Zcb(u:Nat)(r:Nat→Nat):List Int:=(List.range (u+1)).map fun j=>((r j:Nat):Int)
theorem Za2(u:Nat)(r:Nat→Nat):(Zcb u r).length=u+1:=by simp[Zcb]
theorem Za0{u j:Nat}(r:Nat→Nat)(h:j<u+1):(Zcb u r).getD j 0=((r j:Nat):Int):=by
 unfold Zcb
 rw[List.getD_eq_getElem?_getD,List.getElem?_map,List.getElem?_range h];rfl
theorem ZaV{u:Nat}{r s:Nat→Nat}(h:∀j,j<u+1→r j=s j):Zcb u r=Zcb u s:=by
 unfold Zcb
 refine List.map_congr_left fun j hj=>?_
 rw[h j (List.mem_range.1 hj)]
theorem ZrC{u j:Nat}(r:Nat→Nat)(x:Nat):(Zcb u r).set j ((x:Nat):Int)=Zcb u (fun i=>if i=j then x else r i):=by
 apply List.ext_getElem?
 intro i
 unfold Zcb
 rw[List.getElem?_set,List.getElem?_map,List.getElem?_map,List.length_map,List.length_range]
 by_cases hi:i<u+1
 ·rw[List.getElem?_range hi]
  by_cases hj:j=i
  ·subst hj;simp[hi]
  ·simp[hj,show ¬i=j from fun e=>hj e.symm]
 ·rw[List.getElem?_eq_none (by simp;omega)]
  simp;omega
structure St (R u:Nat) (refs:List Nat) (rows:List (List Int)) (A:Mat):Prop where
 n:refs.length=R
 d:∀i j,i<R→j<R→refs.getD i 0=refs.getD j 0→i=j
 l:∀i,i<R→refs.getD i 0<rows.length
 v:∀i,i<R→rows.getD (refs.getD i 0) []=Zcb u (A i)
theorem ZeP{α:Type}(l:List α)(i j:Nat)(x d:α):(l.set i x).getD j d=if i=j∧j<l.length then x else l.getD j d:=by
 rw[List.getD_eq_getElem?_getD,List.getElem?_set,List.getD_eq_getElem?_getD]
 by_cases h:i=j
 ·subst h
  by_cases h2:i<l.length
  ·simp[h2]
  ·simp[h2]
 ·simp[h]
theorem St.congr{R u:Nat}{refs:List Nat}{rows:List (List Int)}{A B:Mat}(h:St R u refs rows A)(he:∀i j,i<R→j<u+1→A i j=B i j):St R u refs rows B:=
 ⟨h.n,h.d,h.l,fun i hi=>by rw[h.v i hi];exact ZaV fun j hj=>he i j hi hj⟩
theorem St.setrow{R u:Nat}{refs:List Nat}{rows:List (List Int)}{A:Mat}(h:St R u refs rows A){i:Nat}(hi:i<R)(r:Nat→Nat):St R u refs (rows.set (refs.getD i 0) (Zcb u r)) (fun i'=>if i'=i then r else A i'):=by
 refine⟨h.n,h.d,fun j hj=>by rw[List.length_set];exact h.l j hj,fun j hj=>?_⟩
 rw[ZeP]
 by_cases hij:j=i
 ·subst hij;rw[if_pos ⟨rfl,h.l j hj⟩,if_pos rfl]
 ·rw[if_neg (fun e=>hij (h.d i j hi hj e.1).symm),if_neg hij];exact h.v j hj
theorem St.setcell{R u:Nat}{refs:List Nat}{rows:List (List Int)}{A:Mat}(h:St R u refs rows A){i:Nat}(hi:i<R)(n x:Nat):St R u refs (rows.set (refs.getD i 0) ((Zcb u (A i)).set n ((x:Nat):Int))) (fun i' j=>if i'=i∧j=n then x else A i' j):=by
 rw[ZrC]
 refine(h.setrow hi _).congr fun a b _ _=>?_
 by_cases ha:a=i
 ·subst ha;by_cases hb:b=n<;>simp[hb]
 ·simp[ha]
theorem St.swap{R u:Nat}{refs:List Nat}{rows:List (List Int)}{A:Mat}(h:St R u refs rows A){k p:Nat}(hk:k<R)(hp:p<R):St R u ((refs.set k (refs.getD p 0)).set p (refs.getD k 0)) rows (ZaP A k p):=by
 have g:∀i,i<R→((refs.set k (refs.getD p 0)).set p (refs.getD k 0)).getD i 0=refs.getD (if i=p then k else if i=k then p else i) 0:=fun i hi=>by
  have hn:=h.n
  rw[ZeP,ZeP,List.length_set]
  by_cases h1:p=i
  ·subst h1;simp[hn,hp]
  ·have h1':¬i=p:=fun e=>h1 e.symm
   by_cases h2:k=i
   ·subst h2;simp[h1,h1',hn,hk]
   ·have h2':¬i=k:=fun e=>h2 e.symm
    simp[h1,h1',h2,h2']
 have gl:∀i,i<R→(if i=p then k else if i=k then p else i)<R:=fun i hi=>by split;exact hk;split;exact hp;exact hi
 refine⟨by simp[h.n],fun i j hi hj e=>?_,fun i hi=>?_,fun i hi=>?_⟩
 ·rw[g i hi,g j hj]at e
  have:=h.d _ _ (gl i hi) (gl j hj) e
  split at this<;>split at this<;>(try split at this)<;>(try split at this)<;>omega
 ·rw[g i hi];exact h.l _ (gl i hi)
 ·rw[g i hi,h.v _ (gl i hi)]
  apply ZaV
  intro j _
  unfold ZaP
  by_cases h1:i=p
  ·subst h1
   by_cases h2:i=k
   ·subst h2;simp
   ·simp[h2]
  ·by_cases h2:i=k
   ·subst h2;simp[h1]
   ·simp[h1,h2]
end Go.Proofs.Ytklbmkllepkjcaa
