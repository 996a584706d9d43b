/- Paths of functions, printed by the explorer (Gx). No condition. -/
import Derived.Test.YtklbmkllepkjcaaSe
import Derived.KernelRfl
namespace Go.Proofs.Ytklbmkllepkjcaa
set_option maxRecDepth 100000
set_option linter.unusedVariables false
def ZGr(m g0 g1:Int)(xs:List Int):AFrame:={ fn:=65,N:=61,env:=[(0,AV.agg (Row.gen [.int .i64 m, .int .i64 g0, .int .i64 g1, .list (.ints .i64 xs)]))],todo:=[.code a65.code],defs:=[],rnd:=none,ret:=false,res:=[ARes.tmp 2,ARes.tmp 3] }
def ZPk(m g0 g1:Int)(xs:List Int):List AFrame:=[(ZGr m g0 g1 xs)]
theorem ZEG(m g0 g1:Int)(xs:List Int):Zaq tab 65 [AV.agg (Row.gen [.int .i64 m, .int .i64 g0, .int .i64 g1, .list (.ints .i64 xs)])]=some (ZGr m g0 g1 xs):=rfl
def ZhJ(m g0 g1:Int)(xs:List Int)(n0:Int)(l1:List Nat)(n2:Int)(l3:List (List Nat)):List AFrame:=[{ fn:=107,N:=71,env:=[(1,AV.ptr 107002 0 0 0),(2,AV.nils),(3,AV.ptr 107004 0 0 0),(12,AV.int .i64 n0),(13,AV.int .i64 n2)],todo:=.code (ACode.gh [] ZAv)::ZGt,defs:=[(2000107,0)],rnd:=none,ret:=false,res:=[ARes.tmp 2] },{ fn:=65,N:=61,env:=[(0,AV.agg (Row.gen [.int .i64 m, .int .i64 g0, .int .i64 g1, .list (.ints .i64 xs)])),(1,AV.ptr 65002 0 0 0),(2,AV.nils),(3,AV.int .i64 0),(9,AV.agg (Row.gen [.int .i64 m, .int .i64 g0, .int .i64 g1, .list (.ints .i64 xs)]))],todo:=[AItem.inReg [oN 10 (OpK.icall 107 [Opd.t 9]),oN 4 (OpK.alloc 65005 135 AV.nils),{ d:=none,g:=none,k:=OpK.store 1 (Opd.t 4) (Opd.t 10) }], .code (ACode.seq (ACode.reg none [oN 5 (OpK.alloc 65006 25 AV.nils)]) (ACode.gh [Ghost.ownc 5 65051 3 1 (.ints .i64 [])] (ACode.seq (ACode.reg none [oN 6 (OpK.alloc 65007 3 (AV.int .i64 0)),{ d:=none,g:=none,k:=OpK.store 1 (Opd.t 6) (cI 0) }]) (ACode.seq (ACode.seq (ACode.reg none [oN 11 (OpK.load true 4 (Opd.t 1)),oN 12 (OpK.ncall true 0 108 [Opd.t 11]),oN 13 (OpK.mov (cI 0))]) (ACode.block 0 (ACode.loop ZsX))) Ztb))))],defs:=[(2000065,0)],rnd:=none,ret:=false,res:=[ARes.tmp 2,ARes.tmp 3] }]
def ZfK(m g0 g1:Int)(xs:List Int)(n0:Int)(l1:List Nat)(n2:Int)(l3:List (List Nat)):Zaa:=[(65002,{ base:=0,blks:=[Blk.row 97 4 (Row.gen [AV.agg (Row.gen [AV.int .i64 m,AV.int .i64 g0,AV.int .i64 g1,AV.list (.ints .i64 xs)])])] }),(107002,{ base:=0,blks:=[Blk.row 97 4 (Row.gen [AV.agg (Row.gen [AV.int .i64 m,AV.int .i64 g0,AV.int .i64 g1,AV.list (.ints .i64 xs)])])] }),(107004,{ base:=0,blks:=[Blk.row 135 1 (Row.gen [.row 107011 0])] }),(107011,{ base:=0,blks:=[Blk.row 137 1 (Row.refs 1000107 l1)] }),(1000107,{ base:=0,blks:=[],sym:=Sym.flts 118 1 Go.FloatKind.f32 l3 }),(2000065,{ base:=0,blks:=[],sym:=Sym.dfrs 0 }),(2000107,{ base:=0,blks:=[],sym:=Sym.dfrs 0 })]
abbrev Zjj(m g0 g1:Int)(xs:List Int)(n0:Int)(l1:List Nat)(n2:Int)(l3:List (List Nat)):List AFrame×Zaa:=(ZhJ m g0 g1 xs n0 l1 n2 l3,ZfK m g0 g1 xs n0 l1 n2 l3)
def ZeL(m g0 g1:Int)(xs:List Int)(l1:List Nat)(n4:Int)(l5:List (List Nat))(j6:Nat):List AFrame:=[{ fn:=107,N:=71,env:=[(1,AV.ptr 107002 0 0 0),(2,AV.nils),(3,AV.ptr 107004 0 0 0),(5,AV.ptr 107006 0 0 0)],todo:=.code (ACode.gh [] ZAD)::Zwu,defs:=[(2000107,0)],rnd:=none,ret:=false,res:=[ARes.tmp 2] },{ fn:=65,N:=61,env:=[(0,AV.agg (Row.gen [.int .i64 m, .int .i64 g0, .int .i64 g1, .list (.ints .i64 xs)])),(1,AV.ptr 65002 0 0 0),(2,AV.nils),(3,AV.int .i64 0),(9,AV.agg (Row.gen [.int .i64 m, .int .i64 g0, .int .i64 g1, .list (.ints .i64 xs)]))],todo:=[AItem.inReg [oN 10 (OpK.icall 107 [Opd.t 9]),oN 4 (OpK.alloc 65005 135 AV.nils),{ d:=none,g:=none,k:=OpK.store 1 (Opd.t 4) (Opd.t 10) }], .code (ACode.seq (ACode.reg none [oN 5 (OpK.alloc 65006 25 AV.nils)]) (ACode.gh [Ghost.ownc 5 65051 3 1 (.ints .i64 [])] (ACode.seq (ACode.reg none [oN 6 (OpK.alloc 65007 3 (AV.int .i64 0)),{ d:=none,g:=none,k:=OpK.store 1 (Opd.t 6) (cI 0) }]) (ACode.seq (ACode.seq (ACode.reg none [oN 11 (OpK.load true 4 (Opd.t 1)),oN 12 (OpK.ncall true 0 108 [Opd.t 11]),oN 13 (OpK.mov (cI 0))]) (ACode.block 0 (ACode.loop ZsX))) Ztb))))],defs:=[(2000065,0)],rnd:=none,ret:=false,res:=[ARes.tmp 2,ARes.tmp 3] }]
def Zdw(m g0 g1:Int)(xs:List Int)(l1:List Nat)(n4:Int)(l5:List (List Nat))(j6:Nat):Zaa:=[(65002,{ base:=0,blks:=[Blk.row 97 4 (Row.gen [AV.agg (Row.gen [AV.int .i64 m,AV.int .i64 g0,AV.int .i64 g1,AV.list (.ints .i64 xs)])])] }),(107002,{ base:=0,blks:=[Blk.row 97 4 (Row.gen [AV.agg (Row.gen [AV.int .i64 m,AV.int .i64 g0,AV.int .i64 g1,AV.list (.ints .i64 xs)])])] }),(107004,{ base:=0,blks:=[Blk.row 135 1 (Row.gen [.row 107011 0])] }),(107006,{ base:=0,blks:=[Blk.row 3 1 (Row.gen [.int .i64 n4])] }),(107011,{ base:=0,blks:=[Blk.row 137 1 (Row.refs 1000107 l1)] }),(1000107,{ base:=0,blks:=[],sym:=Sym.flts 118 1 Go.FloatKind.f32 l5 }),(2000065,{ base:=0,blks:=[],sym:=Sym.dfrs 0 }),(2000107,{ base:=0,blks:=[],sym:=Sym.dfrs j6 })]
abbrev Zj1(m g0 g1:Int)(xs:List Int)(l1:List Nat)(n4:Int)(l5:List (List Nat))(j6:Nat):List AFrame×Zaa:=(ZeL m g0 g1 xs l1 n4 l5 j6,Zdw m g0 g1 xs l1 n4 l5 j6)
def Zfe(m g0 g1:Int)(xs:List Int)(l1:List Nat)(n4 n7:Int)(b8 b9:Bool)(j10:Nat)(n11:Int)(l12:List (List Nat)):List AFrame:=[{ fn:=115,N:=64,env:=[(0,AV.yld 107901 0),(1,AV.ptr 87003 0 0 0),(2,AV.ptr 87004 0 0 0),(10,AV.int .i64 n7),(11,AV.int .i64 n11)],todo:=.code (ACode.gh [] ZvD)::ZzW,defs:=[],rnd:=none,ret:=false,res:=[] },{ fn:=107,N:=71,env:=[(1,AV.ptr 107002 0 0 0),(2,AV.nils),(3,AV.ptr 107004 0 0 0),(5,AV.ptr 107006 0 0 0),(33,AV.int .i64 n4),(34,AV.bool b8),(37,AV.agg (Row.gen [.int .i64 m, .int .i64 g0, .int .i64 g1, .list (.ints .i64 xs)])),(38,AV.int .i64 n4),(39,AV.fn 115 [AV.ptr 87003 0 0 0,AV.ptr 87004 0 0 0])],todo:=AItem.inRF 107901 0::AItem.inBlock 4::AItem.inBlock 3::.code (ACode.seq (ACode.seq (ACode.reg none [oN 69 (OpK.load false 1 (Opd.t 5))]) (ACode.reg none [oN 5 (OpK.alloc 107006 3 (AV.int .i64 0)),{ d:=none,g:=none,k:=OpK.store 1 (Opd.t 5) (Opd.t 69) }])) (ACode.reg none [oN 35 (OpK.load false 1 (Opd.t 5)),oN 36 (OpK.bin Go.BinOp.sub (Opd.t 35) (cI 1)),{ d:=none,g:=none,k:=OpK.store 1 (Opd.t 5) (Opd.t 36) }]))::Zwu,defs:=[(2000107,0)],rnd:=none,ret:=false,res:=[ARes.tmp 2] },{ fn:=65,N:=61,env:=[(0,AV.agg (Row.gen [.int .i64 m, .int .i64 g0, .int .i64 g1, .list (.ints .i64 xs)])),(1,AV.ptr 65002 0 0 0),(2,AV.nils),(3,AV.int .i64 0),(9,AV.agg (Row.gen [.int .i64 m, .int .i64 g0, .int .i64 g1, .list (.ints .i64 xs)]))],todo:=[AItem.inReg [oN 10 (OpK.icall 107 [Opd.t 9]),oN 4 (OpK.alloc 65005 135 AV.nils),{ d:=none,g:=none,k:=OpK.store 1 (Opd.t 4) (Opd.t 10) }], .code (ACode.seq (ACode.reg none [oN 5 (OpK.alloc 65006 25 AV.nils)]) (ACode.gh [Ghost.ownc 5 65051 3 1 (.ints .i64 [])] (ACode.seq (ACode.reg none [oN 6 (OpK.alloc 65007 3 (AV.int .i64 0)),{ d:=none,g:=none,k:=OpK.store 1 (Opd.t 6) (cI 0) }]) (ACode.seq (ACode.seq (ACode.reg none [oN 11 (OpK.load true 4 (Opd.t 1)),oN 12 (OpK.ncall true 0 108 [Opd.t 11]),oN 13 (OpK.mov (cI 0))]) (ACode.block 0 (ACode.loop ZsX))) Ztb))))],defs:=[(2000065,0)],rnd:=none,ret:=false,res:=[ARes.tmp 2,ARes.tmp 3] }]
def Zdu(m g0 g1:Int)(xs:List Int)(l1:List Nat)(n4 n7:Int)(b8 b9:Bool)(j10:Nat)(n11:Int)(l12:List (List Nat)):Zaa:=[(65002,{ base:=0,blks:=[Blk.row 97 4 (Row.gen [AV.agg (Row.gen [AV.int .i64 m,AV.int .i64 g0,AV.int .i64 g1,AV.list (.ints .i64 xs)])])] }),(87003,{ base:=0,blks:=[Blk.row 97 4 (Row.gen [AV.agg (Row.gen [AV.int .i64 m,AV.int .i64 g0,AV.int .i64 g1,AV.list (.ints .i64 xs)])])] }),(87004,{ base:=0,blks:=[Blk.row 3 1 (Row.gen [.int .i64 n4])] }),(107002,{ base:=0,blks:=[Blk.row 97 4 (Row.gen [AV.agg (Row.gen [AV.int .i64 m,AV.int .i64 g0,AV.int .i64 g1,AV.list (.ints .i64 xs)])])] }),(107004,{ base:=0,blks:=[Blk.row 135 1 (Row.gen [.row 107011 0])] }),(107006,{ base:=0,blks:=[Blk.row 3 1 (Row.gen [.int .i64 n4])] }),(107011,{ base:=0,blks:=[Blk.row 137 1 (Row.refs 1000107 l1)] }),(107901,{ base:=0,blks:=[Blk.lp { st:=RSt.ready,fn:=107,N:=71,env:=[(1,AV.ptr 107002 0 0 0),(2,AV.nils),(3,AV.ptr 107004 0 0 0),(5,AV.ptr 107006 0 0 0),(33,AV.int .i64 n4),(34,AV.bool b9),(37,AV.agg (Row.gen [.int .i64 m, .int .i64 g0, .int .i64 g1, .list (.ints .i64 xs)])),(38,AV.int .i64 n4),(39,AV.fn 115 [AV.ptr 87003 0 0 0,AV.ptr 87004 0 0 0])],params:=[40],asg:=ACode.reg none [oN 6 (OpK.alloc 107007 120 (AV.agg (Row.gen [.int .i64 0, .int .i64 0, .int .i64 0, .flt Go.FloatKind.f32 0]))),{ d:=none,g:=none,k:=OpK.store 4 (Opd.t 6) (Opd.t 40) }],body:=ACode.block 5 (ACode.reg (some []) [oN 41 (OpK.load false 1 (Opd.t 3)),oN 42 (OpK.load false 1 (Opd.t 5)),oN 43 (OpK.iaddr 1 (Opd.t 41) (Opd.t 42)),oN 44 (OpK.load false 1 (Opd.t 43)),oN 45 (OpK.faddr 0 (Opd.t 6)),oN 46 (OpK.load false 1 (Opd.t 45)),oN 47 (OpK.load false 1 (Opd.t 3)),oN 48 (OpK.load false 1 (Opd.t 5)),oN 49 (OpK.iaddr 1 (Opd.t 47) (Opd.t 48)),oN 50 (OpK.load false 1 (Opd.t 49)),oN 51 (OpK.faddr 0 (Opd.t 6)),oN 52 (OpK.load false 1 (Opd.t 51)),oN 53 (OpK.iaddr 1 (Opd.t 50) (Opd.t 52)),oN 54 (OpK.load false 1 (Opd.t 53)),oN 55 (OpK.load false 1 (Opd.t 3)),oN 56 (OpK.load false 1 (Opd.t 5)),oN 57 (OpK.bin Go.BinOp.add (Opd.t 56) (cI 1)),oN 58 (OpK.iaddr 1 (Opd.t 55) (Opd.t 57)),oN 59 (OpK.load false 1 (Opd.t 58)),oN 60 (OpK.faddr 2 (Opd.t 6)),oN 61 (OpK.load false 1 (Opd.t 60)),oN 62 (OpK.iaddr 1 (Opd.t 59) (Opd.t 61)),oN 63 (OpK.load false 1 (Opd.t 62)),oN 64 (OpK.faddr 3 (Opd.t 6)),oN 65 (OpK.load false 1 (Opd.t 64)),oN 66 (OpK.bin Go.BinOp.add (Opd.t 63) (Opd.t 65)),oN 67 (OpK.mm true (Opd.t 54) (Opd.t 66)),oN 68 (OpK.iaddr 1 (Opd.t 44) (Opd.t 46)),{ d:=none,g:=none,k:=OpK.store 1 (Opd.t 68) (Opd.t 67) }]) }] }),(1000107,{ base:=0,blks:=[],sym:=Sym.flts 118 1 Go.FloatKind.f32 l12 }),(2000065,{ base:=0,blks:=[],sym:=Sym.dfrs 0 }),(2000107,{ base:=0,blks:=[],sym:=Sym.dfrs j10 })]
abbrev Zf9(m g0 g1:Int)(xs:List Int)(l1:List Nat)(n4 n7:Int)(b8 b9:Bool)(j10:Nat)(n11:Int)(l12:List (List Nat)):List AFrame×Zaa:=(Zfe m g0 g1 xs l1 n4 n7 b8 b9 j10 n11 l12,Zdu m g0 g1 xs l1 n4 n7 b8 b9 j10 n11 l12)
def Zca(m g0 g1:Int)(xs:List Int)(l1:List Nat)(l5:List (List Nat))(n13:Int)(j14:Nat)(n15:Int)(j16:Nat)(n17:Int)(l18:List Int):List AFrame:=[{ fn:=65,N:=61,env:=[(1,AV.ptr 65002 0 0 0),(2,AV.nils),(3,AV.int .i64 0),(4,AV.ptr 65005 0 0 0),(5,AV.ptr 65006 0 0 0),(6,AV.ptr 65007 0 0 0),(12,AV.int .i64 n13),(13,AV.int .i64 n15)],todo:=.code (ACode.gh [] ZGj)::ZDW,defs:=[(2000065,0)],rnd:=none,ret:=false,res:=[ARes.tmp 2,ARes.tmp 3] }]
def ZbI(m g0 g1:Int)(xs:List Int)(l1:List Nat)(l5:List (List Nat))(n13:Int)(j14:Nat)(n15:Int)(j16:Nat)(n17:Int)(l18:List Int):Zaa:=[(65002,{ base:=0,blks:=[Blk.row 97 4 (Row.gen [AV.agg (Row.gen [AV.int .i64 m,AV.int .i64 g0,AV.int .i64 g1,AV.list (.ints .i64 xs)])])] }),(65005,{ base:=0,blks:=[Blk.row 135 1 (Row.gen [.row 107011 0])] }),(65006,{ base:=0,blks:=[Blk.row 25 1 (Row.gen [.row 65051 0])] }),(65007,{ base:=0,blks:=[Blk.row 3 1 (Row.gen [.int .i64 n17])] }),(65051,{ base:=0,blks:=[Blk.row 3 1 (.ints .i64 l18)] }),(107011,{ base:=0,blks:=[Blk.row 137 1 (Row.refs 1000107 l1)] }),(1000107,{ base:=0,blks:=[],sym:=Sym.flts 118 1 Go.FloatKind.f32 l5 }),(2000065,{ base:=0,blks:=[],sym:=Sym.dfrs j16 }),(2000107,{ base:=j14,blks:=[] })]
abbrev Zfc(m g0 g1:Int)(xs:List Int)(l1:List Nat)(l5:List (List Nat))(n13:Int)(j14:Nat)(n15:Int)(j16:Nat)(n17:Int)(l18:List Int):List AFrame×Zaa:=(Zca m g0 g1 xs l1 l5 n13 j14 n15 j16 n17 l18,ZbI m g0 g1 xs l1 l5 n13 j14 n15 j16 n17 l18)
def Zdc(m g0 g1:Int)(xs:List Int)(l1:List Nat)(n4 n7:Int)(b8 b9:Bool)(j10:Nat)(n11 n19:Int)(l20:List (List Nat)):List AFrame:=[{ fn:=115,N:=64,env:=[(0,AV.yld 107901 0),(1,AV.ptr 87003 0 0 0),(2,AV.ptr 87004 0 0 0),(4,AV.int .i64 n11),(10,AV.int .i64 n7),(11,AV.int .i64 n11),(14,AV.int .i64 n19)],todo:=.code (ACode.gh [] Ztt)::ZAn,defs:=[],rnd:=none,ret:=false,res:=[] },{ fn:=107,N:=71,env:=[(1,AV.ptr 107002 0 0 0),(2,AV.nils),(3,AV.ptr 107004 0 0 0),(5,AV.ptr 107006 0 0 0),(33,AV.int .i64 n4),(34,AV.bool b8),(37,AV.agg (Row.gen [.int .i64 m, .int .i64 g0, .int .i64 g1, .list (.ints .i64 xs)])),(38,AV.int .i64 n4),(39,AV.fn 115 [AV.ptr 87003 0 0 0,AV.ptr 87004 0 0 0])],todo:=AItem.inRF 107901 0::AItem.inBlock 4::AItem.inBlock 3::.code (ACode.seq (ACode.seq (ACode.reg none [oN 69 (OpK.load false 1 (Opd.t 5))]) (ACode.reg none [oN 5 (OpK.alloc 107006 3 (AV.int .i64 0)),{ d:=none,g:=none,k:=OpK.store 1 (Opd.t 5) (Opd.t 69) }])) (ACode.reg none [oN 35 (OpK.load false 1 (Opd.t 5)),oN 36 (OpK.bin Go.BinOp.sub (Opd.t 35) (cI 1)),{ d:=none,g:=none,k:=OpK.store 1 (Opd.t 5) (Opd.t 36) }]))::Zwu,defs:=[(2000107,0)],rnd:=none,ret:=false,res:=[ARes.tmp 2] },{ fn:=65,N:=61,env:=[(0,AV.agg (Row.gen [.int .i64 m, .int .i64 g0, .int .i64 g1, .list (.ints .i64 xs)])),(1,AV.ptr 65002 0 0 0),(2,AV.nils),(3,AV.int .i64 0),(9,AV.agg (Row.gen [.int .i64 m, .int .i64 g0, .int .i64 g1, .list (.ints .i64 xs)]))],todo:=[AItem.inReg [oN 10 (OpK.icall 107 [Opd.t 9]),oN 4 (OpK.alloc 65005 135 AV.nils),{ d:=none,g:=none,k:=OpK.store 1 (Opd.t 4) (Opd.t 10) }], .code (ACode.seq (ACode.reg none [oN 5 (OpK.alloc 65006 25 AV.nils)]) (ACode.gh [Ghost.ownc 5 65051 3 1 (.ints .i64 [])] (ACode.seq (ACode.reg none [oN 6 (OpK.alloc 65007 3 (AV.int .i64 0)),{ d:=none,g:=none,k:=OpK.store 1 (Opd.t 6) (cI 0) }]) (ACode.seq (ACode.seq (ACode.reg none [oN 11 (OpK.load true 4 (Opd.t 1)),oN 12 (OpK.ncall true 0 108 [Opd.t 11]),oN 13 (OpK.mov (cI 0))]) (ACode.block 0 (ACode.loop ZsX))) Ztb))))],defs:=[(2000065,0)],rnd:=none,ret:=false,res:=[ARes.tmp 2,ARes.tmp 3] }]
def ZcO(m g0 g1:Int)(xs:List Int)(l1:List Nat)(n4 n7:Int)(b8 b9:Bool)(j10:Nat)(n11 n19:Int)(l20:List (List Nat)):Zaa:=[(65002,{ base:=0,blks:=[Blk.row 97 4 (Row.gen [AV.agg (Row.gen [AV.int .i64 m,AV.int .i64 g0,AV.int .i64 g1,AV.list (.ints .i64 xs)])])] }),(87003,{ base:=0,blks:=[Blk.row 97 4 (Row.gen [AV.agg (Row.gen [AV.int .i64 m,AV.int .i64 g0,AV.int .i64 g1,AV.list (.ints .i64 xs)])])] }),(87004,{ base:=0,blks:=[Blk.row 3 1 (Row.gen [.int .i64 n4])] }),(107002,{ base:=0,blks:=[Blk.row 97 4 (Row.gen [AV.agg (Row.gen [AV.int .i64 m,AV.int .i64 g0,AV.int .i64 g1,AV.list (.ints .i64 xs)])])] }),(107004,{ base:=0,blks:=[Blk.row 135 1 (Row.gen [.row 107011 0])] }),(107006,{ base:=0,blks:=[Blk.row 3 1 (Row.gen [.int .i64 n4])] }),(107011,{ base:=0,blks:=[Blk.row 137 1 (Row.refs 1000107 l1)] }),(107901,{ base:=0,blks:=[Blk.lp { st:=RSt.ready,fn:=107,N:=71,env:=[(1,AV.ptr 107002 0 0 0),(2,AV.nils),(3,AV.ptr 107004 0 0 0),(5,AV.ptr 107006 0 0 0),(33,AV.int .i64 n4),(34,AV.bool b9),(37,AV.agg (Row.gen [.int .i64 m, .int .i64 g0, .int .i64 g1, .list (.ints .i64 xs)])),(38,AV.int .i64 n4),(39,AV.fn 115 [AV.ptr 87003 0 0 0,AV.ptr 87004 0 0 0])],params:=[40],asg:=ACode.reg none [oN 6 (OpK.alloc 107007 120 (AV.agg (Row.gen [.int .i64 0, .int .i64 0, .int .i64 0, .flt Go.FloatKind.f32 0]))),{ d:=none,g:=none,k:=OpK.store 4 (Opd.t 6) (Opd.t 40) }],body:=ACode.block 5 (ACode.reg (some []) [oN 41 (OpK.load false 1 (Opd.t 3)),oN 42 (OpK.load false 1 (Opd.t 5)),oN 43 (OpK.iaddr 1 (Opd.t 41) (Opd.t 42)),oN 44 (OpK.load false 1 (Opd.t 43)),oN 45 (OpK.faddr 0 (Opd.t 6)),oN 46 (OpK.load false 1 (Opd.t 45)),oN 47 (OpK.load false 1 (Opd.t 3)),oN 48 (OpK.load false 1 (Opd.t 5)),oN 49 (OpK.iaddr 1 (Opd.t 47) (Opd.t 48)),oN 50 (OpK.load false 1 (Opd.t 49)),oN 51 (OpK.faddr 0 (Opd.t 6)),oN 52 (OpK.load false 1 (Opd.t 51)),oN 53 (OpK.iaddr 1 (Opd.t 50) (Opd.t 52)),oN 54 (OpK.load false 1 (Opd.t 53)),oN 55 (OpK.load false 1 (Opd.t 3)),oN 56 (OpK.load false 1 (Opd.t 5)),oN 57 (OpK.bin Go.BinOp.add (Opd.t 56) (cI 1)),oN 58 (OpK.iaddr 1 (Opd.t 55) (Opd.t 57)),oN 59 (OpK.load false 1 (Opd.t 58)),oN 60 (OpK.faddr 2 (Opd.t 6)),oN 61 (OpK.load false 1 (Opd.t 60)),oN 62 (OpK.iaddr 1 (Opd.t 59) (Opd.t 61)),oN 63 (OpK.load false 1 (Opd.t 62)),oN 64 (OpK.faddr 3 (Opd.t 6)),oN 65 (OpK.load false 1 (Opd.t 64)),oN 66 (OpK.bin Go.BinOp.add (Opd.t 63) (Opd.t 65)),oN 67 (OpK.mm true (Opd.t 54) (Opd.t 66)),oN 68 (OpK.iaddr 1 (Opd.t 44) (Opd.t 46)),{ d:=none,g:=none,k:=OpK.store 1 (Opd.t 68) (Opd.t 67) }]) }] }),(1000107,{ base:=0,blks:=[],sym:=Sym.flts 118 1 Go.FloatKind.f32 l20 }),(2000065,{ base:=0,blks:=[],sym:=Sym.dfrs 0 }),(2000107,{ base:=0,blks:=[],sym:=Sym.dfrs j10 })]
abbrev Zf4(m g0 g1:Int)(xs:List Int)(l1:List Nat)(n4 n7:Int)(b8 b9:Bool)(j10:Nat)(n11 n19:Int)(l20:List (List Nat)):List AFrame×Zaa:=(Zdc m g0 g1 xs l1 n4 n7 b8 b9 j10 n11 n19 l20,ZcO m g0 g1 xs l1 n4 n7 b8 b9 j10 n11 n19 l20)
def Zhu(m g0 g1:Int)(xs:List Int)(l1:List Nat)(l5:List (List Nat))(n13:Int)(j14:Nat)(n15 n17:Int)(l18:List Int)(n21:Int)(b22 b23:Bool)(j24:Nat)(n25:Int):List AFrame:=[{ fn:=115,N:=64,env:=[(0,AV.yld 65901 0),(1,AV.ptr 87003 0 0 0),(2,AV.ptr 87004 0 0 0),(10,AV.int .i64 n21),(11,AV.int .i64 n25)],todo:=.code (ACode.gh [] ZvD)::ZzW,defs:=[],rnd:=none,ret:=false,res:=[] },{ fn:=65,N:=61,env:=[(1,AV.ptr 65002 0 0 0),(2,AV.nils),(3,AV.int .i64 0),(4,AV.ptr 65005 0 0 0),(5,AV.ptr 65006 0 0 0),(6,AV.ptr 65007 0 0 0),(7,AV.ptr 65008 0 0 0),(12,AV.int .i64 n13),(13,AV.int .i64 n15),(14,AV.bool b22),(15,AV.int .i64 n15),(16,AV.agg (Row.gen [.int .i64 m, .int .i64 g0, .int .i64 g1, .list (.ints .i64 xs)])),(17,AV.int .i64 n15),(18,AV.fn 115 [AV.ptr 87003 0 0 0,AV.ptr 87004 0 0 0])],todo:=AItem.inRF 65901 0::AItem.inBlock 2::AItem.inBlock 1::.code (ACode.reg none [oN 53 (OpK.bin Go.BinOp.add (Opd.t 13) (cI 1)),mV 13 53])::ZDW,defs:=[(2000065,0)],rnd:=none,ret:=false,res:=[ARes.tmp 2,ARes.tmp 3] }]
def ZfL(m g0 g1:Int)(xs:List Int)(l1:List Nat)(l5:List (List Nat))(n13:Int)(j14:Nat)(n15 n17:Int)(l18:List Int)(n21:Int)(b22 b23:Bool)(j24:Nat)(n25:Int):Zaa:=[(65002,{ base:=0,blks:=[Blk.row 97 4 (Row.gen [AV.agg (Row.gen [AV.int .i64 m,AV.int .i64 g0,AV.int .i64 g1,AV.list (.ints .i64 xs)])])] }),(65005,{ base:=0,blks:=[Blk.row 135 1 (Row.gen [.row 107011 0])] }),(65006,{ base:=0,blks:=[Blk.row 25 1 (Row.gen [.row 65051 0])] }),(65007,{ base:=0,blks:=[Blk.row 3 1 (Row.gen [.int .i64 n17])] }),(65008,{ base:=0,blks:=[Blk.row 3 1 (Row.gen [.int .i64 n15])] }),(65051,{ base:=0,blks:=[Blk.row 3 1 (.ints .i64 l18)] }),(65901,{ base:=0,blks:=[Blk.lp { st:=RSt.ready,fn:=65,N:=61,env:=[(1,AV.ptr 65002 0 0 0),(2,AV.nils),(3,AV.int .i64 0),(4,AV.ptr 65005 0 0 0),(5,AV.ptr 65006 0 0 0),(6,AV.ptr 65007 0 0 0),(7,AV.ptr 65008 0 0 0),(12,AV.int .i64 n13),(13,AV.int .i64 n15),(14,AV.bool b23),(15,AV.int .i64 n15),(16,AV.agg (Row.gen [.int .i64 m, .int .i64 g0, .int .i64 g1, .list (.ints .i64 xs)])),(17,AV.int .i64 n15),(18,AV.fn 115 [AV.ptr 87003 0 0 0,AV.ptr 87004 0 0 0])],params:=[19],asg:=ACode.reg none [oN 8 (OpK.alloc 65009 120 (AV.agg (Row.gen [.int .i64 0, .int .i64 0, .int .i64 0, .flt Go.FloatKind.f32 0]))),{ d:=none,g:=none,k:=OpK.store 4 (Opd.t 8) (Opd.t 19) }],body:=ACode.block 3 (ACode.seq (ACode.reg (some []) [oN 20 (OpK.faddr 0 (Opd.t 8)),oN 21 (OpK.load false 1 (Opd.t 20)),oN 22 (OpK.load false 1 (Opd.t 6)),oN 23 (OpK.bin Go.BinOp.eql (Opd.t 21) (Opd.t 22)),mV 24 23,{ d:=some 25,g:=some (24,true),k:=OpK.load false 1 (Opd.t 4) },{ d:=some 26,g:=some (24,true),k:=OpK.load false 1 (Opd.t 7) },{ d:=some 27,g:=some (24,true),k:=OpK.bin Go.BinOp.add (Opd.t 26) (cI 1) },{ d:=some 28,g:=some (24,true),k:=OpK.iaddr 1 (Opd.t 25) (Opd.t 27) },{ d:=some 29,g:=some (24,true),k:=OpK.load false 1 (Opd.t 28) },{ d:=some 30,g:=some (24,true),k:=OpK.faddr 2 (Opd.t 8) },{ d:=some 31,g:=some (24,true),k:=OpK.load false 1 (Opd.t 30) },{ d:=some 32,g:=some (24,true),k:=OpK.iaddr 1 (Opd.t 29) (Opd.t 31) },{ d:=some 33,g:=some (24,true),k:=OpK.load false 1 (Opd.t 32) },{ d:=some 34,g:=some (24,true),k:=OpK.faddr 3 (Opd.t 8) },{ d:=some 35,g:=some (24,true),k:=OpK.load false 1 (Opd.t 34) },{ d:=some 36,g:=some (24,true),k:=OpK.bin Go.BinOp.add (Opd.t 33) (Opd.t 35) },{ d:=some 37,g:=some (24,true),k:=OpK.load false 1 (Opd.t 4) },{ d:=some 38,g:=some (24,true),k:=OpK.load false 1 (Opd.t 7) },{ d:=some 39,g:=some (24,true),k:=OpK.iaddr 1 (Opd.t 37) (Opd.t 38) },{ d:=some 40,g:=some (24,true),k:=OpK.load false 1 (Opd.t 39) },{ d:=some 41,g:=some (24,true),k:=OpK.load false 1 (Opd.t 6) },{ d:=some 42,g:=some (24,true),k:=OpK.iaddr 1 (Opd.t 40) (Opd.t 41) },{ d:=some 43,g:=some (24,true),k:=OpK.load false 1 (Opd.t 42) },{ d:=some 44,g:=some (24,true),k:=OpK.bin Go.BinOp.eql (Opd.t 36) (Opd.t 43) },oN 45 (OpK.pick (Opd.t 24) (Opd.t 44) (Opd.c (AV.bool false)))]) (ACode.gh [Ghost.keep [1,2,3,4,5,6,7,8,12,13,45]] (ACode.cond (Opd.t 45) (ACode.seq (ACode.reg (some [(0,3),(3,5),(3,6),(4,5),(4,6),(5,7),(6,7)]) [oN 46 (OpK.load false 1 (Opd.t 5)),oN 47 (OpK.faddr 1 (Opd.t 8)),oN 48 (OpK.load false 1 (Opd.t 47)),oN 49 (OpK.bslice 65050 3 1 [Opd.t 48]),oN 50 (OpK.append 65051 3 1 (Opd.t 46) (Opd.t 49)),oN 51 (OpK.faddr 2 (Opd.t 8)),oN 52 (OpK.load false 1 (Opd.t 51)),{ d:=none,g:=none,k:=OpK.store 1 (Opd.t 5) (Opd.t 50) },{ d:=none,g:=none,k:=OpK.store 1 (Opd.t 6) (Opd.t 52) }]) (ACode.gh [Ghost.keep [1,2,3,4,5,6,12,13]] (ACode.exit 2))) ACode.skip))) }] }),(87003,{ base:=0,blks:=[Blk.row 97 4 (Row.gen [AV.agg (Row.gen [AV.int .i64 m,AV.int .i64 g0,AV.int .i64 g1,AV.list (.ints .i64 xs)])])] }),(87004,{ base:=0,blks:=[Blk.row 3 1 (Row.gen [.int .i64 n15])] }),(107011,{ base:=0,blks:=[Blk.row 137 1 (Row.refs 1000107 l1)] }),(1000107,{ base:=0,blks:=[],sym:=Sym.flts 118 1 Go.FloatKind.f32 l5 }),(2000065,{ base:=0,blks:=[],sym:=Sym.dfrs j24 }),(2000107,{ base:=j14,blks:=[] })]
abbrev Zf6(m g0 g1:Int)(xs:List Int)(l1:List Nat)(l5:List (List Nat))(n13:Int)(j14:Nat)(n15 n17:Int)(l18:List Int)(n21:Int)(b22 b23:Bool)(j24:Nat)(n25:Int):List AFrame×Zaa:=(Zhu m g0 g1 xs l1 l5 n13 j14 n15 n17 l18 n21 b22 b23 j24 n25,ZfL m g0 g1 xs l1 l5 n13 j14 n15 n17 l18 n21 b22 b23 j24 n25)
def Zcs(m g0 g1:Int)(xs:List Int)(l1:List Nat)(l5:List (List Nat))(n13:Int)(j14:Nat)(n15 n17:Int)(l18:List Int)(n21:Int)(b22 b23:Bool)(j24:Nat)(n25 n26:Int):List AFrame:=[{ fn:=115,N:=64,env:=[(0,AV.yld 65901 0),(1,AV.ptr 87003 0 0 0),(2,AV.ptr 87004 0 0 0),(4,AV.int .i64 n25),(10,AV.int .i64 n21),(11,AV.int .i64 n25),(14,AV.int .i64 n26)],todo:=.code (ACode.gh [] Ztt)::ZAn,defs:=[],rnd:=none,ret:=false,res:=[] },{ fn:=65,N:=61,env:=[(1,AV.ptr 65002 0 0 0),(2,AV.nils),(3,AV.int .i64 0),(4,AV.ptr 65005 0 0 0),(5,AV.ptr 65006 0 0 0),(6,AV.ptr 65007 0 0 0),(7,AV.ptr 65008 0 0 0),(12,AV.int .i64 n13),(13,AV.int .i64 n15),(14,AV.bool b22),(15,AV.int .i64 n15),(16,AV.agg (Row.gen [.int .i64 m, .int .i64 g0, .int .i64 g1, .list (.ints .i64 xs)])),(17,AV.int .i64 n15),(18,AV.fn 115 [AV.ptr 87003 0 0 0,AV.ptr 87004 0 0 0])],todo:=AItem.inRF 65901 0::AItem.inBlock 2::AItem.inBlock 1::.code (ACode.reg none [oN 53 (OpK.bin Go.BinOp.add (Opd.t 13) (cI 1)),mV 13 53])::ZDW,defs:=[(2000065,0)],rnd:=none,ret:=false,res:=[ARes.tmp 2,ARes.tmp 3] }]
def ZbV(m g0 g1:Int)(xs:List Int)(l1:List Nat)(l5:List (List Nat))(n13:Int)(j14:Nat)(n15 n17:Int)(l18:List Int)(n21:Int)(b22 b23:Bool)(j24:Nat)(n25 n26:Int):Zaa:=[(65002,{ base:=0,blks:=[Blk.row 97 4 (Row.gen [AV.agg (Row.gen [AV.int .i64 m,AV.int .i64 g0,AV.int .i64 g1,AV.list (.ints .i64 xs)])])] }),(65005,{ base:=0,blks:=[Blk.row 135 1 (Row.gen [.row 107011 0])] }),(65006,{ base:=0,blks:=[Blk.row 25 1 (Row.gen [.row 65051 0])] }),(65007,{ base:=0,blks:=[Blk.row 3 1 (Row.gen [.int .i64 n17])] }),(65008,{ base:=0,blks:=[Blk.row 3 1 (Row.gen [.int .i64 n15])] }),(65051,{ base:=0,blks:=[Blk.row 3 1 (.ints .i64 l18)] }),(65901,{ base:=0,blks:=[Blk.lp { st:=RSt.ready,fn:=65,N:=61,env:=[(1,AV.ptr 65002 0 0 0),(2,AV.nils),(3,AV.int .i64 0),(4,AV.ptr 65005 0 0 0),(5,AV.ptr 65006 0 0 0),(6,AV.ptr 65007 0 0 0),(7,AV.ptr 65008 0 0 0),(12,AV.int .i64 n13),(13,AV.int .i64 n15),(14,AV.bool b23),(15,AV.int .i64 n15),(16,AV.agg (Row.gen [.int .i64 m, .int .i64 g0, .int .i64 g1, .list (.ints .i64 xs)])),(17,AV.int .i64 n15),(18,AV.fn 115 [AV.ptr 87003 0 0 0,AV.ptr 87004 0 0 0])],params:=[19],asg:=ACode.reg none [oN 8 (OpK.alloc 65009 120 (AV.agg (Row.gen [.int .i64 0, .int .i64 0, .int .i64 0, .flt Go.FloatKind.f32 0]))),{ d:=none,g:=none,k:=OpK.store 4 (Opd.t 8) (Opd.t 19) }],body:=ACode.block 3 (ACode.seq (ACode.reg (some []) [oN 20 (OpK.faddr 0 (Opd.t 8)),oN 21 (OpK.load false 1 (Opd.t 20)),oN 22 (OpK.load false 1 (Opd.t 6)),oN 23 (OpK.bin Go.BinOp.eql (Opd.t 21) (Opd.t 22)),mV 24 23,{ d:=some 25,g:=some (24,true),k:=OpK.load false 1 (Opd.t 4) },{ d:=some 26,g:=some (24,true),k:=OpK.load false 1 (Opd.t 7) },{ d:=some 27,g:=some (24,true),k:=OpK.bin Go.BinOp.add (Opd.t 26) (cI 1) },{ d:=some 28,g:=some (24,true),k:=OpK.iaddr 1 (Opd.t 25) (Opd.t 27) },{ d:=some 29,g:=some (24,true),k:=OpK.load false 1 (Opd.t 28) },{ d:=some 30,g:=some (24,true),k:=OpK.faddr 2 (Opd.t 8) },{ d:=some 31,g:=some (24,true),k:=OpK.load false 1 (Opd.t 30) },{ d:=some 32,g:=some (24,true),k:=OpK.iaddr 1 (Opd.t 29) (Opd.t 31) },{ d:=some 33,g:=some (24,true),k:=OpK.load false 1 (Opd.t 32) },{ d:=some 34,g:=some (24,true),k:=OpK.faddr 3 (Opd.t 8) },{ d:=some 35,g:=some (24,true),k:=OpK.load false 1 (Opd.t 34) },{ d:=some 36,g:=some (24,true),k:=OpK.bin Go.BinOp.add (Opd.t 33) (Opd.t 35) },{ d:=some 37,g:=some (24,true),k:=OpK.load false 1 (Opd.t 4) },{ d:=some 38,g:=some (24,true),k:=OpK.load false 1 (Opd.t 7) },{ d:=some 39,g:=some (24,true),k:=OpK.iaddr 1 (Opd.t 37) (Opd.t 38) },{ d:=some 40,g:=some (24,true),k:=OpK.load false 1 (Opd.t 39) },{ d:=some 41,g:=some (24,true),k:=OpK.load false 1 (Opd.t 6) },{ d:=some 42,g:=some (24,true),k:=OpK.iaddr 1 (Opd.t 40) (Opd.t 41) },{ d:=some 43,g:=some (24,true),k:=OpK.load false 1 (Opd.t 42) },{ d:=some 44,g:=some (24,true),k:=OpK.bin Go.BinOp.eql (Opd.t 36) (Opd.t 43) },oN 45 (OpK.pick (Opd.t 24) (Opd.t 44) (Opd.c (AV.bool false)))]) (ACode.gh [Ghost.keep [1,2,3,4,5,6,7,8,12,13,45]] (ACode.cond (Opd.t 45) (ACode.seq (ACode.reg (some [(0,3),(3,5),(3,6),(4,5),(4,6),(5,7),(6,7)]) [oN 46 (OpK.load false 1 (Opd.t 5)),oN 47 (OpK.faddr 1 (Opd.t 8)),oN 48 (OpK.load false 1 (Opd.t 47)),oN 49 (OpK.bslice 65050 3 1 [Opd.t 48]),oN 50 (OpK.append 65051 3 1 (Opd.t 46) (Opd.t 49)),oN 51 (OpK.faddr 2 (Opd.t 8)),oN 52 (OpK.load false 1 (Opd.t 51)),{ d:=none,g:=none,k:=OpK.store 1 (Opd.t 5) (Opd.t 50) },{ d:=none,g:=none,k:=OpK.store 1 (Opd.t 6) (Opd.t 52) }]) (ACode.gh [Ghost.keep [1,2,3,4,5,6,12,13]] (ACode.exit 2))) ACode.skip))) }] }),(87003,{ base:=0,blks:=[Blk.row 97 4 (Row.gen [AV.agg (Row.gen [AV.int .i64 m,AV.int .i64 g0,AV.int .i64 g1,AV.list (.ints .i64 xs)])])] }),(87004,{ base:=0,blks:=[Blk.row 3 1 (Row.gen [.int .i64 n15])] }),(107011,{ base:=0,blks:=[Blk.row 137 1 (Row.refs 1000107 l1)] }),(1000107,{ base:=0,blks:=[],sym:=Sym.flts 118 1 Go.FloatKind.f32 l5 }),(2000065,{ base:=0,blks:=[],sym:=Sym.dfrs j24 }),(2000107,{ base:=j14,blks:=[] })]
abbrev ZcJ(m g0 g1:Int)(xs:List Int)(l1:List Nat)(l5:List (List Nat))(n13:Int)(j14:Nat)(n15 n17:Int)(l18:List Int)(n21:Int)(b22 b23:Bool)(j24:Nat)(n25 n26:Int):List AFrame×Zaa:=(Zcs m g0 g1 xs l1 l5 n13 j14 n15 n17 l18 n21 b22 b23 j24 n25 n26,ZbV m g0 g1 xs l1 l5 n13 j14 n15 n17 l18 n21 b22 b23 j24 n25 n26)
def ZG8(A:Ar)(K:KT)(F:FT)(m g0 g1:Int)(xs:List Int):Prop:=rB [Zae (A.le 0 (A.add (ZaG xs) 1)) (Zae (A.le (A.add (ZaG xs) 1) 4294967296) true),A.inR .i64 (A.add (ZaG xs) 1),decide (List.length xs≤1000000)] (K (Zjj (m) (g0) (g1) (xs) (A.int (A.lenF (A.repF (A.nat (A.add (ZaG xs) 1)) 0))) (A.repF (A.nat (A.add (ZaG xs) 1)) 0) (0) ([[]])))
theorem ZNz{A:Ar}{K:KT}{F:FT}{M:MT}{m g0 g1:Int}{xs:List Int} :Zaj A tab N5 65 K F M (.run 36 (.hd)) (ZPk m g0 g1 xs) []=ZG8 A K F m g0 g1 xs:=by kernel_rfl
def ZfU(A:Ar)(K:KT)(F:FT)(m g0 g1:Int)(xs:List Int)(n0:Int)(l1:List Nat)(n2:Int)(l3:List (List Nat)):Prop:=bB (A.lt n2 n0) (rB [A.inR .i64 (A.add n2 1),Zae (Nat.blt (A.nat n2) (A.lenF l1)) true,Zae (A.le 0 n2) (Nat.blt (A.nat n2) (A.lenF l1)),decide (ZDY (stN m)=true),decide (Zpk m=true),List.all [AV.flt Go.FloatKind.f32 3351465984] fun x=>AV.bx x&&Nat.beq (Zag A x) 1] (K (Zjj (m) (g0) (g1) (xs) (n0) (A.setF l1 (A.nat n2) (0+List.length (List.map (fun l=>Blk.row 118 1 (Row.flts Go.FloatKind.f32 l)) l3))) (A.add n2 1) (List.append l3 [List.replicate (Int.toNat (stN m)) 3351465984])))) (rB [A.inR .i64 (A.sub (ZaG xs) 1),decide (List.length xs≤1000000),Zae (Nat.blt (A.nthF l1 (A.nat (ZaG xs))) (List.length l3)) (Nat.blt (A.nat 0) (A.lenF (List.getD l3 (A.nthF l1 (A.nat (ZaG xs))) []))),Zae (Nat.blt (A.nthF l1 (A.nat (ZaG xs))) (List.length l3)) (Zae (A.le 0 0) (Nat.blt (A.nat 0) (A.lenF (List.getD l3 (A.nthF l1 (A.nat (ZaG xs))) [])))),Zae (Nat.blt (A.nat (ZaG xs)) (A.lenF l1)) true,Zae (A.le 0 (ZaG xs)) (Nat.blt (A.nat (ZaG xs)) (A.lenF l1)),decide (List.length xs≤1000000)] (K (Zj1 (m) (g0) (g1) (xs) (l1) (A.sub (ZaG xs) 1) (List.set l3 (A.nthF l1 (A.nat (ZaG xs))-0) (A.setF (List.getD l3 (A.nthF l1 (A.nat (ZaG xs))) []) (A.nat 0) 0)) (0))))
theorem ZjW{A:Ar}{K:KT}{F:FT}{M:MT}{m g0 g1:Int}{xs:List Int}{n0:Int}{l1:List Nat}{n2:Int}{l3:List (List Nat)} :Zaj A tab N5 65 K F M (.run 6 (.tf (.run 16 (.hd)) (.run 16 (.hd)))) (ZhJ m g0 g1 xs n0 l1 n2 l3) (ZfK m g0 g1 xs n0 l1 n2 l3)=ZfU A K F m g0 g1 xs n0 l1 n2 l3:=by kernel_rfl
def Zgc(A:Ar)(K:KT)(F:FT)(m g0 g1:Int)(xs:List Int)(l1:List Nat)(n4:Int)(l5:List (List Nat))(j6:Nat):Prop:=bB (A.le 0 n4) (rB [decide (Zpk m=true)] (K (Zf9 (m) (g0) (g1) (xs) (l1) (n4) (stN m) (A.le 0 n4) (A.le 0 n4) (j6+1) (0) (l5)))) (rB [decide (Zxa m xs=true)] (K (Zfc (m) (g0) (g1) (xs) (l1) (l5) (ZdO m xs) (0+List.length (List.replicate j6 Blk.dfr)) (0) (0) (0) ([]))))
theorem ZkJ{A:Ar}{K:KT}{F:FT}{M:MT}{m g0 g1:Int}{xs:List Int}{l1:List Nat}{n4:Int}{l5:List (List Nat)}{j6:Nat} :Zaj A tab N5 65 K F M (.run 7 (.tf (.run 33 (.hd)) (.run 32 (.hd)))) (ZeL m g0 g1 xs l1 n4 l5 j6) (Zdw m g0 g1 xs l1 n4 l5 j6)=Zgc A K F m g0 g1 xs l1 n4 l5 j6:=by kernel_rfl
def Zga(A:Ar)(K:KT)(F:FT)(m g0 g1:Int)(xs:List Int)(l1:List Nat)(n4 n7:Int)(b8 b9:Bool)(j10:Nat)(n11:Int)(l12:List (List Nat)):Prop:=bB (A.lt n11 n7) (K (Zf4 (m) (g0) (g1) (xs) (l1) (n4) (n7) (b8) (b9) (j10) (n11) (0) (l12))) (rB [A.inR .i64 (A.sub n4 1)] (K (Zj1 (m) (g0) (g1) (xs) (l1) (A.sub n4 1) (l12) (j10))))
theorem ZjY{A:Ar}{K:KT}{F:FT}{M:MT}{m g0 g1:Int}{xs:List Int}{l1:List Nat}{n4 n7:Int}{b8 b9:Bool}{j10:Nat}{n11:Int}{l12:List (List Nat)} :Zaj A tab N5 65 K F M (.run 6 (.tf (.run 15 (.hd)) (.run 22 (.hd)))) (Zfe m g0 g1 xs l1 n4 n7 b8 b9 j10 n11 l12) (Zdu m g0 g1 xs l1 n4 n7 b8 b9 j10 n11 l12)=Zga A K F m g0 g1 xs l1 n4 n7 b8 b9 j10 n11 l12:=by kernel_rfl
def Zib(A:Ar)(K:KT)(F:FT)(m g0 g1:Int)(xs:List Int)(l1:List Nat)(l5:List (List Nat))(n13:Int)(j14:Nat)(n15:Int)(j16:Nat)(n17:Int)(l18:List Int):Prop:=bB (A.lt n15 n13) (rB [decide (Zpk m=true)] (K (Zf6 (m) (g0) (g1) (xs) (l1) (l5) (n13) (j14) (n15) (n17) (l18) (stN m) (A.lt n15 n13) (A.lt n15 n13) (j16+1) (0)))) (rB [Zae (Option.isSome (A.f2i Go.FloatKind.f32 (A.nthF (List.getD l5 (A.nthF l1 (A.nat 0)) []) (A.nat 0)))) (A.inR .i64 (Option.getD (A.f2i Go.FloatKind.f32 (A.nthF (List.getD l5 (A.nthF l1 (A.nat 0)) []) (A.nat 0))) 0)),Zae (Nat.blt (A.nthF l1 (A.nat 0)) (List.length l5)) (Zae (Nat.blt (A.nat 0) (A.lenF (List.getD l5 (A.nthF l1 (A.nat 0)) []))) true),Zae (Nat.blt (A.nthF l1 (A.nat 0)) (List.length l5)) (Zae (A.le 0 0) (Nat.blt (A.nat 0) (A.lenF (List.getD l5 (A.nthF l1 (A.nat 0)) [])))),Zae (Nat.blt (A.nat 0) (A.lenF l1)) true,Zae (A.le 0 0) (Nat.blt (A.nat 0) (A.lenF l1))] (F (AV.tup [AV.row 0 0,AV.int .i64 (Option.getD (A.f2i Go.FloatKind.f32 (A.nthF (List.getD l5 (A.nthF l1 (A.nat 0)) []) (A.nat 0))) 0)]) (some { e:=3,sz:=1,r:=.ints .i64 l18 })))
theorem Zmj{A:Ar}{K:KT}{F:FT}{M:MT}{m g0 g1:Int}{xs:List Int}{l1:List Nat}{l5:List (List Nat)}{n13:Int}{j14:Nat}{n15:Int}{j16:Nat}{n17:Int}{l18:List Int} :Zaj A tab N5 65 K F M (.run 6 (.tf (.run 39 (.hd)) (.run 6 (.fn)))) (Zca m g0 g1 xs l1 l5 n13 j14 n15 j16 n17 l18) (ZbI m g0 g1 xs l1 l5 n13 j14 n15 j16 n17 l18)=Zib A K F m g0 g1 xs l1 l5 n13 j14 n15 j16 n17 l18:=by kernel_rfl
def ZcN(A:Ar)(K:KT)(F:FT)(m g0 g1:Int)(xs:List Int)(l1:List Nat)(n4 n7:Int)(b8 b9:Bool)(j10:Nat)(n11 n19:Int)(l20:List (List Nat)):Prop:=bB (A.lt n19 2) (qB [decide (Zxa m xs=true),A.eq n19 1] (bB (A.le (ZdO m xs) n4) (rB [A.inR .i64 (A.add n11 1)] (K (Zf9 (m) (g0) (g1) (xs) (l1) (n4) (n7) (b8) (b9) (j10) (A.add n11 1) (l20)))) (rB [Zae (Nat.blt (A.nthF l1 (A.nat n4)) (List.length l20)) (Nat.blt (A.nat n11) (A.lenF (List.getD l20 (A.nthF l1 (A.nat n4)) []))),Zae (Nat.blt (A.nthF l1 (A.nat n4)) (List.length l20)) (Zae (A.le 0 n11) (Nat.blt (A.nat n11) (A.lenF (List.getD l20 (A.nthF l1 (A.nat n4)) [])))),Option.isSome (A.ford Go.FloatKind.f32 (A.nthF (List.getD l20 (A.nthF l1 (A.nat n4)) []) (A.nat n11)) (Option.getD (A.fadd Go.FloatKind.f32 (A.nthF (List.getD l20 (A.nthF l1 (A.nat (A.add n4 1))) []) (A.nat (nxS m n11 n19))) (A.i2f Go.FloatKind.f32 (A.add (coI (A.nth [oS m g0 n11 n19,oS m g1 n11 n19] 0) (A.nth xs (A.nat (A.mul 2 n4)))) (coI (A.nth [oS m g0 n11 n19,oS m g1 n11 n19] 1) (A.nth xs (A.nat (A.add (A.mul 2 n4) 1))))))) 0)),Option.isSome (A.fadd Go.FloatKind.f32 (A.nthF (List.getD l20 (A.nthF l1 (A.nat (A.add n4 1))) []) (A.nat (nxS m n11 n19))) (A.i2f Go.FloatKind.f32 (A.add (coI (A.nth [oS m g0 n11 n19,oS m g1 n11 n19] 0) (A.nth xs (A.nat (A.mul 2 n4)))) (coI (A.nth [oS m g0 n11 n19,oS m g1 n11 n19] 1) (A.nth xs (A.nat (A.add (A.mul 2 n4) 1))))))),Zae (Nat.blt (A.nthF l1 (A.nat (A.add n4 1))) (List.length l20)) (Zae (Nat.blt (A.nat (nxS m n11 n19)) (A.lenF (List.getD l20 (A.nthF l1 (A.nat (A.add n4 1))) []))) true),Zae (Nat.blt (A.nthF l1 (A.nat (A.add n4 1))) (List.length l20)) (Zae (A.le 0 (nxS m n11 n19)) (Nat.blt (A.nat (nxS m n11 n19)) (A.lenF (List.getD l20 (A.nthF l1 (A.nat (A.add n4 1))) [])))),Zae (Nat.blt (A.nat (A.add n4 1)) (A.lenF l1)) true,Zae (A.le 0 (A.add n4 1)) (Nat.blt (A.nat (A.add n4 1)) (A.lenF l1)),A.inR .i64 (A.add n4 1),Zae (Nat.blt (A.nthF l1 (A.nat n4)) (List.length l20)) (Zae (Nat.blt (A.nat n11) (A.lenF (List.getD l20 (A.nthF l1 (A.nat n4)) []))) true),Zae (Nat.blt (A.nthF l1 (A.nat n4)) (List.length l20)) (Zae (A.le 0 n11) (Nat.blt (A.nat n11) (A.lenF (List.getD l20 (A.nthF l1 (A.nat n4)) [])))),Zae (Nat.blt (A.nat n4) (A.lenF l1)) true,Zae (A.le 0 n4) (Nat.blt (A.nat n4) (A.lenF l1)),Zae (Nat.blt (A.nat n4) (A.lenF l1)) true,Zae (A.le 0 n4) (Nat.blt (A.nat n4) (A.lenF l1)),A.inR .i64 (A.add (coI (A.nth [oS m g0 n11 n19,oS m g1 n11 n19] 0) (A.nth xs (A.nat (A.mul 2 n4)))) (coI (A.nth [oS m g0 n11 n19,oS m g1 n11 n19] 1) (A.nth xs (A.nat (A.add (A.mul 2 n4) 1))))),decide (-1000000≤A.nth xs (A.nat (A.add (A.mul 2 n4) 1))∧A.nth xs (A.nat (A.add (A.mul 2 n4) 1))≤1000000),Zae (Zae (A.le 0 (A.add (A.mul 2 n4) 1)) (Nat.blt (A.nat (A.add (A.mul 2 n4) 1)) (A.len xs))) true,A.inR .i64 (A.add (A.mul 2 n4) 1),A.inR .i64 (A.mul 2 n4),Nat.blt 1 (A.len [oS m g0 n11 n19,oS m g1 n11 n19]),decide (-1000000≤A.nth xs (A.nat (A.mul 2 n4))∧A.nth xs (A.nat (A.mul 2 n4))≤1000000),Zae (Zae (A.le 0 (A.mul 2 n4)) (Nat.blt (A.nat (A.mul 2 n4)) (A.len xs))) true,A.inR .i64 (A.mul 2 n4),Nat.blt 0 (A.len [oS m g0 n11 n19,oS m g1 n11 n19]),Nat.beq (A.len [oS m g0 n11 n19,oS m g1 n11 n19]) 2,Nat.blt 0 (A.len [0,0]),decide (ZjQ m g0 g1 n11 n19=true)] (rB [!A.not true] (rB [A.inR .i64 (A.add n19 1)] (K (Zf4 (m) (g0) (g1) (xs) (l1) (n4) (n7) (b8) (b9) (j10) (n11) (A.add n19 1) (List.set l20 (A.nthF l1 (A.nat n4)-0) (A.setF (List.getD l20 (A.nthF l1 (A.nat n4)) []) (A.nat n11) (mmF A Go.FloatKind.f32 (A.nthF (List.getD l20 (A.nthF l1 (A.nat n4)) []) (A.nat n11)) (Option.getD (A.fadd Go.FloatKind.f32 (A.nthF (List.getD l20 (A.nthF l1 (A.nat (A.add n4 1))) []) (A.nat (nxS m n11 n19))) (A.i2f Go.FloatKind.f32 (A.add (coI (A.nth [oS m g0 n11 n19,oS m g1 n11 n19] 0) (A.nth xs (A.nat (A.mul 2 n4)))) (coI (A.nth [oS m g0 n11 n19,oS m g1 n11 n19] 1) (A.nth xs (A.nat (A.add (A.mul 2 n4) 1))))))) 0)))))))))) (rB [!A.eq n19 1] (rB [Zae (Nat.blt (A.nthF l1 (A.nat n4)) (List.length l20)) (Nat.blt (A.nat n11) (A.lenF (List.getD l20 (A.nthF l1 (A.nat n4)) []))),Zae (Nat.blt (A.nthF l1 (A.nat n4)) (List.length l20)) (Zae (A.le 0 n11) (Nat.blt (A.nat n11) (A.lenF (List.getD l20 (A.nthF l1 (A.nat n4)) [])))),Option.isSome (A.ford Go.FloatKind.f32 (A.nthF (List.getD l20 (A.nthF l1 (A.nat n4)) []) (A.nat n11)) (Option.getD (A.fadd Go.FloatKind.f32 (A.nthF (List.getD l20 (A.nthF l1 (A.nat (A.add n4 1))) []) (A.nat (nxS m n11 n19))) (A.i2f Go.FloatKind.f32 (A.add (coI (A.nth [oS m g0 n11 n19,oS m g1 n11 n19] 0) (A.nth xs (A.nat (A.mul 2 n4)))) (coI (A.nth [oS m g0 n11 n19,oS m g1 n11 n19] 1) (A.nth xs (A.nat (A.add (A.mul 2 n4) 1))))))) 0)),Option.isSome (A.fadd Go.FloatKind.f32 (A.nthF (List.getD l20 (A.nthF l1 (A.nat (A.add n4 1))) []) (A.nat (nxS m n11 n19))) (A.i2f Go.FloatKind.f32 (A.add (coI (A.nth [oS m g0 n11 n19,oS m g1 n11 n19] 0) (A.nth xs (A.nat (A.mul 2 n4)))) (coI (A.nth [oS m g0 n11 n19,oS m g1 n11 n19] 1) (A.nth xs (A.nat (A.add (A.mul 2 n4) 1))))))),Zae (Nat.blt (A.nthF l1 (A.nat (A.add n4 1))) (List.length l20)) (Zae (Nat.blt (A.nat (nxS m n11 n19)) (A.lenF (List.getD l20 (A.nthF l1 (A.nat (A.add n4 1))) []))) true),Zae (Nat.blt (A.nthF l1 (A.nat (A.add n4 1))) (List.length l20)) (Zae (A.le 0 (nxS m n11 n19)) (Nat.blt (A.nat (nxS m n11 n19)) (A.lenF (List.getD l20 (A.nthF l1 (A.nat (A.add n4 1))) [])))),Zae (Nat.blt (A.nat (A.add n4 1)) (A.lenF l1)) true,Zae (A.le 0 (A.add n4 1)) (Nat.blt (A.nat (A.add n4 1)) (A.lenF l1)),A.inR .i64 (A.add n4 1),Zae (Nat.blt (A.nthF l1 (A.nat n4)) (List.length l20)) (Zae (Nat.blt (A.nat n11) (A.lenF (List.getD l20 (A.nthF l1 (A.nat n4)) []))) true),Zae (Nat.blt (A.nthF l1 (A.nat n4)) (List.length l20)) (Zae (A.le 0 n11) (Nat.blt (A.nat n11) (A.lenF (List.getD l20 (A.nthF l1 (A.nat n4)) [])))),Zae (Nat.blt (A.nat n4) (A.lenF l1)) true,Zae (A.le 0 n4) (Nat.blt (A.nat n4) (A.lenF l1)),Zae (Nat.blt (A.nat n4) (A.lenF l1)) true,Zae (A.le 0 n4) (Nat.blt (A.nat n4) (A.lenF l1)),A.inR .i64 (A.add (coI (A.nth [oS m g0 n11 n19,oS m g1 n11 n19] 0) (A.nth xs (A.nat (A.mul 2 n4)))) (coI (A.nth [oS m g0 n11 n19,oS m g1 n11 n19] 1) (A.nth xs (A.nat (A.add (A.mul 2 n4) 1))))),decide (-1000000≤A.nth xs (A.nat (A.add (A.mul 2 n4) 1))∧A.nth xs (A.nat (A.add (A.mul 2 n4) 1))≤1000000),Zae (Zae (A.le 0 (A.add (A.mul 2 n4) 1)) (Nat.blt (A.nat (A.add (A.mul 2 n4) 1)) (A.len xs))) true,A.inR .i64 (A.add (A.mul 2 n4) 1),A.inR .i64 (A.mul 2 n4),Nat.blt 1 (A.len [oS m g0 n11 n19,oS m g1 n11 n19]),decide (-1000000≤A.nth xs (A.nat (A.mul 2 n4))∧A.nth xs (A.nat (A.mul 2 n4))≤1000000),Zae (Zae (A.le 0 (A.mul 2 n4)) (Nat.blt (A.nat (A.mul 2 n4)) (A.len xs))) true,A.inR .i64 (A.mul 2 n4),Nat.blt 0 (A.len [oS m g0 n11 n19,oS m g1 n11 n19]),Nat.beq (A.len [oS m g0 n11 n19,oS m g1 n11 n19]) 2,Nat.blt 0 (A.len [0,0]),decide (ZjQ m g0 g1 n11 n19=true)] (rB [!A.not true] (rB [A.inR .i64 (A.add n19 1)] (K (Zf4 (m) (g0) (g1) (xs) (l1) (n4) (n7) (b8) (b9) (j10) (n11) (A.add n19 1) (List.set l20 (A.nthF l1 (A.nat n4)-0) (A.setF (List.getD l20 (A.nthF l1 (A.nat n4)) []) (A.nat n11) (mmF A Go.FloatKind.f32 (A.nthF (List.getD l20 (A.nthF l1 (A.nat n4)) []) (A.nat n11)) (Option.getD (A.fadd Go.FloatKind.f32 (A.nthF (List.getD l20 (A.nthF l1 (A.nat (A.add n4 1))) []) (A.nat (nxS m n11 n19))) (A.i2f Go.FloatKind.f32 (A.add (coI (A.nth [oS m g0 n11 n19,oS m g1 n11 n19] 0) (A.nth xs (A.nat (A.mul 2 n4)))) (coI (A.nth [oS m g0 n11 n19,oS m g1 n11 n19] 1) (A.nth xs (A.nat (A.add (A.mul 2 n4) 1))))))) 0))))))))))) (rB [A.inR .i64 (A.add n11 1)] (K (Zf9 (m) (g0) (g1) (xs) (l1) (n4) (n7) (b8) (b9) (j10) (A.add n11 1) (l20))))
theorem ZkG{A:Ar}{K:KT}{F:FT}{M:MT}{m g0 g1:Int}{xs:List Int}{l1:List Nat}{n4 n7:Int}{b8 b9:Bool}{j10:Nat}{n11 n19:Int}{l20:List (List Nat)} :Zaj A tab N5 65 K F M (.run 6 (.tf (.run 10 (.tf (.run 1 (.tf (.run 8 (.hd)) (.run 41 (.fy (.run 8 (.hd)))))) (.run 1 (.fy (.run 41 (.fy (.run 8 (.hd)))))))) (.run 8 (.hd)))) (Zdc m g0 g1 xs l1 n4 n7 b8 b9 j10 n11 n19 l20) (ZcO m g0 g1 xs l1 n4 n7 b8 b9 j10 n11 n19 l20)=ZcN A K F m g0 g1 xs l1 n4 n7 b8 b9 j10 n11 n19 l20:=by kernel_rfl
def ZfR(A:Ar)(K:KT)(F:FT)(m g0 g1:Int)(xs:List Int)(l1:List Nat)(l5:List (List Nat))(n13:Int)(j14:Nat)(n15 n17:Int)(l18:List Int)(n21:Int)(b22 b23:Bool)(j24:Nat)(n25:Int):Prop:=bB (A.lt n25 n21) (K (ZcJ (m) (g0) (g1) (xs) (l1) (l5) (n13) (j14) (n15) (n17) (l18) (n21) (b22) (b23) (j24) (n25) (0))) (rB [A.inR .i64 (A.add n15 1)] (K (Zfc (m) (g0) (g1) (xs) (l1) (l5) (n13) (j14) (A.add n15 1) (j24) (n17) (l18))))
theorem Zj5{A:Ar}{K:KT}{F:FT}{M:MT}{m g0 g1:Int}{xs:List Int}{l1:List Nat}{l5:List (List Nat)}{n13:Int}{j14:Nat}{n15 n17:Int}{l18:List Int}{n21:Int}{b22 b23:Bool}{j24:Nat}{n25:Int} :Zaj A tab N5 65 K F M (.run 6 (.tf (.run 15 (.hd)) (.run 12 (.hd)))) (Zhu m g0 g1 xs l1 l5 n13 j14 n15 n17 l18 n21 b22 b23 j24 n25) (ZfL m g0 g1 xs l1 l5 n13 j14 n15 n17 l18 n21 b22 b23 j24 n25)=ZfR A K F m g0 g1 xs l1 l5 n13 j14 n15 n17 l18 n21 b22 b23 j24 n25:=by kernel_rfl
def Zbj(A:Ar)(K:KT)(F:FT)(m g0 g1:Int)(xs:List Int)(l1:List Nat)(l5:List (List Nat))(n13:Int)(j14:Nat)(n15 n17:Int)(l18:List Int)(n21:Int)(b22 b23:Bool)(j24:Nat)(n25 n26:Int):Prop:=bB (A.lt n26 2) (qB [decide (Zxa m xs=true),A.eq n26 1] (bB (A.le (ZdO m xs) n15) (rB [A.inR .i64 (A.add n25 1)] (K (Zf6 (m) (g0) (g1) (xs) (l1) (l5) (n13) (j14) (n15) (n17) (l18) (n21) (b22) (b23) (j24) (A.add n25 1)))) (rB [A.inR .i64 (A.add (coI (A.nth [oS m g0 n25 n26,oS m g1 n25 n26] 0) (A.nth xs (A.nat (A.mul 2 n15)))) (coI (A.nth [oS m g0 n25 n26,oS m g1 n25 n26] 1) (A.nth xs (A.nat (A.add (A.mul 2 n15) 1))))),decide (-1000000≤A.nth xs (A.nat (A.add (A.mul 2 n15) 1))∧A.nth xs (A.nat (A.add (A.mul 2 n15) 1))≤1000000),Zae (Zae (A.le 0 (A.add (A.mul 2 n15) 1)) (Nat.blt (A.nat (A.add (A.mul 2 n15) 1)) (A.len xs))) true,A.inR .i64 (A.add (A.mul 2 n15) 1),A.inR .i64 (A.mul 2 n15),Nat.blt 1 (A.len [oS m g0 n25 n26,oS m g1 n25 n26]),decide (-1000000≤A.nth xs (A.nat (A.mul 2 n15))∧A.nth xs (A.nat (A.mul 2 n15))≤1000000),Zae (Zae (A.le 0 (A.mul 2 n15)) (Nat.blt (A.nat (A.mul 2 n15)) (A.len xs))) true,A.inR .i64 (A.mul 2 n15),Nat.blt 0 (A.len [oS m g0 n25 n26,oS m g1 n25 n26]),Nat.beq (A.len [oS m g0 n25 n26,oS m g1 n25 n26]) 2,Nat.blt 0 (A.len [0,0]),decide (ZjQ m g0 g1 n25 n26=true)] (qB [Zae (Nat.blt (A.nthF l1 (A.nat n15)) (List.length l5)) (Zae (Nat.blt (A.nat n17) (A.lenF (List.getD l5 (A.nthF l1 (A.nat n15)) []))) true),Zae (Nat.blt (A.nthF l1 (A.nat n15)) (List.length l5)) (Zae (A.le 0 n17) (Nat.blt (A.nat n17) (A.lenF (List.getD l5 (A.nthF l1 (A.nat n15)) [])))),Zae (Nat.blt (A.nat n15) (A.lenF l1)) true,Zae (A.le 0 n15) (Nat.blt (A.nat n15) (A.lenF l1)),Option.isSome (A.fadd Go.FloatKind.f32 (A.nthF (List.getD l5 (A.nthF l1 (A.nat (A.add n15 1))) []) (A.nat (nxS m n25 n26))) (A.i2f Go.FloatKind.f32 (A.add (coI (A.nth [oS m g0 n25 n26,oS m g1 n25 n26] 0) (A.nth xs (A.nat (A.mul 2 n15)))) (coI (A.nth [oS m g0 n25 n26,oS m g1 n25 n26] 1) (A.nth xs (A.nat (A.add (A.mul 2 n15) 1))))))),Zae (Nat.blt (A.nthF l1 (A.nat (A.add n15 1))) (List.length l5)) (Zae (Nat.blt (A.nat (nxS m n25 n26)) (A.lenF (List.getD l5 (A.nthF l1 (A.nat (A.add n15 1))) []))) true),Zae (Nat.blt (A.nthF l1 (A.nat (A.add n15 1))) (List.length l5)) (Zae (A.le 0 (nxS m n25 n26)) (Nat.blt (A.nat (nxS m n25 n26)) (A.lenF (List.getD l5 (A.nthF l1 (A.nat (A.add n15 1))) [])))),Zae (Nat.blt (A.nat (A.add n15 1)) (A.lenF l1)) true,Zae (A.le 0 (A.add n15 1)) (Nat.blt (A.nat (A.add n15 1)) (A.lenF l1)),A.inR .i64 (A.add n15 1),A.eq n25 n17] (qB [asB true  (match A.ford Go.FloatKind.f32 (Option.getD (A.fadd Go.FloatKind.f32 (A.nthF (List.getD l5 (A.nthF l1 (A.nat (A.add n15 1))) []) (A.nat (nxS m n25 n26))) (A.i2f Go.FloatKind.f32 (A.add (coI (A.nth [oS m g0 n25 n26,oS m g1 n25 n26] 0) (A.nth xs (A.nat (A.mul 2 n15)))) (coI (A.nth [oS m g0 n25 n26,oS m g1 n25 n26] 1) (A.nth xs (A.nat (A.add (A.mul 2 n15) 1))))))) 0) (A.nthF (List.getD l5 (A.nthF l1 (A.nat n15)) []) (A.nat n17)),some Ordering.eq with  |none,none=>true  |some a,some b=>a==b  |x,x_1=>false)] (rB [Nat.ble (A.len l18+A.len [n26]) 4294967296,List.all [AV.int .i64 n26] fun x=>AV.bx x&&Nat.beq (Zag A x) 1] (rB [A.not false] (rB [A.inR .i64 (A.add n15 1)] (K (Zfc (m) (g0) (g1) (xs) (l1) (l5) (n13) (j14) (A.add n15 1) (j24) (nxS m n25 n26) (A.app l18 [n26])))))) (rB [!match A.ford Go.FloatKind.f32 (Option.getD (A.fadd Go.FloatKind.f32 (A.nthF (List.getD l5 (A.nthF l1 (A.nat (A.add n15 1))) []) (A.nat (nxS m n25 n26))) (A.i2f Go.FloatKind.f32 (A.add (coI (A.nth [oS m g0 n25 n26,oS m g1 n25 n26] 0) (A.nth xs (A.nat (A.mul 2 n15)))) (coI (A.nth [oS m g0 n25 n26,oS m g1 n25 n26] 1) (A.nth xs (A.nat (A.add (A.mul 2 n15) 1))))))) 0) (A.nthF (List.getD l5 (A.nthF l1 (A.nat n15)) []) (A.nat n17)),some Ordering.eq with  |none,none=>true  |some a,some b=>a==b  |x,x_1=>false] (rB [!A.not true] (rB [A.inR .i64 (A.add n26 1)] (K (ZcJ (m) (g0) (g1) (xs) (l1) (l5) (n13) (j14) (n15) (n17) (l18) (n21) (b22) (b23) (j24) (n25) (A.add n26 1))))))) (rB [!A.eq n25 n17] (rB [!A.not true] (rB [A.inR .i64 (A.add n26 1)] (K (ZcJ (m) (g0) (g1) (xs) (l1) (l5) (n13) (j14) (n15) (n17) (l18) (n21) (b22) (b23) (j24) (n25) (A.add n26 1))))))))) (rB [!A.eq n26 1] (rB [A.inR .i64 (A.add (coI (A.nth [oS m g0 n25 n26,oS m g1 n25 n26] 0) (A.nth xs (A.nat (A.mul 2 n15)))) (coI (A.nth [oS m g0 n25 n26,oS m g1 n25 n26] 1) (A.nth xs (A.nat (A.add (A.mul 2 n15) 1))))),decide (-1000000≤A.nth xs (A.nat (A.add (A.mul 2 n15) 1))∧A.nth xs (A.nat (A.add (A.mul 2 n15) 1))≤1000000),Zae (Zae (A.le 0 (A.add (A.mul 2 n15) 1)) (Nat.blt (A.nat (A.add (A.mul 2 n15) 1)) (A.len xs))) true,A.inR .i64 (A.add (A.mul 2 n15) 1),A.inR .i64 (A.mul 2 n15),Nat.blt 1 (A.len [oS m g0 n25 n26,oS m g1 n25 n26]),decide (-1000000≤A.nth xs (A.nat (A.mul 2 n15))∧A.nth xs (A.nat (A.mul 2 n15))≤1000000),Zae (Zae (A.le 0 (A.mul 2 n15)) (Nat.blt (A.nat (A.mul 2 n15)) (A.len xs))) true,A.inR .i64 (A.mul 2 n15),Nat.blt 0 (A.len [oS m g0 n25 n26,oS m g1 n25 n26]),Nat.beq (A.len [oS m g0 n25 n26,oS m g1 n25 n26]) 2,Nat.blt 0 (A.len [0,0]),decide (ZjQ m g0 g1 n25 n26=true)] (qB [Zae (Nat.blt (A.nthF l1 (A.nat n15)) (List.length l5)) (Zae (Nat.blt (A.nat n17) (A.lenF (List.getD l5 (A.nthF l1 (A.nat n15)) []))) true),Zae (Nat.blt (A.nthF l1 (A.nat n15)) (List.length l5)) (Zae (A.le 0 n17) (Nat.blt (A.nat n17) (A.lenF (List.getD l5 (A.nthF l1 (A.nat n15)) [])))),Zae (Nat.blt (A.nat n15) (A.lenF l1)) true,Zae (A.le 0 n15) (Nat.blt (A.nat n15) (A.lenF l1)),Option.isSome (A.fadd Go.FloatKind.f32 (A.nthF (List.getD l5 (A.nthF l1 (A.nat (A.add n15 1))) []) (A.nat (nxS m n25 n26))) (A.i2f Go.FloatKind.f32 (A.add (coI (A.nth [oS m g0 n25 n26,oS m g1 n25 n26] 0) (A.nth xs (A.nat (A.mul 2 n15)))) (coI (A.nth [oS m g0 n25 n26,oS m g1 n25 n26] 1) (A.nth xs (A.nat (A.add (A.mul 2 n15) 1))))))),Zae (Nat.blt (A.nthF l1 (A.nat (A.add n15 1))) (List.length l5)) (Zae (Nat.blt (A.nat (nxS m n25 n26)) (A.lenF (List.getD l5 (A.nthF l1 (A.nat (A.add n15 1))) []))) true),Zae (Nat.blt (A.nthF l1 (A.nat (A.add n15 1))) (List.length l5)) (Zae (A.le 0 (nxS m n25 n26)) (Nat.blt (A.nat (nxS m n25 n26)) (A.lenF (List.getD l5 (A.nthF l1 (A.nat (A.add n15 1))) [])))),Zae (Nat.blt (A.nat (A.add n15 1)) (A.lenF l1)) true,Zae (A.le 0 (A.add n15 1)) (Nat.blt (A.nat (A.add n15 1)) (A.lenF l1)),A.inR .i64 (A.add n15 1),A.eq n25 n17] (qB [asB true  (match A.ford Go.FloatKind.f32 (Option.getD (A.fadd Go.FloatKind.f32 (A.nthF (List.getD l5 (A.nthF l1 (A.nat (A.add n15 1))) []) (A.nat (nxS m n25 n26))) (A.i2f Go.FloatKind.f32 (A.add (coI (A.nth [oS m g0 n25 n26,oS m g1 n25 n26] 0) (A.nth xs (A.nat (A.mul 2 n15)))) (coI (A.nth [oS m g0 n25 n26,oS m g1 n25 n26] 1) (A.nth xs (A.nat (A.add (A.mul 2 n15) 1))))))) 0) (A.nthF (List.getD l5 (A.nthF l1 (A.nat n15)) []) (A.nat n17)),some Ordering.eq with  |none,none=>true  |some a,some b=>a==b  |x,x_1=>false)] (rB [Nat.ble (A.len l18+A.len [n26]) 4294967296,List.all [AV.int .i64 n26] fun x=>AV.bx x&&Nat.beq (Zag A x) 1] (rB [A.not false] (rB [A.inR .i64 (A.add n15 1)] (K (Zfc (m) (g0) (g1) (xs) (l1) (l5) (n13) (j14) (A.add n15 1) (j24) (nxS m n25 n26) (A.app l18 [n26])))))) (rB [!match A.ford Go.FloatKind.f32 (Option.getD (A.fadd Go.FloatKind.f32 (A.nthF (List.getD l5 (A.nthF l1 (A.nat (A.add n15 1))) []) (A.nat (nxS m n25 n26))) (A.i2f Go.FloatKind.f32 (A.add (coI (A.nth [oS m g0 n25 n26,oS m g1 n25 n26] 0) (A.nth xs (A.nat (A.mul 2 n15)))) (coI (A.nth [oS m g0 n25 n26,oS m g1 n25 n26] 1) (A.nth xs (A.nat (A.add (A.mul 2 n15) 1))))))) 0) (A.nthF (List.getD l5 (A.nthF l1 (A.nat n15)) []) (A.nat n17)),some Ordering.eq with  |none,none=>true  |some a,some b=>a==b  |x,x_1=>false] (rB [!A.not true] (rB [A.inR .i64 (A.add n26 1)] (K (ZcJ (m) (g0) (g1) (xs) (l1) (l5) (n13) (j14) (n15) (n17) (l18) (n21) (b22) (b23) (j24) (n25) (A.add n26 1))))))) (rB [!A.eq n25 n17] (rB [!A.not true] (rB [A.inR .i64 (A.add n26 1)] (K (ZcJ (m) (g0) (g1) (xs) (l1) (l5) (n13) (j14) (n15) (n17) (l18) (n21) (b22) (b23) (j24) (n25) (A.add n26 1)))))))))) (rB [A.inR .i64 (A.add n25 1)] (K (Zf6 (m) (g0) (g1) (xs) (l1) (l5) (n13) (j14) (n15) (n17) (l18) (n21) (b22) (b23) (j24) (A.add n25 1))))
theorem Zgb{A:Ar}{K:KT}{F:FT}{M:MT}{m g0 g1:Int}{xs:List Int}{l1:List Nat}{l5:List (List Nat)}{n13:Int}{j14:Nat}{n15 n17:Int}{l18:List Int}{n21:Int}{b22 b23:Bool}{j24:Nat}{n25 n26:Int} :Zaj A tab N5 65 K F M (.run 6 (.tf (.run 10 (.tf (.run 1 (.tf (.run 8 (.hd)) (.run 36 (.tf (.run 1 (.tf (.run 7 (.ty (.run 11 (.hd)))) (.run 6 (.fy (.run 8 (.hd)))))) (.run 1 (.fy (.run 6 (.fy (.run 8 (.hd)))))))))) (.run 1 (.fy (.run 36 (.tf (.run 1 (.tf (.run 7 (.ty (.run 11 (.hd)))) (.run 6 (.fy (.run 8 (.hd)))))) (.run 1 (.fy (.run 6 (.fy (.run 8 (.hd)))))))))))) (.run 8 (.hd)))) (Zcs m g0 g1 xs l1 l5 n13 j14 n15 n17 l18 n21 b22 b23 j24 n25 n26) (ZbV m g0 g1 xs l1 l5 n13 j14 n15 n17 l18 n21 b22 b23 j24 n25 n26)=Zbj A K F m g0 g1 xs l1 l5 n13 j14 n15 n17 l18 n21 b22 b23 j24 n25 n26:=by kernel_rfl
end Go.Proofs.Ytklbmkllepkjcaa
/- Contracts as a list. No condition. -/
namespace Go.Proofs.Ytklbmkllepkjcaa
section
variable (m p q:Int)(so:List Int)
def upP(D:List Int)(t:Nat)(s:Nat)(b:Int)(cur:Int):Int:=max cur (D.getD (nxS m s b).toNat 0+gnI m p q so t s b)
def ZrC(D:List Int)(t s:Nat):Int:=if t<Zb4 m so then upP m p q so D t s 1 (upP m p q so D t s 0 (-100000))else upP m p q so D t s 0 (-100000)
def dpP:Nat→List Int
 |0=>(List.range (stS m)).map fun s=>if s=0 then 0 else -100000
 |n+1=>(List.range (stS m)).map fun s=>ZrC m p q so (dpP n) (Zac so-1-n) s
def tbP:Nat→Nat→Nat→List Int
 |0,_,_=>[]
 |j+1,t,s=>
  if(dpP m p q so (Zac so-t-1)).getD (nxS m s 0).toNat 0+gnI m p q so t s 0=(dpP m p q so (Zac so-t)).getD s 0 then 0::tbP j (t+1) (nxS m s 0).toNat
  else if(dpP m p q so (Zac so-t-1)).getD (nxS m s 1).toNat 0+gnI m p q so t s 1=(dpP m p q so (Zac so-t)).getD s 0 then 1::tbP j (t+1) (nxS m s 1).toNat
  else tbP j (t+1) s
theorem Zhl(n:Nat):(dpP m p q so n).length=stS m:=by cases n<;>simp[dpP]
theorem ZmN{s:Nat}(h:s<stS m):(dpP m p q so 0).getD s 0=if s=0 then 0 else -100000:=by
 rw[dpP,List.getD_eq_getElem?_getD,List.getElem?_map,List.getElem?_range h];rfl
theorem Zm9{n s:Nat}(h:s<stS m):(dpP m p q so (n+1)).getD s 0=ZrC m p q so (dpP m p q so n) (Zac so-1-n) s:=by
 rw[dpP,List.getD_eq_getElem?_getD,List.getElem?_map,List.getElem?_range h];rfl
end
def Way(n:Nat)(a b:Int):Prop:=(a= -2000000∧ -100000≤b∧b≤ -100000+14*n)∨(-14*n≤a∧b=a)
theorem ZAa{m p q:Int}{so D E:List Int}{n:Nat}(hn:n≤303)(hg:ZaP so (-7) 7=0)(t s:Nat)(b:Int)(hD:Way n (D.getD (nxS m s b).toNat 0) (E.getD (nxS m s b).toNat 0)){x y:Int}(hc:Way (n+1) x y):Way (n+1) (upR m p q so D t s b x) (upP m p q so E t s b y):=by
 have h1:=Zh5 (m:=m) (p:=p) (q:=q) hg t s b
 unfold upR upP Way at*
 split<;>omega
theorem ZDr{m p q:Int}{so:List Int}(h:OkC m p q so){n:Nat}(hn:n<Zac so)(t:Nat){s:Nat}(hs:s<stS m){D E:List Int}(hD:∀s,s<stS m→Way n (D.getD s 0) (E.getD s 0)):Way (n+1) (ZAs m p q so D t s) (ZrC m p q so E t s):=by
 obtain⟨hg,_,hl2,hl3⟩:=h.soft
 have hn':n≤303:=by unfold Zac at hn;omega
 have h0:Way (n+1) (upR m p q so D t s 0 (-2000000)) (upP m p q so E t s 0 (-100000)):=ZAa hn' hg t s 0 (hD _ (Zbt h hs (Or.inl rfl)).2.2) (Or.inl ⟨rfl,by omega,by omega⟩)
 unfold ZAs ZrC
 split
 ·exact ZAa hn' hg t s 1 (hD _ (Zbt h hs (Or.inr rfl)).2.2) h0
 ·exact h0
theorem ZgH{m p q:Int}{so:List Int}(h:OkC m p q so):∀n:Nat,n≤Zac so→∀s,s<stS m→Way n ((dpR m p q so n).getD s 0) ((dpP m p q so n).getD s 0)
 |0,_,s,hs=>by
  rw[ZmI m p q so hs,ZmN m p q so hs]
  unfold Way;split<;>omega
 |n+1,hn,s,hs=>by
  rw[Zgm m p q so hs,Zm9 m p q so hs]
  exact ZDr h (by omega) _ hs (ZgH h n (by omega))
theorem Zv5{m:Int}(hm:m=1∨m=2∨m=3):(nxS m (0:Nat) 0).toNat=0:=by
 rcases hm with rfl |rfl |rfl<;>decide
theorem ZfW{m p q:Int}{so:List Int}(h:OkC m p q so):∀n:Nat,n≤Zac so→ -14*(n:Int)≤(dpR m p q so n).getD 0 0
 |0,_=>by
  have h2:=Zbg (Zap h.cv).1
  rw[ZmI m p q so (by omega)];simp
 |n+1,hn=>by
  have h2:=Zbg (Zap h.cv).1
  obtain⟨hg,_,hl2,hl3⟩:=h.soft
  have ih:=ZfW h n (by omega)
  have hgl:=Zh5 (m:=m) (p:=p) (q:=q) hg (Zac so-1-n) (0:Nat) 0
  have h0: -14*((n+1:Nat):Int)≤upR m p q so (dpR m p q so n) (Zac so-1-n) 0 0 (-2000000):=by
   unfold upR
   rw[Zv5 (Zap h.cv).1]
   have:Zac so≤303:=by unfold Zac;omega
   rw[if_pos (by omega)];omega
  rw[Zgm m p q so (by omega),ZAs]
  split
  ·unfold upR at h0 ⊢;split<;>omega
  ·exact h0
theorem Zr5{n:Nat}{a0 A0 a1 A1 x X g0 g1:Int}(hn:n≤303)(w:Way (n+1) x X)(w0:Way n a0 A0)(w1:Way n a1 A1)(hg0: -14≤g0∧g0≤14)(hg1: -14≤g1∧g1≤14)(hw: -14*((n+1:Nat):Int)≤x)
 (e:x=if -1000000<a1 then max (if -1000000<a0 then max (-2000000) (a0+g0)else -2000000) (a1+g1)else if -1000000<a0 then max (-2000000) (a0+g0)else -2000000):
 (A0+g0=X↔a0+g0=x)∧(a0+g0=x→ -14*(n:Int)≤a0)∧(¬a0+g0=x→A1+g1=X∧ -14*(n:Int)≤a1):=by
 unfold Way at*
 split at e<;>split at e<;>refine⟨⟨fun h=>?_,fun h=>?_⟩,fun h=>?_,fun h=>⟨?_,?_⟩⟩<;>omega
theorem Zwo{m p q:Int}{so:List Int}(h:OkC m p q so):∀(j t s:Nat),t+j=Zb4 m so→s<stS m→ -14*((Zac so-t:Nat):Int)≤(dpR m p q so (Zac so-t)).getD s 0→tbP m p q so j t s=tbR m p q so j t s
 |0,t,s,_,_,_=>rfl
 |j+1,t,s,ht,hs,hw=>by
  have hm:=(Zap h.cv).1
  obtain⟨hg,_,hl2,hl3⟩:=h.soft
  have hb:Zb4 m so≤Zac so∧Zac so≤303:=by unfold Zac Zb4;omega
  have hg0:=Zh5 (m:=m) (p:=p) (q:=q) hg t s 0
  have hg1:=Zh5 (m:=m) (p:=p) (q:=q) hg t s 1
  obtain⟨_,a2,a3⟩:=Zbt h hs (b:=0) (Or.inl rfl)
  obtain⟨_,b2,b3⟩:=Zbt h hs (b:=1) (Or.inr rfl)
  obtain⟨n,hn⟩:∃n,Zac so-t=n+1:=⟨Zac so-t-1,by omega⟩
  have hn1:Zac so-t-1=n:=by omega
  have w:=ZgH h (n+1) (by omega) s hs
  have w0:=ZgH h n (by omega) _ a3
  have w1:=ZgH h n (by omega) _ b3
  have e0:=Zgm m p q so hs (n:=n)
  rw[show Zac so-1-n=t by omega,ZAs,if_pos (by omega),upR,upR]at e0
  have i0:=Zwo h j (t+1) (nxS m s 0).toNat (by omega) a3
  have i1:=Zwo h j (t+1) (nxS m s 1).toNat (by omega) b3
  rw[show Zac so-(t+1)=n by omega]at i0 i1
  have c0:((nxS m s 0).toNat:Int)=nxS m s 0:=Int.toNat_of_nonneg a2
  have c1:((nxS m s 1).toNat:Int)=nxS m s 1:=Int.toNat_of_nonneg b2
  rw[c0]at i0;rw[c1]at i1
  rw[hn]at hw
  obtain⟨r1,r2,r3⟩:=Zr5 (by omega) w w0 w1 hg0 hg1 hw e0
  rw[tbP,tbR,hn1,hn,Int.toNat_natCast]
  by_cases hq:(dpR m p q so n).getD (nxS m s 0).toNat 0+gnI m p q so t s 0=(dpR m p q so (n+1)).getD s 0
  ·rw[if_pos (r1.2 hq),if_pos hq,i0 (r2 hq)]
  ·rw[if_neg (fun e=>hq (r1.1 e)),if_neg hq,if_pos (r3 hq).1,i1 (r3 hq).2]
theorem ZmC{m p q:Int}{so:List Int}(h:OkC m p q so):tbP m p q so (Zb4 m so) 0 0=blI m p q so∧(dpP m p q so (Zac so)).getD 0 0=bvI m p q so:=by
 have h2:=Zbg (Zap h.cv).1
 have hz:=ZfW h (Zac so) (Nat.le_refl _)
 refine⟨Zwo h _ 0 0 (by omega) (by omega) (by simpa using hz),?_⟩
 have w:=ZgH h (Zac so) (Nat.le_refl _) 0 (by omega)
 obtain⟨hg,_,hl2,hl3⟩:=h.soft
 have:Zac so≤303:=by unfold Zac;omega
 unfold bvI
 unfold Way at w
 omega
end Go.Proofs.Ytklbmkllepkjcaa
/- Whole numbers below 2^24 in single precision. No condition. -/
namespace Go.Proofs.Ytklbmkllepkjcaa
open Ieee
theorem Zbm(n:Nat):1≤2^n:=Nat.one_le_two_pow
theorem Zxb(w:Toward)(s:Bool)(n:Nat):w.cut s n 0=n:=by
 unfold Toward.cut
 simp only[Nat.zero_min,Nat.shiftLeft_zero,Nat.div_one,Nat.mod_one,Nat.mul_zero]
 cases w<;>simp
theorem Zl3{m:Nat}(k:Nat)(h:0<m):(m*2^k).log2=m.log2+k:=by
 have h2:m*2^k≠0:=by have:=Zbm k;have:=Nat.mul_le_mul h this;omega
 apply Nat.le_antisymm
 ·have:(m*2^k).log2<m.log2+k+1:=by
   rw[Nat.log2_lt h2,show m.log2+k+1=(m.log2+1)+k by omega,Nat.pow_add]
   exact Nat.mul_lt_mul_of_pos_right ((Nat.log2_lt (by omega)).1 (by omega)) (Zbm k)
  omega
 ·rw[Nat.le_log2 h2,Nat.pow_add]
  exact Nat.mul_le_mul_right _ ((Nat.le_log2 (by omega)).1 (Nat.le_refl _))
theorem Zvx(w:Toward)(s:Bool)(m d:Nat):w.cut s (m*2^d) d=m:=by
 rcases Nat.eq_zero_or_pos m with rfl |h
 ·unfold Toward.cut
  simp only[Nat.zero_mul,Nat.zero_div,Nat.zero_mod,Nat.mul_zero]
  cases w<;>simp<;>(try (rw [Nat.shiftLeft_eq];have:=Zbm (min d (0+2));omega))
 ·unfold Toward.cut
  have h1:min d ((m*2^d).log2+2)=d:=by rw[Zl3 d h];omega
  have h3:=Zbm d
  simp only[h1,Nat.shiftLeft_eq,Nat.one_mul,Nat.mul_div_cancel _ h3,Nat.mul_mod_left,Nat.mul_zero]
  cases w<;>simp<;>omega
theorem Zpt{s:Bool}{m K:Nat}(h:m≠0)(h2:m<2^24):single.nearest s (m*2^K) (-(K:Int))=single.word s ((126+m.log2)*2^23+m*2^(23-m.log2)):=by
 have hL:m.log2<24:=(Nat.log2_lt h).2 h2
 have hm:m*2^K≠0:=by have:=Nat.mul_le_mul (Nat.pos_of_ne_zero h) (Zbm K);omega
 have hlast:max (-(K:Int)+(m*2^K).log2-single.fractionBits) single.leastPlace=(m.log2:Int)-23:=by
  rw[Zl3 K (Nat.pos_of_ne_zero h)]
  show max (-(K:Int)+((m.log2+K:Nat):Int)-23) (-149)=_
  omega
 unfold Format.nearest
 rw[if_neg hm]
 simp only[hlast]
 have hk:m*2^(23-m.log2)<2^24:=by
  have h5:2^24=2^(m.log2+1)*2^(23-m.log2):=by rw[←Nat.pow_add];congr 1;omega
  rw[h5]
  exact Nat.mul_lt_mul_of_pos_right ((Nat.log2_lt h).1 (by omega)) (Zbm _)
 have hc:Toward.even.cut s ((m*2^K) <<< (-(K:Int)-((m.log2:Int)-23)).toNat) ((m.log2:Int)-23- -(K:Int)).toNat=m*2^(23-m.log2):=by
  rcases Nat.le_total (23-m.log2) K with hK |hK
  ·rw[show (-(K:Int)-((m.log2:Int)-23)).toNat=0 by omega,Nat.shiftLeft_zero,show((m.log2:Int)-23- -(K:Int)).toNat=K-(23-m.log2) by omega]
   have:m*2^K=m*2^(23-m.log2)*2^(K-(23-m.log2)):=by rw[Nat.mul_assoc,←Nat.pow_add];congr 2;omega
   rw[this,Zvx]
  ·rw[show ((m.log2:Int)-23- -(K:Int)).toNat=0 by omega,Zxb,Nat.shiftLeft_eq,show(-(K:Int)-((m.log2:Int)-23)).toNat=23-m.log2-K by omega,Nat.mul_assoc,←Nat.pow_add]
   congr 2;omega
 rw[hc]
 congr 1
 show min (((m.log2:Int)-23- -149).toNat*2^23+m*2^(23-m.log2)) (255*2^23)=_
 rw[show ((m.log2:Int)-23- -149).toNat=126+m.log2 by omega]
 have:(126+m.log2)*2^23≤149*2^23:=Nat.mul_le_mul_right _ (by omega)
 omega
def wN(n:Int):Nat:=FloatKind.nearest .f32 n
theorem ZwU(s:Bool)(m K:Nat)(h2:m<2^24):single.nearest s (m*2^K) (-(K:Int))=single.nearest s m 0:=by
 by_cases h:m=0
 ·subst h;rw[Nat.zero_mul];unfold Format.nearest;rw[if_pos rfl,if_pos rfl]
 ·rw[Zpt h h2]
  have:=Zpt (s:=s) (m:=m) (K:=0) h h2
  simpa using this.symm
theorem Zwf{s:Bool}{m:Nat}(h:m≠0)(h2:m<2^24):single.read (single.nearest s m 0)=.number s (m*2^(23-m.log2)) (-((23-m.log2:Nat):Int)):=by
 have h1:=Zpt (s:=s) (m:=m) (K:=0) h h2
 rw[Nat.pow_zero,Nat.mul_one,show -((0:Nat):Int)=0 from rfl]at h1
 rw[h1]
 have hL:m.log2<24:=(Nat.log2_lt h).2 h2
 generalize hL':m.log2=L at*
 have hk:m*2^(23-L)<2^24:=by
  have h5:2^24=2^(L+1)*2^(23-L):=by rw[←Nat.pow_add];congr 1;omega
  rw[h5]
  exact Nat.mul_lt_mul_of_pos_right ((Nat.log2_lt h).1 (by omega)) (Zbm _)
 have hk2:2^23≤m*2^(23-L):=by
  have h5:2^23=2^L*2^(23-L):=by rw[←Nat.pow_add];congr 1;omega
  rw[h5]
  exact Nat.mul_le_mul_right _ ((Nat.le_log2 h).1 (by omega))
 generalize m*2^(23-L)=k at*
 have e1:single.word s ((126+L)*2^23+k)/single.signWeight%2=s.toNat:=by
  show single.word s ((126+L)*2^23+k)/2^31%2=_
  unfold Format.word
  cases s
  ·show((126+L)*2^23+k)/2^31%2=0;omega
  ·show(2^31+((126+L)*2^23+k))/2^31%2=1;omega
 have e2:single.word s ((126+L)*2^23+k)%single.signWeight=(126+L)*2^23+k:=by
  show single.word s ((126+L)*2^23+k)%2^31=_
  unfold Format.word
  cases s
  ·show((126+L)*2^23+k)%2^31=_;omega
  ·show(2^31+((126+L)*2^23+k))%2^31=_;omega
 unfold Format.read
 have eb:single.binade=2^23:=rfl
 have ei:single.infRung=255*2^23:=rfl
 have el:single.leastPlace= -149:=rfl
 simp only[e1,e2,eb,ei,el]
 rw[if_neg (show ¬((126+L)*2^23+k<2^23) by omega),if_pos (show (126+L)*2^23+k<255*2^23 by omega)]
 have e3:((126+L)*2^23+k)%2^23=k-2^23:=by omega
 have e4:((126+L)*2^23+k)/2^23=127+L:=by omega
 rw[e3,e4]
 have g1:(s.toNat==1)=s:=by cases s<;>rfl
 have g2:2^23+(k-2^23)=k:=by omega
 have g3:(-149:Int)+((127+L-1:Nat):Int)= -((23-L:Nat):Int):=by omega
 rw[g1,g2,g3]
theorem ZGx(n:Int)(h: -16777216<n∧n<16777216):n.natAbs<2^24:=by omega
theorem ZjM(n:Int)(h: -16777216<n∧n<16777216):∃k:Nat,single.read (wN n)=.number (decide (n<0)) (n.natAbs*2^k) (-(k:Int)):=by
 by_cases h0:n=0
 ·subst h0
  exact⟨149,rfl⟩
 ·exact⟨_,Zwf (by omega) (ZGx n h)⟩
theorem Zd8(n:Int)(k K:Nat)(h:k≤K):signed (decide (n<0)) (n.natAbs*2^k) (-(k:Int)- -(K:Int)).toNat=n*(2^K:Nat):=by
 have e:(-(k:Int)- -(K:Int)).toNat=K-k:=by omega
 have e2:(n.natAbs*2^k) <<< (K-k)=n.natAbs*2^K:=by rw[Nat.shiftLeft_eq,Nat.mul_assoc,←Nat.pow_add];congr 2;omega
 unfold signed
 rw[e,e2]
 by_cases hn:n<0
 ·rw[if_pos (by simpa using hn),Int.natCast_mul,←Int.neg_mul,show -(n.natAbs:Int)=n by omega]
 ·rw[if_neg (by simpa using hn),Int.natCast_mul,show(n.natAbs:Int)=n by omega]
theorem Zo3{a b:Int}(ha: -8388608<a∧a<8388608)(hb: -8388608<b∧b<8388608):std.fadd .f32 (wN a) (wN b)=some (wN (a+b)):=by
 obtain⟨i,hi⟩:=ZjM a (by omega)
 obtain⟨j,hj⟩:=ZjM b (by omega)
 show((single.read (wN a)).sum (single.read (wN b))).map single.write=_
 rw[hi,hj]
 have hmin:min (-(i:Int)) (-(j:Int))= -((max i j:Nat):Int):=by omega
 simp only[Datum.sum,hmin,Zd8 a i _ (Nat.le_max_left i j),Zd8 b j _ (Nat.le_max_right i j),←Int.add_mul,Option.map_some]
 generalize max i j=K
 have hp:(0:Int)<(2^K:Nat):=by have:=Zbm K;omega
 have hz:(a+b)*((2^K:Nat):Int)=0↔a+b=0:=by
  rw[Int.mul_eq_zero];omega
 have hl:(a+b)*((2^K:Nat):Int)<0↔a+b<0:=by
  constructor
  ·intro h;by_cases hc:a+b<0
   ·exact hc
   ·exact absurd h (Int.not_lt.2 (Int.mul_nonneg (by omega) (by omega)))
  ·intro h;exact Int.mul_neg_of_neg_of_pos h hp
 have hs:(if (a+b)*((2^K:Nat):Int)=0 then decide (a<0)&&decide (b<0)else decide ((a+b)*((2^K:Nat):Int)<0))=decide (a+b<0):=by
  by_cases h0:a+b=0
  ·rw[if_pos (hz.2 h0)]
   by_cases hn:a<0
   ·simp[show ¬b<0 by omega,show ¬a+b<0 by omega]
   ·simp[hn,show ¬a+b<0 by omega]
  ·rw[if_neg (fun h=>h0 (hz.1 h))];simp only[hl]
 rw[hs]
 show some (single.nearest _ _ _)=some (single.nearest _ _ 0)
 rw[Int.natAbs_mul,Int.natAbs_natCast,ZwU _ _ _ (by omega)]
theorem Znq{a b:Int}(ha: -16777216<a∧a<16777216)(hb: -16777216<b∧b<16777216):std.ford .f32 (wN a) (wN b)=some (compare a b):=by
 obtain⟨i,hi⟩:=ZjM a (by omega)
 obtain⟨j,hj⟩:=ZjM b (by omega)
 show(single.read (wN a)).order (single.read (wN b))=_
 rw[hi,hj]
 have hmin:min (-(i:Int)) (-(j:Int))= -((max i j:Nat):Int):=by omega
 simp only[Datum.order,hmin,Zd8 a i _ (Nat.le_max_left i j),Zd8 b j _ (Nat.le_max_right i j)]
 have hp:(0:Int)<(2^(max i j):Nat):=by have:=Zbm (max i j);omega
 congr 1
 rcases Int.lt_trichotomy a b with h |h |h
 ·rw[Int.compare_eq_lt.2 h,Int.compare_eq_lt.2 (Int.mul_lt_mul_of_pos_right h hp)]
 ·subst h;simp
 ·rw[Int.compare_eq_gt.2 h,Int.compare_eq_gt.2 (Int.mul_lt_mul_of_pos_right h hp)]
theorem ZJh{n:Int}(h: -16777216<n∧n<16777216):std.f2i .f32 (wN n)=some n:=by
 obtain⟨k,hk⟩:=ZjM n h
 show(single.read (wN n)).toInt .zero=_
 rw[hk]
 simp only[Datum.toInt,Datum.integral,show(-(k:Int)).toNat=0 by omega,Nat.shiftLeft_zero,show(- -(k:Int)).toNat=k by omega,Zvx]
 have:=Zd8 n 0 0 (Nat.le_refl 0)
 simpa using this
theorem ZLG{a b:Int}(ha: -16777216<a∧a<16777216)(hb: -16777216<b∧b<16777216):mmF std .f32 (wN a) (wN b)=wN (max a b):=by
 unfold mmF
 rw[Znq ha hb]
 rcases Int.lt_trichotomy a b with h |h |h
 ·rw[Int.compare_eq_lt.2 h,show max a b=b by omega]
 ·subst h
  rw[Int.max_self]
  split
  ·rfl
  ·rfl
  ·split<;>rfl
 ·rw[Int.compare_eq_gt.2 h,show max a b=a by omega]
theorem ZGA:(3351465984:Nat)=wN (-100000):=by decide
theorem ZCL:(0:Nat)=wN 0:=rfl
end Go.Proofs.Ytklbmkllepkjcaa
/- Contracts as a list. No condition. -/
namespace Go.Proofs.Ytklbmkllepkjcaa
section
variable (m p q:Int)(so:List Int)
def Zo0:List Int:=List.replicate (stS m) (-100000)
end
def reT(T:Nat):List Nat:=(List.range (T+1)).map (· +1)
theorem ZjO(T:Nat):(reT T).length=T+1:=by simp[reT]
theorem Zew{T j:Nat}(h:j≤T):(reT T).getD j 0=j+1:=by
 unfold reT
 rw[List.getD_eq_getElem?_getD,List.getElem?_map,List.getElem?_range (by omega)];rfl
section
variable {m p q:Int}{so:List Int}
end
theorem Zxz(so:List Int)(t:Nat){a b:Int}(ha:a=0∨a=1)(hb:b=0∨b=1):coI a (so.getD (2*t) 0)+coI b (so.getD (2*t+1) 0)=gaI so t a b:=by
 unfold coI gaI
 rcases ha with rfl |rfl<;>rcases hb with rfl |rfl<;>simp<;>omega
section
variable {C:Ctx}(hC:C.P=Try.prog)(m p q:Int)(so:List Int)(h:OkC m p q so)
include hC h
end
def fT(T k:Nat):List Nat:=(List.range (T+1)).map fun j=>if j<k then j+1 else 0
theorem ZDK(T:Nat):fT T 0=List.replicate (T+1) 0:=by
 unfold fT
 apply List.ext_getElem?
 intro i
 rw[List.getElem?_map,List.getElem?_replicate]
 by_cases h:i<T+1
 ·rw[List.getElem?_range h];simp[h]
 ·rw[List.getElem?_eq_none (by simp;omega)];simp[h]
theorem ZGQ(T:Nat):fT T (T+1)=reT T:=by
 unfold fT reT
 apply List.map_congr_left
 intro i hi
 have:=List.mem_range.1 hi
 rw[if_pos (by omega)]
theorem ZGq(T k:Nat):(fT T k).length=T+1:=by simp[fT]
theorem ZHn{T k:Nat}(hk:k≤T):(fT T k).set k (k+1)=fT T (k+1):=by
 unfold fT
 apply List.ext_getElem?
 intro i
 rw[List.getElem?_set,List.getElem?_map,List.getElem?_map,List.length_map,List.length_range]
 by_cases hi:i<T+1
 ·rw[List.getElem?_range hi]
  by_cases hj:k=i
  ·subst hj;simp[hi]
  ·have:(i<k+1)↔(i<k):=by omega
   simp[hj,this]
 ·rw[List.getElem?_eq_none (by simp;omega)]
  simp;omega
section
variable {C:Ctx}(hC:C.P=Try.prog)(m p q:Int)(so:List Int)(h:OkC m p q so)
include hC h
end
def cdW(m p q:Int)(so:List Int):Int:=if ZaB m p q≠0 then ZaB m p q else sfW m so
def N6:List Ctr:=N5
theorem ZnY:Zay Try.prog N6:=Zen
end Go.Proofs.Ytklbmkllepkjcaa
/- Contracts as a list. No condition. -/
namespace Go.Proofs.Ytklbmkllepkjcaa
def wR(l:List Int):List Nat:=l.map wN
theorem Zkx(l:List Int){j:Nat}(h:j<l.length):(wR l).getD j 0=wN (l.getD j 0):=by
 unfold wR
 rw[List.getD_eq_getElem?_getD,List.getElem?_map,List.getD_eq_getElem?_getD,List.getElem?_eq_getElem h];rfl
theorem ZuL(l:List Int)(j:Nat)(x:Int):(wR l).set j (wN x)=wR (l.set j x):=by unfold wR;rw[List.map_set]
theorem Ziq(l:List Int):(wR l).length=l.length:=by simp[wR]
def rw2(T:Nat)(g:Nat→List Int):List (List Nat):=[]::(List.range (T+1)).map fun j=>wR (g j)
theorem ZmV(T:Nat)(g:Nat→List Int):(rw2 T g).length=T+2:=by simp[rw2]
theorem ZpO{T j:Nat}(g:Nat→List Int)(h:j≤T):(rw2 T g).getD (j+1) []=wR (g j):=by
 unfold rw2
 rw[List.getD_cons_succ,List.getD_eq_getElem?_getD,List.getElem?_map,List.getElem?_range (by omega)];rfl
theorem ZER{T j:Nat}(g:Nat→List Int)(x:List Int):(rw2 T g).set (j+1) (wR x)=rw2 T (fun i=>if i=j then x else g i):=by
 unfold rw2
 rw[List.set_cons_succ]
 congr 1
 apply List.ext_getElem?
 intro i
 rw[List.getElem?_set,List.getElem?_map,List.getElem?_map,List.length_map,List.length_range]
 by_cases hi:i<T+1
 ·rw[List.getElem?_range hi]
  by_cases hj:j=i
  ·subst hj;simp[hi]
  ·simp[hj,show ¬i=j from fun e=>hj e.symm]
 ·rw[List.getElem?_eq_none (by simp;omega)]
  simp;omega
section
variable (m p q:Int)(so:List Int)
def gB(t:Nat)(x:List Int)(j:Nat):List Int:=if t<j then dpP m p q so (Zac so-j)else if j=t then x else Zo0 m
def upF(S:Nat)(v:Nat→Int)(s:Nat):List Int:=(List.range s).map v++List.replicate (S-s) (-100000)
end
theorem ZI0{m p q:Int}{so:List Int}(t:Nat)(x y:List Int):(fun i=>if i=t then y else gB m p q so t x i)=gB m p q so t y:=by
 funext i
 unfold gB
 by_cases h:i=t
 ·subst h;simp
 ·simp[h]
theorem ZCF{m p q:Int}{so:List Int}(t:Nat):gB m p q so (t+1) (dpP m p q so (Zac so-(t+1)))=gB m p q so t (Zo0 m):=by
 funext i
 unfold gB
 by_cases h:t+1<i
 ·rw[if_pos h,if_pos (by omega)]
 ·rw[if_neg h]
  by_cases h2:i=t+1
  ·subst h2;rw[if_pos rfl,if_pos (by omega)]
  ·rw[if_neg h2,if_neg (by omega)];split<;>rfl
theorem Zd6{m p q:Int}{so:List Int}(h:OkC m p q so){n:Nat}(hn:n≤Zac so){s:Nat}(hs:s<stS m): -100000≤(dpP m p q so n).getD s 0∧(dpP m p q so n).getD s 0≤14*n:=by
 have w:=ZgH h n hn s hs
 obtain⟨hg,_,hl2,hl3⟩:=h.soft
 have h2:=ZID (m:=m) (p:=p) (q:=q) hg n s
 have hT:Zac so≤303:=by unfold Zac;omega
 unfold Way at w;omega
section
variable {C:Ctx}(hC:C.P=Try.prog)(m p q:Int)(so:List Int)(h:OkC m p q so)
include hC h
theorem B1(t s:Nat)(ht:t<Zac so)(hs:s<stS m)(x:List Int)(hxl:x.length=stS m)(hx: -100000≤x.getD s 0∧x.getD s 0≤100000)(n7:Int)(b8 b9:Bool)(j:Nat)(b:Int)(hb:b=0∨b=1∧t<Zb4 m so)(r:AV)(fr:Option Fresh)
 (hn:Ev C (Zdc m p q so (reT (Zac so)) t n7 b8 b9 j s (b+1) (rw2 (Zac so) (gB m p q so t (x.set s (upP m p q so (dpP m p q so (Zac so-(t+1))) t s b (x.getD s 0)))))) (ZcO m p q so (reT (Zac so)) t n7 b8 b9 j s (b+1) (rw2 (Zac so) (gB m p q so t (x.set s (upP m p q so (dpP m p q so (Zac so-(t+1))) t s b (x.getD s 0)))))) (ZaI 65 r fr)):
 Ev C (Zdc m p q so (reT (Zac so)) t n7 b8 b9 j s b (rw2 (Zac so) (gB m p q so t x))) (ZcO m p q so (reT (Zac so)) t n7 b8 b9 j s b (rw2 (Zac so) (gB m p q so t x))) (ZaI 65 r fr):=by
 obtain⟨hg,_,hl2,hl3⟩:=h.soft
 have hlen:2*Zac so≤so.length:=by unfold Zac;omega
 have hm:=(Zap h.cv).1
 have e1:(reT (Zac so)).getD t 0=t+1:=Zew (by omega)
 have e2:(reT (Zac so)).getD (t+1) 0=t+2:=Zew (by omega)
 have e3:(rw2 (Zac so) (gB m p q so t x)).getD (t+2) []=wR (dpP m p q so (Zac so-(t+1))):=by rw[ZpO _ (by omega),gB,if_pos (by omega)]
 have e4:(rw2 (Zac so) (gB m p q so t x)).getD (t+1) []=wR x:=by rw[ZpO _ (by omega),gB,if_neg (by omega),if_pos rfl]
 have e5:=ZmV (Zac so) (gB m p q so t x)
 have e6:∀y,(rw2 (Zac so) (gB m p q so t x)).set (t+1) (wR y)=rw2 (Zac so) (gB m p q so t y):=fun y=>by rw[ZER,ZI0]
 have e7:=ZjO (Zac so)
 have hdl:=Zhl m p q so (Zac so-(t+1))
 have hbb:b=0∨b=1:=by omega
 obtain⟨s1,s2,s3⟩:=Zbt h hs hbb
 have k1:(2*(t:Int)).toNat=2*t:=by omega
 have k2:(2*(t:Int)+1).toNat=2*t+1:=by omega
 have hco:=Zxz so t (Zd0 m p s b) (Zd0 m q s b)
 have hgl:=Zh5 (m:=m) (p:=p) (q:=q) hg t s b
 have a1:=Zez hg (2*t)
 have a2:=Zez hg (2*t+1)
 have hD:=Zd6 h (n:=Zac so-(t+1)) (by omega) s3
 have hbt:t<Zb4 m so↔¬ZdO m so≤t:=by unfold Zb4 ZdO ZaG;omega
 have h108:Zxa m so=true:=decide_eq_true (by omega)
 have hT:Zac so≤303:=by unfold Zac;omega
 unfold gnI at hgl
 have f1:(wR x).getD s 0=wN (x.getD s 0):=Zkx x (by omega)
 have f2:(wR (dpP m p q so (Zac so-(t+1)))).getD (nxS m s b).toNat 0=wN ((dpP m p q so (Zac so-(t+1))).getD (nxS m s b).toNat 0):=Zkx _ (by omega)
 have f3:std.fadd .f32 (wN ((dpP m p q so (Zac so-(t+1))).getD (nxS m s b).toNat 0)) (std.i2f .f32 (gaI so t (oS m p s b) (oS m q s b)))=some (wN ((dpP m p q so (Zac so-(t+1))).getD (nxS m s b).toNat 0+gaI so t (oS m p s b) (oS m q s b))):=Zo3 (by omega) (by omega)
 have f4:=Znq (a:=x.getD s 0) (b:=(dpP m p q so (Zac so-(t+1))).getD (nxS m s b).toNat 0+gaI so t (oS m p s b) (oS m q s b)) (by omega) (by omega)
 have f5:=ZLG (a:=x.getD s 0) (b:=(dpP m p q so (Zac so-(t+1))).getD (nxS m s b).toNat 0+gaI so t (oS m p s b) (oS m q s b)) (by omega) (by omega)
 have f6:=Ziq x
 have f7:=Ziq (dpP m p q so (Zac so-(t+1)))
 have hu:upP m p q so (dpP m p q so (Zac so-(t+1))) t s b (x.getD s 0)=max (x.getD s 0) ((dpP m p q so (Zac so-(t+1))).getD (nxS m s b).toNat 0+gaI so t (oS m p s b) (oS m q s b)):=rfl
 rw[hu]at hn
 refine tgo hC Zen ZkG ?_
 rcases hb with rfl |⟨rfl,hb⟩
 ·simp[-List.getD_eq_getElem?_getD,List.getD_cons_zero,List.getD_cons_succ,ZcN,e1,e2,e3,e4,e5,e6,e7,s1,s2,s3,k1,k2,hco,hxl,hdl,hs,h108,f1,f2,f3,f4,f5,f6,f7,ZuL]at hn⊢
  refine⟨?_,hn⟩
  omega
 ·have hb2:=hbt.1 hb
  simp[-List.getD_eq_getElem?_getD,List.getD_cons_zero,List.getD_cons_succ,ZcN,e1,e2,e3,e4,e5,e6,e7,s1,s2,s3,k1,k2,hco,hxl,hdl,hs,h108,hb2,f1,f2,f3,f4,f5,f6,f7,ZuL]at hn⊢
  refine⟨?_,hn⟩
  omega
theorem B1x(t s:Nat)(ht:t<Zac so)(hs:s<stS m)(rows:List (List Nat))(n7:Int)(b8 b9:Bool)(j:Nat)(b:Int)(hb:b=2∨b=1∧¬t<Zb4 m so)(r:AV)(fr:Option Fresh)
 (hn:Ev C (Zfe m p q so (reT (Zac so)) t n7 b8 b9 j ((s+1:Nat):Int) rows) (Zdu m p q so (reT (Zac so)) t n7 b8 b9 j ((s+1:Nat):Int) rows) (ZaI 65 r fr)):
 Ev C (Zdc m p q so (reT (Zac so)) t n7 b8 b9 j s b rows) (ZcO m p q so (reT (Zac so)) t n7 b8 b9 j s b rows) (ZaI 65 r fr):=by
 have hm:=(Zap h.cv).1
 have h2:=Zbg hm
 obtain⟨hg,_,hl2,hl3⟩:=h.soft
 have hbt:t<Zb4 m so↔¬ZdO m so≤t:=by unfold Zb4 ZdO ZaG;omega
 have h108:Zxa m so=true:=decide_eq_true (by omega)
 refine tgo hC Zen ZkG ?_
 rcases hb with rfl |⟨rfl,hb⟩
 ·simp[ZcN]at hn⊢
  exact⟨by omega,hn⟩
 ·have hb2:ZdO m so≤t:=by omega
  simp[ZcN,h108,hb2]at hn⊢
  exact⟨by omega,hn⟩
end
theorem ZBV{S s:Nat}(v:Nat→Int)(h:s≤S):(upF S v s).length=S:=by simp[upF];omega
theorem ZCt{S s:Nat}(v:Nat→Int)(h:s<S)(x:Int):(upF S v s).set s x=(List.range s).map v++x::List.replicate (S-s-1) (-100000):=by
 unfold upF
 rw[List.set_append,if_neg (by simp),show S-s=(S-s-1)+1 by omega,List.replicate_succ]
 simp
theorem Zx2{S s:Nat}(v:Nat→Int)(h:s<S):(upF S v s).set s (v s)=upF S v (s+1):=by
 rw[ZCt v h,upF,List.range_succ,List.map_append,List.append_assoc,show S-(s+1)=S-s-1 by omega];rfl
theorem ZCs{S s:Nat}(v:Nat→Int)(h:s<S):(upF S v s).getD s 0= -100000:=by
 unfold upF
 rw[List.getD_eq_getElem?_getD,List.getElem?_append_right (by simp),List.length_map,List.length_range,Nat.sub_self,List.getElem?_replicate,if_pos (by omega)];rfl
theorem Zzv(S:Nat)(v:Nat→Int):upF S v 0=List.replicate S (-100000):=by simp[upF]
theorem ZDZ(S:Nat)(v:Nat→Int):upF S v S=(List.range S).map v:=by simp[upF]
section
variable {C:Ctx}(hC:C.P=Try.prog)(m p q:Int)(so:List Int)(h:OkC m p q so)
include hC h
theorem B0(t:Nat)(ht:t<Zac so)(b8 b9:Bool)(j:Nat)(r:AV)(fr:Option Fresh)
 (hn:Ev C (ZeL m p q so (reT (Zac so)) ((t:Int)-1) (rw2 (Zac so) (gB m p q so t (dpP m p q so (Zac so-t)))) j) (Zdw m p q so (reT (Zac so)) ((t:Int)-1) (rw2 (Zac so) (gB m p q so t (dpP m p q so (Zac so-t)))) j) (ZaI 65 r fr)):
 ∀k s:Nat,s+k=stS m→
 Ev C (Zfe m p q so (reT (Zac so)) t (stN m) b8 b9 j s (rw2 (Zac so) (gB m p q so t (upF (stS m) (ZrC m p q so (dpP m p q so (Zac so-(t+1))) t) s)))) (Zdu m p q so (reT (Zac so)) t (stN m) b8 b9 j s (rw2 (Zac so) (gB m p q so t (upF (stS m) (ZrC m p q so (dpP m p q so (Zac so-(t+1))) t) s)))) (ZaI 65 r fr):=by
 have hm:=(Zap h.cv).1
 have h2:=Zbg hm
 obtain⟨hg,_,hl2,hl3⟩:=h.soft
 have hT:Zac so≤303:=by unfold Zac;omega
 intro k
 induction k with
 |zero=>
  intro s hs
  refine tgo hC Zen ZjY ?_
  have e9:(s:Int)=stN m:=by omega
  have e8:dpP m p q so (Zac so-t)=upF (stS m) (ZrC m p q so (dpP m p q so (Zac so-(t+1))) t) s:=by
   rw[show s=stS m by omega,ZDZ,show Zac so-t=(Zac so-(t+1))+1 by omega,dpP,show Zac so-1-(Zac so-(t+1))=t by omega]
  rw[e8]at hn
  simp[Zga,e9]at hn⊢
  exact⟨by omega,hn⟩
 |succ k ih=>
  intro s hs
  refine tgo hC Zen ZjY ?_
  have e9:(s:Int)<stN m:=by omega
  have hs':s<stS m:=by omega
  simp[Zga,e9]
  have ih':=ih (s+1) (by omega)
  have hl:=ZBV (ZrC m p q so (dpP m p q so (Zac so-(t+1))) t) (show s≤stS m by omega)
  have hgt:=ZCs (ZrC m p q so (dpP m p q so (Zac so-(t+1))) t) hs'
  rw[←Zx2 _ hs']at ih'
  apply B1 hC m p q so h t s ht hs' _ hl (by omega) _ _ _ _ 0 (Or.inl rfl)
  rw[hgt]
  by_cases hb:t<Zb4 m so
  ·have hgl:=Zh5 (m:=m) (p:=p) (q:=q) hg t s 0
   have hD:=Zd6 h (n:=Zac so-(t+1)) (by omega) (Zbt h hs' (b:=0) (Or.inl rfl)).2.2
   have e11:∀x,((upF (stS m) (ZrC m p q so (dpP m p q so (Zac so-(t+1))) t) s).set s x).getD s 0=x:=by
    intro x;rw[List.getD_eq_getElem?_getD,List.getElem?_set];simp[hl,hs']
   apply B1 hC m p q so h t s ht hs' _ (by rw[List.length_set,hl]) (by rw[e11];unfold upP;omega) _ _ _ _ _ (Or.inr ⟨rfl,hb⟩)
   rw[e11,List.set_set]
   apply B1x hC m p q so h t s ht hs' _ _ _ _ _ _ (Or.inl rfl)
   rw[ZrC,if_pos hb]at ih'
   exact ih'
  ·apply B1x hC m p q so h t s ht hs' _ _ _ _ _ _ (Or.inr ⟨rfl,hb⟩)
   rw[ZrC,if_neg hb]at ih'
   exact ih'
theorem ZOB(r:AV)(fr:Option Fresh)
 (hn:∀j:Nat,Ev C (Zca m p q so (reT (Zac so)) (rw2 (Zac so) (gB m p q so 0 (dpP m p q so (Zac so)))) (ZdO m so) j 0 0 0 []) (ZbI m p q so (reT (Zac so)) (rw2 (Zac so) (gB m p q so 0 (dpP m p q so (Zac so)))) (ZdO m so) j 0 0 0 []) (ZaI 65 r fr)):
 ∀t j:Nat,t≤Zac so→
 Ev C (ZeL m p q so (reT (Zac so)) ((t:Int)-1) (rw2 (Zac so) (gB m p q so t (dpP m p q so (Zac so-t)))) j) (Zdw m p q so (reT (Zac so)) ((t:Int)-1) (rw2 (Zac so) (gB m p q so t (dpP m p q so (Zac so-t)))) j) (ZaI 65 r fr):=by
 have hm:=(Zap h.cv).1
 have h2:=Zbg hm
 obtain⟨hg,_,hl2,hl3⟩:=h.soft
 have hmm:Zpk m=true:=decide_eq_true (by omega)
 have h108:Zxa m so=true:=decide_eq_true (by omega)
 intro t
 induction t with
 |zero=>
  intro j _
  refine tgo hC Zen ZkJ ?_
  have i:=hn (0+List.length (List.replicate j Blk.dfr))
  simp[Zgc,h108]at i⊢
  exact i
 |succ t ih=>
  intro j ht
  refine tgo hC Zen ZkJ ?_
  have i:=B0 hC m p q so h t (by omega) true true (j+1) r fr (ih (j+1) (by omega)) (stS m) 0 (by omega)
  rw[Zzv,show List.replicate (stS m) (-100000)=Zo0 m from rfl,←ZCF]at i
  have e1:((t+1:Nat):Int)-1=t:=by omega
  rw[e1]
  simp[Zgc,hmm]at i⊢
  exact i
end
end Go.Proofs.Ytklbmkllepkjcaa
