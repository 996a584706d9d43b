/- Paths of functions, printed by the explorer (Gx). No condition. -/
import Derived.Test.YtklbmkllepkjcaaSe
import Derived.KernelRfl
namespace Go.Proofs.Ytklbmkllepkjcaa
set_option maxRecDepth 100000
set_option linter.unusedVariables false
def ZIG(m g0 g1:Int)(xs:List Int):AFrame:=vF 65 61 [(0,AV.agg (Row.gen [.int .i64 m, .int .i64 g0, .int .i64 g1, .list (.ints .i64 xs)]))] [.code a65.code] [.tmp 2,.tmp 3]
def ZVp(m g0 g1:Int)(xs:List Int):List AFrame:=[(ZIG m g0 g1 xs)]
theorem ZGD(m g0 g1:Int)(xs:List Int):Zal tab 65 [AV.agg (Row.gen [.int .i64 m, .int .i64 g0, .int .i64 g1, .list (.ints .i64 xs)])]=some (ZIG m g0 g1 xs):=rfl
def v4Q:ACode:=.seq (.seq (.reg none [oN 11 (.load true 4 (.t 1)),oN 12 (.ncall true 0 108 [.t 11]),oN 13 (.mov (cI 0))]) (.block 0 (.loop ZuO))) Zvo
def Zjk(m g0 g1:Int)(xs:List Int)(n0:Int)(l1:List Nat)(n2:Int)(l3:List (List Nat)):List AFrame:=[{ fn:=107,N:=71,env:=[vP 1 107002,(2,AV.nils),vP 3 107004,vI 12 n0,vI 13 n2],todo:=.code (.gh [] ZCZ)::ZIw,defs:=[(2000107,0)],rnd:=none,ret:=false,res:=[.tmp 2] },{ fn:=65,N:=61,env:=[(0,AV.agg (Row.gen [.int .i64 m, .int .i64 g0, .int .i64 g1, .list (.ints .i64 xs)])),vP 1 65002,(2,AV.nils),vI 3 0,(9,AV.agg (Row.gen [.int .i64 m, .int .i64 g0, .int .i64 g1, .list (.ints .i64 xs)]))],todo:=[.inReg [oN 10 (.icall 107 [.t 9]),oN 4 (.alloc 65005 135 AV.nils),{ d:=none,g:=none,k:=OpK.store 1 (.t 4) (.t 10) }], .code (.seq (.reg none [oN 5 (.alloc 65006 25 AV.nils)]) (.gh [.ownc 5 65051 3 1 (.ints .i64 [])] (.seq (.reg none [oN 6 (.alloc 65007 3 (AV.int .i64 0)),{ d:=none,g:=none,k:=OpK.store 1 (.t 6) (cI 0) }]) v4Q)))],defs:=[(2000065,0)],rnd:=none,ret:=false,res:=[.tmp 2,.tmp 3] }]
def Zgn(m g0 g1:Int)(xs:List Int)(n0:Int)(l1:List Nat)(n2:Int)(l3:List (List Nat)):Zaa:=[(65002,{ base:=0,blks:=[Blk.row 97 4 (Row.gen [AV.agg (Row.gen [AV.int .i64 m,AV.int .i64 g0,AV.int .i64 g1,AV.list (.ints .i64 xs)])])] }),(107002,{ base:=0,blks:=[Blk.row 97 4 (Row.gen [AV.agg (Row.gen [AV.int .i64 m,AV.int .i64 g0,AV.int .i64 g1,AV.list (.ints .i64 xs)])])] }),(107004,{ base:=0,blks:=[Blk.row 135 1 (Row.gen [.row 107011 0])] }),(107011,{ base:=0,blks:=[Blk.row 137 1 (Row.refs 1000107 l1)] }),(1000107,{ base:=0,blks:=[],sym:=Sym.flts 118 1 Go.FloatKind.f32 l3 }),(2000065,{ base:=0,blks:=[],sym:=Sym.dfrs 0 }),(2000107,{ base:=0,blks:=[],sym:=Sym.dfrs 0 })]
abbrev Zmk(m g0 g1:Int)(xs:List Int)(n0:Int)(l1:List Nat)(n2:Int)(l3:List (List Nat)):List AFrame×Zaa:=(Zjk m g0 g1 xs n0 l1 n2 l3,Zgn m g0 g1 xs n0 l1 n2 l3)
def ZfE(m g0 g1:Int)(xs:List Int)(l1:List Nat)(n4:Int)(l5:List (List Nat))(j6:Nat):List AFrame:=[{ fn:=107,N:=71,env:=[vP 1 107002,(2,AV.nils),vP 3 107004,vP 5 107006],todo:=.code (.gh [] ZD5)::ZwU,defs:=[(2000107,0)],rnd:=none,ret:=false,res:=[.tmp 2] },{ fn:=65,N:=61,env:=[(0,AV.agg (Row.gen [.int .i64 m, .int .i64 g0, .int .i64 g1, .list (.ints .i64 xs)])),vP 1 65002,(2,AV.nils),vI 3 0,(9,AV.agg (Row.gen [.int .i64 m, .int .i64 g0, .int .i64 g1, .list (.ints .i64 xs)]))],todo:=[.inReg [oN 10 (.icall 107 [.t 9]),oN 4 (.alloc 65005 135 AV.nils),{ d:=none,g:=none,k:=OpK.store 1 (.t 4) (.t 10) }], .code (.seq (.reg none [oN 5 (.alloc 65006 25 AV.nils)]) (.gh [.ownc 5 65051 3 1 (.ints .i64 [])] (.seq (.reg none [oN 6 (.alloc 65007 3 (AV.int .i64 0)),{ d:=none,g:=none,k:=OpK.store 1 (.t 6) (cI 0) }]) v4Q)))],defs:=[(2000065,0)],rnd:=none,ret:=false,res:=[.tmp 2,.tmp 3] }]
def ZdG(m g0 g1:Int)(xs:List Int)(l1:List Nat)(n4:Int)(l5:List (List Nat))(j6:Nat):Zaa:=[(65002,{ base:=0,blks:=[Blk.row 97 4 (Row.gen [AV.agg (Row.gen [AV.int .i64 m,AV.int .i64 g0,AV.int .i64 g1,AV.list (.ints .i64 xs)])])] }),(107002,{ base:=0,blks:=[Blk.row 97 4 (Row.gen [AV.agg (Row.gen [AV.int .i64 m,AV.int .i64 g0,AV.int .i64 g1,AV.list (.ints .i64 xs)])])] }),(107004,{ base:=0,blks:=[Blk.row 135 1 (Row.gen [.row 107011 0])] }),vG 107006 (.int .i64 n4),(107011,{ base:=0,blks:=[Blk.row 137 1 (Row.refs 1000107 l1)] }),(1000107,{ base:=0,blks:=[],sym:=Sym.flts 118 1 Go.FloatKind.f32 l5 }),(2000065,{ base:=0,blks:=[],sym:=Sym.dfrs 0 }),(2000107,{ base:=0,blks:=[],sym:=Sym.dfrs j6 })]
abbrev Zk3(m g0 g1:Int)(xs:List Int)(l1:List Nat)(n4:Int)(l5:List (List Nat))(j6:Nat):List AFrame×Zaa:=(ZfE m g0 g1 xs l1 n4 l5 j6,ZdG m g0 g1 xs l1 n4 l5 j6)
def Zff(m g0 g1:Int)(xs:List Int)(l1:List Nat)(n4 n7:Int)(b8 b9:Bool)(j10:Nat)(n11:Int)(l12:List (List Nat)):List AFrame:=[vF 115 64 [(0,AV.yld 107901 0),vP 1 87003,vP 2 87004,vI 10 n7,vI 11 n11] (vC Zxn ZCo) [],{ fn:=107,N:=71,env:=[vP 1 107002,(2,AV.nils),vP 3 107004,vP 5 107006,vI 33 n4,vB 34 b8,(37,AV.agg (Row.gen [.int .i64 m, .int .i64 g0, .int .i64 g1, .list (.ints .i64 xs)])),vI 38 n4,(39,AV.fn 115 [AV.ptr 87003 0 0 0,AV.ptr 87004 0 0 0])],todo:=AItem.inRF 107901 0::AItem.inBlock 4::AItem.inBlock 3::.code (.seq (.seq (.reg none [oN 69 (.load false 1 (.t 5))]) (.reg none [oN 5 (.alloc 107006 3 (AV.int .i64 0)),{ d:=none,g:=none,k:=OpK.store 1 (.t 5) (.t 69) }])) (.reg none [oN 35 (.load false 1 (.t 5)),oN 36 (.bin Go.BinOp.sub (.t 35) (cI 1)),{ d:=none,g:=none,k:=OpK.store 1 (.t 5) (.t 36) }]))::ZwU,defs:=[(2000107,0)],rnd:=none,ret:=false,res:=[.tmp 2] },{ fn:=65,N:=61,env:=[(0,AV.agg (Row.gen [.int .i64 m, .int .i64 g0, .int .i64 g1, .list (.ints .i64 xs)])),vP 1 65002,(2,AV.nils),vI 3 0,(9,AV.agg (Row.gen [.int .i64 m, .int .i64 g0, .int .i64 g1, .list (.ints .i64 xs)]))],todo:=[.inReg [oN 10 (.icall 107 [.t 9]),oN 4 (.alloc 65005 135 AV.nils),{ d:=none,g:=none,k:=OpK.store 1 (.t 4) (.t 10) }], .code (.seq (.reg none [oN 5 (.alloc 65006 25 AV.nils)]) (.gh [.ownc 5 65051 3 1 (.ints .i64 [])] (.seq (.reg none [oN 6 (.alloc 65007 3 (AV.int .i64 0)),{ d:=none,g:=none,k:=OpK.store 1 (.t 6) (cI 0) }]) v4Q)))],defs:=[(2000065,0)],rnd:=none,ret:=false,res:=[.tmp 2,.tmp 3] }]
def ZdW(m g0 g1:Int)(xs:List Int)(l1:List Nat)(n4 n7:Int)(b8 b9:Bool)(j10:Nat)(n11:Int)(l12:List (List Nat)):Zaa:=[(65002,{ base:=0,blks:=[Blk.row 97 4 (Row.gen [AV.agg (Row.gen [AV.int .i64 m,AV.int .i64 g0,AV.int .i64 g1,AV.list (.ints .i64 xs)])])] }),(87003,{ base:=0,blks:=[Blk.row 97 4 (Row.gen [AV.agg (Row.gen [AV.int .i64 m,AV.int .i64 g0,AV.int .i64 g1,AV.list (.ints .i64 xs)])])] }),vG 87004 (.int .i64 n4),(107002,{ base:=0,blks:=[Blk.row 97 4 (Row.gen [AV.agg (Row.gen [AV.int .i64 m,AV.int .i64 g0,AV.int .i64 g1,AV.list (.ints .i64 xs)])])] }),(107004,{ base:=0,blks:=[Blk.row 135 1 (Row.gen [.row 107011 0])] }),vG 107006 (.int .i64 n4),(107011,{ base:=0,blks:=[Blk.row 137 1 (Row.refs 1000107 l1)] }),(107901,{ base:=0,blks:=[Blk.lp { st:=RSt.ready,fn:=107,N:=71,env:=[vP 1 107002,(2,AV.nils),vP 3 107004,vP 5 107006,vI 33 n4,vB 34 b9,(37,AV.agg (Row.gen [.int .i64 m, .int .i64 g0, .int .i64 g1, .list (.ints .i64 xs)])),vI 38 n4,(39,AV.fn 115 [AV.ptr 87003 0 0 0,AV.ptr 87004 0 0 0])],params:=[40],asg:=ACode.reg none [oN 6 (.alloc 107007 120 (AV.agg (Row.gen [.int .i64 0, .int .i64 0, .int .i64 0, .flt Go.FloatKind.f32 0]))),{ d:=none,g:=none,k:=OpK.store 4 (.t 6) (.t 40) }],body:=ACode.block 5 (.reg (some []) [oN 41 (.load false 1 (.t 3)),oN 42 (.load false 1 (.t 5)),oN 43 (.iaddr 1 (.t 41) (.t 42)),oN 44 (.load false 1 (.t 43)),oN 45 (.faddr 0 (.t 6)),oN 46 (.load false 1 (.t 45)),oN 47 (.load false 1 (.t 3)),oN 48 (.load false 1 (.t 5)),oN 49 (.iaddr 1 (.t 47) (.t 48)),oN 50 (.load false 1 (.t 49)),oN 51 (.faddr 0 (.t 6)),oN 52 (.load false 1 (.t 51)),oN 53 (.iaddr 1 (.t 50) (.t 52)),oN 54 (.load false 1 (.t 53)),oN 55 (.load false 1 (.t 3)),oN 56 (.load false 1 (.t 5)),oN 57 (.bin Go.BinOp.add (.t 56) (cI 1)),oN 58 (.iaddr 1 (.t 55) (.t 57)),oN 59 (.load false 1 (.t 58)),oN 60 (.faddr 2 (.t 6)),oN 61 (.load false 1 (.t 60)),oN 62 (.iaddr 1 (.t 59) (.t 61)),oN 63 (.load false 1 (.t 62)),oN 64 (.faddr 3 (.t 6)),oN 65 (.load false 1 (.t 64)),oN 66 (.bin Go.BinOp.add (.t 63) (.t 65)),oN 67 (.mm true (.t 54) (.t 66)),oN 68 (.iaddr 1 (.t 44) (.t 46)),{ d:=none,g:=none,k:=OpK.store 1 (.t 68) (.t 67) }]) }] }),(1000107,{ base:=0,blks:=[],sym:=Sym.flts 118 1 Go.FloatKind.f32 l12 }),(2000065,{ base:=0,blks:=[],sym:=Sym.dfrs 0 }),(2000107,{ base:=0,blks:=[],sym:=Sym.dfrs j10 })]
abbrev Zf2(m g0 g1:Int)(xs:List Int)(l1:List Nat)(n4 n7:Int)(b8 b9:Bool)(j10:Nat)(n11:Int)(l12:List (List Nat)):List AFrame×Zaa:=(Zff m g0 g1 xs l1 n4 n7 b8 b9 j10 n11 l12,ZdW m g0 g1 xs l1 n4 n7 b8 b9 j10 n11 l12)
def Zcd(m g0 g1:Int)(xs:List Int)(l1:List Nat)(l5:List (List Nat))(n13:Int)(j14:Nat)(n15:Int)(j16:Nat)(n17:Int)(l18:List Int):List AFrame:=[{ fn:=65,N:=61,env:=[vP 1 65002,(2,AV.nils),vI 3 0,vP 4 65005,vP 5 65006,vP 6 65007,vI 12 n13,vI 13 n15],todo:=.code (.gh [] ZKC)::ZHg,defs:=[(2000065,0)],rnd:=none,ret:=false,res:=[.tmp 2,.tmp 3] }]
def ZbF(m g0 g1:Int)(xs:List Int)(l1:List Nat)(l5:List (List Nat))(n13:Int)(j14:Nat)(n15:Int)(j16:Nat)(n17:Int)(l18:List Int):Zaa:=[(65002,{ base:=0,blks:=[Blk.row 97 4 (Row.gen [AV.agg (Row.gen [AV.int .i64 m,AV.int .i64 g0,AV.int .i64 g1,AV.list (.ints .i64 xs)])])] }),(65005,{ base:=0,blks:=[Blk.row 135 1 (Row.gen [.row 107011 0])] }),(65006,{ base:=0,blks:=[Blk.row 25 1 (Row.gen [.row 65051 0])] }),vG 65007 (.int .i64 n17),vK 65051 l18,(107011,{ base:=0,blks:=[Blk.row 137 1 (Row.refs 1000107 l1)] }),(1000107,{ base:=0,blks:=[],sym:=Sym.flts 118 1 Go.FloatKind.f32 l5 }),(2000065,{ base:=0,blks:=[],sym:=Sym.dfrs j16 }),(2000107,{ base:=j14,blks:=[] })]
abbrev Zfk(m g0 g1:Int)(xs:List Int)(l1:List Nat)(l5:List (List Nat))(n13:Int)(j14:Nat)(n15:Int)(j16:Nat)(n17:Int)(l18:List Int):List AFrame×Zaa:=(Zcd m g0 g1 xs l1 l5 n13 j14 n15 j16 n17 l18,ZbF m g0 g1 xs l1 l5 n13 j14 n15 j16 n17 l18)
def ZdE(m g0 g1:Int)(xs:List Int)(l1:List Nat)(n4 n7:Int)(b8 b9:Bool)(j10:Nat)(n11 n19:Int)(l20:List (List Nat)):List AFrame:=[vF 115 64 [(0,AV.yld 107901 0),vP 1 87003,vP 2 87004,vI 4 n11,vI 10 n7,vI 11 n11,vI 14 n19] (vC ZxN ZDk) [],{ fn:=107,N:=71,env:=[vP 1 107002,(2,AV.nils),vP 3 107004,vP 5 107006,vI 33 n4,vB 34 b8,(37,AV.agg (Row.gen [.int .i64 m, .int .i64 g0, .int .i64 g1, .list (.ints .i64 xs)])),vI 38 n4,(39,AV.fn 115 [AV.ptr 87003 0 0 0,AV.ptr 87004 0 0 0])],todo:=AItem.inRF 107901 0::AItem.inBlock 4::AItem.inBlock 3::.code (.seq (.seq (.reg none [oN 69 (.load false 1 (.t 5))]) (.reg none [oN 5 (.alloc 107006 3 (AV.int .i64 0)),{ d:=none,g:=none,k:=OpK.store 1 (.t 5) (.t 69) }])) (.reg none [oN 35 (.load false 1 (.t 5)),oN 36 (.bin Go.BinOp.sub (.t 35) (cI 1)),{ d:=none,g:=none,k:=OpK.store 1 (.t 5) (.t 36) }]))::ZwU,defs:=[(2000107,0)],rnd:=none,ret:=false,res:=[.tmp 2] },{ fn:=65,N:=61,env:=[(0,AV.agg (Row.gen [.int .i64 m, .int .i64 g0, .int .i64 g1, .list (.ints .i64 xs)])),vP 1 65002,(2,AV.nils),vI 3 0,(9,AV.agg (Row.gen [.int .i64 m, .int .i64 g0, .int .i64 g1, .list (.ints .i64 xs)]))],todo:=[.inReg [oN 10 (.icall 107 [.t 9]),oN 4 (.alloc 65005 135 AV.nils),{ d:=none,g:=none,k:=OpK.store 1 (.t 4) (.t 10) }], .code (.seq (.reg none [oN 5 (.alloc 65006 25 AV.nils)]) (.gh [.ownc 5 65051 3 1 (.ints .i64 [])] (.seq (.reg none [oN 6 (.alloc 65007 3 (AV.int .i64 0)),{ d:=none,g:=none,k:=OpK.store 1 (.t 6) (cI 0) }]) v4Q)))],defs:=[(2000065,0)],rnd:=none,ret:=false,res:=[.tmp 2,.tmp 3] }]
def ZcE(m g0 g1:Int)(xs:List Int)(l1:List Nat)(n4 n7:Int)(b8 b9:Bool)(j10:Nat)(n11 n19:Int)(l20:List (List Nat)):Zaa:=[(65002,{ base:=0,blks:=[Blk.row 97 4 (Row.gen [AV.agg (Row.gen [AV.int .i64 m,AV.int .i64 g0,AV.int .i64 g1,AV.list (.ints .i64 xs)])])] }),(87003,{ base:=0,blks:=[Blk.row 97 4 (Row.gen [AV.agg (Row.gen [AV.int .i64 m,AV.int .i64 g0,AV.int .i64 g1,AV.list (.ints .i64 xs)])])] }),vG 87004 (.int .i64 n4),(107002,{ base:=0,blks:=[Blk.row 97 4 (Row.gen [AV.agg (Row.gen [AV.int .i64 m,AV.int .i64 g0,AV.int .i64 g1,AV.list (.ints .i64 xs)])])] }),(107004,{ base:=0,blks:=[Blk.row 135 1 (Row.gen [.row 107011 0])] }),vG 107006 (.int .i64 n4),(107011,{ base:=0,blks:=[Blk.row 137 1 (Row.refs 1000107 l1)] }),(107901,{ base:=0,blks:=[Blk.lp { st:=RSt.ready,fn:=107,N:=71,env:=[vP 1 107002,(2,AV.nils),vP 3 107004,vP 5 107006,vI 33 n4,vB 34 b9,(37,AV.agg (Row.gen [.int .i64 m, .int .i64 g0, .int .i64 g1, .list (.ints .i64 xs)])),vI 38 n4,(39,AV.fn 115 [AV.ptr 87003 0 0 0,AV.ptr 87004 0 0 0])],params:=[40],asg:=ACode.reg none [oN 6 (.alloc 107007 120 (AV.agg (Row.gen [.int .i64 0, .int .i64 0, .int .i64 0, .flt Go.FloatKind.f32 0]))),{ d:=none,g:=none,k:=OpK.store 4 (.t 6) (.t 40) }],body:=ACode.block 5 (.reg (some []) [oN 41 (.load false 1 (.t 3)),oN 42 (.load false 1 (.t 5)),oN 43 (.iaddr 1 (.t 41) (.t 42)),oN 44 (.load false 1 (.t 43)),oN 45 (.faddr 0 (.t 6)),oN 46 (.load false 1 (.t 45)),oN 47 (.load false 1 (.t 3)),oN 48 (.load false 1 (.t 5)),oN 49 (.iaddr 1 (.t 47) (.t 48)),oN 50 (.load false 1 (.t 49)),oN 51 (.faddr 0 (.t 6)),oN 52 (.load false 1 (.t 51)),oN 53 (.iaddr 1 (.t 50) (.t 52)),oN 54 (.load false 1 (.t 53)),oN 55 (.load false 1 (.t 3)),oN 56 (.load false 1 (.t 5)),oN 57 (.bin Go.BinOp.add (.t 56) (cI 1)),oN 58 (.iaddr 1 (.t 55) (.t 57)),oN 59 (.load false 1 (.t 58)),oN 60 (.faddr 2 (.t 6)),oN 61 (.load false 1 (.t 60)),oN 62 (.iaddr 1 (.t 59) (.t 61)),oN 63 (.load false 1 (.t 62)),oN 64 (.faddr 3 (.t 6)),oN 65 (.load false 1 (.t 64)),oN 66 (.bin Go.BinOp.add (.t 63) (.t 65)),oN 67 (.mm true (.t 54) (.t 66)),oN 68 (.iaddr 1 (.t 44) (.t 46)),{ d:=none,g:=none,k:=OpK.store 1 (.t 68) (.t 67) }]) }] }),(1000107,{ base:=0,blks:=[],sym:=Sym.flts 118 1 Go.FloatKind.f32 l20 }),(2000065,{ base:=0,blks:=[],sym:=Sym.dfrs 0 }),(2000107,{ base:=0,blks:=[],sym:=Sym.dfrs j10 })]
abbrev ZfT(m g0 g1:Int)(xs:List Int)(l1:List Nat)(n4 n7:Int)(b8 b9:Bool)(j10:Nat)(n11 n19:Int)(l20:List (List Nat)):List AFrame×Zaa:=(ZdE m g0 g1 xs l1 n4 n7 b8 b9 j10 n11 n19 l20,ZcE m g0 g1 xs l1 n4 n7 b8 b9 j10 n11 n19 l20)
def v9Q:List AOp:=[oN 53 (.bin Go.BinOp.add (.t 13) (cI 1)),mV 13 53]
def Zi8(m g0 g1:Int)(xs:List Int)(l1:List Nat)(l5:List (List Nat))(n13:Int)(j14:Nat)(n15 n17:Int)(l18:List Int)(n21:Int)(b22 b23:Bool)(j24:Nat)(n25:Int):List AFrame:=[vF 115 64 [(0,AV.yld 65901 0),vP 1 87003,vP 2 87004,vI 10 n21,vI 11 n25] (vC Zxn ZCo) [],{ fn:=65,N:=61,env:=[vP 1 65002,(2,AV.nils),vI 3 0,vP 4 65005,vP 5 65006,vP 6 65007,vP 7 65008,vI 12 n13,vI 13 n15,vB 14 b22,vI 15 n15,(16,AV.agg (Row.gen [.int .i64 m, .int .i64 g0, .int .i64 g1, .list (.ints .i64 xs)])),vI 17 n15,(18,AV.fn 115 [AV.ptr 87003 0 0 0,AV.ptr 87004 0 0 0])],todo:=AItem.inRF 65901 0::AItem.inBlock 2::AItem.inBlock 1::.code (.reg none v9Q)::ZHg,defs:=[(2000065,0)],rnd:=none,ret:=false,res:=[.tmp 2,.tmp 3] }]
def v10Q:ACode:=.gh [.keep [1,2,3,4,5,6,12,13]] (.exit 2)
def Zga(m g0 g1:Int)(xs:List Int)(l1:List Nat)(l5:List (List Nat))(n13:Int)(j14:Nat)(n15 n17:Int)(l18:List Int)(n21:Int)(b22 b23:Bool)(j24:Nat)(n25:Int):Zaa:=[(65002,{ base:=0,blks:=[Blk.row 97 4 (Row.gen [AV.agg (Row.gen [AV.int .i64 m,AV.int .i64 g0,AV.int .i64 g1,AV.list (.ints .i64 xs)])])] }),(65005,{ base:=0,blks:=[Blk.row 135 1 (Row.gen [.row 107011 0])] }),(65006,{ base:=0,blks:=[Blk.row 25 1 (Row.gen [.row 65051 0])] }),vG 65007 (.int .i64 n17),vG 65008 (.int .i64 n15),vK 65051 l18,(65901,{ base:=0,blks:=[Blk.lp { st:=RSt.ready,fn:=65,N:=61,env:=[vP 1 65002,(2,AV.nils),vI 3 0,vP 4 65005,vP 5 65006,vP 6 65007,vP 7 65008,vI 12 n13,vI 13 n15,vB 14 b23,vI 15 n15,(16,AV.agg (Row.gen [.int .i64 m, .int .i64 g0, .int .i64 g1, .list (.ints .i64 xs)])),vI 17 n15,(18,AV.fn 115 [AV.ptr 87003 0 0 0,AV.ptr 87004 0 0 0])],params:=[19],asg:=ACode.reg none [oN 8 (.alloc 65009 120 (AV.agg (Row.gen [.int .i64 0, .int .i64 0, .int .i64 0, .flt Go.FloatKind.f32 0]))),{ d:=none,g:=none,k:=OpK.store 4 (.t 8) (.t 19) }],body:=ACode.block 3 (.seq (.reg (some []) [oN 20 (.faddr 0 (.t 8)),oN 21 (.load false 1 (.t 20)),oN 22 (.load false 1 (.t 6)),oN 23 (.bin Go.BinOp.eql (.t 21) (.t 22)),mV 24 23,{ d:=some 25,g:=some (24,true),k:=OpK.load false 1 (.t 4) },{ d:=some 26,g:=some (24,true),k:=OpK.load false 1 (.t 7) },{ d:=some 27,g:=some (24,true),k:=OpK.bin Go.BinOp.add (.t 26) (cI 1) },{ d:=some 28,g:=some (24,true),k:=OpK.iaddr 1 (.t 25) (.t 27) },{ d:=some 29,g:=some (24,true),k:=OpK.load false 1 (.t 28) },{ d:=some 30,g:=some (24,true),k:=OpK.faddr 2 (.t 8) },{ d:=some 31,g:=some (24,true),k:=OpK.load false 1 (.t 30) },{ d:=some 32,g:=some (24,true),k:=OpK.iaddr 1 (.t 29) (.t 31) },{ d:=some 33,g:=some (24,true),k:=OpK.load false 1 (.t 32) },{ d:=some 34,g:=some (24,true),k:=OpK.faddr 3 (.t 8) },{ d:=some 35,g:=some (24,true),k:=OpK.load false 1 (.t 34) },{ d:=some 36,g:=some (24,true),k:=OpK.bin Go.BinOp.add (.t 33) (.t 35) },{ d:=some 37,g:=some (24,true),k:=OpK.load false 1 (.t 4) },{ d:=some 38,g:=some (24,true),k:=OpK.load false 1 (.t 7) },{ d:=some 39,g:=some (24,true),k:=OpK.iaddr 1 (.t 37) (.t 38) },{ d:=some 40,g:=some (24,true),k:=OpK.load false 1 (.t 39) },{ d:=some 41,g:=some (24,true),k:=OpK.load false 1 (.t 6) },{ d:=some 42,g:=some (24,true),k:=OpK.iaddr 1 (.t 40) (.t 41) },{ d:=some 43,g:=some (24,true),k:=OpK.load false 1 (.t 42) },{ d:=some 44,g:=some (24,true),k:=OpK.bin Go.BinOp.eql (.t 36) (.t 43) },oN 45 (.pick (.t 24) (.t 44) (.c (AV.bool false)))]) (.gh [.keep [1,2,3,4,5,6,7,8,12,13,45]] (.cond (.t 45) (.seq (.reg (some [(0,3),(3,5),(3,6),(4,5),(4,6),(5,7),(6,7)]) [oN 46 (.load false 1 (.t 5)),oN 47 (.faddr 1 (.t 8)),oN 48 (.load false 1 (.t 47)),oN 49 (.bslice 65050 3 1 [.t 48]),oN 50 (.append 65051 3 1 (.t 46) (.t 49)),oN 51 (.faddr 2 (.t 8)),oN 52 (.load false 1 (.t 51)),{ d:=none,g:=none,k:=OpK.store 1 (.t 5) (.t 50) },{ d:=none,g:=none,k:=OpK.store 1 (.t 6) (.t 52) }]) v10Q) ACode.skip))) }] }),(87003,{ base:=0,blks:=[Blk.row 97 4 (Row.gen [AV.agg (Row.gen [AV.int .i64 m,AV.int .i64 g0,AV.int .i64 g1,AV.list (.ints .i64 xs)])])] }),vG 87004 (.int .i64 n15),(107011,{ base:=0,blks:=[Blk.row 137 1 (Row.refs 1000107 l1)] }),(1000107,{ base:=0,blks:=[],sym:=Sym.flts 118 1 Go.FloatKind.f32 l5 }),(2000065,{ base:=0,blks:=[],sym:=Sym.dfrs j24 }),(2000107,{ base:=j14,blks:=[] })]
abbrev ZfX(m g0 g1:Int)(xs:List Int)(l1:List Nat)(l5:List (List Nat))(n13:Int)(j14:Nat)(n15 n17:Int)(l18:List Int)(n21:Int)(b22 b23:Bool)(j24:Nat)(n25:Int):List AFrame×Zaa:=(Zi8 m g0 g1 xs l1 l5 n13 j14 n15 n17 l18 n21 b22 b23 j24 n25,Zga m g0 g1 xs l1 l5 n13 j14 n15 n17 l18 n21 b22 b23 j24 n25)
def Zcz(m g0 g1:Int)(xs:List Int)(l1:List Nat)(l5:List (List Nat))(n13:Int)(j14:Nat)(n15 n17:Int)(l18:List Int)(n21:Int)(b22 b23:Bool)(j24:Nat)(n25 n26:Int):List AFrame:=[vF 115 64 [(0,AV.yld 65901 0),vP 1 87003,vP 2 87004,vI 4 n25,vI 10 n21,vI 11 n25,vI 14 n26] (vC ZxN ZDk) [],{ fn:=65,N:=61,env:=[vP 1 65002,(2,AV.nils),vI 3 0,vP 4 65005,vP 5 65006,vP 6 65007,vP 7 65008,vI 12 n13,vI 13 n15,vB 14 b22,vI 15 n15,(16,AV.agg (Row.gen [.int .i64 m, .int .i64 g0, .int .i64 g1, .list (.ints .i64 xs)])),vI 17 n15,(18,AV.fn 115 [AV.ptr 87003 0 0 0,AV.ptr 87004 0 0 0])],todo:=AItem.inRF 65901 0::AItem.inBlock 2::AItem.inBlock 1::.code (.reg none v9Q)::ZHg,defs:=[(2000065,0)],rnd:=none,ret:=false,res:=[.tmp 2,.tmp 3] }]
def ZbV(m g0 g1:Int)(xs:List Int)(l1:List Nat)(l5:List (List Nat))(n13:Int)(j14:Nat)(n15 n17:Int)(l18:List Int)(n21:Int)(b22 b23:Bool)(j24:Nat)(n25 n26:Int):Zaa:=[(65002,{ base:=0,blks:=[Blk.row 97 4 (Row.gen [AV.agg (Row.gen [AV.int .i64 m,AV.int .i64 g0,AV.int .i64 g1,AV.list (.ints .i64 xs)])])] }),(65005,{ base:=0,blks:=[Blk.row 135 1 (Row.gen [.row 107011 0])] }),(65006,{ base:=0,blks:=[Blk.row 25 1 (Row.gen [.row 65051 0])] }),vG 65007 (.int .i64 n17),vG 65008 (.int .i64 n15),vK 65051 l18,(65901,{ base:=0,blks:=[Blk.lp { st:=RSt.ready,fn:=65,N:=61,env:=[vP 1 65002,(2,AV.nils),vI 3 0,vP 4 65005,vP 5 65006,vP 6 65007,vP 7 65008,vI 12 n13,vI 13 n15,vB 14 b23,vI 15 n15,(16,AV.agg (Row.gen [.int .i64 m, .int .i64 g0, .int .i64 g1, .list (.ints .i64 xs)])),vI 17 n15,(18,AV.fn 115 [AV.ptr 87003 0 0 0,AV.ptr 87004 0 0 0])],params:=[19],asg:=ACode.reg none [oN 8 (.alloc 65009 120 (AV.agg (Row.gen [.int .i64 0, .int .i64 0, .int .i64 0, .flt Go.FloatKind.f32 0]))),{ d:=none,g:=none,k:=OpK.store 4 (.t 8) (.t 19) }],body:=ACode.block 3 (.seq (.reg (some []) [oN 20 (.faddr 0 (.t 8)),oN 21 (.load false 1 (.t 20)),oN 22 (.load false 1 (.t 6)),oN 23 (.bin Go.BinOp.eql (.t 21) (.t 22)),mV 24 23,{ d:=some 25,g:=some (24,true),k:=OpK.load false 1 (.t 4) },{ d:=some 26,g:=some (24,true),k:=OpK.load false 1 (.t 7) },{ d:=some 27,g:=some (24,true),k:=OpK.bin Go.BinOp.add (.t 26) (cI 1) },{ d:=some 28,g:=some (24,true),k:=OpK.iaddr 1 (.t 25) (.t 27) },{ d:=some 29,g:=some (24,true),k:=OpK.load false 1 (.t 28) },{ d:=some 30,g:=some (24,true),k:=OpK.faddr 2 (.t 8) },{ d:=some 31,g:=some (24,true),k:=OpK.load false 1 (.t 30) },{ d:=some 32,g:=some (24,true),k:=OpK.iaddr 1 (.t 29) (.t 31) },{ d:=some 33,g:=some (24,true),k:=OpK.load false 1 (.t 32) },{ d:=some 34,g:=some (24,true),k:=OpK.faddr 3 (.t 8) },{ d:=some 35,g:=some (24,true),k:=OpK.load false 1 (.t 34) },{ d:=some 36,g:=some (24,true),k:=OpK.bin Go.BinOp.add (.t 33) (.t 35) },{ d:=some 37,g:=some (24,true),k:=OpK.load false 1 (.t 4) },{ d:=some 38,g:=some (24,true),k:=OpK.load false 1 (.t 7) },{ d:=some 39,g:=some (24,true),k:=OpK.iaddr 1 (.t 37) (.t 38) },{ d:=some 40,g:=some (24,true),k:=OpK.load false 1 (.t 39) },{ d:=some 41,g:=some (24,true),k:=OpK.load false 1 (.t 6) },{ d:=some 42,g:=some (24,true),k:=OpK.iaddr 1 (.t 40) (.t 41) },{ d:=some 43,g:=some (24,true),k:=OpK.load false 1 (.t 42) },{ d:=some 44,g:=some (24,true),k:=OpK.bin Go.BinOp.eql (.t 36) (.t 43) },oN 45 (.pick (.t 24) (.t 44) (.c (AV.bool false)))]) (.gh [.keep [1,2,3,4,5,6,7,8,12,13,45]] (.cond (.t 45) (.seq (.reg (some [(0,3),(3,5),(3,6),(4,5),(4,6),(5,7),(6,7)]) [oN 46 (.load false 1 (.t 5)),oN 47 (.faddr 1 (.t 8)),oN 48 (.load false 1 (.t 47)),oN 49 (.bslice 65050 3 1 [.t 48]),oN 50 (.append 65051 3 1 (.t 46) (.t 49)),oN 51 (.faddr 2 (.t 8)),oN 52 (.load false 1 (.t 51)),{ d:=none,g:=none,k:=OpK.store 1 (.t 5) (.t 50) },{ d:=none,g:=none,k:=OpK.store 1 (.t 6) (.t 52) }]) v10Q) ACode.skip))) }] }),(87003,{ base:=0,blks:=[Blk.row 97 4 (Row.gen [AV.agg (Row.gen [AV.int .i64 m,AV.int .i64 g0,AV.int .i64 g1,AV.list (.ints .i64 xs)])])] }),vG 87004 (.int .i64 n15),(107011,{ base:=0,blks:=[Blk.row 137 1 (Row.refs 1000107 l1)] }),(1000107,{ base:=0,blks:=[],sym:=Sym.flts 118 1 Go.FloatKind.f32 l5 }),(2000065,{ base:=0,blks:=[],sym:=Sym.dfrs j24 }),(2000107,{ base:=j14,blks:=[] })]
abbrev ZcH(m g0 g1:Int)(xs:List Int)(l1:List Nat)(l5:List (List Nat))(n13:Int)(j14:Nat)(n15 n17:Int)(l18:List Int)(n21:Int)(b22 b23:Bool)(j24:Nat)(n25 n26:Int):List AFrame×Zaa:=(Zcz m g0 g1 xs l1 l5 n13 j14 n15 n17 l18 n21 b22 b23 j24 n25 n26,ZbV m g0 g1 xs l1 l5 n13 j14 n15 n17 l18 n21 b22 b23 j24 n25 n26)
def ZId(A:Ar)(K:KT)(F:FT)(m g0 g1:Int)(xs:List Int):Prop:=let u0:=A.add (Zam xs) 1;let u1:=A.repF (A.nat u0) 0;rB [Zad (A.le 0 u0) (Zad (A.le u0 4294967296) true),A.inR .i64 u0,decide (List.length xs≤1000000)] (K (Zmk m g0 g1 xs (A.int (A.lenF u1)) u1 0 ([[]])))
theorem ZQR{A:Ar}{K:KT}{F:FT}{M:MT}{m g0 g1:Int}{xs:List Int} :Zah A tab N5 65 K F M (.run 36 (.hd)) (ZVp m g0 g1 xs) []=ZId A K F m g0 g1 xs:=by kernel_rfl
def Zgv(A:Ar)(K:KT)(F:FT)(m g0 g1:Int)(xs:List Int)(n0:Int)(l1:List Nat)(n2:Int)(l3:List (List Nat)):Prop:=let u1:=A.nat (Zam xs);let u0:=A.nthF l1 u1;let u2:=A.lenF l1;let u3:=A.lenF (List.getD l3 u0 []);let u4:=A.nat n2;let u5:=A.sub (Zam xs) 1;bB (A.lt n2 n0) (rB [A.inR .i64 (A.add n2 1),Zad (Nat.blt u4 u2) true,Zad (A.le 0 n2) (Nat.blt u4 u2),decide (ZPM (stN m)=true),decide (Zes m=true),List.all [AV.flt Go.FloatKind.f32 3351465984] fun x=>AV.bx x&&Nat.beq (Zag A x) 1] (K (Zmk m g0 g1 xs n0 (A.setF l1 u4 (0+List.length (List.map (fun l=>Blk.row 118 1 (Row.flts Go.FloatKind.f32 l)) l3))) (A.add n2 1) (List.append l3 [List.replicate (Int.toNat (stN m)) 3351465984])))) (rB [A.inR .i64 u5,decide (List.length xs≤1000000),Zad (Nat.blt u0 (List.length l3)) (Nat.blt (A.nat 0) u3),Zad (Nat.blt u0 (List.length l3)) (Zad (A.le 0 0) (Nat.blt (A.nat 0) u3)),Zad (Nat.blt u1 u2) true,Zad (A.le 0 (Zam xs)) (Nat.blt u1 u2),decide (List.length xs≤1000000)] (K (Zk3 m g0 g1 xs l1 u5 (List.set l3 (A.nthF l1 u1-0) (A.setF (List.getD l3 u0 []) (A.nat 0) 0)) 0)))
theorem Zla{A:Ar}{K:KT}{F:FT}{M:MT}{m g0 g1:Int}{xs:List Int}{n0:Int}{l1:List Nat}{n2:Int}{l3:List (List Nat)} :Zah A tab N5 65 K F M (.run 6 (.tf (.run 16 (.hd)) (.run 16 (.hd)))) (Zjk m g0 g1 xs n0 l1 n2 l3) (Zgn m g0 g1 xs n0 l1 n2 l3)=Zgv A K F m g0 g1 xs n0 l1 n2 l3:=by kernel_rfl
def Zgw(A:Ar)(K:KT)(F:FT)(m g0 g1:Int)(xs:List Int)(l1:List Nat)(n4:Int)(l5:List (List Nat))(j6:Nat):Prop:=bB (A.le 0 n4) (rB [decide (Zes m=true)] (K (Zf2 m g0 g1 xs l1 n4 (stN m) (A.le 0 n4) (A.le 0 n4) (j6+1) 0 l5))) (rB [decide (ZzC m xs=true)] (K (Zfk m g0 g1 xs l1 l5 (ZdR m xs) (0+List.length (List.replicate j6 Blk.dfr)) 0 0 0 [])))
theorem Zlr{A:Ar}{K:KT}{F:FT}{M:MT}{m g0 g1:Int}{xs:List Int}{l1:List Nat}{n4:Int}{l5:List (List Nat)}{j6:Nat} :Zah A tab N5 65 K F M (.run 7 (.tf (.run 33 (.hd)) (.run 32 (.hd)))) (ZfE m g0 g1 xs l1 n4 l5 j6) (ZdG m g0 g1 xs l1 n4 l5 j6)=Zgw A K F m g0 g1 xs l1 n4 l5 j6:=by kernel_rfl
def Zgf(A:Ar)(K:KT)(F:FT)(m g0 g1:Int)(xs:List Int)(l1:List Nat)(n4 n7:Int)(b8 b9:Bool)(j10:Nat)(n11:Int)(l12:List (List Nat)):Prop:=bB (A.lt n11 n7) (K (ZfT m g0 g1 xs l1 n4 n7 b8 b9 j10 n11 0 l12)) (rB [A.inR .i64 (A.sub n4 1)] (K (Zk3 m g0 g1 xs l1 (A.sub n4 1) l12 j10)))
theorem Zmi{A:Ar}{K:KT}{F:FT}{M:MT}{m g0 g1:Int}{xs:List Int}{l1:List Nat}{n4 n7:Int}{b8 b9:Bool}{j10:Nat}{n11:Int}{l12:List (List Nat)} :Zah A tab N5 65 K F M (.run 6 (.tf (.run 15 (.hd)) (.run 22 (.hd)))) (Zff m g0 g1 xs l1 n4 n7 b8 b9 j10 n11 l12) (ZdW m g0 g1 xs l1 n4 n7 b8 b9 j10 n11 l12)=Zgf A K F m g0 g1 xs l1 n4 n7 b8 b9 j10 n11 l12:=by kernel_rfl
def Ziy(A:Ar)(K:KT)(F:FT)(m g0 g1:Int)(xs:List Int)(l1:List Nat)(l5:List (List Nat))(n13:Int)(j14:Nat)(n15:Int)(j16:Nat)(n17:Int)(l18:List Int):Prop:=let u1:=A.nthF l1 (A.nat 0);let u0:=A.f2i Go.FloatKind.f32 (A.nthF (List.getD l5 u1 []) (A.nat 0));let u2:=A.lenF (List.getD l5 u1 []);bB (A.lt n15 n13) (rB [decide (Zes m=true)] (K (ZfX m g0 g1 xs l1 l5 n13 j14 n15 n17 l18 (stN m) (A.lt n15 n13) (A.lt n15 n13) (j16+1) 0))) (rB [Zad (Option.isSome u0) (A.inR .i64 (Option.getD u0 0)),Zad (Nat.blt u1 (List.length l5)) (Zad (Nat.blt (A.nat 0) u2) true),Zad (Nat.blt u1 (List.length l5)) (Zad (A.le 0 0) (Nat.blt (A.nat 0) u2)),Zad (Nat.blt (A.nat 0) (A.lenF l1)) true,Zad (A.le 0 0) (Nat.blt (A.nat 0) (A.lenF l1))] (F (AV.tup [AV.row 0 0,AV.int .i64 (Option.getD u0 0)]) (some { e:=3,sz:=1,r:=.ints .i64 l18 })))
theorem ZmS{A:Ar}{K:KT}{F:FT}{M:MT}{m g0 g1:Int}{xs:List Int}{l1:List Nat}{l5:List (List Nat)}{n13:Int}{j14:Nat}{n15:Int}{j16:Nat}{n17:Int}{l18:List Int} :Zah A tab N5 65 K F M (.run 6 (.tf (.run 39 (.hd)) (.run 6 (.fn)))) (Zcd m g0 g1 xs l1 l5 n13 j14 n15 j16 n17 l18) (ZbF m g0 g1 xs l1 l5 n13 j14 n15 j16 n17 l18)=Ziy A K F m g0 g1 xs l1 l5 n13 j14 n15 j16 n17 l18:=by kernel_rfl
def ZcF(A:Ar)(K:KT)(F:FT)(m g0 g1:Int)(xs:List Int)(l1:List Nat)(n4 n7:Int)(b8 b9:Bool)(j10:Nat)(n11 n19:Int)(l20:List (List Nat)):Prop:=let ue:=A.add n4 1;let uj:=A.nat ue;let u4:=A.nthF l1 uj;let uc:=A.nat (nxS m n11 n19);let u5:=A.mul 2 n4;let uh:=A.nat u5;let ui:=A.add u5 1;let u8:=A.nat ui;let u2:=A.add (coI (A.nth [oS m g0 n11 n19,oS m g1 n11 n19] 0) (A.nth xs uh)) (coI (A.nth [oS m g0 n11 n19,oS m g1 n11 n19] 1) (A.nth xs u8));let u0:=A.fadd Go.FloatKind.f32 (A.nthF (List.getD l20 u4 []) uc) (A.i2f Go.FloatKind.f32 u2);let ug:=A.nat n4;let u1:=A.nthF l1 ug;let u9:=A.nat n11;let uk:=A.nthF (List.getD l20 u1 []) u9;let u3:=rB [!A.not true] (rB [A.inR .i64 (A.add n19 1)] (K (ZfT m g0 g1 xs l1 n4 n7 b8 b9 j10 n11 (A.add n19 1) (List.set l20 (A.nthF l1 ug-0) (A.setF (List.getD l20 u1 []) u9 (mmF A Go.FloatKind.f32 uk (Option.getD u0 0)))))));let u6:=A.lenF (List.getD l20 u1 []);let u7:=A.len [oS m g0 n11 n19,oS m g1 n11 n19];let ua:=A.lenF l1;let ub:=rB [A.inR .i64 (A.add n11 1)] (K (Zf2 m g0 g1 xs l1 n4 n7 b8 b9 j10 (A.add n11 1) l20));let ud:=A.lenF (List.getD l20 u4 []);let uf:=A.ford Go.FloatKind.f32 uk (Option.getD u0 0);let ul:=A.len xs;bB (A.lt n19 2) (qB [decide (ZzC m xs=true),A.eq n19 1] (bB (A.le (ZdR m xs) n4) ub (rB [Zad (Nat.blt u1 (List.length l20)) (Nat.blt u9 u6),Zad (Nat.blt u1 (List.length l20)) (Zad (A.le 0 n11) (Nat.blt u9 u6)),Option.isSome uf,Option.isSome u0,Zad (Nat.blt u4 (List.length l20)) (Zad (Nat.blt uc ud) true),Zad (Nat.blt u4 (List.length l20)) (Zad (A.le 0 (nxS m n11 n19)) (Nat.blt uc ud)),Zad (Nat.blt uj ua) true,Zad (A.le 0 ue) (Nat.blt uj ua),A.inR .i64 ue,Zad (Nat.blt u1 (List.length l20)) (Zad (Nat.blt u9 u6) true),Zad (Nat.blt u1 (List.length l20)) (Zad (A.le 0 n11) (Nat.blt u9 u6)),Zad (Nat.blt ug ua) true,Zad (A.le 0 n4) (Nat.blt ug ua),Zad (Nat.blt ug ua) true,Zad (A.le 0 n4) (Nat.blt ug ua),A.inR .i64 u2,decide (-1000000≤A.nth xs u8∧A.nth xs u8≤1000000),Zad (Zad (A.le 0 ui) (Nat.blt u8 ul)) true,A.inR .i64 ui,A.inR .i64 u5,Nat.blt 1 u7,decide (-1000000≤A.nth xs uh∧A.nth xs uh≤1000000),Zad (Zad (A.le 0 u5) (Nat.blt uh ul)) true,A.inR .i64 u5,Nat.blt 0 u7,Nat.beq u7 2,Nat.blt 0 (A.len [0,0]),decide (ZfL m g0 g1 n11 n19=true)] u3)) (rB [!A.eq n19 1] (rB [Zad (Nat.blt u1 (List.length l20)) (Nat.blt u9 u6),Zad (Nat.blt u1 (List.length l20)) (Zad (A.le 0 n11) (Nat.blt u9 u6)),Option.isSome uf,Option.isSome u0,Zad (Nat.blt u4 (List.length l20)) (Zad (Nat.blt uc ud) true),Zad (Nat.blt u4 (List.length l20)) (Zad (A.le 0 (nxS m n11 n19)) (Nat.blt uc ud)),Zad (Nat.blt uj ua) true,Zad (A.le 0 ue) (Nat.blt uj ua),A.inR .i64 ue,Zad (Nat.blt u1 (List.length l20)) (Zad (Nat.blt u9 u6) true),Zad (Nat.blt u1 (List.length l20)) (Zad (A.le 0 n11) (Nat.blt u9 u6)),Zad (Nat.blt ug ua) true,Zad (A.le 0 n4) (Nat.blt ug ua),Zad (Nat.blt ug ua) true,Zad (A.le 0 n4) (Nat.blt ug ua),A.inR .i64 u2,decide (-1000000≤A.nth xs u8∧A.nth xs u8≤1000000),Zad (Zad (A.le 0 ui) (Nat.blt u8 ul)) true,A.inR .i64 ui,A.inR .i64 u5,Nat.blt 1 u7,decide (-1000000≤A.nth xs uh∧A.nth xs uh≤1000000),Zad (Zad (A.le 0 u5) (Nat.blt uh ul)) true,A.inR .i64 u5,Nat.blt 0 u7,Nat.beq u7 2,Nat.blt 0 (A.len [0,0]),decide (ZfL m g0 g1 n11 n19=true)] u3))) ub
theorem Zlw{A:Ar}{K:KT}{F:FT}{M:MT}{m g0 g1:Int}{xs:List Int}{l1:List Nat}{n4 n7:Int}{b8 b9:Bool}{j10:Nat}{n11 n19:Int}{l20:List (List Nat)} :Zah A tab N5 65 K F M (.run 6 (.tf (.run 10 (.tf (.run 1 (.tf (.run 8 (.hd)) (.run 41 (.fy (.run 8 (.hd)))))) (.run 1 (.fy (.run 41 (.fy (.run 8 (.hd)))))))) (.run 8 (.hd)))) (ZdE m g0 g1 xs l1 n4 n7 b8 b9 j10 n11 n19 l20) (ZcE m g0 g1 xs l1 n4 n7 b8 b9 j10 n11 n19 l20)=ZcF A K F m g0 g1 xs l1 n4 n7 b8 b9 j10 n11 n19 l20:=by kernel_rfl
def Zgu(A:Ar)(K:KT)(F:FT)(m g0 g1:Int)(xs:List Int)(l1:List Nat)(l5:List (List Nat))(n13:Int)(j14:Nat)(n15 n17:Int)(l18:List Int)(n21:Int)(b22 b23:Bool)(j24:Nat)(n25:Int):Prop:=bB (A.lt n25 n21) (K (ZcH m g0 g1 xs l1 l5 n13 j14 n15 n17 l18 n21 b22 b23 j24 n25 0)) (rB [A.inR .i64 (A.add n15 1)] (K (Zfk m g0 g1 xs l1 l5 n13 j14 (A.add n15 1) j24 n17 l18)))
theorem ZlO{A:Ar}{K:KT}{F:FT}{M:MT}{m g0 g1:Int}{xs:List Int}{l1:List Nat}{l5:List (List Nat)}{n13:Int}{j14:Nat}{n15 n17:Int}{l18:List Int}{n21:Int}{b22 b23:Bool}{j24:Nat}{n25:Int} :Zah A tab N5 65 K F M (.run 6 (.tf (.run 15 (.hd)) (.run 12 (.hd)))) (Zi8 m g0 g1 xs l1 l5 n13 j14 n15 n17 l18 n21 b22 b23 j24 n25) (Zga m g0 g1 xs l1 l5 n13 j14 n15 n17 l18 n21 b22 b23 j24 n25)=Zgu A K F m g0 g1 xs l1 l5 n13 j14 n15 n17 l18 n21 b22 b23 j24 n25:=by kernel_rfl
def Zbl(A:Ar)(K:KT)(F:FT)(m g0 g1:Int)(xs:List Int)(l1:List Nat)(l5:List (List Nat))(n13:Int)(j14:Nat)(n15 n17:Int)(l18:List Int)(n21:Int)(b22 b23:Bool)(j24:Nat)(n25 n26:Int):Prop:=let u9:=A.add n15 1;let uk:=A.nat u9;let u4:=A.nthF l1 uk;let uc:=A.nat (nxS m n25 n26);let u3:=A.mul 2 n15;let ug:=A.nat u3;let uh:=A.add u3 1;let ua:=A.nat uh;let u2:=A.add (coI (A.nth [oS m g0 n25 n26,oS m g1 n25 n26] 0) (A.nth xs ug)) (coI (A.nth [oS m g0 n25 n26,oS m g1 n25 n26] 1) (A.nth xs ua));let u0:=A.fadd Go.FloatKind.f32 (A.nthF (List.getD l5 u4 []) uc) (A.i2f Go.FloatKind.f32 u2);let u1:=rB [!A.not true] (rB [A.inR .i64 (A.add n26 1)] (K (ZcH m g0 g1 xs l1 l5 n13 j14 n15 n17 l18 n21 b22 b23 j24 n25 (A.add n26 1))));let uj:=A.nat n15;let u5:=A.nthF l1 uj;let u6:=A.len [oS m g0 n25 n26,oS m g1 n25 n26];let u7:=rB [A.not false] (rB [A.inR .i64 u9] (K (Zfk m g0 g1 xs l1 l5 n13 j14 u9 j24 (nxS m n25 n26) (A.app l18 [n26]))));let ui:=A.nat n17;let u8:=A.nthF (List.getD l5 u5 []) ui;let ub:=rB [A.inR .i64 (A.add n25 1)] (K (ZfX m g0 g1 xs l1 l5 n13 j14 n15 n17 l18 n21 b22 b23 j24 (A.add n25 1)));let ud:=A.lenF (List.getD l5 u5 []);let ue:=A.lenF (List.getD l5 u4 []);let uf:=A.lenF l1;let ul:=A.len xs;let um:=A.len l18+A.len [n26];let un:=rB [!A.eq n25 n17] u1;bB (A.lt n26 2) (qB [decide (ZzC m xs=true),A.eq n26 1] (bB (A.le (ZdR m xs) n15) ub (rB [A.inR .i64 u2,decide (-1000000≤A.nth xs ua∧A.nth xs ua≤1000000),Zad (Zad (A.le 0 uh) (Nat.blt ua ul)) true,A.inR .i64 uh,A.inR .i64 u3,Nat.blt 1 u6,decide (-1000000≤A.nth xs ug∧A.nth xs ug≤1000000),Zad (Zad (A.le 0 u3) (Nat.blt ug ul)) true,A.inR .i64 u3,Nat.blt 0 u6,Nat.beq u6 2,Nat.blt 0 (A.len [0,0]),decide (ZfL m g0 g1 n25 n26=true)] (qB [Zad (Nat.blt u5 (List.length l5)) (Zad (Nat.blt ui ud) true),Zad (Nat.blt u5 (List.length l5)) (Zad (A.le 0 n17) (Nat.blt ui ud)),Zad (Nat.blt uj uf) true,Zad (A.le 0 n15) (Nat.blt uj uf),Option.isSome u0,Zad (Nat.blt u4 (List.length l5)) (Zad (Nat.blt uc ue) true),Zad (Nat.blt u4 (List.length l5)) (Zad (A.le 0 (nxS m n25 n26)) (Nat.blt uc ue)),Zad (Nat.blt uk uf) true,Zad (A.le 0 u9) (Nat.blt uk uf),A.inR .i64 u9,A.eq n25 n17] (qB [asB true  (match A.ford Go.FloatKind.f32 (Option.getD u0 0) u8,some Ordering.eq with  |none,none=>true  |some a,some b=>a==b  |x,x_1=>false)] (rB [Nat.ble um 4294967296,List.all [AV.int .i64 n26] fun x=>AV.bx x&&Nat.beq (Zag A x) 1] u7) (rB [!match A.ford Go.FloatKind.f32 (Option.getD u0 0) u8,some Ordering.eq with  |none,none=>true  |some a,some b=>a==b  |x,x_1=>false] u1)) un))) (rB [!A.eq n26 1] (rB [A.inR .i64 u2,decide (-1000000≤A.nth xs ua∧A.nth xs ua≤1000000),Zad (Zad (A.le 0 uh) (Nat.blt ua ul)) true,A.inR .i64 uh,A.inR .i64 u3,Nat.blt 1 u6,decide (-1000000≤A.nth xs ug∧A.nth xs ug≤1000000),Zad (Zad (A.le 0 u3) (Nat.blt ug ul)) true,A.inR .i64 u3,Nat.blt 0 u6,Nat.beq u6 2,Nat.blt 0 (A.len [0,0]),decide (ZfL m g0 g1 n25 n26=true)] (qB [Zad (Nat.blt u5 (List.length l5)) (Zad (Nat.blt ui ud) true),Zad (Nat.blt u5 (List.length l5)) (Zad (A.le 0 n17) (Nat.blt ui ud)),Zad (Nat.blt uj uf) true,Zad (A.le 0 n15) (Nat.blt uj uf),Option.isSome u0,Zad (Nat.blt u4 (List.length l5)) (Zad (Nat.blt uc ue) true),Zad (Nat.blt u4 (List.length l5)) (Zad (A.le 0 (nxS m n25 n26)) (Nat.blt uc ue)),Zad (Nat.blt uk uf) true,Zad (A.le 0 u9) (Nat.blt uk uf),A.inR .i64 u9,A.eq n25 n17] (qB [asB true  (match A.ford Go.FloatKind.f32 (Option.getD u0 0) u8,some Ordering.eq with  |none,none=>true  |some a,some b=>a==b  |x,x_1=>false)] (rB [Nat.ble um 4294967296,List.all [AV.int .i64 n26] fun x=>AV.bx x&&Nat.beq (Zag A x) 1] u7) (rB [!match A.ford Go.FloatKind.f32 (Option.getD u0 0) u8,some Ordering.eq with  |none,none=>true  |some a,some b=>a==b  |x,x_1=>false] u1)) un)))) ub
theorem Zgo{A:Ar}{K:KT}{F:FT}{M:MT}{m g0 g1:Int}{xs:List Int}{l1:List Nat}{l5:List (List Nat)}{n13:Int}{j14:Nat}{n15 n17:Int}{l18:List Int}{n21:Int}{b22 b23:Bool}{j24:Nat}{n25 n26:Int} :Zah A tab N5 65 K F M (.run 6 (.tf (.run 10 (.tf (.run 1 (.tf (.run 8 (.hd)) (.run 36 (.tf (.run 1 (.tf (.run 7 (.ty (.run 11 (.hd)))) (.run 6 (.fy (.run 8 (.hd)))))) (.run 1 (.fy (.run 6 (.fy (.run 8 (.hd)))))))))) (.run 1 (.fy (.run 36 (.tf (.run 1 (.tf (.run 7 (.ty (.run 11 (.hd)))) (.run 6 (.fy (.run 8 (.hd)))))) (.run 1 (.fy (.run 6 (.fy (.run 8 (.hd)))))))))))) (.run 8 (.hd)))) (Zcz m g0 g1 xs l1 l5 n13 j14 n15 n17 l18 n21 b22 b23 j24 n25 n26) (ZbV m g0 g1 xs l1 l5 n13 j14 n15 n17 l18 n21 b22 b23 j24 n25 n26)=Zbl A K F m g0 g1 xs l1 l5 n13 j14 n15 n17 l18 n21 b22 b23 j24 n25 n26:=by kernel_rfl
end Go.Proofs.Ytklbmkllepkjcaa
/- Contracts as a list. No condition. -/
namespace Go.Proofs.Ytklbmkllepkjcaa
section
variable (m p q:Int)(so:List Int)
def upP(D:List Int)(t:Nat)(s:Nat)(b:Int)(cur:Int):Int:=max cur (D.getD (nxS m s b).toNat 0+gnI m p q so t s b)
def ZvE(D:List Int)(t s:Nat):Int:=if t<Zb4 m so then upP m p q so D t s 1 (upP m p q so D t s 0 (-100000))else upP m p q so D t s 0 (-100000)
def dpP:Nat→List Int
 |0=>(List.range (stS m)).map fun s=>if s=0 then 0 else -100000
 |n+1=>(List.range (stS m)).map fun s=>ZvE m p q so (dpP n) (Zab so-1-n) s
def tbP:Nat→Nat→Nat→List Int
 |0,_,_=>[]
 |j+1,t,s=>
  if(dpP m p q so (Zab so-t-1)).getD (nxS m s 0).toNat 0+gnI m p q so t s 0=(dpP m p q so (Zab so-t)).getD s 0 then 0::tbP j (t+1) (nxS m s 0).toNat
  else if(dpP m p q so (Zab so-t-1)).getD (nxS m s 1).toNat 0+gnI m p q so t s 1=(dpP m p q so (Zab so-t)).getD s 0 then 1::tbP j (t+1) (nxS m s 1).toNat
  else tbP j (t+1) s
theorem Ziq(n:Nat):(dpP m p q so n).length=stS m:=by cases n<;>simp[dpP]
theorem ZBG{s:Nat}(h:s<stS m):(dpP m p q so 0).getD s 0=if s=0 then 0 else -100000:=by
 rw[dpP,List.getD_eq_getElem?_getD,List.getElem?_map,List.getElem?_range h];rfl
theorem ZBz{n s:Nat}(h:s<stS m):(dpP m p q so (n+1)).getD s 0=ZvE m p q so (dpP m p q so n) (Zab so-1-n) s:=by
 rw[dpP,List.getD_eq_getElem?_getD,List.getElem?_map,List.getElem?_range h];rfl
end
def Way(n:Nat)(a b:Int):Prop:=(a= -2000000∧ -100000≤b∧b≤ -100000+14*n)∨(-14*n≤a∧b=a)
theorem ZC7{m p q:Int}{so D E:List Int}{n:Nat}(hn:n≤303)(hg:ZaM so (-7) 7=0)(t s:Nat)(b:Int)(hD:Way n (D.getD (nxS m s b).toNat 0) (E.getD (nxS m s b).toNat 0)){x y:Int}(hc:Way (n+1) x y):Way (n+1) (upR m p q so D t s b x) (upP m p q so E t s b y):=by
 have h1:=Zlo (m:=m) (p:=p) (q:=q) hg t s b
 unfold upR upP Way at*
 split<;>omega
theorem ZGr{m p q:Int}{so:List Int}(h:OkC m p q so){n:Nat}(hn:n<Zab so)(t:Nat){s:Nat}(hs:s<stS m){D E:List Int}(hD:∀s,s<stS m→Way n (D.getD s 0) (E.getD s 0)):Way (n+1) (ZnN m p q so D t s) (ZvE m p q so E t s):=by
 obtain⟨hg,_,hl2,hl3⟩:=h.soft
 have hn':n≤303:=by unfold Zab at hn;omega
 have h0:Way (n+1) (upR m p q so D t s 0 (-2000000)) (upP m p q so E t s 0 (-100000)):=ZC7 hn' hg t s 0 (hD _ (Zb6 h hs (Or.inl rfl)).2.2) (Or.inl ⟨rfl,by omega,by omega⟩)
 unfold ZnN ZvE
 split
 ·exact ZC7 hn' hg t s 1 (hD _ (Zb6 h hs (Or.inr rfl)).2.2) h0
 ·exact h0
theorem ZnS{m p q:Int}{so:List Int}(h:OkC m p q so):∀n:Nat,n≤Zab so→∀s,s<stS m→Way n ((dpR m p q so n).getD s 0) ((dpP m p q so n).getD s 0)
 |0,_,s,hs=>by
  rw[Zpi m p q so hs,ZBG m p q so hs]
  unfold Way;split<;>omega
 |n+1,hn,s,hs=>by
  rw[Zko m p q so hs,ZBz m p q so hs]
  exact ZGr h (by omega) _ hs (ZnS h n (by omega))
theorem ZFJ{m:Int}(hm:m=1∨m=2∨m=3):(nxS m (0:Nat) 0).toNat=0:=by
 rcases hm with rfl |rfl |rfl<;>decide
theorem Zmy{m p q:Int}{so:List Int}(h:OkC m p q so):∀n:Nat,n≤Zab so→ -14*(n:Int)≤(dpR m p q so n).getD 0 0
 |0,_=>by
  have h2:=Zcp (Zaz h.cv).1
  rw[Zpi m p q so (by omega)];simp
 |n+1,hn=>by
  have h2:=Zcp (Zaz h.cv).1
  obtain⟨hg,_,hl2,hl3⟩:=h.soft
  have ih:=Zmy h n (by omega)
  have hgl:=Zlo (m:=m) (p:=p) (q:=q) hg (Zab so-1-n) (0:Nat) 0
  have h0: -14*((n+1:Nat):Int)≤upR m p q so (dpR m p q so n) (Zab so-1-n) 0 0 (-2000000):=by
   unfold upR
   rw[ZFJ (Zaz h.cv).1]
   have:Zab so≤303:=by unfold Zab;omega
   rw[if_pos (by omega)];omega
  rw[Zko m p q so (by omega),ZnN]
  split
  ·unfold upR at h0 ⊢;split<;>omega
  ·exact h0
theorem ZzG{n:Nat}{a0 A0 a1 A1 x X g0 g1:Int}(hn:n≤303)(w:Way (n+1) x X)(w0:Way n a0 A0)(w1:Way n a1 A1)(hg0: -14≤g0∧g0≤14)(hg1: -14≤g1∧g1≤14)(hw: -14*((n+1:Nat):Int)≤x)
 (e:x=if -1000000<a1 then max (if -1000000<a0 then max (-2000000) (a0+g0)else -2000000) (a1+g1)else if -1000000<a0 then max (-2000000) (a0+g0)else -2000000):
 (A0+g0=X↔a0+g0=x)∧(a0+g0=x→ -14*(n:Int)≤a0)∧(¬a0+g0=x→A1+g1=X∧ -14*(n:Int)≤a1):=by
 unfold Way at*
 split at e<;>split at e<;>refine⟨⟨fun h=>?_,fun h=>?_⟩,fun h=>?_,fun h=>⟨?_,?_⟩⟩<;>omega
theorem Zyd{m p q:Int}{so:List Int}(h:OkC m p q so):∀(j t s:Nat),t+j=Zb4 m so→s<stS m→ -14*((Zab so-t:Nat):Int)≤(dpR m p q so (Zab so-t)).getD s 0→tbP m p q so j t s=tbR m p q so j t s
 |0,t,s,_,_,_=>rfl
 |j+1,t,s,ht,hs,hw=>by
  have hm:=(Zaz h.cv).1
  obtain⟨hg,_,hl2,hl3⟩:=h.soft
  have hb:Zb4 m so≤Zab so∧Zab so≤303:=by unfold Zab Zb4;omega
  have hg0:=Zlo (m:=m) (p:=p) (q:=q) hg t s 0
  have hg1:=Zlo (m:=m) (p:=p) (q:=q) hg t s 1
  obtain⟨_,a2,a3⟩:=Zb6 h hs (b:=0) (Or.inl rfl)
  obtain⟨_,b2,b3⟩:=Zb6 h hs (b:=1) (Or.inr rfl)
  obtain⟨n,hn⟩:∃n,Zab so-t=n+1:=⟨Zab so-t-1,by omega⟩
  have hn1:Zab so-t-1=n:=by omega
  have w:=ZnS h (n+1) (by omega) s hs
  have w0:=ZnS h n (by omega) _ a3
  have w1:=ZnS h n (by omega) _ b3
  have e0:=Zko m p q so hs (n:=n)
  rw[show Zab so-1-n=t by omega,ZnN,if_pos (by omega),upR,upR]at e0
  have i0:=Zyd h j (t+1) (nxS m s 0).toNat (by omega) a3
  have i1:=Zyd h j (t+1) (nxS m s 1).toNat (by omega) b3
  rw[show Zab so-(t+1)=n by omega]at i0 i1
  have c0:((nxS m s 0).toNat:Int)=nxS m s 0:=Int.toNat_of_nonneg a2
  have c1:((nxS m s 1).toNat:Int)=nxS m s 1:=Int.toNat_of_nonneg b2
  rw[c0]at i0;rw[c1]at i1
  rw[hn]at hw
  obtain⟨r1,r2,r3⟩:=ZzG (by omega) w w0 w1 hg0 hg1 hw e0
  rw[tbP,tbR,hn1,hn,Int.toNat_natCast]
  by_cases hq:(dpR m p q so n).getD (nxS m s 0).toNat 0+gnI m p q so t s 0=(dpR m p q so (n+1)).getD s 0
  ·rw[if_pos (r1.2 hq),if_pos hq,i0 (r2 hq)]
  ·rw[if_neg (fun e=>hq (r1.1 e)),if_neg hq,if_pos (r3 hq).1,i1 (r3 hq).2]
theorem ZAP{m p q:Int}{so:List Int}(h:OkC m p q so):tbP m p q so (Zb4 m so) 0 0=blI m p q so∧(dpP m p q so (Zab so)).getD 0 0=bvI m p q so:=by
 have h2:=Zcp (Zaz h.cv).1
 have hz:=Zmy h (Zab so) (Nat.le_refl _)
 refine⟨Zyd h _ 0 0 (by omega) (by omega) (by simpa using hz),?_⟩
 have w:=ZnS h (Zab so) (Nat.le_refl _) 0 (by omega)
 obtain⟨hg,_,hl2,hl3⟩:=h.soft
 have:Zab so≤303:=by unfold Zab;omega
 unfold bvI
 unfold Way at w
 omega
end Go.Proofs.Ytklbmkllepkjcaa
/- Whole numbers below 2^24 in single precision. No condition. -/
namespace Go.Proofs.Ytklbmkllepkjcaa
open Ieee
theorem Zbr(n:Nat):1≤2^n:=Nat.one_le_two_pow
theorem Zy7(w:Toward)(s:Bool)(n:Nat):w.cut s n 0=n:=by
 unfold Toward.cut
 simp only[Nat.zero_min,Nat.shiftLeft_zero,Nat.div_one,Nat.mod_one,Nat.mul_zero]
 cases w<;>simp
theorem ZoA{m:Nat}(k:Nat)(h:0<m):(m*2^k).log2=m.log2+k:=by
 have h2:m*2^k≠0:=by have:=Zbr k;have:=Nat.mul_le_mul h this;omega
 apply Nat.le_antisymm
 ·have:(m*2^k).log2<m.log2+k+1:=by
   rw[Nat.log2_lt h2,show m.log2+k+1=(m.log2+1)+k by omega,Nat.pow_add]
   exact Nat.mul_lt_mul_of_pos_right ((Nat.log2_lt (by omega)).1 (by omega)) (Zbr k)
  omega
 ·rw[Nat.le_log2 h2,Nat.pow_add]
  exact Nat.mul_le_mul_right _ ((Nat.le_log2 (by omega)).1 (Nat.le_refl _))
theorem Zxv(w:Toward)(s:Bool)(m d:Nat):w.cut s (m*2^d) d=m:=by
 rcases Nat.eq_zero_or_pos m with rfl |h
 ·unfold Toward.cut
  simp only[Nat.zero_mul,Nat.zero_div,Nat.zero_mod,Nat.mul_zero]
  cases w<;>simp<;>(try (rw [Nat.shiftLeft_eq];have:=Zbr (min d (0+2));omega))
 ·unfold Toward.cut
  have h1:min d ((m*2^d).log2+2)=d:=by rw[ZoA d h];omega
  have h3:=Zbr d
  simp only[h1,Nat.shiftLeft_eq,Nat.one_mul,Nat.mul_div_cancel _ h3,Nat.mul_mod_left,Nat.mul_zero]
  cases w<;>simp<;>omega
theorem Zsv{s:Bool}{m K:Nat}(h:m≠0)(h2:m<2^24):single.nearest s (m*2^K) (-(K:Int))=single.word s ((126+m.log2)*2^23+m*2^(23-m.log2)):=by
 have hL:m.log2<24:=(Nat.log2_lt h).2 h2
 have hm:m*2^K≠0:=by have:=Nat.mul_le_mul (Nat.pos_of_ne_zero h) (Zbr K);omega
 have hlast:max (-(K:Int)+(m*2^K).log2-single.fractionBits) single.leastPlace=(m.log2:Int)-23:=by
  rw[ZoA K (Nat.pos_of_ne_zero h)]
  show max (-(K:Int)+((m.log2+K:Nat):Int)-23) (-149)=_
  omega
 unfold Format.nearest
 rw[if_neg hm]
 simp only[hlast]
 have hk:m*2^(23-m.log2)<2^24:=by
  have h5:2^24=2^(m.log2+1)*2^(23-m.log2):=by rw[←Nat.pow_add];congr 1;omega
  rw[h5]
  exact Nat.mul_lt_mul_of_pos_right ((Nat.log2_lt h).1 (by omega)) (Zbr _)
 have hc:Toward.even.cut s ((m*2^K) <<< (-(K:Int)-((m.log2:Int)-23)).toNat) ((m.log2:Int)-23- -(K:Int)).toNat=m*2^(23-m.log2):=by
  rcases Nat.le_total (23-m.log2) K with hK |hK
  ·rw[show (-(K:Int)-((m.log2:Int)-23)).toNat=0 by omega,Nat.shiftLeft_zero,show((m.log2:Int)-23- -(K:Int)).toNat=K-(23-m.log2) by omega]
   have:m*2^K=m*2^(23-m.log2)*2^(K-(23-m.log2)):=by rw[Nat.mul_assoc,←Nat.pow_add];congr 2;omega
   rw[this,Zxv]
  ·rw[show ((m.log2:Int)-23- -(K:Int)).toNat=0 by omega,Zy7,Nat.shiftLeft_eq,show(-(K:Int)-((m.log2:Int)-23)).toNat=23-m.log2-K by omega,Nat.mul_assoc,←Nat.pow_add]
   congr 2;omega
 rw[hc]
 congr 1
 show min (((m.log2:Int)-23- -149).toNat*2^23+m*2^(23-m.log2)) (255*2^23)=_
 rw[show ((m.log2:Int)-23- -149).toNat=126+m.log2 by omega]
 have:(126+m.log2)*2^23≤149*2^23:=Nat.mul_le_mul_right _ (by omega)
 omega
def wN(n:Int):Nat:=FloatKind.nearest .f32 n
theorem ZAe(s:Bool)(m K:Nat)(h2:m<2^24):single.nearest s (m*2^K) (-(K:Int))=single.nearest s m 0:=by
 by_cases h:m=0
 ·subst h;rw[Nat.zero_mul];unfold Format.nearest;rw[if_pos rfl,if_pos rfl]
 ·rw[Zsv h h2]
  have:=Zsv (s:=s) (m:=m) (K:=0) h h2
  simpa using this.symm
theorem ZvX{s:Bool}{m:Nat}(h:m≠0)(h2:m<2^24):single.read (single.nearest s m 0)=.number s (m*2^(23-m.log2)) (-((23-m.log2:Nat):Int)):=by
 have h1:=Zsv (s:=s) (m:=m) (K:=0) h h2
 rw[Nat.pow_zero,Nat.mul_one,show -((0:Nat):Int)=0 from rfl]at h1
 rw[h1]
 have hL:m.log2<24:=(Nat.log2_lt h).2 h2
 generalize hL':m.log2=L at*
 have hk:m*2^(23-L)<2^24:=by
  have h5:2^24=2^(L+1)*2^(23-L):=by rw[←Nat.pow_add];congr 1;omega
  rw[h5]
  exact Nat.mul_lt_mul_of_pos_right ((Nat.log2_lt h).1 (by omega)) (Zbr _)
 have hk2:2^23≤m*2^(23-L):=by
  have h5:2^23=2^L*2^(23-L):=by rw[←Nat.pow_add];congr 1;omega
  rw[h5]
  exact Nat.mul_le_mul_right _ ((Nat.le_log2 h).1 (by omega))
 generalize m*2^(23-L)=k at*
 have e1:single.word s ((126+L)*2^23+k)/single.signWeight%2=s.toNat:=by
  show single.word s ((126+L)*2^23+k)/2^31%2=_
  unfold Format.word
  cases s
  ·show((126+L)*2^23+k)/2^31%2=0;omega
  ·show(2^31+((126+L)*2^23+k))/2^31%2=1;omega
 have e2:single.word s ((126+L)*2^23+k)%single.signWeight=(126+L)*2^23+k:=by
  show single.word s ((126+L)*2^23+k)%2^31=_
  unfold Format.word
  cases s
  ·show((126+L)*2^23+k)%2^31=_;omega
  ·show(2^31+((126+L)*2^23+k))%2^31=_;omega
 unfold Format.read
 have eb:single.binade=2^23:=rfl
 have ei:single.infRung=255*2^23:=rfl
 have el:single.leastPlace= -149:=rfl
 simp only[e1,e2,eb,ei,el]
 rw[if_neg (show ¬((126+L)*2^23+k<2^23) by omega),if_pos (show (126+L)*2^23+k<255*2^23 by omega)]
 have e3:((126+L)*2^23+k)%2^23=k-2^23:=by omega
 have e4:((126+L)*2^23+k)/2^23=127+L:=by omega
 rw[e3,e4]
 have g1:(s.toNat==1)=s:=by cases s<;>rfl
 have g2:2^23+(k-2^23)=k:=by omega
 have g3:(-149:Int)+((127+L-1:Nat):Int)= -((23-L:Nat):Int):=by omega
 rw[g1,g2,g3]
theorem ZIk(n:Int)(h: -16777216<n∧n<16777216):n.natAbs<2^24:=by omega
theorem Zmm(n:Int)(h: -16777216<n∧n<16777216):∃k:Nat,single.read (wN n)=.number (decide (n<0)) (n.natAbs*2^k) (-(k:Int)):=by
 by_cases h0:n=0
 ·subst h0
  exact⟨149,rfl⟩
 ·exact⟨_,ZvX (by omega) (ZIk n h)⟩
theorem Ze1(n:Int)(k K:Nat)(h:k≤K):signed (decide (n<0)) (n.natAbs*2^k) (-(k:Int)- -(K:Int)).toNat=n*(2^K:Nat):=by
 have e:(-(k:Int)- -(K:Int)).toNat=K-k:=by omega
 have e2:(n.natAbs*2^k) <<< (K-k)=n.natAbs*2^K:=by rw[Nat.shiftLeft_eq,Nat.mul_assoc,←Nat.pow_add];congr 2;omega
 unfold signed
 rw[e,e2]
 by_cases hn:n<0
 ·rw[if_pos (by simpa using hn),Int.natCast_mul,←Int.neg_mul,show -(n.natAbs:Int)=n by omega]
 ·rw[if_neg (by simpa using hn),Int.natCast_mul,show(n.natAbs:Int)=n by omega]
theorem Zsf{a b:Int}(ha: -8388608<a∧a<8388608)(hb: -8388608<b∧b<8388608):std.fadd .f32 (wN a) (wN b)=some (wN (a+b)):=by
 obtain⟨i,hi⟩:=Zmm a (by omega)
 obtain⟨j,hj⟩:=Zmm b (by omega)
 show((single.read (wN a)).sum (single.read (wN b))).map single.write=_
 rw[hi,hj]
 have hmin:min (-(i:Int)) (-(j:Int))= -((max i j:Nat):Int):=by omega
 simp only[Datum.sum,hmin,Ze1 a i _ (Nat.le_max_left i j),Ze1 b j _ (Nat.le_max_right i j),←Int.add_mul,Option.map_some]
 generalize max i j=K
 have hp:(0:Int)<(2^K:Nat):=by have:=Zbr K;omega
 have hz:(a+b)*((2^K:Nat):Int)=0↔a+b=0:=by
  rw[Int.mul_eq_zero];omega
 have hl:(a+b)*((2^K:Nat):Int)<0↔a+b<0:=by
  constructor
  ·intro h;by_cases hc:a+b<0
   ·exact hc
   ·exact absurd h (Int.not_lt.2 (Int.mul_nonneg (by omega) (by omega)))
  ·intro h;exact Int.mul_neg_of_neg_of_pos h hp
 have hs:(if (a+b)*((2^K:Nat):Int)=0 then decide (a<0)&&decide (b<0)else decide ((a+b)*((2^K:Nat):Int)<0))=decide (a+b<0):=by
  by_cases h0:a+b=0
  ·rw[if_pos (hz.2 h0)]
   by_cases hn:a<0
   ·simp[show ¬b<0 by omega,show ¬a+b<0 by omega]
   ·simp[hn,show ¬a+b<0 by omega]
  ·rw[if_neg (fun h=>h0 (hz.1 h))];simp only[hl]
 rw[hs]
 show some (single.nearest _ _ _)=some (single.nearest _ _ 0)
 rw[Int.natAbs_mul,Int.natAbs_natCast,ZAe _ _ _ (by omega)]
theorem Zpa{a b:Int}(ha: -16777216<a∧a<16777216)(hb: -16777216<b∧b<16777216):std.ford .f32 (wN a) (wN b)=some (compare a b):=by
 obtain⟨i,hi⟩:=Zmm a (by omega)
 obtain⟨j,hj⟩:=Zmm b (by omega)
 show(single.read (wN a)).order (single.read (wN b))=_
 rw[hi,hj]
 have hmin:min (-(i:Int)) (-(j:Int))= -((max i j:Nat):Int):=by omega
 simp only[Datum.order,hmin,Ze1 a i _ (Nat.le_max_left i j),Ze1 b j _ (Nat.le_max_right i j)]
 have hp:(0:Int)<(2^(max i j):Nat):=by have:=Zbr (max i j);omega
 congr 1
 rcases Int.lt_trichotomy a b with h |h |h
 ·rw[Int.compare_eq_lt.2 h,Int.compare_eq_lt.2 (Int.mul_lt_mul_of_pos_right h hp)]
 ·subst h;simp
 ·rw[Int.compare_eq_gt.2 h,Int.compare_eq_gt.2 (Int.mul_lt_mul_of_pos_right h hp)]
theorem ZMd{n:Int}(h: -16777216<n∧n<16777216):std.f2i .f32 (wN n)=some n:=by
 obtain⟨k,hk⟩:=Zmm n h
 show(single.read (wN n)).toInt .zero=_
 rw[hk]
 simp only[Datum.toInt,Datum.integral,show(-(k:Int)).toNat=0 by omega,Nat.shiftLeft_zero,show(- -(k:Int)).toNat=k by omega,Zxv]
 have:=Ze1 n 0 0 (Nat.le_refl 0)
 simpa using this
theorem ZPR{a b:Int}(ha: -16777216<a∧a<16777216)(hb: -16777216<b∧b<16777216):mmF std .f32 (wN a) (wN b)=wN (max a b):=by
 unfold mmF
 rw[Zpa ha hb]
 rcases Int.lt_trichotomy a b with h |h |h
 ·rw[Int.compare_eq_lt.2 h,show max a b=b by omega]
 ·subst h
  rw[Int.max_self]
  split
  ·rfl
  ·rfl
  ·split<;>rfl
 ·rw[Int.compare_eq_gt.2 h,show max a b=a by omega]
theorem ZIh:(3351465984:Nat)=wN (-100000):=by decide
theorem ZHV:(0:Nat)=wN 0:=rfl
end Go.Proofs.Ytklbmkllepkjcaa
/- Contracts as a list. No condition. -/
namespace Go.Proofs.Ytklbmkllepkjcaa
section
variable (m p q:Int)(so:List Int)
def Zrq:List Int:=List.replicate (stS m) (-100000)
end
def reT(T:Nat):List Nat:=(List.range (T+1)).map (· +1)
theorem Zl9(T:Nat):(reT T).length=T+1:=by simp[reT]
theorem ZeO{T j:Nat}(h:j≤T):(reT T).getD j 0=j+1:=by
 unfold reT
 rw[List.getD_eq_getElem?_getD,List.getElem?_map,List.getElem?_range (by omega)];rfl
section
variable {m p q:Int}{so:List Int}
end
theorem ZD8(so:List Int)(t:Nat){a b:Int}(ha:a=0∨a=1)(hb:b=0∨b=1):coI a (so.getD (2*t) 0)+coI b (so.getD (2*t+1) 0)=gaI so t a b:=by
 unfold coI gaI
 rcases ha with rfl |rfl<;>rcases hb with rfl |rfl<;>simp<;>omega
section
variable {C:Ctx}(hC:C.P=Try.prog)(m p q:Int)(so:List Int)(h:OkC m p q so)
include hC h
end
def fT(T k:Nat):List Nat:=(List.range (T+1)).map fun j=>if j<k then j+1 else 0
theorem ZEu(T:Nat):fT T 0=List.replicate (T+1) 0:=by
 unfold fT
 apply List.ext_getElem?
 intro i
 rw[List.getElem?_map,List.getElem?_replicate]
 by_cases h:i<T+1
 ·rw[List.getElem?_range h];simp[h]
 ·rw[List.getElem?_eq_none (by simp;omega)];simp[h]
theorem ZIl(T:Nat):fT T (T+1)=reT T:=by
 unfold fT reT
 apply List.map_congr_left
 intro i hi
 have:=List.mem_range.1 hi
 rw[if_pos (by omega)]
theorem ZIn(T k:Nat):(fT T k).length=T+1:=by simp[fT]
theorem ZMV{T k:Nat}(hk:k≤T):(fT T k).set k (k+1)=fT T (k+1):=by
 unfold fT
 apply List.ext_getElem?
 intro i
 rw[List.getElem?_set,List.getElem?_map,List.getElem?_map,List.length_map,List.length_range]
 by_cases hi:i<T+1
 ·rw[List.getElem?_range hi]
  by_cases hj:k=i
  ·subst hj;simp[hi]
  ·have:(i<k+1)↔(i<k):=by omega
   simp[hj,this]
 ·rw[List.getElem?_eq_none (by simp;omega)]
  simp;omega
section
variable {C:Ctx}(hC:C.P=Try.prog)(m p q:Int)(so:List Int)(h:OkC m p q so)
include hC h
end
def N6:List Ctr:=N5
theorem ZSs:Zay Try.prog N6:=Zev
end Go.Proofs.Ytklbmkllepkjcaa
/- Contracts as a list. No condition. -/
namespace Go.Proofs.Ytklbmkllepkjcaa
def wR(l:List Int):List Nat:=l.map wN
theorem ZkO(l:List Int){j:Nat}(h:j<l.length):(wR l).getD j 0=wN (l.getD j 0):=by
 unfold wR
 rw[List.getD_eq_getElem?_getD,List.getElem?_map,List.getD_eq_getElem?_getD,List.getElem?_eq_getElem h];rfl
theorem Zwv(l:List Int)(j:Nat)(x:Int):(wR l).set j (wN x)=wR (l.set j x):=by unfold wR;rw[List.map_set]
theorem ZjA(l:List Int):(wR l).length=l.length:=by simp[wR]
def rw2(T:Nat)(g:Nat→List Int):List (List Nat):=[]::(List.range (T+1)).map fun j=>wR (g j)
theorem Zpf(T:Nat)(g:Nat→List Int):(rw2 T g).length=T+2:=by simp[rw2]
theorem ZsN{T j:Nat}(g:Nat→List Int)(h:j≤T):(rw2 T g).getD (j+1) []=wR (g j):=by
 unfold rw2
 rw[List.getD_cons_succ,List.getD_eq_getElem?_getD,List.getElem?_map,List.getElem?_range (by omega)];rfl
theorem ZGk{T j:Nat}(g:Nat→List Int)(x:List Int):(rw2 T g).set (j+1) (wR x)=rw2 T (fun i=>if i=j then x else g i):=by
 unfold rw2
 rw[List.set_cons_succ]
 congr 1
 apply List.ext_getElem?
 intro i
 rw[List.getElem?_set,List.getElem?_map,List.getElem?_map,List.length_map,List.length_range]
 by_cases hi:i<T+1
 ·rw[List.getElem?_range hi]
  by_cases hj:j=i
  ·subst hj;simp[hi]
  ·simp[hj,show ¬i=j from fun e=>hj e.symm]
 ·rw[List.getElem?_eq_none (by simp;omega)]
  simp;omega
section
variable (m p q:Int)(so:List Int)
def gB(t:Nat)(x:List Int)(j:Nat):List Int:=if t<j then dpP m p q so (Zab so-j)else if j=t then x else Zrq m
def upF(S:Nat)(v:Nat→Int)(s:Nat):List Int:=(List.range s).map v++List.replicate (S-s) (-100000)
end
theorem ZNl{m p q:Int}{so:List Int}(t:Nat)(x y:List Int):(fun i=>if i=t then y else gB m p q so t x i)=gB m p q so t y:=by
 funext i
 unfold gB
 by_cases h:i=t
 ·subst h;simp
 ·simp[h]
theorem ZEV{m p q:Int}{so:List Int}(t:Nat):gB m p q so (t+1) (dpP m p q so (Zab so-(t+1)))=gB m p q so t (Zrq m):=by
 funext i
 unfold gB
 by_cases h:t+1<i
 ·rw[if_pos h,if_pos (by omega)]
 ·rw[if_neg h]
  by_cases h2:i=t+1
  ·subst h2;rw[if_pos rfl,if_pos (by omega)]
  ·rw[if_neg h2,if_neg (by omega)];split<;>rfl
theorem Zf1{m p q:Int}{so:List Int}(h:OkC m p q so){n:Nat}(hn:n≤Zab so){s:Nat}(hs:s<stS m): -100000≤(dpP m p q so n).getD s 0∧(dpP m p q so n).getD s 0≤14*n:=by
 have w:=ZnS h n hn s hs
 obtain⟨hg,_,hl2,hl3⟩:=h.soft
 have h2:=Zvs (m:=m) (p:=p) (q:=q) hg n s
 have hT:Zab so≤303:=by unfold Zab;omega
 unfold Way at w;omega
section
variable {C:Ctx}(hC:C.P=Try.prog)(m p q:Int)(so:List Int)(h:OkC m p q so)
include hC h
theorem B1(t s:Nat)(ht:t<Zab so)(hs:s<stS m)(x:List Int)(hxl:x.length=stS m)(hx: -100000≤x.getD s 0∧x.getD s 0≤100000)(n7:Int)(b8 b9:Bool)(j:Nat)(b:Int)(hb:b=0∨b=1∧t<Zb4 m so)(r:AV)(fr:Option Fresh)
 (hn:Ev C (ZdE m p q so (reT (Zab so)) t n7 b8 b9 j s (b+1) (rw2 (Zab so) (gB m p q so t (x.set s (upP m p q so (dpP m p q so (Zab so-(t+1))) t s b (x.getD s 0)))))) (ZcE m p q so (reT (Zab so)) t n7 b8 b9 j s (b+1) (rw2 (Zab so) (gB m p q so t (x.set s (upP m p q so (dpP m p q so (Zab so-(t+1))) t s b (x.getD s 0)))))) (Zav 65 r fr)):
 Ev C (ZdE m p q so (reT (Zab so)) t n7 b8 b9 j s b (rw2 (Zab so) (gB m p q so t x))) (ZcE m p q so (reT (Zab so)) t n7 b8 b9 j s b (rw2 (Zab so) (gB m p q so t x))) (Zav 65 r fr):=by
 obtain⟨hg,_,hl2,hl3⟩:=h.soft
 have hlen:2*Zab so≤so.length:=by unfold Zab;omega
 have hm:=(Zaz h.cv).1
 have e1:(reT (Zab so)).getD t 0=t+1:=ZeO (by omega)
 have e2:(reT (Zab so)).getD (t+1) 0=t+2:=ZeO (by omega)
 have e3:(rw2 (Zab so) (gB m p q so t x)).getD (t+2) []=wR (dpP m p q so (Zab so-(t+1))):=by rw[ZsN _ (by omega),gB,if_pos (by omega)]
 have e4:(rw2 (Zab so) (gB m p q so t x)).getD (t+1) []=wR x:=by rw[ZsN _ (by omega),gB,if_neg (by omega),if_pos rfl]
 have e5:=Zpf (Zab so) (gB m p q so t x)
 have e6:∀y,(rw2 (Zab so) (gB m p q so t x)).set (t+1) (wR y)=rw2 (Zab so) (gB m p q so t y):=fun y=>by rw[ZGk,ZNl]
 have e7:=Zl9 (Zab so)
 have hdl:=Ziq m p q so (Zab so-(t+1))
 have hbb:b=0∨b=1:=by omega
 obtain⟨s1,s2,s3⟩:=Zb6 h hs hbb
 have k1:(2*(t:Int)).toNat=2*t:=by omega
 have k2:(2*(t:Int)+1).toNat=2*t+1:=by omega
 have hco:=ZD8 so t (Zo5 m p s b) (Zo5 m q s b)
 have hgl:=Zlo (m:=m) (p:=p) (q:=q) hg t s b
 have a1:=Zdb hg (2*t)
 have a2:=Zdb hg (2*t+1)
 have hD:=Zf1 h (n:=Zab so-(t+1)) (by omega) s3
 have hbt:t<Zb4 m so↔¬ZdR m so≤t:=by unfold Zb4 ZdR Zam;omega
 have h108:ZzC m so=true:=decide_eq_true (by omega)
 have hT:Zab so≤303:=by unfold Zab;omega
 unfold gnI at hgl
 have f1:(wR x).getD s 0=wN (x.getD s 0):=ZkO x (by omega)
 have f2:(wR (dpP m p q so (Zab so-(t+1)))).getD (nxS m s b).toNat 0=wN ((dpP m p q so (Zab so-(t+1))).getD (nxS m s b).toNat 0):=ZkO _ (by omega)
 have f3:std.fadd .f32 (wN ((dpP m p q so (Zab so-(t+1))).getD (nxS m s b).toNat 0)) (std.i2f .f32 (gaI so t (oS m p s b) (oS m q s b)))=some (wN ((dpP m p q so (Zab so-(t+1))).getD (nxS m s b).toNat 0+gaI so t (oS m p s b) (oS m q s b))):=Zsf (by omega) (by omega)
 have f4:=Zpa (a:=x.getD s 0) (b:=(dpP m p q so (Zab so-(t+1))).getD (nxS m s b).toNat 0+gaI so t (oS m p s b) (oS m q s b)) (by omega) (by omega)
 have f5:=ZPR (a:=x.getD s 0) (b:=(dpP m p q so (Zab so-(t+1))).getD (nxS m s b).toNat 0+gaI so t (oS m p s b) (oS m q s b)) (by omega) (by omega)
 have f6:=ZjA x
 have f7:=ZjA (dpP m p q so (Zab so-(t+1)))
 have hu:upP m p q so (dpP m p q so (Zab so-(t+1))) t s b (x.getD s 0)=max (x.getD s 0) ((dpP m p q so (Zab so-(t+1))).getD (nxS m s b).toNat 0+gaI so t (oS m p s b) (oS m q s b)):=rfl
 rw[hu]at hn
 refine tgo hC Zev Zlw ?_
 rcases hb with rfl |⟨rfl,hb⟩
 ·simp[-List.getD_eq_getElem?_getD,List.getD_cons_zero,List.getD_cons_succ,ZcF,e1,e2,e3,e4,e5,e6,e7,s1,s2,s3,k1,k2,hco,hxl,hdl,hs,h108,f1,f2,f3,f4,f5,f6,f7,Zwv]at hn⊢
  refine⟨?_,hn⟩
  omega
 ·have hb2:=hbt.1 hb
  simp[-List.getD_eq_getElem?_getD,List.getD_cons_zero,List.getD_cons_succ,ZcF,e1,e2,e3,e4,e5,e6,e7,s1,s2,s3,k1,k2,hco,hxl,hdl,hs,h108,hb2,f1,f2,f3,f4,f5,f6,f7,Zwv]at hn⊢
  refine⟨?_,hn⟩
  omega
theorem B1x(t s:Nat)(ht:t<Zab so)(hs:s<stS m)(rows:List (List Nat))(n7:Int)(b8 b9:Bool)(j:Nat)(b:Int)(hb:b=2∨b=1∧¬t<Zb4 m so)(r:AV)(fr:Option Fresh)
 (hn:Ev C (Zff m p q so (reT (Zab so)) t n7 b8 b9 j ((s+1:Nat):Int) rows) (ZdW m p q so (reT (Zab so)) t n7 b8 b9 j ((s+1:Nat):Int) rows) (Zav 65 r fr)):
 Ev C (ZdE m p q so (reT (Zab so)) t n7 b8 b9 j s b rows) (ZcE m p q so (reT (Zab so)) t n7 b8 b9 j s b rows) (Zav 65 r fr):=by
 have hm:=(Zaz h.cv).1
 have h2:=Zcp hm
 obtain⟨hg,_,hl2,hl3⟩:=h.soft
 have hbt:t<Zb4 m so↔¬ZdR m so≤t:=by unfold Zb4 ZdR Zam;omega
 have h108:ZzC m so=true:=decide_eq_true (by omega)
 refine tgo hC Zev Zlw ?_
 rcases hb with rfl |⟨rfl,hb⟩
 ·simp[ZcF]at hn⊢
  exact⟨by omega,hn⟩
 ·have hb2:ZdR m so≤t:=by omega
  simp[ZcF,h108,hb2]at hn⊢
  exact⟨by omega,hn⟩
end
theorem ZHR{S s:Nat}(v:Nat→Int)(h:s≤S):(upF S v s).length=S:=by simp[upF];omega
theorem ZEI{S s:Nat}(v:Nat→Int)(h:s<S)(x:Int):(upF S v s).set s x=(List.range s).map v++x::List.replicate (S-s-1) (-100000):=by
 unfold upF
 rw[List.set_append,if_neg (by simp),show S-s=(S-s-1)+1 by omega,List.replicate_succ]
 simp
theorem ZzX{S s:Nat}(v:Nat→Int)(h:s<S):(upF S v s).set s (v s)=upF S v (s+1):=by
 rw[ZEI v h,upF,List.range_succ,List.map_append,List.append_assoc,show S-(s+1)=S-s-1 by omega];rfl
theorem ZEN{S s:Nat}(v:Nat→Int)(h:s<S):(upF S v s).getD s 0= -100000:=by
 unfold upF
 rw[List.getD_eq_getElem?_getD,List.getElem?_append_right (by simp),List.length_map,List.length_range,Nat.sub_self,List.getElem?_replicate,if_pos (by omega)];rfl
theorem ZBo(S:Nat)(v:Nat→Int):upF S v 0=List.replicate S (-100000):=by simp[upF]
theorem ZHc(S:Nat)(v:Nat→Int):upF S v S=(List.range S).map v:=by simp[upF]
section
variable {C:Ctx}(hC:C.P=Try.prog)(m p q:Int)(so:List Int)(h:OkC m p q so)
include hC h
theorem B0(t:Nat)(ht:t<Zab so)(b8 b9:Bool)(j:Nat)(r:AV)(fr:Option Fresh)
 (hn:Ev C (ZfE m p q so (reT (Zab so)) ((t:Int)-1) (rw2 (Zab so) (gB m p q so t (dpP m p q so (Zab so-t)))) j) (ZdG m p q so (reT (Zab so)) ((t:Int)-1) (rw2 (Zab so) (gB m p q so t (dpP m p q so (Zab so-t)))) j) (Zav 65 r fr)):
 ∀k s:Nat,s+k=stS m→
 Ev C (Zff m p q so (reT (Zab so)) t (stN m) b8 b9 j s (rw2 (Zab so) (gB m p q so t (upF (stS m) (ZvE m p q so (dpP m p q so (Zab so-(t+1))) t) s)))) (ZdW m p q so (reT (Zab so)) t (stN m) b8 b9 j s (rw2 (Zab so) (gB m p q so t (upF (stS m) (ZvE m p q so (dpP m p q so (Zab so-(t+1))) t) s)))) (Zav 65 r fr):=by
 have hm:=(Zaz h.cv).1
 have h2:=Zcp hm
 obtain⟨hg,_,hl2,hl3⟩:=h.soft
 have hT:Zab so≤303:=by unfold Zab;omega
 intro k
 induction k with
 |zero=>
  intro s hs
  refine tgo hC Zev Zmi ?_
  have e9:(s:Int)=stN m:=by omega
  have e8:dpP m p q so (Zab so-t)=upF (stS m) (ZvE m p q so (dpP m p q so (Zab so-(t+1))) t) s:=by
   rw[show s=stS m by omega,ZHc,show Zab so-t=(Zab so-(t+1))+1 by omega,dpP,show Zab so-1-(Zab so-(t+1))=t by omega]
  rw[e8]at hn
  simp[Zgf,e9]at hn⊢
  exact⟨by omega,hn⟩
 |succ k ih=>
  intro s hs
  refine tgo hC Zev Zmi ?_
  have e9:(s:Int)<stN m:=by omega
  have hs':s<stS m:=by omega
  simp[Zgf,e9]
  have ih':=ih (s+1) (by omega)
  have hl:=ZHR (ZvE m p q so (dpP m p q so (Zab so-(t+1))) t) (show s≤stS m by omega)
  have hgt:=ZEN (ZvE m p q so (dpP m p q so (Zab so-(t+1))) t) hs'
  rw[←ZzX _ hs']at ih'
  apply B1 hC m p q so h t s ht hs' _ hl (by omega) _ _ _ _ 0 (Or.inl rfl)
  rw[hgt]
  by_cases hb:t<Zb4 m so
  ·have hgl:=Zlo (m:=m) (p:=p) (q:=q) hg t s 0
   have hD:=Zf1 h (n:=Zab so-(t+1)) (by omega) (Zb6 h hs' (b:=0) (Or.inl rfl)).2.2
   have e11:∀x,((upF (stS m) (ZvE m p q so (dpP m p q so (Zab so-(t+1))) t) s).set s x).getD s 0=x:=by
    intro x;rw[List.getD_eq_getElem?_getD,List.getElem?_set];simp[hl,hs']
   apply B1 hC m p q so h t s ht hs' _ (by rw[List.length_set,hl]) (by rw[e11];unfold upP;omega) _ _ _ _ _ (Or.inr ⟨rfl,hb⟩)
   rw[e11,List.set_set]
   apply B1x hC m p q so h t s ht hs' _ _ _ _ _ _ (Or.inl rfl)
   rw[ZvE,if_pos hb]at ih'
   exact ih'
  ·apply B1x hC m p q so h t s ht hs' _ _ _ _ _ _ (Or.inr ⟨rfl,hb⟩)
   rw[ZvE,if_neg hb]at ih'
   exact ih'
theorem ZVv(r:AV)(fr:Option Fresh)
 (hn:∀j:Nat,Ev C (Zcd m p q so (reT (Zab so)) (rw2 (Zab so) (gB m p q so 0 (dpP m p q so (Zab so)))) (ZdR m so) j 0 0 0 []) (ZbF m p q so (reT (Zab so)) (rw2 (Zab so) (gB m p q so 0 (dpP m p q so (Zab so)))) (ZdR m so) j 0 0 0 []) (Zav 65 r fr)):
 ∀t j:Nat,t≤Zab so→
 Ev C (ZfE m p q so (reT (Zab so)) ((t:Int)-1) (rw2 (Zab so) (gB m p q so t (dpP m p q so (Zab so-t)))) j) (ZdG m p q so (reT (Zab so)) ((t:Int)-1) (rw2 (Zab so) (gB m p q so t (dpP m p q so (Zab so-t)))) j) (Zav 65 r fr):=by
 have hm:=(Zaz h.cv).1
 have h2:=Zcp hm
 obtain⟨hg,_,hl2,hl3⟩:=h.soft
 have hmm:Zes m=true:=decide_eq_true (by omega)
 have h108:ZzC m so=true:=decide_eq_true (by omega)
 intro t
 induction t with
 |zero=>
  intro j _
  refine tgo hC Zev Zlr ?_
  have i:=hn (0+List.length (List.replicate j Blk.dfr))
  simp[Zgw,h108]at i⊢
  exact i
 |succ t ih=>
  intro j ht
  refine tgo hC Zev Zlr ?_
  have i:=B0 hC m p q so h t (by omega) true true (j+1) r fr (ih (j+1) (by omega)) (stS m) 0 (by omega)
  rw[ZBo,show List.replicate (stS m) (-100000)=Zrq m from rfl,←ZEV]at i
  have e1:((t+1:Nat):Int)-1=t:=by omega
  rw[e1]
  simp[Zgw,hmm]at i⊢
  exact i
end
end Go.Proofs.Ytklbmkllepkjcaa
