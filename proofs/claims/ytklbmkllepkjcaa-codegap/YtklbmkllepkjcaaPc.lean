/- Paths of functions, printed by the explorer (Gx). No condition. -/
import Derived.Test.YtklbmkllepkjcaaSt
import Derived.KernelRfl
namespace Go.Proofs.Ytklbmkllepkjcaa
set_option maxRecDepth 100000
set_option linter.unusedVariables false
def Zyl(m g0 g1:Int)(xs:List Int)(ps:List AV):AFrame:={ fn:=35,N:=101,env:=[(0,AV.agg (Row.gen [.int .i64 m, .int .i64 g0, .int .i64 g1])),(1,AV.list (.ints .i64 xs)),(2,AV.list (Row.big (.ints .i64) ps))],todo:=[.code a35.code],defs:=[],rnd:=none,ret:=false,res:=[ARes.cell 6 false 1,ARes.cell 7 false 1] }
def ZGo(m g0 g1:Int)(xs:List Int)(ps:List AV):List AFrame:=[(Zyl m g0 g1 xs ps)]
theorem ZuY(m g0 g1:Int)(xs:List Int)(ps:List AV):Zat tab 35 [AV.agg (Row.gen [.int .i64 m, .int .i64 g0, .int .i64 g1]),AV.list (.ints .i64 xs),AV.list (Row.big (.ints .i64) ps)]=some (Zyl m g0 g1 xs ps):=rfl
def ZgN(m g0 g1:Int)(xs:List Int)(ps:List AV)(n0 n1:Int):List AFrame:=[{ fn:=35,N:=101,env:=[(5,AV.ptr 35006 0 0 0),(6,AV.ptr 35007 0 0 0),(7,AV.ptr 35008 0 0 0),(10,AV.ptr 35011 0 0 0),(36,AV.list (Row.big (.ints .i64) ps)),(37,AV.int .i64 n0),(38,AV.int .i64 n1)],todo:=.code (ACode.gh [] ZBr)::ZCX,defs:=[(2000035,0)],rnd:=none,ret:=false,res:=[ARes.cell 6 false 1,ARes.cell 7 false 1] }]
def ZfU(m g0 g1:Int)(xs:List Int)(ps:List AV)(n0 n1:Int):Zac:=[(35006,{ base:=0,blks:=[Blk.row 56 1 (Row.gen [.list (Row.big (.ints .i64) ps)])] }),(35007,{ base:=0,blks:=[Blk.row 3 1 (Row.gen [.int .i64 0])] }),(35008,{ base:=0,blks:=[Blk.row 27 1 (Row.gen [.int .i64 0])] }),(35011,{ base:=0,blks:=[Blk.row 97 4 (Row.gen [AV.agg (Row.gen [AV.int .i64 m,AV.int .i64 g0,AV.int .i64 g1,AV.list (.ints .i64 xs)])])] }),(2000035,{ base:=0,blks:=[],sym:=Sym.dfrs 0 })]
abbrev ZiJ(m g0 g1:Int)(xs:List Int)(ps:List AV)(n0 n1:Int):List AFrame×Zac:=(ZgN m g0 g1 xs ps n0 n1,ZfU m g0 g1 xs ps n0 n1)
def Zez(m g0 g1:Int)(xs:List Int)(ps:List AV)(n2 n3:Int)(j4:Nat):List AFrame:=[{ fn:=35,N:=101,env:=[(5,AV.ptr 35006 0 0 0),(6,AV.ptr 35007 0 0 0),(7,AV.ptr 35008 0 0 0),(10,AV.ptr 35011 0 0 0),(57,AV.int .i64 n2),(58,AV.int .i64 n3)],todo:=.code (ACode.gh [] ZzO)::ZwD,defs:=[(2000035,0)],rnd:=none,ret:=false,res:=[ARes.cell 6 false 1,ARes.cell 7 false 1] }]
def ZdF(m g0 g1:Int)(xs:List Int)(ps:List AV)(n2 n3:Int)(j4:Nat):Zac:=[(35006,{ base:=0,blks:=[Blk.row 56 1 (Row.gen [.list (Row.big (.ints .i64) ps)])] }),(35007,{ base:=0,blks:=[Blk.row 3 1 (Row.gen [.int .i64 0])] }),(35008,{ base:=0,blks:=[Blk.row 27 1 (Row.gen [.int .i64 0])] }),(35011,{ base:=0,blks:=[Blk.row 97 4 (Row.gen [AV.agg (Row.gen [AV.int .i64 m,AV.int .i64 g0,AV.int .i64 g1,AV.list (.ints .i64 xs)])])] }),(2000035,{ base:=0,blks:=[],sym:=Sym.dfrs j4 })]
abbrev ZhS(m g0 g1:Int)(xs:List Int)(ps:List AV)(n2 n3:Int)(j4:Nat):List AFrame×Zac:=(Zez m g0 g1 xs ps n2 n3 j4,ZdF m g0 g1 xs ps n2 n3 j4)
def ZfH(m g0 g1:Int)(xs:List Int)(ps:List AV)(n2 n3 n5:Int)(b6 b7:Bool)(j8:Nat)(n9:Int):List AFrame:=[{ fn:=115,N:=64,env:=[(0,AV.yld 35901 0),(1,AV.ptr 87003 0 0 0),(2,AV.ptr 87004 0 0 0),(10,AV.int .i64 n5),(11,AV.int .i64 n9)],todo:=.code (ACode.gh [] ZkQ)::ZmL,defs:=[],rnd:=none,ret:=false,res:=[] },{ fn:=35,N:=101,env:=[(5,AV.ptr 35006 0 0 0),(6,AV.ptr 35007 0 0 0),(7,AV.ptr 35008 0 0 0),(10,AV.ptr 35011 0 0 0),(14,AV.ptr 35015 0 0 0),(57,AV.int .i64 n2),(58,AV.int .i64 n3),(59,AV.bool b6),(60,AV.int .i64 n3),(61,AV.agg (Row.gen [.int .i64 m, .int .i64 g0, .int .i64 g1, .list (.ints .i64 xs)])),(62,AV.int .i64 n3),(63,AV.fn 115 [AV.ptr 87003 0 0 0,AV.ptr 87004 0 0 0])],todo:=AItem.inRF 35901 0::AItem.inBlock 4::AItem.inBlock 3::.code (ACode.reg none [oN 87 (OpK.bin Go.BinOp.add (Opd.t 58) (cI 1)),mV 58 87])::ZwD,defs:=[(2000035,0)],rnd:=none,ret:=false,res:=[ARes.cell 6 false 1,ARes.cell 7 false 1] }]
def ZdS(m g0 g1:Int)(xs:List Int)(ps:List AV)(n2 n3 n5:Int)(b6 b7:Bool)(j8:Nat)(n9:Int):Zac:=[(35006,{ base:=0,blks:=[Blk.row 56 1 (Row.gen [.list (Row.big (.ints .i64) ps)])] }),(35007,{ base:=0,blks:=[Blk.row 3 1 (Row.gen [.int .i64 0])] }),(35008,{ base:=0,blks:=[Blk.row 27 1 (Row.gen [.int .i64 0])] }),(35011,{ base:=0,blks:=[Blk.row 97 4 (Row.gen [AV.agg (Row.gen [AV.int .i64 m,AV.int .i64 g0,AV.int .i64 g1,AV.list (.ints .i64 xs)])])] }),(35015,{ base:=0,blks:=[Blk.row 3 1 (Row.gen [.int .i64 n3])] }),(35901,{ base:=0,blks:=[Blk.lp { st:=RSt.ready,fn:=35,N:=101,env:=[(5,AV.ptr 35006 0 0 0),(6,AV.ptr 35007 0 0 0),(7,AV.ptr 35008 0 0 0),(10,AV.ptr 35011 0 0 0),(14,AV.ptr 35015 0 0 0),(57,AV.int .i64 n2),(58,AV.int .i64 n3),(59,AV.bool b7),(60,AV.int .i64 n3),(61,AV.agg (Row.gen [.int .i64 m, .int .i64 g0, .int .i64 g1, .list (.ints .i64 xs)])),(62,AV.int .i64 n3),(63,AV.fn 115 [AV.ptr 87003 0 0 0,AV.ptr 87004 0 0 0])],params:=[64],asg:=ACode.reg none [oN 15 (OpK.alloc 35016 120 (AV.agg (Row.gen [.int .i64 0, .int .i64 0, .int .i64 0, .flt Go.FloatKind.f32 0]))),{ d:=none,g:=none,k:=OpK.store 4 (Opd.t 15) (Opd.t 64) }],body:=ACode.block 5 (ACode.seq (ACode.reg (some []) [oN 65 (OpK.load false 1 (Opd.t 5)),oN 66 (OpK.load false 1 (Opd.t 14)),oN 67 (OpK.iaddr 1 (Opd.t 65) (Opd.t 66)),oN 68 (OpK.load false 1 (Opd.t 67)),oN 69 (OpK.faddr 0 (Opd.t 15)),oN 70 (OpK.load false 1 (Opd.t 69)),oN 71 (OpK.iaddr 1 (Opd.t 68) (Opd.t 70)),oN 72 (OpK.load false 1 (Opd.t 71)),oN 73 (OpK.faddr 3 (Opd.t 15)),oN 74 (OpK.load false 1 (Opd.t 73)),oN 75 (OpK.f2i .i64 (Opd.t 74)),oN 76 (OpK.bin Go.BinOp.add (Opd.t 72) (Opd.t 75)),oN 77 (OpK.load false 1 (Opd.t 5)),oN 78 (OpK.load false 1 (Opd.t 14)),oN 79 (OpK.bin Go.BinOp.add (Opd.t 78) (cI 1)),oN 80 (OpK.iaddr 1 (Opd.t 77) (Opd.t 79)),oN 81 (OpK.load false 1 (Opd.t 80)),oN 82 (OpK.faddr 2 (Opd.t 15)),oN 83 (OpK.load false 1 (Opd.t 82)),oN 84 (OpK.iaddr 1 (Opd.t 81) (Opd.t 83)),oN 85 (OpK.load false 1 (Opd.t 84)),oN 86 (OpK.bin Go.BinOp.gtr (Opd.t 76) (Opd.t 85))]) (ACode.gh [Ghost.keep [5,6,7,10,14,57,58,86]] (ACode.cond (Opd.t 86) (ACode.seq (ACode.reg none [{ d:=none,g:=none,k:=OpK.store 1 (Opd.t 6) (cI 0) },{ d:=none,g:=none,k:=OpK.store 1 (Opd.t 7) (cI 19) }]) ACode.ret) ACode.skip))) }] }),(87003,{ base:=0,blks:=[Blk.row 97 4 (Row.gen [AV.agg (Row.gen [AV.int .i64 m,AV.int .i64 g0,AV.int .i64 g1,AV.list (.ints .i64 xs)])])] }),(87004,{ base:=0,blks:=[Blk.row 3 1 (Row.gen [.int .i64 n3])] }),(2000035,{ base:=0,blks:=[],sym:=Sym.dfrs j8 })]
abbrev Zeb(m g0 g1:Int)(xs:List Int)(ps:List AV)(n2 n3 n5:Int)(b6 b7:Bool)(j8:Nat)(n9:Int):List AFrame×Zac:=(ZfH m g0 g1 xs ps n2 n3 n5 b6 b7 j8 n9,ZdS m g0 g1 xs ps n2 n3 n5 b6 b7 j8 n9)
def ZdE(m g0 g1:Int)(xs:List Int)(ps:List AV)(n2 n3 n5:Int)(b6 b7:Bool)(j8:Nat)(n9 n10:Int):List AFrame:=[{ fn:=115,N:=64,env:=[(0,AV.yld 35901 0),(1,AV.ptr 87003 0 0 0),(2,AV.ptr 87004 0 0 0),(4,AV.int .i64 n9),(10,AV.int .i64 n5),(11,AV.int .i64 n9),(14,AV.int .i64 n10)],todo:=.code (ACode.gh [] ZkP)::Zmv,defs:=[],rnd:=none,ret:=false,res:=[] },{ fn:=35,N:=101,env:=[(5,AV.ptr 35006 0 0 0),(6,AV.ptr 35007 0 0 0),(7,AV.ptr 35008 0 0 0),(10,AV.ptr 35011 0 0 0),(14,AV.ptr 35015 0 0 0),(57,AV.int .i64 n2),(58,AV.int .i64 n3),(59,AV.bool b6),(60,AV.int .i64 n3),(61,AV.agg (Row.gen [.int .i64 m, .int .i64 g0, .int .i64 g1, .list (.ints .i64 xs)])),(62,AV.int .i64 n3),(63,AV.fn 115 [AV.ptr 87003 0 0 0,AV.ptr 87004 0 0 0])],todo:=AItem.inRF 35901 0::AItem.inBlock 4::AItem.inBlock 3::.code (ACode.reg none [oN 87 (OpK.bin Go.BinOp.add (Opd.t 58) (cI 1)),mV 58 87])::ZwD,defs:=[(2000035,0)],rnd:=none,ret:=false,res:=[ARes.cell 6 false 1,ARes.cell 7 false 1] }]
def ZcO(m g0 g1:Int)(xs:List Int)(ps:List AV)(n2 n3 n5:Int)(b6 b7:Bool)(j8:Nat)(n9 n10:Int):Zac:=[(35006,{ base:=0,blks:=[Blk.row 56 1 (Row.gen [.list (Row.big (.ints .i64) ps)])] }),(35007,{ base:=0,blks:=[Blk.row 3 1 (Row.gen [.int .i64 0])] }),(35008,{ base:=0,blks:=[Blk.row 27 1 (Row.gen [.int .i64 0])] }),(35011,{ base:=0,blks:=[Blk.row 97 4 (Row.gen [AV.agg (Row.gen [AV.int .i64 m,AV.int .i64 g0,AV.int .i64 g1,AV.list (.ints .i64 xs)])])] }),(35015,{ base:=0,blks:=[Blk.row 3 1 (Row.gen [.int .i64 n3])] }),(35901,{ base:=0,blks:=[Blk.lp { st:=RSt.ready,fn:=35,N:=101,env:=[(5,AV.ptr 35006 0 0 0),(6,AV.ptr 35007 0 0 0),(7,AV.ptr 35008 0 0 0),(10,AV.ptr 35011 0 0 0),(14,AV.ptr 35015 0 0 0),(57,AV.int .i64 n2),(58,AV.int .i64 n3),(59,AV.bool b7),(60,AV.int .i64 n3),(61,AV.agg (Row.gen [.int .i64 m, .int .i64 g0, .int .i64 g1, .list (.ints .i64 xs)])),(62,AV.int .i64 n3),(63,AV.fn 115 [AV.ptr 87003 0 0 0,AV.ptr 87004 0 0 0])],params:=[64],asg:=ACode.reg none [oN 15 (OpK.alloc 35016 120 (AV.agg (Row.gen [.int .i64 0, .int .i64 0, .int .i64 0, .flt Go.FloatKind.f32 0]))),{ d:=none,g:=none,k:=OpK.store 4 (Opd.t 15) (Opd.t 64) }],body:=ACode.block 5 (ACode.seq (ACode.reg (some []) [oN 65 (OpK.load false 1 (Opd.t 5)),oN 66 (OpK.load false 1 (Opd.t 14)),oN 67 (OpK.iaddr 1 (Opd.t 65) (Opd.t 66)),oN 68 (OpK.load false 1 (Opd.t 67)),oN 69 (OpK.faddr 0 (Opd.t 15)),oN 70 (OpK.load false 1 (Opd.t 69)),oN 71 (OpK.iaddr 1 (Opd.t 68) (Opd.t 70)),oN 72 (OpK.load false 1 (Opd.t 71)),oN 73 (OpK.faddr 3 (Opd.t 15)),oN 74 (OpK.load false 1 (Opd.t 73)),oN 75 (OpK.f2i .i64 (Opd.t 74)),oN 76 (OpK.bin Go.BinOp.add (Opd.t 72) (Opd.t 75)),oN 77 (OpK.load false 1 (Opd.t 5)),oN 78 (OpK.load false 1 (Opd.t 14)),oN 79 (OpK.bin Go.BinOp.add (Opd.t 78) (cI 1)),oN 80 (OpK.iaddr 1 (Opd.t 77) (Opd.t 79)),oN 81 (OpK.load false 1 (Opd.t 80)),oN 82 (OpK.faddr 2 (Opd.t 15)),oN 83 (OpK.load false 1 (Opd.t 82)),oN 84 (OpK.iaddr 1 (Opd.t 81) (Opd.t 83)),oN 85 (OpK.load false 1 (Opd.t 84)),oN 86 (OpK.bin Go.BinOp.gtr (Opd.t 76) (Opd.t 85))]) (ACode.gh [Ghost.keep [5,6,7,10,14,57,58,86]] (ACode.cond (Opd.t 86) (ACode.seq (ACode.reg none [{ d:=none,g:=none,k:=OpK.store 1 (Opd.t 6) (cI 0) },{ d:=none,g:=none,k:=OpK.store 1 (Opd.t 7) (cI 19) }]) ACode.ret) ACode.skip))) }] }),(87003,{ base:=0,blks:=[Blk.row 97 4 (Row.gen [AV.agg (Row.gen [AV.int .i64 m,AV.int .i64 g0,AV.int .i64 g1,AV.list (.ints .i64 xs)])])] }),(87004,{ base:=0,blks:=[Blk.row 3 1 (Row.gen [.int .i64 n3])] }),(2000035,{ base:=0,blks:=[],sym:=Sym.dfrs j8 })]
abbrev Zd3(m g0 g1:Int)(xs:List Int)(ps:List AV)(n2 n3 n5:Int)(b6 b7:Bool)(j8:Nat)(n9 n10:Int):List AFrame×Zac:=(ZdE m g0 g1 xs ps n2 n3 n5 b6 b7 j8 n9 n10,ZcO m g0 g1 xs ps n2 n3 n5 b6 b7 j8 n9 n10)
def ZpV(A:Ar)(K:KT)(F:FT)(m g0 g1:Int)(xs:List Int)(ps:List AV):Prop:=bB (A.not (A.eq (ZaA m g0 g1) 0)) (F (AV.tup [AV.int .i64 0,AV.int .i64 (ZaA m g0 g1)]) (none)) (rB [decide (List.length xs≤1000000)] (bB (A.not (A.eq (sfW m xs) 0)) (F (AV.tup [AV.int .i64 0,AV.int .i64 (sfW m xs)]) (none)) (rB [A.inR .i64 (A.add (Zaj xs) 1),decide (List.length xs≤1000000)] (bB (A.not (A.eq (A.int (A.lenA ps)) (A.add (Zaj xs) 1))) (F (AV.tup [AV.int .i64 0,AV.int .i64 10]) (none)) (K (ZiJ (m) (g0) (g1) (xs) (ps) (A.int (A.lenA ps)) (0)))))))
theorem ZCy{A:Ar}{K:KT}{F:FT}{M:MT}{m g0 g1:Int}{xs:List Int}{ps:List AV} :Zas A tab N6 35 K F M (.run 20 (.tf (.run 8 (.fn)) (.run 14 (.tf (.run 8 (.fn)) (.run 12 (.tf (.run 7 (.fn)) (.run 11 (.hd)))))))) (ZGo m g0 g1 xs ps) []=ZpV A K F m g0 g1 xs ps:=by kernel_rfl
def Zdy(A:Ar)(K:KT)(F:FT)(m g0 g1:Int)(xs:List Int)(ps:List AV)(n0 n1:Int):Prop:=bB (A.lt n1 n0) (rB [decide (List.length [Zap (A.eq (A.int (A.len (AV.toIs (A.nthA ps (A.nat n1))))) (stN m)) 10,ZbB (AV.toIs (A.nthA ps (A.nat n1))) (-1000000) 1000000]≤1000000),List.all [AV.int .i64 (Zap (A.eq (A.int (A.len (AV.toIs (A.nthA ps (A.nat n1))))) (stN m)) 10),AV.int .i64 (ZbB (AV.toIs (A.nthA ps (A.nat n1))) (-1000000) 1000000)] fun x=>AV.bx x&&Nat.beq (Zan A x) 1,decide (List.length (AV.toIs (A.nthA ps (A.nat n1)))≤1000000),decide (ZcQ m=true),Zaf (Zaf (A.le 0 n1) (Nat.blt (A.nat n1) (A.lenA ps))) true] (bB (A.not (A.eq (ZaF [Zap (A.eq (A.int (A.len (AV.toIs (A.nthA ps (A.nat n1))))) (stN m)) 10,ZbB (AV.toIs (A.nthA ps (A.nat n1))) (-1000000) 1000000]) 0)) (F (AV.tup [AV.int .i64 0,AV.int .i64 (ZaF [Zap (A.eq (A.int (A.len (AV.toIs (A.nthA ps (A.nat n1))))) (stN m)) 10,ZbB (AV.toIs (A.nthA ps (A.nat n1))) (-1000000) 1000000])]) (none)) (rB [A.inR .i64 (A.add n1 1)] (K (ZiJ (m) (g0) (g1) (xs) (ps) (n0) (A.add n1 1)))))) (rB [decide (List.length xs≤1000000)] (K (ZhS (m) (g0) (g1) (xs) (ps) (Zaj xs) (0) (0))))
theorem Zis{A:Ar}{K:KT}{F:FT}{M:MT}{m g0 g1:Int}{xs:List Int}{ps:List AV}{n0 n1:Int} :Zas A tab N6 35 K F M (.run 6 (.tf (.run 29 (.tf (.run 8 (.fn)) (.run 8 (.hd)))) (.run 11 (.hd)))) (ZgN m g0 g1 xs ps n0 n1) (ZfU m g0 g1 xs ps n0 n1)=Zdy A K F m g0 g1 xs ps n0 n1:=by kernel_rfl
def ZfT(A:Ar)(K:KT)(F:FT)(m g0 g1:Int)(xs:List Int)(ps:List AV)(n2 n3:Int)(j4:Nat):Prop:=bB (A.lt n3 n2) (rB [decide (ZcQ m=true)] (K (Zeb (m) (g0) (g1) (xs) (ps) (n2) (n3) (stN m) (A.lt n3 n2) (A.lt n3 n2) (j4+1) (0)))) (rB [A.inR .i64 (A.sub (A.nth (AV.toIs (A.nthA ps (A.nat (Zaj xs)))) (A.nat 0)) (A.nth (AV.toIs (A.nthA ps (A.nat 0))) (A.nat 0))),Zaf (Zaf (A.le 0 0) (Nat.blt (A.nat 0) (A.len (AV.toIs (A.nthA ps (A.nat 0)))))) true,Zaf (Zaf (A.le 0 0) (Nat.blt (A.nat 0) (A.lenA ps))) true,Zaf (Zaf (A.le 0 0) (Nat.blt (A.nat 0) (A.len (AV.toIs (A.nthA ps (A.nat (Zaj xs))))))) true,Zaf (Zaf (A.le 0 (Zaj xs)) (Nat.blt (A.nat (Zaj xs)) (A.lenA ps))) true,decide (List.length xs≤1000000)] (F (AV.tup [AV.int .i64 (A.sub (A.nth (AV.toIs (A.nthA ps (A.nat (Zaj xs)))) (A.nat 0)) (A.nth (AV.toIs (A.nthA ps (A.nat 0))) (A.nat 0))),AV.int .i64 0]) (none)))
theorem Zik{A:Ar}{K:KT}{F:FT}{M:MT}{m g0 g1:Int}{xs:List Int}{ps:List AV}{n2 n3:Int}{j4:Nat} :Zas A tab N6 35 K F M (.run 6 (.tf (.run 39 (.hd)) (.run 6 (.fn)))) (Zez m g0 g1 xs ps n2 n3 j4) (ZdF m g0 g1 xs ps n2 n3 j4)=ZfT A K F m g0 g1 xs ps n2 n3 j4:=by kernel_rfl
def ZdQ(A:Ar)(K:KT)(F:FT)(m g0 g1:Int)(xs:List Int)(ps:List AV)(n2 n3 n5:Int)(b6 b7:Bool)(j8:Nat)(n9:Int):Prop:=bB (A.lt n9 n5) (K (Zd3 (m) (g0) (g1) (xs) (ps) (n2) (n3) (n5) (b6) (b7) (j8) (n9) (0))) (rB [A.inR .i64 (A.add n3 1)] (K (ZhS (m) (g0) (g1) (xs) (ps) (n2) (A.add n3 1) (j8))))
theorem Zhw{A:Ar}{K:KT}{F:FT}{M:MT}{m g0 g1:Int}{xs:List Int}{ps:List AV}{n2 n3 n5:Int}{b6 b7:Bool}{j8:Nat}{n9:Int} :Zas A tab N6 35 K F M (.run 6 (.tf (.run 15 (.hd)) (.run 12 (.hd)))) (ZfH m g0 g1 xs ps n2 n3 n5 b6 b7 j8 n9) (ZdS m g0 g1 xs ps n2 n3 n5 b6 b7 j8 n9)=ZdQ A K F m g0 g1 xs ps n2 n3 n5 b6 b7 j8 n9:=by kernel_rfl
def Zbh(A:Ar)(K:KT)(F:FT)(m g0 g1:Int)(xs:List Int)(ps:List AV)(n2 n3 n5:Int)(b6 b7:Bool)(j8:Nat)(n9 n10:Int):Prop:=bB (A.lt n10 2) (qB [decide (Zlz m xs=true),A.eq n10 1] (bB (A.le (ZbK m xs) n3) (rB [A.inR .i64 (A.add n9 1)] (K (Zeb (m) (g0) (g1) (xs) (ps) (n2) (n3) (n5) (b6) (b7) (j8) (A.add n9 1)))) (rB [Zaf (Zaf (A.le 0 (nxS m n9 n10)) (Nat.blt (A.nat (nxS m n9 n10)) (A.len (AV.toIs (A.nthA ps (A.nat (A.add n3 1))))))) true,Zaf (Zaf (A.le 0 (A.add n3 1)) (Nat.blt (A.nat (A.add n3 1)) (A.lenA ps))) true,A.inR .i64 (A.add n3 1),A.inR .i64 (A.add (A.nth (AV.toIs (A.nthA ps (A.nat n3))) (A.nat n9)) (Option.getD (A.f2i Go.FloatKind.f32 (A.i2f Go.FloatKind.f32 (A.add (coI (A.nth [oS m g0 n9 n10,oS m g1 n9 n10] 0) (A.nth xs (A.nat (A.mul 2 n3)))) (coI (A.nth [oS m g0 n9 n10,oS m g1 n9 n10] 1) (A.nth xs (A.nat (A.add (A.mul 2 n3) 1))))))) 0)),Zaf (Option.isSome (A.f2i Go.FloatKind.f32 (A.i2f Go.FloatKind.f32 (A.add (coI (A.nth [oS m g0 n9 n10,oS m g1 n9 n10] 0) (A.nth xs (A.nat (A.mul 2 n3)))) (coI (A.nth [oS m g0 n9 n10,oS m g1 n9 n10] 1) (A.nth xs (A.nat (A.add (A.mul 2 n3) 1)))))))) (A.inR .i64 (Option.getD (A.f2i Go.FloatKind.f32 (A.i2f Go.FloatKind.f32 (A.add (coI (A.nth [oS m g0 n9 n10,oS m g1 n9 n10] 0) (A.nth xs (A.nat (A.mul 2 n3)))) (coI (A.nth [oS m g0 n9 n10,oS m g1 n9 n10] 1) (A.nth xs (A.nat (A.add (A.mul 2 n3) 1))))))) 0)),Zaf (Zaf (A.le 0 n9) (Nat.blt (A.nat n9) (A.len (AV.toIs (A.nthA ps (A.nat n3)))))) true,Zaf (Zaf (A.le 0 n3) (Nat.blt (A.nat n3) (A.lenA ps))) true,A.inR .i64 (A.add (coI (A.nth [oS m g0 n9 n10,oS m g1 n9 n10] 0) (A.nth xs (A.nat (A.mul 2 n3)))) (coI (A.nth [oS m g0 n9 n10,oS m g1 n9 n10] 1) (A.nth xs (A.nat (A.add (A.mul 2 n3) 1))))),decide (-1000000≤A.nth xs (A.nat (A.add (A.mul 2 n3) 1))∧A.nth xs (A.nat (A.add (A.mul 2 n3) 1))≤1000000),Zaf (Zaf (A.le 0 (A.add (A.mul 2 n3) 1)) (Nat.blt (A.nat (A.add (A.mul 2 n3) 1)) (A.len xs))) true,A.inR .i64 (A.add (A.mul 2 n3) 1),A.inR .i64 (A.mul 2 n3),Nat.blt 1 (A.len [oS m g0 n9 n10,oS m g1 n9 n10]),decide (-1000000≤A.nth xs (A.nat (A.mul 2 n3))∧A.nth xs (A.nat (A.mul 2 n3))≤1000000),Zaf (Zaf (A.le 0 (A.mul 2 n3)) (Nat.blt (A.nat (A.mul 2 n3)) (A.len xs))) true,A.inR .i64 (A.mul 2 n3),Nat.blt 0 (A.len [oS m g0 n9 n10,oS m g1 n9 n10]),Nat.beq (A.len [oS m g0 n9 n10,oS m g1 n9 n10]) 2,Nat.blt 0 (A.len [0,0]),decide (Zef m g0 g1 n9 n10=true)] (bB (A.lt (A.nth (AV.toIs (A.nthA ps (A.nat (A.add n3 1)))) (A.nat (nxS m n9 n10))) (A.add (A.nth (AV.toIs (A.nthA ps (A.nat n3))) (A.nat n9)) (Option.getD (A.f2i Go.FloatKind.f32 (A.i2f Go.FloatKind.f32 (A.add (coI (A.nth [oS m g0 n9 n10,oS m g1 n9 n10] 0) (A.nth xs (A.nat (A.mul 2 n3)))) (coI (A.nth [oS m g0 n9 n10,oS m g1 n9 n10] 1) (A.nth xs (A.nat (A.add (A.mul 2 n3) 1))))))) 0))) (rB [A.not false] (F (AV.tup [AV.int .i64 0,AV.int .i64 19]) (none))) (rB [!A.not true] (rB [A.inR .i64 (A.add n10 1)] (K (Zd3 (m) (g0) (g1) (xs) (ps) (n2) (n3) (n5) (b6) (b7) (j8) (n9) (A.add n10 1)))))))) (rB [!A.eq n10 1] (rB [Zaf (Zaf (A.le 0 (nxS m n9 n10)) (Nat.blt (A.nat (nxS m n9 n10)) (A.len (AV.toIs (A.nthA ps (A.nat (A.add n3 1))))))) true,Zaf (Zaf (A.le 0 (A.add n3 1)) (Nat.blt (A.nat (A.add n3 1)) (A.lenA ps))) true,A.inR .i64 (A.add n3 1),A.inR .i64 (A.add (A.nth (AV.toIs (A.nthA ps (A.nat n3))) (A.nat n9)) (Option.getD (A.f2i Go.FloatKind.f32 (A.i2f Go.FloatKind.f32 (A.add (coI (A.nth [oS m g0 n9 n10,oS m g1 n9 n10] 0) (A.nth xs (A.nat (A.mul 2 n3)))) (coI (A.nth [oS m g0 n9 n10,oS m g1 n9 n10] 1) (A.nth xs (A.nat (A.add (A.mul 2 n3) 1))))))) 0)),Zaf (Option.isSome (A.f2i Go.FloatKind.f32 (A.i2f Go.FloatKind.f32 (A.add (coI (A.nth [oS m g0 n9 n10,oS m g1 n9 n10] 0) (A.nth xs (A.nat (A.mul 2 n3)))) (coI (A.nth [oS m g0 n9 n10,oS m g1 n9 n10] 1) (A.nth xs (A.nat (A.add (A.mul 2 n3) 1)))))))) (A.inR .i64 (Option.getD (A.f2i Go.FloatKind.f32 (A.i2f Go.FloatKind.f32 (A.add (coI (A.nth [oS m g0 n9 n10,oS m g1 n9 n10] 0) (A.nth xs (A.nat (A.mul 2 n3)))) (coI (A.nth [oS m g0 n9 n10,oS m g1 n9 n10] 1) (A.nth xs (A.nat (A.add (A.mul 2 n3) 1))))))) 0)),Zaf (Zaf (A.le 0 n9) (Nat.blt (A.nat n9) (A.len (AV.toIs (A.nthA ps (A.nat n3)))))) true,Zaf (Zaf (A.le 0 n3) (Nat.blt (A.nat n3) (A.lenA ps))) true,A.inR .i64 (A.add (coI (A.nth [oS m g0 n9 n10,oS m g1 n9 n10] 0) (A.nth xs (A.nat (A.mul 2 n3)))) (coI (A.nth [oS m g0 n9 n10,oS m g1 n9 n10] 1) (A.nth xs (A.nat (A.add (A.mul 2 n3) 1))))),decide (-1000000≤A.nth xs (A.nat (A.add (A.mul 2 n3) 1))∧A.nth xs (A.nat (A.add (A.mul 2 n3) 1))≤1000000),Zaf (Zaf (A.le 0 (A.add (A.mul 2 n3) 1)) (Nat.blt (A.nat (A.add (A.mul 2 n3) 1)) (A.len xs))) true,A.inR .i64 (A.add (A.mul 2 n3) 1),A.inR .i64 (A.mul 2 n3),Nat.blt 1 (A.len [oS m g0 n9 n10,oS m g1 n9 n10]),decide (-1000000≤A.nth xs (A.nat (A.mul 2 n3))∧A.nth xs (A.nat (A.mul 2 n3))≤1000000),Zaf (Zaf (A.le 0 (A.mul 2 n3)) (Nat.blt (A.nat (A.mul 2 n3)) (A.len xs))) true,A.inR .i64 (A.mul 2 n3),Nat.blt 0 (A.len [oS m g0 n9 n10,oS m g1 n9 n10]),Nat.beq (A.len [oS m g0 n9 n10,oS m g1 n9 n10]) 2,Nat.blt 0 (A.len [0,0]),decide (Zef m g0 g1 n9 n10=true)] (bB (A.lt (A.nth (AV.toIs (A.nthA ps (A.nat (A.add n3 1)))) (A.nat (nxS m n9 n10))) (A.add (A.nth (AV.toIs (A.nthA ps (A.nat n3))) (A.nat n9)) (Option.getD (A.f2i Go.FloatKind.f32 (A.i2f Go.FloatKind.f32 (A.add (coI (A.nth [oS m g0 n9 n10,oS m g1 n9 n10] 0) (A.nth xs (A.nat (A.mul 2 n3)))) (coI (A.nth [oS m g0 n9 n10,oS m g1 n9 n10] 1) (A.nth xs (A.nat (A.add (A.mul 2 n3) 1))))))) 0))) (rB [A.not false] (F (AV.tup [AV.int .i64 0,AV.int .i64 19]) (none))) (rB [!A.not true] (rB [A.inR .i64 (A.add n10 1)] (K (Zd3 (m) (g0) (g1) (xs) (ps) (n2) (n3) (n5) (b6) (b7) (j8) (n9) (A.add n10 1))))))))) (rB [A.inR .i64 (A.add n9 1)] (K (Zeb (m) (g0) (g1) (xs) (ps) (n2) (n3) (n5) (b6) (b7) (j8) (A.add n9 1))))
theorem Zep{A:Ar}{K:KT}{F:FT}{M:MT}{m g0 g1:Int}{xs:List Int}{ps:List AV}{n2 n3 n5:Int}{b6 b7:Bool}{j8:Nat}{n9 n10:Int} :Zas A tab N6 35 K F M (.run 6 (.tf (.run 10 (.tf (.run 1 (.tf (.run 8 (.hd)) (.run 38 (.tf (.run 9 (.ty (.run 5 (.fn)))) (.run 6 (.fy (.run 8 (.hd)))))))) (.run 1 (.fy (.run 38 (.tf (.run 9 (.ty (.run 5 (.fn)))) (.run 6 (.fy (.run 8 (.hd)))))))))) (.run 8 (.hd)))) (ZdE m g0 g1 xs ps n2 n3 n5 b6 b7 j8 n9 n10) (ZcO m g0 g1 xs ps n2 n3 n5 b6 b7 j8 n9 n10)=Zbh A K F m g0 g1 xs ps n2 n3 n5 b6 b7 j8 n9 n10:=by kernel_rfl
def ZyS(m g0 g1:Int)(bs xs:List Int):AFrame:={ fn:=40,N:=53,env:=[(0,AV.agg (Row.gen [.int .i64 m, .int .i64 g0, .int .i64 g1])),(1,AV.list (.ints .i64 bs)),(2,AV.list (.ints .i64 xs))],todo:=[.code a40.code],defs:=[],rnd:=none,ret:=false,res:=[ARes.tmp 6,ARes.tmp 7] }
def ZFe(m g0 g1:Int)(bs xs:List Int):List AFrame:=[(ZyS m g0 g1 bs xs)]
theorem ZvO(m g0 g1:Int)(bs xs:List Int):Zat tab 40 [AV.agg (Row.gen [.int .i64 m, .int .i64 g0, .int .i64 g1]),AV.list (.ints .i64 bs),AV.list (.ints .i64 xs)]=some (ZyS m g0 g1 bs xs):=rfl
def ZgS(m g0 g1:Int)(bs xs:List Int)(n0 n1 n2:Int)(b3:Bool)(l4:List Int)(n5 n6:Int)(l7:List Int):List AFrame:=[{ fn:=80,N:=34,env:=[(2,AV.ptr 80003 0 0 0),(5,AV.row 80031 0),(6,AV.int .i64 n5),(15,AV.row 80016 0),(16,AV.int .i64 n0),(17,AV.int .i64 n6)],todo:=.code (ACode.gh [] ZyK)::ZDi,defs:=[],rnd:=none,ret:=false,res:=[ARes.tmp 4] },{ fn:=40,N:=53,env:=[(1,AV.list (.ints .i64 bs)),(2,AV.list (.ints .i64 xs)),(3,AV.ptr 40004 0 0 0),(8,AV.int .i64 n1),(9,AV.int .i64 0),(31,AV.int .i64 n2),(32,AV.bool b3),(34,AV.agg (Row.gen [.int .i64 m, .int .i64 g0, .int .i64 g1])),(35,AV.list (.ints .i64 bs))],todo:=[AItem.inReg [oN 36 (OpK.ncall true 40037 80 [Opd.t 34,Opd.t 35]),oN 37 (OpK.len (Opd.t 36)),oN 38 (OpK.mov (cI 0))], .code (ACode.block 0 (ACode.loop ZvJ)), .code Zw4],defs:=[],rnd:=none,ret:=false,res:=[ARes.tmp 6,ARes.tmp 7] }]
def Zfb(m g0 g1:Int)(bs xs:List Int)(n0 n1 n2:Int)(b3:Bool)(l4:List Int)(n5 n6:Int)(l7:List Int):Zac:=[(40004,{ base:=0,blks:=[Blk.row 24 3 (Row.gen [AV.agg (Row.gen [AV.int .i64 m,AV.int .i64 g0,AV.int .i64 g1])])] }),(80003,{ base:=0,blks:=[Blk.row 24 3 (Row.gen [AV.agg (Row.gen [AV.int .i64 m,AV.int .i64 g0,AV.int .i64 g1])])] }),(80016,{ base:=0,blks:=[Blk.row 3 1 (.ints .i64 l4)] }),(80031,{ base:=0,blks:=[Blk.row 3 1 (.ints .i64 l7)] })]
abbrev ZiO(m g0 g1:Int)(bs xs:List Int)(n0 n1 n2:Int)(b3:Bool)(l4:List Int)(n5 n6:Int)(l7:List Int):List AFrame×Zac:=(ZgS m g0 g1 bs xs n0 n1 n2 b3 l4 n5 n6 l7,Zfb m g0 g1 bs xs n0 n1 n2 b3 l4 n5 n6 l7)
def ZeO(xs l7:List Int)(n8 n9 n10:Int):List AFrame:=[{ fn:=40,N:=53,env:=[(2,AV.list (.ints .i64 xs)),(9,AV.int .i64 n9),(36,AV.row 80031 0),(37,AV.int .i64 n8),(38,AV.int .i64 n10)],todo:=.code (ACode.gh [] ZAr)::ZCg,defs:=[],rnd:=none,ret:=false,res:=[ARes.tmp 6,ARes.tmp 7] }]
def Zdo(xs l7:List Int)(n8 n9 n10:Int):Zac:=[(80031,{ base:=0,blks:=[Blk.row 3 1 (.ints .i64 l7)] })]
abbrev Zia(xs l7:List Int)(n8 n9 n10:Int):List AFrame×Zac:=(ZeO xs l7 n8 n9 n10,Zdo xs l7 n8 n9 n10)
def ZuA(A:Ar)(K:KT)(F:FT)(m g0 g1:Int)(bs xs:List Int):Prop:=rB [decide (List.length [ZaA m g0 g1,bsE bs,sfW m xs,Zap (A.eq (A.int (A.len xs)) (Go.IntKind.wrap .i64 (A.mul 2 (Go.IntKind.wrap .i64 (A.add (A.int (A.len bs)) m))))) 13]≤1000000),List.all [AV.int .i64 (ZaA m g0 g1),AV.int .i64 (bsE bs),AV.int .i64 (sfW m xs),AV.int .i64 (Zap (A.eq (A.int (A.len xs)) (Go.IntKind.wrap .i64 (A.mul 2 (Go.IntKind.wrap .i64 (A.add (A.int (A.len bs)) m))))) 13)] fun x=>AV.bx x&&Nat.beq (Zan A x) 1,decide (List.length xs≤1000000),decide (List.length bs≤1000000)] (bB (A.not (A.eq (ZaF [ZaA m g0 g1,bsE bs,sfW m xs,Zap (A.eq (A.int (A.len xs)) (Go.IntKind.wrap .i64 (A.mul 2 (Go.IntKind.wrap .i64 (A.add (A.int (A.len bs)) m))))) 13]) 0)) (F (AV.tup [AV.int .i64 0,AV.int .i64 (ZaF [ZaA m g0 g1,bsE bs,sfW m xs,Zap (A.eq (A.int (A.len xs)) (Go.IntKind.wrap .i64 (A.mul 2 (Go.IntKind.wrap .i64 (A.add (A.int (A.len bs)) m))))) 13])]) (none)) (rB [Zaf (A.le 0 m) (Nat.ble (A.len bs+A.nat m) 4294967296),decide (List.length bs≤1000000)] (K (ZiO (m) (g0) (g1) (bs) (xs) (A.int (A.len (A.app bs (A.rep (A.nat m) 0)))) (ZaF [ZaA m g0 g1,bsE bs,sfW m xs,Zap (A.eq (A.int (A.len xs)) (Go.IntKind.wrap .i64 (A.mul 2 (Go.IntKind.wrap .i64 (A.add (A.int (A.len bs)) m))))) 13]) (ZaF [ZaA m g0 g1,bsE bs,sfW m xs,Zap (A.eq (A.int (A.len xs)) (Go.IntKind.wrap .i64 (A.mul 2 (Go.IntKind.wrap .i64 (A.add (A.int (A.len bs)) m))))) 13]) (A.not (A.eq (ZaF [ZaA m g0 g1,bsE bs,sfW m xs,Zap (A.eq (A.int (A.len xs)) (Go.IntKind.wrap .i64 (A.mul 2 (Go.IntKind.wrap .i64 (A.add (A.int (A.len bs)) m))))) 13]) 0)) (A.app bs (A.rep (A.nat m) 0)) (0) (0) ([])))))
theorem ZDx{A:Ar}{K:KT}{F:FT}{M:MT}{m g0 g1:Int}{bs xs:List Int} :Zas A tab N6 40 K F M (.run 15 (.tf (.run 7 (.fn)) (.run 31 (.hd)))) (ZFe m g0 g1 bs xs) []=ZuA A K F m g0 g1 bs xs:=by kernel_rfl
def Zfx(A:Ar)(K:KT)(F:FT)(m g0 g1:Int)(bs xs:List Int)(n0 n1 n2:Int)(b3:Bool)(l4:List Int)(n5 n6:Int)(l7:List Int):Prop:=bB (A.lt n6 n0) (rB [A.inR .i64 (A.add n6 1),Zaf (Zaf (Zaf (Nat.ble 2 (A.len [oS m g0 n5 (A.nth l4 (A.nat n6)),oS m g1 n5 (A.nth l4 (A.nat n6))])) true) true) (Nat.ble (A.len l7+A.len (A.sub3 [oS m g0 n5 (A.nth l4 (A.nat n6)),oS m g1 n5 (A.nth l4 (A.nat n6))] 0 2)) 4294967296),Nat.beq (A.len [oS m g0 n5 (A.nth l4 (A.nat n6)),oS m g1 n5 (A.nth l4 (A.nat n6))]) 2,Nat.blt 0 (A.len [0,0]),decide (Zef m g0 g1 n5 (A.nth l4 (A.nat n6))=true),Zaf (Nat.blt (A.nat n6) (A.len l4)) true,Zaf (A.le 0 n6) (Nat.blt (A.nat n6) (A.len l4))] (K (ZiO (m) (g0) (g1) (bs) (xs) (n0) (n1) (n2) (b3) (l4) (nxS m n5 (A.nth l4 (A.nat n6))) (A.add n6 1) (A.app l7 (A.sub3 [oS m g0 n5 (A.nth l4 (A.nat n6)),oS m g1 n5 (A.nth l4 (A.nat n6))] 0 2))))) (K (Zia (xs) (l7) (A.int (A.len l7)) (0) (0)))
theorem Ziw{A:Ar}{K:KT}{F:FT}{M:MT}{m g0 g1:Int}{bs xs:List Int}{n0 n1 n2:Int}{b3:Bool}{l4:List Int}{n5 n6:Int}{l7:List Int} :Zas A tab N6 40 K F M (.run 6 (.tf (.run 41 (.hd)) (.run 14 (.hd)))) (ZgS m g0 g1 bs xs n0 n1 n2 b3 l4 n5 n6 l7) (Zfb m g0 g1 bs xs n0 n1 n2 b3 l4 n5 n6 l7)=Zfx A K F m g0 g1 bs xs n0 n1 n2 b3 l4 n5 n6 l7:=by kernel_rfl
def Zft(A:Ar)(K:KT)(F:FT)(xs l7:List Int)(n8 n9 n10:Int):Prop:=bB (A.lt n10 n8) (rB [A.inR .i64 (A.add n10 1),A.inR .i64 (A.add n9 (coI (A.nth l7 (A.nat n10)) (A.nth xs (A.nat n10)))),decide (-1000000≤A.nth xs (A.nat n10)∧A.nth xs (A.nat n10)≤1000000),Zaf (Zaf (A.le 0 n10) (Nat.blt (A.nat n10) (A.len xs))) true,Zaf (Nat.blt (A.nat n10) (A.len l7)) true,Zaf (A.le 0 n10) (Nat.blt (A.nat n10) (A.len l7))] (K (Zia (xs) (l7) (n8) (A.add n9 (coI (A.nth l7 (A.nat n10)) (A.nth xs (A.nat n10)))) (A.add n10 1)))) (F (AV.tup [AV.int .i64 n9,AV.int .i64 0]) (none))
theorem ZiA{A:Ar}{K:KT}{F:FT}{M:MT}{xs l7:List Int}{n8 n9 n10:Int} :Zas A tab N6 40 K F M (.run 6 (.tf (.run 29 (.hd)) (.run 8 (.fn)))) (ZeO xs l7 n8 n9 n10) (Zdo xs l7 n8 n9 n10)=Zft A K F xs l7 n8 n9 n10:=by kernel_rfl
def Zzb(m g0 g1:Int):AFrame:={ fn:=32,N:=82,env:=[(0,AV.agg (Row.gen [.int .i64 m, .int .i64 g0, .int .i64 g1]))],todo:=[.code a32.code],defs:=[],rnd:=none,ret:=false,res:=[ARes.tmp 2,ARes.tmp 3] }
def ZF1(m g0 g1:Int):List AFrame:=[(Zzb m g0 g1)]
theorem ZvM(m g0 g1:Int):Zat tab 32 [AV.agg (Row.gen [.int .i64 m, .int .i64 g0, .int .i64 g1])]=some (Zzb m g0 g1):=rfl
def ZeL(m g0 g1 n0 n1:Int)(l2:List Int)(n3 n4:Int):List AFrame:=[{ fn:=32,N:=82,env:=[(5,AV.fn 81 [AV.ptr 32002 0 0 0]),(6,AV.int .i64 n0),(7,AV.row 32027 0),(10,AV.int .i64 n4),(37,AV.int .i64 n1),(38,AV.int .i64 n3)],todo:=.code (ACode.gh [] ZAS)::ZDa,defs:=[],rnd:=none,ret:=false,res:=[ARes.tmp 2,ARes.tmp 3] }]
def Zdl(m g0 g1 n0 n1:Int)(l2:List Int)(n3 n4:Int):Zac:=[(32002,{ base:=0,blks:=[Blk.row 24 3 (Row.gen [AV.agg (Row.gen [AV.int .i64 m,AV.int .i64 g0,AV.int .i64 g1])])] }),(32027,{ base:=0,blks:=[Blk.row 3 1 (.ints .i64 l2)] })]
abbrev ZiM(m g0 g1 n0 n1:Int)(l2:List Int)(n3 n4:Int):List AFrame×Zac:=(ZeL m g0 g1 n0 n1 l2 n3 n4,Zdl m g0 g1 n0 n1 l2 n3 n4)
def ZgW(m g0 g1 n0 n1 n3 n5 n6:Int)(l7:List Int):List AFrame:=[{ fn:=32,N:=82,env:=[(5,AV.fn 81 [AV.ptr 32002 0 0 0]),(6,AV.int .i64 n0),(7,AV.row 32027 0),(10,AV.int .i64 n5),(11,AV.int .i64 n6),(37,AV.int .i64 n1),(38,AV.int .i64 n3)],todo:=.code (ACode.gh [] ZAo)::ZDh,defs:=[],rnd:=none,ret:=false,res:=[ARes.tmp 2,ARes.tmp 3] }]
def ZfJ(m g0 g1 n0 n1 n3 n5 n6:Int)(l7:List Int):Zac:=[(32002,{ base:=0,blks:=[Blk.row 24 3 (Row.gen [AV.agg (Row.gen [AV.int .i64 m,AV.int .i64 g0,AV.int .i64 g1])])] }),(32027,{ base:=0,blks:=[Blk.row 3 1 (.ints .i64 l7)] })]
abbrev ZiZ(m g0 g1 n0 n1 n3 n5 n6:Int)(l7:List Int):List AFrame×Zac:=(ZgW m g0 g1 n0 n1 n3 n5 n6 l7,ZfJ m g0 g1 n0 n1 n3 n5 n6 l7)
def Zew(m g0 g1 n0 n1 n3 n6 n8 n9:Int)(l10:List Int):List AFrame:=[{ fn:=32,N:=82,env:=[(5,AV.fn 81 [AV.ptr 32002 0 0 0]),(6,AV.int .i64 n0),(7,AV.row 32027 0),(10,AV.int .i64 n8),(11,AV.int .i64 n6),(37,AV.int .i64 n1),(38,AV.int .i64 n3),(45,AV.int .i64 n9)],todo:=.code (ACode.gh [] Zyf)::ZCb,defs:=[],rnd:=none,ret:=false,res:=[ARes.tmp 2,ARes.tmp 3] }]
def Zdv(m g0 g1 n0 n1 n3 n6 n8 n9:Int)(l10:List Int):Zac:=[(32002,{ base:=0,blks:=[Blk.row 24 3 (Row.gen [AV.agg (Row.gen [AV.int .i64 m,AV.int .i64 g0,AV.int .i64 g1])])] }),(32027,{ base:=0,blks:=[Blk.row 3 1 (.ints .i64 l10)] })]
abbrev Zfg(m g0 g1 n0 n1 n3 n6 n8 n9:Int)(l10:List Int):List AFrame×Zac:=(Zew m g0 g1 n0 n1 n3 n6 n8 n9 l10,Zdv m g0 g1 n0 n1 n3 n6 n8 n9 l10)
def ZvW(A:Ar)(K:KT)(F:FT)(m g0 g1:Int):Prop:=bB (A.not (A.eq (ZaA m g0 g1) 0)) (F (AV.tup [AV.int .i64 0,AV.int .i64 (ZaA m g0 g1)]) (none)) (rB [A.inR .i64 (A.add (A.shl 1 m) 1),Zaf (Nat.blt (A.nat (nxS m 0 1)) (A.len (List.replicate (Int.toNat (A.shl 1 m)) 100000))) true,Zaf (A.le 0 (nxS m 0 1)) (Nat.blt (A.nat (nxS m 0 1)) (A.len (List.replicate (Int.toNat (A.shl 1 m)) 100000))),A.inR .i64 (A.add (A.nth [oS m g0 0 1,oS m g1 0 1] 0) (A.nth [oS m g0 0 1,oS m g1 0 1] 1)),Nat.blt 1 (A.len [oS m g0 0 1,oS m g1 0 1]),Nat.blt 0 (A.len [oS m g0 0 1,oS m g1 0 1]),Nat.beq (A.len [oS m g0 0 1,oS m g1 0 1]) 2,Nat.blt 0 (A.len [0,0]),decide (Zef m g0 g1 0 1=true),decide (Zrn (A.shl 1 m)=true),List.all [AV.int .i64 100000] fun x=>AV.bx x&&Nat.beq (Zan A x) 1,Zaf (Zaf (A.le 0 m) (Nat.blt (A.nat m) 64)) (A.inR .i64 (A.shl 1 m))] (K (ZiM (m) (g0) (g1) (A.shl 1 m) (A.add (A.shl 1 m) 1) (A.set (List.replicate (Int.toNat (A.shl 1 m)) 100000) (A.nat (nxS m 0 1)) (A.add (A.nth [oS m g0 0 1,oS m g1 0 1] 0) (A.nth [oS m g0 0 1,oS m g1 0 1] 1))) (0) (100000))))
theorem ZCA{A:Ar}{K:KT}{F:FT}{M:MT}{m g0 g1:Int} :Zas A tab N6 32 K F M (.run 18 (.tf (.run 7 (.fn)) (.run 76 (.hd)))) (ZF1 m g0 g1) []=ZvW A K F m g0 g1:=by kernel_rfl
def Ze8(A:Ar)(K:KT)(F:FT)(m g0 g1 n0 n1:Int)(l2:List Int)(n3 n4:Int):Prop:=bB (A.lt n3 n1) (K (ZiZ (m) (g0) (g1) (n0) (n1) (n3) (n4) (1) (l2))) (F (AV.tup [AV.int .i64 n4,AV.int .i64 0]) (none))
theorem Zic{A:Ar}{K:KT}{F:FT}{M:MT}{m g0 g1 n0 n1:Int}{l2:List Int}{n3 n4:Int} :Zas A tab N6 32 K F M (.run 6 (.tf (.run 10 (.hd)) (.run 8 (.fn)))) (ZeL m g0 g1 n0 n1 l2 n3 n4) (Zdl m g0 g1 n0 n1 l2 n3 n4)=Ze8 A K F m g0 g1 n0 n1 l2 n3 n4:=by kernel_rfl
def Zfz(A:Ar)(K:KT)(F:FT)(m g0 g1 n0 n1 n3 n5 n6:Int)(l7:List Int):Prop:=bB (A.lt n6 n0) (K (Zfg (m) (g0) (g1) (n0) (n1) (n3) (n6) (n5) (0) (l7))) (rB [A.inR .i64 (A.add n3 1)] (K (ZiM (m) (g0) (g1) (n0) (n1) (l7) (A.add n3 1) (n5))))
theorem ZiS{A:Ar}{K:KT}{F:FT}{M:MT}{m g0 g1 n0 n1 n3 n5 n6:Int}{l7:List Int} :Zas A tab N6 32 K F M (.run 8 (.tf (.run 10 (.hd)) (.run 8 (.hd)))) (ZgW m g0 g1 n0 n1 n3 n5 n6 l7) (ZfJ m g0 g1 n0 n1 n3 n5 n6 l7)=Zfz A K F m g0 g1 n0 n1 n3 n5 n6 l7:=by kernel_rfl
def ZdI(A:Ar)(K:KT)(F:FT)(m g0 g1 n0 n1 n3 n6 n8 n9:Int)(l10:List Int):Prop:=bB (A.lt n9 2) (rB [A.inR .i64 (A.add (A.nth [oS m g0 n6 n9,oS m g1 n6 n9] 0) (A.nth [oS m g0 n6 n9,oS m g1 n6 n9] 1)),Nat.blt 1 (A.len [oS m g0 n6 n9,oS m g1 n6 n9]),Nat.blt 0 (A.len [oS m g0 n6 n9,oS m g1 n6 n9]),Nat.beq (A.len [oS m g0 n6 n9,oS m g1 n6 n9]) 2,Nat.blt 0 (A.len [0,0]),decide (Zef m g0 g1 n6 n9=true)] (bB (A.eq (nxS m n6 n9) 0) (rB [A.inR .i64 (A.add n9 1),A.inR .i64 (A.add (A.nth l10 (A.nat n6)) (A.add (A.nth [oS m g0 n6 n9,oS m g1 n6 n9] 0) (A.nth [oS m g0 n6 n9,oS m g1 n6 n9] 1))),Zaf (Nat.blt (A.nat n6) (A.len l10)) true,Zaf (A.le 0 n6) (Nat.blt (A.nat n6) (A.len l10))] (K (Zfg (m) (g0) (g1) (n0) (n1) (n3) (n6) (A.min n8 (A.add (A.nth l10 (A.nat n6)) (A.add (A.nth [oS m g0 n6 n9,oS m g1 n6 n9] 0) (A.nth [oS m g0 n6 n9,oS m g1 n6 n9] 1)))) (A.add n9 1) (l10)))) (rB [A.inR .i64 (A.add n9 1),Zaf (Nat.blt (A.nat (nxS m n6 n9)) (A.len l10)) true,Zaf (A.le 0 (nxS m n6 n9)) (Nat.blt (A.nat (nxS m n6 n9)) (A.len l10)),A.inR .i64 (A.add (A.nth l10 (A.nat n6)) (A.add (A.nth [oS m g0 n6 n9,oS m g1 n6 n9] 0) (A.nth [oS m g0 n6 n9,oS m g1 n6 n9] 1))),Zaf (Nat.blt (A.nat n6) (A.len l10)) true,Zaf (A.le 0 n6) (Nat.blt (A.nat n6) (A.len l10)),Zaf (Nat.blt (A.nat (nxS m n6 n9)) (A.len l10)) true,Zaf (A.le 0 (nxS m n6 n9)) (Nat.blt (A.nat (nxS m n6 n9)) (A.len l10))] (K (Zfg (m) (g0) (g1) (n0) (n1) (n3) (n6) (n8) (A.add n9 1) (A.set l10 (A.nat (nxS m n6 n9)) (A.min (A.nth l10 (A.nat (nxS m n6 n9))) (A.add (A.nth l10 (A.nat n6)) (A.add (A.nth [oS m g0 n6 n9,oS m g1 n6 n9] 0) (A.nth [oS m g0 n6 n9,oS m g1 n6 n9] 1)))))))))) (rB [A.inR .i64 (A.add n6 1)] (K (ZiZ (m) (g0) (g1) (n0) (n1) (n3) (n8) (A.add n6 1) (l10))))
theorem ZiD{A:Ar}{K:KT}{F:FT}{M:MT}{m g0 g1 n0 n1 n3 n6 n8 n9:Int}{l10:List Int} :Zas A tab N6 32 K F M (.run 6 (.tf (.run 51 (.tf (.run 20 (.hd)) (.run 9 (.hd)))) (.run 9 (.hd)))) (Zew m g0 g1 n0 n1 n3 n6 n8 n9 l10) (Zdv m g0 g1 n0 n1 n3 n6 n8 n9 l10)=ZdI A K F m g0 g1 n0 n1 n3 n6 n8 n9 l10:=by kernel_rfl
end Go.Proofs.Ytklbmkllepkjcaa
/- Contracts as a list. No condition. -/
namespace Go.Proofs.Ytklbmkllepkjcaa
theorem Zwk{m p q:Int}(hv:ZaA m p q=0){s b:Int}(hs:0≤s∧s<stN m)(hb:b=0∨b=1):Zef m p q s b=true∧0≤nxS m s b∧nxS m s b<stN m:=by
 have hm:=(Zak hv).1
 obtain⟨r0,r1,r2,r3,r4⟩:=Zpe (m:=m) (s:=s) (b:=b) hm hs hb
 exact⟨decide_eq_true ⟨hv,hs.1,hs.2,hb⟩,r2,r3⟩
def Zmy(m p q:Int):Int→List Int→List Int
 |_,[]=>[]
 |s,b::bs=>oS m p s b::oS m q s b::Zmy m p q (nxS m s b) bs
def Zov(m p q:Int)(bs:List Int):List Int:=Zmy m p q 0 (bs++List.replicate m.toNat 0)
theorem ZmD(m p q:Int):∀(bs:List Int) (s:Int),(Zmy m p q s bs).length=2*bs.length
 |[],_=>rfl
 |b::bs,s=>by simp only[Zmy,List.length_cons,ZmD m p q bs];omega
theorem Zr4(m p q:Int)(bs:List Int):(Zov m p q bs).length=2*(bs.length+m.toNat):=by
 unfold Zov;rw[ZmD,List.length_append,List.length_replicate]
theorem ZBz{w:List Int}(h:Zbc w=true)(j:Nat):w.getD j 0=0∨w.getD j 0=1:=by
 by_cases hj:j<w.length
 ·exact of_decide_eq_true (List.all_eq_true.1 h _ (Zge hj))
 ·rw[List.getD_eq_getElem?_getD,List.getElem?_eq_none (by omega)];exact .inl rfl
theorem ZmF{a b:List Int}(ha:Zbc a=true)(hb:Zbc b=true):Zbc (a++b)=true:=by
 unfold Zbc at *;rw[List.all_append,ha,hb];rfl
theorem Zm4(n:Nat):Zbc (List.replicate n 0)=true:=List.all_eq_true.2 fun x hx=>by rw[(List.mem_replicate.1 hx).2];rfl
def Zlm(so:List Int):Nat→List Int→Int
 |_,[]=>0
 |i,x::l=>coI x (so.getD i 0)+Zlm so (i+1) l
section
variable {C:Ctx}(hC:C.P=Try.prog)
include hC
theorem E40(m p q:Int)(hv:ZaA m p q=0)(xs so l:List Int)(hb:Zbc l=true)(hl:l.length≤1000)(n1 n2:Int)(b3:Bool)(r:AV)
 (hn:Ev C (ZeO so (Zmy m p q 0 l) ((Zmy m p q 0 l).length:Int) 0 0) (Zdo so (Zmy m p q 0 l) ((Zmy m p q 0 l).length:Int) 0 0) (Zbe 40 r none)):
 ∀(k i:Nat) (s:Int) (out:List Int),i+k=l.length→(0≤s∧s<stN m)→out.length=2*i→out++Zmy m p q s (l.drop i)=Zmy m p q 0 l→
 Ev C (ZgS m p q xs so l.length n1 n2 b3 l s i out) (Zfb m p q xs so l.length n1 n2 b3 l s i out) (Zbe 40 r none):=by
 intro k
 induction k with
 |zero=>
  intro i s out hi hs ho he
  rw[List.drop_of_length_le (by omega),Zmy,List.append_nil]at he
  subst he
  refine tgo hC ZbZ Ziw ?_
  simp[Zfx,show ¬(i:Int)<l.length by omega]at hn⊢
  exact hn
 |succ k ih=>
  intro i s out hi hs ho he
  have hlt:i<l.length:=by omega
  have hlt2:(i:Int)<l.length:=by omega
  have hbi:=ZBz hb i
  obtain⟨s1,s2,s3⟩:=Zwk hv hs hbi
  rw[ZhH hlt,Zmy]at he
  have next:=ih (i+1) (nxS m s (l.getD i 0)) (out++[oS m p s (l.getD i 0),oS m q s (l.getD i 0)]) (by omega) ⟨s2,s3⟩ (by simp;omega) (by rw[List.append_assoc];exact he)
  refine tgo hC ZbZ Ziw ?_
  simp[-List.getD_eq_getElem?_getD,Zfx,hlt,hlt2,s1]at next⊢
  exact⟨by omega,next⟩
theorem M40(so l:List Int)(hl:l.length≤so.length)(hn:l.length≤1000)(hg:ZbB so (-7) 7=0)(T:Int):∀(k i:Nat) (n:Int),i+k=l.length→ -7*(i:Int)≤n→n≤7*(i:Int)→n+Zlm so i (l.drop i)=T→
 Ev C (ZeO so l l.length n i) (Zdo so l l.length n i) (Zbe 40 (.tup [.int .i64 T, .int .i64 0]) none):=by
 intro k
 induction k with
 |zero=>
  intro i n hi h1 h2 e
  rw[List.drop_of_length_le (by omega),Zlm,Int.add_zero]at e
  refine tgo hC ZbZ ZiA ?_
  simp[Zft,show ¬(i:Int)<l.length by omega,e]
 |succ k ih=>
  intro i n hi h1 h2 e
  have hlt:i<l.length:=by omega
  have hlt2:(i:Int)<l.length:=by omega
  have hlt3:i<so.length:=by omega
  rw[ZhH hlt,Zlm]at e
  have ha:=Zbt hg i
  have hco: -7≤coI (l.getD i 0) (so.getD i 0)∧coI (l.getD i 0) (so.getD i 0)≤7:=by unfold coI;split<;>omega
  have next:=ih (i+1) (n+coI (l.getD i 0) (so.getD i 0)) (by omega) (by omega) (by omega) (by omega)
  refine tgo hC ZbZ ZiA ?_
  simp[-List.getD_eq_getElem?_getD,Zft,hlt,hlt2,hlt3]at next⊢
  exact⟨⟨by omega,by omega,decide_eq_true (by omega)⟩,next⟩
end
theorem Zng{bs:List Int}(h:bsE bs=0):bs.length≤300∧Zbc bs=true:=by
 unfold bsE at h
 split at h
 ·cases h
 ·split at h
  ·exact⟨by omega,by assumption⟩
  ·cases h
theorem Zcl{x:Int}{l:List Int}(h:ZaF (x::l)=0):x=0∧ZaF l=0:=by
 rw[ZaF]at h
 split at h
 ·exact⟨by assumption,h⟩
 ·contradiction
theorem Zqz{m:Int}(hm:m=1∨m=2∨m=3):0<stN m:=by
 have:=ZiE (m:=m) (by omega);omega
def meF(m p q:Int)(bs so:List Int):Int:=ZaF [ZaA m p q,bsE bs,sfW m so,Zap (decide ((so.length:Int)=IntKind.i64.wrap (2*IntKind.i64.wrap (bs.length+m)))) 13]
theorem Zyg{m p q:Int}{bs so:List Int}(h:meF m p q bs so=0):OkC m p q so∧bsE bs=0∧(so.length:Int)=2*(bs.length+m):=by
 obtain⟨h1,h⟩:=Zcl h
 obtain⟨h2,h⟩:=Zcl h
 obtain⟨h3,h⟩:=Zcl h
 obtain⟨h4,_⟩:=Zcl h
 have hm:=(Zak h1).1
 have hb:=Zng h2
 refine⟨⟨h1,by rw[←ZhK (by omega)];exact h3⟩,h2,?_⟩
 have w1:IntKind.i64.wrap (bs.length+m)=bs.length+m:=by rw[IntKind.wrap_i64];omega
 have w2:IntKind.i64.wrap (2*(bs.length+m))=2*(bs.length+m):=by rw[IntKind.wrap_i64];omega
 rw[w1,w2]at h4
 by_cases h6:(so.length:Int)=2*(bs.length+m)
 ·exact h6
 ·simp[Zap,h6]at h4
theorem Zt5{m p q:Int}{bs so:List Int}(h:OkC m p q so)(hb:bsE bs=0)(hl:(so.length:Int)=2*(bs.length+m)):meF m p q bs so=0:=by
 have hm:=(Zak h.cv).1
 have hbb:=Zng hb
 have hs:sfW m so=0:=by rw[ZhK (by omega)];exact h.sf
 have w1:IntKind.i64.wrap (bs.length+m)=bs.length+m:=by rw[IntKind.wrap_i64];omega
 have w2:IntKind.i64.wrap (2*(bs.length+m))=2*(bs.length+m):=by rw[IntKind.wrap_i64];omega
 unfold meF
 rw[w1,w2,hs,hb,h.cv]
 simp[ZaF,Zap,hl]
def meI(m p q:Int)(bs so:List Int):Int:=if meF m p q bs so=0 then Zlm so 0 (Zov m p q bs)else 0
theorem Zti(m p q:Int)(bs so:List Int)(hl:bs.length≤1000000∧so.length≤1000000):Zah Try.prog 40 [.agg (.gen [.int .i64 m, .int .i64 p, .int .i64 q]), .list (.ints .i64 bs), .list (.ints .i64 so)] (.tup [.int .i64 (meI m p q bs so), .int .i64 (meF m p q bs so)]) none:=by
 refine start (ZvO m p q bs so) fun C hC=>tgo hC ZbZ ZDx ?_
 have e2:ZaF [ZaA m p q,bsE bs,sfW m so,Zap (decide ((so.length:Int)=IntKind.i64.wrap (2*IntKind.i64.wrap (bs.length+m)))) 13]=meF m p q bs so:=rfl
 by_cases h:meF m p q bs so=0
 ·obtain⟨ho,hb,h5⟩:=Zyg h
  obtain⟨h3,h4⟩:=Zng hb
  have hm:=(Zak ho.cv).1
  obtain⟨hg,_,hl2,hl3⟩:=ho.soft
  have hel:=Zr4 m p q bs
  have i0:=M40 hC so (Zov m p q bs) (by omega) (by omega) hg (Zlm so 0 (Zov m p q bs)) (Zov m p q bs).length 0 0 (by omega) (by omega) (by omega) (by simp)
  have i:=E40 hC m p q ho.cv bs so (bs++List.replicate m.toNat 0) (ZmF h4 (Zm4 _)) (by simp;omega) 0 0 false _ i0 (bs++List.replicate m.toNat 0).length 0 0 [] (by omega) ⟨by omega,Zqz hm⟩ rfl rfl
  simp only[ZuA,ZDR,Zsk,Zpp,Zn8,Zn7,e2,h]
  simp[hl,meI,h,AV.bx,Zan]at i⊢
  exact⟨by omega,i⟩
 ·simp only[ZuA,ZDR,Zsk,Zpp,Zn8,Zn7,e2]
  simp[hl,meI,h,AV.bx,Zan]
section
variable (m p q:Int)
def wt(s b:Int):Int:=oS m p s b+oS m q s b
def rx(s:Nat)(b:Int)(x:Int×List Int):Int×List Int:=if nxS m s b=0 then(min x.1 (x.2.getD s 0+wt m p q s b),x.2)else(x.1,x.2.set (nxS m s b).toNat (min (x.2.getD (nxS m s b).toNat 0) (x.2.getD s 0+wt m p q s b)))
def rxR:Nat→Nat→Int×List Int→Int×List Int
 |0,_,x=>x
 |k+1,s,x=>rxR k (s+1) (rx m p q s 1 (rx m p q s 0 x))
def rxN:Nat→Int×List Int→Int×List Int
 |0,x=>x
 |n+1,x=>rxN n (rxR m p q (stS m-1) 1 x)
def frP:Int×List Int:=rxN m p q (stS m+1) (100000,(List.replicate (stS m) 100000).set (nxS m 0 1).toNat (wt m p q 0 1))
def frI:Int:=if ZaA m p q=0 then(frP m p q).1 else 0
end
structure OkX (m:Int) (x:Int×List Int):Prop where
 b:0≤x.1∧x.1≤100000
 l:x.2.length=stS m
 r:∀j,0≤x.2.getD j 0∧x.2.getD j 0≤100000
theorem Zvg(m p q s b:Int):0≤wt m p q s b∧wt m p q s b≤2:=by
 have h1:=Zcq m p s b
 have h2:=Zcq m q s b
 unfold wt;omega
theorem Zo0{m p q:Int}(s:Nat)(b:Int){x:Int×List Int}(h:OkX m x):OkX m (rx m p q s b x):=by
 have h1:=h.b
 have h2:=h.r s
 have h3:=h.r (nxS m s b).toNat
 have h4:=Zvg m p q s b
 unfold rx
 split
 ·exact⟨by simp only;omega,h.l,h.r⟩
 ·refine⟨h.b,by simp[h.l],fun j=>?_⟩
  simp only
  rw[List.getD_eq_getElem?_getD,List.getElem?_set]
  split
  ·split
   ·simp only[Option.getD_some];omega
   ·simp
  ·rw[←List.getD_eq_getElem?_getD];exact h.r j
theorem ZtE{m p q:Int} :∀(k s:Nat) {x:Int×List Int},OkX m x→OkX m (rxR m p q k s x)
 |0,_,_,h=>h
 |k+1,s,_,h=>ZtE k (s+1) (Zo0 s 1 (Zo0 s 0 h))
section
variable {C:Ctx}(hC:C.P=Try.prog)(m p q:Int)(hv:ZaA m p q=0)
include hC hv
theorem D2(n0 n1 n3:Int)(s:Nat)(hs:s<stS m)(b:Int)(hb:b=0∨b=1)(x:Int×List Int)(hx:OkX m x)(r:AV)
 (hn:Ev C (Zew m p q n0 n1 n3 s (rx m p q s b x).1 (b+1) (rx m p q s b x).2) (Zdv m p q n0 n1 n3 s (rx m p q s b x).1 (b+1) (rx m p q s b x).2) (Zbe 32 r none)):
 Ev C (Zew m p q n0 n1 n3 s x.1 b x.2) (Zdv m p q n0 n1 n3 s x.1 b x.2) (Zbe 32 r none):=by
 have hm:=(Zak hv).1
 have h2:=ZaE hm
 obtain⟨s1,s2,s3⟩:=Zwk hv (s:=s) (b:=b) (by omega) hb
 have hl:=hx.l
 have hr:=hx.r s
 have hr2:=hx.r (nxS m s b).toNat
 have hw:=Zvg m p q s b
 have hxb:=hx.b
 have o1:=Zcq m p s b
 have o2:=Zcq m q s b
 obtain⟨e,l⟩:=x
 simp only at hl hr hr2 hxb
 have s3':(nxS m s b).toNat<l.length:=by omega
 have hsl:s<l.length:=by omega
 unfold wt at hw
 unfold rx wt at hn
 refine tgo hC ZbZ ZiD ?_
 by_cases h0:nxS m s b=0
 ·rw[if_pos h0]at hn
  rcases hb with rfl |rfl<;>
  ·simp[-List.getD_eq_getElem?_getD,List.getD_cons_zero,List.getD_cons_succ,ZdI,s1,h0,hsl]at hn⊢
   refine⟨?_,?_,hn⟩<;>omega
 ·rw[if_neg h0]at hn
  rcases hb with rfl |rfl<;>
  ·simp[-List.getD_eq_getElem?_getD,List.getD_cons_zero,List.getD_cons_succ,ZdI,s1,h0,hsl,s2,s3']at hn⊢
   refine⟨?_,?_,hn⟩<;>omega
theorem D1(n1 n3:Int)(hn3:0≤n3∧n3≤1000)(r:AV):∀(k s:Nat) (x:Int×List Int),s+k=stS m→OkX m x→
 Ev C (ZeL m p q (stN m) n1 (rxR m p q k s x).2 (n3+1) (rxR m p q k s x).1) (Zdl m p q (stN m) n1 (rxR m p q k s x).2 (n3+1) (rxR m p q k s x).1) (Zbe 32 r none)→
 Ev C (ZgW m p q (stN m) n1 n3 x.1 s x.2) (ZfJ m p q (stN m) n1 n3 x.1 s x.2) (Zbe 32 r none):=by
 have hm:=(Zak hv).1
 have h2:=ZaE hm
 intro k
 induction k with
 |zero=>
  intro s x hs hx hn
  refine tgo hC ZbZ ZiS ?_
  simp[Zfz,rxR,show ¬(s:Int)<stN m by omega]at hn⊢
  exact⟨by omega,hn⟩
 |succ k ih=>
  intro s x hs hx hn
  refine tgo hC ZbZ ZiS ?_
  have i:=ih (s+1) _ (by omega) (Zo0 s 1 (Zo0 s 0 hx)) hn
  simp[Zfz,show(s:Int)<stN m by omega]at i⊢
  refine D2 hC m p q hv _ _ _ s (by omega) 0 (Or.inl rfl) x hx r ?_
  refine D2 hC m p q hv _ _ _ s (by omega) 1 (Or.inr rfl) _ (Zo0 s 0 hx) r ?_
  refine tgo hC ZbZ ZiD ?_
  simp[ZdI]
  exact⟨by omega,i⟩
theorem D0:∀(k:Nat) (t:Int) (x:Int×List Int),t+k=stN m+1→0≤t→OkX m x→
 Ev C (ZeL m p q (stN m) (stN m+1) x.2 t x.1) (Zdl m p q (stN m) (stN m+1) x.2 t x.1) (Zbe 32 (.tup [.int .i64 (rxN m p q k x).1, .int .i64 0]) none):=by
 have hm:=(Zak hv).1
 have h2:=ZaE hm
 intro k
 induction k with
 |zero=>
  intro t x ht h0 hx
  refine tgo hC ZbZ Zic ?_
  simp[Ze8,rxN,show ¬t<stN m+1 by omega]
 |succ k ih=>
  intro t x ht h0 hx
  refine tgo hC ZbZ Zic ?_
  have i:=D1 hC m p q hv (stN m+1) t ⟨h0,by omega⟩ _ (stS m-1) 1 x (by omega) hx (ih (t+1) _ (by omega) (by omega) (ZtE _ _ hx))
  simp[Ze8,rxN,show t<stN m+1 by omega]at i⊢
  exact i
end
theorem ZAJ{m p q:Int} :OkX m (100000,(List.replicate (stS m) 100000).set (nxS m 0 1).toNat (wt m p q 0 1)):=by
 refine⟨by simp,by simp,fun j=>?_⟩
 have hw:=Zvg m p q 0 1
 simp only
 rw[List.getD_eq_getElem?_getD,List.getElem?_set]
 split
 ·split
  ·simp only[Option.getD_some];omega
  ·simp
 ·rw[List.getElem?_replicate];split<;>simp
theorem ZpU(m p q:Int):Zah Try.prog 32 [.agg (.gen [.int .i64 m, .int .i64 p, .int .i64 q])] (.tup [.int .i64 (frI m p q), .int .i64 (ZaA m p q)]) none:=by
 refine start (ZvM m p q) fun C hC=>tgo hC ZbZ ZCA ?_
 by_cases hv:ZaA m p q=0
 ·have hm:=(Zak hv).1
  have h2:=ZaE hm
  have i:=D0 hC m p q hv (stS m+1) 0 _ (by omega) (by omega) (ZAJ (m:=m) (p:=p) (q:=q))
  obtain⟨s1,s2,s3⟩:=Zwk hv (s:=0) (b:=1) ⟨by omega,Zqz hm⟩ (Or.inr rfl)
  have hst:Zrn (stN m)=true:=decide_eq_true (by omega)
  have o1:=Zcq m p 0 1
  have o2:=Zcq m q 0 1
  have e2:(stN m).toNat=stS m:=rfl
  have s3':(nxS m 0 1).toNat<stS m:=by omega
  unfold frI frP
  unfold wt at i⊢
  simp[ZvW,hv,s1,AV.bx,Zan]at i⊢
  simp only[show ((2:Int)^m.toNat)=stN m from rfl,hst,e2]
  refine⟨?_,i⟩
  and_intros<;>first |omega |trivial
 ·simp[ZvW,hv,frI]
def k40:Ctr:=⟨40,0,fun _ a=>match a with |[.agg (.gen [.int .i64 m, .int .i64 p, .int .i64 q]), .list (.ints .i64 bs), .list (.ints .i64 so)]=>some (decide (bs.length≤1000000∧so.length≤1000000), .tup [.int .i64 (meI m p q bs so), .int .i64 (meF m p q bs so)],none) |_=>none⟩
theorem ZAn:k40.OK Try.prog:=fun pa args r fr h=>by
 simp only[k40]at h
 split at h
 ·simp only[Option.some.injEq,Prod.mk.injEq,decide_eq_true_eq]at h
  obtain⟨h0,rfl,rfl⟩:=h
  exact Zti _ _ _ _ _ h0
 ·cases h
def k32:Ctr:=⟨32,0,fun _ a=>match a with |[.agg (.gen [.int .i64 m, .int .i64 p, .int .i64 q])]=>some (true, .tup [.int .i64 (frI m p q), .int .i64 (ZaA m p q)],none) |_=>none⟩
theorem ZAt:k32.OK Try.prog:=fun pa args r fr h=>by
 simp only[k32]at h
 split at h
 ·cases h
  exact ZpU _ _ _
 ·cases h
def J9:List Ctr:=[k40,k32]++J8
theorem ZCe:ZaP Try.prog J9:=⟨ZAn,⟨ZAt,Zsd⟩⟩
end Go.Proofs.Ytklbmkllepkjcaa
/- Paths of functions, printed by the explorer (Gx). No condition. -/
namespace Go.Proofs.Ytklbmkllepkjcaa
set_option maxRecDepth 100000
set_option linter.unusedVariables false
def ZAG(ps:List AV):AFrame:={ fn:=88,N:=20,env:=[(0,AV.list (Row.big (.ints .i64) ps))],todo:=[.code a88.code],defs:=[],rnd:=none,ret:=false,res:=[ARes.tmp 2] }
def ZFW(ps:List AV):List AFrame:=[(ZAG ps)]
theorem ZuD(ps:List AV):Zat tab 88 [AV.list (Row.big (.ints .i64) ps)]=some (ZAG ps):=rfl
def ZgT(ps:List AV)(n0:Int)(l1:List Nat)(l2:List (List Int)):List AFrame:=[{ fn:=88,N:=20,env:=[(0,AV.list (Row.big (.ints .i64) ps)),(3,AV.row 88019 0),(4,AV.int .i64 n0)],todo:=.code (ACode.gh [] ZzP)::ZDl,defs:=[],rnd:=none,ret:=false,res:=[ARes.tmp 2] }]
def ZfO(ps:List AV)(n0:Int)(l1:List Nat)(l2:List (List Int)):Zac:=[(88019,{ base:=0,blks:=[Blk.row 25 1 (Row.refs 1000088 l1)] }),(1000088,{ base:=0,blks:=[],sym:=Sym.ints 3 1 .i64 l2 })]
abbrev Zij(ps:List AV)(n0:Int)(l1:List Nat)(l2:List (List Int)):List AFrame×Zac:=(ZgT ps n0 l1 l2,ZfO ps n0 l1 l2)
def Zx5(A:Ar)(K:KT)(F:FT)(ps:List AV):Prop:=K (Zij (ps) (0) ([]) ([]))
theorem ZCO{A:Ar}{K:KT}{F:FT}{M:MT}{ps:List AV} :Zas A tab J8 88 K F M (.run 18 (.hd)) (ZFW ps) []=Zx5 A K F ps:=by kernel_rfl
def Zfo(A:Ar)(K:KT)(F:FT)(ps:List AV)(n0:Int)(l1:List Nat)(l2:List (List Int)):Prop:=bB (A.lt n0 (A.int (A.lenA ps))) (rB [A.inR .i64 (A.add n0 1),Nat.ble (A.lenF l1+A.lenF [0+List.length (List.map (fun l=>Blk.row 3 1 (.ints .i64 l)) l2)]) 4294967296,List.all [AV.row 1000088 (0+List.length (List.map (fun l=>Blk.row 3 1 (.ints .i64 l)) l2))] fun x=>AV.bx x&&Nat.beq (Zan A x) 1,decide (List.length (AV.toIs (A.nthA ps (A.nat n0)))≤1000000),Zaf (Zaf (A.le 0 n0) (Nat.blt (A.nat n0) (A.lenA ps))) true] (K (Zij (ps) (A.add n0 1) (A.appF l1 [0+List.length (List.map (fun l=>Blk.row 3 1 (.ints .i64 l)) l2)]) (List.append l2 [AV.toIs (A.nthA ps (A.nat n0))])))) (F (AV.list (Row.gen (List.map (fun j=>AV.list (.ints .i64 (List.getD l2 j []))) l1))) (none))
theorem ZhL{A:Ar}{K:KT}{F:FT}{M:MT}{ps:List AV}{n0:Int}{l1:List Nat}{l2:List (List Int)} :Zas A tab J8 88 K F M (.run 9 (.tf (.run 22 (.hd)) (.run 7 (.fn)))) (ZgT ps n0 l1 l2) (ZfO ps n0 l1 l2)=Zfo A K F ps n0 l1 l2:=by kernel_rfl
end Go.Proofs.Ytklbmkllepkjcaa
/- Contracts as a list. No condition. -/
namespace Go.Proofs.Ytklbmkllepkjcaa
@[simp] theorem ZEB (l:List AV):std.lenA l=l.length:=rfl
@[simp] theorem ZEm (l:List AV) (j:Nat):std.nthA l j=l.getD j .top:=rfl
def pR(ps:List AV)(t:Nat):List Int:=AV.toIs (ps.getD t .top)
section
variable (m p q:Int)(so:List Int)(ps:List AV)
def obB(t s:Nat)(b:Int):Bool:=decide ((pR ps t).getD s 0+gnI m p q so t s b≤(pR ps (t+1)).getD (nxS m s b).toNat 0)
def obS(t s:Nat):Bool:=obB m p q so ps t s 0&&(if t<ZaS m so then obB m p q so ps t s 1 else true)
def obT(t:Nat):Nat→Nat→Bool
 |0,_=>true
 |k+1,s=>obS m p q so ps t s&&obT t k (s+1)
def obA:Nat→Nat→Bool
 |0,_=>true
 |k+1,t=>obT m p q so ps t (stS m) 0&&obA k (t+1)
def ZqR(l:List Int):Int:=ZaF [Zap (decide ((l.length:Int)=stN m)) 10,ZbB l (-1000000) 1000000]
def ZcZ:Nat→Nat→Int
 |0,_=>0
 |k+1,t=>if ZqR m (pR ps t)=0 then ZcZ k (t+1)else ZqR m (pR ps t)
def ptE:Int:=if ps.length=Zaa so+1 then(if ZcZ m ps (Zaa so+1) 0=0 then(if obA m p q so ps (Zaa so) 0=true then 0 else 19)else ZcZ m ps (Zaa so+1) 0)else 10
def pbI:Int:=(pR ps (Zaa so)).getD 0 0-(pR ps 0).getD 0 0
def r35(b:Bool):AV:=.tup [.int .i64 (if b=true then pbI so ps else 0), .int .i64 (if b=true then 0 else 19)]
end
structure OkP (m:Int) (so:List Int) (ps:List AV):Prop where
 n:ps.length=Zaa so+1
 l:∀t,t≤Zaa so→(pR ps t).length=stS m
 r:∀t j,t≤Zaa so→ -1000000≤(pR ps t).getD j 0∧(pR ps t).getD j 0≤1000000
theorem ZBm{l:List Int}{a b:Int}(h:ZbB l a b=0)(h0:a≤0∧0≤b)(j:Nat):a≤l.getD j 0∧l.getD j 0≤b:=by
 unfold ZbB at h
 split at h
 ·rename_i hall
  by_cases hk:j<l.length
  ·have:=List.all_eq_true.1 hall _ (Zge (d:=0) hk)
   simpa[Zax]using of_decide_eq_true this
  ·rw[List.getD_eq_getElem?_getD,List.getElem?_eq_none (by omega)];simpa using h0
 ·cases h
theorem ZpO{m:Int}{ps:List AV} :∀(k t:Nat),ZcZ m ps k t=0→∀j,t≤j→j<t+k→ZqR m (pR ps j)=0
 |0,t,_,j,h1,h2=>by omega
 |k+1,t,h,j,h1,h2=>by
  rw[ZcZ]at h
  split at h
  ·rename_i h0
   by_cases hj:j=t
   ·subst hj;exact h0
   ·exact ZpO k (t+1) h j (by omega) (by omega)
  ·contradiction
theorem Zug{m:Int}{so:List Int}{ps:List AV}(hm:m=1∨m=2∨m=3)(hn:ps.length=Zaa so+1)(h:ZcZ m ps (Zaa so+1) 0=0):OkP m so ps:=by
 have h2:=ZaE hm
 have key:∀t,t≤Zaa so→(pR ps t).length=stS m∧ZbB (pR ps t) (-1000000) 1000000=0:=fun t ht=>by
  have:=ZpO (Zaa so+1) 0 h t (by omega) (by omega)
  obtain⟨a,b⟩:=Zcl this
  obtain⟨c,_⟩:=Zcl b
  refine⟨?_,c⟩
  by_cases hl:((pR ps t).length:Int)=stN m
  ·omega
  ·simp[Zap,hl]at a
 exact⟨hn,fun t ht=>(key t ht).1,fun t j ht=>ZBm (key t ht).2 (by omega) j⟩
section
variable {C:Ctx}(hC:C.P=Try.prog)(m p q:Int)(so:List Int)(ps:List AV)(h:OkC m p q so)(hp:OkP m so ps)
include hC h hp
theorem Y1(t s:Nat)(ht:t<Zaa so)(hs:s<stS m)(n5:Int)(b6 b7:Bool)(j8:Nat)(b:Int)(hb:b=0∨b=1∧t<ZaS m so)(r:AV)
 (hn:obB m p q so ps t s b=true→Ev C (ZdE m p q so ps (Zaa so) t n5 b6 b7 j8 s (b+1)) (ZcO m p q so ps (Zaa so) t n5 b6 b7 j8 s (b+1)) (Zbe 35 r none))
 (he:obB m p q so ps t s b=false→r=r35 so ps false):
 Ev C (ZdE m p q so ps (Zaa so) t n5 b6 b7 j8 s b) (ZcO m p q so ps (Zaa so) t n5 b6 b7 j8 s b) (Zbe 35 r none):=by
 obtain⟨hg,_,hl2,hl3⟩:=h.soft
 have hlen:2*Zaa so≤so.length:=by unfold Zaa;omega
 have hm:=(Zak h.cv).1
 have hbb:b=0∨b=1:=by omega
 obtain⟨s1,s2,s3⟩:=ZaO h hs hbb
 have k1:(2*(t:Int)).toNat=2*t:=by omega
 have k2:(2*(t:Int)+1).toNat=2*t+1:=by omega
 have k3:((t:Int)+1).toNat=t+1:=by omega
 have hco:=Zon so t (Zcq m p s b) (Zcq m q s b)
 have hgf:=ZtM (m:=m) (p:=p) (q:=q) hg t s b
 have hgl:=Zdb (m:=m) (p:=p) (q:=q) hg t s b
 have a1:=Zbt hg (2*t)
 have a2:=Zbt hg (2*t+1)
 have hD:=hp.r t s (by omega)
 have hX:=hp.r (t+1) (nxS m s b).toNat (by omega)
 have l1:=hp.l t (by omega)
 have l2:=hp.l (t+1) (by omega)
 have l3:=hp.n
 have hT:Zaa so≤303:=by unfold Zaa;omega
 have hbt:t<ZaS m so↔¬ZbK m so≤t:=by unfold ZaS ZbK Zaj;omega
 have h108:Zlz m so=true:=decide_eq_true (by omega)
 unfold obB at hn he
 have e1:AV.toIs (ps.getD t .top)=pR ps t:=rfl
 have e2:AV.toIs (ps.getD (t+1) .top)=pR ps (t+1):=rfl
 have g1:t<Zaa so+1:=by omega
 unfold gnI at hgf hgl hn he
 refine tgo hC ZbZ Zep ?_
 by_cases hq:(pR ps t).getD s 0+gaI so t (oS m p s b) (oS m q s b)≤(pR ps (t+1)).getD (nxS m s b).toNat 0
 ·have hn:=hn (decide_eq_true hq)
  have hq':¬(pR ps (t+1)).getD (nxS m s b).toNat 0<(pR ps t).getD s 0+gaI so t (oS m p s b) (oS m q s b):=by omega
  rcases hb with rfl |⟨rfl,hb⟩
  ·simp[-List.getD_eq_getElem?_getD,List.getD_cons_zero,List.getD_cons_succ,Zbh,s1,s2,s3,k1,k2,k3,hco,hgf,l1,l2,l3,hs,h108,e1,e2,hq',g1,ht]at hn⊢
   refine⟨?_,hn⟩
   omega
  ·have hb2:=hbt.1 hb
   simp[-List.getD_eq_getElem?_getD,List.getD_cons_zero,List.getD_cons_succ,Zbh,s1,s2,s3,k1,k2,k3,hco,hgf,l1,l2,l3,hs,h108,e1,e2,hq',g1,ht,hb2]at hn⊢
   refine⟨?_,hn⟩
   omega
 ·have he:=he (decide_eq_false hq)
  have hq':(pR ps (t+1)).getD (nxS m s b).toNat 0<(pR ps t).getD s 0+gaI so t (oS m p s b) (oS m q s b):=by omega
  rcases hb with rfl |⟨rfl,hb⟩
  ·simp[-List.getD_eq_getElem?_getD,List.getD_cons_zero,List.getD_cons_succ,Zbh,s1,s2,s3,k1,k2,k3,hco,hgf,l1,l2,l3,hs,h108,e1,e2,hq',g1,ht,he,r35]
   omega
  ·have hb2:=hbt.1 hb
   simp[-List.getD_eq_getElem?_getD,List.getD_cons_zero,List.getD_cons_succ,Zbh,s1,s2,s3,k1,k2,k3,hco,hgf,l1,l2,l3,hs,h108,e1,e2,hq',g1,ht,hb2,he,r35]
   omega
theorem Y0(t:Nat)(ht:t<Zaa so)(b6 b7:Bool)(j8:Nat)(x:Bool)
 (hn:Ev C (Zez m p q so ps (Zaa so) ((t+1:Nat):Int) j8) (ZdF m p q so ps (Zaa so) ((t+1:Nat):Int) j8) (Zbe 35 (r35 so ps x) none)):
 ∀k s:Nat,s+k=stS m→
 Ev C (ZfH m p q so ps (Zaa so) t (stN m) b6 b7 j8 s) (ZdS m p q so ps (Zaa so) t (stN m) b6 b7 j8 s) (Zbe 35 (r35 so ps (obT m p q so ps t k s&&x)) none):=by
 have hm:=(Zak h.cv).1
 have h2:=ZaE hm
 obtain⟨hg,_,hl2,hl3⟩:=h.soft
 have hT:Zaa so≤303:=by unfold Zaa;omega
 have hbt:t<ZaS m so↔¬ZbK m so≤t:=by unfold ZaS ZbK Zaj;omega
 have h108:Zlz m so=true:=decide_eq_true (by omega)
 intro k
 induction k with
 |zero=>
  intro s hs
  refine tgo hC ZbZ Zhw ?_
  simp[ZdQ,obT,show ¬(s:Int)<stN m by omega]at hn⊢
  exact⟨by omega,hn⟩
 |succ k ih=>
  intro s hs
  refine tgo hC ZbZ Zhw ?_
  have hs':s<stS m:=by omega
  have ih':=ih (s+1) (by omega)
  simp[ZdQ,show(s:Int)<stN m by omega]
  refine Y1 hC m p q so ps h hp t s ht hs' _ _ _ _ 0 (Or.inl rfl) _ (fun q0=>?_) (fun q0=>by simp[obT,obS,q0])
  by_cases hb:t<ZaS m so
  ·refine Y1 hC m p q so ps h hp t s ht hs' _ _ _ _ 1 (Or.inr ⟨rfl,hb⟩) _ (fun q1=>?_) (fun q1=>by simp[obT,obS,q1,hb])
   have e:(obT m p q so ps t (k+1) s&&x)=(obT m p q so ps t k (s+1)&&x):=by simp[obT,obS,q0,q1]
   rw[e]
   refine tgo hC ZbZ Zep ?_
   simp[Zbh]at ih'⊢
   exact⟨by omega,ih'⟩
  ·have e:(obT m p q so ps t (k+1) s&&x)=(obT m p q so ps t k (s+1)&&x):=by simp[obT,obS,q0,hb]
   rw[e]
   have hb2:ZbK m so≤t:=by omega
   refine tgo hC ZbZ Zep ?_
   simp[Zbh,h108,hb2]at ih'⊢
   exact⟨by omega,ih'⟩
theorem Y35:∀k t j:Nat,t+k=Zaa so→Ev C (Zez m p q so ps (Zaa so) t j) (ZdF m p q so ps (Zaa so) t j) (Zbe 35 (r35 so ps (obA m p q so ps k t)) none):=by
 have hm:=(Zak h.cv).1
 have h2:=ZaE hm
 have hmm:ZcQ m=true:=decide_eq_true (by omega)
 obtain⟨hg,_,hl2,hl3⟩:=h.soft
 have hTT:Zaj so=(Zaa so:Int):=rfl
 have hT:Zaa so≤303:=by unfold Zaa;omega
 intro k
 induction k with
 |zero=>
  intro t j ht
  refine tgo hC ZbZ Zik ?_
  have e1:AV.toIs (ps.getD (Zaa so) .top)=pR ps (Zaa so):=rfl
  have e2:AV.toIs (ps.getD 0 .top)=pR ps 0:=rfl
  have l1:=hp.l (Zaa so) (by omega)
  have l2:=hp.l 0 (by omega)
  have l3:=hp.n
  have a1:=hp.r (Zaa so) 0 (by omega)
  have a2:=hp.r 0 0 (by omega)
  simp[-List.getD_eq_getElem?_getD,ZfT,hTT,e1,e2,l1,l2,l3,show ¬(t:Int)<Zaa so by omega,obA,r35,pbI]
  omega
 |succ k ih=>
  intro t j ht
  refine tgo hC ZbZ Zik ?_
  have i:=Y0 hC m p q so ps h hp t (by omega) true true (j+1) _ (ih (t+1) (j+1) (by omega)) (stS m) 0 (by omega)
  simp[ZfT,hmm,show(t:Int)<Zaa so by omega,obA]at i⊢
  exact i
end
def Zrt(m p q:Int)(so:List Int)(ps:List AV)(k t:Nat):AV:=if ZcZ m ps k t=0 then r35 so ps (obA m p q so ps (Zaa so) 0)else .tup [.int .i64 0, .int .i64 (ZcZ m ps k t)]
section
variable {C:Ctx}(hC:C.P=Try.prog)(m p q:Int)(so:List Int)(ps:List AV)(h:OkC m p q so)(hn:ps.length=Zaa so+1)(hrl:∀t,(pR ps t).length≤1000000)
include hC h hn hrl
theorem ZGd:∀k t:Nat,t+k=Zaa so+1→(∀j,j<t→ZqR m (pR ps j)=0)→Ev C (ZgN m p q so ps ((Zaa so+1:Nat):Int) t) (ZfU m p q so ps ((Zaa so+1:Nat):Int) t) (Zbe 35 (Zrt m p q so ps k t) none):=by
 have hm:=(Zak h.cv).1
 have h2:=ZaE hm
 have hmm:ZcQ m=true:=decide_eq_true (by omega)
 obtain⟨hg,_,hl2,hl3⟩:=h.soft
 have hTT:Zaj so=(Zaa so:Int):=rfl
 have hT:Zaa so≤303:=by unfold Zaa;omega
 intro k
 induction k with
 |zero=>
  intro t ht hj
  refine tgo hC ZbZ Zis ?_
  have hp:OkP m so ps:=by
   refine Zug hm hn ?_
   have:∀k t,(∀j,t≤j→j<t+k→ZqR m (pR ps j)=0)→ZcZ m ps k t=0:=by
    intro k
    induction k with
    |zero=>intro t _;rfl
    |succ k ih=>intro t hh;rw[ZcZ,if_pos (hh t (by omega) (by omega))];exact ih (t+1) (fun j a b=>hh j (by omega) (by omega))
   exact this _ _ (fun j _ hj2=>hj j (by omega))
  have i:=Y35 hC m p q so ps h hp (Zaa so) 0 0 (by omega)
  simp[Zdy,hTT,show ¬(t:Int)<(Zaa so:Int)+1 by omega,Zrt,ZcZ]at i⊢
  exact⟨by omega,i⟩
 |succ k ih=>
  intro t ht hj
  refine tgo hC ZbZ Zis ?_
  have e1:AV.toIs (ps.getD t .top)=pR ps t:=rfl
  have hl:=hrl t
  have e2:ZaF [Zap (decide ((pR ps t).length=stN m)) 10,ZbB (pR ps t) (-1000000) 1000000]=ZqR m (pR ps t):=rfl
  by_cases h0:ZqR m (pR ps t)=0
  ·have i:=ih (t+1) (by omega) (fun j hj2=>by
    by_cases hjt:j=t
    ·subst hjt;exact h0
    ·exact hj j (by omega))
   have e3:Zrt m p q so ps (k+1) t=Zrt m p q so ps k (t+1):=by unfold Zrt;rw[ZcZ,if_pos h0]
   rw[e3]
   simp[-List.getD_eq_getElem?_getD,Zdy,e1,hmm,hn,hl,e2,h0,show(t:Int)<(Zaa so:Int)+1 by omega,show t<Zaa so+1 by omega,AV.bx,Zan]at i⊢
   exact⟨by omega,i⟩
  ·have e3:Zrt m p q so ps (k+1) t=.tup [.int .i64 0, .int .i64 (ZqR m (pR ps t))]:=by unfold Zrt;rw[ZcZ,if_neg h0,if_neg h0]
   rw[e3]
   simp[-List.getD_eq_getElem?_getD,Zdy,e1,hmm,hn,hl,e2,h0,show(t:Int)<(Zaa so:Int)+1 by omega,show t<Zaa so+1 by omega,AV.bx,Zan]
end
def pdE(m p q:Int)(so:List Int)(ps:List AV):Int:=if cdW m p q so=0 then ptE m p q so ps else cdW m p q so
def pdI(m p q:Int)(so:List Int)(ps:List AV):Int:=if pdE m p q so ps=0 then pbI so ps else 0
def rlB(ps:List AV):Prop:=∀t,(pR ps t).length≤1000000
theorem Zre(m p q:Int)(so:List Int)(ps:List AV)(hl:so.length≤1000000)(hrl:rlB ps):Zah Try.prog 35 [.agg (.gen [.int .i64 m, .int .i64 p, .int .i64 q]), .list (.ints .i64 so), .list (.big (.ints .i64) ps)] (.tup [.int .i64 (pdI m p q so ps), .int .i64 (pdE m p q so ps)]) none:=by
 refine start (ZuY m p q so ps) fun C hC=>tgo hC ZbZ ZCy ?_
 have hTT:Zaj so=(Zaa so:Int):=rfl
 by_cases h1:ZaA m p q=0
 ·by_cases h2:sfW m so=0
  ·have e1:cdW m p q so=0:=by simp[cdW,h1,h2]
   have ho:=Zp6 e1
   have hT:=Zqn ho
   by_cases h3:ps.length=Zaa so+1
   ·have i:=ZGd hC m p q so ps ho h3 hrl (Zaa so+1) 0 (by omega) (fun j hj=>by omega)
    have e4:Zrt m p q so ps (Zaa so+1) 0=.tup [.int .i64 (pdI m p q so ps), .int .i64 (pdE m p q so ps)]:=by
     unfold Zrt pdI pdE ptE r35
     simp only[e1,h3,if_true]
     by_cases a:ZcZ m ps (Zaa so+1) 0=0
     ·cases b:obA m p q so ps (Zaa so) 0<;>simp[a]
     ·simp[a]
    rw[e4]at i
    simp[ZpV,h1,h2,hl,hTT,h3]at i⊢
    exact⟨by omega,i⟩
   ·have e4:pdE m p q so ps=10:=by simp[pdE,e1,ptE,h3]
    simp[ZpV,h1,h2,hl,hTT,show ¬(ps.length:Int)=(Zaa so:Int)+1 by omega,e4,pdI]
    omega
  ·have e1:cdW m p q so=sfW m so:=by simp[cdW,h1]
   simp[ZpV,h1,h2,hl,pdI,pdE,e1]
 ·have e1:cdW m p q so=ZaA m p q:=by simp[cdW,h1]
  simp[ZpV,h1,pdI,pdE,e1]
section
variable {C:Ctx}(hC:C.P=Try.prog)(m p q:Int)(so:List Int)(ps:List AV)(h:OkC m p q so)(hp:OkP m so ps)
include hC h hp
end
theorem Zu1{l:List Int}{a b:Int}(h:∀j,j<l.length→Zax (l.getD j 0) a b=true):ZbB l a b=0:=by
 unfold ZbB
 rw[if_pos]
 refine List.all_eq_true.2 fun x hx=>?_
 obtain⟨j,hj,rfl⟩:=List.mem_iff_getElem.1 hx
 have:=h j hj
 rwa[List.getD_eq_getElem?_getD,List.getElem?_eq_getElem hj]at this
section
variable {C:Ctx}(hC:C.P=Try.prog)(m p q:Int)(so:List Int)(ps:List AV)(h:OkC m p q so)(hn:ps.length=Zaa so+1)
include hC h hn
end
def rlP(ps:List AV):Bool:=ps.all fun v=>decide (v.toIs.length≤1000000)
theorem Zua{ps:List AV}(h:rlP ps=true):rlB ps:=fun t=>by
 unfold pR
 by_cases ht:t<ps.length
 ·exact of_decide_eq_true (List.all_eq_true.1 h _ (Zge (d:=.top) ht))
 ·rw[List.getD_eq_getElem?_getD,List.getElem?_eq_none (by omega)];simp[AV.toIs]
def cpR(ps:List AV)(k:Nat):List (List Int):=(List.range k).map (pR ps)
section
variable {C:Ctx}(hC:C.P=Try.prog)(ps:List AV)(hl:ps.length≤1000000)(hrl:rlB ps)
include hC hl hrl
theorem C88:∀k t:Nat,t+k=ps.length→Ev C (ZgT ps t (List.range t) (cpR ps t)) (ZfO ps t (List.range t) (cpR ps t)) (Zbe 88 (.list (.gen ((cpR ps ps.length).map fun l=>.list (.ints .i64 l)))) none):=by
 intro k
 induction k with
 |zero=>
  intro t ht
  refine tgo hC Zsd ZhL ?_
  have e:(List.range t).map (fun j=>AV.list (.ints .i64 ((cpR ps t).getD j [])))=(cpR ps ps.length).map fun l=>.list (.ints .i64 l):=by
   rw[show ps.length=t by omega]
   unfold cpR
   rw[List.map_map]
   refine List.map_congr_left fun j hj=>?_
   have:=List.mem_range.1 hj
   rw[List.getD_eq_getElem?_getD,List.getElem?_map,List.getElem?_range this];rfl
  simp only[Zfo,e]
  simp[show ¬(t:Int)<ps.length by omega]
 |succ k ih=>
  intro t ht
  refine tgo hC Zsd ZhL ?_
  have i:=ih (t+1) (by omega)
  have e1:AV.toIs (ps.getD t .top)=pR ps t:=rfl
  have e2:cpR ps (t+1)=cpR ps t++[pR ps t]:=by unfold cpR;rw[List.range_succ,List.map_append];rfl
  have e3:(cpR ps t).length=t:=by simp[cpR]
  have hr:=hrl t
  rw[e2,List.range_succ]at i
  simp[-List.getD_eq_getElem?_getD,Zfo,e1,e3,hr,show(t:Int)<ps.length by omega,show t<ps.length by omega,AV.bx,Zan]at i⊢
  exact⟨by omega,i⟩
end
theorem Zr9(ps:List AV)(hl:ps.length≤1000000)(hrl:rlB ps):Zah Try.prog 88 [.list (.big (.ints .i64) ps)] (.list (.big (.ints .i64) ps)) none:=by
 have h:Zah Try.prog 88 [.list (.big (.ints .i64) ps)] (.list (.gen ((cpR ps ps.length).map fun l=>.list (.ints .i64 l)))) none:=by
  refine start (ZuD ps) fun C hC=>tgo hC Zsd ZCO ?_
  have i:=C88 hC ps hl hrl ps.length 0 (by omega)
  simpa[Zx5,cpR]using i
 refine Zp7 h ?_
 simp only[Row.elems,cpR,List.map_map]
 apply List.ext_getElem?
 intro i
 rw[List.getElem?_map,List.getElem?_map]
 by_cases hi:i<ps.length
 ·rw[List.getElem?_range hi,List.getElem?_eq_getElem hi]
  simp[Sh.view,Sh.view1,pR,List.getD_eq_getElem?_getD,List.getElem?_eq_getElem hi]
 ·rw[List.getElem?_eq_none (by simp;omega),List.getElem?_eq_none (by omega)];rfl
def k35:Ctr:=⟨35,0,fun _ a=>match a with |[.agg (.gen [.int .i64 m, .int .i64 p, .int .i64 q]), .list (.ints .i64 so), .list (.big (.ints .i64) ps)]=>some (decide (so.length≤1000000∧rlP ps=true), .tup [.int .i64 (pdI m p q so ps), .int .i64 (pdE m p q so ps)],none) |_=>none⟩
theorem ZBj:k35.OK Try.prog:=fun pa args r fr h=>by
 simp only[k35]at h
 split at h
 ·simp only[Option.some.injEq,Prod.mk.injEq,decide_eq_true_eq]at h
  obtain⟨h0,rfl,rfl⟩:=h
  exact Zre _ _ _ _ _ h0.1 (Zua h0.2)
 ·cases h
def k88:Ctr:=⟨88,0,fun _ a=>match a with |[.list (.big (.ints .i64) ps)]=>some (decide (ps.length≤1000000∧rlP ps=true), .list (.big (.ints .i64) ps),none) |_=>none⟩
theorem Zz8:k88.OK Try.prog:=fun pa args r fr h=>by
 simp only[k88]at h
 split at h
 ·simp only[Option.some.injEq,Prod.mk.injEq,decide_eq_true_eq]at h
  obtain⟨h0,rfl,rfl⟩:=h
  exact Zr9 _ h0.1 (Zua h0.2)
 ·cases h
def Ja:List Ctr:=[k35,k88]++J9
theorem Zze:ZaP Try.prog Ja:=⟨ZBj,⟨Zz8,ZCe⟩⟩
end Go.Proofs.Ytklbmkllepkjcaa
/- Paths of functions, printed by the explorer (Gx). No condition. -/
namespace Go.Proofs.Ytklbmkllepkjcaa
set_option maxRecDepth 100000
set_option linter.unusedVariables false
def ZBg(ps:List AV):AFrame:={ fn:=36,N:=5,env:=[(0,AV.list (Row.big (.ints .i64) ps))],todo:=[.code a36.code],defs:=[],rnd:=none,ret:=false,res:=[ARes.tmp 2] }
def ZGk(ps:List AV):List AFrame:=[(ZBg ps)]
theorem Zuk(ps:List AV):Zat tab 36 [AV.list (Row.big (.ints .i64) ps)]=some (ZBg ps):=rfl
def Zyj(A:Ar)(K:KT)(F:FT)(ps:List AV):Prop:=rB [decide (List.length ps≤1000000∧rlP ps=true)] (F (AV.list (Row.big (.ints .i64) ps)) (none))
theorem ZDj{A:Ar}{K:KT}{F:FT}{M:MT}{ps:List AV} :Zas A tab Ja 36 K F M (.run 11 (.fn)) (ZGk ps) []=Zyj A K F ps:=by kernel_rfl
end Go.Proofs.Ytklbmkllepkjcaa
/- Contracts as a list. No condition. -/
namespace Go.Proofs.Ytklbmkllepkjcaa
theorem Ztb(ps:List AV)(h:ps.length≤1000000∧rlP ps=true):Zah Try.prog 36 [.list (.big (.ints .i64) ps)] (.list (.big (.ints .i64) ps)) none:=
 start (Zuk ps) fun C hC=>tgo hC Zze ZDj (by simp[Zyj,h])
def k36:Ctr:=⟨36,0,fun _ a=>match a with |[.list (.big (.ints .i64) ps)]=>some (decide (ps.length≤1000000∧rlP ps=true), .list (.big (.ints .i64) ps),none) |_=>none⟩
theorem ZAm:k36.OK Try.prog:=fun pa args r fr h=>by
 simp only[k36]at h
 split at h
 ·simp only[Option.some.injEq,Prod.mk.injEq,decide_eq_true_eq]at h
  obtain⟨h0,rfl,rfl⟩:=h
  exact Ztb _ h0
 ·cases h
def k14v:Ctr:=⟨14,0,fun _ a=>match a with |[.list (.ints .i64 xs)]=>some (decide (xs.length≤1000000), .list (.ints .i64 xs),ZuE) |_=>none⟩
theorem Zwa:k14v.OK Try.prog:=fun pa args r fr h=>by
 simp only[k14v]at h
 split at h
 ·simp only[Option.some.injEq,Prod.mk.injEq,decide_eq_true_eq]at h
  obtain⟨h0,rfl,rfl⟩:=h
  exact ZuZ (Zj6 _ h0) rfl rfl
 ·cases h
def Jb:List Ctr:=[k36,k14v]++Ja
theorem Zv1:ZaP Try.prog Jb:=⟨ZAm,⟨Zwa,Zze⟩⟩
end Go.Proofs.Ytklbmkllepkjcaa
/- Paths of functions, printed by the explorer (Gx). No condition. -/
namespace Go.Proofs.Ytklbmkllepkjcaa
set_option maxRecDepth 100000
set_option linter.unusedVariables false
def ZED(m g0 g1:Int)(bs xs:List Int)(ps:List AV):AFrame:={ fn:=7,N:=187,env:=[(0,AV.agg (Row.gen [.int .i64 m, .int .i64 g0, .int .i64 g1])),(1,AV.agg (Row.gen [.list (.ints .i64 bs), .list (.ints .i64 xs)])),(2,AV.list (Row.big (.ints .i64) ps))],todo:=[.code a7.code],defs:=[],rnd:=none,ret:=false,res:=[ARes.tmp 6] }
def f7e(m g0 g1:Int)(bs xs:List Int)(ps:List AV):List AFrame:=[(ZED m g0 g1 bs xs ps)]
theorem ZBD(m g0 g1:Int)(bs xs:List Int)(ps:List AV):Zat tab 7 [AV.agg (Row.gen [.int .i64 m, .int .i64 g0, .int .i64 g1]),AV.agg (Row.gen [.list (.ints .i64 bs), .list (.ints .i64 xs)]),AV.list (Row.big (.ints .i64) ps)]=some (ZED m g0 g1 bs xs ps):=rfl
def Zi4(m g0 g1:Int)(bs xs:List Int)(ps:List AV)(n0:Int):List AFrame:=[{ fn:=7,N:=187,env:=[(2,AV.list (Row.big (.ints .i64) ps)),(3,AV.ptr 7004 0 0 0),(4,AV.ptr 7005 0 0 0),(7,AV.int .i64 n0)],todo:=.code (ACode.gh [] ZDJ)::ZFY,defs:=[],rnd:=none,ret:=false,res:=[ARes.tmp 6] }]
def Zgr(m g0 g1:Int)(bs xs:List Int)(ps:List AV)(n0:Int):Zac:=[(7004,{ base:=0,blks:=[Blk.row 24 3 (Row.gen [AV.agg (Row.gen [AV.int .i64 m,AV.int .i64 g0,AV.int .i64 g1])])] }),(7005,{ base:=0,blks:=[Blk.row 65 2 (Row.gen [AV.agg (Row.gen [AV.list (.ints .i64 bs),AV.list (.ints .i64 xs)])])] })]
abbrev Znh(m g0 g1:Int)(bs xs:List Int)(ps:List AV)(n0:Int):List AFrame×Zac:=(Zi4 m g0 g1 bs xs ps n0,Zgr m g0 g1 bs xs ps n0)
def Zxm(A:Ar)(K:KT)(F:FT)(m g0 g1:Int)(bs xs:List Int)(ps:List AV):Prop:=rB [!A.not true] (bB (A.not (A.eq (cdE m g0 g1 xs) 0)) (F (AV.bool true) (none)) (bB (A.lt 60 (A.int (A.len xs))) (F (AV.bool true) (none)) (bB (A.lt 24 (A.int (A.len bs))) (F (AV.bool true) (none)) (bB (A.lt 40 (A.int (A.lenA ps))) (F (AV.bool true) (none)) (K (Znh (m) (g0) (g1) (bs) (xs) (ps) (0)))))))
theorem ZFR{A:Ar}{K:KT}{F:FT}{M:MT}{m g0 g1:Int}{bs xs:List Int}{ps:List AV} :Zas A tab Jb 7 K F M (.run 12 (.fy (.run 10 (.tf (.ty (.ty (.ty (.ty (.run 1 (.ty (.ty (.ty (.ty (.ty (.run 1 (.ty (.ty (.ty (.ty (.run 2 (.ty (.run 5 (.fn))))))))))))))))))) (.fy (.fy (.fy (.fy (.run 1 (.tf (.ty (.ty (.ty (.ty (.run 1 (.ty (.ty (.ty (.ty (.run 2 (.ty (.run 5 (.fn))))))))))))) (.fy (.fy (.fy (.fy (.run 1 (.tf (.ty (.ty (.ty (.run 2 (.ty (.run 5 (.fn))))))) (.fy (.fy (.fy (.run 2 (.tf (.run 5 (.fn)) (.run 9 (.hd))))))))))))))))))))))) (f7e m g0 g1 bs xs ps) []=Zxm A K F m g0 g1 bs xs ps:=by kernel_rfl
def Zgj(A:Ar)(K:KT)(F:FT)(m g0 g1:Int)(bs xs:List Int)(ps:List AV)(n0:Int):Prop:=bB (A.lt n0 (A.int (A.lenA ps))) (rB [Zaf (Zaf (A.le 0 n0) (Nat.blt (A.nat n0) (A.lenA ps))) true] (bB (A.lt 10 (A.int (A.len (AV.toIs (A.nthA ps (A.nat n0)))))) (F (AV.bool true) (none)) (rB [A.inR .i64 (A.add n0 1)] (K (Znh (m) (g0) (g1) (bs) (xs) (ps) (A.add n0 1)))))) (rB [decide (List.length xs≤1000000),decide (List.length xs≤1000000),decide (List.length xs≤1000000),decide (List.length xs≤1000000)] (bB (A.not (A.eq (cdW m g0 g1 xs) 0)) (False) (rB [!A.not (A.eq (cdW m g0 g1 xs) 0)] (rB [Zaf (A.not (A.eq 2 0)) (A.inR .i64 (A.quo (A.int (A.len xs)) 2))] (rB [A.inR .i64 (A.sub (A.quo (A.int (A.len xs)) 2) m)] (bB (A.not (A.eq (A.int (A.len (blW m g0 g1 xs))) (A.sub (A.quo (A.int (A.len xs)) 2) m))) (False) (rB [decide (List.length xs≤1000000∧rlP (poL m g0 g1 xs)=true),decide (List.length (poL m g0 g1 xs)≤1000000∧rlP (poL m g0 g1 xs)=true),decide (List.length xs≤1000000),decide (List.length (blW m g0 g1 xs)≤1000000∧List.length xs≤1000000),decide (List.length xs≤1000000),decide (List.length (blW m g0 g1 xs)≤1000000)] (bB (A.not (A.eq (meF m g0 g1 (blW m g0 g1 xs) xs) 0)) (False) (bB (A.not (A.eq (meI m g0 g1 (blW m g0 g1 xs) xs) (bvW m g0 g1 xs))) (False) (bB (A.not (A.eq (pdE m g0 g1 xs (poL m g0 g1 xs)) 0)) (False) (bB (A.not (A.eq (pdI m g0 g1 xs (poL m g0 g1 xs)) (bvW m g0 g1 xs))) (False) (rB [decide (List.length xs≤1000000∧rlP ps=true),decide (List.length ps≤1000000∧rlP ps=true),decide (List.length xs≤1000000)] (bB (A.eq (pdE m g0 g1 xs ps) 0) (bB (A.lt (pdI m g0 g1 xs ps) (bvW m g0 g1 xs)) (False) (rB [decide (List.length bs≤1000000)] (bB (A.not (A.eq (bsE bs) 0)) (F (AV.bool true) (none)) (bB (A.not (A.eq (A.int (A.len bs)) (A.int (A.len (blW m g0 g1 xs))))) (F (AV.bool true) (none)) (rB [decide (List.length bs≤1000000∧List.length xs≤1000000),decide (List.length xs≤1000000),decide (List.length bs≤1000000)] (bB (A.eq (meF m g0 g1 bs xs) 0) (bB (A.le (meI m g0 g1 bs xs) (bvW m g0 g1 xs)) (bB (A.lt (meI m g0 g1 bs xs) (bvW m g0 g1 xs)) (F (AV.bool true) (none)) (rB [decide (List.length bs≤1000000)] (F (AV.bool (A.not (ZkY bs (blW m g0 g1 xs)))) (none)))) (False)) (False))))))) (rB [decide (List.length bs≤1000000)] (bB (A.not (A.eq (bsE bs) 0)) (F (AV.bool true) (none)) (bB (A.not (A.eq (A.int (A.len bs)) (A.int (A.len (blW m g0 g1 xs))))) (F (AV.bool true) (none)) (rB [decide (List.length bs≤1000000∧List.length xs≤1000000),decide (List.length xs≤1000000),decide (List.length bs≤1000000)] (bB (A.eq (meF m g0 g1 bs xs) 0) (bB (A.le (meI m g0 g1 bs xs) (bvW m g0 g1 xs)) (bB (A.lt (meI m g0 g1 bs xs) (bvW m g0 g1 xs)) (F (AV.bool true) (none)) (rB [decide (List.length bs≤1000000)] (F (AV.bool (A.not (ZkY bs (blW m g0 g1 xs)))) (none)))) (False)) (False)))))))))))))))))))
theorem Zme{A:Ar}{K:KT}{F:FT}{M:MT}{m g0 g1:Int}{bs xs:List Int}{ps:List AV}{n0:Int} :Zas A tab Jb 7 K F M (.run 9 (.tf (.run 12 (.tf (.run 5 (.fn)) (.run 9 (.hd)))) (.run 13 (.tf (.ty (.ty (.run 1 (.ty (.ty (.ty (.ty (.ty (.ty (.ty (.ty (.ty (.ty (.ty (.run 2 (.ty (.run 5 (.no)))))))))))))))))) (.fy (.fy (.run 1 (.fy (.fy (.fy (.fy (.fy (.fy (.fy (.fy (.fy (.fy (.fy (.run 2 (.tf (.run 5 (.no)) (.run 13 (.tf (.ty (.ty (.ty (.run 1 (.ty (.ty (.ty (.run 1 (.ty (.ty (.ty (.ty (.run 2 (.ty (.run 5 (.no)))))))))))))))) (.fy (.fy (.fy (.run 1 (.tf (.ty (.ty (.run 1 (.ty (.ty (.ty (.ty (.run 2 (.ty (.run 5 (.no))))))))))) (.fy (.fy (.run 1 (.tf (.ty (.ty (.ty (.run 2 (.ty (.run 5 (.no))))))) (.fy (.fy (.fy (.run 2 (.tf (.run 5 (.no)) (.run 10 (.tf (.ty (.ty (.ty (.run 2 (.tf (.run 5 (.no)) (.run 9 (.tf (.ty (.ty (.ty (.ty (.ty (.ty (.run 2 (.ty (.run 5 (.fn)))))))))) (.fy (.fy (.fy (.fy (.fy (.fy (.run 2 (.tf (.run 5 (.fn)) (.run 9 (.tf (.ty (.ty (.ty (.run 1 (.tf (.ty (.ty (.ty (.tf (.ty (.ty (.ty (.ty (.alt [true,true] (.ty (.run 4 (.fn))) (.no)))))) (.fy (.fy (.fy (.fy (.alt [true,false] (.ty (.run 4 (.fn))) (.no)))))))))) (.fy (.fy (.fy (.run 5 (.fy (.fy (.run 4 (.no))))))))))))) (.fy (.fy (.fy (.run 1 (.fy (.fy (.fy (.fy (.run 5 (.fy (.fy (.run 4 (.no)))))))))))))))))))))))))))))) (.fy (.fy (.fy (.run 2 (.fy (.run 9 (.tf (.ty (.ty (.ty (.ty (.ty (.ty (.run 2 (.ty (.run 5 (.fn)))))))))) (.fy (.fy (.fy (.fy (.fy (.fy (.run 2 (.tf (.run 5 (.fn)) (.run 9 (.tf (.ty (.ty (.ty (.run 1 (.tf (.ty (.ty (.ty (.tf (.ty (.ty (.ty (.ty (.alt [true,true] (.ty (.run 4 (.fn))) (.no)))))) (.fy (.fy (.fy (.fy (.alt [true,false] (.ty (.run 4 (.fn))) (.no)))))))))) (.fy (.fy (.fy (.run 5 (.fy (.fy (.run 4 (.no))))))))))))) (.fy (.fy (.fy (.run 1 (.fy (.fy (.fy (.fy (.run 5 (.fy (.fy (.run 4 (.no)))))))))))))))))))))))))))))))))))))))))))))))))))))))))))))))))))) (Zi4 m g0 g1 bs xs ps n0) (Zgr m g0 g1 bs xs ps n0)=Zgj A K F m g0 g1 bs xs ps n0:=by kernel_rfl
end Go.Proofs.Ytklbmkllepkjcaa
