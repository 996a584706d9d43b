/- Paths of functions, printed by the explorer (Gx). No condition. -/
import Derived.Test.YtkeoeooghhjibaaGreatDoorCl
import Derived.KernelRfl
namespace Go.Proofs.YtkeoeooghhjibaaGreatDoor
set_option maxRecDepth 100000
set_option linter.unusedVariables false
def Zr2(ms ks rs:List AV):AFrame:={ fn:=119,N:=188,env:=[(0,AV.agg (Row.gen [.list (Row.big .str ms), .list (Row.big (.agg [.str, .int .i64]) ks), .list (Row.big (.agg [.str, .int .i64, .int .i64, .int .i64, .int .i64]) rs)]))],todo:=[.code a119.code],defs:=[],rnd:=none,ret:=false,res:=[ARes.cell 2 true 2,ARes.tmp 3] }
def ZCf(ms ks rs:List AV):List AFrame:=[(Zr2 ms ks rs)]
theorem Zqm(ms ks rs:List AV):Zaq tab 119 [AV.agg (Row.gen [.list (Row.big .str ms), .list (Row.big (.agg [.str, .int .i64]) ks), .list (Row.big (.agg [.str, .int .i64, .int .i64, .int .i64, .int .i64]) rs)])]=some (Zr2 ms ks rs):=rfl
def ZdT(ms ks rs:List AV)(n0:Int):List AFrame:=[{ fn:=119,N:=188,env:=[(1,AV.ptr 119002 0 0 0),(2,AV.ptr 119003 0 0 0),(4,AV.int .i64 n0)],todo:=.code (ACode.gh [] Zsm)::Zzy,defs:=[],rnd:=none,ret:=false,res:=[ARes.cell 2 true 2,ARes.tmp 3] }]
def Zdq(ms ks rs:List AV)(n0:Int):Zac:=[(119002,{ base:=0,blks:=[Blk.row 26 3 (Row.gen [AV.agg (Row.gen [AV.list (Row.big .str ms),AV.list (Row.big (.agg [.str, .int .i64]) ks),AV.list (Row.big (.agg [.str, .int .i64, .int .i64, .int .i64, .int .i64]) rs)])])] }),(119003,{ base:=0,blks:=[Blk.row 195 2 (Row.gen [AV.agg (Row.gen [AV.int .i64 0,AV.int .i64 0])])] })]
abbrev Zfy(ms ks rs:List AV)(n0:Int):List AFrame×Zac:=(ZdT ms ks rs n0,Zdq ms ks rs n0)
def ZcO(ms ks rs:List AV):List AFrame:=[{ fn:=119,N:=188,env:=[(1,AV.ptr 119002 0 0 0),(2,AV.ptr 119003 0 0 0),(5,AV.nils),(6,AV.int .i64 0)],todo:=.code (ACode.gh [] Zog)::ZrK,defs:=[],rnd:=none,ret:=false,res:=[ARes.cell 2 true 2,ARes.tmp 3] }]
def Zcm(ms ks rs:List AV):Zac:=[(119002,{ base:=0,blks:=[Blk.row 26 3 (Row.gen [AV.agg (Row.gen [AV.list (Row.big .str ms),AV.list (Row.big (.agg [.str, .int .i64]) ks),AV.list (Row.big (.agg [.str, .int .i64, .int .i64, .int .i64, .int .i64]) rs)])])] }),(119003,{ base:=0,blks:=[Blk.row 195 2 (Row.gen [AV.agg (Row.gen [AV.int .i64 0,AV.int .i64 0])])] })]
abbrev ZjP(ms ks rs:List AV):List AFrame×Zac:=(ZcO ms ks rs,Zcm ms ks rs)
def Zea(ms ks rs:List AV)(n1:Int)(x2:List AV):List AFrame:=[{ fn:=119,N:=188,env:=[(1,AV.ptr 119002 0 0 0),(2,AV.ptr 119003 0 0 0),(5,AV.row 119093 0),(6,AV.int .i64 n1)],todo:=.code (ACode.gh [] Zog)::ZrK,defs:=[],rnd:=none,ret:=false,res:=[ARes.cell 2 true 2,ARes.tmp 3] }]
def Zdo(ms ks rs:List AV)(n1:Int)(x2:List AV):Zac:=[(119002,{ base:=0,blks:=[Blk.row 26 3 (Row.gen [AV.agg (Row.gen [AV.list (Row.big .str ms),AV.list (Row.big (.agg [.str, .int .i64]) ks),AV.list (Row.big (.agg [.str, .int .i64, .int .i64, .int .i64, .int .i64]) rs)])])] }),(119003,{ base:=0,blks:=[Blk.row 195 2 (Row.gen [AV.agg (Row.gen [AV.int .i64 0,AV.int .i64 0])])] }),(119093,{ base:=0,blks:=[Blk.row 9 1 (Row.big .str x2)] })]
abbrev ZfB(ms ks rs:List AV)(n1:Int)(x2:List AV):List AFrame×Zac:=(Zea ms ks rs n1 x2,Zdo ms ks rs n1 x2)
def ZcJ(ms ks rs:List AV):List AFrame:=[{ fn:=119,N:=188,env:=[(1,AV.ptr 119002 0 0 0),(2,AV.ptr 119003 0 0 0),(5,AV.nils),(7,AV.int .i64 0)],todo:=.code (ACode.gh [] ZoK)::Zr3,defs:=[],rnd:=none,ret:=false,res:=[ARes.cell 2 true 2,ARes.tmp 3] }]
def Zch(ms ks rs:List AV):Zac:=[(119002,{ base:=0,blks:=[Blk.row 26 3 (Row.gen [AV.agg (Row.gen [AV.list (Row.big .str ms),AV.list (Row.big (.agg [.str, .int .i64]) ks),AV.list (Row.big (.agg [.str, .int .i64, .int .i64, .int .i64, .int .i64]) rs)])])] }),(119003,{ base:=0,blks:=[Blk.row 195 2 (Row.gen [AV.agg (Row.gen [AV.int .i64 0,AV.int .i64 0])])] })]
abbrev ZfO(ms ks rs:List AV):List AFrame×Zac:=(ZcJ ms ks rs,Zch ms ks rs)
def Zd8(ms ks rs:List AV)(n3:Int)(x4:List AV):List AFrame:=[{ fn:=119,N:=188,env:=[(1,AV.ptr 119002 0 0 0),(2,AV.ptr 119003 0 0 0),(5,AV.row 119141 0),(7,AV.int .i64 n3)],todo:=.code (ACode.gh [] ZoK)::Zr3,defs:=[],rnd:=none,ret:=false,res:=[ARes.cell 2 true 2,ARes.tmp 3] }]
def Zdg(ms ks rs:List AV)(n3:Int)(x4:List AV):Zac:=[(119002,{ base:=0,blks:=[Blk.row 26 3 (Row.gen [AV.agg (Row.gen [AV.list (Row.big .str ms),AV.list (Row.big (.agg [.str, .int .i64]) ks),AV.list (Row.big (.agg [.str, .int .i64, .int .i64, .int .i64, .int .i64]) rs)])])] }),(119003,{ base:=0,blks:=[Blk.row 195 2 (Row.gen [AV.agg (Row.gen [AV.int .i64 0,AV.int .i64 0])])] }),(119141,{ base:=0,blks:=[Blk.row 9 1 (Row.big .str x4)] })]
abbrev Zcg(ms ks rs:List AV)(n3:Int)(x4:List AV):List AFrame×Zac:=(Zd8 ms ks rs n3 x4,Zdg ms ks rs n3 x4)
def Zlq(A:Ar)(K:KT)(F:FT)(ms ks rs:List AV):Prop:=bB (A.eq (A.int (A.lenA ms)) 0) (F (AV.tup [AV.agg (Row.gen [.int .i64 1, .int .i64 0]),AV.int .i64 10]) (none)) (bB (A.lt 6 (A.int (A.lenA ms))) (F (AV.tup [AV.agg (Row.gen [.int .i64 1, .int .i64 0]),AV.int .i64 8]) (none)) (K (Zfy (ms) (ks) (rs) (0))))
theorem ZBN{A:Ar}{K:KT}{F:FT}{M:MT}{ms ks rs:List AV} :ZaD A tab B6 119 K F M (.run 14 (.tf (.run 20 (.fn)) (.run 9 (.tf (.run 20 (.fn)) (.run 9 (.hd)))))) (ZCf ms ks rs) []=Zlq A K F ms ks rs:=by kernel_rfl
def ZbP(A:Ar)(K:KT)(F:FT)(ms ks rs:List AV)(n0:Int):Prop:=bB (A.lt n0 (A.int (A.lenA ms))) (rB [decide (List.length (AV.toS (A.nthA ms (A.nat n0)))≤1000000),Zaf (Zaf (A.le 0 n0) (Nat.blt (A.nat n0) (A.lenA ms))) true] (bB (A.not (ZaQ (AV.toS (A.nthA ms (A.nat n0))))) (F (AV.tup [AV.agg (Row.gen [.int .i64 1, .int .i64 n0]),AV.int .i64 4]) (none)) (rB [decide (List.length (A.subA ms 0 (A.nat n0-0))≤1000000),Zaf (Zaf (A.le 0 n0) (Nat.blt (A.nat n0) (A.lenA ms))) true,Zaf (A.le 0 n0) (Zaf (Zaf (Nat.ble 0 (A.nat n0)) (Nat.ble (A.nat n0) (A.lenA ms))) true)] (bB (Zhg (A.subA ms 0 (A.nat n0-0)) (AV.toS (A.nthA ms (A.nat n0)))) (F (AV.tup [AV.agg (Row.gen [.int .i64 1, .int .i64 n0]),AV.int .i64 5]) (none)) (rB [A.inR .i64 (A.add n0 1)] (K (Zfy (ms) (ks) (rs) (A.add n0 1)))))))) (bB (A.eq (A.int (A.lenA ks)) 0) (F (AV.tup [AV.agg (Row.gen [.int .i64 2, .int .i64 0]),AV.int .i64 10]) (none)) (bB (A.lt 8 (A.int (A.lenA ks))) (F (AV.tup [AV.agg (Row.gen [.int .i64 2, .int .i64 0]),AV.int .i64 8]) (none)) (K (ZjP (ms) (ks) (rs)))))
theorem ZfG{A:Ar}{K:KT}{F:FT}{M:MT}{ms ks rs:List AV}{n0:Int} :ZaD A tab B6 119 K F M (.run 10 (.tf (.run 15 (.tf (.run 21 (.fn)) (.run 4 (.tf (.run 21 (.fn)) (.run 9 (.hd)))))) (.run 9 (.tf (.run 20 (.fn)) (.run 9 (.tf (.run 20 (.fn)) (.run 13 (.hd)))))))) (ZdT ms ks rs n0) (Zdq ms ks rs n0)=ZbP A K F ms ks rs n0:=by kernel_rfl
def Zcp(A:Ar)(K:KT)(F:FT)(ms ks rs:List AV):Prop:=bB (A.lt 0 (A.int (A.lenA ks))) (rB [decide (List.length ((A.nthA ks (A.nat 0)).cellAt 0).toS≤1000000),Zaf (Zaf (A.le 0 0) (Nat.blt (A.nat 0) (A.lenA ks))) true] (bB (A.not (ZaQ ((A.nthA ks (A.nat 0)).cellAt 0).toS)) (F (AV.tup [AV.agg (Row.gen [.int .i64 2, .int .i64 0]),AV.int .i64 4]) (none)) (rB [Zaf (Zaf (A.le 0 0) (Nat.blt (A.nat 0) (A.lenA ks))) true] (rB [A.inR .i64 (A.sub (A.int (A.lenA ms)) 1),Zaf (Zaf (A.le 0 0) (Nat.blt (A.nat 0) (A.lenA ks))) true,Zaf (Nat.ble (A.lenA [AV.str ((A.nthA ks (A.nat 0)).cellAt 0).toS]) 4294967296) (Nat.blt 0 (A.lenA [AV.str ((A.nthA ks (A.nat 0)).cellAt 0).toS])),List.all [AV.str ((A.nthA ks (A.nat 0)).cellAt 0).toS] fun x=>AV.bx x&&Nat.beq (Zah A x) 1,Zaf (Zaf (A.le 0 0) (Nat.blt (A.nat 0) (A.lenA ks))) true] (bB (A.not (Zab ((A.nthA ks (A.nat 0)).cellAt 1).toI (-1) (A.sub (A.int (A.lenA ms)) 1))) (F (AV.tup [AV.agg (Row.gen [.int .i64 2, .int .i64 0]),AV.int .i64 6]) (none)) (rB [A.inR .i64 (A.add 0 1)] (K (ZfB (ms) (ks) (rs) (A.add 0 1) ([AV.str ((A.nthA ks (A.nat 0)).cellAt 0).toS]))))))))) (bB (A.lt 10 (A.int (A.lenA rs))) (F (AV.tup [AV.agg (Row.gen [.int .i64 3, .int .i64 0]),AV.int .i64 8]) (none)) (K (ZfO (ms) (ks) (rs))))
theorem ZfV{A:Ar}{K:KT}{F:FT}{M:MT}{ms ks rs:List AV} :ZaD A tab B6 119 K F M (.run 10 (.tf (.run 16 (.tf (.run 21 (.fn)) (.run 14 (.fy (.run 18 (.tf (.run 21 (.fn)) (.run 9 (.hd)))))))) (.run 9 (.tf (.run 20 (.fn)) (.run 13 (.hd)))))) (ZcO ms ks rs) (Zcm ms ks rs)=Zcp A K F ms ks rs:=by kernel_rfl
def Zcl(A:Ar)(K:KT)(F:FT)(ms ks rs:List AV)(n1:Int)(x2:List AV):Prop:=bB (A.lt n1 (A.int (A.lenA ks))) (rB [decide (List.length ((A.nthA ks (A.nat n1)).cellAt 0).toS≤1000000),Zaf (Zaf (A.le 0 n1) (Nat.blt (A.nat n1) (A.lenA ks))) true] (bB (A.not (ZaQ ((A.nthA ks (A.nat n1)).cellAt 0).toS)) (F (AV.tup [AV.agg (Row.gen [.int .i64 2, .int .i64 n1]),AV.int .i64 4]) (none)) (rB [decide (List.length x2≤1000000),Zaf (Zaf (A.le 0 n1) (Nat.blt (A.nat n1) (A.lenA ks))) true] (bB (Zhg x2 ((A.nthA ks (A.nat n1)).cellAt 0).toS) (F (AV.tup [AV.agg (Row.gen [.int .i64 2, .int .i64 n1]),AV.int .i64 5]) (none)) (rB [A.inR .i64 (A.sub (A.int (A.lenA ms)) 1),Zaf (Zaf (A.le 0 n1) (Nat.blt (A.nat n1) (A.lenA ks))) true,Nat.ble (A.lenA x2+A.lenA [AV.str ((A.nthA ks (A.nat n1)).cellAt 0).toS]) 4294967296,List.all [AV.str ((A.nthA ks (A.nat n1)).cellAt 0).toS] fun x=>AV.bx x&&Nat.beq (Zah A x) 1,Zaf (Zaf (A.le 0 n1) (Nat.blt (A.nat n1) (A.lenA ks))) true] (bB (A.not (Zab ((A.nthA ks (A.nat n1)).cellAt 1).toI (-1) (A.sub (A.int (A.lenA ms)) 1))) (F (AV.tup [AV.agg (Row.gen [.int .i64 2, .int .i64 n1]),AV.int .i64 6]) (none)) (rB [A.inR .i64 (A.add n1 1)] (K (ZfB (ms) (ks) (rs) (A.add n1 1) (A.appA x2 [AV.str ((A.nthA ks (A.nat n1)).cellAt 0).toS])))))))))) (bB (A.lt 10 (A.int (A.lenA rs))) (F (AV.tup [AV.agg (Row.gen [.int .i64 3, .int .i64 0]),AV.int .i64 8]) (none)) (K (ZfO (ms) (ks) (rs))))
theorem ZfA{A:Ar}{K:KT}{F:FT}{M:MT}{ms ks rs:List AV}{n1:Int}{x2:List AV} :ZaD A tab B6 119 K F M (.run 10 (.tf (.run 16 (.tf (.run 21 (.fn)) (.run 14 (.tf (.run 21 (.fn)) (.run 18 (.tf (.run 21 (.fn)) (.run 9 (.hd)))))))) (.run 9 (.tf (.run 20 (.fn)) (.run 13 (.hd)))))) (Zea ms ks rs n1 x2) (Zdo ms ks rs n1 x2)=Zcl A K F ms ks rs n1 x2:=by kernel_rfl
def Zdf(A:Ar)(K:KT)(F:FT)(ms ks rs:List AV):Prop:=bB (A.lt 0 (A.int (A.lenA rs))) (rB [decide (List.length ((A.nthA rs (A.nat 0)).cellAt 0).toS≤1000000),Zaf (Zaf (A.le 0 0) (Nat.blt (A.nat 0) (A.lenA rs))) true] (bB (A.not (ZaQ ((A.nthA rs (A.nat 0)).cellAt 0).toS)) (F (AV.tup [AV.agg (Row.gen [.int .i64 3, .int .i64 0]),AV.int .i64 4]) (none)) (rB [A.inR .i64 (A.sub (A.int (A.lenA ks)) 1),Zaf (Nat.ble (A.lenA [AV.str ((A.nthA rs (A.nat 0)).cellAt 0).toS]) 4294967296) (Nat.blt 0 (A.lenA [AV.str ((A.nthA rs (A.nat 0)).cellAt 0).toS])),List.all [AV.str ((A.nthA rs (A.nat 0)).cellAt 0).toS] fun x=>AV.bx x&&Nat.beq (Zah A x) 1] (bB (A.not (Zab ((A.nthA rs (A.nat 0)).cellAt 1).toI 0 (A.sub (A.int (A.lenA ks)) 1))) (F (AV.tup [AV.agg (Row.gen [.int .i64 3, .int .i64 0]),AV.int .i64 6]) (none)) (rB [A.inR .i64 (A.sub (A.int (A.lenA ms)) 1)] (bB (A.not (Zab ((A.nthA rs (A.nat 0)).cellAt 2).toI (-1) (A.sub (A.int (A.lenA ms)) 1))) (F (AV.tup [AV.agg (Row.gen [.int .i64 3, .int .i64 0]),AV.int .i64 6]) (none)) (rB [A.inR .i64 (A.sub (A.int (A.lenA ks)) 1)] (bB (A.not (Zab ((A.nthA rs (A.nat 0)).cellAt 3).toI (-1) (A.sub (A.int (A.lenA ks)) 1))) (F (AV.tup [AV.agg (Row.gen [.int .i64 3, .int .i64 0]),AV.int .i64 6]) (none)) (bB (A.not (Zab ((A.nthA rs (A.nat 0)).cellAt 4).toI 1 1000000)) (F (AV.tup [AV.agg (Row.gen [.int .i64 3, .int .i64 0]),AV.int .i64 2]) (none)) (bB (A.eq ((A.nthA rs (A.nat 0)).cellAt 3).toI (-1)) (bB (A.not (A.eq ((A.nthA rs (A.nat 0)).cellAt 4).toI 1)) (F (AV.tup [AV.agg (Row.gen [.int .i64 3, .int .i64 0]),AV.int .i64 3]) (none)) (rB [A.inR .i64 (A.add 0 1)] (K (Zcg (ms) (ks) (rs) (A.add 0 1) ([AV.str ((A.nthA rs (A.nat 0)).cellAt 0).toS]))))) (rB [A.inR .i64 (A.add 0 1)] (K (Zcg (ms) (ks) (rs) (A.add 0 1) ([AV.str ((A.nthA rs (A.nat 0)).cellAt 0).toS])))))))))))))) (F (AV.tup [AV.agg (Row.gen [.int .i64 0, .int .i64 0]),AV.int .i64 0]) (none))
theorem Zft{A:Ar}{K:KT}{F:FT}{M:MT}{ms ks rs:List AV} :ZaD A tab B6 119 K F M (.run 10 (.tf (.run 21 (.tf (.run 21 (.fn)) (.run 9 (.fy (.run 22 (.tf (.ty (.ty (.ty (.ty (.ty (.ty (.ty (.ty (.run 1 (.ty (.ty (.ty (.ty (.ty (.ty (.ty (.ty (.ty (.run 2 (.ty (.run 21 (.fn)))))))))))))))))))))) (.fy (.fy (.fy (.fy (.fy (.fy (.fy (.fy (.run 1 (.tf (.ty (.ty (.ty (.ty (.ty (.ty (.ty (.ty (.run 2 (.ty (.run 21 (.fn)))))))))))) (.fy (.fy (.fy (.fy (.fy (.fy (.fy (.fy (.run 2 (.tf (.run 21 (.fn)) (.run 9 (.tf (.run 21 (.fn)) (.run 7 (.tf (.ty (.ty (.ty (.run 2 (.tf (.run 21 (.fn)) (.run 9 (.hd))))))) (.fy (.fy (.fy (.run 2 (.fy (.run 9 (.hd))))))))))))))))))))))))))))))))))))) (.run 8 (.fn)))) (ZcJ ms ks rs) (Zch ms ks rs)=Zdf A K F ms ks rs:=by kernel_rfl
def ZcZ(A:Ar)(K:KT)(F:FT)(ms ks rs:List AV)(n3:Int)(x4:List AV):Prop:=bB (A.lt n3 (A.int (A.lenA rs))) (rB [decide (List.length ((A.nthA rs (A.nat n3)).cellAt 0).toS≤1000000),Zaf (Zaf (A.le 0 n3) (Nat.blt (A.nat n3) (A.lenA rs))) true] (bB (A.not (ZaQ ((A.nthA rs (A.nat n3)).cellAt 0).toS)) (F (AV.tup [AV.agg (Row.gen [.int .i64 3, .int .i64 n3]),AV.int .i64 4]) (none)) (rB [decide (List.length x4≤1000000)] (bB (Zhg x4 ((A.nthA rs (A.nat n3)).cellAt 0).toS) (F (AV.tup [AV.agg (Row.gen [.int .i64 3, .int .i64 n3]),AV.int .i64 5]) (none)) (rB [A.inR .i64 (A.sub (A.int (A.lenA ks)) 1),Nat.ble (A.lenA x4+A.lenA [AV.str ((A.nthA rs (A.nat n3)).cellAt 0).toS]) 4294967296,List.all [AV.str ((A.nthA rs (A.nat n3)).cellAt 0).toS] fun x=>AV.bx x&&Nat.beq (Zah A x) 1] (bB (A.not (Zab ((A.nthA rs (A.nat n3)).cellAt 1).toI 0 (A.sub (A.int (A.lenA ks)) 1))) (F (AV.tup [AV.agg (Row.gen [.int .i64 3, .int .i64 n3]),AV.int .i64 6]) (none)) (rB [A.inR .i64 (A.sub (A.int (A.lenA ms)) 1)] (bB (A.not (Zab ((A.nthA rs (A.nat n3)).cellAt 2).toI (-1) (A.sub (A.int (A.lenA ms)) 1))) (F (AV.tup [AV.agg (Row.gen [.int .i64 3, .int .i64 n3]),AV.int .i64 6]) (none)) (rB [A.inR .i64 (A.sub (A.int (A.lenA ks)) 1)] (bB (A.not (Zab ((A.nthA rs (A.nat n3)).cellAt 3).toI (-1) (A.sub (A.int (A.lenA ks)) 1))) (F (AV.tup [AV.agg (Row.gen [.int .i64 3, .int .i64 n3]),AV.int .i64 6]) (none)) (bB (A.not (Zab ((A.nthA rs (A.nat n3)).cellAt 4).toI 1 1000000)) (F (AV.tup [AV.agg (Row.gen [.int .i64 3, .int .i64 n3]),AV.int .i64 2]) (none)) (bB (A.eq ((A.nthA rs (A.nat n3)).cellAt 3).toI (-1)) (bB (A.not (A.eq ((A.nthA rs (A.nat n3)).cellAt 4).toI 1)) (F (AV.tup [AV.agg (Row.gen [.int .i64 3, .int .i64 n3]),AV.int .i64 3]) (none)) (rB [A.inR .i64 (A.add n3 1)] (K (Zcg (ms) (ks) (rs) (A.add n3 1) (A.appA x4 [AV.str ((A.nthA rs (A.nat n3)).cellAt 0).toS]))))) (rB [A.inR .i64 (A.add n3 1)] (K (Zcg (ms) (ks) (rs) (A.add n3 1) (A.appA x4 [AV.str ((A.nthA rs (A.nat n3)).cellAt 0).toS])))))))))))))))) (F (AV.tup [AV.agg (Row.gen [.int .i64 0, .int .i64 0]),AV.int .i64 0]) (none))
theorem Zfv{A:Ar}{K:KT}{F:FT}{M:MT}{ms ks rs:List AV}{n3:Int}{x4:List AV} :ZaD A tab B6 119 K F M (.run 10 (.tf (.run 21 (.tf (.run 21 (.fn)) (.run 9 (.tf (.run 21 (.fn)) (.run 22 (.tf (.ty (.ty (.ty (.ty (.ty (.ty (.ty (.ty (.run 1 (.ty (.ty (.ty (.ty (.ty (.ty (.ty (.ty (.ty (.run 2 (.ty (.run 21 (.fn)))))))))))))))))))))) (.fy (.fy (.fy (.fy (.fy (.fy (.fy (.fy (.run 1 (.tf (.ty (.ty (.ty (.ty (.ty (.ty (.ty (.ty (.run 2 (.ty (.run 21 (.fn)))))))))))) (.fy (.fy (.fy (.fy (.fy (.fy (.fy (.fy (.run 2 (.tf (.run 21 (.fn)) (.run 9 (.tf (.run 21 (.fn)) (.run 7 (.tf (.ty (.ty (.ty (.run 2 (.tf (.run 21 (.fn)) (.run 9 (.hd))))))) (.fy (.fy (.fy (.run 2 (.fy (.run 9 (.hd))))))))))))))))))))))))))))))))))))) (.run 8 (.fn)))) (Zd8 ms ks rs n3 x4) (Zdg ms ks rs n3 x4)=ZcZ A K F ms ks rs n3 x4:=by kernel_rfl
def ZAL(ms ks rs:List AV)(a b:Int)(xs:List Int)(k:Int):AFrame:={ fn:=86,N:=65,env:=[(0,AV.agg (Row.gen [.list (Row.big .str ms), .list (Row.big (.agg [.str, .int .i64]) ks), .list (Row.big (.agg [.str, .int .i64, .int .i64, .int .i64, .int .i64]) rs)])),(1,AV.agg (Row.gen [.int .i64 a, .int .i64 b, .list (.ints .i64 xs)])),(2,AV.int .i64 k)],todo:=[.code a86.code],defs:=[],rnd:=none,ret:=false,res:=[ARes.tmp 6] }
def ZHY(ms ks rs:List AV)(a b:Int)(xs:List Int)(k:Int):List AFrame:=[(ZAL ms ks rs a b xs k)]
theorem Zvq(ms ks rs:List AV)(a b:Int)(xs:List Int)(k:Int):Zaq tab 86 [AV.agg (Row.gen [.list (Row.big .str ms), .list (Row.big (.agg [.str, .int .i64]) ks), .list (Row.big (.agg [.str, .int .i64, .int .i64, .int .i64, .int .i64]) rs)]),AV.agg (Row.gen [.int .i64 a, .int .i64 b, .list (.ints .i64 xs)]),AV.int .i64 k]=some (ZAL ms ks rs a b xs k):=rfl
def Zew(ms ks rs:List AV)(a b:Int)(xs:List Int)(k n0:Int):List AFrame:=[{ fn:=86,N:=65,env:=[(2,AV.int .i64 k),(3,AV.ptr 86004 0 0 0),(4,AV.ptr 86005 0 0 0),(7,AV.int .i64 n0)],todo:=.code (ACode.gh [] ZyK)::ZEt,defs:=[],rnd:=none,ret:=false,res:=[ARes.tmp 6] }]
def Zds(ms ks rs:List AV)(a b:Int)(xs:List Int)(k n0:Int):Zac:=[(86004,{ base:=0,blks:=[Blk.row 26 3 (Row.gen [AV.agg (Row.gen [AV.list (Row.big .str ms),AV.list (Row.big (.agg [.str, .int .i64]) ks),AV.list (Row.big (.agg [.str, .int .i64, .int .i64, .int .i64, .int .i64]) rs)])])] }),(86005,{ base:=0,blks:=[Blk.row 76 3 (Row.gen [AV.agg (Row.gen [AV.int .i64 a,AV.int .i64 b,AV.list (.ints .i64 xs)])])] })]
abbrev ZbC(ms ks rs:List AV)(a b:Int)(xs:List Int)(k n0:Int):List AFrame×Zac:=(Zew ms ks rs a b xs k n0,Zds ms ks rs a b xs k n0)
def ZCu(A:Ar)(K:KT)(F:FT)(ms ks rs:List AV)(a b:Int)(xs:List Int)(k:Int):Prop:=K (ZbC (ms) (ks) (rs) (a) (b) (xs) (k) (0))
theorem ZDh{A:Ar}{K:KT}{F:FT}{M:MT}{ms ks rs:List AV}{a b:Int}{xs:List Int}{k:Int} :ZaD A tab B6 86 K F M (.run 14 (.hd)) (ZHY ms ks rs a b xs k) []=ZCu A K F ms ks rs a b xs k:=by kernel_rfl
def Zfj(A:Ar)(K:KT)(F:FT)(ms ks rs:List AV)(a b:Int)(xs:List Int)(k n0:Int):Prop:=bB (A.lt n0 (A.int (A.lenA rs))) (rB [Zaf (Zaf (A.le 0 n0) (Nat.blt (A.nat n0) (A.lenA rs))) true] (bB (A.not (A.eq ((A.nthA rs (A.nat n0)).cellAt 1).toI k)) (rB [A.inR .i64 (A.add n0 1)] (K (ZbC (ms) (ks) (rs) (a) (b) (xs) (k) (A.add n0 1)))) (bB (A.not (A.eq ((A.nthA rs (A.nat n0)).cellAt 2).toI (-1))) (bB (A.not (A.eq ((A.nthA rs (A.nat n0)).cellAt 2).toI a)) (rB [A.inR .i64 (A.add n0 1)] (K (ZbC (ms) (ks) (rs) (a) (b) (xs) (k) (A.add n0 1)))) (qB [A.eq ((A.nthA rs (A.nat n0)).cellAt 3).toI (-1)] (F (AV.str ((A.nthA rs (A.nat n0)).cellAt 0).toS) (none)) (qB [A.inR .i64 (A.sub b (A.nth xs (A.nat ((A.nthA rs (A.nat n0)).cellAt 3).toI))),Zaf (Zaf (A.le 0 ((A.nthA rs (A.nat n0)).cellAt 3).toI) (Nat.blt (A.nat ((A.nthA rs (A.nat n0)).cellAt 3).toI) (A.len xs))) true,A.not (A.eq (A.nth xs (A.nat ((A.nthA rs (A.nat n0)).cellAt 3).toI)) (-1)),Zaf (Zaf (A.le 0 ((A.nthA rs (A.nat n0)).cellAt 3).toI) (Nat.blt (A.nat ((A.nthA rs (A.nat n0)).cellAt 3).toI) (A.len xs))) true,!A.eq ((A.nthA rs (A.nat n0)).cellAt 3).toI (-1)] (bB (A.lt (A.sub b (A.nth xs (A.nat ((A.nthA rs (A.nat n0)).cellAt 3).toI))) ((A.nthA rs (A.nat n0)).cellAt 4).toI) (F (AV.str ((A.nthA rs (A.nat n0)).cellAt 0).toS) (none)) (rB [A.inR .i64 (A.add n0 1)] (K (ZbC (ms) (ks) (rs) (a) (b) (xs) (k) (A.add n0 1))))) (rB [!A.not (A.eq (A.nth xs (A.nat ((A.nthA rs (A.nat n0)).cellAt 3).toI)) (-1)),Zaf (Zaf (A.le 0 ((A.nthA rs (A.nat n0)).cellAt 3).toI) (Nat.blt (A.nat ((A.nthA rs (A.nat n0)).cellAt 3).toI) (A.len xs))) true,!A.eq ((A.nthA rs (A.nat n0)).cellAt 3).toI (-1)] (rB [A.inR .i64 (A.add n0 1)] (K (ZbC (ms) (ks) (rs) (a) (b) (xs) (k) (A.add n0 1)))))))) (qB [A.eq ((A.nthA rs (A.nat n0)).cellAt 3).toI (-1)] (F (AV.str ((A.nthA rs (A.nat n0)).cellAt 0).toS) (none)) (qB [A.inR .i64 (A.sub b (A.nth xs (A.nat ((A.nthA rs (A.nat n0)).cellAt 3).toI))),Zaf (Zaf (A.le 0 ((A.nthA rs (A.nat n0)).cellAt 3).toI) (Nat.blt (A.nat ((A.nthA rs (A.nat n0)).cellAt 3).toI) (A.len xs))) true,A.not (A.eq (A.nth xs (A.nat ((A.nthA rs (A.nat n0)).cellAt 3).toI)) (-1)),Zaf (Zaf (A.le 0 ((A.nthA rs (A.nat n0)).cellAt 3).toI) (Nat.blt (A.nat ((A.nthA rs (A.nat n0)).cellAt 3).toI) (A.len xs))) true,!A.eq ((A.nthA rs (A.nat n0)).cellAt 3).toI (-1)] (bB (A.lt (A.sub b (A.nth xs (A.nat ((A.nthA rs (A.nat n0)).cellAt 3).toI))) ((A.nthA rs (A.nat n0)).cellAt 4).toI) (F (AV.str ((A.nthA rs (A.nat n0)).cellAt 0).toS) (none)) (rB [A.inR .i64 (A.add n0 1)] (K (ZbC (ms) (ks) (rs) (a) (b) (xs) (k) (A.add n0 1))))) (rB [!A.not (A.eq (A.nth xs (A.nat ((A.nthA rs (A.nat n0)).cellAt 3).toI)) (-1)),Zaf (Zaf (A.le 0 ((A.nthA rs (A.nat n0)).cellAt 3).toI) (Nat.blt (A.nat ((A.nthA rs (A.nat n0)).cellAt 3).toI) (A.len xs))) true,!A.eq ((A.nthA rs (A.nat n0)).cellAt 3).toI (-1)] (rB [A.inR .i64 (A.add n0 1)] (K (ZbC (ms) (ks) (rs) (a) (b) (xs) (k) (A.add n0 1)))))))))) (F (AV.str []) (none))
theorem Zhy{A:Ar}{K:KT}{F:FT}{M:MT}{ms ks rs:List AV}{a b:Int}{xs:List Int}{k n0:Int} :ZaD A tab B6 86 K F M (.run 10 (.tf (.run 21 (.tf (.ty (.ty (.ty (.run 5 (.ty (.ty (.run 2 (.ty (.run 8 (.hd)))))))))) (.fy (.fy (.fy (.tf (.ty (.ty (.ty (.ty (.alt [false,true] (.fy (.run 2 (.tf (.run 8 (.hd)) (.run 2 (.alt [true] (.run 1 (.ty (.run 7 (.fn)))) (.alt [false,true] (.run 1 (.tf (.run 7 (.fn)) (.run 9 (.hd)))) (.alt [false,false] (.run 1 (.fy (.run 9 (.hd)))) (.no)))))))) (.no)))))) (.fy (.fy (.fy (.fy (.alt [false,false] (.fy (.run 2 (.fy (.run 2 (.alt [true] (.run 1 (.ty (.run 7 (.fn)))) (.alt [false,true] (.run 1 (.tf (.run 7 (.fn)) (.run 9 (.hd)))) (.alt [false,false] (.run 1 (.fy (.run 9 (.hd)))) (.no)))))))) (.no)))))))))))) (.run 6 (.fn)))) (Zew ms ks rs a b xs k n0) (Zds ms ks rs a b xs k n0)=Zfj A K F ms ks rs a b xs k n0:=by kernel_rfl
end Go.Proofs.YtkeoeooghhjibaaGreatDoor
/- CheckModel of the reference. No condition. -/
namespace Go.Proofs.YtkeoeooghhjibaaGreatDoor
theorem ZsO{nm:List UInt8}{ex:Int}{xs:List AV}(h:ZaQ nm=false):Zcr nm ex xs=4:=by simp[Zcr,Zai,Zaa,h]
theorem ZvE{nm:List UInt8}{ex:Int}{xs:List AV}(h:ZaQ nm=true)(h2:Zhg xs nm=true):Zcr nm ex xs=5:=by
 have h3:std.hasS xs nm=true:=h2
 simp[-Zc9,Zcr,Zai,Zaa,h,h3]
theorem ZvK{nm:List UInt8}{ex:Int}{xs:List AV}(h:ZaQ nm=true)(h2:Zhg xs nm=false):Zcr nm ex xs=ex:=by
 have h3:std.hasS xs nm=false:=h2
 by_cases h4:ex=0<;>simp[-Zc9,Zcr,Zai,Zaa,h,h3,h4]
theorem Ze4{n m:Int}(hm:0≤m):Zhp n m=Zab n (-1) (m-1):=by
 unfold Zhp Zab
 by_cases h:n= -1
 ·rw[if_pos h,decide_eq_true (by omega)]
 ·rw[if_neg h]
  by_cases h2:0≤n∧n≤m-1
  ·rw[decide_eq_true h2,decide_eq_true (by omega)]
  ·rw[decide_eq_false h2,decide_eq_false (by omega)]
theorem Ze9(nm:Nat→List UInt8)(ex:Nat→Int)(m k:Nat)(xs:List AV)(p:Int)(d:AV):Zbs p (Zbc nm ex (m+1) k xs) d=if Zcr (nm k) (ex k) xs=0 then Zbs p (Zbc nm ex m (k+1) (xs++[.str (nm k)])) d else Zbf p k (Zcr (nm k) (ex k) xs):=by
 rw[Zbc];split<;>rfl
theorem Zel(nm:List UInt8)(ex:Int)(xs:List AV):Zcr nm ex xs=if ZaQ nm=true then(if Zhg xs nm=true then 5 else ex)else 4:=by
 by_cases h:ZaQ nm=true
 ·by_cases h2:Zhg xs nm=true
  ·rw[if_pos h,if_pos h2,ZvE h h2]
  ·rw[if_pos h,if_neg h2,ZvK h (by simpa using h2)]
 ·rw[if_neg h,ZsO (by simpa using h)]
theorem Zi2(rs:List AV)(k n m:Nat):ZbJ rs k n m=if Zab (Zal rs k 1) 0 ((n:Int)-1)=true∧Zab (Zal rs k 2) (-1) ((m:Int)-1)=true∧Zab (Zal rs k 3) (-1) ((n:Int)-1)=true then(if Zab (Zal rs k 4) 1 1000000=true then(if Zal rs k 3= -1∧¬Zal rs k 4=1 then 3 else 0)else 2)else 6:=by
 rw[ZbJ,Ze4 (by omega),Ze4 (by omega)]
 by_cases h1:Zab (Zal rs k 1) 0 ((n:Int)-1)=true<;>by_cases h2:Zab (Zal rs k 2) (-1) ((m:Int)-1)=true<;>by_cases h3:Zab (Zal rs k 3) (-1) ((n:Int)-1)=true<;>by_cases h4:Zab (Zal rs k 4) 1 1000000=true<;>by_cases h5:Zal rs k 3= -1<;>by_cases h6:Zal rs k 4=1<;>simp_all[Zai,Zaa]
theorem Zp0{xs ys:List AV}(h:xs.map AV.toS=ys.map AV.toS){s:List UInt8} :Zhg xs s=Zhg ys s:=by
 have e:∀l:List AV,Zhg l s=(l.map AV.toS).any (· ==s):=fun l=>by simp[Zhg,List.any_map,Function.comp_def]
 rw[e,e,h]
theorem ZlP(ks:List AV)(k m:Nat):Zcx ks k m=if Zab (Zal ks k 1) (-1) ((m:Int)-1)=true then 0 else 6:=by
 rw[Zcx,Ze4 (by omega)];split<;>simp_all[Zaa]
section
variable {C:Ctx}(hC:C.P=Tryz.prog)(ms ks rs:List AV)(hs:Zax ms ks rs=true)
include hC hs
theorem ZzE:∀(m k:Nat) (xs:List AV),k+m=rs.length→xs.length≤k→Ev C (Zd8 ms ks rs k xs) (Zdg ms ks rs k xs)
 (ZbT 119 (Zbs 3 (Zbc (fun k=>Zaw rs k) (fun k=>ZbJ rs k ks.length ms.length) m k xs) (Zbf 0 0 0)) none)
 |0,k,xs,hk,hx=>tgo hC Zd2 Zfv (by simp[ZcZ,show ¬(k:Int)<rs.length by omega];rfl)
 |m+1,k,xs,hk,hx=>by
  have hs':=hs
  simp only[Zax,Bool.and_eq_true,decide_eq_true_eq]at hs'
  have hn:=Zb0 hs'.1.2 (show k<rs.length by omega)
  have hlt:(k:Int)<rs.length:=by omega
  have hlt2:k<rs.length:=by omega
  have e0:((rs.getD k .top).cellAt 0).toS=Zaw rs k:=rfl
  have e1:((rs.getD k .top).cellAt 1).toI=Zal rs k 1:=rfl
  have e2:((rs.getD k .top).cellAt 2).toI=Zal rs k 2:=rfl
  have e3:((rs.getD k .top).cellAt 3).toI=Zal rs k 3:=rfl
  have e4:((rs.getD k .top).cellAt 4).toI=Zal rs k 4:=rfl
  have ih:=ZzE m (k+1) (xs++[.str (Zaw rs k)]) (by omega) (by simp;omega)
  obtain⟨V,hV⟩:∃V,V=Zbs 3 (Zbc (fun k=>Zaw rs k) (fun k=>ZbJ rs k ks.length ms.length) (m+1) k xs) (Zbf 0 0 0):=⟨_,rfl⟩
  rw[←hV]
  rw[Ze9,Zel,Zi2]at hV
  refine tgo hC Zd2 Zfv ?_
  simp[-List.getD_eq_getElem?_getD,ZcZ,e0,e1,e2,e3,e4,hlt,hlt2,hn,AV.bx,Zah]
  clear e0 e1 e2 e3 e4 hs
  replace hs':=hs'.2
  generalize Zaw rs k=nm at*
  generalize Zal rs k 1=f1 at*
  generalize Zal rs k 2=f2 at*
  generalize Zal rs k 3=f3 at*
  generalize Zal rs k 4=f4 at*
  repeat' (first |split |apply And.intro)
  all_goals first |omega |skip
  all_goals (clear hs';simp_all[Zbf])
theorem Zw4:∀m:Nat,m=rs.length→Ev C (ZcJ ms ks rs) (Zch ms ks rs)
 (ZbT 119 (Zbs 3 (Zbc (fun k=>Zaw rs k) (fun k=>ZbJ rs k ks.length ms.length) m 0 []) (Zbf 0 0 0)) none)
 |0,hk=>tgo hC Zd2 Zft (by simp[Zdf,←hk];rfl)
 |m+1,hk=>by
  have hs':=hs
  simp only[Zax,Bool.and_eq_true,decide_eq_true_eq]at hs'
  have hn:=Zb0 hs'.1.2 (show 0<rs.length by omega)
  have hlt:(0:Int)<rs.length:=by omega
  have hlt2:0<rs.length:=by omega
  have e0:((rs.getD 0 .top).cellAt 0).toS=Zaw rs 0:=rfl
  have e1:((rs.getD 0 .top).cellAt 1).toI=Zal rs 0 1:=rfl
  have e2:((rs.getD 0 .top).cellAt 2).toI=Zal rs 0 2:=rfl
  have e3:((rs.getD 0 .top).cellAt 3).toI=Zal rs 0 3:=rfl
  have e4:((rs.getD 0 .top).cellAt 4).toI=Zal rs 0 4:=rfl
  have ih:=ZzE hC ms ks rs hs m 1 [.str (Zaw rs 0)] (by omega) (by simp)
  obtain⟨V,hV⟩:∃V,V=Zbs 3 (Zbc (fun k=>Zaw rs k) (fun k=>ZbJ rs k ks.length ms.length) (m+1) 0 []) (Zbf 0 0 0):=⟨_,rfl⟩
  rw[←hV]
  rw[Ze9,Zel,Zi2]at hV
  refine tgo hC Zd2 Zft ?_
  simp[-List.getD_eq_getElem?_getD,Zdf,e0,e1,e2,e3,e4,hlt,hlt2,hn,AV.bx,Zah]
  clear e0 e1 e2 e3 e4 hs
  replace hs':=hs'.2
  generalize Zaw rs 0=nm at*
  generalize Zal rs 0 1=f1 at*
  generalize Zal rs 0 2=f2 at*
  generalize Zal rs 0 3=f3 at*
  generalize Zal rs 0 4=f4 at*
  repeat' (first |split |apply And.intro)
  all_goals first |omega |skip
  all_goals (clear hs';simp_all[Zbf,Zhg])
end
def dB(ms ks rs:List AV):AV:=if 10<rs.length then Zbf 3 0 8 else Zpz ms ks rs
theorem ZxW(ms ks rs:List AV):(if Zb8 (decide (0≤(rs.length:Int))) (decide ((rs.length:Int)≤10))=0 then Zpz ms ks rs else Zbf 3 0 (Zb8 (decide (0≤(rs.length:Int))) (decide ((rs.length:Int)≤10))))=dB ms ks rs:=by
 unfold dB
 by_cases h:10<rs.length
 ·rw[if_pos h,decide_eq_true (by omega:(0:Int)≤(rs.length:Int)),decide_eq_false (by omega:¬(rs.length:Int)≤10)];rfl
 ·rw[if_neg h,decide_eq_true (by omega:(0:Int)≤(rs.length:Int)),decide_eq_true (by omega:(rs.length:Int)≤10)];rfl
def dA(ms ks rs:List AV):AV:=if ks.length=0 then Zbf 2 0 10 else if 8<ks.length then Zbf 2 0 8 else Zmp ms ks rs
theorem ZxU(ms ks rs:List AV):(if Zb8 (decide (1≤(ks.length:Int))) (decide ((ks.length:Int)≤8))=0 then Zmp ms ks rs else Zbf 2 0 (Zb8 (decide (1≤(ks.length:Int))) (decide ((ks.length:Int)≤8))))=dA ms ks rs:=by
 unfold dA
 by_cases h:ks.length=0
 ·rw[if_pos h,decide_eq_false (by omega:¬(1:Int)≤(ks.length:Int))];rfl
 ·rw[if_neg h,decide_eq_true (by omega:(1:Int)≤(ks.length:Int))]
  by_cases h2:8<ks.length
  ·rw[if_pos h2,decide_eq_false (by omega:¬(ks.length:Int)≤8)];rfl
  ·rw[if_neg h2,decide_eq_true (by omega:(ks.length:Int)≤8)];rfl
theorem Zjm(ms ks rs:List AV):ZdM ms ks rs=if ms.length=0 then Zbf 1 0 10 else if 6<ms.length then Zbf 1 0 8 else ZqL ms ks rs:=by
 unfold ZdM
 by_cases h:ms.length=0
 ·rw[if_pos h,decide_eq_false (by omega:¬(1:Int)≤(ms.length:Int))];rfl
 ·rw[if_neg h,decide_eq_true (by omega:(1:Int)≤(ms.length:Int))]
  by_cases h2:6<ms.length
  ·rw[if_pos h2,decide_eq_false (by omega:¬(ms.length:Int)≤6)];rfl
  ·rw[if_neg h2,decide_eq_true (by omega:(ms.length:Int)≤6)];rfl
section
variable {C:Ctx}(hC:C.P=Tryz.prog)(ms ks rs:List AV)(hs:Zax ms ks rs=true)
include hC hs
theorem ZxN:Ev C (ZcJ ms ks rs) (Zch ms ks rs) (ZbT 119 (Zpz ms ks rs) none):=Zw4 hC ms ks rs hs _ rfl
theorem Zza:∀(m k:Nat) (xs:List AV),k+m=ks.length→xs.length≤k→Ev C (Zea ms ks rs k xs) (Zdo ms ks rs k xs)
 (ZbT 119 (Zbs 2 (Zbc (fun k=>Zaw ks k) (fun k=>Zcx ks k ms.length) m k xs) (dB ms ks rs)) none)
 |0,k,xs,hk,hx=>by
  refine tgo hC Zd2 ZfA ?_
  by_cases h:10<rs.length
  ·simp[Zcl,show ¬(k:Int)<ks.length by omega,Zbc,Zbs,dB,h,show(10:Int)<rs.length by omega,Zbf]
  ·simp[Zcl,show ¬(k:Int)<ks.length by omega,Zbc,Zbs,dB,h,show ¬(10:Int)<rs.length by omega]
   exact ZxN hC ms ks rs hs
 |m+1,k,xs,hk,hx=>by
  have hs':=hs
  simp only[Zax,Bool.and_eq_true,decide_eq_true_eq]at hs'
  have hn:=Zb0 hs'.1.1.2 (show k<ks.length by omega)
  have hlt:(k:Int)<ks.length:=by omega
  have hlt2:k<ks.length:=by omega
  have e0:((ks.getD k .top).cellAt 0).toS=Zaw ks k:=rfl
  have e1:((ks.getD k .top).cellAt 1).toI=Zal ks k 1:=rfl
  have ih:=Zza m (k+1) (xs++[.str (Zaw ks k)]) (by omega) (by simp;omega)
  obtain⟨V,hV⟩:∃V,V=Zbs 2 (Zbc (fun k=>Zaw ks k) (fun k=>Zcx ks k ms.length) (m+1) k xs) (dB ms ks rs):=⟨_,rfl⟩
  rw[←hV]
  rw[Ze9,Zel,ZlP]at hV
  refine tgo hC Zd2 ZfA ?_
  simp[-List.getD_eq_getElem?_getD,Zcl,e0,e1,hlt,hlt2,hn,AV.bx,Zah]
  clear e0 e1 hs
  replace hs':=hs'.2
  generalize Zaw ks k=nm at*
  generalize Zal ks k 1=f1 at*
  repeat' (first |split |apply And.intro)
  all_goals first |omega |skip
  all_goals (clear hs';simp_all[Zbf])
theorem ZBS:∀m:Nat,m=ks.length→Ev C (ZcO ms ks rs) (Zcm ms ks rs)
 (ZbT 119 (Zbs 2 (Zbc (fun k=>Zaw ks k) (fun k=>Zcx ks k ms.length) m 0 []) (dB ms ks rs)) none)
 |0,hk=>by
  refine tgo hC Zd2 ZfV ?_
  by_cases h:10<rs.length
  ·simp[Zcp,←hk,Zbc,Zbs,dB,h,show(10:Int)<rs.length by omega,Zbf]
  ·simp[Zcp,←hk,Zbc,Zbs,dB,h,show ¬(10:Int)<rs.length by omega]
   exact ZxN hC ms ks rs hs
 |m+1,hk=>by
  have hs':=hs
  simp only[Zax,Bool.and_eq_true,decide_eq_true_eq]at hs'
  have hn:=Zb0 hs'.1.1.2 (show 0<ks.length by omega)
  have hlt:(0:Int)<ks.length:=by omega
  have hlt2:0<ks.length:=by omega
  have e0:((ks.getD 0 .top).cellAt 0).toS=Zaw ks 0:=rfl
  have e1:((ks.getD 0 .top).cellAt 1).toI=Zal ks 0 1:=rfl
  have ih:=Zza hC ms ks rs hs m 1 [.str (Zaw ks 0)] (by omega) (by simp)
  obtain⟨V,hV⟩:∃V,V=Zbs 2 (Zbc (fun k=>Zaw ks k) (fun k=>Zcx ks k ms.length) (m+1) 0 []) (dB ms ks rs):=⟨_,rfl⟩
  rw[←hV]
  rw[Ze9,Zel,ZlP]at hV
  refine tgo hC Zd2 ZfV ?_
  simp[-List.getD_eq_getElem?_getD,Zcp,e0,e1,hlt,hlt2,hn,AV.bx,Zah]
  clear e0 e1 hs
  replace hs':=hs'.2
  generalize Zaw ks 0=nm at*
  generalize Zal ks 0 1=f1 at*
  repeat' (first |split |apply And.intro)
  all_goals first |omega |skip
  all_goals (clear hs';simp_all[Zbf,Zhg])
theorem ZCp:Ev C (ZcO ms ks rs) (Zcm ms ks rs) (ZbT 119 (Zmp ms ks rs) none):=by
 have:=ZBS hC ms ks rs hs _ rfl
 rw[←ZxW]at this
 exact this
theorem Zx4:∀(m k:Nat) (xs:List AV),k+m=ms.length→xs.map AV.toS=(ms.take k).map AV.toS→Ev C (ZdT ms ks rs k) (Zdq ms ks rs k)
 (ZbT 119 (Zbs 1 (Zbc (fun k=>Za3 ms k) (fun _=>0) m k xs) (dA ms ks rs)) none)
 |0,k,xs,hk,hx=>by
  refine tgo hC Zd2 ZfG ?_
  by_cases h0:ks.length=0
  ·simp[ZbP,show ¬(k:Int)<ms.length by omega,Zbc,Zbs,dA,h0,Zbf]
  ·by_cases h:8<ks.length
   ·simp[ZbP,show ¬(k:Int)<ms.length by omega,Zbc,Zbs,dA,h0,h,show(8:Int)<ks.length by omega,Zbf]
   ·simp[ZbP,show ¬(k:Int)<ms.length by omega,Zbc,Zbs,dA,h0,h,show ¬(8:Int)<ks.length by omega]
    exact ZCp hC ms ks rs hs
 |m+1,k,xs,hk,hx=>by
  have hs':=hs
  simp only[Zax,Bool.and_eq_true,decide_eq_true_eq]at hs'
  have hn:=Zh4 hs'.1.1.1 (show k<ms.length by omega)
  have hlt:(k:Int)<ms.length:=by omega
  have hlt2:k<ms.length:=by omega
  have e0:(ms.getD k .top).toS=Za3 ms k:=rfl
  have ih:=Zx4 m (k+1) (xs++[.str (Za3 ms k)]) (by omega) (by
   rw[List.map_append,hx,List.take_succ_eq_append_getElem hlt2,List.map_append]
   congr 1
   simp[Za3,AV.toS,hlt2])
  have hh:Zhg (ms.take k) (Za3 ms k)=Zhg xs (Za3 ms k):=Zp0 hx.symm
  obtain⟨V,hV⟩:∃V,V=Zbs 1 (Zbc (fun k=>Za3 ms k) (fun _=>0) (m+1) k xs) (dA ms ks rs):=⟨_,rfl⟩
  rw[←hV]
  rw[Ze9,Zel]at hV
  refine tgo hC Zd2 ZfG ?_
  simp[-List.getD_eq_getElem?_getD,ZbP,e0,hlt,hlt2,hn,hh]
  clear e0 hs hx hh
  replace hs':=hs'.2
  generalize Za3 ms k=nm at*
  repeat' (first |split |apply And.intro)
  all_goals first |omega |skip
  all_goals (clear hs';simp_all[Zbf])
end
theorem Zp6(ms ks rs:List AV)(hs:Zax ms ks rs=true):Zan Tryz.prog 119 [.agg (.gen [.list (.big .str ms), .list (.big (.agg [.str, .int .i64]) ks), .list (.big (.agg [.str, .int .i64, .int .i64, .int .i64, .int .i64]) rs)])] (.tup [.agg (.gen [.int .i64 (Zjg ms ks rs), .int .i64 (ZjT ms ks rs)]), .int .i64 (ZaA ms ks rs)]) none:=by
 rw[show AV.tup [.agg (.gen [.int .i64 (Zjg ms ks rs), .int .i64 (ZjT ms ks rs)]), .int .i64 (ZaA ms ks rs)]=ZdM ms ks rs from(ZjZ ms ks rs).eq.symm]
 refine start (Zqm ms ks rs) fun C hC=>tgo hC Zd2 ZBN ?_
 rw[Zjm]
 by_cases h0:ms.length=0
 ·simp[Zlq,h0,Zbf]
 ·by_cases h:6<ms.length
  ·simp[Zlq,h0,h,show(6:Int)<ms.length by omega,Zbf]
  ·simp[Zlq,h0,h,show ¬(6:Int)<ms.length by omega]
   have:=Zx4 hC ms ks rs hs ms.length 0 [] (by omega) (by simp)
   rw[ZqL,ZxU]
   exact this
end Go.Proofs.YtkeoeooghhjibaaGreatDoor
/- ForbiddenBy of both packages. No condition. -/
namespace Go.Proofs.YtkeoeooghhjibaaGreatDoor
def ZjO(rs:List AV)(a b:Int)(xs:List Int)(k:Int)(i:Nat):Bool:=decide (Zal rs i 1=k∧(Zal rs i 2= -1∨Zal rs i 2=a)∧(Zal rs i 3= -1∨(xs.getD (Zal rs i 3).toNat 0≠ -1∧b-xs.getD (Zal rs i 3).toNat 0<Zal rs i 4)))
def ZeO(rs:List AV)(a b:Int)(xs:List Int)(k:Int):Nat→Nat→List UInt8
 |0,_=>[]
 |m+1,i=>if ZjO rs a b xs k i=true then Zaw rs i else ZeO rs a b xs k m (i+1)
def ZbR(rs:List AV)(b:Int)(xs:List Int):Bool:=((List.range rs.length).all fun i=>decide (-1≤Zal rs i 3∧Zal rs i 3<xs.length))&&(xs.all fun x=>decide (-1≤x∧x≤b))&&decide (0≤b∧b≤1000000000000∧rs.length≤1000000)
theorem ZlC{rs:List AV}{b:Int}{xs:List Int}(h:ZbR rs b xs=true){k:Nat}(hk:k<rs.length):(-1≤Zal rs k 3∧Zal rs k 3<xs.length)∧(Zal rs k 3≠ -1→ -1≤xs.getD (Zal rs k 3).toNat 0∧xs.getD (Zal rs k 3).toNat 0≤b)∧0≤b∧b≤1000000000000∧rs.length≤1000000:=by
 simp only[ZbR,Bool.and_eq_true,List.all_eq_true,decide_eq_true_eq,List.mem_range]at h
 obtain⟨⟨h1,h2⟩,h3⟩:=h
 refine⟨h1 k hk,fun h4=>?_,h3⟩
 have h5:=h1 k hk
 have h6:(Zal rs k 3).toNat<xs.length:=by omega
 refine h2 _ ?_
 rw[List.getD_eq_getElem?_getD,List.getElem?_eq_getElem h6];exact List.getElem_mem h6
theorem ZjF{C:Ctx}(hC:C.P=Tryz.prog)(ms ks rs:List AV)(a b:Int)(xs:List Int)(q:Int)(hg:ZbR rs b xs=true):∀m k:Nat,k+m=rs.length→Ev C (Zew ms ks rs a b xs q k) (Zds ms ks rs a b xs q k) (ZbT 86 (.str (ZeO rs a b xs q m k)) none)
 |0,k,hk=>tgo hC Zd2 Zhy (by simp[Zfj,show ¬(k:Int)<rs.length by omega];rfl)
 |m+1,k,hk=>by
  have hlt:(k:Int)<rs.length:=by omega
  have hlt2:k<rs.length:=by omega
  have e0:((rs.getD k .top).cellAt 0).toS=Zaw rs k:=rfl
  have e1:((rs.getD k .top).cellAt 1).toI=Zal rs k 1:=rfl
  have e2:((rs.getD k .top).cellAt 2).toI=Zal rs k 2:=rfl
  have e3:((rs.getD k .top).cellAt 3).toI=Zal rs k 3:=rfl
  have e4:((rs.getD k .top).cellAt 4).toI=Zal rs k 4:=rfl
  have ih:=ZjF hC ms ks rs a b xs q hg m (k+1) (by omega)
  refine tgo hC Zd2 Zhy ?_
  simp[-List.getD_eq_getElem?_getD,Zfj,e0,e1,e2,e3,e4,hlt,hlt2]
  obtain⟨V,hV⟩:∃V,V=ZeO rs a b xs q (m+1) k:=⟨_,rfl⟩
  rw[←hV]
  simp only[ZeO,ZjO,decide_eq_true_eq]at hV
  have g:=ZlC hg hlt2
  clear e0 e1 e2 e3 e4 hg
  generalize Zaw rs k=nm at*
  generalize Zal rs k 1=f1 at*
  generalize Zal rs k 2=f2 at*
  generalize Zal rs k 3=f3 at*
  generalize Zal rs k 4=f4 at*
  generalize xs.getD f3.toNat 0=t at*
  have r3: -9223372036854775808≤(k:Int)+1∧(k:Int)+1≤9223372036854775807:=by omega
  have r1:f3≠ -1→(0≤f3∧f3.toNat<xs.length)∧(-9223372036854775808≤b-t∧b-t≤9223372036854775807):=by omega
  have ih':Ev C (Zew ms ks rs a b xs q (k+1)) (Zds ms ks rs a b xs q (k+1)) (ZbT 86 (.str (ZeO rs a b xs q m (k+1))) none):=ih
  clear hk hlt hlt2 g ih
  by_cases h1:f1=q<;>by_cases h2:f2= -1<;>by_cases h3:f2=a<;>by_cases h4:f3= -1<;>by_cases h5:t= -1<;>by_cases h6:b-t<f4<;>simp_all<;>(intro h7;omega)
theorem Zpy(ms ks rs:List AV)(a b:Int)(xs:List Int)(q:Int)(hg:ZbR rs b xs=true):Zan Tryz.prog 86 [.agg (.gen [.list (.big .str ms), .list (.big (.agg [.str, .int .i64]) ks), .list (.big (.agg [.str, .int .i64, .int .i64, .int .i64, .int .i64]) rs)]), .agg (.gen [.int .i64 a, .int .i64 b, .list (.ints .i64 xs)]), .int .i64 q] (.str (ZeO rs a b xs q rs.length 0)) none:=
 start (Zvq ms ks rs a b xs q) fun C hC=>tgo hC Zd2 ZDh (ZjF hC ms ks rs a b xs q hg rs.length 0 (by omega))
theorem firstE_zero:∀ {l:List Int},Zai l=0↔∀x∈l,x=0
 |[]=>by simp[Zai]
 |x::l=>by
  have ih:=firstE_zero (l:=l)
  by_cases h:x=0
  ·simp[Zai,h,ih]
  ·simp[Zai,h]
theorem Zbn{b:Bool}{e:Int}(h:Zaa b e=0)(he:e≠0):b=true:=by
 cases b
 ·exact absurd h he
 ·rfl
theorem ZiB{nm:Nat→List UInt8}{ex:Nat→Int}{p:Int}{d:AV} :∀(m k:Nat) (xs:List AV),mE (Zbs p (Zbc nm ex m k xs) d)=0→mE d=0∧∀i,k≤i→i<k+m→ZaQ (nm i)=true∧ex i=0
 |0,k,xs,h=>⟨h,fun i h1 h2=>by omega⟩
 |m+1,k,xs,h=>by
  rw[Ze9]at h
  split at h
  ·rename_i hs
   obtain⟨h1,h2⟩:=ZiB m (k+1) _ h
   refine⟨h1,fun i h3 h4=>?_⟩
   by_cases hi:i=k
   ·subst hi
    obtain⟨g1,_,g3⟩:=ZrS hs
    exact⟨Zbn g1 (by decide),g3⟩
   ·exact h2 i (by omega) (by omega)
  ·rename_i hs
   exact absurd h hs
theorem Znh{ms ks rs:List AV}(h:ZaA ms ks rs=0):(1≤ms.length∧ms.length≤6)∧(1≤ks.length∧ks.length≤8)∧rs.length≤10∧(∀i<ms.length,ZaQ (Za3 ms i)=true)∧(∀i<ks.length,ZaQ (Zaw ks i)=true∧Zcx ks i ms.length=0)∧(∀i<rs.length,ZaQ (Zaw rs i)=true∧ZbJ rs i ks.length ms.length=0):=by
 unfold ZaA at h
 rw[Zjm]at h
 split at h
 ·cases h
 ·split at h
  ·cases h
  ·rw[ZqL,ZxU]at h
   obtain⟨h1,h2⟩:=ZiB _ _ _ h
   unfold dA at h1
   split at h1
   ·cases h1
   ·split at h1
    ·cases h1
    ·rw[Zmp,ZxW]at h1
     obtain⟨h3,h4⟩:=ZiB _ _ _ h1
     unfold dB at h3
     split at h3
     ·cases h3
     ·obtain⟨_,h5⟩:=ZiB _ _ _ h3
      exact⟨by omega,by omega,by omega,fun i hi=>(h2 i (by omega) (by omega)).1,fun i hi=>h4 i (by omega) (by omega),fun i hi=>h5 i (by omega) (by omega)⟩
theorem within_iff{n a b:Int} :Zab n a b=true↔a≤n∧n≤b:=by simp[Zab]
theorem Zgi{rs:List AV}{i n m:Nat}(h:ZbJ rs i n m=0):(0≤Zal rs i 1∧Zal rs i 1<n)∧(-1≤Zal rs i 2∧Zal rs i 2<m)∧(-1≤Zal rs i 3∧Zal rs i 3<n)∧(1≤Zal rs i 4∧Zal rs i 4≤1000000)∧(Zal rs i 3= -1→Zal rs i 4=1):=by
 rw[Zi2]at h
 simp only[within_iff]at h
 split at h
 ·split at h
  ·split at h
   ·cases h
   ·rename_i h1 h2 h3
    exact⟨by omega,by omega,by omega,by omega,fun h4=>by simpa[h4]using h3⟩
  ·cases h
 ·cases h
end Go.Proofs.YtkeoeooghhjibaaGreatDoor
/- Contracts as a list. No condition. -/
namespace Go.Proofs.YtkeoeooghhjibaaGreatDoor
def k119:Ctr:=⟨119,0,fun _ a=>match a with |[.agg (.gen [.list (.big .str ms), .list (.big (.agg [.str, .int .i64]) ks), .list (.big (.agg [.str, .int .i64, .int .i64, .int .i64, .int .i64]) rs)])]=>some (decide (Zax ms ks rs=true), .tup [.agg (.gen [.int .i64 (Zjg ms ks rs), .int .i64 (ZjT ms ks rs)]), .int .i64 (ZaA ms ks rs)],none) |_=>none⟩
theorem Zvk:k119.OK Tryz.prog:=fun pa args r fr h=>by
 simp only[k119]at h
 split at h
 ·simp only[Option.some.injEq,Prod.mk.injEq,decide_eq_true_eq]at h
  obtain⟨h0,rfl,rfl⟩:=h
  exact Zp6 _ _ _ h0
 ·cases h
def k86:Ctr:=⟨86,0,fun _ a=>match a with |[.agg (.gen [.list (.big .str _), .list (.big (.agg [.str, .int .i64]) _), .list (.big (.agg [.str, .int .i64, .int .i64, .int .i64, .int .i64]) rs)]), .agg (.gen [.int .i64 a, .int .i64 b, .list (.ints .i64 xs)]), .int .i64 q]=>some (decide (ZbR rs b xs=true), .str (ZeO rs a b xs q rs.length 0),none) |_=>none⟩
theorem ZA0:k86.OK Tryz.prog:=fun pa args r fr h=>by
 simp only[k86]at h
 split at h
 ·simp only[Option.some.injEq,Prod.mk.injEq,decide_eq_true_eq]at h
  obtain⟨h0,rfl,rfl⟩:=h
  exact Zpy _ _ _ _ _ _ _ h0
 ·cases h
def B7:List Ctr:=[k119,k86]++B6
theorem Zy7:ZaI Tryz.prog B7:=⟨Zvk,⟨ZA0,Zd2⟩⟩
end Go.Proofs.YtkeoeooghhjibaaGreatDoor
/- Paths of functions, printed by the explorer (Gx). No condition. -/
namespace Go.Proofs.YtkeoeooghhjibaaGreatDoor
set_option maxRecDepth 100000
set_option linter.unusedVariables false
def ZAT(ms ks rs:List AV):AFrame:={ fn:=65,N:=11,env:=[(0,AV.agg (Row.gen [.list (Row.big .str ms), .list (Row.big (.agg [.str, .int .i64]) ks), .list (Row.big (.agg [.str, .int .i64, .int .i64, .int .i64, .int .i64]) rs)]))],todo:=[.code a65.code],defs:=[],rnd:=none,ret:=false,res:=[ARes.tmp 2] }
def ZHa(ms ks rs:List AV):List AFrame:=[(ZAT ms ks rs)]
theorem Zwn(ms ks rs:List AV):Zaq tab 65 [AV.agg (Row.gen [.list (Row.big .str ms), .list (Row.big (.agg [.str, .int .i64]) ks), .list (Row.big (.agg [.str, .int .i64, .int .i64, .int .i64, .int .i64]) rs)])]=some (ZAT ms ks rs):=rfl
def Zyw(A:Ar)(K:KT)(F:FT)(ms ks rs:List AV):Prop:=rB [decide (Zax ms ks rs=true)] (F (AV.int .i64 (ZaA ms ks rs)) (none))
theorem ZDK{A:Ar}{K:KT}{F:FT}{M:MT}{ms ks rs:List AV} :ZaD A tab B7 65 K F M (.run 23 (.fn)) (ZHa ms ks rs) []=Zyw A K F ms ks rs:=by kernel_rfl
end Go.Proofs.YtkeoeooghhjibaaGreatDoor
/- Contracts as a list. No condition. -/
namespace Go.Proofs.YtkeoeooghhjibaaGreatDoor
theorem ZqW(ms ks rs:List AV)(h:Zax ms ks rs=true):Zan Tryz.prog 65 [.agg (.gen [.list (.big .str ms), .list (.big (.agg [.str, .int .i64]) ks), .list (.big (.agg [.str, .int .i64, .int .i64, .int .i64, .int .i64]) rs)])] (.int .i64 (ZaA ms ks rs)) none:=
 start (Zwn ms ks rs) fun C hC=>tgo hC Zy7 ZDK (by simp[Zyw,h])
def pI:AV→Int
 | .tup [.int _ i,_]=>i
 |_=>0
def pE:AV→Int
 | .tup [_, .int _ e]=>e
 |_=>0
def isP(v:AV):Prop:=∃i e,v=Zli i e
theorem isP.eq{v:AV}(h:isP v):v=Zli (pI v) (pE v):=by
 obtain⟨i,e,rfl⟩:=h
 rfl
theorem ZjB{f:Nat→Int} :∀m k,isP (Zfp f m k)
 |0,_=>⟨_,_,rfl⟩
 |m+1,k=>by
  unfold Zfp
  split
  ·exact ZjB m (k+1)
  ·exact⟨_,_,rfl⟩
theorem Zrt(e n:Int)(l:List AV):isP (ZeC e n l):=by
 unfold ZeC
 split
 ·exact ZjB _ _
 ·exact⟨_,_,rfl⟩
def Zkt(e n:Int)(l:List AV):Int:=pI (ZeC e n l)
def ZbL(e n:Int)(l:List AV):Int:=pE (ZeC e n l)
theorem ZnG(e n:Int)(l:List AV):ZeC e n l=.tup [.int .i64 (Zkt e n l), .int .i64 (ZbL e n l)]:=(Zrt e n l).eq
theorem ZlB{e n:Int}{l:List AV}(h:e≠0):Zkt e n l=0∧ZbL e n l=e:=by
 have:ZfY e l=e:=by simp[ZfY,Zai,h]
 simp[Zkt,ZbL,ZeC,this,h,Zli,pI,pE]
theorem ZoR(ms ks rs l:List AV)(hs:Zax ms ks rs=true∧l.length≤1000000):Zan Tryz.prog 71 [.agg (.gen [.list (.big .str ms), .list (.big (.agg [.str, .int .i64]) ks), .list (.big (.agg [.str, .int .i64, .int .i64, .int .i64, .int .i64]) rs)]), .list (.big (.agg [.int .i64, .int .i64, .int .i64]) l)] (.tup [.int .i64 (Zkt (ZaA ms ks rs) ks.length l), .int .i64 (ZbL (ZaA ms ks rs) ks.length l)]) none:=by
 rw[←ZnG]
 exact Zq2 ms ks rs l hs.1 hs.2
theorem Znn(ms ks rs l:List AV)(hs:ks.length≤1000000∧l.length≤1000000):Zan Tryz.prog 76 [.agg (.gen [.list (.big .str ms), .list (.big (.agg [.str, .int .i64]) ks), .list (.big (.agg [.str, .int .i64, .int .i64, .int .i64, .int .i64]) rs)]), .list (.big (.agg [.int .i64, .int .i64, .int .i64]) l)] (.tup [.int .i64 (Zkt 0 ks.length l), .int .i64 (ZbL 0 ks.length l)]) none:=by
 rw[←ZnG]
 exact Zpp ms ks rs l hs.1 hs.2
def k65:Ctr:=⟨65,0,fun _ a=>match a with |[.agg (.gen [.list (.big .str ms), .list (.big (.agg [.str, .int .i64]) ks), .list (.big (.agg [.str, .int .i64, .int .i64, .int .i64, .int .i64]) rs)])]=>some (decide (Zax ms ks rs=true), .int .i64 (ZaA ms ks rs),none) |_=>none⟩
theorem ZAi:k65.OK Tryz.prog:=fun pa args r fr h=>by
 simp only[k65]at h
 split at h
 ·simp only[Option.some.injEq,Prod.mk.injEq,decide_eq_true_eq]at h
  obtain⟨h0,rfl,rfl⟩:=h
  exact ZqW _ _ _ h0
 ·cases h
def k71:Ctr:=⟨71,0,fun _ a=>match a with |[.agg (.gen [.list (.big .str ms), .list (.big (.agg [.str, .int .i64]) ks), .list (.big (.agg [.str, .int .i64, .int .i64, .int .i64, .int .i64]) rs)]), .list (.big (.agg [.int .i64, .int .i64, .int .i64]) l)]=>some (decide (Zax ms ks rs=true∧l.length≤1000000), .tup [.int .i64 (Zkt (ZaA ms ks rs) ks.length l), .int .i64 (ZbL (ZaA ms ks rs) ks.length l)],none) |_=>none⟩
theorem ZBP:k71.OK Tryz.prog:=fun pa args r fr h=>by
 simp only[k71]at h
 split at h
 ·simp only[Option.some.injEq,Prod.mk.injEq,decide_eq_true_eq]at h
  obtain⟨h0,rfl,rfl⟩:=h
  exact ZoR _ _ _ _ h0
 ·cases h
def k76:Ctr:=⟨76,0,fun _ a=>match a with |[.agg (.gen [.list (.big .str _), .list (.big (.agg [.str, .int .i64]) ks), .list (.big (.agg [.str, .int .i64, .int .i64, .int .i64, .int .i64]) _)]), .list (.big (.agg [.int .i64, .int .i64, .int .i64]) l)]=>some (decide (ks.length≤1000000∧l.length≤1000000), .tup [.int .i64 (Zkt 0 ks.length l), .int .i64 (ZbL 0 ks.length l)],none) |_=>none⟩
theorem ZyB:k76.OK Tryz.prog:=fun pa args r fr h=>by
 simp only[k76]at h
 split at h
 ·simp only[Option.some.injEq,Prod.mk.injEq,decide_eq_true_eq]at h
  obtain⟨h0,rfl,rfl⟩:=h
  exact Znn _ _ _ _ h0
 ·cases h
def k13:Ctr:=⟨13,0,fun _ a=>match a with |[]=>some (true, .bool true,none) |_=>none⟩
theorem Zzt:k13.OK Tryz.prog:=fun pa args r fr h=>by
 simp only[k13]at h
 split at h
 ·cases h
  exact awake_ok
 ·cases h
def B8:List Ctr:=[k65,k71,k76,k13]++B7
theorem ZbU:ZaI Tryz.prog B8:=⟨ZAi,⟨ZBP,⟨ZyB,⟨Zzt,Zy7⟩⟩⟩⟩
end Go.Proofs.YtkeoeooghhjibaaGreatDoor
/- Paths of functions, printed by the explorer (Gx). No condition. -/
namespace Go.Proofs.YtkeoeooghhjibaaGreatDoor
set_option maxRecDepth 100000
set_option linter.unusedVariables false
def ZxE(ms ks rs l:List AV):AFrame:={ fn:=28,N:=20,env:=[(0,AV.agg (Row.gen [.list (Row.big .str ms), .list (Row.big (.agg [.str, .int .i64]) ks), .list (Row.big (.agg [.str, .int .i64, .int .i64, .int .i64, .int .i64]) rs)])),(1,AV.list (Row.big (.agg [.int .i64, .int .i64, .int .i64]) l))],todo:=[.code a28.code],defs:=[],rnd:=none,ret:=false,res:=[ARes.tmp 4] }
def ZHS(ms ks rs l:List AV):List AFrame:=[(ZxE ms ks rs l)]
theorem ZsZ(ms ks rs l:List AV):Zaq tab 28 [AV.agg (Row.gen [.list (Row.big .str ms), .list (Row.big (.agg [.str, .int .i64]) ks), .list (Row.big (.agg [.str, .int .i64, .int .i64, .int .i64, .int .i64]) rs)]),AV.list (Row.big (.agg [.int .i64, .int .i64, .int .i64]) l)]=some (ZxE ms ks rs l):=rfl
def Zx9(A:Ar)(K:KT)(F:FT)(ms ks rs l:List AV):Prop:=rB [decide (Zax ms ks rs=true)] (bB (A.not (A.eq (ZaA ms ks rs) 0)) (F (AV.int .i64 (ZaA ms ks rs)) (none)) (rB [decide (List.length ks≤1000000∧List.length l≤1000000)] (F (AV.int .i64 (ZbL 0 (↑(List.length ks)) l)) (none))))
theorem ZDR{A:Ar}{K:KT}{F:FT}{M:MT}{ms ks rs l:List AV} :ZaD A tab B8 28 K F M (.run 17 (.tf (.run 6 (.fn)) (.run 19 (.fn)))) (ZHS ms ks rs l) []=Zx9 A K F ms ks rs l:=by kernel_rfl
def ZA7(ms ks rs l:List AV)(wn fl:Int):AFrame:={ fn:=19,N:=22,env:=[(0,AV.agg (Row.gen [.list (Row.big .str ms), .list (Row.big (.agg [.str, .int .i64]) ks), .list (Row.big (.agg [.str, .int .i64, .int .i64, .int .i64, .int .i64]) rs), .list (Row.big (.agg [.int .i64, .int .i64, .int .i64]) l), .int .i64 wn, .int .i64 fl]))],todo:=[.code a19.code],defs:=[],rnd:=none,ret:=false,res:=[ARes.tmp 2] }
def ZIy(ms ks rs l:List AV)(wn fl:Int):List AFrame:=[(ZA7 ms ks rs l wn fl)]
theorem ZvI(ms ks rs l:List AV)(wn fl:Int):Zaq tab 19 [AV.agg (Row.gen [.list (Row.big .str ms), .list (Row.big (.agg [.str, .int .i64]) ks), .list (Row.big (.agg [.str, .int .i64, .int .i64, .int .i64, .int .i64]) rs), .list (Row.big (.agg [.int .i64, .int .i64, .int .i64]) l), .int .i64 wn, .int .i64 fl])]=some (ZA7 ms ks rs l wn fl):=rfl
def Zuf(A:Ar)(K:KT)(F:FT)(ms ks rs l:List AV)(wn fl:Int):Prop:=rB [decide (Zax ms ks rs=true)] (bB (A.not (A.eq (ZaA ms ks rs) 0)) (rB [A.not (A.eq (ZaA ms ks rs) 0)] (F (AV.int .i64 (ZaA ms ks rs)) (none))) (rB [decide (List.length ks≤1000000∧List.length l≤1000000)] (bB (A.not (A.eq (ZbL 0 (↑(List.length ks)) l) 0)) (F (AV.int .i64 (ZbL 0 (↑(List.length ks)) l)) (none)) (bB (A.not (Zab wn 1 6)) (F (AV.int .i64 2) (none)) (bB (A.not (Zab fl 1 6)) (F (AV.int .i64 2) (none)) (F (AV.int .i64 0) (none)))))))
theorem ZCC{A:Ar}{K:KT}{F:FT}{M:MT}{ms ks rs l:List AV}{wn fl:Int} :ZaD A tab B8 19 K F M (.run 30 (.tf (.run 14 (.ty (.run 6 (.fn)))) (.run 27 (.tf (.run 6 (.fn)) (.run 9 (.tf (.ty (.ty (.ty (.ty (.run 2 (.ty (.run 5 (.fn)))))))) (.fy (.fy (.fy (.fy (.run 2 (.tf (.run 5 (.fn)) (.run 6 (.fn)))))))))))))) (ZIy ms ks rs l wn fl) []=Zuf A K F ms ks rs l wn fl:=by kernel_rfl
def ZAN(ms ks rs l:List AV)(wn fl:Int):AFrame:={ fn:=36,N:=25,env:=[(0,AV.agg (Row.gen [.list (Row.big .str ms), .list (Row.big (.agg [.str, .int .i64]) ks), .list (Row.big (.agg [.str, .int .i64, .int .i64, .int .i64, .int .i64]) rs), .list (Row.big (.agg [.int .i64, .int .i64, .int .i64]) l), .int .i64 wn, .int .i64 fl]))],todo:=[.code a36.code],defs:=[],rnd:=none,ret:=false,res:=[ARes.tmp 2] }
def ZFT(ms ks rs l:List AV)(wn fl:Int):List AFrame:=[(ZAN ms ks rs l wn fl)]
theorem ZwI(ms ks rs l:List AV)(wn fl:Int):Zaq tab 36 [AV.agg (Row.gen [.list (Row.big .str ms), .list (Row.big (.agg [.str, .int .i64]) ks), .list (Row.big (.agg [.str, .int .i64, .int .i64, .int .i64, .int .i64]) rs), .list (Row.big (.agg [.int .i64, .int .i64, .int .i64]) l), .int .i64 wn, .int .i64 fl])]=some (ZAN ms ks rs l wn fl):=rfl
def ZAB(A:Ar)(K:KT)(F:FT)(ms ks rs l:List AV)(wn fl:Int):Prop:=rB [decide (Zax ms ks rs=true∧List.length l≤1000000)] (bB (Zab wn 1 6) (rB [decide (List.length [ZbL (ZaA ms ks rs) (↑(List.length ks)) l,Zaa (Zab fl 1 6) 2]≤1000000),List.all [AV.int .i64 (ZbL (ZaA ms ks rs) (↑(List.length ks)) l),AV.int .i64 (Zaa (Zab fl 1 6) 2)] fun x=>AV.bx x&&Nat.beq (Zah A x) 1] (F (AV.int .i64 (Zai [ZbL (ZaA ms ks rs) (↑(List.length ks)) l,Zaa (Zab fl 1 6) 2])) (none))) (rB [decide (List.length [ZbL (ZaA ms ks rs) (↑(List.length ks)) l,2]≤1000000),List.all [AV.int .i64 (ZbL (ZaA ms ks rs) (↑(List.length ks)) l),AV.int .i64 2] fun x=>AV.bx x&&Nat.beq (Zah A x) 1] (F (AV.int .i64 (Zai [ZbL (ZaA ms ks rs) (↑(List.length ks)) l,2])) (none))))
theorem ZDd{A:Ar}{K:KT}{F:FT}{M:MT}{ms ks rs l:List AV}{wn fl:Int} :ZaD A tab B8 36 K F M (.run 26 (.tf (.ty (.ty (.ty (.run 7 (.fn))))) (.fy (.fy (.fy (.run 7 (.fn))))))) (ZFT ms ks rs l wn fl) []=ZAB A K F ms ks rs l wn fl:=by kernel_rfl
def ZBr(ms ks rs l:List AV)(wn fl:Int):AFrame:={ fn:=33,N:=7,env:=[(0,AV.agg (Row.gen [.list (Row.big .str ms), .list (Row.big (.agg [.str, .int .i64]) ks), .list (Row.big (.agg [.str, .int .i64, .int .i64, .int .i64, .int .i64]) rs), .list (Row.big (.agg [.int .i64, .int .i64, .int .i64]) l), .int .i64 wn, .int .i64 fl]))],todo:=[.code a33.code],defs:=[],rnd:=none,ret:=false,res:=[ARes.cell 2 true 8,ARes.tmp 3] }
def ZG7(ms ks rs l:List AV)(wn fl:Int):List AFrame:=[(ZBr ms ks rs l wn fl)]
theorem ZuK(ms ks rs l:List AV)(wn fl:Int):Zaq tab 33 [AV.agg (Row.gen [.list (Row.big .str ms), .list (Row.big (.agg [.str, .int .i64]) ks), .list (Row.big (.agg [.str, .int .i64, .int .i64, .int .i64, .int .i64]) rs), .list (Row.big (.agg [.int .i64, .int .i64, .int .i64]) l), .int .i64 wn, .int .i64 fl])]=some (ZBr ms ks rs l wn fl):=rfl
def Zw7(A:Ar)(K:KT)(F:FT)(ms ks rs l:List AV)(wn fl:Int):Prop:=rB [decide (Zax ms ks rs=true∧List.length l≤1000000)] (bB (Zab wn 1 6) (rB [decide (List.length [ZbL (ZaA ms ks rs) (↑(List.length ks)) l,Zaa (Zab fl 1 6) 2]≤1000000),List.all [AV.int .i64 (ZbL (ZaA ms ks rs) (↑(List.length ks)) l),AV.int .i64 (Zaa (Zab fl 1 6) 2)] fun x=>AV.bx x&&Nat.beq (Zah A x) 1] (F (AV.tup [AV.agg (Row.gen [.int .i64 0, .int .i64 0,AV.nils, .bool false, .int .i64 0, .bool false,AV.nils,AV.nils]),AV.int .i64 (Zai [ZbL (ZaA ms ks rs) (↑(List.length ks)) l,Zaa (Zab fl 1 6) 2])]) (none))) (rB [decide (List.length [ZbL (ZaA ms ks rs) (↑(List.length ks)) l,2]≤1000000),List.all [AV.int .i64 (ZbL (ZaA ms ks rs) (↑(List.length ks)) l),AV.int .i64 2] fun x=>AV.bx x&&Nat.beq (Zah A x) 1] (F (AV.tup [AV.agg (Row.gen [.int .i64 0, .int .i64 0,AV.nils, .bool false, .int .i64 0, .bool false,AV.nils,AV.nils]),AV.int .i64 (Zai [ZbL (ZaA ms ks rs) (↑(List.length ks)) l,2])]) (none))))
theorem ZCH{A:Ar}{K:KT}{F:FT}{M:MT}{ms ks rs l:List AV}{wn fl:Int} :ZaD A tab B8 33 K F M (.run 37 (.tf (.ty (.ty (.ty (.run 12 (.fn))))) (.fy (.fy (.fy (.run 12 (.fn))))))) (ZG7 ms ks rs l wn fl) []=Zw7 A K F ms ks rs l wn fl:=by kernel_rfl
def ZA6(ek en:Int):AFrame:={ fn:=38,N:=35,env:=[(0,AV.agg (Row.gen [.int .i64 ek, .int .i64 en]))],todo:=[.code a38.code],defs:=[],rnd:=none,ret:=false,res:=[ARes.tmp 2] }
def ZIB(ek en:Int):List AFrame:=[(ZA6 ek en)]
theorem ZsP(ek en:Int):Zaq tab 38 [AV.agg (Row.gen [.int .i64 ek, .int .i64 en])]=some (ZA6 ek en):=rfl
def ZmF(A:Ar)(K:KT)(F:FT)(ek en:Int):Prop:=bB (A.not (Zab ek 0 8)) (F (AV.int .i64 15) (none)) (bB (A.eq ek 0) (bB (A.eq ek 1) (rB [A.eq ek 0] (bB (A.not (Zab en 1 11)) (F (AV.int .i64 2) (none)) (rB [A.eq ek 0] (rB [!A.not true] (F (AV.int .i64 0) (none)))))) (rB [A.eq ek 0] (bB (A.not (Zab en 1 1000000000000)) (F (AV.int .i64 2) (none)) (rB [A.eq ek 0] (rB [!A.not true] (F (AV.int .i64 0) (none))))))) (bB (A.eq ek 1) (rB [!A.eq ek 0] (rB [A.eq ek 1] (bB (A.not (Zab en 0 11)) (F (AV.int .i64 2) (none)) (rB [!A.eq ek 0] (rB [A.eq ek 1] (rB [!A.not true] (F (AV.int .i64 0) (none)))))))) (rB [!A.eq ek 0] (rB [!A.eq ek 1] (bB (Zab ek 2 6) (bB (A.not (Zab en 0 5)) (F (AV.int .i64 2) (none)) (rB [!A.eq ek 0] (rB [!A.eq ek 1] (rB [!A.not (Zab ek 2 6)] (F (AV.int .i64 0) (none)))))) (rB [!A.eq ek 0] (rB [!A.eq ek 1] (rB [A.not (Zab ek 2 6)] (bB (A.not (A.eq en 0)) (F (AV.int .i64 3) (none)) (F (AV.int .i64 0) (none)))))))))))
theorem ZEe{A:Ar}{K:KT}{F:FT}{M:MT}{ek en:Int} :ZaD A tab B8 38 K F M (.run 13 (.tf (.run 5 (.fn)) (.run 13 (.tf (.run 11 (.tf (.run 18 (.ty (.ty (.ty (.run 1 (.ty (.ty (.ty (.run 6 (.ty (.ty (.ty (.ty (.ty (.ty (.ty (.run 2 (.tf (.run 5 (.fn)) (.run 16 (.ty (.ty (.ty (.run 1 (.ty (.ty (.ty (.run 7 (.fy (.fy (.fy (.fy (.run 2 (.fy (.run 6 (.fn))))))))))))))))))))))))))))))))))) (.run 16 (.ty (.ty (.ty (.run 1 (.ty (.ty (.ty (.run 6 (.ty (.ty (.ty (.ty (.ty (.ty (.ty (.run 2 (.tf (.run 5 (.fn)) (.run 16 (.ty (.ty (.ty (.run 1 (.ty (.ty (.ty (.run 7 (.fy (.fy (.fy (.fy (.run 2 (.fy (.run 6 (.fn))))))))))))))))))))))))))))))))))))) (.run 8 (.tf (.run 18 (.fy (.fy (.fy (.run 1 (.ty (.ty (.ty (.run 6 (.ty (.ty (.ty (.ty (.ty (.ty (.ty (.run 2 (.tf (.run 5 (.fn)) (.run 16 (.fy (.fy (.fy (.run 1 (.ty (.ty (.ty (.run 7 (.fy (.fy (.fy (.fy (.run 2 (.fy (.run 6 (.fn))))))))))))))))))))))))))))))))))) (.run 16 (.fy (.fy (.fy (.run 1 (.fy (.fy (.run 12 (.fy (.run 6 (.tf (.ty (.ty (.ty (.ty (.ty (.ty (.run 2 (.tf (.run 5 (.fn)) (.run 16 (.fy (.fy (.fy (.run 1 (.fy (.fy (.run 12 (.fy (.run 7 (.fy (.fy (.fy (.fy (.run 2 (.fy (.run 6 (.fn)))))))))))))))))))))))))) (.fy (.fy (.fy (.fy (.fy (.fy (.run 2 (.fy (.run 16 (.fy (.fy (.fy (.run 1 (.fy (.fy (.run 12 (.fy (.run 7 (.ty (.ty (.ty (.ty (.run 2 (.tf (.run 5 (.fn)) (.run 6 (.fn))))))))))))))))))))))))))))))))))))))))))) (ZIB ek en) []=ZmF A K F ek en:=by kernel_rfl
def ZAF(n:Int):AFrame:={ fn:=84,N:=13,env:=[(0,AV.int .i64 n)],todo:=[.code a84.code],defs:=[],rnd:=none,ret:=false,res:=[ARes.tmp 2] }
def ZIz(n:Int):List AFrame:=[(ZAF n)]
theorem Ztt(n:Int):Zaq tab 84 [AV.int .i64 n]=some (ZAF n):=rfl
def ZyR(A:Ar)(K:KT)(F:FT)(n:Int):Prop:=bB (A.eq n 0) (F (AV.bool true) (none)) (bB (A.eq n 1) (F (AV.bool true) (none)) (F (AV.bool (Zab n 2 6)) (none)))
theorem ZCT{A:Ar}{K:KT}{F:FT}{M:MT}{n:Int} :ZaD A tab B8 84 K F M (.run 9 (.tf (.ty (.ty (.run 1 (.ty (.ty (.ty (.run 4 (.fn)))))))) (.fy (.fy (.run 1 (.tf (.ty (.ty (.run 4 (.fn)))) (.fy (.run 12 (.fy (.run 4 (.fn))))))))))) (ZIz n) []=ZyR A K F n:=by kernel_rfl
def ZAp(n:Int):AFrame:={ fn:=97,N:=5,env:=[(0,AV.int .i64 n)],todo:=[.code a97.code],defs:=[],rnd:=none,ret:=false,res:=[ARes.tmp 2] }
def ZH3(n:Int):List AFrame:=[(ZAp n)]
theorem ZtC(n:Int):Zaq tab 97 [AV.int .i64 n]=some (ZAp n):=rfl
def ZAd(A:Ar)(K:KT)(F:FT)(n:Int):Prop:=F (AV.bool (Zab n 2 6)) (none)
theorem ZCt{A:Ar}{K:KT}{F:FT}{M:MT}{n:Int} :ZaD A tab B8 97 K F M (.run 11 (.fn)) (ZH3 n) []=ZAd A K F n:=by kernel_rfl
def ZyF(ms ks rs l:List AV)(wn fl:Int):AFrame:={ fn:=14,N:=12,env:=[(0,AV.agg (Row.gen [.list (Row.big .str ms), .list (Row.big (.agg [.str, .int .i64]) ks), .list (Row.big (.agg [.str, .int .i64, .int .i64, .int .i64, .int .i64]) rs), .list (Row.big (.agg [.int .i64, .int .i64, .int .i64]) l), .int .i64 wn, .int .i64 fl]))],todo:=[.code a14.code],defs:=[],rnd:=none,ret:=false,res:=[ARes.tmp 2] }
def ZFZ(ms ks rs l:List AV)(wn fl:Int):List AFrame:=[(ZyF ms ks rs l wn fl)]
theorem Zwg(ms ks rs l:List AV)(wn fl:Int):Zaq tab 14 [AV.agg (Row.gen [.list (Row.big .str ms), .list (Row.big (.agg [.str, .int .i64]) ks), .list (Row.big (.agg [.str, .int .i64, .int .i64, .int .i64, .int .i64]) rs), .list (Row.big (.agg [.int .i64, .int .i64, .int .i64]) l), .int .i64 wn, .int .i64 fl])]=some (ZyF ms ks rs l wn fl):=rfl
def Zxu(A:Ar)(K:KT)(F:FT)(ms ks rs l:List AV)(wn fl:Int):Prop:=bB (Zpb ms ks rs) (F (AV.bool (A.le (A.int (A.lenA l)) 14)) (none)) (F (AV.bool false) (none))
theorem ZCG{A:Ar}{K:KT}{F:FT}{M:MT}{ms ks rs l:List AV}{wn fl:Int} :ZaD A tab B8 14 K F M (.run 11 (.tf (.ty (.ty (.ty (.ty (.run 4 (.fn)))))) (.fy (.fy (.fy (.fy (.run 4 (.fn)))))))) (ZFZ ms ks rs l wn fl) []=Zxu A K F ms ks rs l wn fl:=by kernel_rfl
def ZBU(at0 mo:Int)(dn:List AV)(ha:Bool)(ba:Int)(to:Bool)(dw:List Int)(up:List AV):AFrame:={ fn:=32,N:=19,env:=[(0,AV.agg (Row.gen [.int .i64 at0, .int .i64 mo, .list (Row.big (.agg [.int .i64, .int .i64]) dn), .bool ha, .int .i64 ba, .bool to, .list (.ints .i64 dw), .list (Row.big (.agg [.int .i64, .bool]) up)]))],todo:=[.code a32.code],defs:=[],rnd:=none,ret:=false,res:=[ARes.tmp 2] }
def ZIC(at0 mo:Int)(dn:List AV)(ha:Bool)(ba:Int)(to:Bool)(dw:List Int)(up:List AV):List AFrame:=[(ZBU at0 mo dn ha ba to dw up)]
theorem Zwf(at0 mo:Int)(dn:List AV)(ha:Bool)(ba:Int)(to:Bool)(dw:List Int)(up:List AV):Zaq tab 32 [AV.agg (Row.gen [.int .i64 at0, .int .i64 mo, .list (Row.big (.agg [.int .i64, .int .i64]) dn), .bool ha, .int .i64 ba, .bool to, .list (.ints .i64 dw), .list (Row.big (.agg [.int .i64, .bool]) up)])]=some (ZBU at0 mo dn ha ba to dw up):=rfl
def Zy8(A:Ar)(K:KT)(F:FT)(at0 mo:Int)(dn:List AV)(ha:Bool)(ba:Int)(to:Bool)(dw:List Int)(up:List AV):Prop:=bB (A.le (A.int (A.lenA dn)) 14) (bB (A.le (A.int (A.len dw)) 8) (F (AV.bool (A.le (A.int (A.lenA up)) 8)) (none)) (F (AV.bool false) (none))) (F (AV.bool false) (none))
theorem ZEw{A:Ar}{K:KT}{F:FT}{M:MT}{at0 mo:Int}{dn:List AV}{ha:Bool}{ba:Int}{to:Bool}{dw:List Int}{up:List AV} :ZaD A tab B8 32 K F M (.run 12 (.tf (.ty (.ty (.ty (.ty (.run 1 (.tf (.ty (.ty (.ty (.ty (.run 4 (.fn)))))) (.fy (.fy (.fy (.fy (.run 4 (.fn)))))))))))) (.fy (.fy (.fy (.fy (.run 1 (.fy (.fy (.fy (.fy (.fy (.run 4 (.fn)))))))))))))) (ZIC at0 mo dn ha ba to dw up) []=Zy8 A K F at0 mo dn ha ba to dw up:=by kernel_rfl
def Zy1(ms ks rs l:List AV)(wn fl:Int):AFrame:={ fn:=16,N:=12,env:=[(0,AV.agg (Row.gen [.list (Row.big .str ms), .list (Row.big (.agg [.str, .int .i64]) ks), .list (Row.big (.agg [.str, .int .i64, .int .i64, .int .i64, .int .i64]) rs), .list (Row.big (.agg [.int .i64, .int .i64, .int .i64]) l), .int .i64 wn, .int .i64 fl]))],todo:=[.code a16.code],defs:=[],rnd:=none,ret:=false,res:=[ARes.cell 2 true 6] }
def ZGE(ms ks rs l:List AV)(wn fl:Int):List AFrame:=[(Zy1 ms ks rs l wn fl)]
theorem ZsX(ms ks rs l:List AV)(wn fl:Int):Zaq tab 16 [AV.agg (Row.gen [.list (Row.big .str ms), .list (Row.big (.agg [.str, .int .i64]) ks), .list (Row.big (.agg [.str, .int .i64, .int .i64, .int .i64, .int .i64]) rs), .list (Row.big (.agg [.int .i64, .int .i64, .int .i64]) l), .int .i64 wn, .int .i64 fl])]=some (Zy1 ms ks rs l wn fl):=rfl
def ZxZ(A:Ar)(K:KT)(F:FT)(ms ks rs l:List AV)(wn fl:Int):Prop:=rB [decide (List.length l≤1000000),decide (List.length ms≤1000000∧List.length ks≤1000000∧List.length rs≤1000000)] (F (AV.agg (Row.gen [.list (Row.big .str ms), .list (Row.big (.agg [.str, .int .i64]) ks), .list (Row.big (.agg [.str, .int .i64, .int .i64, .int .i64, .int .i64]) rs), .list (Row.big (.agg [.int .i64, .int .i64, .int .i64]) l), .int .i64 wn, .int .i64 fl])) (none))
theorem ZCR{A:Ar}{K:KT}{F:FT}{M:MT}{ms ks rs l:List AV}{wn fl:Int} :ZaD A tab B8 16 K F M (.run 14 (.fn)) (ZGE ms ks rs l wn fl) []=ZxZ A K F ms ks rs l wn fl:=by kernel_rfl
def ZzP(at0 mo:Int)(dn:List AV)(ha:Bool)(ba:Int)(to:Bool)(dw:List Int)(up:List AV):AFrame:={ fn:=35,N:=18,env:=[(0,AV.agg (Row.gen [.int .i64 at0, .int .i64 mo, .list (Row.big (.agg [.int .i64, .int .i64]) dn), .bool ha, .int .i64 ba, .bool to, .list (.ints .i64 dw), .list (Row.big (.agg [.int .i64, .bool]) up)]))],todo:=[.code a35.code],defs:=[],rnd:=none,ret:=false,res:=[ARes.cell 2 true 8] }
def ZH4(at0 mo:Int)(dn:List AV)(ha:Bool)(ba:Int)(to:Bool)(dw:List Int)(up:List AV):List AFrame:=[(ZzP at0 mo dn ha ba to dw up)]
theorem Ztv(at0 mo:Int)(dn:List AV)(ha:Bool)(ba:Int)(to:Bool)(dw:List Int)(up:List AV):Zaq tab 35 [AV.agg (Row.gen [.int .i64 at0, .int .i64 mo, .list (Row.big (.agg [.int .i64, .int .i64]) dn), .bool ha, .int .i64 ba, .bool to, .list (.ints .i64 dw), .list (Row.big (.agg [.int .i64, .bool]) up)])]=some (ZzP at0 mo dn ha ba to dw up):=rfl
def Zw8(A:Ar)(K:KT)(F:FT)(at0 mo:Int)(dn:List AV)(ha:Bool)(ba:Int)(to:Bool)(dw:List Int)(up:List AV):Prop:=rB [Nat.ble (0+A.lenA up) 4294967296,List.all [] fun x=>AV.bx x&&Nat.beq (Zah A x) 2,Nat.ble (0+A.len dw) 4294967296,List.all [] fun x=>AV.bx x&&Nat.beq (Zah A x) 1,Nat.ble (0+A.lenA dn) 4294967296,List.all [] fun x=>AV.bx x&&Nat.beq (Zah A x) 2] (F (AV.agg (Row.gen [.int .i64 at0, .int .i64 mo, .list (Row.big (.agg [.int .i64, .int .i64]) dn), .bool ha, .int .i64 ba, .bool to, .list (.ints .i64 dw), .list (Row.big (.agg [.int .i64, .bool]) up)])) (none))
theorem ZEm{A:Ar}{K:KT}{F:FT}{M:MT}{at0 mo:Int}{dn:List AV}{ha:Bool}{ba:Int}{to:Bool}{dw:List Int}{up:List AV} :ZaD A tab B8 35 K F M (.run 50 (.fn)) (ZH4 at0 mo dn ha ba to dw up) []=Zw8 A K F at0 mo dn ha ba to dw up:=by kernel_rfl
def ZAz(xs ys:List Int):AFrame:={ fn:=29,N:=26,env:=[(0,AV.list (.ints .i64 xs)),(1,AV.list (.ints .i64 ys))],todo:=[.code a29.code],defs:=[],rnd:=none,ret:=false,res:=[ARes.tmp 4] }
def ZIs(xs ys:List Int):List AFrame:=[(ZAz xs ys)]
theorem Zva(xs ys:List Int):Zaq tab 29 [AV.list (.ints .i64 xs),AV.list (.ints .i64 ys)]=some (ZAz xs ys):=rfl
def Zg3(xs ys:List Int)(n0:Int):List AFrame:=[{ fn:=29,N:=26,env:=[(0,AV.list (.ints .i64 xs)),(1,AV.list (.ints .i64 ys)),(5,AV.int .i64 n0)],todo:=.code (ACode.gh [] Zx3)::ZDj,defs:=[],rnd:=none,ret:=false,res:=[ARes.tmp 4] }]
def Ze3(xs ys:List Int)(n0:Int):Zac:=[]
abbrev ZhW(xs ys:List Int)(n0:Int):List AFrame×Zac:=(Zg3 xs ys n0,Ze3 xs ys n0)
def ZvJ(A:Ar)(K:KT)(F:FT)(xs ys:List Int):Prop:=bB (A.not (A.eq (A.int (A.len xs)) (A.int (A.len ys)))) (F (AV.bool false) (none)) (K (ZhW (xs) (ys) (0)))
theorem ZEl{A:Ar}{K:KT}{F:FT}{M:MT}{xs ys:List Int} :ZaD A tab B8 29 K F M (.run 13 (.tf (.run 5 (.fn)) (.run 9 (.hd)))) (ZIs xs ys) []=ZvJ A K F xs ys:=by kernel_rfl
def ZdA(A:Ar)(K:KT)(F:FT)(xs ys:List Int)(n0:Int):Prop:=bB (A.lt n0 (A.int (A.len xs))) (rB [Zaf (Zaf (A.le 0 n0) (Nat.blt (A.nat n0) (A.len ys))) true,Zaf (Zaf (A.le 0 n0) (Nat.blt (A.nat n0) (A.len xs))) true] (bB (A.not (A.eq (A.nth xs (A.nat n0)) (A.nth ys (A.nat n0)))) (F (AV.bool false) (none)) (rB [A.inR .i64 (A.add n0 1)] (K (ZhW (xs) (ys) (A.add n0 1)))))) (F (AV.bool true) (none))
theorem Zht{A:Ar}{K:KT}{F:FT}{M:MT}{xs ys:List Int}{n0:Int} :ZaD A tab B8 29 K F M (.run 9 (.tf (.run 6 (.tf (.run 5 (.fn)) (.run 9 (.hd)))) (.run 6 (.fn)))) (Zg3 xs ys n0) (Ze3 xs ys n0)=ZdA A K F xs ys n0:=by kernel_rfl
def Zz6(xs ys:List AV):AFrame:={ fn:=22,N:=26,env:=[(0,AV.list (Row.big (.agg [.int .i64, .int .i64]) xs)),(1,AV.list (Row.big (.agg [.int .i64, .int .i64]) ys))],todo:=[.code a22.code],defs:=[],rnd:=none,ret:=false,res:=[ARes.tmp 4] }
def ZHc(xs ys:List AV):List AFrame:=[(Zz6 xs ys)]
theorem Zwe(xs ys:List AV):Zaq tab 22 [AV.list (Row.big (.agg [.int .i64, .int .i64]) xs),AV.list (Row.big (.agg [.int .i64, .int .i64]) ys)]=some (Zz6 xs ys):=rfl
def ZgP(xs ys:List AV)(n0:Int):List AFrame:=[{ fn:=22,N:=26,env:=[(0,AV.list (Row.big (.agg [.int .i64, .int .i64]) xs)),(1,AV.list (Row.big (.agg [.int .i64, .int .i64]) ys)),(5,AV.int .i64 n0)],todo:=.code (ACode.gh [] Zy5)::ZDU,defs:=[],rnd:=none,ret:=false,res:=[ARes.tmp 4] }]
def ZeI(xs ys:List AV)(n0:Int):Zac:=[]
abbrev ZhP(xs ys:List AV)(n0:Int):List AFrame×Zac:=(ZgP xs ys n0,ZeI xs ys n0)
def Zv9(A:Ar)(K:KT)(F:FT)(xs ys:List AV):Prop:=bB (A.not (A.eq (A.int (A.lenA xs)) (A.int (A.lenA ys)))) (F (AV.bool false) (none)) (K (ZhP (xs) (ys) (0)))
theorem ZDp{A:Ar}{K:KT}{F:FT}{M:MT}{xs ys:List AV} :ZaD A tab B8 22 K F M (.run 13 (.tf (.run 5 (.fn)) (.run 9 (.hd)))) (ZHc xs ys) []=Zv9 A K F xs ys:=by kernel_rfl
def Zdv(A:Ar)(K:KT)(F:FT)(xs ys:List AV)(n0:Int):Prop:=bB (A.lt n0 (A.int (A.lenA xs))) (rB [Zaf (Zaf (A.le 0 n0) (Nat.blt (A.nat n0) (A.lenA ys))) true,Zaf (Zaf (A.le 0 n0) (Nat.blt (A.nat n0) (A.lenA xs))) true] (bB (A.not (Zaf (A.eq ((A.nthA xs (A.nat n0)).cellAt 0).toI ((A.nthA ys (A.nat n0)).cellAt 0).toI) (A.eq ((A.nthA xs (A.nat n0)).cellAt 1).toI ((A.nthA ys (A.nat n0)).cellAt 1).toI))) (F (AV.bool false) (none)) (rB [A.inR .i64 (A.add n0 1)] (K (ZhP (xs) (ys) (A.add n0 1)))))) (F (AV.bool true) (none))
theorem ZhX{A:Ar}{K:KT}{F:FT}{M:MT}{xs ys:List AV}{n0:Int} :ZaD A tab B8 22 K F M (.run 9 (.tf (.run 6 (.tf (.run 5 (.fn)) (.run 9 (.hd)))) (.run 6 (.fn)))) (ZgP xs ys n0) (ZeI xs ys n0)=Zdv A K F xs ys n0:=by kernel_rfl
def ZxX(ms ks rs:List AV):AFrame:={ fn:=77,N:=19,env:=[(0,AV.agg (Row.gen [.list (Row.big .str ms), .list (Row.big (.agg [.str, .int .i64]) ks), .list (Row.big (.agg [.str, .int .i64, .int .i64, .int .i64, .int .i64]) rs)]))],todo:=[.code a77.code],defs:=[],rnd:=none,ret:=false,res:=[ARes.cell 2 true 3] }
def ZGC(ms ks rs:List AV):List AFrame:=[(ZxX ms ks rs)]
theorem ZtY(ms ks rs:List AV):Zaq tab 77 [AV.agg (Row.gen [.list (Row.big .str ms), .list (Row.big (.agg [.str, .int .i64]) ks), .list (Row.big (.agg [.str, .int .i64, .int .i64, .int .i64, .int .i64]) rs)])]=some (ZxX ms ks rs):=rfl
def Zjs(ms ks rs:List AV):List AFrame:=[{ fn:=77,N:=19,env:=[(1,AV.ptr 77002 0 0 0),(2,AV.ptr 77003 0 0 0),(3,AV.ptr 77004 0 0 0),(4,AV.int .i64 0)],todo:=.code (ACode.gh [] Zug)::ZAo,defs:=[],rnd:=none,ret:=false,res:=[ARes.cell 2 true 3] }]
def Zh9(ms ks rs:List AV):Zac:=[(77002,{ base:=0,blks:=[Blk.row 26 3 (Row.gen [AV.agg (Row.gen [AV.list (Row.big .str ms),AV.list (Row.big (.agg [.str, .int .i64]) ks),AV.list (Row.big (.agg [.str, .int .i64, .int .i64, .int .i64, .int .i64]) rs)])])] }),(77003,{ base:=0,blks:=[Blk.row 76 3 (Row.gen [AV.agg (Row.gen [AV.int .i64 0,AV.int .i64 0,AV.nils])])] }),(77004,{ base:=0,blks:=[Blk.row 76 3 (Row.gen [AV.agg (Row.gen [AV.int .i64 0,AV.int .i64 0,AV.nils])])] })]
abbrev ZmH(ms ks rs:List AV):List AFrame×Zac:=(Zjs ms ks rs,Zh9 ms ks rs)
def ZgJ(ms ks rs:List AV)(n0:Int)(l1:List Int):List AFrame:=[{ fn:=77,N:=19,env:=[(1,AV.ptr 77002 0 0 0),(2,AV.ptr 77003 0 0 0),(3,AV.ptr 77004 0 0 0),(4,AV.int .i64 n0)],todo:=.code (ACode.gh [] Zug)::ZAo,defs:=[],rnd:=none,ret:=false,res:=[ARes.cell 2 true 3] }]
def Zfm(ms ks rs:List AV)(n0:Int)(l1:List Int):Zac:=[(77002,{ base:=0,blks:=[Blk.row 26 3 (Row.gen [AV.agg (Row.gen [AV.list (Row.big .str ms),AV.list (Row.big (.agg [.str, .int .i64]) ks),AV.list (Row.big (.agg [.str, .int .i64, .int .i64, .int .i64, .int .i64]) rs)])])] }),(77003,{ base:=0,blks:=[Blk.row 76 3 (Row.gen [AV.agg (Row.gen [AV.int .i64 0,AV.int .i64 0,AV.nils])])] }),(77004,{ base:=0,blks:=[Blk.row 76 3 (Row.gen [AV.agg (Row.gen [AV.int .i64 0,AV.int .i64 0,AV.row 77017 0])])] }),(77017,{ base:=0,blks:=[Blk.row 3 1 (.ints .i64 l1)] })]
abbrev Zik(ms ks rs:List AV)(n0:Int)(l1:List Int):List AFrame×Zac:=(ZgJ ms ks rs n0 l1,Zfm ms ks rs n0 l1)
def ZxP(A:Ar)(K:KT)(F:FT)(ms ks rs:List AV):Prop:=K (ZmH (ms) (ks) (rs))
theorem ZC3{A:Ar}{K:KT}{F:FT}{M:MT}{ms ks rs:List AV} :ZaD A tab B8 77 K F M (.run 19 (.hd)) (ZGC ms ks rs) []=ZxP A K F ms ks rs:=by kernel_rfl
def Zfk(A:Ar)(K:KT)(F:FT)(ms ks rs:List AV):Prop:=bB (A.lt 0 (A.int (A.lenA ks))) (rB [A.inR .i64 (A.add 0 1),Zaf (Nat.ble (A.len [-1]) 4294967296) (Nat.blt 0 (A.len [-1])),List.all [AV.int .i64 (-1)] fun x=>AV.bx x&&Nat.beq (Zah A x) 1] (K (Zik (ms) (ks) (rs) (A.add 0 1) ([-1])))) (F (AV.agg (Row.gen [.int .i64 0, .int .i64 0,AV.nils])) (none))
theorem Znp{A:Ar}{K:KT}{F:FT}{M:MT}{ms ks rs:List AV} :ZaD A tab B8 77 K F M (.run 10 (.tf (.run 19 (.hd)) (.run 7 (.fn)))) (Zjs ms ks rs) (Zh9 ms ks rs)=Zfk A K F ms ks rs:=by kernel_rfl
def Ze1(A:Ar)(K:KT)(F:FT)(ms ks rs:List AV)(n0:Int)(l1:List Int):Prop:=bB (A.lt n0 (A.int (A.lenA ks))) (rB [A.inR .i64 (A.add n0 1),Nat.ble (A.len l1+A.len [-1]) 4294967296,List.all [AV.int .i64 (-1)] fun x=>AV.bx x&&Nat.beq (Zah A x) 1] (K (Zik (ms) (ks) (rs) (A.add n0 1) (A.app l1 [-1])))) (F (AV.agg (Row.gen [.int .i64 0, .int .i64 0, .list (.ints .i64 l1)])) (none))
theorem Zia{A:Ar}{K:KT}{F:FT}{M:MT}{ms ks rs:List AV}{n0:Int}{l1:List Int} :ZaD A tab B8 77 K F M (.run 10 (.tf (.run 19 (.hd)) (.run 7 (.fn)))) (ZgJ ms ks rs n0 l1) (Zfm ms ks rs n0 l1)=Ze1 A K F ms ks rs n0 l1:=by kernel_rfl
def ZAQ(ek en:Int):AFrame:={ fn:=37,N:=29,env:=[(0,AV.agg (Row.gen [.int .i64 ek, .int .i64 en]))],todo:=[.code a37.code],defs:=[],rnd:=none,ret:=false,res:=[ARes.tmp 2] }
def ZGQ(ek en:Int):List AFrame:=[(ZAQ ek en)]
theorem Zt8(ek en:Int):Zaq tab 37 [AV.agg (Row.gen [.int .i64 ek, .int .i64 en])]=some (ZAQ ek en):=rfl
def ZgN(A:Ar)(K:KT)(F:FT)(ek en:Int):Prop:=bB (A.not (Zab ek 0 8)) (F (AV.int .i64 15) (none)) (qB [A.eq ek 0] (rB [!A.eq 1000000000000 0] (F (AV.int .i64 (Zaa (Zab en 1 1000000000000) 2)) (none))) (qB [A.eq ek (Int.ofNat 1)] (rB [!A.eq 11 0] (F (AV.int .i64 (Zaa (Zab en 0 11) 2)) (none))) (qB [A.eq ek (Int.ofNat 2)] (rB [!A.eq 5 0] (F (AV.int .i64 (Zaa (Zab en 0 5) 2)) (none))) (qB [A.eq ek (Int.ofNat 3)] (rB [!A.eq 5 0] (F (AV.int .i64 (Zaa (Zab en 0 5) 2)) (none))) (qB [A.eq ek (Int.ofNat 4)] (rB [!A.eq 5 0] (F (AV.int .i64 (Zaa (Zab en 0 5) 2)) (none))) (qB [A.eq ek (Int.ofNat 5)] (rB [!A.eq 5 0] (F (AV.int .i64 (Zaa (Zab en 0 5) 2)) (none))) (qB [A.eq ek (Int.ofNat 6)] (rB [!A.eq 5 0] (F (AV.int .i64 (Zaa (Zab en 0 5) 2)) (none))) (qB [A.eq ek (Int.ofNat 7)] (rB [A.eq 0 0] (F (AV.int .i64 (Zaa (A.eq en 0) 3)) (none))) (rB [A.eq ek (Int.ofNat 8)] (rB [A.eq 0 0] (F (AV.int .i64 (Zaa (A.eq en 0) 3)) (none))))))))))))
theorem ZCJ{A:Ar}{K:KT}{F:FT}{M:MT}{ek en:Int} :ZaD A tab B8 37 K F M (.run 40 (.tf (.run 5 (.fn)) (.run 5 (.alt [true] (.run 11 (.fy (.run 15 (.fn)))) (.alt [false,true] (.run 11 (.fy (.run 15 (.fn)))) (.alt [false,false,true] (.run 11 (.fy (.run 15 (.fn)))) (.alt [false,false,false,true] (.run 11 (.fy (.run 15 (.fn)))) (.alt [false,false,false,false,true] (.run 11 (.fy (.run 15 (.fn)))) (.alt [false,false,false,false,false,true] (.run 11 (.fy (.run 15 (.fn)))) (.alt [false,false,false,false,false,false,true] (.run 11 (.fy (.run 15 (.fn)))) (.alt [false,false,false,false,false,false,false,true] (.run 11 (.ty (.run 9 (.fn)))) (.alt [false,false,false,false,false,false,false,false,true] (.run 11 (.ty (.run 9 (.fn)))) (.no))))))))))))) (ZGQ ek en) []=ZgN A K F ek en:=by kernel_rfl
def ZBx(xs:List Int):AFrame:={ fn:=81,N:=6,env:=[(0,AV.list (.ints .i64 xs))],todo:=[.code a81.code],defs:=[],rnd:=none,ret:=false,res:=[ARes.tmp 2] }
def ZGB(xs:List Int):List AFrame:=[(ZBx xs)]
theorem ZtN(xs:List Int):Zaq tab 81 [AV.list (.ints .i64 xs)]=some (ZBx xs):=rfl
def ZzJ(A:Ar)(K:KT)(F:FT)(xs:List Int):Prop:=rB [Nat.ble (0+A.len xs) 4294967296,List.all [] fun x=>AV.bx x&&Nat.beq (Zah A x) 1] (F (AV.row 0 0) (some { e:=3,sz:=1,r:=.ints .i64 xs }))
theorem ZC2{A:Ar}{K:KT}{F:FT}{M:MT}{xs:List Int} :ZaD A tab B8 81 K F M (.run 12 (.fn)) (ZGB xs) []=ZzJ A K F xs:=by kernel_rfl
end Go.Proofs.YtkeoeooghhjibaaGreatDoor
