/- Paths of functions, printed by the explorer (Gx). No condition. -/
import Derived.Test.YtkeoeooghhjibaaDoorCl
import Derived.KernelRfl
namespace Go.Proofs.YtkeoeooghhjibaaDoor
set_option maxRecDepth 100000
set_option linter.unusedVariables false
def Zsh(ms:List AV)(ks:List AV)(rs:List AV):AFrame:={ fn:=11,N:=188,env:=[(0,AV.agg (Row.gen [.list (Row.big .str ms), .list (Row.big (.agg [.str, .int .i64]) ks), .list (Row.big (.agg [.str, .int .i64, .int .i64, .int .i64, .int .i64]) rs)]))],todo:=[.code a11.code],defs:=[],rnd:=none,ret:=false,res:=[ARes.cell 2 true 2,ARes.tmp 3] }
def ZxV(ms:List AV)(ks:List AV)(rs:List AV):List AFrame:=[(Zsh ms ks rs)]
theorem ZpH(ms:List AV)(ks:List AV)(rs:List AV):ZaC tab 11 [AV.agg (Row.gen [.list (Row.big .str ms), .list (Row.big (.agg [.str, .int .i64]) ks), .list (Row.big (.agg [.str, .int .i64, .int .i64, .int .i64, .int .i64]) rs)])]=some (Zsh ms ks rs):=rfl
def Zfa(ms ks rs:List AV)(n0:Int):List AFrame:=[{ fn:=11,N:=188,env:=[(1,AV.ptr 11002 0 0 0),(2,AV.ptr 11003 0 0 0),(4,AV.int .i64 n0)],todo:=.code (ACode.gh [] Zq1)::Zus,defs:=[],rnd:=none,ret:=false,res:=[ARes.cell 2 true 2,ARes.tmp 3] }]
def Zd2(ms:List AV)(ks:List AV)(rs:List AV)(n0:Int):Zab:=[(11002,{ base:=0,blks:=[Blk.row 26 3 (Row.gen [AV.agg (Row.gen [AV.list (Row.big .str ms),AV.list (Row.big (.agg [.str, .int .i64]) ks),AV.list (Row.big (.agg [.str, .int .i64, .int .i64, .int .i64, .int .i64]) rs)])])] }),(11003,{ base:=0,blks:=[Blk.row 31 2 (Row.gen [AV.agg (Row.gen [AV.int .i64 0,AV.int .i64 0])])] })]
abbrev Zf9(ms:List AV)(ks:List AV)(rs:List AV)(n0:Int):List AFrame×Zab:=(Zfa ms ks rs n0,Zd2 ms ks rs n0)
def ZdU(ms ks rs:List AV):List AFrame:=[{ fn:=11,N:=188,env:=[(1,AV.ptr 11002 0 0 0),(2,AV.ptr 11003 0 0 0),(5,AV.nils),(6,AV.int .i64 0)],todo:=.code (ACode.gh [] Zpx)::ZtJ,defs:=[],rnd:=none,ret:=false,res:=[ARes.cell 2 true 2,ARes.tmp 3] }]
def Zc8(ms:List AV)(ks:List AV)(rs:List AV):Zab:=[(11002,{ base:=0,blks:=[Blk.row 26 3 (Row.gen [AV.agg (Row.gen [AV.list (Row.big .str ms),AV.list (Row.big (.agg [.str, .int .i64]) ks),AV.list (Row.big (.agg [.str, .int .i64, .int .i64, .int .i64, .int .i64]) rs)])])] }),(11003,{ base:=0,blks:=[Blk.row 31 2 (Row.gen [AV.agg (Row.gen [AV.int .i64 0,AV.int .i64 0])])] })]
abbrev Zk2(ms:List AV)(ks:List AV)(rs:List AV):List AFrame×Zab:=(ZdU ms ks rs,Zc8 ms ks rs)
def Zfm(ms ks rs:List AV)(n1:Int)(x2:List AV):List AFrame:=[{ fn:=11,N:=188,env:=[(1,AV.ptr 11002 0 0 0),(2,AV.ptr 11003 0 0 0),(5,AV.row 11093 0),(6,AV.int .i64 n1)],todo:=.code (ACode.gh [] Zpx)::ZtJ,defs:=[],rnd:=none,ret:=false,res:=[ARes.cell 2 true 2,ARes.tmp 3] }]
def Zeg(ms:List AV)(ks:List AV)(rs:List AV)(n1:Int)(x2:List AV):Zab:=[(11002,{ base:=0,blks:=[Blk.row 26 3 (Row.gen [AV.agg (Row.gen [AV.list (Row.big .str ms),AV.list (Row.big (.agg [.str, .int .i64]) ks),AV.list (Row.big (.agg [.str, .int .i64, .int .i64, .int .i64, .int .i64]) rs)])])] }),(11003,{ base:=0,blks:=[Blk.row 31 2 (Row.gen [AV.agg (Row.gen [AV.int .i64 0,AV.int .i64 0])])] }),(11093,{ base:=0,blks:=[Blk.row 9 1 (Row.big .str x2)] })]
abbrev Zgu(ms:List AV)(ks:List AV)(rs:List AV)(n1:Int)(x2:List AV):List AFrame×Zab:=(Zfm ms ks rs n1 x2,Zeg ms ks rs n1 x2)
def Zdw(ms ks rs:List AV):List AFrame:=[{ fn:=11,N:=188,env:=[(1,AV.ptr 11002 0 0 0),(2,AV.ptr 11003 0 0 0),(5,AV.nils),(7,AV.int .i64 0)],todo:=.code (ACode.gh [] Zoo)::Zq6,defs:=[],rnd:=none,ret:=false,res:=[ARes.cell 2 true 2,ARes.tmp 3] }]
def ZcR(ms:List AV)(ks:List AV)(rs:List AV):Zab:=[(11002,{ base:=0,blks:=[Blk.row 26 3 (Row.gen [AV.agg (Row.gen [AV.list (Row.big .str ms),AV.list (Row.big (.agg [.str, .int .i64]) ks),AV.list (Row.big (.agg [.str, .int .i64, .int .i64, .int .i64, .int .i64]) rs)])])] }),(11003,{ base:=0,blks:=[Blk.row 31 2 (Row.gen [AV.agg (Row.gen [AV.int .i64 0,AV.int .i64 0])])] })]
abbrev ZgC(ms:List AV)(ks:List AV)(rs:List AV):List AFrame×Zab:=(Zdw ms ks rs,ZcR ms ks rs)
def Ze4(ms ks rs:List AV)(n3:Int)(x4:List AV):List AFrame:=[{ fn:=11,N:=188,env:=[(1,AV.ptr 11002 0 0 0),(2,AV.ptr 11003 0 0 0),(5,AV.row 11141 0),(7,AV.int .i64 n3)],todo:=.code (ACode.gh [] Zoo)::Zq6,defs:=[],rnd:=none,ret:=false,res:=[ARes.cell 2 true 2,ARes.tmp 3] }]
def Zd4(ms:List AV)(ks:List AV)(rs:List AV)(n3:Int)(x4:List AV):Zab:=[(11002,{ base:=0,blks:=[Blk.row 26 3 (Row.gen [AV.agg (Row.gen [AV.list (Row.big .str ms),AV.list (Row.big (.agg [.str, .int .i64]) ks),AV.list (Row.big (.agg [.str, .int .i64, .int .i64, .int .i64, .int .i64]) rs)])])] }),(11003,{ base:=0,blks:=[Blk.row 31 2 (Row.gen [AV.agg (Row.gen [AV.int .i64 0,AV.int .i64 0])])] }),(11141,{ base:=0,blks:=[Blk.row 9 1 (Row.big .str x4)] })]
abbrev ZcU(ms:List AV)(ks:List AV)(rs:List AV)(n3:Int)(x4:List AV):List AFrame×Zab:=(Ze4 ms ks rs n3 x4,Zd4 ms ks rs n3 x4)
def Zm7(A:Ar)(K:KT)(F:FT)(ms:List AV)(ks:List AV)(rs:List AV):Prop:=bB (A.eq (A.int (A.lenA ms)) 0) (F (AV.tup [AV.agg (Row.gen [.int .i64 1, .int .i64 0]),AV.int .i64 10]) (none)) (bB (A.lt 6 (A.int (A.lenA ms))) (F (AV.tup [AV.agg (Row.gen [.int .i64 1, .int .i64 0]),AV.int .i64 8]) (none)) (K (Zf9 (ms) (ks) (rs) (0))))
theorem Zum{A:Ar}{K:KT}{F:FT}{M:MT}{ms:List AV}{ks:List AV}{rs:List AV} :ZbM A tab B6 11 K F M (.run 14 (.tf (.run 20 (.fn)) (.run 9 (.tf (.run 20 (.fn)) (.run 9 (.hd)))))) (ZxV ms ks rs) []=Zm7 A K F ms ks rs:=by kernel_rfl
def Zca(A:Ar)(K:KT)(F:FT)(ms:List AV)(ks:List AV)(rs:List AV)(n0:Int):Prop:=bB (A.lt n0 (A.int (A.lenA ms))) (rB [decide (List.length (AV.toS (A.nthA ms (A.nat n0)))≤1000000),Zag (Zag (A.le 0 n0) (Nat.blt (A.nat n0) (A.lenA ms))) true] (bB (A.not (ZaH (AV.toS (A.nthA ms (A.nat n0))))) (F (AV.tup [AV.agg (Row.gen [.int .i64 1, .int .i64 n0]),AV.int .i64 4]) (none)) (rB [decide (List.length (A.subA ms 0 (A.nat n0-0))≤1000000),Zag (Zag (A.le 0 n0) (Nat.blt (A.nat n0) (A.lenA ms))) true,Zag (A.le 0 n0) (Zag (Zag (Nat.ble 0 (A.nat n0)) (Nat.ble (A.nat n0) (A.lenA ms))) true)] (bB (ZfX (A.subA ms 0 (A.nat n0-0)) (AV.toS (A.nthA ms (A.nat n0)))) (F (AV.tup [AV.agg (Row.gen [.int .i64 1, .int .i64 n0]),AV.int .i64 5]) (none)) (rB [A.inR .i64 (A.add n0 1)] (K (Zf9 (ms) (ks) (rs) (A.add n0 1)))))))) (bB (A.eq (A.int (A.lenA ks)) 0) (F (AV.tup [AV.agg (Row.gen [.int .i64 2, .int .i64 0]),AV.int .i64 10]) (none)) (bB (A.lt 8 (A.int (A.lenA ks))) (F (AV.tup [AV.agg (Row.gen [.int .i64 2, .int .i64 0]),AV.int .i64 8]) (none)) (K (Zk2 (ms) (ks) (rs)))))
theorem Zf6{A:Ar}{K:KT}{F:FT}{M:MT}{ms:List AV}{ks:List AV}{rs:List AV}{n0:Int} :ZbM A tab B6 11 K F M (.run 10 (.tf (.run 15 (.tf (.run 21 (.fn)) (.run 4 (.tf (.run 21 (.fn)) (.run 9 (.hd)))))) (.run 9 (.tf (.run 20 (.fn)) (.run 9 (.tf (.run 20 (.fn)) (.run 13 (.hd)))))))) (Zfa ms ks rs n0) (Zd2 ms ks rs n0)=Zca A K F ms ks rs n0:=by kernel_rfl
def ZcY(A:Ar)(K:KT)(F:FT)(ms:List AV)(ks:List AV)(rs:List AV):Prop:=bB (A.lt 0 (A.int (A.lenA ks))) (rB [decide (List.length ((A.nthA ks (A.nat 0)).cellAt 0).toS≤1000000),Zag (Zag (A.le 0 0) (Nat.blt (A.nat 0) (A.lenA ks))) true] (bB (A.not (ZaH ((A.nthA ks (A.nat 0)).cellAt 0).toS)) (F (AV.tup [AV.agg (Row.gen [.int .i64 2, .int .i64 0]),AV.int .i64 4]) (none)) (rB [Zag (Zag (A.le 0 0) (Nat.blt (A.nat 0) (A.lenA ks))) true] (rB [A.inR .i64 (A.sub (A.int (A.lenA ms)) 1),Zag (Zag (A.le 0 0) (Nat.blt (A.nat 0) (A.lenA ks))) true,Zag (Nat.ble (A.lenA [AV.str ((A.nthA ks (A.nat 0)).cellAt 0).toS]) 4294967296) (Nat.blt 0 (A.lenA [AV.str ((A.nthA ks (A.nat 0)).cellAt 0).toS])),List.all [AV.str ((A.nthA ks (A.nat 0)).cellAt 0).toS] fun x=>AV.bx x&&Nat.beq (Zam A x) 1,Zag (Zag (A.le 0 0) (Nat.blt (A.nat 0) (A.lenA ks))) true] (bB (A.not (Zad ((A.nthA ks (A.nat 0)).cellAt 1).toI (-1) (A.sub (A.int (A.lenA ms)) 1))) (F (AV.tup [AV.agg (Row.gen [.int .i64 2, .int .i64 0]),AV.int .i64 6]) (none)) (rB [A.inR .i64 (A.add 0 1)] (K (Zgu (ms) (ks) (rs) (A.add 0 1) ([AV.str ((A.nthA ks (A.nat 0)).cellAt 0).toS]))))))))) (bB (A.lt 10 (A.int (A.lenA rs))) (F (AV.tup [AV.agg (Row.gen [.int .i64 3, .int .i64 0]),AV.int .i64 8]) (none)) (K (ZgC (ms) (ks) (rs))))
theorem Zgq{A:Ar}{K:KT}{F:FT}{M:MT}{ms:List AV}{ks:List AV}{rs:List AV} :ZbM A tab B6 11 K F M (.run 10 (.tf (.run 16 (.tf (.run 21 (.fn)) (.run 14 (.fy (.run 18 (.tf (.run 21 (.fn)) (.run 9 (.hd)))))))) (.run 9 (.tf (.run 20 (.fn)) (.run 13 (.hd)))))) (ZdU ms ks rs) (Zc8 ms ks rs)=ZcY A K F ms ks rs:=by kernel_rfl
def Zc5(A:Ar)(K:KT)(F:FT)(ms:List AV)(ks:List AV)(rs:List AV)(n1:Int)(x2:List AV):Prop:=bB (A.lt n1 (A.int (A.lenA ks))) (rB [decide (List.length ((A.nthA ks (A.nat n1)).cellAt 0).toS≤1000000),Zag (Zag (A.le 0 n1) (Nat.blt (A.nat n1) (A.lenA ks))) true] (bB (A.not (ZaH ((A.nthA ks (A.nat n1)).cellAt 0).toS)) (F (AV.tup [AV.agg (Row.gen [.int .i64 2, .int .i64 n1]),AV.int .i64 4]) (none)) (rB [decide (List.length x2≤1000000),Zag (Zag (A.le 0 n1) (Nat.blt (A.nat n1) (A.lenA ks))) true] (bB (ZfX x2 ((A.nthA ks (A.nat n1)).cellAt 0).toS) (F (AV.tup [AV.agg (Row.gen [.int .i64 2, .int .i64 n1]),AV.int .i64 5]) (none)) (rB [A.inR .i64 (A.sub (A.int (A.lenA ms)) 1),Zag (Zag (A.le 0 n1) (Nat.blt (A.nat n1) (A.lenA ks))) true,Nat.ble (A.lenA x2+A.lenA [AV.str ((A.nthA ks (A.nat n1)).cellAt 0).toS]) 4294967296,List.all [AV.str ((A.nthA ks (A.nat n1)).cellAt 0).toS] fun x=>AV.bx x&&Nat.beq (Zam A x) 1,Zag (Zag (A.le 0 n1) (Nat.blt (A.nat n1) (A.lenA ks))) true] (bB (A.not (Zad ((A.nthA ks (A.nat n1)).cellAt 1).toI (-1) (A.sub (A.int (A.lenA ms)) 1))) (F (AV.tup [AV.agg (Row.gen [.int .i64 2, .int .i64 n1]),AV.int .i64 6]) (none)) (rB [A.inR .i64 (A.add n1 1)] (K (Zgu (ms) (ks) (rs) (A.add n1 1) (A.appA x2 [AV.str ((A.nthA ks (A.nat n1)).cellAt 0).toS])))))))))) (bB (A.lt 10 (A.int (A.lenA rs))) (F (AV.tup [AV.agg (Row.gen [.int .i64 3, .int .i64 0]),AV.int .i64 8]) (none)) (K (ZgC (ms) (ks) (rs))))
theorem Zgj{A:Ar}{K:KT}{F:FT}{M:MT}{ms:List AV}{ks:List AV}{rs:List AV}{n1:Int}{x2:List AV} :ZbM A tab B6 11 K F M (.run 10 (.tf (.run 16 (.tf (.run 21 (.fn)) (.run 14 (.tf (.run 21 (.fn)) (.run 18 (.tf (.run 21 (.fn)) (.run 9 (.hd)))))))) (.run 9 (.tf (.run 20 (.fn)) (.run 13 (.hd)))))) (Zfm ms ks rs n1 x2) (Zeg ms ks rs n1 x2)=Zc5 A K F ms ks rs n1 x2:=by kernel_rfl
def Zen(A:Ar)(K:KT)(F:FT)(ms:List AV)(ks:List AV)(rs:List AV):Prop:=bB (A.lt 0 (A.int (A.lenA rs))) (rB [decide (List.length ((A.nthA rs (A.nat 0)).cellAt 0).toS≤1000000),Zag (Zag (A.le 0 0) (Nat.blt (A.nat 0) (A.lenA rs))) true] (bB (A.not (ZaH ((A.nthA rs (A.nat 0)).cellAt 0).toS)) (F (AV.tup [AV.agg (Row.gen [.int .i64 3, .int .i64 0]),AV.int .i64 4]) (none)) (rB [A.inR .i64 (A.sub (A.int (A.lenA ks)) 1),Zag (Nat.ble (A.lenA [AV.str ((A.nthA rs (A.nat 0)).cellAt 0).toS]) 4294967296) (Nat.blt 0 (A.lenA [AV.str ((A.nthA rs (A.nat 0)).cellAt 0).toS])),List.all [AV.str ((A.nthA rs (A.nat 0)).cellAt 0).toS] fun x=>AV.bx x&&Nat.beq (Zam A x) 1] (bB (A.not (Zad ((A.nthA rs (A.nat 0)).cellAt 1).toI 0 (A.sub (A.int (A.lenA ks)) 1))) (F (AV.tup [AV.agg (Row.gen [.int .i64 3, .int .i64 0]),AV.int .i64 6]) (none)) (rB [A.inR .i64 (A.sub (A.int (A.lenA ms)) 1)] (bB (A.not (Zad ((A.nthA rs (A.nat 0)).cellAt 2).toI (-1) (A.sub (A.int (A.lenA ms)) 1))) (F (AV.tup [AV.agg (Row.gen [.int .i64 3, .int .i64 0]),AV.int .i64 6]) (none)) (rB [A.inR .i64 (A.sub (A.int (A.lenA ks)) 1)] (bB (A.not (Zad ((A.nthA rs (A.nat 0)).cellAt 3).toI (-1) (A.sub (A.int (A.lenA ks)) 1))) (F (AV.tup [AV.agg (Row.gen [.int .i64 3, .int .i64 0]),AV.int .i64 6]) (none)) (bB (A.not (Zad ((A.nthA rs (A.nat 0)).cellAt 4).toI 1 1000000)) (F (AV.tup [AV.agg (Row.gen [.int .i64 3, .int .i64 0]),AV.int .i64 2]) (none)) (bB (A.eq ((A.nthA rs (A.nat 0)).cellAt 3).toI (-1)) (bB (A.not (A.eq ((A.nthA rs (A.nat 0)).cellAt 4).toI 1)) (F (AV.tup [AV.agg (Row.gen [.int .i64 3, .int .i64 0]),AV.int .i64 3]) (none)) (rB [A.inR .i64 (A.add 0 1)] (K (ZcU (ms) (ks) (rs) (A.add 0 1) ([AV.str ((A.nthA rs (A.nat 0)).cellAt 0).toS]))))) (rB [A.inR .i64 (A.add 0 1)] (K (ZcU (ms) (ks) (rs) (A.add 0 1) ([AV.str ((A.nthA rs (A.nat 0)).cellAt 0).toS])))))))))))))) (F (AV.tup [AV.agg (Row.gen [.int .i64 0, .int .i64 0]),AV.int .i64 0]) (none))
theorem ZgN{A:Ar}{K:KT}{F:FT}{M:MT}{ms:List AV}{ks:List AV}{rs:List AV} :ZbM A tab B6 11 K F M (.run 10 (.tf (.run 21 (.tf (.run 21 (.fn)) (.run 9 (.fy (.run 22 (.tf (.ty (.ty (.ty (.ty (.ty (.ty (.ty (.ty (.run 1 (.ty (.ty (.ty (.ty (.ty (.ty (.ty (.ty (.ty (.run 2 (.ty (.run 21 (.fn)))))))))))))))))))))) (.fy (.fy (.fy (.fy (.fy (.fy (.fy (.fy (.run 1 (.tf (.ty (.ty (.ty (.ty (.ty (.ty (.ty (.ty (.run 2 (.ty (.run 21 (.fn)))))))))))) (.fy (.fy (.fy (.fy (.fy (.fy (.fy (.fy (.run 2 (.tf (.run 21 (.fn)) (.run 9 (.tf (.run 21 (.fn)) (.run 7 (.tf (.ty (.ty (.ty (.run 2 (.tf (.run 21 (.fn)) (.run 9 (.hd))))))) (.fy (.fy (.fy (.run 2 (.fy (.run 9 (.hd))))))))))))))))))))))))))))))))))))) (.run 8 (.fn)))) (Zdw ms ks rs) (ZcR ms ks rs)=Zen A K F ms ks rs:=by kernel_rfl
def ZdX(A:Ar)(K:KT)(F:FT)(ms:List AV)(ks:List AV)(rs:List AV)(n3:Int)(x4:List AV):Prop:=bB (A.lt n3 (A.int (A.lenA rs))) (rB [decide (List.length ((A.nthA rs (A.nat n3)).cellAt 0).toS≤1000000),Zag (Zag (A.le 0 n3) (Nat.blt (A.nat n3) (A.lenA rs))) true] (bB (A.not (ZaH ((A.nthA rs (A.nat n3)).cellAt 0).toS)) (F (AV.tup [AV.agg (Row.gen [.int .i64 3, .int .i64 n3]),AV.int .i64 4]) (none)) (rB [decide (List.length x4≤1000000)] (bB (ZfX x4 ((A.nthA rs (A.nat n3)).cellAt 0).toS) (F (AV.tup [AV.agg (Row.gen [.int .i64 3, .int .i64 n3]),AV.int .i64 5]) (none)) (rB [A.inR .i64 (A.sub (A.int (A.lenA ks)) 1),Nat.ble (A.lenA x4+A.lenA [AV.str ((A.nthA rs (A.nat n3)).cellAt 0).toS]) 4294967296,List.all [AV.str ((A.nthA rs (A.nat n3)).cellAt 0).toS] fun x=>AV.bx x&&Nat.beq (Zam A x) 1] (bB (A.not (Zad ((A.nthA rs (A.nat n3)).cellAt 1).toI 0 (A.sub (A.int (A.lenA ks)) 1))) (F (AV.tup [AV.agg (Row.gen [.int .i64 3, .int .i64 n3]),AV.int .i64 6]) (none)) (rB [A.inR .i64 (A.sub (A.int (A.lenA ms)) 1)] (bB (A.not (Zad ((A.nthA rs (A.nat n3)).cellAt 2).toI (-1) (A.sub (A.int (A.lenA ms)) 1))) (F (AV.tup [AV.agg (Row.gen [.int .i64 3, .int .i64 n3]),AV.int .i64 6]) (none)) (rB [A.inR .i64 (A.sub (A.int (A.lenA ks)) 1)] (bB (A.not (Zad ((A.nthA rs (A.nat n3)).cellAt 3).toI (-1) (A.sub (A.int (A.lenA ks)) 1))) (F (AV.tup [AV.agg (Row.gen [.int .i64 3, .int .i64 n3]),AV.int .i64 6]) (none)) (bB (A.not (Zad ((A.nthA rs (A.nat n3)).cellAt 4).toI 1 1000000)) (F (AV.tup [AV.agg (Row.gen [.int .i64 3, .int .i64 n3]),AV.int .i64 2]) (none)) (bB (A.eq ((A.nthA rs (A.nat n3)).cellAt 3).toI (-1)) (bB (A.not (A.eq ((A.nthA rs (A.nat n3)).cellAt 4).toI 1)) (F (AV.tup [AV.agg (Row.gen [.int .i64 3, .int .i64 n3]),AV.int .i64 3]) (none)) (rB [A.inR .i64 (A.add n3 1)] (K (ZcU (ms) (ks) (rs) (A.add n3 1) (A.appA x4 [AV.str ((A.nthA rs (A.nat n3)).cellAt 0).toS]))))) (rB [A.inR .i64 (A.add n3 1)] (K (ZcU (ms) (ks) (rs) (A.add n3 1) (A.appA x4 [AV.str ((A.nthA rs (A.nat n3)).cellAt 0).toS])))))))))))))))) (F (AV.tup [AV.agg (Row.gen [.int .i64 0, .int .i64 0]),AV.int .i64 0]) (none))
theorem Zgt{A:Ar}{K:KT}{F:FT}{M:MT}{ms:List AV}{ks:List AV}{rs:List AV}{n3:Int}{x4:List AV} :ZbM A tab B6 11 K F M (.run 10 (.tf (.run 21 (.tf (.run 21 (.fn)) (.run 9 (.tf (.run 21 (.fn)) (.run 22 (.tf (.ty (.ty (.ty (.ty (.ty (.ty (.ty (.ty (.run 1 (.ty (.ty (.ty (.ty (.ty (.ty (.ty (.ty (.ty (.run 2 (.ty (.run 21 (.fn)))))))))))))))))))))) (.fy (.fy (.fy (.fy (.fy (.fy (.fy (.fy (.run 1 (.tf (.ty (.ty (.ty (.ty (.ty (.ty (.ty (.ty (.run 2 (.ty (.run 21 (.fn)))))))))))) (.fy (.fy (.fy (.fy (.fy (.fy (.fy (.fy (.run 2 (.tf (.run 21 (.fn)) (.run 9 (.tf (.run 21 (.fn)) (.run 7 (.tf (.ty (.ty (.ty (.run 2 (.tf (.run 21 (.fn)) (.run 9 (.hd))))))) (.fy (.fy (.fy (.run 2 (.fy (.run 9 (.hd))))))))))))))))))))))))))))))))))))) (.run 8 (.fn)))) (Ze4 ms ks rs n3 x4) (Zd4 ms ks rs n3 x4)=ZdX A K F ms ks rs n3 x4:=by kernel_rfl
def ZrV(ms:List AV)(ks:List AV)(rs:List AV)(a:Int)(b:Int)(xs:List Int)(k:Int):AFrame:={ fn:=13,N:=64,env:=[(0,AV.agg (Row.gen [.list (Row.big .str ms), .list (Row.big (.agg [.str, .int .i64]) ks), .list (Row.big (.agg [.str, .int .i64, .int .i64, .int .i64, .int .i64]) rs)])),(1,AV.agg (Row.gen [.int .i64 a, .int .i64 b, .list (.ints .i64 xs)])),(2,AV.int .i64 k)],todo:=[.code a13.code],defs:=[],rnd:=none,ret:=false,res:=[ARes.tmp 6,ARes.tmp 7] }
def Zyl(ms:List AV)(ks:List AV)(rs:List AV)(a:Int)(b:Int)(xs:List Int)(k:Int):List AFrame:=[(ZrV ms ks rs a b xs k)]
theorem Zqw(ms:List AV)(ks:List AV)(rs:List AV)(a:Int)(b:Int)(xs:List Int)(k:Int):ZaC tab 13 [AV.agg (Row.gen [.list (Row.big .str ms), .list (Row.big (.agg [.str, .int .i64]) ks), .list (Row.big (.agg [.str, .int .i64, .int .i64, .int .i64, .int .i64]) rs)]),AV.agg (Row.gen [.int .i64 a, .int .i64 b, .list (.ints .i64 xs)]),AV.int .i64 k]=some (ZrV ms ks rs a b xs k):=rfl
def Zdz(ms ks rs:List AV)(a b:Int)(xs:List Int)(k n0 n1 n2:Int)(b3:Bool)(n4:Int):List AFrame:=[{ fn:=45,N:=66,env:=[(0,AV.ptr 13011 0 0 0),(1,AV.int .i64 k),(11,AV.list (Row.big (.agg [.str, .int .i64, .int .i64, .int .i64, .int .i64]) rs)),(12,AV.int .i64 n0),(13,AV.int .i64 n4)],todo:=.code (ACode.gh [] ZsS)::Zug,defs:=[],rnd:=none,ret:=false,res:=[ARes.tmp 4] },{ fn:=13,N:=64,env:=[(2,AV.int .i64 k),(3,AV.ptr 13004 0 0 0),(4,AV.ptr 13005 0 0 0),(9,AV.int .i64 n1),(10,AV.ptr 13011 0 0 0),(50,AV.int .i64 n2),(51,AV.bool b3),(53,AV.agg (Row.gen [.list (Row.big .str ms), .list (Row.big (.agg [.str, .int .i64]) ks), .list (Row.big (.agg [.str, .int .i64, .int .i64, .int .i64, .int .i64]) rs)])),(54,AV.agg (Row.gen [.int .i64 a, .int .i64 b, .list (.ints .i64 xs)])),(55,AV.agg (Row.gen [.list (Row.big .str ms), .list (Row.big (.agg [.str, .int .i64]) ks), .list (Row.big (.agg [.str, .int .i64, .int .i64, .int .i64, .int .i64]) rs), .int .i64 a, .int .i64 b, .list (.ints .i64 xs)])),(56,AV.int .i64 k)],todo:=[AItem.inReg [oN 57 (OpK.icall 45 [Opd.t 10,Opd.t 56]),mV 11 57], .code (ACode.seq (ACode.reg none [mV 58 11,oN 59 (OpK.pnil true (Opd.t 58))]) (ACode.cond (Opd.t 59) (ACode.seq (ACode.reg none [mV 60 11,oN 61 (OpK.nilck (Opd.t 60)),oN 62 (OpK.faddr 0 (Opd.t 61)),oN 63 (OpK.load false 1 (Opd.t 62)),mV 6 63,oN 7 (OpK.mov (cI 0))]) ACode.ret) ACode.skip)), .code (ACode.seq (ACode.reg none [oN 6 (OpK.mov (Opd.c (AV.str []))),oN 7 (OpK.mov (cI 0))]) ACode.ret)],defs:=[],rnd:=none,ret:=false,res:=[ARes.tmp 6,ARes.tmp 7] }]
def ZcV(ms:List AV)(ks:List AV)(rs:List AV)(a:Int)(b:Int)(xs:List Int)(k:Int)(n0:Int)(n1:Int)(n2:Int)(b3:Bool)(n4:Int):Zab:=[(13004,{ base:=0,blks:=[Blk.row 26 3 (Row.gen [AV.agg (Row.gen [AV.list (Row.big .str ms),AV.list (Row.big (.agg [.str, .int .i64]) ks),AV.list (Row.big (.agg [.str, .int .i64, .int .i64, .int .i64, .int .i64]) rs)])])] }),(13005,{ base:=0,blks:=[Blk.row 46 3 (Row.gen [AV.agg (Row.gen [AV.int .i64 a,AV.int .i64 b,AV.list (.ints .i64 xs)])])] }),(13011,{ base:=0,blks:=[Blk.row 99 6 (Row.gen [AV.agg (Row.gen [AV.list (Row.big .str ms),AV.list (Row.big (.agg [.str, .int .i64]) ks),AV.list (Row.big (.agg [.str, .int .i64, .int .i64, .int .i64, .int .i64]) rs),AV.int .i64 a,AV.int .i64 b,AV.list (.ints .i64 xs)])])] })]
abbrev Zbn(ms:List AV)(ks:List AV)(rs:List AV)(a:Int)(b:Int)(xs:List Int)(k:Int)(n0:Int)(n1:Int)(n2:Int)(b3:Bool)(n4:Int):List AFrame×Zab:=(Zdz ms ks rs a b xs k n0 n1 n2 b3 n4,ZcV ms ks rs a b xs k n0 n1 n2 b3 n4)
def ZrQ(A:Ar)(K:KT)(F:FT)(ms:List AV)(ks:List AV)(rs:List AV)(a:Int)(b:Int)(xs:List Int)(k:Int):Prop:=rB [decide (List.length [ZaF ms ks rs,Zaa (Zad a 0 (A.sub (A.int (A.lenA ms)) 1)) 6,Zaa (Zad b 0 1000000000000) 2,Zaa (A.eq (A.int (A.len xs)) (A.int (A.lenA ks))) 10,Zaa (A.not (List.any xs (ZeP b))) 2,Zaa (Zad k 0 (A.sub (A.int (A.lenA ks)) 1)) 15]≤1000000),List.all [AV.int .i64 (ZaF ms ks rs),AV.int .i64 (Zaa (Zad a 0 (A.sub (A.int (A.lenA ms)) 1)) 6),AV.int .i64 (Zaa (Zad b 0 1000000000000) 2),AV.int .i64 (Zaa (A.eq (A.int (A.len xs)) (A.int (A.lenA ks))) 10),AV.int .i64 (Zaa (A.not (List.any xs (ZeP b))) 2),AV.int .i64 (Zaa (Zad k 0 (A.sub (A.int (A.lenA ks)) 1)) 15)] fun x=>AV.bx x&&Nat.beq (Zam A x) 1,A.inR .i64 (A.sub (A.int (A.lenA ks)) 1),decide (List.length xs≤1000000),A.inR .i64 (A.sub (A.int (A.lenA ms)) 1),decide (ZaI ms ks rs=true)] (bB (A.not (A.eq (Zan [ZaF ms ks rs,Zaa (Zad a 0 (A.sub (A.int (A.lenA ms)) 1)) 6,Zaa (Zad b 0 1000000000000) 2,Zaa (A.eq (A.int (A.len xs)) (A.int (A.lenA ks))) 10,Zaa (A.not (List.any xs (ZeP b))) 2,Zaa (Zad k 0 (A.sub (A.int (A.lenA ks)) 1)) 15]) 0)) (F (AV.tup [AV.str [],AV.int .i64 (Zan [ZaF ms ks rs,Zaa (Zad a 0 (A.sub (A.int (A.lenA ms)) 1)) 6,Zaa (Zad b 0 1000000000000) 2,Zaa (A.eq (A.int (A.len xs)) (A.int (A.lenA ks))) 10,Zaa (A.not (List.any xs (ZeP b))) 2,Zaa (Zad k 0 (A.sub (A.int (A.lenA ks)) 1)) 15])]) (none)) (K (Zbn (ms) (ks) (rs) (a) (b) (xs) (k) (A.int (A.lenA rs)) (Zan [ZaF ms ks rs,Zaa (Zad a 0 (A.sub (A.int (A.lenA ms)) 1)) 6,Zaa (Zad b 0 1000000000000) 2,Zaa (A.eq (A.int (A.len xs)) (A.int (A.lenA ks))) 10,Zaa (A.not (List.any xs (ZeP b))) 2,Zaa (Zad k 0 (A.sub (A.int (A.lenA ks)) 1)) 15]) (Zan [ZaF ms ks rs,Zaa (Zad a 0 (A.sub (A.int (A.lenA ms)) 1)) 6,Zaa (Zad b 0 1000000000000) 2,Zaa (A.eq (A.int (A.len xs)) (A.int (A.lenA ks))) 10,Zaa (A.not (List.any xs (ZeP b))) 2,Zaa (Zad k 0 (A.sub (A.int (A.lenA ks)) 1)) 15]) (A.not (A.eq (Zan [ZaF ms ks rs,Zaa (Zad a 0 (A.sub (A.int (A.lenA ms)) 1)) 6,Zaa (Zad b 0 1000000000000) 2,Zaa (A.eq (A.int (A.len xs)) (A.int (A.lenA ks))) 10,Zaa (A.not (List.any xs (ZeP b))) 2,Zaa (Zad k 0 (A.sub (A.int (A.lenA ks)) 1)) 15]) 0)) (0))))
theorem Zvc{A:Ar}{K:KT}{F:FT}{M:MT}{ms:List AV}{ks:List AV}{rs:List AV}{a:Int}{b:Int}{xs:List Int}{k:Int} :ZbM A tab B6 13 K F M (.run 21 (.tf (.run 7 (.fn)) (.run 32 (.hd)))) (Zyl ms ks rs a b xs k) []=ZrQ A K F ms ks rs a b xs k:=by kernel_rfl
def Zeo(A:Ar)(K:KT)(F:FT)(ms:List AV)(ks:List AV)(rs:List AV)(a:Int)(b:Int)(xs:List Int)(k:Int)(n0:Int)(n1:Int)(n2:Int)(b3:Bool)(n4:Int):Prop:=bB (A.lt n4 n0) (rB [Zag (Zag (A.le 0 n4) (Nat.blt (A.nat n4) (A.lenA rs))) true] (qB [A.eq ((A.nthA rs (A.nat n4)).cellAt 2).toI (-1),A.eq ((A.nthA rs (A.nat n4)).cellAt 1).toI k] (rB [!A.not true] (qB [A.eq ((A.nthA rs (A.nat n4)).cellAt 3).toI (-1)] (rB [Zag (Zag (A.le 0 n4) (Nat.blt (A.nat n4) (A.lenA rs))) true] (F (AV.tup [AV.str ((A.nthA rs (A.nat n4)).cellAt 0).toS,AV.int .i64 0]) (none))) (qB [A.inR .i64 (A.sub b (A.nth xs (A.nat ((A.nthA rs (A.nat n4)).cellAt 3).toI))),Zag (Zag (A.le 0 ((A.nthA rs (A.nat n4)).cellAt 3).toI) (Nat.blt (A.nat ((A.nthA rs (A.nat n4)).cellAt 3).toI) (A.len xs))) true,A.not (A.eq (A.nth xs (A.nat ((A.nthA rs (A.nat n4)).cellAt 3).toI)) (-1)),Zag (Zag (A.le 0 ((A.nthA rs (A.nat n4)).cellAt 3).toI) (Nat.blt (A.nat ((A.nthA rs (A.nat n4)).cellAt 3).toI) (A.len xs))) true,!A.eq ((A.nthA rs (A.nat n4)).cellAt 3).toI (-1)] (bB (A.lt (A.sub b (A.nth xs (A.nat ((A.nthA rs (A.nat n4)).cellAt 3).toI))) ((A.nthA rs (A.nat n4)).cellAt 4).toI) (rB [Zag (Zag (A.le 0 n4) (Nat.blt (A.nat n4) (A.lenA rs))) true] (F (AV.tup [AV.str ((A.nthA rs (A.nat n4)).cellAt 0).toS,AV.int .i64 0]) (none))) (rB [A.inR .i64 (A.add n4 1)] (K (Zbn (ms) (ks) (rs) (a) (b) (xs) (k) (n0) (n1) (n2) (b3) (A.add n4 1))))) (rB [!A.not (A.eq (A.nth xs (A.nat ((A.nthA rs (A.nat n4)).cellAt 3).toI)) (-1)),Zag (Zag (A.le 0 ((A.nthA rs (A.nat n4)).cellAt 3).toI) (Nat.blt (A.nat ((A.nthA rs (A.nat n4)).cellAt 3).toI) (A.len xs))) true,!A.eq ((A.nthA rs (A.nat n4)).cellAt 3).toI (-1)] (rB [A.inR .i64 (A.add n4 1)] (K (Zbn (ms) (ks) (rs) (a) (b) (xs) (k) (n0) (n1) (n2) (b3) (A.add n4 1)))))))) (qB [!A.eq ((A.nthA rs (A.nat n4)).cellAt 2).toI (-1),A.eq ((A.nthA rs (A.nat n4)).cellAt 1).toI k] (bB (A.not (A.eq ((A.nthA rs (A.nat n4)).cellAt 2).toI a)) (rB [A.inR .i64 (A.add n4 1)] (K (Zbn (ms) (ks) (rs) (a) (b) (xs) (k) (n0) (n1) (n2) (b3) (A.add n4 1)))) (qB [A.eq ((A.nthA rs (A.nat n4)).cellAt 3).toI (-1)] (rB [Zag (Zag (A.le 0 n4) (Nat.blt (A.nat n4) (A.lenA rs))) true] (F (AV.tup [AV.str ((A.nthA rs (A.nat n4)).cellAt 0).toS,AV.int .i64 0]) (none))) (qB [A.inR .i64 (A.sub b (A.nth xs (A.nat ((A.nthA rs (A.nat n4)).cellAt 3).toI))),Zag (Zag (A.le 0 ((A.nthA rs (A.nat n4)).cellAt 3).toI) (Nat.blt (A.nat ((A.nthA rs (A.nat n4)).cellAt 3).toI) (A.len xs))) true,A.not (A.eq (A.nth xs (A.nat ((A.nthA rs (A.nat n4)).cellAt 3).toI)) (-1)),Zag (Zag (A.le 0 ((A.nthA rs (A.nat n4)).cellAt 3).toI) (Nat.blt (A.nat ((A.nthA rs (A.nat n4)).cellAt 3).toI) (A.len xs))) true,!A.eq ((A.nthA rs (A.nat n4)).cellAt 3).toI (-1)] (bB (A.lt (A.sub b (A.nth xs (A.nat ((A.nthA rs (A.nat n4)).cellAt 3).toI))) ((A.nthA rs (A.nat n4)).cellAt 4).toI) (rB [Zag (Zag (A.le 0 n4) (Nat.blt (A.nat n4) (A.lenA rs))) true] (F (AV.tup [AV.str ((A.nthA rs (A.nat n4)).cellAt 0).toS,AV.int .i64 0]) (none))) (rB [A.inR .i64 (A.add n4 1)] (K (Zbn (ms) (ks) (rs) (a) (b) (xs) (k) (n0) (n1) (n2) (b3) (A.add n4 1))))) (rB [!A.not (A.eq (A.nth xs (A.nat ((A.nthA rs (A.nat n4)).cellAt 3).toI)) (-1)),Zag (Zag (A.le 0 ((A.nthA rs (A.nat n4)).cellAt 3).toI) (Nat.blt (A.nat ((A.nthA rs (A.nat n4)).cellAt 3).toI) (A.len xs))) true,!A.eq ((A.nthA rs (A.nat n4)).cellAt 3).toI (-1)] (rB [A.inR .i64 (A.add n4 1)] (K (Zbn (ms) (ks) (rs) (a) (b) (xs) (k) (n0) (n1) (n2) (b3) (A.add n4 1)))))))) (rB [!A.eq ((A.nthA rs (A.nat n4)).cellAt 1).toI k] (rB [A.not false] (rB [A.inR .i64 (A.add n4 1)] (K (Zbn (ms) (ks) (rs) (a) (b) (xs) (k) (n0) (n1) (n2) (b3) (A.add n4 1))))))))) (F (AV.tup [AV.str [],AV.int .i64 0]) (none))
theorem Zgo{A:Ar}{K:KT}{F:FT}{M:MT}{ms:List AV}{ks:List AV}{rs:List AV}{a:Int}{b:Int}{xs:List Int}{k:Int}{n0:Int}{n1:Int}{n2:Int}{b3:Bool}{n4:Int} :ZbM A tab B6 13 K F M (.run 6 (.tf (.run 25 (.alt [true,true] (.run 5 (.fy (.run 2 (.alt [true] (.run 1 (.ty (.run 21 (.ty (.run 10 (.fn)))))) (.alt [false,true] (.run 1 (.tf (.run 21 (.ty (.run 10 (.fn)))) (.run 8 (.hd)))) (.alt [false,false] (.run 1 (.fy (.run 8 (.hd)))) (.no))))))) (.alt [true,false] (.run 5 (.tf (.run 7 (.hd)) (.run 2 (.alt [true] (.run 1 (.ty (.run 21 (.ty (.run 10 (.fn)))))) (.alt [false,true] (.run 1 (.tf (.run 21 (.ty (.run 10 (.fn)))) (.run 8 (.hd)))) (.alt [false,false] (.run 1 (.fy (.run 8 (.hd)))) (.no))))))) (.fy (.run 5 (.ty (.run 7 (.hd)))))))) (.run 14 (.fy (.run 7 (.fn)))))) (Zdz ms ks rs a b xs k n0 n1 n2 b3 n4) (ZcV ms ks rs a b xs k n0 n1 n2 b3 n4)=Zeo A K F ms ks rs a b xs k n0 n1 n2 b3 n4:=by kernel_rfl
def ZsG(ms:List AV)(ks:List AV)(rs:List AV)(a:Int)(b:Int)(xs:List Int)(k:Int):AFrame:={ fn:=18,N:=65,env:=[(0,AV.agg (Row.gen [.list (Row.big .str ms), .list (Row.big (.agg [.str, .int .i64]) ks), .list (Row.big (.agg [.str, .int .i64, .int .i64, .int .i64, .int .i64]) rs)])),(1,AV.agg (Row.gen [.int .i64 a, .int .i64 b, .list (.ints .i64 xs)])),(2,AV.int .i64 k)],todo:=[.code a18.code],defs:=[],rnd:=none,ret:=false,res:=[ARes.tmp 6] }
def Zxt(ms:List AV)(ks:List AV)(rs:List AV)(a:Int)(b:Int)(xs:List Int)(k:Int):List AFrame:=[(ZsG ms ks rs a b xs k)]
theorem ZpM(ms:List AV)(ks:List AV)(rs:List AV)(a:Int)(b:Int)(xs:List Int)(k:Int):ZaC tab 18 [AV.agg (Row.gen [.list (Row.big .str ms), .list (Row.big (.agg [.str, .int .i64]) ks), .list (Row.big (.agg [.str, .int .i64, .int .i64, .int .i64, .int .i64]) rs)]),AV.agg (Row.gen [.int .i64 a, .int .i64 b, .list (.ints .i64 xs)]),AV.int .i64 k]=some (ZsG ms ks rs a b xs k):=rfl
def ZdD(ms ks rs:List AV)(a b:Int)(xs:List Int)(k n0:Int):List AFrame:=[{ fn:=18,N:=65,env:=[(2,AV.int .i64 k),(3,AV.ptr 18004 0 0 0),(4,AV.ptr 18005 0 0 0),(7,AV.int .i64 n0)],todo:=.code (ACode.gh [] Zs2)::Zv2,defs:=[],rnd:=none,ret:=false,res:=[ARes.tmp 6] }]
def Zc2(ms:List AV)(ks:List AV)(rs:List AV)(a:Int)(b:Int)(xs:List Int)(k:Int)(n0:Int):Zab:=[(18004,{ base:=0,blks:=[Blk.row 26 3 (Row.gen [AV.agg (Row.gen [AV.list (Row.big .str ms),AV.list (Row.big (.agg [.str, .int .i64]) ks),AV.list (Row.big (.agg [.str, .int .i64, .int .i64, .int .i64, .int .i64]) rs)])])] }),(18005,{ base:=0,blks:=[Blk.row 46 3 (Row.gen [AV.agg (Row.gen [AV.int .i64 a,AV.int .i64 b,AV.list (.ints .i64 xs)])])] })]
abbrev Zbl(ms:List AV)(ks:List AV)(rs:List AV)(a:Int)(b:Int)(xs:List Int)(k:Int)(n0:Int):List AFrame×Zab:=(ZdD ms ks rs a b xs k n0,Zc2 ms ks rs a b xs k n0)
def ZuB(A:Ar)(K:KT)(F:FT)(ms:List AV)(ks:List AV)(rs:List AV)(a:Int)(b:Int)(xs:List Int)(k:Int):Prop:=K (Zbl (ms) (ks) (rs) (a) (b) (xs) (k) (0))
theorem ZvG{A:Ar}{K:KT}{F:FT}{M:MT}{ms:List AV}{ks:List AV}{rs:List AV}{a:Int}{b:Int}{xs:List Int}{k:Int} :ZbM A tab B6 18 K F M (.run 14 (.hd)) (Zxt ms ks rs a b xs k) []=ZuB A K F ms ks rs a b xs k:=by kernel_rfl
def Zd7(A:Ar)(K:KT)(F:FT)(ms:List AV)(ks:List AV)(rs:List AV)(a:Int)(b:Int)(xs:List Int)(k:Int)(n0:Int):Prop:=bB (A.lt n0 (A.int (A.lenA rs))) (rB [Zag (Zag (A.le 0 n0) (Nat.blt (A.nat n0) (A.lenA rs))) true] (bB (A.not (A.eq ((A.nthA rs (A.nat n0)).cellAt 1).toI k)) (rB [A.inR .i64 (A.add n0 1)] (K (Zbl (ms) (ks) (rs) (a) (b) (xs) (k) (A.add n0 1)))) (bB (A.not (A.eq ((A.nthA rs (A.nat n0)).cellAt 2).toI (-1))) (bB (A.not (A.eq ((A.nthA rs (A.nat n0)).cellAt 2).toI a)) (rB [A.inR .i64 (A.add n0 1)] (K (Zbl (ms) (ks) (rs) (a) (b) (xs) (k) (A.add n0 1)))) (qB [A.eq ((A.nthA rs (A.nat n0)).cellAt 3).toI (-1)] (F (AV.str ((A.nthA rs (A.nat n0)).cellAt 0).toS) (none)) (qB [A.inR .i64 (A.sub b (A.nth xs (A.nat ((A.nthA rs (A.nat n0)).cellAt 3).toI))),Zag (Zag (A.le 0 ((A.nthA rs (A.nat n0)).cellAt 3).toI) (Nat.blt (A.nat ((A.nthA rs (A.nat n0)).cellAt 3).toI) (A.len xs))) true,A.not (A.eq (A.nth xs (A.nat ((A.nthA rs (A.nat n0)).cellAt 3).toI)) (-1)),Zag (Zag (A.le 0 ((A.nthA rs (A.nat n0)).cellAt 3).toI) (Nat.blt (A.nat ((A.nthA rs (A.nat n0)).cellAt 3).toI) (A.len xs))) true,!A.eq ((A.nthA rs (A.nat n0)).cellAt 3).toI (-1)] (bB (A.lt (A.sub b (A.nth xs (A.nat ((A.nthA rs (A.nat n0)).cellAt 3).toI))) ((A.nthA rs (A.nat n0)).cellAt 4).toI) (F (AV.str ((A.nthA rs (A.nat n0)).cellAt 0).toS) (none)) (rB [A.inR .i64 (A.add n0 1)] (K (Zbl (ms) (ks) (rs) (a) (b) (xs) (k) (A.add n0 1))))) (rB [!A.not (A.eq (A.nth xs (A.nat ((A.nthA rs (A.nat n0)).cellAt 3).toI)) (-1)),Zag (Zag (A.le 0 ((A.nthA rs (A.nat n0)).cellAt 3).toI) (Nat.blt (A.nat ((A.nthA rs (A.nat n0)).cellAt 3).toI) (A.len xs))) true,!A.eq ((A.nthA rs (A.nat n0)).cellAt 3).toI (-1)] (rB [A.inR .i64 (A.add n0 1)] (K (Zbl (ms) (ks) (rs) (a) (b) (xs) (k) (A.add n0 1)))))))) (qB [A.eq ((A.nthA rs (A.nat n0)).cellAt 3).toI (-1)] (F (AV.str ((A.nthA rs (A.nat n0)).cellAt 0).toS) (none)) (qB [A.inR .i64 (A.sub b (A.nth xs (A.nat ((A.nthA rs (A.nat n0)).cellAt 3).toI))),Zag (Zag (A.le 0 ((A.nthA rs (A.nat n0)).cellAt 3).toI) (Nat.blt (A.nat ((A.nthA rs (A.nat n0)).cellAt 3).toI) (A.len xs))) true,A.not (A.eq (A.nth xs (A.nat ((A.nthA rs (A.nat n0)).cellAt 3).toI)) (-1)),Zag (Zag (A.le 0 ((A.nthA rs (A.nat n0)).cellAt 3).toI) (Nat.blt (A.nat ((A.nthA rs (A.nat n0)).cellAt 3).toI) (A.len xs))) true,!A.eq ((A.nthA rs (A.nat n0)).cellAt 3).toI (-1)] (bB (A.lt (A.sub b (A.nth xs (A.nat ((A.nthA rs (A.nat n0)).cellAt 3).toI))) ((A.nthA rs (A.nat n0)).cellAt 4).toI) (F (AV.str ((A.nthA rs (A.nat n0)).cellAt 0).toS) (none)) (rB [A.inR .i64 (A.add n0 1)] (K (Zbl (ms) (ks) (rs) (a) (b) (xs) (k) (A.add n0 1))))) (rB [!A.not (A.eq (A.nth xs (A.nat ((A.nthA rs (A.nat n0)).cellAt 3).toI)) (-1)),Zag (Zag (A.le 0 ((A.nthA rs (A.nat n0)).cellAt 3).toI) (Nat.blt (A.nat ((A.nthA rs (A.nat n0)).cellAt 3).toI) (A.len xs))) true,!A.eq ((A.nthA rs (A.nat n0)).cellAt 3).toI (-1)] (rB [A.inR .i64 (A.add n0 1)] (K (Zbl (ms) (ks) (rs) (a) (b) (xs) (k) (A.add n0 1)))))))))) (F (AV.str []) (none))
theorem Zf8{A:Ar}{K:KT}{F:FT}{M:MT}{ms:List AV}{ks:List AV}{rs:List AV}{a:Int}{b:Int}{xs:List Int}{k:Int}{n0:Int} :ZbM A tab B6 18 K F M (.run 10 (.tf (.run 21 (.tf (.ty (.ty (.ty (.run 5 (.ty (.ty (.run 2 (.ty (.run 8 (.hd)))))))))) (.fy (.fy (.fy (.tf (.ty (.ty (.ty (.ty (.alt [false,true] (.fy (.run 2 (.tf (.run 8 (.hd)) (.run 2 (.alt [true] (.run 1 (.ty (.run 7 (.fn)))) (.alt [false,true] (.run 1 (.tf (.run 7 (.fn)) (.run 9 (.hd)))) (.alt [false,false] (.run 1 (.fy (.run 9 (.hd)))) (.no)))))))) (.no)))))) (.fy (.fy (.fy (.fy (.alt [false,false] (.fy (.run 2 (.fy (.run 2 (.alt [true] (.run 1 (.ty (.run 7 (.fn)))) (.alt [false,true] (.run 1 (.tf (.run 7 (.fn)) (.run 9 (.hd)))) (.alt [false,false] (.run 1 (.fy (.run 9 (.hd)))) (.no)))))))) (.no)))))))))))) (.run 6 (.fn)))) (ZdD ms ks rs a b xs k n0) (Zc2 ms ks rs a b xs k n0)=Zd7 A K F ms ks rs a b xs k n0:=by kernel_rfl
end Go.Proofs.YtkeoeooghhjibaaDoor
/- CheckModel of the reference. No condition. -/
namespace Go.Proofs.YtkeoeooghhjibaaDoor
theorem ZpE{nm:List UInt8}{ex:Int}{xs:List AV}(h:ZaH nm=false):ZbW nm ex xs=4:=by simp[ZbW,Zan,Zaa,h]
theorem Zqk{nm:List UInt8}{ex:Int}{xs:List AV}(h:ZaH nm=true)(h2:ZfX xs nm=true):ZbW nm ex xs=5:=by
 have h3:std.hasS xs nm=true:=h2
 simp[-ZcO,ZbW,Zan,Zaa,h,h3]
theorem Zqs{nm:List UInt8}{ex:Int}{xs:List AV}(h:ZaH nm=true)(h2:ZfX xs nm=false):ZbW nm ex xs=ex:=by
 have h3:std.hasS xs nm=false:=h2
 by_cases h4:ex=0<;>simp[-ZcO,ZbW,Zan,Zaa,h,h3,h4]
theorem Zex{n m:Int}(hm:0≤m):Zf0 n m=Zad n (-1) (m-1):=by
 unfold Zf0 Zad
 by_cases h:n= -1
 ·rw[if_pos h,decide_eq_true (by omega)]
 ·rw[if_neg h]
  by_cases h2:0≤n∧n≤m-1
  ·rw[decide_eq_true h2,decide_eq_true (by omega)]
  ·rw[decide_eq_false h2,decide_eq_false (by omega)]
theorem Zeq(nm:Nat→List UInt8)(ex:Nat→Int)(m k:Nat)(xs:List AV)(p:Int)(d:AV):Zbg p (Za5 nm ex (m+1) k xs) d=if ZbW (nm k) (ex k) xs=0 then Zbg p (Za5 nm ex m (k+1) (xs++[.str (nm k)])) d else Za6 p k (ZbW (nm k) (ex k) xs):=by
 rw[Za5];split<;>rfl
theorem ZdS(nm:List UInt8)(ex:Int)(xs:List AV):ZbW nm ex xs=if ZaH nm=true then(if ZfX xs nm=true then 5 else ex)else 4:=by
 by_cases h:ZaH nm=true
 ·by_cases h2:ZfX xs nm=true
  ·rw[if_pos h,if_pos h2,Zqk h h2]
  ·rw[if_pos h,if_neg h2,Zqs h (by simpa using h2)]
 ·rw[if_neg h,ZpE (by simpa using h)]
theorem Zhh(rs:List AV)(k n m:Nat):Zbs rs k n m=if Zad (ZaJ rs k 1) 0 ((n:Int)-1)=true∧Zad (ZaJ rs k 2) (-1) ((m:Int)-1)=true∧Zad (ZaJ rs k 3) (-1) ((n:Int)-1)=true then(if Zad (ZaJ rs k 4) 1 1000000=true then(if ZaJ rs k 3= -1∧¬ZaJ rs k 4=1 then 3 else 0)else 2)else 6:=by
 rw[Zbs,Zex (by omega),Zex (by omega)]
 by_cases h1:Zad (ZaJ rs k 1) 0 ((n:Int)-1)=true<;>by_cases h2:Zad (ZaJ rs k 2) (-1) ((m:Int)-1)=true<;>by_cases h3:Zad (ZaJ rs k 3) (-1) ((n:Int)-1)=true<;>by_cases h4:Zad (ZaJ rs k 4) 1 1000000=true<;>by_cases h5:ZaJ rs k 3= -1<;>by_cases h6:ZaJ rs k 4=1<;>simp_all[Zan,Zaa]
theorem ZmS{xs ys:List AV}(h:xs.map AV.toS=ys.map AV.toS){s:List UInt8} :ZfX xs s=ZfX ys s:=by
 have e:∀l:List AV,ZfX l s=(l.map AV.toS).any (· ==s):=fun l=>by simp[ZfX,List.any_map,Function.comp_def]
 rw[e,e,h]
theorem Zj1(ks:List AV)(k m:Nat):ZbY ks k m=if Zad (ZaJ ks k 1) (-1) ((m:Int)-1)=true then 0 else 6:=by
 rw[ZbY,Zex (by omega)];split<;>simp_all[Zaa]
section
variable {C:Ctx}(hC:C.P=Tryd.prog)(ms ks rs:List AV)(hs:ZaI ms ks rs=true)
include hC hs
theorem ZrO:∀(m k:Nat) (xs:List AV),k+m=rs.length→xs.length≤k→Ev C (Ze4 ms ks rs k xs) (Zd4 ms ks rs k xs)
 (Zcp 11 (Zbg 3 (Za5 (fun k=>Zau rs k) (fun k=>Zbs rs k ks.length ms.length) m k xs) (Za6 0 0 0)) none)
 |0,k,xs,hk,hx=>tgo hC Zcs Zgt (by simp[ZdX,show ¬(k:Int)<rs.length by omega];rfl)
 |m+1,k,xs,hk,hx=>by
  have hs':=hs
  simp only[ZaI,Bool.and_eq_true,decide_eq_true_eq]at hs'
  have hn:=ZbA hs'.1.2 (show k<rs.length by omega)
  have hlt:(k:Int)<rs.length:=by omega
  have hlt2:k<rs.length:=by omega
  have e0:((rs.getD k .top).cellAt 0).toS=Zau rs k:=rfl
  have e1:((rs.getD k .top).cellAt 1).toI=ZaJ rs k 1:=rfl
  have e2:((rs.getD k .top).cellAt 2).toI=ZaJ rs k 2:=rfl
  have e3:((rs.getD k .top).cellAt 3).toI=ZaJ rs k 3:=rfl
  have e4:((rs.getD k .top).cellAt 4).toI=ZaJ rs k 4:=rfl
  have ih:=ZrO m (k+1) (xs++[.str (Zau rs k)]) (by omega) (by simp;omega)
  obtain⟨V,hV⟩:∃V,V=Zbg 3 (Za5 (fun k=>Zau rs k) (fun k=>Zbs rs k ks.length ms.length) (m+1) k xs) (Za6 0 0 0):=⟨_,rfl⟩
  rw[←hV]
  rw[Zeq,ZdS,Zhh]at hV
  refine tgo hC Zcs Zgt ?_
  simp[-List.getD_eq_getElem?_getD,ZdX,e0,e1,e2,e3,e4,hlt,hlt2,hn,AV.bx,Zam]
  clear e0 e1 e2 e3 e4 hs
  replace hs':=hs'.2
  generalize Zau rs k=nm at*
  generalize ZaJ rs k 1=f1 at*
  generalize ZaJ rs k 2=f2 at*
  generalize ZaJ rs k 3=f3 at*
  generalize ZaJ rs k 4=f4 at*
  repeat' (first |split |apply And.intro)
  all_goals first |omega |skip
  all_goals (clear hs';simp_all[Za6])
theorem Ztj:∀m:Nat,m=rs.length→Ev C (Zdw ms ks rs) (ZcR ms ks rs)
 (Zcp 11 (Zbg 3 (Za5 (fun k=>Zau rs k) (fun k=>Zbs rs k ks.length ms.length) m 0 []) (Za6 0 0 0)) none)
 |0,hk=>tgo hC Zcs ZgN (by simp[Zen,←hk];rfl)
 |m+1,hk=>by
  have hs':=hs
  simp only[ZaI,Bool.and_eq_true,decide_eq_true_eq]at hs'
  have hn:=ZbA hs'.1.2 (show 0<rs.length by omega)
  have hlt:(0:Int)<rs.length:=by omega
  have hlt2:0<rs.length:=by omega
  have e0:((rs.getD 0 .top).cellAt 0).toS=Zau rs 0:=rfl
  have e1:((rs.getD 0 .top).cellAt 1).toI=ZaJ rs 0 1:=rfl
  have e2:((rs.getD 0 .top).cellAt 2).toI=ZaJ rs 0 2:=rfl
  have e3:((rs.getD 0 .top).cellAt 3).toI=ZaJ rs 0 3:=rfl
  have e4:((rs.getD 0 .top).cellAt 4).toI=ZaJ rs 0 4:=rfl
  have ih:=ZrO hC ms ks rs hs m 1 [.str (Zau rs 0)] (by omega) (by simp)
  obtain⟨V,hV⟩:∃V,V=Zbg 3 (Za5 (fun k=>Zau rs k) (fun k=>Zbs rs k ks.length ms.length) (m+1) 0 []) (Za6 0 0 0):=⟨_,rfl⟩
  rw[←hV]
  rw[Zeq,ZdS,Zhh]at hV
  refine tgo hC Zcs ZgN ?_
  simp[-List.getD_eq_getElem?_getD,Zen,e0,e1,e2,e3,e4,hlt,hlt2,hn,AV.bx,Zam]
  clear e0 e1 e2 e3 e4 hs
  replace hs':=hs'.2
  generalize Zau rs 0=nm at*
  generalize ZaJ rs 0 1=f1 at*
  generalize ZaJ rs 0 2=f2 at*
  generalize ZaJ rs 0 3=f3 at*
  generalize ZaJ rs 0 4=f4 at*
  repeat' (first |split |apply And.intro)
  all_goals first |omega |skip
  all_goals (clear hs';simp_all[Za6,ZfX])
end
def dB(ms ks rs:List AV):AV:=if 10<rs.length then Za6 3 0 8 else ZlA ms ks rs
theorem ZsQ(ms ks rs:List AV):(if ZbE (decide (0≤(rs.length:Int))) (decide ((rs.length:Int)≤10))=0 then ZlA ms ks rs else Za6 3 0 (ZbE (decide (0≤(rs.length:Int))) (decide ((rs.length:Int)≤10))))=dB ms ks rs:=by
 unfold dB
 by_cases h:10<rs.length
 ·rw[if_pos h,decide_eq_true (by omega:(0:Int)≤(rs.length:Int)),decide_eq_false (by omega:¬(rs.length:Int)≤10)];rfl
 ·rw[if_neg h,decide_eq_true (by omega:(0:Int)≤(rs.length:Int)),decide_eq_true (by omega:(rs.length:Int)≤10)];rfl
def dA(ms ks rs:List AV):AV:=if ks.length=0 then Za6 2 0 10 else if 8<ks.length then Za6 2 0 8 else ZkT ms ks rs
theorem ZrA(ms ks rs:List AV):(if ZbE (decide (1≤(ks.length:Int))) (decide ((ks.length:Int)≤8))=0 then ZkT ms ks rs else Za6 2 0 (ZbE (decide (1≤(ks.length:Int))) (decide ((ks.length:Int)≤8))))=dA ms ks rs:=by
 unfold dA
 by_cases h:ks.length=0
 ·rw[if_pos h,decide_eq_false (by omega:¬(1:Int)≤(ks.length:Int))];rfl
 ·rw[if_neg h,decide_eq_true (by omega:(1:Int)≤(ks.length:Int))]
  by_cases h2:8<ks.length
  ·rw[if_pos h2,decide_eq_false (by omega:¬(ks.length:Int)≤8)];rfl
  ·rw[if_neg h2,decide_eq_true (by omega:(ks.length:Int)≤8)];rfl
theorem Zib(ms ks rs:List AV):Zdh ms ks rs=if ms.length=0 then Za6 1 0 10 else if 6<ms.length then Za6 1 0 8 else Zm8 ms ks rs:=by
 unfold Zdh
 by_cases h:ms.length=0
 ·rw[if_pos h,decide_eq_false (by omega:¬(1:Int)≤(ms.length:Int))];rfl
 ·rw[if_neg h,decide_eq_true (by omega:(1:Int)≤(ms.length:Int))]
  by_cases h2:6<ms.length
  ·rw[if_pos h2,decide_eq_false (by omega:¬(ms.length:Int)≤6)];rfl
  ·rw[if_neg h2,decide_eq_true (by omega:(ms.length:Int)≤6)];rfl
section
variable {C:Ctx}(hC:C.P=Tryd.prog)(ms ks rs:List AV)(hs:ZaI ms ks rs=true)
include hC hs
theorem ZsA:Ev C (Zdw ms ks rs) (ZcR ms ks rs) (Zcp 11 (ZlA ms ks rs) none):=Ztj hC ms ks rs hs _ rfl
theorem Zsy:∀(m k:Nat) (xs:List AV),k+m=ks.length→xs.length≤k→Ev C (Zfm ms ks rs k xs) (Zeg ms ks rs k xs)
 (Zcp 11 (Zbg 2 (Za5 (fun k=>Zau ks k) (fun k=>ZbY ks k ms.length) m k xs) (dB ms ks rs)) none)
 |0,k,xs,hk,hx=>by
  refine tgo hC Zcs Zgj ?_
  by_cases h:10<rs.length
  ·simp[Zc5,show ¬(k:Int)<ks.length by omega,Za5,Zbg,dB,h,show(10:Int)<rs.length by omega,Za6]
  ·simp[Zc5,show ¬(k:Int)<ks.length by omega,Za5,Zbg,dB,h,show ¬(10:Int)<rs.length by omega]
   exact ZsA hC ms ks rs hs
 |m+1,k,xs,hk,hx=>by
  have hs':=hs
  simp only[ZaI,Bool.and_eq_true,decide_eq_true_eq]at hs'
  have hn:=ZbA hs'.1.1.2 (show k<ks.length by omega)
  have hlt:(k:Int)<ks.length:=by omega
  have hlt2:k<ks.length:=by omega
  have e0:((ks.getD k .top).cellAt 0).toS=Zau ks k:=rfl
  have e1:((ks.getD k .top).cellAt 1).toI=ZaJ ks k 1:=rfl
  have ih:=Zsy m (k+1) (xs++[.str (Zau ks k)]) (by omega) (by simp;omega)
  obtain⟨V,hV⟩:∃V,V=Zbg 2 (Za5 (fun k=>Zau ks k) (fun k=>ZbY ks k ms.length) (m+1) k xs) (dB ms ks rs):=⟨_,rfl⟩
  rw[←hV]
  rw[Zeq,ZdS,Zj1]at hV
  refine tgo hC Zcs Zgj ?_
  simp[-List.getD_eq_getElem?_getD,Zc5,e0,e1,hlt,hlt2,hn,AV.bx,Zam]
  clear e0 e1 hs
  replace hs':=hs'.2
  generalize Zau ks k=nm at*
  generalize ZaJ ks k 1=f1 at*
  repeat' (first |split |apply And.intro)
  all_goals first |omega |skip
  all_goals (clear hs';simp_all[Za6])
theorem ZrE:∀m:Nat,m=ks.length→Ev C (ZdU ms ks rs) (Zc8 ms ks rs)
 (Zcp 11 (Zbg 2 (Za5 (fun k=>Zau ks k) (fun k=>ZbY ks k ms.length) m 0 []) (dB ms ks rs)) none)
 |0,hk=>by
  refine tgo hC Zcs Zgq ?_
  by_cases h:10<rs.length
  ·simp[ZcY,←hk,Za5,Zbg,dB,h,show(10:Int)<rs.length by omega,Za6]
  ·simp[ZcY,←hk,Za5,Zbg,dB,h,show ¬(10:Int)<rs.length by omega]
   exact ZsA hC ms ks rs hs
 |m+1,hk=>by
  have hs':=hs
  simp only[ZaI,Bool.and_eq_true,decide_eq_true_eq]at hs'
  have hn:=ZbA hs'.1.1.2 (show 0<ks.length by omega)
  have hlt:(0:Int)<ks.length:=by omega
  have hlt2:0<ks.length:=by omega
  have e0:((ks.getD 0 .top).cellAt 0).toS=Zau ks 0:=rfl
  have e1:((ks.getD 0 .top).cellAt 1).toI=ZaJ ks 0 1:=rfl
  have ih:=Zsy hC ms ks rs hs m 1 [.str (Zau ks 0)] (by omega) (by simp)
  obtain⟨V,hV⟩:∃V,V=Zbg 2 (Za5 (fun k=>Zau ks k) (fun k=>ZbY ks k ms.length) (m+1) 0 []) (dB ms ks rs):=⟨_,rfl⟩
  rw[←hV]
  rw[Zeq,ZdS,Zj1]at hV
  refine tgo hC Zcs Zgq ?_
  simp[-List.getD_eq_getElem?_getD,ZcY,e0,e1,hlt,hlt2,hn,AV.bx,Zam]
  clear e0 e1 hs
  replace hs':=hs'.2
  generalize Zau ks 0=nm at*
  generalize ZaJ ks 0 1=f1 at*
  repeat' (first |split |apply And.intro)
  all_goals first |omega |skip
  all_goals (clear hs';simp_all[Za6,ZfX])
theorem ZvD:Ev C (ZdU ms ks rs) (Zc8 ms ks rs) (Zcp 11 (ZkT ms ks rs) none):=by
 have:=ZrE hC ms ks rs hs _ rfl
 rw[←ZsQ]at this
 exact this
theorem Ztt:∀(m k:Nat) (xs:List AV),k+m=ms.length→xs.map AV.toS=(ms.take k).map AV.toS→Ev C (Zfa ms ks rs k) (Zd2 ms ks rs k)
 (Zcp 11 (Zbg 1 (Za5 (fun k=>ZaV ms k) (fun _=>0) m k xs) (dA ms ks rs)) none)
 |0,k,xs,hk,hx=>by
  refine tgo hC Zcs Zf6 ?_
  by_cases h0:ks.length=0
  ·simp[Zca,show ¬(k:Int)<ms.length by omega,Za5,Zbg,dA,h0,Za6]
  ·by_cases h:8<ks.length
   ·simp[Zca,show ¬(k:Int)<ms.length by omega,Za5,Zbg,dA,h0,h,show(8:Int)<ks.length by omega,Za6]
   ·simp[Zca,show ¬(k:Int)<ms.length by omega,Za5,Zbg,dA,h0,h,show ¬(8:Int)<ks.length by omega]
    exact ZvD hC ms ks rs hs
 |m+1,k,xs,hk,hx=>by
  have hs':=hs
  simp only[ZaI,Bool.and_eq_true,decide_eq_true_eq]at hs'
  have hn:=ZgB hs'.1.1.1 (show k<ms.length by omega)
  have hlt:(k:Int)<ms.length:=by omega
  have hlt2:k<ms.length:=by omega
  have e0:(ms.getD k .top).toS=ZaV ms k:=rfl
  have ih:=Ztt m (k+1) (xs++[.str (ZaV ms k)]) (by omega) (by
   rw[List.map_append,hx,List.take_succ_eq_append_getElem hlt2,List.map_append]
   congr 1
   simp[ZaV,AV.toS,hlt2])
  have hh:ZfX (ms.take k) (ZaV ms k)=ZfX xs (ZaV ms k):=ZmS hx.symm
  obtain⟨V,hV⟩:∃V,V=Zbg 1 (Za5 (fun k=>ZaV ms k) (fun _=>0) (m+1) k xs) (dA ms ks rs):=⟨_,rfl⟩
  rw[←hV]
  rw[Zeq,ZdS]at hV
  refine tgo hC Zcs Zf6 ?_
  simp[-List.getD_eq_getElem?_getD,Zca,e0,hlt,hlt2,hn,hh]
  clear e0 hs hx hh
  replace hs':=hs'.2
  generalize ZaV ms k=nm at*
  repeat' (first |split |apply And.intro)
  all_goals first |omega |skip
  all_goals (clear hs';simp_all[Za6])
end
theorem Zna(ms ks rs:List AV)(hs:ZaI ms ks rs=true):Zat Tryd.prog 11 [.agg (.gen [.list (.big .str ms), .list (.big (.agg [.str, .int .i64]) ks), .list (.big (.agg [.str, .int .i64, .int .i64, .int .i64, .int .i64]) rs)])] (.tup [.agg (.gen [.int .i64 (ZhZ ms ks rs), .int .i64 (ZhB ms ks rs)]), .int .i64 (ZaF ms ks rs)]) none:=by
 rw[show AV.tup [.agg (.gen [.int .i64 (ZhZ ms ks rs), .int .i64 (ZhB ms ks rs)]), .int .i64 (ZaF ms ks rs)]=Zdh ms ks rs from(Zhx ms ks rs).eq.symm]
 refine start (ZpH ms ks rs) fun C hC=>tgo hC Zcs Zum ?_
 rw[Zib]
 by_cases h0:ms.length=0
 ·simp[Zm7,h0,Za6]
 ·by_cases h:6<ms.length
  ·simp[Zm7,h0,h,show(6:Int)<ms.length by omega,Za6]
  ·simp[Zm7,h0,h,show ¬(6:Int)<ms.length by omega]
   have:=Ztt hC ms ks rs hs ms.length 0 [] (by omega) (by simp)
   rw[Zm8,ZrA]
   exact this
end Go.Proofs.YtkeoeooghhjibaaDoor
/- ForbiddenBy of both packages. No condition. -/
namespace Go.Proofs.YtkeoeooghhjibaaDoor
def ZoZ(rs:List AV)(a b:Int)(xs:List Int)(k:Int)(i:Nat):Bool:=decide (ZaJ rs i 1=k∧(ZaJ rs i 2= -1∨ZaJ rs i 2=a)∧(ZaJ rs i 3= -1∨(xs.getD (ZaJ rs i 3).toNat 0≠ -1∧b-xs.getD (ZaJ rs i 3).toNat 0<ZaJ rs i 4)))
def Zct(rs:List AV)(a b:Int)(xs:List Int)(k:Int):Nat→Nat→List UInt8
 |0,_=>[]
 |m+1,i=>if ZoZ rs a b xs k i=true then Zau rs i else Zct rs a b xs k m (i+1)
def Zf2(rs:List AV)(b:Int)(xs:List Int):Bool:=((List.range rs.length).all fun i=>decide (-1≤ZaJ rs i 3∧ZaJ rs i 3<xs.length))&&(xs.all fun x=>decide (-1≤x∧x≤b))&&decide (0≤b∧b≤1000000000000∧rs.length≤1000000)
theorem ZjY{rs:List AV}{b:Int}{xs:List Int}(h:Zf2 rs b xs=true){k:Nat}(hk:k<rs.length):(-1≤ZaJ rs k 3∧ZaJ rs k 3<xs.length)∧(ZaJ rs k 3≠ -1→ -1≤xs.getD (ZaJ rs k 3).toNat 0∧xs.getD (ZaJ rs k 3).toNat 0≤b)∧0≤b∧b≤1000000000000∧rs.length≤1000000:=by
 simp only[Zf2,Bool.and_eq_true,List.all_eq_true,decide_eq_true_eq,List.mem_range]at h
 obtain⟨⟨h1,h2⟩,h3⟩:=h
 refine⟨h1 k hk,fun h4=>?_,h3⟩
 have h5:=h1 k hk
 have h6:(ZaJ rs k 3).toNat<xs.length:=by omega
 refine h2 _ ?_
 rw[List.getD_eq_getElem?_getD,List.getElem?_eq_getElem h6];exact List.getElem_mem h6
theorem Zis{C:Ctx}(hC:C.P=Tryd.prog)(ms ks rs:List AV)(a b:Int)(xs:List Int)(q:Int)(hg:Zf2 rs b xs=true):∀m k:Nat,k+m=rs.length→Ev C (ZdD ms ks rs a b xs q k) (Zc2 ms ks rs a b xs q k) (Zcp 18 (.str (Zct rs a b xs q m k)) none)
 |0,k,hk=>tgo hC Zcs Zf8 (by simp[Zd7,show ¬(k:Int)<rs.length by omega];rfl)
 |m+1,k,hk=>by
  have hlt:(k:Int)<rs.length:=by omega
  have hlt2:k<rs.length:=by omega
  have e0:((rs.getD k .top).cellAt 0).toS=Zau rs k:=rfl
  have e1:((rs.getD k .top).cellAt 1).toI=ZaJ rs k 1:=rfl
  have e2:((rs.getD k .top).cellAt 2).toI=ZaJ rs k 2:=rfl
  have e3:((rs.getD k .top).cellAt 3).toI=ZaJ rs k 3:=rfl
  have e4:((rs.getD k .top).cellAt 4).toI=ZaJ rs k 4:=rfl
  have ih:=Zis hC ms ks rs a b xs q hg m (k+1) (by omega)
  refine tgo hC Zcs Zf8 ?_
  simp[-List.getD_eq_getElem?_getD,Zd7,e0,e1,e2,e3,e4,hlt,hlt2]
  obtain⟨V,hV⟩:∃V,V=Zct rs a b xs q (m+1) k:=⟨_,rfl⟩
  rw[←hV]
  simp only[Zct,ZoZ,decide_eq_true_eq]at hV
  have g:=ZjY hg hlt2
  clear e0 e1 e2 e3 e4 hg
  generalize Zau rs k=nm at*
  generalize ZaJ rs k 1=f1 at*
  generalize ZaJ rs k 2=f2 at*
  generalize ZaJ rs k 3=f3 at*
  generalize ZaJ rs k 4=f4 at*
  generalize xs.getD f3.toNat 0=t at*
  have r3: -9223372036854775808≤(k:Int)+1∧(k:Int)+1≤9223372036854775807:=by omega
  have r1:f3≠ -1→(0≤f3∧f3.toNat<xs.length)∧(-9223372036854775808≤b-t∧b-t≤9223372036854775807):=by omega
  have ih':Ev C (ZdD ms ks rs a b xs q (k+1)) (Zc2 ms ks rs a b xs q (k+1)) (Zcp 18 (.str (Zct rs a b xs q m (k+1))) none):=ih
  clear hk hlt hlt2 g ih
  by_cases h1:f1=q<;>by_cases h2:f2= -1<;>by_cases h3:f2=a<;>by_cases h4:f3= -1<;>by_cases h5:t= -1<;>by_cases h6:b-t<f4<;>simp_all<;>(intro h7;omega)
theorem Zmp(ms ks rs:List AV)(a b:Int)(xs:List Int)(q:Int)(hg:Zf2 rs b xs=true):Zat Tryd.prog 18 [.agg (.gen [.list (.big .str ms), .list (.big (.agg [.str, .int .i64]) ks), .list (.big (.agg [.str, .int .i64, .int .i64, .int .i64, .int .i64]) rs)]), .agg (.gen [.int .i64 a, .int .i64 b, .list (.ints .i64 xs)]), .int .i64 q] (.str (Zct rs a b xs q rs.length 0)) none:=
 start (ZpM ms ks rs a b xs q) fun C hC=>tgo hC Zcs ZvG (Zis hC ms ks rs a b xs q hg rs.length 0 (by omega))
def ZbS(ms ks rs:List AV)(a b:Int)(xs:List Int)(k:Int):Int:=Zan [ZaF ms ks rs,Zaa (Zad a 0 ((ms.length:Int)-1)) 6,Zaa (Zad b 0 1000000000000) 2,Zaa (decide ((xs.length:Int)=(ks.length:Int))) 10,Zaa (!(xs.any (ZeP b))) 2,Zaa (Zad k 0 ((ks.length:Int)-1)) 15]
theorem Zfp{C:Ctx}(hC:C.P=Tryd.prog)(ms ks rs:List AV)(a b:Int)(xs:List Int)(q n1 n2:Int)(b3:Bool)(hg:Zf2 rs b xs=true):∀m k:Nat,k+m=rs.length→Ev C (Zdz ms ks rs a b xs q rs.length n1 n2 b3 k) (ZcV ms ks rs a b xs q rs.length n1 n2 b3 k) (Zcp 13 (.tup [.str (Zct rs a b xs q m k), .int .i64 0]) none)
 |0,k,hk=>tgo hC Zcs Zgo (by simp[Zeo,show ¬(k:Int)<rs.length by omega];rfl)
 |m+1,k,hk=>by
  have hlt:(k:Int)<rs.length:=by omega
  have hlt2:k<rs.length:=by omega
  have e0:((rs.getD k .top).cellAt 0).toS=Zau rs k:=rfl
  have e1:((rs.getD k .top).cellAt 1).toI=ZaJ rs k 1:=rfl
  have e2:((rs.getD k .top).cellAt 2).toI=ZaJ rs k 2:=rfl
  have e3:((rs.getD k .top).cellAt 3).toI=ZaJ rs k 3:=rfl
  have e4:((rs.getD k .top).cellAt 4).toI=ZaJ rs k 4:=rfl
  have ih:=Zfp hC ms ks rs a b xs q n1 n2 b3 hg m (k+1) (by omega)
  refine tgo hC Zcs Zgo ?_
  simp[-List.getD_eq_getElem?_getD,Zeo,e0,e1,e2,e3,e4,hlt,hlt2]
  obtain⟨V,hV⟩:∃V,V=Zct rs a b xs q (m+1) k:=⟨_,rfl⟩
  rw[←hV]
  simp only[Zct,ZoZ,decide_eq_true_eq]at hV
  have g:=ZjY hg hlt2
  clear e0 e1 e2 e3 e4 hg
  generalize Zau rs k=nm at*
  generalize ZaJ rs k 1=f1 at*
  generalize ZaJ rs k 2=f2 at*
  generalize ZaJ rs k 3=f3 at*
  generalize ZaJ rs k 4=f4 at*
  generalize xs.getD f3.toNat 0=t at*
  have r3: -9223372036854775808≤(k:Int)+1∧(k:Int)+1≤9223372036854775807:=by omega
  have r1:f3≠ -1→(0≤f3∧f3.toNat<xs.length)∧(-9223372036854775808≤b-t∧b-t≤9223372036854775807):=by omega
  have ih':Ev C (Zdz ms ks rs a b xs q rs.length n1 n2 b3 (k+1)) (ZcV ms ks rs a b xs q rs.length n1 n2 b3 (k+1)) (Zcp 13 (.tup [.str (Zct rs a b xs q m (k+1)), .int .i64 0]) none):=ih
  clear hk hlt hlt2 g ih
  by_cases h1:f1=q<;>by_cases h2:f2= -1<;>by_cases h3:f2=a<;>by_cases h4:f3= -1<;>by_cases h5:t= -1<;>by_cases h6:b-t<f4<;>simp_all<;>(intro h7;omega)
theorem firstE_zero:∀ {l:List Int},Zan l=0↔∀x∈l,x=0
 |[]=>by simp[Zan]
 |x::l=>by
  have ih:=firstE_zero (l:=l)
  by_cases h:x=0
  ·simp[Zan,h,ih]
  ·simp[Zan,h]
theorem ZbQ{b:Bool}{e:Int}(h:Zaa b e=0)(he:e≠0):b=true:=by
 cases b
 ·exact absurd h he
 ·rfl
theorem Zg2{nm:Nat→List UInt8}{ex:Nat→Int}{p:Int}{d:AV} :∀(m k:Nat) (xs:List AV),mE (Zbg p (Za5 nm ex m k xs) d)=0→mE d=0∧∀i,k≤i→i<k+m→ZaH (nm i)=true∧ex i=0
 |0,k,xs,h=>⟨h,fun i h1 h2=>by omega⟩
 |m+1,k,xs,h=>by
  rw[Zeq]at h
  split at h
  ·rename_i hs
   obtain⟨h1,h2⟩:=Zg2 m (k+1) _ h
   refine⟨h1,fun i h3 h4=>?_⟩
   by_cases hi:i=k
   ·subst hi
    obtain⟨g1,_,g3⟩:=Zn5 hs
    exact⟨ZbQ g1 (by decide),g3⟩
   ·exact h2 i (by omega) (by omega)
  ·rename_i hs
   exact absurd h hs
theorem ZkQ{ms ks rs:List AV}(h:ZaF ms ks rs=0):(1≤ms.length∧ms.length≤6)∧(1≤ks.length∧ks.length≤8)∧rs.length≤10∧(∀i<ms.length,ZaH (ZaV ms i)=true)∧(∀i<ks.length,ZaH (Zau ks i)=true∧ZbY ks i ms.length=0)∧(∀i<rs.length,ZaH (Zau rs i)=true∧Zbs rs i ks.length ms.length=0):=by
 unfold ZaF at h
 rw[Zib]at h
 split at h
 ·cases h
 ·split at h
  ·cases h
  ·rw[Zm8,ZrA]at h
   obtain⟨h1,h2⟩:=Zg2 _ _ _ h
   unfold dA at h1
   split at h1
   ·cases h1
   ·split at h1
    ·cases h1
    ·rw[ZkT,ZsQ]at h1
     obtain⟨h3,h4⟩:=Zg2 _ _ _ h1
     unfold dB at h3
     split at h3
     ·cases h3
     ·obtain⟨_,h5⟩:=Zg2 _ _ _ h3
      exact⟨by omega,by omega,by omega,fun i hi=>(h2 i (by omega) (by omega)).1,fun i hi=>h4 i (by omega) (by omega),fun i hi=>h5 i (by omega) (by omega)⟩
theorem within_iff{n a b:Int} :Zad n a b=true↔a≤n∧n≤b:=by simp[Zad]
theorem ZlX{rs:List AV}{i n m:Nat}(h:Zbs rs i n m=0):(0≤ZaJ rs i 1∧ZaJ rs i 1<n)∧(-1≤ZaJ rs i 2∧ZaJ rs i 2<m)∧(-1≤ZaJ rs i 3∧ZaJ rs i 3<n)∧(1≤ZaJ rs i 4∧ZaJ rs i 4≤1000000)∧(ZaJ rs i 3= -1→ZaJ rs i 4=1):=by
 rw[Zhh]at h
 simp only[within_iff]at h
 split at h
 ·split at h
  ·split at h
   ·cases h
   ·rename_i h1 h2 h3
    exact⟨by omega,by omega,by omega,by omega,fun h4=>by simpa[h4]using h3⟩
  ·cases h
 ·cases h
theorem ZlS{ms ks rs:List AV}{b:Int}{xs:List Int}(h:ZaF ms ks rs=0)(hl:xs.length=ks.length)(hb:0≤b∧b≤1000000000000)(hx:∀x∈xs, -1≤x∧x≤b):Zf2 rs b xs=true:=by
 obtain⟨_,_,h1,_,_,h2⟩:=ZkQ h
 simp only[Zf2,Bool.and_eq_true,List.all_eq_true,decide_eq_true_eq,List.mem_range]
 refine⟨⟨fun i hi=>?_,hx⟩,hb.1,hb.2,by omega⟩
 have:=(ZlX (h2 i hi).2).2.2.1
 omega
theorem Zgy{ms ks rs:List AV}{a b k:Int}{xs:List Int}(h:ZbS ms ks rs a b xs k=0):Zf2 rs b xs=true:=by
 have h:=firstE_zero.1 h
 simp only[List.mem_cons,List.not_mem_nil,or_false,forall_eq_or_imp,forall_eq]at h
 obtain⟨h1,h2,h3,h4,h5,h6⟩:=h
 have h3:=within_iff.1 (ZbQ h3 (by decide))
 have h4:=ZbQ h4 (by decide)
 have h5:=ZbQ h5 (by decide)
 simp only[decide_eq_true_eq]at h4
 refine ZlS h1 (by omega) h3 fun x hx=>?_
 have h7:ZeP b x=false:=by
  have:xs.any (ZeP b)=false:=by simpa using h5
  simpa using List.any_eq_false.1 this x hx
 unfold ZeP at h7
 by_cases h8:x= -1
 ·omega
 ·simp only[ne_eq,h8,not_false_eq_true,decide_true,Bool.true_and,Bool.not_eq_false']at h7
  have:=within_iff.1 h7
  omega
theorem bx6(a b c d e f:Int):([AV.int .i64 a,AV.int .i64 b,AV.int .i64 c,AV.int .i64 d,AV.int .i64 e,AV.int .i64 f].all fun x=>AV.bx x&&Nat.beq (Zam std x) 1)=true:=rfl
theorem Zlu(ms ks rs:List AV)(a b:Int)(xs:List Int)(q:Int)(hs:ZaI ms ks rs=true∧xs.length≤1000000):Zat Tryd.prog 13 [.agg (.gen [.list (.big .str ms), .list (.big (.agg [.str, .int .i64]) ks), .list (.big (.agg [.str, .int .i64, .int .i64, .int .i64, .int .i64]) rs)]), .agg (.gen [.int .i64 a, .int .i64 b, .list (.ints .i64 xs)]), .int .i64 q] (.tup [.str (if ZbS ms ks rs a b xs q=0 then Zct rs a b xs q rs.length 0 else []), .int .i64 (ZbS ms ks rs a b xs q)]) none:=
 start (Zqw ms ks rs a b xs q) fun C hC=>by
  refine tgo hC Zcs Zvc ?_
  have hl:ms.length≤1000000∧ks.length≤1000000∧rs.length≤1000000:=by
   have h:=hs.1
   simp only[ZaI,Bool.and_eq_true,decide_eq_true_eq]at h
   exact h.2
  unfold ZrQ
  rw[show Zan [ZaF ms ks rs,Zaa (Zad a 0 (std.sub (std.int (std.lenA ms)) 1)) 6,Zaa (Zad b 0 1000000000000) 2,Zaa (std.eq (std.int (std.len xs)) (std.int (std.lenA ks))) 10,Zaa (std.not (List.any xs (ZeP b))) 2,Zaa (Zad q 0 (std.sub (std.int (std.lenA ks)) 1)) 15]=ZbS ms ks rs a b xs q from rfl]
  simp only[bx6,Zwn,ZvK,ZfE,Znj,Zuc,Zt4,ZvL,ZiZ,Ze9,Zpk,decide_eq_true_eq,Bool.not_eq_true',decide_eq_false_iff_not]
  refine⟨⟨by simp,trivial,by omega,hs.2,by omega,hs.1,trivial⟩,?_⟩
  by_cases h:ZbS ms ks rs a b xs q=0
  ·rw[if_neg (by simpa using h),if_pos h,h]
   exact Zfp hC ms ks rs a b xs q _ _ _ (Zgy h) rs.length 0 (by omega)
  ·rw[if_pos h,if_neg h]
   exact⟨rfl,trivial⟩
end Go.Proofs.YtkeoeooghhjibaaDoor
/- Contracts as a list. No condition. -/
namespace Go.Proofs.YtkeoeooghhjibaaDoor
def k11:Ctr:=⟨11,0,fun _ a=>match a with |[.agg (.gen [.list (.big .str ms), .list (.big (.agg [.str, .int .i64]) ks), .list (.big (.agg [.str, .int .i64, .int .i64, .int .i64, .int .i64]) rs)])]=>some (decide (ZaI ms ks rs=true), .tup [.agg (.gen [.int .i64 (ZhZ ms ks rs), .int .i64 (ZhB ms ks rs)]), .int .i64 (ZaF ms ks rs)],none) |_=>none⟩
theorem ZrZ:k11.OK Tryd.prog:=fun pa args r fr h=>by
 simp only[k11]at h
 split at h
 ·simp only[Option.some.injEq,Prod.mk.injEq,decide_eq_true_eq]at h
  obtain⟨h0,rfl,rfl⟩:=h
  exact Zna _ _ _ h0
 ·cases h
def k18:Ctr:=⟨18,0,fun _ a=>match a with |[.agg (.gen [.list (.big .str _), .list (.big (.agg [.str, .int .i64]) _), .list (.big (.agg [.str, .int .i64, .int .i64, .int .i64, .int .i64]) rs)]), .agg (.gen [.int .i64 a, .int .i64 b, .list (.ints .i64 xs)]), .int .i64 q]=>some (decide (Zf2 rs b xs=true), .str (Zct rs a b xs q rs.length 0),none) |_=>none⟩
theorem Zq0:k18.OK Tryd.prog:=fun pa args r fr h=>by
 simp only[k18]at h
 split at h
 ·simp only[Option.some.injEq,Prod.mk.injEq,decide_eq_true_eq]at h
  obtain⟨h0,rfl,rfl⟩:=h
  exact Zmp _ _ _ _ _ _ _ h0
 ·cases h
def k13:Ctr:=⟨13,0,fun _ a=>match a with |[.agg (.gen [.list (.big .str ms), .list (.big (.agg [.str, .int .i64]) ks), .list (.big (.agg [.str, .int .i64, .int .i64, .int .i64, .int .i64]) rs)]), .agg (.gen [.int .i64 a, .int .i64 b, .list (.ints .i64 xs)]), .int .i64 q]=>some (decide (ZaI ms ks rs=true∧xs.length≤1000000), .tup [.str (if ZbS ms ks rs a b xs q=0 then Zct rs a b xs q rs.length 0 else []), .int .i64 (ZbS ms ks rs a b xs q)],none) |_=>none⟩
theorem ZsN:k13.OK Tryd.prog:=fun pa args r fr h=>by
 simp only[k13]at h
 split at h
 ·simp only[Option.some.injEq,Prod.mk.injEq,decide_eq_true_eq]at h
  obtain⟨h0,rfl,rfl⟩:=h
  exact Zlu _ _ _ _ _ _ _ h0
 ·cases h
def B7:List Ctr:=[k11,k18,k13]++B6
theorem Ztv:Za3 Tryd.prog B7:=⟨ZrZ,⟨Zq0,⟨ZsN,Zcs⟩⟩⟩
end Go.Proofs.YtkeoeooghhjibaaDoor
/- Paths of functions, printed by the explorer (Gx). No condition. -/
namespace Go.Proofs.YtkeoeooghhjibaaDoor
set_option maxRecDepth 100000
set_option linter.unusedVariables false
def ZqX(ms:List AV)(ks:List AV)(rs:List AV):AFrame:={ fn:=15,N:=11,env:=[(0,AV.agg (Row.gen [.list (Row.big .str ms), .list (Row.big (.agg [.str, .int .i64]) ks), .list (Row.big (.agg [.str, .int .i64, .int .i64, .int .i64, .int .i64]) rs)]))],todo:=[.code a15.code],defs:=[],rnd:=none,ret:=false,res:=[ARes.tmp 2] }
def ZxK(ms:List AV)(ks:List AV)(rs:List AV):List AFrame:=[(ZqX ms ks rs)]
theorem Zpr(ms:List AV)(ks:List AV)(rs:List AV):ZaC tab 15 [AV.agg (Row.gen [.list (Row.big .str ms), .list (Row.big (.agg [.str, .int .i64]) ks), .list (Row.big (.agg [.str, .int .i64, .int .i64, .int .i64, .int .i64]) rs)])]=some (ZqX ms ks rs):=rfl
def Ztu(A:Ar)(K:KT)(F:FT)(ms:List AV)(ks:List AV)(rs:List AV):Prop:=rB [decide (ZaI ms ks rs=true)] (F (AV.int .i64 (ZaF ms ks rs)) (none))
theorem Zvu{A:Ar}{K:KT}{F:FT}{M:MT}{ms:List AV}{ks:List AV}{rs:List AV} :ZbM A tab B7 15 K F M (.run 23 (.fn)) (ZxK ms ks rs) []=Ztu A K F ms ks rs:=by kernel_rfl
end Go.Proofs.YtkeoeooghhjibaaDoor
/- Contracts as a list. No condition. -/
namespace Go.Proofs.YtkeoeooghhjibaaDoor
theorem ZnS(ms ks rs:List AV)(h:ZaI ms ks rs=true):Zat Tryd.prog 15 [.agg (.gen [.list (.big .str ms), .list (.big (.agg [.str, .int .i64]) ks), .list (.big (.agg [.str, .int .i64, .int .i64, .int .i64, .int .i64]) rs)])] (.int .i64 (ZaF ms ks rs)) none:=
 start (Zpr ms ks rs) fun C hC=>tgo hC Ztv Zvu (by simp[Ztu,h])
def pI:AV→Int
 | .tup [.int _ i,_]=>i
 |_=>0
def pE:AV→Int
 | .tup [_, .int _ e]=>e
 |_=>0
def isP(v:AV):Prop:=∃i e,v=Zsr i e
theorem isP.eq{v:AV}(h:isP v):v=Zsr (pI v) (pE v):=by
 obtain⟨i,e,rfl⟩:=h
 rfl
def k15:Ctr:=⟨15,0,fun _ a=>match a with |[.agg (.gen [.list (.big .str ms), .list (.big (.agg [.str, .int .i64]) ks), .list (.big (.agg [.str, .int .i64, .int .i64, .int .i64, .int .i64]) rs)])]=>some (decide (ZaI ms ks rs=true), .int .i64 (ZaF ms ks rs),none) |_=>none⟩
theorem ZrW:k15.OK Tryd.prog:=fun pa args r fr h=>by
 simp only[k15]at h
 split at h
 ·simp only[Option.some.injEq,Prod.mk.injEq,decide_eq_true_eq]at h
  obtain⟨h0,rfl,rfl⟩:=h
  exact ZnS _ _ _ h0
 ·cases h
def k5:Ctr:=⟨5,0,fun _ a=>match a with |[]=>some (true, .bool true,none) |_=>none⟩
theorem Zwa:k5.OK Tryd.prog:=fun pa args r fr h=>by
 simp only[k5]at h
 split at h
 ·cases h
  exact Znx
 ·cases h
def B8:List Ctr:=[k15,k5]++B7
theorem Zwp:Za3 Tryd.prog B8:=⟨ZrW,⟨Zwa,Ztv⟩⟩
end Go.Proofs.YtkeoeooghhjibaaDoor
/- Paths of functions, printed by the explorer (Gx). No condition. -/
namespace Go.Proofs.YtkeoeooghhjibaaDoor
set_option maxRecDepth 100000
set_option linter.unusedVariables false
def ZwX(ms:List AV)(ks:List AV)(rs:List AV)(a:Int)(b:Int)(xs:List Int)(k:Int):AFrame:={ fn:=4,N:=67,env:=[(0,AV.agg (Row.gen [.list (Row.big .str ms), .list (Row.big (.agg [.str, .int .i64]) ks), .list (Row.big (.agg [.str, .int .i64, .int .i64, .int .i64, .int .i64]) rs)])),(1,AV.agg (Row.gen [.int .i64 a, .int .i64 b, .list (.ints .i64 xs)])),(2,AV.int .i64 k)],todo:=[.code a4.code],defs:=[],rnd:=none,ret:=false,res:=[ARes.tmp 6] }
def f4e(ms:List AV)(ks:List AV)(rs:List AV)(a:Int)(b:Int)(xs:List Int)(k:Int):List AFrame:=[(ZwX ms ks rs a b xs k)]
theorem ZsL(ms:List AV)(ks:List AV)(rs:List AV)(a:Int)(b:Int)(xs:List Int)(k:Int):ZaC tab 4 [AV.agg (Row.gen [.list (Row.big .str ms), .list (Row.big (.agg [.str, .int .i64]) ks), .list (Row.big (.agg [.str, .int .i64, .int .i64, .int .i64, .int .i64]) rs)]),AV.agg (Row.gen [.int .i64 a, .int .i64 b, .list (.ints .i64 xs)]),AV.int .i64 k]=some (ZwX ms ks rs a b xs k):=rfl
def ZwP(A:Ar)(K:KT)(F:FT)(ms:List AV)(ks:List AV)(rs:List AV)(a:Int)(b:Int)(xs:List Int)(k:Int):Prop:=rB [!A.not true] (bB (A.not (ZmO ms ks rs)) (F (AV.bool true) (none)) (bB (A.lt 10 (A.int (A.len xs))) (F (AV.bool true) (none)) (rB [decide (ZaI ms ks rs=true),decide (ZaI ms ks rs=true∧List.length xs≤1000000),decide (List.length xs≤1000000),decide (List.length ms≤1000000∧List.length ks≤1000000∧List.length rs≤1000000)] (bB (A.eq (ZaF ms ks rs) 0) (rB [decide (List.length ms≤1000000∧List.length xs≤1000000)] (bB (A.eq (ZiA (↑(List.length ks)) (↑(List.length ms)) a b xs) 0) (rB [A.inR .i64 (A.sub (A.int (A.lenA ks)) 1)] (bB (A.not (Zad k 0 (A.sub (A.int (A.lenA ks)) 1))) (rB [A.not (A.eq 15 0)] (bB (A.eq (ZbS ms ks rs a b xs k) 15) (F (AV.bool (A.eqS (if ZbS ms ks rs a b xs k=0 then Zct rs a b xs k (List.length rs) 0 else []) [])) (none)) (F (AV.bool false) (none)))) (rB [!A.not (A.eq (ZiA (↑(List.length ks)) (↑(List.length ms)) a b xs) 0)] (bB (A.eq (ZbS ms ks rs a b xs k) 0) (rB [decide (Zf2 rs b xs=true)] (F (AV.bool (A.eqS (if ZbS ms ks rs a b xs k=0 then Zct rs a b xs k (List.length rs) 0 else []) (Zct rs a b xs k (List.length rs) 0))) (none))) (F (AV.bool false) (none)))))) (rB [A.not (A.eq (ZiA (↑(List.length ks)) (↑(List.length ms)) a b xs) 0)] (bB (A.eq (ZbS ms ks rs a b xs k) (ZiA (↑(List.length ks)) (↑(List.length ms)) a b xs)) (F (AV.bool (A.eqS (if ZbS ms ks rs a b xs k=0 then Zct rs a b xs k (List.length rs) 0 else []) [])) (none)) (F (AV.bool false) (none)))))) (rB [!A.eq (ZaF ms ks rs) 0] (rB [A.not (A.eq (ZaF ms ks rs) 0)] (bB (A.eq (ZbS ms ks rs a b xs k) (ZaF ms ks rs)) (F (AV.bool (A.eqS (if ZbS ms ks rs a b xs k=0 then Zct rs a b xs k (List.length rs) 0 else []) [])) (none)) (F (AV.bool false) (none)))))))))
theorem Zxr{A:Ar}{K:KT}{F:FT}{M:MT}{ms:List AV}{ks:List AV}{rs:List AV}{a:Int}{b:Int}{xs:List Int}{k:Int} :ZbM A tab B8 4 K F M (.run 12 (.fy (.run 8 (.tf (.ty (.ty (.ty (.ty (.run 2 (.ty (.run 5 (.fn)))))))) (.fy (.fy (.fy (.fy (.run 2 (.tf (.run 5 (.fn)) (.run 16 (.tf (.run 12 (.tf (.ty (.ty (.ty (.ty (.ty (.ty (.ty (.run 2 (.tf (.run 9 (.ty (.run 6 (.tf (.ty (.ty (.run 4 (.fn)))) (.fy (.fy (.run 4 (.fn)))))))) (.run 7 (.fy (.run 6 (.tf (.ty (.ty (.ty (.ty (.ty (.ty (.run 4 (.fn)))))))) (.fy (.fy (.fy (.fy (.fy (.fy (.run 4 (.fn))))))))))))))))))))) (.fy (.fy (.fy (.fy (.fy (.fy (.fy (.run 2 (.fy (.run 7 (.ty (.run 6 (.tf (.ty (.ty (.run 4 (.fn)))) (.fy (.fy (.run 4 (.fn))))))))))))))))))) (.run 7 (.fy (.fy (.fy (.fy (.fy (.fy (.fy (.fy (.run 2 (.fy (.run 7 (.ty (.run 6 (.tf (.ty (.ty (.run 4 (.fn)))) (.fy (.fy (.run 4 (.fn))))))))))))))))))))))))))))))) (f4e ms ks rs a b xs k) []=ZwP A K F ms ks rs a b xs k:=by kernel_rfl
end Go.Proofs.YtkeoeooghhjibaaDoor
/- The laws on models and on rules, walked. No condition. -/
namespace Go.Proofs.YtkeoeooghhjibaaDoor
theorem Zlf{ms ks rs:List AV}(h:ZmO ms ks rs=true):ZaI ms ks rs=true∧ms.length≤8∧ks.length≤10∧rs.length≤12:=by
 simp only[ZmO,Bool.and_eq_true,decide_eq_true_eq,List.all_eq_true,ZrC,Zk9]at h
 obtain⟨h1,h2,h3,h4⟩:=h
 simp only[ZaI,Bool.and_eq_true,decide_eq_true_eq,List.all_eq_true]
 refine⟨⟨⟨⟨fun x hx=>?_,fun x hx=>?_⟩,fun x hx=>?_⟩,by omega⟩,h1⟩
 ·have:=h2 x hx;omega
 ·have:=h3 x hx;omega
 ·have:=h4 x hx;omega
theorem Zmt{b:Int}(hb:0≤b):∀xs:List Int,Zp0 b xs=Zaa (!(xs.any (ZeP b))) 2
 |[]=>rfl
 |x::xs=>by
  rw[Zp0,Zmt hb xs,List.any_cons]
  have e:ZeP b x=!Zad x (-1) b:=by
   unfold ZeP
   by_cases h:x= -1
   ·subst h
    rw[show Zad (-1) (-1) b=true from within_iff.2 ⟨by omega,by omega⟩];rfl
   ·rw[decide_eq_true h,Bool.true_and]
    congr 1
    rw[Bool.eq_iff_iff,within_iff,within_iff];omega
  rw[e]
  by_cases h:Zad x (-1) b=true
  ·rw[if_pos h,h];rfl
  ·rw[if_neg h,(by simpa using h:Zad x (-1) b=false)];rfl
theorem Ze0(ms ks rs:List AV)(a b:Int)(xs:List Int)(k:Int):ZbS ms ks rs a b xs k=if ZaF ms ks rs=0 then(if ZiA ks.length ms.length a b xs=0 then Zaa (Zad k 0 ((ks.length:Int)-1)) 15 else ZiA ks.length ms.length a b xs)else ZaF ms ks rs:=by
 unfold ZbS ZiA
 by_cases h1:ZaF ms ks rs=0
 ·by_cases h2:Zad a 0 ((ms.length:Int)-1)=true
  ·by_cases h3:Zad b 0 1000000000000=true
   ·have hb:=(within_iff.1 h3).1
    rw[Zmt hb]
    by_cases h4:(xs.length:Int)=ks.length
    ·cases h5:(xs.any (ZeP b))<;>cases h6:Zad k 0 ((ks.length:Int)-1)<;>simp[Zan,Zaa,h1,h2,h3,h4]
    ·simp[Zan,Zaa,h1,h2,h3,h4]
   ·simp[Zan,Zaa,h1,h2,h3]
  ·simp[Zan,Zaa,h1,h2]
 ·simp[Zan,h1]
theorem Zm2(ms ks rs:List AV)(a b:Int)(xs:List Int)(k:Int):Zat Tryd.prog 4 [.agg (.gen [.list (.big .str ms), .list (.big (.agg [.str, .int .i64]) ks), .list (.big (.agg [.str, .int .i64, .int .i64, .int .i64, .int .i64]) rs)]), .agg (.gen [.int .i64 a, .int .i64 b, .list (.ints .i64 xs)]), .int .i64 k] (.bool true) none:=
 start (ZsL ms ks rs a b xs k) fun C hC=>tgo hC Zwp Zxr (by
  unfold ZwP
  by_cases hf:ZmO ms ks rs=true
  ·obtain⟨h1,h2,h3,h4⟩:=Zlf hf
   by_cases hl:10<xs.length
   ·simp[hf,show(10:Int)<xs.length by omega]
   ·have g1:ms.length≤1000000:=by omega
    have g2:ks.length≤1000000:=by omega
    have g3:rs.length≤1000000:=by omega
    have g4:xs.length≤1000000:=by omega
    have g5: -9223372036854775808≤(ks.length:Int)-1∧(ks.length:Int)-1≤9223372036854775807:=by omega
    by_cases he:ZaF ms ks rs=0
    ·by_cases hm:ZiA ks.length ms.length a b xs=0
     ·by_cases hk:Zad k 0 ((ks.length:Int)-1)=true
      ·have h0:ZbS ms ks rs a b xs k=0:=by rw[Ze0];simp[he,hm,hk,Zaa]
       simp[hf,show ¬(10:Int)<xs.length by omega,h1,g1,g2,g3,g4,g5,he,hm,hk,h0,Zgy h0]
      ·have h0:ZbS ms ks rs a b xs k=15:=by rw[Ze0];simp[he,hm,hk,Zaa]
       simp[hf,show ¬(10:Int)<xs.length by omega,h1,g1,g2,g3,g4,g5,he,hm,hk,h0]
     ·have h0:ZbS ms ks rs a b xs k=ZiA ks.length ms.length a b xs:=by rw[Ze0];simp[he,hm]
      simp[hf,show ¬(10:Int)<xs.length by omega,h1,g1,g2,g3,g4,he,hm,h0]
    ·have h0:ZbS ms ks rs a b xs k=ZaF ms ks rs:=by rw[Ze0];simp[he]
     simp[hf,show ¬(10:Int)<xs.length by omega,h1,g1,g2,g3,g4,he,h0]
  ·simp[hf])
end Go.Proofs.YtkeoeooghhjibaaDoor
