/- Paths of functions, printed by the explorer (Gx). No condition. -/
import Derived.Test.YtkeoeooghhjibaaGreatDoorCl
import Derived.KernelRfl
namespace Go.Proofs.YtkeoeooghhjibaaGreatDoor
set_option maxRecDepth 100000
set_option linter.unusedVariables false
def ZsP(ms ks rs:List AV):AFrame:={ fn:=119,N:=188,env:=[(0,AV.agg (Row.gen [.list (Row.big .str ms), .list (Row.big (.agg [.str, .int .i64]) ks), .list (Row.big (.agg [.str, .int .i64, .int .i64, .int .i64, .int .i64]) rs)]))],todo:=[.code a119.code],defs:=[],rnd:=none,ret:=false,res:=[ARes.cell 2 true 2,ARes.tmp 3] }
def ZCX(ms ks rs:List AV):List AFrame:=[(ZsP ms ks rs)]
theorem ZrC(ms ks rs:List AV):Zat tab 119 [AV.agg (Row.gen [.list (Row.big .str ms), .list (Row.big (.agg [.str, .int .i64]) ks), .list (Row.big (.agg [.str, .int .i64, .int .i64, .int .i64, .int .i64]) rs)])]=some (ZsP ms ks rs):=rfl
def Zee(ms ks rs:List AV)(n0:Int):List AFrame:=[{ fn:=119,N:=188,env:=[(1,AV.ptr 119002 0 0 0),(2,AV.ptr 119003 0 0 0),(4,AV.int .i64 n0)],todo:=.code (ACode.gh [] ZsU)::ZBe,defs:=[],rnd:=none,ret:=false,res:=[ARes.cell 2 true 2,ARes.tmp 3] }]
def Zdc(ms ks rs:List AV)(n0:Int):Zac:=[(119002,{ base:=0,blks:=[Blk.row 26 3 (Row.gen [AV.agg (Row.gen [AV.list (Row.big .str ms),AV.list (Row.big (.agg [.str, .int .i64]) ks),AV.list (Row.big (.agg [.str, .int .i64, .int .i64, .int .i64, .int .i64]) rs)])])] }),(119003,{ base:=0,blks:=[Blk.row 195 2 (Row.gen [AV.agg (Row.gen [AV.int .i64 0,AV.int .i64 0])])] })]
abbrev ZfR(ms ks rs:List AV)(n0:Int):List AFrame×Zac:=(Zee ms ks rs n0,Zdc ms ks rs n0)
def Zc4(ms ks rs:List AV):List AFrame:=[{ fn:=119,N:=188,env:=[(1,AV.ptr 119002 0 0 0),(2,AV.ptr 119003 0 0 0),(5,AV.nils),(6,AV.int .i64 0)],todo:=.code (ACode.gh [] ZnP)::Zsw,defs:=[],rnd:=none,ret:=false,res:=[ARes.cell 2 true 2,ARes.tmp 3] }]
def Zcu(ms ks rs:List AV):Zac:=[(119002,{ base:=0,blks:=[Blk.row 26 3 (Row.gen [AV.agg (Row.gen [AV.list (Row.big .str ms),AV.list (Row.big (.agg [.str, .int .i64]) ks),AV.list (Row.big (.agg [.str, .int .i64, .int .i64, .int .i64, .int .i64]) rs)])])] }),(119003,{ base:=0,blks:=[Blk.row 195 2 (Row.gen [AV.agg (Row.gen [AV.int .i64 0,AV.int .i64 0])])] })]
abbrev Zjw(ms ks rs:List AV):List AFrame×Zac:=(Zc4 ms ks rs,Zcu ms ks rs)
def Zef(ms ks rs:List AV)(n1:Int)(x2:List AV):List AFrame:=[{ fn:=119,N:=188,env:=[(1,AV.ptr 119002 0 0 0),(2,AV.ptr 119003 0 0 0),(5,AV.row 119093 0),(6,AV.int .i64 n1)],todo:=.code (ACode.gh [] ZnP)::Zsw,defs:=[],rnd:=none,ret:=false,res:=[ARes.cell 2 true 2,ARes.tmp 3] }]
def Zdl(ms ks rs:List AV)(n1:Int)(x2:List AV):Zac:=[(119002,{ base:=0,blks:=[Blk.row 26 3 (Row.gen [AV.agg (Row.gen [AV.list (Row.big .str ms),AV.list (Row.big (.agg [.str, .int .i64]) ks),AV.list (Row.big (.agg [.str, .int .i64, .int .i64, .int .i64, .int .i64]) rs)])])] }),(119003,{ base:=0,blks:=[Blk.row 195 2 (Row.gen [AV.agg (Row.gen [AV.int .i64 0,AV.int .i64 0])])] }),(119093,{ base:=0,blks:=[Blk.row 9 1 (Row.big .str x2)] })]
abbrev ZfT(ms ks rs:List AV)(n1:Int)(x2:List AV):List AFrame×Zac:=(Zef ms ks rs n1 x2,Zdl ms ks rs n1 x2)
def ZcZ(ms ks rs:List AV):List AFrame:=[{ fn:=119,N:=188,env:=[(1,AV.ptr 119002 0 0 0),(2,AV.ptr 119003 0 0 0),(5,AV.nils),(7,AV.int .i64 0)],todo:=.code (ACode.gh [] Zo6)::Zr1,defs:=[],rnd:=none,ret:=false,res:=[ARes.cell 2 true 2,ARes.tmp 3] }]
def Zcs(ms ks rs:List AV):Zac:=[(119002,{ base:=0,blks:=[Blk.row 26 3 (Row.gen [AV.agg (Row.gen [AV.list (Row.big .str ms),AV.list (Row.big (.agg [.str, .int .i64]) ks),AV.list (Row.big (.agg [.str, .int .i64, .int .i64, .int .i64, .int .i64]) rs)])])] }),(119003,{ base:=0,blks:=[Blk.row 195 2 (Row.gen [AV.agg (Row.gen [AV.int .i64 0,AV.int .i64 0])])] })]
abbrev ZfN(ms ks rs:List AV):List AFrame×Zac:=(ZcZ ms ks rs,Zcs ms ks rs)
def Zd9(ms ks rs:List AV)(n3:Int)(x4:List AV):List AFrame:=[{ fn:=119,N:=188,env:=[(1,AV.ptr 119002 0 0 0),(2,AV.ptr 119003 0 0 0),(5,AV.row 119141 0),(7,AV.int .i64 n3)],todo:=.code (ACode.gh [] Zo6)::Zr1,defs:=[],rnd:=none,ret:=false,res:=[ARes.cell 2 true 2,ARes.tmp 3] }]
def Zdm(ms ks rs:List AV)(n3:Int)(x4:List AV):Zac:=[(119002,{ base:=0,blks:=[Blk.row 26 3 (Row.gen [AV.agg (Row.gen [AV.list (Row.big .str ms),AV.list (Row.big (.agg [.str, .int .i64]) ks),AV.list (Row.big (.agg [.str, .int .i64, .int .i64, .int .i64, .int .i64]) rs)])])] }),(119003,{ base:=0,blks:=[Blk.row 195 2 (Row.gen [AV.agg (Row.gen [AV.int .i64 0,AV.int .i64 0])])] }),(119141,{ base:=0,blks:=[Blk.row 9 1 (Row.big .str x4)] })]
abbrev Zcl(ms ks rs:List AV)(n3:Int)(x4:List AV):List AFrame×Zac:=(Zd9 ms ks rs n3 x4,Zdm ms ks rs n3 x4)
def Zmx(A:Ar)(K:KT)(F:FT)(ms ks rs:List AV):Prop:=bB (A.eq (A.int (A.lenA ms)) 0) (F (AV.tup [AV.agg (Row.gen [.int .i64 1, .int .i64 0]),AV.int .i64 10]) (none)) (bB (A.lt 6 (A.int (A.lenA ms))) (F (AV.tup [AV.agg (Row.gen [.int .i64 1, .int .i64 0]),AV.int .i64 8]) (none)) (K (ZfR (ms) (ks) (rs) (0))))
theorem ZBu{A:Ar}{K:KT}{F:FT}{M:MT}{ms ks rs:List AV} :ZaN A tab B6 119 K F M (.run 14 (.tf (.run 20 (.fn)) (.run 9 (.tf (.run 20 (.fn)) (.run 9 (.hd)))))) (ZCX ms ks rs) []=Zmx A K F ms ks rs:=by kernel_rfl
def ZbT(A:Ar)(K:KT)(F:FT)(ms ks rs:List AV)(n0:Int):Prop:=bB (A.lt n0 (A.int (A.lenA ms))) (rB [decide (List.length (AV.toS (A.nthA ms (A.nat n0)))≤1000000),Zah (Zah (A.le 0 n0) (Nat.blt (A.nat n0) (A.lenA ms))) true] (bB (A.not (ZaT (AV.toS (A.nthA ms (A.nat n0))))) (F (AV.tup [AV.agg (Row.gen [.int .i64 1, .int .i64 n0]),AV.int .i64 4]) (none)) (rB [decide (List.length (A.subA ms 0 (A.nat n0-0))≤1000000),Zah (Zah (A.le 0 n0) (Nat.blt (A.nat n0) (A.lenA ms))) true,Zah (A.le 0 n0) (Zah (Zah (Nat.ble 0 (A.nat n0)) (Nat.ble (A.nat n0) (A.lenA ms))) true)] (bB (Zhl (A.subA ms 0 (A.nat n0-0)) (AV.toS (A.nthA ms (A.nat n0)))) (F (AV.tup [AV.agg (Row.gen [.int .i64 1, .int .i64 n0]),AV.int .i64 5]) (none)) (rB [A.inR .i64 (A.add n0 1)] (K (ZfR (ms) (ks) (rs) (A.add n0 1)))))))) (bB (A.eq (A.int (A.lenA ks)) 0) (F (AV.tup [AV.agg (Row.gen [.int .i64 2, .int .i64 0]),AV.int .i64 10]) (none)) (bB (A.lt 8 (A.int (A.lenA ks))) (F (AV.tup [AV.agg (Row.gen [.int .i64 2, .int .i64 0]),AV.int .i64 8]) (none)) (K (Zjw (ms) (ks) (rs)))))
theorem ZfL{A:Ar}{K:KT}{F:FT}{M:MT}{ms ks rs:List AV}{n0:Int} :ZaN A tab B6 119 K F M (.run 10 (.tf (.run 15 (.tf (.run 21 (.fn)) (.run 4 (.tf (.run 21 (.fn)) (.run 9 (.hd)))))) (.run 9 (.tf (.run 20 (.fn)) (.run 9 (.tf (.run 20 (.fn)) (.run 13 (.hd)))))))) (Zee ms ks rs n0) (Zdc ms ks rs n0)=ZbT A K F ms ks rs n0:=by kernel_rfl
def Zcr(A:Ar)(K:KT)(F:FT)(ms ks rs:List AV):Prop:=bB (A.lt 0 (A.int (A.lenA ks))) (rB [decide (List.length ((A.nthA ks (A.nat 0)).cellAt 0).toS≤1000000),Zah (Zah (A.le 0 0) (Nat.blt (A.nat 0) (A.lenA ks))) true] (bB (A.not (ZaT ((A.nthA ks (A.nat 0)).cellAt 0).toS)) (F (AV.tup [AV.agg (Row.gen [.int .i64 2, .int .i64 0]),AV.int .i64 4]) (none)) (rB [Zah (Zah (A.le 0 0) (Nat.blt (A.nat 0) (A.lenA ks))) true] (rB [A.inR .i64 (A.sub (A.int (A.lenA ms)) 1),Zah (Zah (A.le 0 0) (Nat.blt (A.nat 0) (A.lenA ks))) true,Zah (Nat.ble (A.lenA [AV.str ((A.nthA ks (A.nat 0)).cellAt 0).toS]) 4294967296) (Nat.blt 0 (A.lenA [AV.str ((A.nthA ks (A.nat 0)).cellAt 0).toS])),List.all [AV.str ((A.nthA ks (A.nat 0)).cellAt 0).toS] fun x=>AV.bx x&&Nat.beq (Zad A x) 1,Zah (Zah (A.le 0 0) (Nat.blt (A.nat 0) (A.lenA ks))) true] (bB (A.not (Zab ((A.nthA ks (A.nat 0)).cellAt 1).toI (-1) (A.sub (A.int (A.lenA ms)) 1))) (F (AV.tup [AV.agg (Row.gen [.int .i64 2, .int .i64 0]),AV.int .i64 6]) (none)) (rB [A.inR .i64 (A.add 0 1)] (K (ZfT (ms) (ks) (rs) (A.add 0 1) ([AV.str ((A.nthA ks (A.nat 0)).cellAt 0).toS]))))))))) (bB (A.lt 10 (A.int (A.lenA rs))) (F (AV.tup [AV.agg (Row.gen [.int .i64 3, .int .i64 0]),AV.int .i64 8]) (none)) (K (ZfN (ms) (ks) (rs))))
theorem ZfS{A:Ar}{K:KT}{F:FT}{M:MT}{ms ks rs:List AV} :ZaN A tab B6 119 K F M (.run 10 (.tf (.run 16 (.tf (.run 21 (.fn)) (.run 14 (.fy (.run 18 (.tf (.run 21 (.fn)) (.run 9 (.hd)))))))) (.run 9 (.tf (.run 20 (.fn)) (.run 13 (.hd)))))) (Zc4 ms ks rs) (Zcu ms ks rs)=Zcr A K F ms ks rs:=by kernel_rfl
def Zct(A:Ar)(K:KT)(F:FT)(ms ks rs:List AV)(n1:Int)(x2:List AV):Prop:=bB (A.lt n1 (A.int (A.lenA ks))) (rB [decide (List.length ((A.nthA ks (A.nat n1)).cellAt 0).toS≤1000000),Zah (Zah (A.le 0 n1) (Nat.blt (A.nat n1) (A.lenA ks))) true] (bB (A.not (ZaT ((A.nthA ks (A.nat n1)).cellAt 0).toS)) (F (AV.tup [AV.agg (Row.gen [.int .i64 2, .int .i64 n1]),AV.int .i64 4]) (none)) (rB [decide (List.length x2≤1000000),Zah (Zah (A.le 0 n1) (Nat.blt (A.nat n1) (A.lenA ks))) true] (bB (Zhl x2 ((A.nthA ks (A.nat n1)).cellAt 0).toS) (F (AV.tup [AV.agg (Row.gen [.int .i64 2, .int .i64 n1]),AV.int .i64 5]) (none)) (rB [A.inR .i64 (A.sub (A.int (A.lenA ms)) 1),Zah (Zah (A.le 0 n1) (Nat.blt (A.nat n1) (A.lenA ks))) true,Nat.ble (A.lenA x2+A.lenA [AV.str ((A.nthA ks (A.nat n1)).cellAt 0).toS]) 4294967296,List.all [AV.str ((A.nthA ks (A.nat n1)).cellAt 0).toS] fun x=>AV.bx x&&Nat.beq (Zad A x) 1,Zah (Zah (A.le 0 n1) (Nat.blt (A.nat n1) (A.lenA ks))) true] (bB (A.not (Zab ((A.nthA ks (A.nat n1)).cellAt 1).toI (-1) (A.sub (A.int (A.lenA ms)) 1))) (F (AV.tup [AV.agg (Row.gen [.int .i64 2, .int .i64 n1]),AV.int .i64 6]) (none)) (rB [A.inR .i64 (A.add n1 1)] (K (ZfT (ms) (ks) (rs) (A.add n1 1) (A.appA x2 [AV.str ((A.nthA ks (A.nat n1)).cellAt 0).toS])))))))))) (bB (A.lt 10 (A.int (A.lenA rs))) (F (AV.tup [AV.agg (Row.gen [.int .i64 3, .int .i64 0]),AV.int .i64 8]) (none)) (K (ZfN (ms) (ks) (rs))))
theorem ZfM{A:Ar}{K:KT}{F:FT}{M:MT}{ms ks rs:List AV}{n1:Int}{x2:List AV} :ZaN A tab B6 119 K F M (.run 10 (.tf (.run 16 (.tf (.run 21 (.fn)) (.run 14 (.tf (.run 21 (.fn)) (.run 18 (.tf (.run 21 (.fn)) (.run 9 (.hd)))))))) (.run 9 (.tf (.run 20 (.fn)) (.run 13 (.hd)))))) (Zef ms ks rs n1 x2) (Zdl ms ks rs n1 x2)=Zct A K F ms ks rs n1 x2:=by kernel_rfl
def Zdw(A:Ar)(K:KT)(F:FT)(ms ks rs:List AV):Prop:=bB (A.lt 0 (A.int (A.lenA rs))) (rB [decide (List.length ((A.nthA rs (A.nat 0)).cellAt 0).toS≤1000000),Zah (Zah (A.le 0 0) (Nat.blt (A.nat 0) (A.lenA rs))) true] (bB (A.not (ZaT ((A.nthA rs (A.nat 0)).cellAt 0).toS)) (F (AV.tup [AV.agg (Row.gen [.int .i64 3, .int .i64 0]),AV.int .i64 4]) (none)) (rB [A.inR .i64 (A.sub (A.int (A.lenA ks)) 1),Zah (Nat.ble (A.lenA [AV.str ((A.nthA rs (A.nat 0)).cellAt 0).toS]) 4294967296) (Nat.blt 0 (A.lenA [AV.str ((A.nthA rs (A.nat 0)).cellAt 0).toS])),List.all [AV.str ((A.nthA rs (A.nat 0)).cellAt 0).toS] fun x=>AV.bx x&&Nat.beq (Zad A x) 1] (bB (A.not (Zab ((A.nthA rs (A.nat 0)).cellAt 1).toI 0 (A.sub (A.int (A.lenA ks)) 1))) (F (AV.tup [AV.agg (Row.gen [.int .i64 3, .int .i64 0]),AV.int .i64 6]) (none)) (rB [A.inR .i64 (A.sub (A.int (A.lenA ms)) 1)] (bB (A.not (Zab ((A.nthA rs (A.nat 0)).cellAt 2).toI (-1) (A.sub (A.int (A.lenA ms)) 1))) (F (AV.tup [AV.agg (Row.gen [.int .i64 3, .int .i64 0]),AV.int .i64 6]) (none)) (rB [A.inR .i64 (A.sub (A.int (A.lenA ks)) 1)] (bB (A.not (Zab ((A.nthA rs (A.nat 0)).cellAt 3).toI (-1) (A.sub (A.int (A.lenA ks)) 1))) (F (AV.tup [AV.agg (Row.gen [.int .i64 3, .int .i64 0]),AV.int .i64 6]) (none)) (bB (A.not (Zab ((A.nthA rs (A.nat 0)).cellAt 4).toI 1 1000000)) (F (AV.tup [AV.agg (Row.gen [.int .i64 3, .int .i64 0]),AV.int .i64 2]) (none)) (bB (A.eq ((A.nthA rs (A.nat 0)).cellAt 3).toI (-1)) (bB (A.not (A.eq ((A.nthA rs (A.nat 0)).cellAt 4).toI 1)) (F (AV.tup [AV.agg (Row.gen [.int .i64 3, .int .i64 0]),AV.int .i64 3]) (none)) (rB [A.inR .i64 (A.add 0 1)] (K (Zcl (ms) (ks) (rs) (A.add 0 1) ([AV.str ((A.nthA rs (A.nat 0)).cellAt 0).toS]))))) (rB [A.inR .i64 (A.add 0 1)] (K (Zcl (ms) (ks) (rs) (A.add 0 1) ([AV.str ((A.nthA rs (A.nat 0)).cellAt 0).toS])))))))))))))) (F (AV.tup [AV.agg (Row.gen [.int .i64 0, .int .i64 0]),AV.int .i64 0]) (none))
theorem ZfV{A:Ar}{K:KT}{F:FT}{M:MT}{ms ks rs:List AV} :ZaN A tab B6 119 K F M (.run 10 (.tf (.run 21 (.tf (.run 21 (.fn)) (.run 9 (.fy (.run 22 (.tf (.ty (.ty (.ty (.ty (.ty (.ty (.ty (.ty (.run 1 (.ty (.ty (.ty (.ty (.ty (.ty (.ty (.ty (.ty (.run 2 (.ty (.run 21 (.fn)))))))))))))))))))))) (.fy (.fy (.fy (.fy (.fy (.fy (.fy (.fy (.run 1 (.tf (.ty (.ty (.ty (.ty (.ty (.ty (.ty (.ty (.run 2 (.ty (.run 21 (.fn)))))))))))) (.fy (.fy (.fy (.fy (.fy (.fy (.fy (.fy (.run 2 (.tf (.run 21 (.fn)) (.run 9 (.tf (.run 21 (.fn)) (.run 7 (.tf (.ty (.ty (.ty (.run 2 (.tf (.run 21 (.fn)) (.run 9 (.hd))))))) (.fy (.fy (.fy (.run 2 (.fy (.run 9 (.hd))))))))))))))))))))))))))))))))))))) (.run 8 (.fn)))) (ZcZ ms ks rs) (Zcs ms ks rs)=Zdw A K F ms ks rs:=by kernel_rfl
def Zdr(A:Ar)(K:KT)(F:FT)(ms ks rs:List AV)(n3:Int)(x4:List AV):Prop:=bB (A.lt n3 (A.int (A.lenA rs))) (rB [decide (List.length ((A.nthA rs (A.nat n3)).cellAt 0).toS≤1000000),Zah (Zah (A.le 0 n3) (Nat.blt (A.nat n3) (A.lenA rs))) true] (bB (A.not (ZaT ((A.nthA rs (A.nat n3)).cellAt 0).toS)) (F (AV.tup [AV.agg (Row.gen [.int .i64 3, .int .i64 n3]),AV.int .i64 4]) (none)) (rB [decide (List.length x4≤1000000)] (bB (Zhl x4 ((A.nthA rs (A.nat n3)).cellAt 0).toS) (F (AV.tup [AV.agg (Row.gen [.int .i64 3, .int .i64 n3]),AV.int .i64 5]) (none)) (rB [A.inR .i64 (A.sub (A.int (A.lenA ks)) 1),Nat.ble (A.lenA x4+A.lenA [AV.str ((A.nthA rs (A.nat n3)).cellAt 0).toS]) 4294967296,List.all [AV.str ((A.nthA rs (A.nat n3)).cellAt 0).toS] fun x=>AV.bx x&&Nat.beq (Zad A x) 1] (bB (A.not (Zab ((A.nthA rs (A.nat n3)).cellAt 1).toI 0 (A.sub (A.int (A.lenA ks)) 1))) (F (AV.tup [AV.agg (Row.gen [.int .i64 3, .int .i64 n3]),AV.int .i64 6]) (none)) (rB [A.inR .i64 (A.sub (A.int (A.lenA ms)) 1)] (bB (A.not (Zab ((A.nthA rs (A.nat n3)).cellAt 2).toI (-1) (A.sub (A.int (A.lenA ms)) 1))) (F (AV.tup [AV.agg (Row.gen [.int .i64 3, .int .i64 n3]),AV.int .i64 6]) (none)) (rB [A.inR .i64 (A.sub (A.int (A.lenA ks)) 1)] (bB (A.not (Zab ((A.nthA rs (A.nat n3)).cellAt 3).toI (-1) (A.sub (A.int (A.lenA ks)) 1))) (F (AV.tup [AV.agg (Row.gen [.int .i64 3, .int .i64 n3]),AV.int .i64 6]) (none)) (bB (A.not (Zab ((A.nthA rs (A.nat n3)).cellAt 4).toI 1 1000000)) (F (AV.tup [AV.agg (Row.gen [.int .i64 3, .int .i64 n3]),AV.int .i64 2]) (none)) (bB (A.eq ((A.nthA rs (A.nat n3)).cellAt 3).toI (-1)) (bB (A.not (A.eq ((A.nthA rs (A.nat n3)).cellAt 4).toI 1)) (F (AV.tup [AV.agg (Row.gen [.int .i64 3, .int .i64 n3]),AV.int .i64 3]) (none)) (rB [A.inR .i64 (A.add n3 1)] (K (Zcl (ms) (ks) (rs) (A.add n3 1) (A.appA x4 [AV.str ((A.nthA rs (A.nat n3)).cellAt 0).toS]))))) (rB [A.inR .i64 (A.add n3 1)] (K (Zcl (ms) (ks) (rs) (A.add n3 1) (A.appA x4 [AV.str ((A.nthA rs (A.nat n3)).cellAt 0).toS])))))))))))))))) (F (AV.tup [AV.agg (Row.gen [.int .i64 0, .int .i64 0]),AV.int .i64 0]) (none))
theorem ZfW{A:Ar}{K:KT}{F:FT}{M:MT}{ms ks rs:List AV}{n3:Int}{x4:List AV} :ZaN A tab B6 119 K F M (.run 10 (.tf (.run 21 (.tf (.run 21 (.fn)) (.run 9 (.tf (.run 21 (.fn)) (.run 22 (.tf (.ty (.ty (.ty (.ty (.ty (.ty (.ty (.ty (.run 1 (.ty (.ty (.ty (.ty (.ty (.ty (.ty (.ty (.ty (.run 2 (.ty (.run 21 (.fn)))))))))))))))))))))) (.fy (.fy (.fy (.fy (.fy (.fy (.fy (.fy (.run 1 (.tf (.ty (.ty (.ty (.ty (.ty (.ty (.ty (.ty (.run 2 (.ty (.run 21 (.fn)))))))))))) (.fy (.fy (.fy (.fy (.fy (.fy (.fy (.fy (.run 2 (.tf (.run 21 (.fn)) (.run 9 (.tf (.run 21 (.fn)) (.run 7 (.tf (.ty (.ty (.ty (.run 2 (.tf (.run 21 (.fn)) (.run 9 (.hd))))))) (.fy (.fy (.fy (.run 2 (.fy (.run 9 (.hd))))))))))))))))))))))))))))))))))))) (.run 8 (.fn)))) (Zd9 ms ks rs n3 x4) (Zdm ms ks rs n3 x4)=Zdr A K F ms ks rs n3 x4:=by kernel_rfl
def ZAz(ms ks rs:List AV)(a b:Int)(xs:List Int)(k:Int):AFrame:={ fn:=42,N:=64,env:=[(0,AV.agg (Row.gen [.list (Row.big .str ms), .list (Row.big (.agg [.str, .int .i64]) ks), .list (Row.big (.agg [.str, .int .i64, .int .i64, .int .i64, .int .i64]) rs)])),(1,AV.agg (Row.gen [.int .i64 a, .int .i64 b, .list (.ints .i64 xs)])),(2,AV.int .i64 k)],todo:=[.code a42.code],defs:=[],rnd:=none,ret:=false,res:=[ARes.tmp 6,ARes.tmp 7] }
def ZG9(ms ks rs:List AV)(a b:Int)(xs:List Int)(k:Int):List AFrame:=[(ZAz ms ks rs a b xs k)]
theorem Zvi(ms ks rs:List AV)(a b:Int)(xs:List Int)(k:Int):Zat tab 42 [AV.agg (Row.gen [.list (Row.big .str ms), .list (Row.big (.agg [.str, .int .i64]) ks), .list (Row.big (.agg [.str, .int .i64, .int .i64, .int .i64, .int .i64]) rs)]),AV.agg (Row.gen [.int .i64 a, .int .i64 b, .list (.ints .i64 xs)]),AV.int .i64 k]=some (ZAz ms ks rs a b xs k):=rfl
def ZeN(ms ks rs:List AV)(a b:Int)(xs:List Int)(k n0 n1 n2:Int)(b3:Bool)(n4:Int):List AFrame:=[{ fn:=91,N:=66,env:=[(0,AV.ptr 42011 0 0 0),(1,AV.int .i64 k),(11,AV.list (Row.big (.agg [.str, .int .i64, .int .i64, .int .i64, .int .i64]) rs)),(12,AV.int .i64 n0),(13,AV.int .i64 n4)],todo:=.code (ACode.gh [] ZvL)::ZBA,defs:=[],rnd:=none,ret:=false,res:=[ARes.tmp 4] },{ fn:=42,N:=64,env:=[(2,AV.int .i64 k),(3,AV.ptr 42004 0 0 0),(4,AV.ptr 42005 0 0 0),(9,AV.int .i64 n1),(10,AV.ptr 42011 0 0 0),(50,AV.int .i64 n2),(51,AV.bool b3),(53,AV.agg (Row.gen [.list (Row.big .str ms), .list (Row.big (.agg [.str, .int .i64]) ks), .list (Row.big (.agg [.str, .int .i64, .int .i64, .int .i64, .int .i64]) rs)])),(54,AV.agg (Row.gen [.int .i64 a, .int .i64 b, .list (.ints .i64 xs)])),(55,AV.agg (Row.gen [.list (Row.big .str ms), .list (Row.big (.agg [.str, .int .i64]) ks), .list (Row.big (.agg [.str, .int .i64, .int .i64, .int .i64, .int .i64]) rs), .int .i64 a, .int .i64 b, .list (.ints .i64 xs)])),(56,AV.int .i64 k)],todo:=[AItem.inReg [oN 57 (OpK.icall 91 [Opd.t 10,Opd.t 56]),mV 11 57], .code (ACode.seq (ACode.reg none [mV 58 11,oN 59 (OpK.pnil true (Opd.t 58))]) (ACode.cond (Opd.t 59) (ACode.seq (ACode.reg none [mV 60 11,oN 61 (OpK.nilck (Opd.t 60)),oN 62 (OpK.faddr 0 (Opd.t 61)),oN 63 (OpK.load false 1 (Opd.t 62)),mV 6 63,oN 7 (OpK.mov (cI 0))]) ACode.ret) ACode.skip)), .code (ACode.seq (ACode.reg none [oN 6 (OpK.mov (Opd.c (AV.str []))),oN 7 (OpK.mov (cI 0))]) ACode.ret)],defs:=[],rnd:=none,ret:=false,res:=[ARes.tmp 6,ARes.tmp 7] }]
def ZdW(ms ks rs:List AV)(a b:Int)(xs:List Int)(k n0 n1 n2:Int)(b3:Bool)(n4:Int):Zac:=[(42004,{ base:=0,blks:=[Blk.row 26 3 (Row.gen [AV.agg (Row.gen [AV.list (Row.big .str ms),AV.list (Row.big (.agg [.str, .int .i64]) ks),AV.list (Row.big (.agg [.str, .int .i64, .int .i64, .int .i64, .int .i64]) rs)])])] }),(42005,{ base:=0,blks:=[Blk.row 76 3 (Row.gen [AV.agg (Row.gen [AV.int .i64 a,AV.int .i64 b,AV.list (.ints .i64 xs)])])] }),(42011,{ base:=0,blks:=[Blk.row 137 6 (Row.gen [AV.agg (Row.gen [AV.list (Row.big .str ms),AV.list (Row.big (.agg [.str, .int .i64]) ks),AV.list (Row.big (.agg [.str, .int .i64, .int .i64, .int .i64, .int .i64]) rs),AV.int .i64 a,AV.int .i64 b,AV.list (.ints .i64 xs)])])] })]
abbrev ZbB(ms ks rs:List AV)(a b:Int)(xs:List Int)(k n0 n1 n2:Int)(b3:Bool)(n4:Int):List AFrame×Zac:=(ZeN ms ks rs a b xs k n0 n1 n2 b3 n4,ZdW ms ks rs a b xs k n0 n1 n2 b3 n4)
def ZzR(A:Ar)(K:KT)(F:FT)(ms ks rs:List AV)(a b:Int)(xs:List Int)(k:Int):Prop:=rB [decide (List.length [Zaz ms ks rs,Zaa (Zab a 0 (A.sub (A.int (A.lenA ms)) 1)) 6,Zaa (Zab b 0 1000000000000) 2,Zaa (A.eq (A.int (A.len xs)) (A.int (A.lenA ks))) 10,Zaa (A.not (List.any xs (ZgS b))) 2,Zaa (Zab k 0 (A.sub (A.int (A.lenA ks)) 1)) 15]≤1000000),List.all [AV.int .i64 (Zaz ms ks rs),AV.int .i64 (Zaa (Zab a 0 (A.sub (A.int (A.lenA ms)) 1)) 6),AV.int .i64 (Zaa (Zab b 0 1000000000000) 2),AV.int .i64 (Zaa (A.eq (A.int (A.len xs)) (A.int (A.lenA ks))) 10),AV.int .i64 (Zaa (A.not (List.any xs (ZgS b))) 2),AV.int .i64 (Zaa (Zab k 0 (A.sub (A.int (A.lenA ks)) 1)) 15)] fun x=>AV.bx x&&Nat.beq (Zad A x) 1,A.inR .i64 (A.sub (A.int (A.lenA ks)) 1),decide (List.length xs≤1000000),A.inR .i64 (A.sub (A.int (A.lenA ms)) 1),decide (Zay ms ks rs=true)] (bB (A.not (A.eq (Zaf [Zaz ms ks rs,Zaa (Zab a 0 (A.sub (A.int (A.lenA ms)) 1)) 6,Zaa (Zab b 0 1000000000000) 2,Zaa (A.eq (A.int (A.len xs)) (A.int (A.lenA ks))) 10,Zaa (A.not (List.any xs (ZgS b))) 2,Zaa (Zab k 0 (A.sub (A.int (A.lenA ks)) 1)) 15]) 0)) (F (AV.tup [AV.str [],AV.int .i64 (Zaf [Zaz ms ks rs,Zaa (Zab a 0 (A.sub (A.int (A.lenA ms)) 1)) 6,Zaa (Zab b 0 1000000000000) 2,Zaa (A.eq (A.int (A.len xs)) (A.int (A.lenA ks))) 10,Zaa (A.not (List.any xs (ZgS b))) 2,Zaa (Zab k 0 (A.sub (A.int (A.lenA ks)) 1)) 15])]) (none)) (K (ZbB (ms) (ks) (rs) (a) (b) (xs) (k) (A.int (A.lenA rs)) (Zaf [Zaz ms ks rs,Zaa (Zab a 0 (A.sub (A.int (A.lenA ms)) 1)) 6,Zaa (Zab b 0 1000000000000) 2,Zaa (A.eq (A.int (A.len xs)) (A.int (A.lenA ks))) 10,Zaa (A.not (List.any xs (ZgS b))) 2,Zaa (Zab k 0 (A.sub (A.int (A.lenA ks)) 1)) 15]) (Zaf [Zaz ms ks rs,Zaa (Zab a 0 (A.sub (A.int (A.lenA ms)) 1)) 6,Zaa (Zab b 0 1000000000000) 2,Zaa (A.eq (A.int (A.len xs)) (A.int (A.lenA ks))) 10,Zaa (A.not (List.any xs (ZgS b))) 2,Zaa (Zab k 0 (A.sub (A.int (A.lenA ks)) 1)) 15]) (A.not (A.eq (Zaf [Zaz ms ks rs,Zaa (Zab a 0 (A.sub (A.int (A.lenA ms)) 1)) 6,Zaa (Zab b 0 1000000000000) 2,Zaa (A.eq (A.int (A.len xs)) (A.int (A.lenA ks))) 10,Zaa (A.not (List.any xs (ZgS b))) 2,Zaa (Zab k 0 (A.sub (A.int (A.lenA ks)) 1)) 15]) 0)) (0))))
theorem ZDu{A:Ar}{K:KT}{F:FT}{M:MT}{ms ks rs:List AV}{a b:Int}{xs:List Int}{k:Int} :ZaN A tab B6 42 K F M (.run 21 (.tf (.run 7 (.fn)) (.run 32 (.hd)))) (ZG9 ms ks rs a b xs k) []=ZzR A K F ms ks rs a b xs k:=by kernel_rfl
def Zfn(A:Ar)(K:KT)(F:FT)(ms ks rs:List AV)(a b:Int)(xs:List Int)(k n0 n1 n2:Int)(b3:Bool)(n4:Int):Prop:=bB (A.lt n4 n0) (rB [Zah (Zah (A.le 0 n4) (Nat.blt (A.nat n4) (A.lenA rs))) true] (qB [A.eq ((A.nthA rs (A.nat n4)).cellAt 2).toI (-1),A.eq ((A.nthA rs (A.nat n4)).cellAt 1).toI k] (rB [!A.not true] (qB [A.eq ((A.nthA rs (A.nat n4)).cellAt 3).toI (-1)] (rB [Zah (Zah (A.le 0 n4) (Nat.blt (A.nat n4) (A.lenA rs))) true] (F (AV.tup [AV.str ((A.nthA rs (A.nat n4)).cellAt 0).toS,AV.int .i64 0]) (none))) (qB [A.inR .i64 (A.sub b (A.nth xs (A.nat ((A.nthA rs (A.nat n4)).cellAt 3).toI))),Zah (Zah (A.le 0 ((A.nthA rs (A.nat n4)).cellAt 3).toI) (Nat.blt (A.nat ((A.nthA rs (A.nat n4)).cellAt 3).toI) (A.len xs))) true,A.not (A.eq (A.nth xs (A.nat ((A.nthA rs (A.nat n4)).cellAt 3).toI)) (-1)),Zah (Zah (A.le 0 ((A.nthA rs (A.nat n4)).cellAt 3).toI) (Nat.blt (A.nat ((A.nthA rs (A.nat n4)).cellAt 3).toI) (A.len xs))) true,!A.eq ((A.nthA rs (A.nat n4)).cellAt 3).toI (-1)] (bB (A.lt (A.sub b (A.nth xs (A.nat ((A.nthA rs (A.nat n4)).cellAt 3).toI))) ((A.nthA rs (A.nat n4)).cellAt 4).toI) (rB [Zah (Zah (A.le 0 n4) (Nat.blt (A.nat n4) (A.lenA rs))) true] (F (AV.tup [AV.str ((A.nthA rs (A.nat n4)).cellAt 0).toS,AV.int .i64 0]) (none))) (rB [A.inR .i64 (A.add n4 1)] (K (ZbB (ms) (ks) (rs) (a) (b) (xs) (k) (n0) (n1) (n2) (b3) (A.add n4 1))))) (rB [!A.not (A.eq (A.nth xs (A.nat ((A.nthA rs (A.nat n4)).cellAt 3).toI)) (-1)),Zah (Zah (A.le 0 ((A.nthA rs (A.nat n4)).cellAt 3).toI) (Nat.blt (A.nat ((A.nthA rs (A.nat n4)).cellAt 3).toI) (A.len xs))) true,!A.eq ((A.nthA rs (A.nat n4)).cellAt 3).toI (-1)] (rB [A.inR .i64 (A.add n4 1)] (K (ZbB (ms) (ks) (rs) (a) (b) (xs) (k) (n0) (n1) (n2) (b3) (A.add n4 1)))))))) (qB [!A.eq ((A.nthA rs (A.nat n4)).cellAt 2).toI (-1),A.eq ((A.nthA rs (A.nat n4)).cellAt 1).toI k] (bB (A.not (A.eq ((A.nthA rs (A.nat n4)).cellAt 2).toI a)) (rB [A.inR .i64 (A.add n4 1)] (K (ZbB (ms) (ks) (rs) (a) (b) (xs) (k) (n0) (n1) (n2) (b3) (A.add n4 1)))) (qB [A.eq ((A.nthA rs (A.nat n4)).cellAt 3).toI (-1)] (rB [Zah (Zah (A.le 0 n4) (Nat.blt (A.nat n4) (A.lenA rs))) true] (F (AV.tup [AV.str ((A.nthA rs (A.nat n4)).cellAt 0).toS,AV.int .i64 0]) (none))) (qB [A.inR .i64 (A.sub b (A.nth xs (A.nat ((A.nthA rs (A.nat n4)).cellAt 3).toI))),Zah (Zah (A.le 0 ((A.nthA rs (A.nat n4)).cellAt 3).toI) (Nat.blt (A.nat ((A.nthA rs (A.nat n4)).cellAt 3).toI) (A.len xs))) true,A.not (A.eq (A.nth xs (A.nat ((A.nthA rs (A.nat n4)).cellAt 3).toI)) (-1)),Zah (Zah (A.le 0 ((A.nthA rs (A.nat n4)).cellAt 3).toI) (Nat.blt (A.nat ((A.nthA rs (A.nat n4)).cellAt 3).toI) (A.len xs))) true,!A.eq ((A.nthA rs (A.nat n4)).cellAt 3).toI (-1)] (bB (A.lt (A.sub b (A.nth xs (A.nat ((A.nthA rs (A.nat n4)).cellAt 3).toI))) ((A.nthA rs (A.nat n4)).cellAt 4).toI) (rB [Zah (Zah (A.le 0 n4) (Nat.blt (A.nat n4) (A.lenA rs))) true] (F (AV.tup [AV.str ((A.nthA rs (A.nat n4)).cellAt 0).toS,AV.int .i64 0]) (none))) (rB [A.inR .i64 (A.add n4 1)] (K (ZbB (ms) (ks) (rs) (a) (b) (xs) (k) (n0) (n1) (n2) (b3) (A.add n4 1))))) (rB [!A.not (A.eq (A.nth xs (A.nat ((A.nthA rs (A.nat n4)).cellAt 3).toI)) (-1)),Zah (Zah (A.le 0 ((A.nthA rs (A.nat n4)).cellAt 3).toI) (Nat.blt (A.nat ((A.nthA rs (A.nat n4)).cellAt 3).toI) (A.len xs))) true,!A.eq ((A.nthA rs (A.nat n4)).cellAt 3).toI (-1)] (rB [A.inR .i64 (A.add n4 1)] (K (ZbB (ms) (ks) (rs) (a) (b) (xs) (k) (n0) (n1) (n2) (b3) (A.add n4 1)))))))) (rB [!A.eq ((A.nthA rs (A.nat n4)).cellAt 1).toI k] (rB [A.not false] (rB [A.inR .i64 (A.add n4 1)] (K (ZbB (ms) (ks) (rs) (a) (b) (xs) (k) (n0) (n1) (n2) (b3) (A.add n4 1))))))))) (F (AV.tup [AV.str [],AV.int .i64 0]) (none))
theorem Zia{A:Ar}{K:KT}{F:FT}{M:MT}{ms ks rs:List AV}{a b:Int}{xs:List Int}{k n0 n1 n2:Int}{b3:Bool}{n4:Int} :ZaN A tab B6 42 K F M (.run 6 (.tf (.run 25 (.alt [true,true] (.run 5 (.fy (.run 2 (.alt [true] (.run 1 (.ty (.run 21 (.ty (.run 10 (.fn)))))) (.alt [false,true] (.run 1 (.tf (.run 21 (.ty (.run 10 (.fn)))) (.run 8 (.hd)))) (.alt [false,false] (.run 1 (.fy (.run 8 (.hd)))) (.no))))))) (.alt [true,false] (.run 5 (.tf (.run 7 (.hd)) (.run 2 (.alt [true] (.run 1 (.ty (.run 21 (.ty (.run 10 (.fn)))))) (.alt [false,true] (.run 1 (.tf (.run 21 (.ty (.run 10 (.fn)))) (.run 8 (.hd)))) (.alt [false,false] (.run 1 (.fy (.run 8 (.hd)))) (.no))))))) (.fy (.run 5 (.ty (.run 7 (.hd)))))))) (.run 14 (.fy (.run 7 (.fn)))))) (ZeN ms ks rs a b xs k n0 n1 n2 b3 n4) (ZdW ms ks rs a b xs k n0 n1 n2 b3 n4)=Zfn A K F ms ks rs a b xs k n0 n1 n2 b3 n4:=by kernel_rfl
end Go.Proofs.YtkeoeooghhjibaaGreatDoor
/- CheckModel of the reference. No condition. -/
namespace Go.Proofs.YtkeoeooghhjibaaGreatDoor
theorem ZwM{nm:List UInt8}{ex:Int}{xs:List AV}(h:ZaT nm=false):Zcz nm ex xs=4:=by simp[Zcz,Zaf,Zaa,h]
theorem Zw6{nm:List UInt8}{ex:Int}{xs:List AV}(h:ZaT nm=true)(h2:Zhl xs nm=true):Zcz nm ex xs=5:=by
 have h3:std.hasS xs nm=true:=h2
 simp[-Zdj,Zcz,Zaf,Zaa,h,h3]
theorem Zw2{nm:List UInt8}{ex:Int}{xs:List AV}(h:ZaT nm=true)(h2:Zhl xs nm=false):Zcz nm ex xs=ex:=by
 have h3:std.hasS xs nm=false:=h2
 by_cases h4:ex=0<;>simp[-Zdj,Zcz,Zaf,Zaa,h,h3,h4]
theorem Ze7{n m:Int}(hm:0≤m):Zhm n m=Zab n (-1) (m-1):=by
 unfold Zhm Zab
 by_cases h:n= -1
 ·rw[if_pos h,decide_eq_true (by omega)]
 ·rw[if_neg h]
  by_cases h2:0≤n∧n≤m-1
  ·rw[decide_eq_true h2,decide_eq_true (by omega)]
  ·rw[decide_eq_false h2,decide_eq_false (by omega)]
theorem Ze1(nm:Nat→List UInt8)(ex:Nat→Int)(m k:Nat)(xs:List AV)(p:Int)(d:AV):Zbz p (Zbj nm ex (m+1) k xs) d=if Zcz (nm k) (ex k) xs=0 then Zbz p (Zbj nm ex m (k+1) (xs++[.str (nm k)])) d else Zbh p k (Zcz (nm k) (ex k) xs):=by
 rw[Zbj];split<;>rfl
theorem Zev(nm:List UInt8)(ex:Int)(xs:List AV):Zcz nm ex xs=if ZaT nm=true then(if Zhl xs nm=true then 5 else ex)else 4:=by
 by_cases h:ZaT nm=true
 ·by_cases h2:Zhl xs nm=true
  ·rw[if_pos h,if_pos h2,Zw6 h h2]
  ·rw[if_pos h,if_neg h2,Zw2 h (by simpa using h2)]
 ·rw[if_neg h,ZwM (by simpa using h)]
theorem ZiU(rs:List AV)(k n m:Nat):ZbO rs k n m=if Zab (Zak rs k 1) 0 ((n:Int)-1)=true∧Zab (Zak rs k 2) (-1) ((m:Int)-1)=true∧Zab (Zak rs k 3) (-1) ((n:Int)-1)=true then(if Zab (Zak rs k 4) 1 1000000=true then(if Zak rs k 3= -1∧¬Zak rs k 4=1 then 3 else 0)else 2)else 6:=by
 rw[ZbO,Ze7 (by omega),Ze7 (by omega)]
 by_cases h1:Zab (Zak rs k 1) 0 ((n:Int)-1)=true<;>by_cases h2:Zab (Zak rs k 2) (-1) ((m:Int)-1)=true<;>by_cases h3:Zab (Zak rs k 3) (-1) ((n:Int)-1)=true<;>by_cases h4:Zab (Zak rs k 4) 1 1000000=true<;>by_cases h5:Zak rs k 3= -1<;>by_cases h6:Zak rs k 4=1<;>simp_all[Zaf,Zaa]
theorem ZrD{xs ys:List AV}(h:xs.map AV.toS=ys.map AV.toS){s:List UInt8} :Zhl xs s=Zhl ys s:=by
 have e:∀l:List AV,Zhl l s=(l.map AV.toS).any (· ==s):=fun l=>by simp[Zhl,List.any_map,Function.comp_def]
 rw[e,e,h]
theorem ZlX(ks:List AV)(k m:Nat):ZcA ks k m=if Zab (Zak ks k 1) (-1) ((m:Int)-1)=true then 0 else 6:=by
 rw[ZcA,Ze7 (by omega)];split<;>simp_all[Zaa]
section
variable {C:Ctx}(hC:C.P=Tryz.prog)(ms ks rs:List AV)(hs:Zay ms ks rs=true)
include hC hs
theorem ZxN:∀(m k:Nat) (xs:List AV),k+m=rs.length→xs.length≤k→Ev C (Zd9 ms ks rs k xs) (Zdm ms ks rs k xs)
 (Zco 119 (Zbz 3 (Zbj (fun k=>ZaA rs k) (fun k=>ZbO rs k ks.length ms.length) m k xs) (Zbh 0 0 0)) none)
 |0,k,xs,hk,hx=>tgo hC Zeh ZfW (by simp[Zdr,show ¬(k:Int)<rs.length by omega];rfl)
 |m+1,k,xs,hk,hx=>by
  have hs':=hs
  simp only[Zay,Bool.and_eq_true,decide_eq_true_eq]at hs'
  have hn:=Zb3 hs'.1.2 (show k<rs.length by omega)
  have hlt:(k:Int)<rs.length:=by omega
  have hlt2:k<rs.length:=by omega
  have e0:((rs.getD k .top).cellAt 0).toS=ZaA rs k:=rfl
  have e1:((rs.getD k .top).cellAt 1).toI=Zak rs k 1:=rfl
  have e2:((rs.getD k .top).cellAt 2).toI=Zak rs k 2:=rfl
  have e3:((rs.getD k .top).cellAt 3).toI=Zak rs k 3:=rfl
  have e4:((rs.getD k .top).cellAt 4).toI=Zak rs k 4:=rfl
  have ih:=ZxN m (k+1) (xs++[.str (ZaA rs k)]) (by omega) (by simp;omega)
  obtain⟨V,hV⟩:∃V,V=Zbz 3 (Zbj (fun k=>ZaA rs k) (fun k=>ZbO rs k ks.length ms.length) (m+1) k xs) (Zbh 0 0 0):=⟨_,rfl⟩
  rw[←hV]
  rw[Ze1,Zev,ZiU]at hV
  refine tgo hC Zeh ZfW ?_
  simp[-List.getD_eq_getElem?_getD,Zdr,e0,e1,e2,e3,e4,hlt,hlt2,hn,AV.bx,Zad]
  clear e0 e1 e2 e3 e4 hs
  replace hs':=hs'.2
  generalize ZaA rs k=nm at*
  generalize Zak rs k 1=f1 at*
  generalize Zak rs k 2=f2 at*
  generalize Zak rs k 3=f3 at*
  generalize Zak rs k 4=f4 at*
  repeat' (first |split |apply And.intro)
  all_goals first |omega |skip
  all_goals (clear hs';simp_all[Zbh])
theorem Zyu:∀m:Nat,m=rs.length→Ev C (ZcZ ms ks rs) (Zcs ms ks rs)
 (Zco 119 (Zbz 3 (Zbj (fun k=>ZaA rs k) (fun k=>ZbO rs k ks.length ms.length) m 0 []) (Zbh 0 0 0)) none)
 |0,hk=>tgo hC Zeh ZfV (by simp[Zdw,←hk];rfl)
 |m+1,hk=>by
  have hs':=hs
  simp only[Zay,Bool.and_eq_true,decide_eq_true_eq]at hs'
  have hn:=Zb3 hs'.1.2 (show 0<rs.length by omega)
  have hlt:(0:Int)<rs.length:=by omega
  have hlt2:0<rs.length:=by omega
  have e0:((rs.getD 0 .top).cellAt 0).toS=ZaA rs 0:=rfl
  have e1:((rs.getD 0 .top).cellAt 1).toI=Zak rs 0 1:=rfl
  have e2:((rs.getD 0 .top).cellAt 2).toI=Zak rs 0 2:=rfl
  have e3:((rs.getD 0 .top).cellAt 3).toI=Zak rs 0 3:=rfl
  have e4:((rs.getD 0 .top).cellAt 4).toI=Zak rs 0 4:=rfl
  have ih:=ZxN hC ms ks rs hs m 1 [.str (ZaA rs 0)] (by omega) (by simp)
  obtain⟨V,hV⟩:∃V,V=Zbz 3 (Zbj (fun k=>ZaA rs k) (fun k=>ZbO rs k ks.length ms.length) (m+1) 0 []) (Zbh 0 0 0):=⟨_,rfl⟩
  rw[←hV]
  rw[Ze1,Zev,ZiU]at hV
  refine tgo hC Zeh ZfV ?_
  simp[-List.getD_eq_getElem?_getD,Zdw,e0,e1,e2,e3,e4,hlt,hlt2,hn,AV.bx,Zad]
  clear e0 e1 e2 e3 e4 hs
  replace hs':=hs'.2
  generalize ZaA rs 0=nm at*
  generalize Zak rs 0 1=f1 at*
  generalize Zak rs 0 2=f2 at*
  generalize Zak rs 0 3=f3 at*
  generalize Zak rs 0 4=f4 at*
  repeat' (first |split |apply And.intro)
  all_goals first |omega |skip
  all_goals (clear hs';simp_all[Zbh,Zhl])
end
def dB(ms ks rs:List AV):AV:=if 10<rs.length then Zbh 3 0 8 else Zos ms ks rs
theorem Zyv(ms ks rs:List AV):(if Zcf (decide (0≤(rs.length:Int))) (decide ((rs.length:Int)≤10))=0 then Zos ms ks rs else Zbh 3 0 (Zcf (decide (0≤(rs.length:Int))) (decide ((rs.length:Int)≤10))))=dB ms ks rs:=by
 unfold dB
 by_cases h:10<rs.length
 ·rw[if_pos h,decide_eq_true (by omega:(0:Int)≤(rs.length:Int)),decide_eq_false (by omega:¬(rs.length:Int)≤10)];rfl
 ·rw[if_neg h,decide_eq_true (by omega:(0:Int)≤(rs.length:Int)),decide_eq_true (by omega:(rs.length:Int)≤10)];rfl
def dA(ms ks rs:List AV):AV:=if ks.length=0 then Zbh 2 0 10 else if 8<ks.length then Zbh 2 0 8 else Zm7 ms ks rs
theorem Zx9(ms ks rs:List AV):(if Zcf (decide (1≤(ks.length:Int))) (decide ((ks.length:Int)≤8))=0 then Zm7 ms ks rs else Zbh 2 0 (Zcf (decide (1≤(ks.length:Int))) (decide ((ks.length:Int)≤8))))=dA ms ks rs:=by
 unfold dA
 by_cases h:ks.length=0
 ·rw[if_pos h,decide_eq_false (by omega:¬(1:Int)≤(ks.length:Int))];rfl
 ·rw[if_neg h,decide_eq_true (by omega:(1:Int)≤(ks.length:Int))]
  by_cases h2:8<ks.length
  ·rw[if_pos h2,decide_eq_false (by omega:¬(ks.length:Int)≤8)];rfl
  ·rw[if_neg h2,decide_eq_true (by omega:(ks.length:Int)≤8)];rfl
theorem ZjX(ms ks rs:List AV):Zd1 ms ks rs=if ms.length=0 then Zbh 1 0 10 else if 6<ms.length then Zbh 1 0 8 else ZrW ms ks rs:=by
 unfold Zd1
 by_cases h:ms.length=0
 ·rw[if_pos h,decide_eq_false (by omega:¬(1:Int)≤(ms.length:Int))];rfl
 ·rw[if_neg h,decide_eq_true (by omega:(1:Int)≤(ms.length:Int))]
  by_cases h2:6<ms.length
  ·rw[if_pos h2,decide_eq_false (by omega:¬(ms.length:Int)≤6)];rfl
  ·rw[if_neg h2,decide_eq_true (by omega:(ms.length:Int)≤6)];rfl
section
variable {C:Ctx}(hC:C.P=Tryz.prog)(ms ks rs:List AV)(hs:Zay ms ks rs=true)
include hC hs
theorem ZxK:Ev C (ZcZ ms ks rs) (Zcs ms ks rs) (Zco 119 (Zos ms ks rs) none):=Zyu hC ms ks rs hs _ rfl
theorem ZAK:∀(m k:Nat) (xs:List AV),k+m=ks.length→xs.length≤k→Ev C (Zef ms ks rs k xs) (Zdl ms ks rs k xs)
 (Zco 119 (Zbz 2 (Zbj (fun k=>ZaA ks k) (fun k=>ZcA ks k ms.length) m k xs) (dB ms ks rs)) none)
 |0,k,xs,hk,hx=>by
  refine tgo hC Zeh ZfM ?_
  by_cases h:10<rs.length
  ·simp[Zct,show ¬(k:Int)<ks.length by omega,Zbj,Zbz,dB,h,show(10:Int)<rs.length by omega,Zbh]
  ·simp[Zct,show ¬(k:Int)<ks.length by omega,Zbj,Zbz,dB,h,show ¬(10:Int)<rs.length by omega]
   exact ZxK hC ms ks rs hs
 |m+1,k,xs,hk,hx=>by
  have hs':=hs
  simp only[Zay,Bool.and_eq_true,decide_eq_true_eq]at hs'
  have hn:=Zb3 hs'.1.1.2 (show k<ks.length by omega)
  have hlt:(k:Int)<ks.length:=by omega
  have hlt2:k<ks.length:=by omega
  have e0:((ks.getD k .top).cellAt 0).toS=ZaA ks k:=rfl
  have e1:((ks.getD k .top).cellAt 1).toI=Zak ks k 1:=rfl
  have ih:=ZAK m (k+1) (xs++[.str (ZaA ks k)]) (by omega) (by simp;omega)
  obtain⟨V,hV⟩:∃V,V=Zbz 2 (Zbj (fun k=>ZaA ks k) (fun k=>ZcA ks k ms.length) (m+1) k xs) (dB ms ks rs):=⟨_,rfl⟩
  rw[←hV]
  rw[Ze1,Zev,ZlX]at hV
  refine tgo hC Zeh ZfM ?_
  simp[-List.getD_eq_getElem?_getD,Zct,e0,e1,hlt,hlt2,hn,AV.bx,Zad]
  clear e0 e1 hs
  replace hs':=hs'.2
  generalize ZaA ks k=nm at*
  generalize Zak ks k 1=f1 at*
  repeat' (first |split |apply And.intro)
  all_goals first |omega |skip
  all_goals (clear hs';simp_all[Zbh])
theorem Zzh:∀m:Nat,m=ks.length→Ev C (Zc4 ms ks rs) (Zcu ms ks rs)
 (Zco 119 (Zbz 2 (Zbj (fun k=>ZaA ks k) (fun k=>ZcA ks k ms.length) m 0 []) (dB ms ks rs)) none)
 |0,hk=>by
  refine tgo hC Zeh ZfS ?_
  by_cases h:10<rs.length
  ·simp[Zcr,←hk,Zbj,Zbz,dB,h,show(10:Int)<rs.length by omega,Zbh]
  ·simp[Zcr,←hk,Zbj,Zbz,dB,h,show ¬(10:Int)<rs.length by omega]
   exact ZxK hC ms ks rs hs
 |m+1,hk=>by
  have hs':=hs
  simp only[Zay,Bool.and_eq_true,decide_eq_true_eq]at hs'
  have hn:=Zb3 hs'.1.1.2 (show 0<ks.length by omega)
  have hlt:(0:Int)<ks.length:=by omega
  have hlt2:0<ks.length:=by omega
  have e0:((ks.getD 0 .top).cellAt 0).toS=ZaA ks 0:=rfl
  have e1:((ks.getD 0 .top).cellAt 1).toI=Zak ks 0 1:=rfl
  have ih:=ZAK hC ms ks rs hs m 1 [.str (ZaA ks 0)] (by omega) (by simp)
  obtain⟨V,hV⟩:∃V,V=Zbz 2 (Zbj (fun k=>ZaA ks k) (fun k=>ZcA ks k ms.length) (m+1) 0 []) (dB ms ks rs):=⟨_,rfl⟩
  rw[←hV]
  rw[Ze1,Zev,ZlX]at hV
  refine tgo hC Zeh ZfS ?_
  simp[-List.getD_eq_getElem?_getD,Zcr,e0,e1,hlt,hlt2,hn,AV.bx,Zad]
  clear e0 e1 hs
  replace hs':=hs'.2
  generalize ZaA ks 0=nm at*
  generalize Zak ks 0 1=f1 at*
  repeat' (first |split |apply And.intro)
  all_goals first |omega |skip
  all_goals (clear hs';simp_all[Zbh,Zhl])
theorem ZEn:Ev C (Zc4 ms ks rs) (Zcu ms ks rs) (Zco 119 (Zm7 ms ks rs) none):=by
 have:=Zzh hC ms ks rs hs _ rfl
 rw[←Zyv]at this
 exact this
theorem ZyY:∀(m k:Nat) (xs:List AV),k+m=ms.length→xs.map AV.toS=(ms.take k).map AV.toS→Ev C (Zee ms ks rs k) (Zdc ms ks rs k)
 (Zco 119 (Zbz 1 (Zbj (fun k=>Za7 ms k) (fun _=>0) m k xs) (dA ms ks rs)) none)
 |0,k,xs,hk,hx=>by
  refine tgo hC Zeh ZfL ?_
  by_cases h0:ks.length=0
  ·simp[ZbT,show ¬(k:Int)<ms.length by omega,Zbj,Zbz,dA,h0,Zbh]
  ·by_cases h:8<ks.length
   ·simp[ZbT,show ¬(k:Int)<ms.length by omega,Zbj,Zbz,dA,h0,h,show(8:Int)<ks.length by omega,Zbh]
   ·simp[ZbT,show ¬(k:Int)<ms.length by omega,Zbj,Zbz,dA,h0,h,show ¬(8:Int)<ks.length by omega]
    exact ZEn hC ms ks rs hs
 |m+1,k,xs,hk,hx=>by
  have hs':=hs
  simp only[Zay,Bool.and_eq_true,decide_eq_true_eq]at hs'
  have hn:=ZhW hs'.1.1.1 (show k<ms.length by omega)
  have hlt:(k:Int)<ms.length:=by omega
  have hlt2:k<ms.length:=by omega
  have e0:(ms.getD k .top).toS=Za7 ms k:=rfl
  have ih:=ZyY m (k+1) (xs++[.str (Za7 ms k)]) (by omega) (by
   rw[List.map_append,hx,List.take_succ_eq_append_getElem hlt2,List.map_append]
   congr 1
   simp[Za7,AV.toS,hlt2])
  have hh:Zhl (ms.take k) (Za7 ms k)=Zhl xs (Za7 ms k):=ZrD hx.symm
  obtain⟨V,hV⟩:∃V,V=Zbz 1 (Zbj (fun k=>Za7 ms k) (fun _=>0) (m+1) k xs) (dA ms ks rs):=⟨_,rfl⟩
  rw[←hV]
  rw[Ze1,Zev]at hV
  refine tgo hC Zeh ZfL ?_
  simp[-List.getD_eq_getElem?_getD,ZbT,e0,hlt,hlt2,hn,hh]
  clear e0 hs hx hh
  replace hs':=hs'.2
  generalize Za7 ms k=nm at*
  repeat' (first |split |apply And.intro)
  all_goals first |omega |skip
  all_goals (clear hs';simp_all[Zbh])
end
theorem ZrI(ms ks rs:List AV)(hs:Zay ms ks rs=true):Zap Tryz.prog 119 [.agg (.gen [.list (.big .str ms), .list (.big (.agg [.str, .int .i64]) ks), .list (.big (.agg [.str, .int .i64, .int .i64, .int .i64, .int .i64]) rs)])] (.tup [.agg (.gen [.int .i64 (Zke ms ks rs), .int .i64 (ZjK ms ks rs)]), .int .i64 (Zaz ms ks rs)]) none:=by
 rw[show AV.tup [.agg (.gen [.int .i64 (Zke ms ks rs), .int .i64 (ZjK ms ks rs)]), .int .i64 (Zaz ms ks rs)]=Zd1 ms ks rs from(Zj4 ms ks rs).eq.symm]
 refine start (ZrC ms ks rs) fun C hC=>tgo hC Zeh ZBu ?_
 rw[ZjX]
 by_cases h0:ms.length=0
 ·simp[Zmx,h0,Zbh]
 ·by_cases h:6<ms.length
  ·simp[Zmx,h0,h,show(6:Int)<ms.length by omega,Zbh]
  ·simp[Zmx,h0,h,show ¬(6:Int)<ms.length by omega]
   have:=ZyY hC ms ks rs hs ms.length 0 [] (by omega) (by simp)
   rw[ZrW,Zx9]
   exact this
end Go.Proofs.YtkeoeooghhjibaaGreatDoor
/- ForbiddenBy of both packages. No condition. -/
namespace Go.Proofs.YtkeoeooghhjibaaGreatDoor
def ZjN(rs:List AV)(a b:Int)(xs:List Int)(k:Int)(i:Nat):Bool:=decide (Zak rs i 1=k∧(Zak rs i 2= -1∨Zak rs i 2=a)∧(Zak rs i 3= -1∨(xs.getD (Zak rs i 3).toNat 0≠ -1∧b-xs.getD (Zak rs i 3).toNat 0<Zak rs i 4)))
def Zf3(rs:List AV)(a b:Int)(xs:List Int)(k:Int):Nat→Nat→List UInt8
 |0,_=>[]
 |m+1,i=>if ZjN rs a b xs k i=true then ZaA rs i else Zf3 rs a b xs k m (i+1)
def ZbR(rs:List AV)(b:Int)(xs:List Int):Bool:=((List.range rs.length).all fun i=>decide (-1≤Zak rs i 3∧Zak rs i 3<xs.length))&&(xs.all fun x=>decide (-1≤x∧x≤b))&&decide (0≤b∧b≤1000000000000∧rs.length≤1000000)
theorem ZmC{rs:List AV}{b:Int}{xs:List Int}(h:ZbR rs b xs=true){k:Nat}(hk:k<rs.length):(-1≤Zak rs k 3∧Zak rs k 3<xs.length)∧(Zak rs k 3≠ -1→ -1≤xs.getD (Zak rs k 3).toNat 0∧xs.getD (Zak rs k 3).toNat 0≤b)∧0≤b∧b≤1000000000000∧rs.length≤1000000:=by
 simp only[ZbR,Bool.and_eq_true,List.all_eq_true,decide_eq_true_eq,List.mem_range]at h
 obtain⟨⟨h1,h2⟩,h3⟩:=h
 refine⟨h1 k hk,fun h4=>?_,h3⟩
 have h5:=h1 k hk
 have h6:(Zak rs k 3).toNat<xs.length:=by omega
 refine h2 _ ?_
 rw[List.getD_eq_getElem?_getD,List.getElem?_eq_getElem h6];exact List.getElem_mem h6
def Zg9(ms ks rs:List AV)(a b:Int)(xs:List Int)(k:Int):Int:=Zaf [Zaz ms ks rs,Zaa (Zab a 0 ((ms.length:Int)-1)) 6,Zaa (Zab b 0 1000000000000) 2,Zaa (decide ((xs.length:Int)=(ks.length:Int))) 10,Zaa (!(xs.any (ZgS b))) 2,Zaa (Zab k 0 ((ks.length:Int)-1)) 15]
theorem Zgx{C:Ctx}(hC:C.P=Tryz.prog)(ms ks rs:List AV)(a b:Int)(xs:List Int)(q n1 n2:Int)(b3:Bool)(hg:ZbR rs b xs=true):∀m k:Nat,k+m=rs.length→Ev C (ZeN ms ks rs a b xs q rs.length n1 n2 b3 k) (ZdW ms ks rs a b xs q rs.length n1 n2 b3 k) (Zco 42 (.tup [.str (Zf3 rs a b xs q m k), .int .i64 0]) none)
 |0,k,hk=>tgo hC Zeh Zia (by simp[Zfn,show ¬(k:Int)<rs.length by omega];rfl)
 |m+1,k,hk=>by
  have hlt:(k:Int)<rs.length:=by omega
  have hlt2:k<rs.length:=by omega
  have e0:((rs.getD k .top).cellAt 0).toS=ZaA rs k:=rfl
  have e1:((rs.getD k .top).cellAt 1).toI=Zak rs k 1:=rfl
  have e2:((rs.getD k .top).cellAt 2).toI=Zak rs k 2:=rfl
  have e3:((rs.getD k .top).cellAt 3).toI=Zak rs k 3:=rfl
  have e4:((rs.getD k .top).cellAt 4).toI=Zak rs k 4:=rfl
  have ih:=Zgx hC ms ks rs a b xs q n1 n2 b3 hg m (k+1) (by omega)
  refine tgo hC Zeh Zia ?_
  simp[-List.getD_eq_getElem?_getD,Zfn,e0,e1,e2,e3,e4,hlt,hlt2]
  obtain⟨V,hV⟩:∃V,V=Zf3 rs a b xs q (m+1) k:=⟨_,rfl⟩
  rw[←hV]
  simp only[Zf3,ZjN,decide_eq_true_eq]at hV
  have g:=ZmC hg hlt2
  clear e0 e1 e2 e3 e4 hg
  generalize ZaA rs k=nm at*
  generalize Zak rs k 1=f1 at*
  generalize Zak rs k 2=f2 at*
  generalize Zak rs k 3=f3 at*
  generalize Zak rs k 4=f4 at*
  generalize xs.getD f3.toNat 0=t at*
  have r3: -9223372036854775808≤(k:Int)+1∧(k:Int)+1≤9223372036854775807:=by omega
  have r1:f3≠ -1→(0≤f3∧f3.toNat<xs.length)∧(-9223372036854775808≤b-t∧b-t≤9223372036854775807):=by omega
  have ih':Ev C (ZeN ms ks rs a b xs q rs.length n1 n2 b3 (k+1)) (ZdW ms ks rs a b xs q rs.length n1 n2 b3 (k+1)) (Zco 42 (.tup [.str (Zf3 rs a b xs q m (k+1)), .int .i64 0]) none):=ih
  clear hk hlt hlt2 g ih
  by_cases h1:f1=q<;>by_cases h2:f2= -1<;>by_cases h3:f2=a<;>by_cases h4:f3= -1<;>by_cases h5:t= -1<;>by_cases h6:b-t<f4<;>simp_all<;>(intro h7;omega)
theorem firstE_zero:∀ {l:List Int},Zaf l=0↔∀x∈l,x=0
 |[]=>by simp[Zaf]
 |x::l=>by
  have ih:=firstE_zero (l:=l)
  by_cases h:x=0
  ·simp[Zaf,h,ih]
  ·simp[Zaf,h]
theorem ZaD{b:Bool}{e:Int}(h:Zaa b e=0)(he:e≠0):b=true:=by
 cases b
 ·exact absurd h he
 ·rfl
theorem Zi1{nm:Nat→List UInt8}{ex:Nat→Int}{p:Int}{d:AV} :∀(m k:Nat) (xs:List AV),mE (Zbz p (Zbj nm ex m k xs) d)=0→mE d=0∧∀i,k≤i→i<k+m→ZaT (nm i)=true∧ex i=0
 |0,k,xs,h=>⟨h,fun i h1 h2=>by omega⟩
 |m+1,k,xs,h=>by
  rw[Ze1]at h
  split at h
  ·rename_i hs
   obtain⟨h1,h2⟩:=Zi1 m (k+1) _ h
   refine⟨h1,fun i h3 h4=>?_⟩
   by_cases hi:i=k
   ·subst hi
    obtain⟨g1,_,g3⟩:=ZsJ hs
    exact⟨ZaD g1 (by decide),g3⟩
   ·exact h2 i (by omega) (by omega)
  ·rename_i hs
   exact absurd h hs
theorem ZdL{ms ks rs:List AV}(h:Zaz ms ks rs=0):(1≤ms.length∧ms.length≤6)∧(1≤ks.length∧ks.length≤8)∧rs.length≤10∧(∀i<ms.length,ZaT (Za7 ms i)=true)∧(∀i<ks.length,ZaT (ZaA ks i)=true∧ZcA ks i ms.length=0)∧(∀i<rs.length,ZaT (ZaA rs i)=true∧ZbO rs i ks.length ms.length=0):=by
 unfold Zaz at h
 rw[ZjX]at h
 split at h
 ·cases h
 ·split at h
  ·cases h
  ·rw[ZrW,Zx9]at h
   obtain⟨h1,h2⟩:=Zi1 _ _ _ h
   unfold dA at h1
   split at h1
   ·cases h1
   ·split at h1
    ·cases h1
    ·rw[Zm7,Zyv]at h1
     obtain⟨h3,h4⟩:=Zi1 _ _ _ h1
     unfold dB at h3
     split at h3
     ·cases h3
     ·obtain⟨_,h5⟩:=Zi1 _ _ _ h3
      exact⟨by omega,by omega,by omega,fun i hi=>(h2 i (by omega) (by omega)).1,fun i hi=>h4 i (by omega) (by omega),fun i hi=>h5 i (by omega) (by omega)⟩
theorem within_iff{n a b:Int} :Zab n a b=true↔a≤n∧n≤b:=by simp[Zab]
theorem ZeV{rs:List AV}{i n m:Nat}(h:ZbO rs i n m=0):(0≤Zak rs i 1∧Zak rs i 1<n)∧(-1≤Zak rs i 2∧Zak rs i 2<m)∧(-1≤Zak rs i 3∧Zak rs i 3<n)∧(1≤Zak rs i 4∧Zak rs i 4≤1000000)∧(Zak rs i 3= -1→Zak rs i 4=1):=by
 rw[ZiU]at h
 simp only[within_iff]at h
 split at h
 ·split at h
  ·split at h
   ·cases h
   ·rename_i h1 h2 h3
    exact⟨by omega,by omega,by omega,by omega,fun h4=>by simpa[h4]using h3⟩
  ·cases h
 ·cases h
theorem Zp1{ms ks rs:List AV}{b:Int}{xs:List Int}(h:Zaz ms ks rs=0)(hl:xs.length=ks.length)(hb:0≤b∧b≤1000000000000)(hx:∀x∈xs, -1≤x∧x≤b):ZbR rs b xs=true:=by
 obtain⟨_,_,h1,_,_,h2⟩:=ZdL h
 simp only[ZbR,Bool.and_eq_true,List.all_eq_true,decide_eq_true_eq,List.mem_range]
 refine⟨⟨fun i hi=>?_,hx⟩,hb.1,hb.2,by omega⟩
 have:=(ZeV (h2 i hi).2).2.2.1
 omega
theorem ZnG{ms ks rs:List AV}{a b k:Int}{xs:List Int}(h:Zg9 ms ks rs a b xs k=0):ZbR rs b xs=true:=by
 have h:=firstE_zero.1 h
 simp only[List.mem_cons,List.not_mem_nil,or_false,forall_eq_or_imp,forall_eq]at h
 obtain⟨h1,h2,h3,h4,h5,h6⟩:=h
 have h3:=within_iff.1 (ZaD h3 (by decide))
 have h4:=ZaD h4 (by decide)
 have h5:=ZaD h5 (by decide)
 simp only[decide_eq_true_eq]at h4
 refine Zp1 h1 (by omega) h3 fun x hx=>?_
 have h7:ZgS b x=false:=by
  have:xs.any (ZgS b)=false:=by simpa using h5
  simpa using List.any_eq_false.1 this x hx
 unfold ZgS at h7
 by_cases h8:x= -1
 ·omega
 ·simp only[ne_eq,h8,not_false_eq_true,decide_true,Bool.true_and,Bool.not_eq_false']at h7
  have:=within_iff.1 h7
  omega
theorem bx6(a b c d e f:Int):([AV.int .i64 a,AV.int .i64 b,AV.int .i64 c,AV.int .i64 d,AV.int .i64 e,AV.int .i64 f].all fun x=>AV.bx x&&Nat.beq (Zad std x) 1)=true:=rfl
theorem Zn6(ms ks rs:List AV)(a b:Int)(xs:List Int)(q:Int)(hs:Zay ms ks rs=true∧xs.length≤1000000):Zap Tryz.prog 42 [.agg (.gen [.list (.big .str ms), .list (.big (.agg [.str, .int .i64]) ks), .list (.big (.agg [.str, .int .i64, .int .i64, .int .i64, .int .i64]) rs)]), .agg (.gen [.int .i64 a, .int .i64 b, .list (.ints .i64 xs)]), .int .i64 q] (.tup [.str (if Zg9 ms ks rs a b xs q=0 then Zf3 rs a b xs q rs.length 0 else []), .int .i64 (Zg9 ms ks rs a b xs q)]) none:=
 start (Zvi ms ks rs a b xs q) fun C hC=>by
  refine tgo hC Zeh ZDu ?_
  have hl:ms.length≤1000000∧ks.length≤1000000∧rs.length≤1000000:=by
   have h:=hs.1
   simp only[Zay,Bool.and_eq_true,decide_eq_true_eq]at h
   exact h.2
  unfold ZzR
  rw[show Zaf [Zaz ms ks rs,Zaa (Zab a 0 (std.sub (std.int (std.lenA ms)) 1)) 6,Zaa (Zab b 0 1000000000000) 2,Zaa (std.eq (std.int (std.len xs)) (std.int (std.lenA ks))) 10,Zaa (std.not (List.any xs (ZgS b))) 2,Zaa (Zab q 0 (std.sub (std.int (std.lenA ks)) 1)) 15]=Zg9 ms ks rs a b xs q from rfl]
  simp only[bx6,ZEq,ZoR,Zg2,ZqR,ZCk,Zyq,ZCC,ZiG,Zcn,Zvg,decide_eq_true_eq,Bool.not_eq_true',decide_eq_false_iff_not]
  refine⟨⟨by simp,trivial,by omega,hs.2,by omega,hs.1,trivial⟩,?_⟩
  by_cases h:Zg9 ms ks rs a b xs q=0
  ·rw[if_neg (by simpa using h),if_pos h,h]
   exact Zgx hC ms ks rs a b xs q _ _ _ (ZnG h) rs.length 0 (by omega)
  ·rw[if_pos h,if_neg h]
   exact⟨rfl,trivial⟩
end Go.Proofs.YtkeoeooghhjibaaGreatDoor
/- Contracts as a list. No condition. -/
namespace Go.Proofs.YtkeoeooghhjibaaGreatDoor
def k119:Ctr:=⟨119,0,fun _ a=>match a with |[.agg (.gen [.list (.big .str ms), .list (.big (.agg [.str, .int .i64]) ks), .list (.big (.agg [.str, .int .i64, .int .i64, .int .i64, .int .i64]) rs)])]=>some (decide (Zay ms ks rs=true), .tup [.agg (.gen [.int .i64 (Zke ms ks rs), .int .i64 (ZjK ms ks rs)]), .int .i64 (Zaz ms ks rs)],none) |_=>none⟩
theorem ZuG:k119.OK Tryz.prog:=fun pa args r fr h=>by
 simp only[k119]at h
 split at h
 ·simp only[Option.some.injEq,Prod.mk.injEq,decide_eq_true_eq]at h
  obtain⟨h0,rfl,rfl⟩:=h
  exact ZrI _ _ _ h0
 ·cases h
def k42:Ctr:=⟨42,0,fun _ a=>match a with |[.agg (.gen [.list (.big .str ms), .list (.big (.agg [.str, .int .i64]) ks), .list (.big (.agg [.str, .int .i64, .int .i64, .int .i64, .int .i64]) rs)]), .agg (.gen [.int .i64 a, .int .i64 b, .list (.ints .i64 xs)]), .int .i64 q]=>some (decide (Zay ms ks rs=true∧xs.length≤1000000), .tup [.str (if Zg9 ms ks rs a b xs q=0 then Zf3 rs a b xs q rs.length 0 else []), .int .i64 (Zg9 ms ks rs a b xs q)],none) |_=>none⟩
theorem ZAL:k42.OK Tryz.prog:=fun pa args r fr h=>by
 simp only[k42]at h
 split at h
 ·simp only[Option.some.injEq,Prod.mk.injEq,decide_eq_true_eq]at h
  obtain⟨h0,rfl,rfl⟩:=h
  exact Zn6 _ _ _ _ _ _ _ h0
 ·cases h
def B7:List Ctr:=[k119,k42]++B6
theorem Zzc:ZaE Tryz.prog B7:=⟨ZuG,⟨ZAL,Zeh⟩⟩
end Go.Proofs.YtkeoeooghhjibaaGreatDoor
/- Paths of functions, printed by the explorer (Gx). No condition. -/
namespace Go.Proofs.YtkeoeooghhjibaaGreatDoor
set_option maxRecDepth 100000
set_option linter.unusedVariables false
def ZBh(ms ks rs:List AV):AFrame:={ fn:=65,N:=11,env:=[(0,AV.agg (Row.gen [.list (Row.big .str ms), .list (Row.big (.agg [.str, .int .i64]) ks), .list (Row.big (.agg [.str, .int .i64, .int .i64, .int .i64, .int .i64]) rs)]))],todo:=[.code a65.code],defs:=[],rnd:=none,ret:=false,res:=[ARes.tmp 2] }
def ZIu(ms ks rs:List AV):List AFrame:=[(ZBh ms ks rs)]
theorem ZvV(ms ks rs:List AV):Zat tab 65 [AV.agg (Row.gen [.list (Row.big .str ms), .list (Row.big (.agg [.str, .int .i64]) ks), .list (Row.big (.agg [.str, .int .i64, .int .i64, .int .i64, .int .i64]) rs)])]=some (ZBh ms ks rs):=rfl
def Zy4(A:Ar)(K:KT)(F:FT)(ms ks rs:List AV):Prop:=rB [decide (Zay ms ks rs=true)] (F (AV.int .i64 (Zaz ms ks rs)) (none))
theorem ZDK{A:Ar}{K:KT}{F:FT}{M:MT}{ms ks rs:List AV} :ZaN A tab B7 65 K F M (.run 23 (.fn)) (ZIu ms ks rs) []=Zy4 A K F ms ks rs:=by kernel_rfl
end Go.Proofs.YtkeoeooghhjibaaGreatDoor
