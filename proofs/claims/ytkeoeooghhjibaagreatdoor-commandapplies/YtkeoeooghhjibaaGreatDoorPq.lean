/- Paths of functions, printed by the explorer (Gx). No condition. -/
import Derived.Test.YtkeoeooghhjibaaGreatDoorCl
import Derived.KernelRfl
namespace Go.Proofs.YtkeoeooghhjibaaGreatDoor
variable {A:Ar}{K:KT}{F:FT}{M:MT}
set_option maxRecDepth 100000
set_option linter.unusedVariables false
def Zv4(ms ks rs:zA):AFrame:=vF 119 188 [(0,vM ms ks rs)] [.code a119.code] [ARes.cell 2 true 2,.tmp 3]
def ZJD(ms ks rs:zA):List AFrame:=[(Zv4 ms ks rs)]
theorem Ztx(ms ks rs:zA):Zam tab 119 [vM ms ks rs]=some (Zv4 ms ks rs):=rfl
def ZeX(ms ks rs:zA)(n0:Int):List AFrame:=[vF 119 188 [vP 1 119002,vP 2 119003,vI 4 n0] (vC ZwR ZCg) [ARes.cell 2 true 2,.tmp 3]]
def Zef(ms ks rs:zA)(n0:Int):Zad:=[vH 119002 26 3 (vx [vM ms ks rs]),vH 119003 195 2 (vx [AV.agg (vx [vi 0,vi 0])])]
abbrev ZhA(ms ks rs:zA)(n0:Int):List AFrame×Zad:=(ZeX ms ks rs n0,Zef ms ks rs n0)
def Zdy(ms ks rs:zA):List AFrame:=[vF 119 188 [vP 1 119002,vP 2 119003,(5,AV.nils),vI 6 0] (vC Zsu Zwy) [ARes.cell 2 true 2,.tmp 3]]
def ZcP(ms ks rs:zA):Zad:=[vH 119002 26 3 (vx [vM ms ks rs]),vH 119003 195 2 (vx [AV.agg (vx [vi 0,vi 0])])]
abbrev Zmk(ms ks rs:zA):List AFrame×Zad:=(Zdy ms ks rs,ZcP ms ks rs)
def Zfj(ms ks rs:zA)(n1:Int)(x2:zA):List AFrame:=[vF 119 188 [vP 1 119002,vP 2 119003,vR 5 119093,vI 6 n1] (vC Zsu Zwy) [ARes.cell 2 true 2,.tmp 3]]
def ZdZ(ms ks rs:zA)(n1:Int)(x2:zA):Zad:=[vH 119002 26 3 (vx [vM ms ks rs]),vH 119003 195 2 (vx [AV.agg (vx [vi 0,vi 0])]),vH 119093 9 1 (Row.big .str x2)]
abbrev ZhC(ms ks rs:zA)(n1:Int)(x2:zA):List AFrame×Zad:=(Zfj ms ks rs n1 x2,ZdZ ms ks rs n1 x2)
def Zdp(ms ks rs:zA):List AFrame:=[vF 119 188 [vP 1 119002,vP 2 119003,(5,AV.nils),vI 7 0] (vC Zr5 ZvY) [ARes.cell 2 true 2,.tmp 3]]
def ZcY(ms ks rs:zA):Zad:=[vH 119002 26 3 (vx [vM ms ks rs]),vH 119003 195 2 (vx [AV.agg (vx [vi 0,vi 0])])]
abbrev Zhc(ms ks rs:zA):List AFrame×Zad:=(Zdp ms ks rs,ZcY ms ks rs)
def Zfl(ms ks rs:zA)(n3:Int)(x4:zA):List AFrame:=[vF 119 188 [vP 1 119002,vP 2 119003,vR 5 119141,vI 7 n3] (vC Zr5 ZvY) [ARes.cell 2 true 2,.tmp 3]]
def Zd5(ms ks rs:zA)(n3:Int)(x4:zA):Zad:=[vH 119002 26 3 (vx [vM ms ks rs]),vH 119003 195 2 (vx [AV.agg (vx [vi 0,vi 0])]),vH 119141 9 1 (Row.big .str x4)]
abbrev ZcU(ms ks rs:zA)(n3:Int)(x4:zA):List AFrame×Zad:=(Zfl ms ks rs n3 x4,Zd5 ms ks rs n3 x4)
def Zot(A:Ar)(K:KT)(F:FT)(ms ks rs:zA):Prop:=let u0:=A.int (A.lenA ms);bB (A.eq u0 0) (F (AV.tup [AV.agg (Row.gen [.int .i64 1, .int .i64 0]),AV.int .i64 10]) none) (bB (A.lt 6 u0) (F (AV.tup [AV.agg (Row.gen [.int .i64 1, .int .i64 0]),AV.int .i64 8]) none) (K (ZhA ms ks rs 0)))
theorem ZD2{ms ks rs:zA} :Zaw A tab B6 119 K F M (.run 14 (.tf (.run 20 (.fn)) (.run 9 (.tf (.run 20 (.fn)) (.run 9 (.hd)))))) (ZJD ms ks rs) []=Zot A K F ms ks rs:=by kernel_rfl
def Zca(A:Ar)(K:KT)(F:FT)(ms ks rs:zA)(n0:Int):Prop:=let u0:=A.nat n0;let u1:=A.lenA ms;let u2:=A.nthA ms u0;let u3:=A.subA ms 0 (A.nat n0-0);let u4:=A.int (A.lenA ks);bB (A.lt n0 (A.int u1)) (rB [decide (List.length (AV.toS u2)≤1000000),Zag (Zag (A.le 0 n0) (Nat.blt u0 u1)) true] (bB (A.not (ZaZ (AV.toS u2))) (F (AV.tup [AV.agg (Row.gen [.int .i64 1, .int .i64 n0]),AV.int .i64 4]) none) (rB [decide (List.length u3≤1000000),Zag (Zag (A.le 0 n0) (Nat.blt u0 u1)) true,Zag (A.le 0 n0) (Zag (Zag (Nat.ble 0 u0) (Nat.ble u0 u1)) true)] (bB (Zjd u3 (AV.toS u2)) (F (AV.tup [AV.agg (Row.gen [.int .i64 1, .int .i64 n0]),AV.int .i64 5]) none) (rB [A.inR .i64 (A.add n0 1)] (K (ZhA ms ks rs (A.add n0 1)))))))) (bB (A.eq u4 0) (F (AV.tup [AV.agg (Row.gen [.int .i64 2, .int .i64 0]),AV.int .i64 10]) none) (bB (A.lt 8 u4) (F (AV.tup [AV.agg (Row.gen [.int .i64 2, .int .i64 0]),AV.int .i64 8]) none) (K (Zmk ms ks rs))))
theorem Zhk{ms ks rs:zA}{n0:Int} :vT A tab B6 119 K F M (.run 10 (.tf (.run 15 (.tf (.run 21 (.fn)) (.run 4 (.tf (.run 21 (.fn)) (.run 9 (.hd)))))) (.run 9 (.tf (.run 20 (.fn)) (.run 9 (.tf (.run 20 (.fn)) (.run 13 (.hd)))))))) (ZhA ms ks rs n0)=Zca A K F ms ks rs n0:=by kernel_rfl
def ZcV(A:Ar)(K:KT)(F:FT)(ms ks rs:zA):Prop:=let u0:=A.nthA ks (A.nat 0);let u1:=A.lenA ks;let u2:=A.lenA [AV.str (u0.cellAt 0).toS];let u3:=A.sub (A.int (A.lenA ms)) 1;bB (A.lt 0 (A.int u1)) (rB [decide (List.length (u0.cellAt 0).toS≤1000000),Zag (Zag (A.le 0 0) (Nat.blt (A.nat 0) u1)) true] (bB (A.not (ZaZ (u0.cellAt 0).toS)) (F (AV.tup [AV.agg (Row.gen [.int .i64 2, .int .i64 0]),AV.int .i64 4]) none) (rB [Zag (Zag (A.le 0 0) (Nat.blt (A.nat 0) u1)) true] (rB [A.inR .i64 u3,Zag (Zag (A.le 0 0) (Nat.blt (A.nat 0) u1)) true,Zag (Nat.ble u2 4294967296) (Nat.blt 0 u2),List.all [AV.str (u0.cellAt 0).toS] fun x=>AV.bx x&&Nat.beq (Zac A x) 1,Zag (Zag (A.le 0 0) (Nat.blt (A.nat 0) u1)) true] (bB (A.not (Zab (u0.cellAt 1).toI (-1) u3)) (F (AV.tup [AV.agg (Row.gen [.int .i64 2, .int .i64 0]),AV.int .i64 6]) none) (rB [A.inR .i64 (A.add 0 1)] (K (ZhC ms ks rs (A.add 0 1) ([AV.str (u0.cellAt 0).toS]))))))))) (bB (A.lt 10 (A.int (A.lenA rs))) (F (AV.tup [AV.agg (Row.gen [.int .i64 3, .int .i64 0]),AV.int .i64 8]) none) (K (Zhc ms ks rs)))
theorem Zhm{ms ks rs:zA} :vT A tab B6 119 K F M (.run 10 (.tf (.run 16 (.tf (.run 21 (.fn)) (.run 14 (.fy (.run 18 (.tf (.run 21 (.fn)) (.run 9 (.hd)))))))) (.run 9 (.tf (.run 20 (.fn)) (.run 13 (.hd)))))) (Zmk ms ks rs)=ZcV A K F ms ks rs:=by kernel_rfl
def ZcT(A:Ar)(K:KT)(F:FT)(ms ks rs:zA)(n1:Int)(x2:zA):Prop:=let u2:=A.nat n1;let u0:=A.nthA ks u2;let u1:=A.lenA ks;let u3:=A.sub (A.int (A.lenA ms)) 1;bB (A.lt n1 (A.int u1)) (rB [decide (List.length (u0.cellAt 0).toS≤1000000),Zag (Zag (A.le 0 n1) (Nat.blt u2 u1)) true] (bB (A.not (ZaZ (u0.cellAt 0).toS)) (F (AV.tup [AV.agg (Row.gen [.int .i64 2, .int .i64 n1]),AV.int .i64 4]) none) (rB [decide (List.length x2≤1000000),Zag (Zag (A.le 0 n1) (Nat.blt u2 u1)) true] (bB (Zjd x2 (u0.cellAt 0).toS) (F (AV.tup [AV.agg (Row.gen [.int .i64 2, .int .i64 n1]),AV.int .i64 5]) none) (rB [A.inR .i64 u3,Zag (Zag (A.le 0 n1) (Nat.blt u2 u1)) true,Nat.ble (A.lenA x2+A.lenA [AV.str (u0.cellAt 0).toS]) 4294967296,List.all [AV.str (u0.cellAt 0).toS] fun x=>AV.bx x&&Nat.beq (Zac A x) 1,Zag (Zag (A.le 0 n1) (Nat.blt u2 u1)) true] (bB (A.not (Zab (u0.cellAt 1).toI (-1) u3)) (F (AV.tup [AV.agg (Row.gen [.int .i64 2, .int .i64 n1]),AV.int .i64 6]) none) (rB [A.inR .i64 (A.add n1 1)] (K (ZhC ms ks rs (A.add n1 1) (A.appA x2 [AV.str (u0.cellAt 0).toS])))))))))) (bB (A.lt 10 (A.int (A.lenA rs))) (F (AV.tup [AV.agg (Row.gen [.int .i64 3, .int .i64 0]),AV.int .i64 8]) none) (K (Zhc ms ks rs)))
theorem Zhr{ms ks rs:zA}{n1:Int}{x2:zA} :vT A tab B6 119 K F M (.run 10 (.tf (.run 16 (.tf (.run 21 (.fn)) (.run 14 (.tf (.run 21 (.fn)) (.run 18 (.tf (.run 21 (.fn)) (.run 9 (.hd)))))))) (.run 9 (.tf (.run 20 (.fn)) (.run 13 (.hd)))))) (ZhC ms ks rs n1 x2)=ZcT A K F ms ks rs n1 x2:=by kernel_rfl
def Zd3(A:Ar)(K:KT)(F:FT)(ms ks rs:zA):Prop:=let u0:=A.nthA rs (A.nat 0);let u1:=rB [A.inR .i64 (A.add 0 1)] (K (ZcU ms ks rs (A.add 0 1) ([AV.str (u0.cellAt 0).toS])));let u2:=A.sub (A.int (A.lenA ks)) 1;let u3:=A.lenA [AV.str (u0.cellAt 0).toS];let u4:=A.sub (A.int (A.lenA ms)) 1;bB (A.lt 0 (A.int (A.lenA rs))) (rB [decide (List.length (u0.cellAt 0).toS≤1000000),Zag (Zag (A.le 0 0) (Nat.blt (A.nat 0) (A.lenA rs))) true] (bB (A.not (ZaZ (u0.cellAt 0).toS)) (F (AV.tup [AV.agg (Row.gen [.int .i64 3, .int .i64 0]),AV.int .i64 4]) none) (rB [A.inR .i64 u2,Zag (Nat.ble u3 4294967296) (Nat.blt 0 u3),List.all [AV.str (u0.cellAt 0).toS] fun x=>AV.bx x&&Nat.beq (Zac A x) 1] (bB (A.not (Zab (u0.cellAt 1).toI 0 u2)) (F (AV.tup [AV.agg (Row.gen [.int .i64 3, .int .i64 0]),AV.int .i64 6]) none) (rB [A.inR .i64 u4] (bB (A.not (Zab (u0.cellAt 2).toI (-1) u4)) (F (AV.tup [AV.agg (Row.gen [.int .i64 3, .int .i64 0]),AV.int .i64 6]) none) (rB [A.inR .i64 u2] (bB (A.not (Zab (u0.cellAt 3).toI (-1) u2)) (F (AV.tup [AV.agg (Row.gen [.int .i64 3, .int .i64 0]),AV.int .i64 6]) none) (bB (A.not (Zab (u0.cellAt 4).toI 1 1000000)) (F (AV.tup [AV.agg (Row.gen [.int .i64 3, .int .i64 0]),AV.int .i64 2]) none) (bB (A.eq (u0.cellAt 3).toI (-1)) (bB (A.not (A.eq (u0.cellAt 4).toI 1)) (F (AV.tup [AV.agg (Row.gen [.int .i64 3, .int .i64 0]),AV.int .i64 3]) none) u1) u1)))))))))) (F (AV.tup [AV.agg (Row.gen [.int .i64 0, .int .i64 0]),AV.int .i64 0]) none)
theorem Zhp{ms ks rs:zA} :vT A tab B6 119 K F M (.run 10 (.tf (.run 21 (.tf (.run 21 (.fn)) (.run 9 (.fy (.run 22 (.tf (.ty (.ty (.ty (.ty (.ty (.ty (.ty (.ty (.run 1 (.ty (.ty (.ty (.ty (.ty (.ty (.ty (.ty (.ty (.run 2 (.ty (.run 21 (.fn)))))))))))))))))))))) (.fy (.fy (.fy (.fy (.fy (.fy (.fy (.fy (.run 1 (.tf (.ty (.ty (.ty (.ty (.ty (.ty (.ty (.ty (.run 2 (.ty (.run 21 (.fn)))))))))))) (.fy (.fy (.fy (.fy (.fy (.fy (.fy (.fy (.run 2 (.tf (.run 21 (.fn)) (.run 9 (.tf (.run 21 (.fn)) (.run 7 (.tf (.ty (.ty (.ty (.run 2 (.tf (.run 21 (.fn)) (.run 9 (.hd))))))) (.fy (.fy (.fy (.run 2 (.fy (.run 9 (.hd))))))))))))))))))))))))))))))))))))) (.run 8 (.fn)))) (Zhc ms ks rs)=Zd3 A K F ms ks rs:=by kernel_rfl
def Zd6(A:Ar)(K:KT)(F:FT)(ms ks rs:zA)(n3:Int)(x4:zA):Prop:=let u0:=A.nthA rs (A.nat n3);let u1:=rB [A.inR .i64 (A.add n3 1)] (K (ZcU ms ks rs (A.add n3 1) (A.appA x4 [AV.str (u0.cellAt 0).toS])));let u2:=A.sub (A.int (A.lenA ks)) 1;let u3:=A.sub (A.int (A.lenA ms)) 1;bB (A.lt n3 (A.int (A.lenA rs))) (rB [decide (List.length (u0.cellAt 0).toS≤1000000),Zag (Zag (A.le 0 n3) (Nat.blt (A.nat n3) (A.lenA rs))) true] (bB (A.not (ZaZ (u0.cellAt 0).toS)) (F (AV.tup [AV.agg (Row.gen [.int .i64 3, .int .i64 n3]),AV.int .i64 4]) none) (rB [decide (List.length x4≤1000000)] (bB (Zjd x4 (u0.cellAt 0).toS) (F (AV.tup [AV.agg (Row.gen [.int .i64 3, .int .i64 n3]),AV.int .i64 5]) none) (rB [A.inR .i64 u2,Nat.ble (A.lenA x4+A.lenA [AV.str (u0.cellAt 0).toS]) 4294967296,List.all [AV.str (u0.cellAt 0).toS] fun x=>AV.bx x&&Nat.beq (Zac A x) 1] (bB (A.not (Zab (u0.cellAt 1).toI 0 u2)) (F (AV.tup [AV.agg (Row.gen [.int .i64 3, .int .i64 n3]),AV.int .i64 6]) none) (rB [A.inR .i64 u3] (bB (A.not (Zab (u0.cellAt 2).toI (-1) u3)) (F (AV.tup [AV.agg (Row.gen [.int .i64 3, .int .i64 n3]),AV.int .i64 6]) none) (rB [A.inR .i64 u2] (bB (A.not (Zab (u0.cellAt 3).toI (-1) u2)) (F (AV.tup [AV.agg (Row.gen [.int .i64 3, .int .i64 n3]),AV.int .i64 6]) none) (bB (A.not (Zab (u0.cellAt 4).toI 1 1000000)) (F (AV.tup [AV.agg (Row.gen [.int .i64 3, .int .i64 n3]),AV.int .i64 2]) none) (bB (A.eq (u0.cellAt 3).toI (-1)) (bB (A.not (A.eq (u0.cellAt 4).toI 1)) (F (AV.tup [AV.agg (Row.gen [.int .i64 3, .int .i64 n3]),AV.int .i64 3]) none) u1) u1)))))))))))) (F (AV.tup [AV.agg (Row.gen [.int .i64 0, .int .i64 0]),AV.int .i64 0]) none)
theorem Zhw{ms ks rs:zA}{n3:Int}{x4:zA} :vT A tab B6 119 K F M (.run 10 (.tf (.run 21 (.tf (.run 21 (.fn)) (.run 9 (.tf (.run 21 (.fn)) (.run 22 (.tf (.ty (.ty (.ty (.ty (.ty (.ty (.ty (.ty (.run 1 (.ty (.ty (.ty (.ty (.ty (.ty (.ty (.ty (.ty (.run 2 (.ty (.run 21 (.fn)))))))))))))))))))))) (.fy (.fy (.fy (.fy (.fy (.fy (.fy (.fy (.run 1 (.tf (.ty (.ty (.ty (.ty (.ty (.ty (.ty (.ty (.run 2 (.ty (.run 21 (.fn)))))))))))) (.fy (.fy (.fy (.fy (.fy (.fy (.fy (.fy (.run 2 (.tf (.run 21 (.fn)) (.run 9 (.tf (.run 21 (.fn)) (.run 7 (.tf (.ty (.ty (.ty (.run 2 (.tf (.run 21 (.fn)) (.run 9 (.hd))))))) (.fy (.fy (.fy (.run 2 (.fy (.run 9 (.hd))))))))))))))))))))))))))))))))))))) (.run 8 (.fn)))) (ZcU ms ks rs n3 x4)=Zd6 A K F ms ks rs n3 x4:=by kernel_rfl
def ZCQ(ms ks rs:zA)(a b:Int)(xs:zI)(k:Int):AFrame:=vF 86 65 [(0,vM ms ks rs),(1,AV.agg (vx [.int .i64 a, .int .i64 b, .list (.ints .i64 xs)])),vI 2 k] [.code a86.code] [.tmp 6]
def ZOA(ms ks rs:zA)(a b:Int)(xs:zI)(k:Int):List AFrame:=[(ZCQ ms ks rs a b xs k)]
theorem ZBk(ms ks rs:zA)(a b:Int)(xs:zI)(k:Int):Zam tab 86 [vM ms ks rs,AV.agg (Row.gen [.int .i64 a, .int .i64 b, .list (.ints .i64 xs)]),AV.int .i64 k]=some (ZCQ ms ks rs a b xs k):=rfl
def ZfK(ms ks rs:zA)(a b:Int)(xs:zI)(k n0:Int):List AFrame:=[vF 86 65 [vI 2 k,vP 3 86004,vP 4 86005,vI 7 n0] (vC ZB3 ZKl) [.tmp 6]]
def Zeq(ms ks rs:zA)(a b:Int)(xs:zI)(k n0:Int):Zad:=[vH 86004 26 3 (vx [vM ms ks rs]),vH 86005 76 3 (vx [AV.agg (vx [vi a,vi b,vz xs])])]
abbrev Zb0(ms ks rs:zA)(a b:Int)(xs:zI)(k n0:Int):List AFrame×Zad:=(ZfK ms ks rs a b xs k n0,Zeq ms ks rs a b xs k n0)
def ZJz(A:Ar)(K:KT)(F:FT)(ms ks rs:zA)(a b:Int)(xs:zI)(k:Int):Prop:=K (Zb0 ms ks rs a b xs k 0)
theorem ZH7{ms ks rs:zA}{a b:Int}{xs:zI}{k:Int} :Zaw A tab B6 86 K F M (.run 14 (.hd)) (ZOA ms ks rs a b xs k) []=ZJz A K F ms ks rs a b xs k:=by kernel_rfl
def Zg3(A:Ar)(K:KT)(F:FT)(ms ks rs:zA)(a b:Int)(xs:zI)(k n0:Int):Prop:=let u1:=A.nthA rs (A.nat n0);let u3:=A.nat (u1.cellAt 3).toI;let u4:=A.nth xs u3;let u5:=A.len xs;let u2:=rB [A.inR .i64 (A.add n0 1)] (K (Zb0 ms ks rs a b xs k (A.add n0 1)));let u0:=qB [A.eq (u1.cellAt 3).toI (-1)] (F (AV.str (u1.cellAt 0).toS) none) (qB [A.inR .i64 (A.sub b u4),Zag (Zag (A.le 0 (u1.cellAt 3).toI) (Nat.blt u3 u5)) true,A.not (A.eq u4 (-1)),Zag (Zag (A.le 0 (u1.cellAt 3).toI) (Nat.blt u3 u5)) true,!A.eq (u1.cellAt 3).toI (-1)] (bB (A.lt (A.sub b u4) (u1.cellAt 4).toI) (F (AV.str (u1.cellAt 0).toS) none) u2) (rB [!A.not (A.eq u4 (-1)),Zag (Zag (A.le 0 (u1.cellAt 3).toI) (Nat.blt u3 u5)) true,!A.eq (u1.cellAt 3).toI (-1)] u2));bB (A.lt n0 (A.int (A.lenA rs))) (rB [Zag (Zag (A.le 0 n0) (Nat.blt (A.nat n0) (A.lenA rs))) true] (bB (A.not (A.eq (u1.cellAt 1).toI k)) u2 (bB (A.not (A.eq (u1.cellAt 2).toI (-1))) (bB (A.not (A.eq (u1.cellAt 2).toI a)) u2 u0) u0))) (F (AV.str []) none)
theorem Zkl{ms ks rs:zA}{a b:Int}{xs:zI}{k n0:Int} :vT A tab B6 86 K F M (.run 10 (.tf (.run 21 (.tf (.ty (.ty (.ty (.run 5 (.ty (.ty (.run 2 (.ty (.run 8 (.hd)))))))))) (.fy (.fy (.fy (.tf (.ty (.ty (.ty (.ty (.alt [false,true] (.fy (.run 2 (.tf (.run 8 (.hd)) (.run 2 (.alt [true] (.run 1 (.ty (.run 7 (.fn)))) (.alt [false,true] (.run 1 (.tf (.run 7 (.fn)) (.run 9 (.hd)))) (.alt [false,false] (.run 1 (.fy (.run 9 (.hd)))) (.no)))))))) (.no)))))) (.fy (.fy (.fy (.fy (.alt [false,false] (.fy (.run 2 (.fy (.run 2 (.alt [true] (.run 1 (.ty (.run 7 (.fn)))) (.alt [false,true] (.run 1 (.tf (.run 7 (.fn)) (.run 9 (.hd)))) (.alt [false,false] (.run 1 (.fy (.run 9 (.hd)))) (.no)))))))) (.no)))))))))))) (.run 6 (.fn)))) (Zb0 ms ks rs a b xs k n0)=Zg3 A K F ms ks rs a b xs k n0:=by kernel_rfl
end Go.Proofs.YtkeoeooghhjibaaGreatDoor
namespace Go.Proofs.YtkeoeooghhjibaaGreatDoor
variable {A:Ar}{K:KT}{F:FT}{M:MT}
theorem ZAs{nm:List UInt8}{ex:Int}{xs:zA}(h:ZaZ nm=false):Zc1 nm ex xs=4:=by simp[Zc1,Zae,Zaa,h]
theorem ZxP{nm:List UInt8}{ex:Int}{xs:zA}(h:ZaZ nm=true)(h2:Zjd xs nm=true):Zc1 nm ex xs=5:=by
 have h3:std.hasS xs nm=true:=h2
 simp[-Zd0,Zc1,Zae,Zaa,h,h3]
theorem ZxI{nm:List UInt8}{ex:Int}{xs:zA}(h:ZaZ nm=true)(h2:Zjd xs nm=false):Zc1 nm ex xs=ex:=by
 have h3:std.hasS xs nm=false:=h2
 by_cases h4:ex=0<;>simp[-Zd0,Zc1,Zae,Zaa,h,h3,h4]
theorem Zgo{n m:Int}(hm:0≤m):Zjf n m=Zab n (-1) (m-1):=by
 unfold Zjf Zab
 by_cases h:n= -1
 ·rw[if_pos h,decide_eq_true (by omega)]
 ·rw[if_neg h]
  by_cases h2:0≤n∧n≤m-1
  ·rw[decide_eq_true h2,decide_eq_true (by omega)]
  ·rw[decide_eq_false h2,decide_eq_false (by omega)]
theorem ZgN(nm:Nat→List UInt8)(ex:Nat→Int)(m k:Nat)(xs:zA)(p:Int)(d:AV):ZbT p (ZbC nm ex (m+1) k xs) d=if Zc1 (nm k) (ex k) xs=0 then ZbT p (ZbC nm ex m (k+1) (xs++[.str (nm k)])) d else ZbA p k (Zc1 (nm k) (ex k) xs):=by
 rw[ZbC];split<;>rfl
theorem Zfv(nm:List UInt8)(ex:Int)(xs:zA):Zc1 nm ex xs=if ZaZ nm=true then(if Zjd xs nm=true then 5 else ex)else 4:=by
 by_cases h:ZaZ nm=true
 ·by_cases h2:Zjd xs nm=true
  ·rw[if_pos h,if_pos h2,ZxP h h2]
  ·rw[if_pos h,if_neg h2,ZxI h (by simpa using h2)]
 ·rw[if_neg h,ZAs (by simpa using h)]
theorem ZkY(rs:zA)(k n m:Nat):Zcb rs k n m=if Zab (Zaj rs k 1) 0 ((n:Int)-1)=true∧Zab (Zaj rs k 2) (-1) ((m:Int)-1)=true∧Zab (Zaj rs k 3) (-1) ((n:Int)-1)=true then(if Zab (Zaj rs k 4) 1 1000000=true then(if Zaj rs k 3= -1∧¬Zaj rs k 4=1 then 3 else 0)else 2)else 6:=by
 rw[Zcb,Zgo (by omega),Zgo (by omega)]
 by_cases h1:Zab (Zaj rs k 1) 0 ((n:Int)-1)=true<;>by_cases h2:Zab (Zaj rs k 2) (-1) ((m:Int)-1)=true<;>by_cases h3:Zab (Zaj rs k 3) (-1) ((n:Int)-1)=true<;>by_cases h4:Zab (Zaj rs k 4) 1 1000000=true<;>by_cases h5:Zaj rs k 3= -1<;>by_cases h6:Zaj rs k 4=1<;>simp_all[Zae,Zaa]
theorem Zu1{xs ys:zA}(h:xs.map AV.toS=ys.map AV.toS){s:List UInt8} :Zjd xs s=Zjd ys s:=by
 have e:∀l:zA,Zjd l s=(l.map AV.toS).any (· ==s):=fun l=>by simp[Zjd,List.any_map,Function.comp_def]
 rw[e,e,h]
theorem Zpk(ks:zA)(k m:Nat):Zda ks k m=if Zab (Zaj ks k 1) (-1) ((m:Int)-1)=true then 0 else 6:=by
 rw[Zda,Zgo (by omega)];split<;>simp_all[Zaa]
section
variable {C:Ctx}(hC:C.P=Tryz.prog)(ms ks rs:zA)(hs:ZaC ms ks rs=true)
include hC hs
theorem ZBM:∀(m k:Nat) (xs:zA),k+m=rs.length→xs.length≤k→vE C (ZcU ms ks rs k xs)
 (Zco 119 (ZbT 3 (ZbC (fun k=>ZaA rs k) (fun k=>Zcb rs k ks.length ms.length) m k xs) (ZbA 0 0 0)) none)
 |0,k,xs,hk,hx=>tgo hC Zfe Zhw (by simp[Zd6,show ¬(k:Int)<rs.length by omega];rfl)
 |m+1,k,xs,hk,hx=>by
  have hs':=hs
  simp only[ZaC,Bool.and_eq_true,decide_eq_true_eq]at hs'
  have hn:=Zcy hs'.1.2 (show k<rs.length by omega)
  have hlt:(k:Int)<rs.length:=by omega
  have hlt2:k<rs.length:=by omega
  have e0:((rs.getD k .top).cellAt 0).toS=ZaA rs k:=rfl
  have e1:((rs.getD k .top).cellAt 1).toI=Zaj rs k 1:=rfl
  have e2:((rs.getD k .top).cellAt 2).toI=Zaj rs k 2:=rfl
  have e3:((rs.getD k .top).cellAt 3).toI=Zaj rs k 3:=rfl
  have e4:((rs.getD k .top).cellAt 4).toI=Zaj rs k 4:=rfl
  have ih:=ZBM m (k+1) (xs++[.str (ZaA rs k)]) (by omega) (by simp;omega)
  obtain⟨V,hV⟩:∃V,V=ZbT 3 (ZbC (fun k=>ZaA rs k) (fun k=>Zcb rs k ks.length ms.length) (m+1) k xs) (ZbA 0 0 0):=⟨_,rfl⟩
  rw[←hV]
  rw[ZgN,Zfv,ZkY]at hV
  refine tgo hC Zfe Zhw ?_
  simp[-List.getD_eq_getElem?_getD,Zd6,e0,e1,e2,e3,e4,hlt,hlt2,hn,AV.bx,Zac]
  clear e0 e1 e2 e3 e4 hs
  replace hs':=hs'.2
  generalize ZaA rs k=nm at*
  generalize Zaj rs k 1=f1 at*
  generalize Zaj rs k 2=f2 at*
  generalize Zaj rs k 3=f3 at*
  generalize Zaj rs k 4=f4 at*
  repeat' (first |split |apply And.intro)
  all_goals first |omega |skip
  all_goals (clear hs';simp_all[ZbA])
theorem ZHm:∀m:Nat,m=rs.length→vE C (Zhc ms ks rs)
 (Zco 119 (ZbT 3 (ZbC (fun k=>ZaA rs k) (fun k=>Zcb rs k ks.length ms.length) m 0 []) (ZbA 0 0 0)) none)
 |0,hk=>tgo hC Zfe Zhp (by simp[Zd3,←hk];rfl)
 |m+1,hk=>by
  have hs':=hs
  simp only[ZaC,Bool.and_eq_true,decide_eq_true_eq]at hs'
  have hn:=Zcy hs'.1.2 (show 0<rs.length by omega)
  have hlt:(0:Int)<rs.length:=by omega
  have hlt2:0<rs.length:=by omega
  have e0:((rs.getD 0 .top).cellAt 0).toS=ZaA rs 0:=rfl
  have e1:((rs.getD 0 .top).cellAt 1).toI=Zaj rs 0 1:=rfl
  have e2:((rs.getD 0 .top).cellAt 2).toI=Zaj rs 0 2:=rfl
  have e3:((rs.getD 0 .top).cellAt 3).toI=Zaj rs 0 3:=rfl
  have e4:((rs.getD 0 .top).cellAt 4).toI=Zaj rs 0 4:=rfl
  have ih:=ZBM hC ms ks rs hs m 1 [.str (ZaA rs 0)] (by omega) (by simp)
  obtain⟨V,hV⟩:∃V,V=ZbT 3 (ZbC (fun k=>ZaA rs k) (fun k=>Zcb rs k ks.length ms.length) (m+1) 0 []) (ZbA 0 0 0):=⟨_,rfl⟩
  rw[←hV]
  rw[ZgN,Zfv,ZkY]at hV
  refine tgo hC Zfe Zhp ?_
  simp[-List.getD_eq_getElem?_getD,Zd3,e0,e1,e2,e3,e4,hlt,hlt2,hn,AV.bx,Zac]
  clear e0 e1 e2 e3 e4 hs
  replace hs':=hs'.2
  generalize ZaA rs 0=nm at*
  generalize Zaj rs 0 1=f1 at*
  generalize Zaj rs 0 2=f2 at*
  generalize Zaj rs 0 3=f3 at*
  generalize Zaj rs 0 4=f4 at*
  repeat' (first |split |apply And.intro)
  all_goals first |omega |skip
  all_goals (clear hs';simp_all[ZbA,Zjd])
end
def dB(ms ks rs:zA):AV:=if 10<rs.length then ZbA 3 0 8 else Ztl ms ks rs
theorem ZGN(ms ks rs:zA):(if ZcI (decide (0≤(rs.length:Int))) (decide ((rs.length:Int)≤10))=0 then Ztl ms ks rs else ZbA 3 0 (ZcI (decide (0≤(rs.length:Int))) (decide ((rs.length:Int)≤10))))=dB ms ks rs:=by
 unfold dB
 by_cases h:10<rs.length
 ·rw[if_pos h,decide_eq_true (by omega:(0:Int)≤(rs.length:Int)),decide_eq_false (by omega:¬(rs.length:Int)≤10)];rfl
 ·rw[if_neg h,decide_eq_true (by omega:(0:Int)≤(rs.length:Int)),decide_eq_true (by omega:(rs.length:Int)≤10)];rfl
def dA(ms ks rs:zA):AV:=if ks.length=0 then ZbA 2 0 10 else if 8<ks.length then ZbA 2 0 8 else ZqP ms ks rs
theorem ZCU(ms ks rs:zA):(if ZcI (decide (1≤(ks.length:Int))) (decide ((ks.length:Int)≤8))=0 then ZqP ms ks rs else ZbA 2 0 (ZcI (decide (1≤(ks.length:Int))) (decide ((ks.length:Int)≤8))))=dA ms ks rs:=by
 unfold dA
 by_cases h:ks.length=0
 ·rw[if_pos h,decide_eq_false (by omega:¬(1:Int)≤(ks.length:Int))];rfl
 ·rw[if_neg h,decide_eq_true (by omega:(1:Int)≤(ks.length:Int))]
  by_cases h2:8<ks.length
  ·rw[if_pos h2,decide_eq_false (by omega:¬(ks.length:Int)≤8)];rfl
  ·rw[if_neg h2,decide_eq_true (by omega:(ks.length:Int)≤8)];rfl
theorem ZmK(ms ks rs:zA):ZeU ms ks rs=if ms.length=0 then ZbA 1 0 10 else if 6<ms.length then ZbA 1 0 8 else Zu5 ms ks rs:=by
 unfold ZeU
 by_cases h:ms.length=0
 ·rw[if_pos h,decide_eq_false (by omega:¬(1:Int)≤(ms.length:Int))];rfl
 ·rw[if_neg h,decide_eq_true (by omega:(1:Int)≤(ms.length:Int))]
  by_cases h2:6<ms.length
  ·rw[if_pos h2,decide_eq_false (by omega:¬(ms.length:Int)≤6)];rfl
  ·rw[if_neg h2,decide_eq_true (by omega:(ms.length:Int)≤6)];rfl
section
variable {C:Ctx}(hC:C.P=Tryz.prog)(ms ks rs:zA)(hs:ZaC ms ks rs=true)
include hC hs
theorem ZFQ:vE C (Zhc ms ks rs) (Zco 119 (Ztl ms ks rs) none):=ZHm hC ms ks rs hs _ rfl
theorem ZFa:∀(m k:Nat) (xs:zA),k+m=ks.length→xs.length≤k→vE C (ZhC ms ks rs k xs)
 (Zco 119 (ZbT 2 (ZbC (fun k=>ZaA ks k) (fun k=>Zda ks k ms.length) m k xs) (dB ms ks rs)) none)
 |0,k,xs,hk,hx=>by
  refine tgo hC Zfe Zhr ?_
  by_cases h:10<rs.length
  ·simp[ZcT,show ¬(k:Int)<ks.length by omega,ZbC,ZbT,dB,h,show(10:Int)<rs.length by omega,ZbA]
  ·simp[ZcT,show ¬(k:Int)<ks.length by omega,ZbC,ZbT,dB,h,show ¬(10:Int)<rs.length by omega]
   exact ZFQ hC ms ks rs hs
 |m+1,k,xs,hk,hx=>by
  have hs':=hs
  simp only[ZaC,Bool.and_eq_true,decide_eq_true_eq]at hs'
  have hn:=Zcy hs'.1.1.2 (show k<ks.length by omega)
  have hlt:(k:Int)<ks.length:=by omega
  have hlt2:k<ks.length:=by omega
  have e0:((ks.getD k .top).cellAt 0).toS=ZaA ks k:=rfl
  have e1:((ks.getD k .top).cellAt 1).toI=Zaj ks k 1:=rfl
  have ih:=ZFa m (k+1) (xs++[.str (ZaA ks k)]) (by omega) (by simp;omega)
  obtain⟨V,hV⟩:∃V,V=ZbT 2 (ZbC (fun k=>ZaA ks k) (fun k=>Zda ks k ms.length) (m+1) k xs) (dB ms ks rs):=⟨_,rfl⟩
  rw[←hV]
  rw[ZgN,Zfv,Zpk]at hV
  refine tgo hC Zfe Zhr ?_
  simp[-List.getD_eq_getElem?_getD,ZcT,e0,e1,hlt,hlt2,hn,AV.bx,Zac]
  clear e0 e1 hs
  replace hs':=hs'.2
  generalize ZaA ks k=nm at*
  generalize Zaj ks k 1=f1 at*
  repeat' (first |split |apply And.intro)
  all_goals first |omega |skip
  all_goals (clear hs';simp_all[ZbA])
theorem ZCG:∀m:Nat,m=ks.length→vE C (Zmk ms ks rs)
 (Zco 119 (ZbT 2 (ZbC (fun k=>ZaA ks k) (fun k=>Zda ks k ms.length) m 0 []) (dB ms ks rs)) none)
 |0,hk=>by
  refine tgo hC Zfe Zhm ?_
  by_cases h:10<rs.length
  ·simp[ZcV,←hk,ZbC,ZbT,dB,h,show(10:Int)<rs.length by omega,ZbA]
  ·simp[ZcV,←hk,ZbC,ZbT,dB,h,show ¬(10:Int)<rs.length by omega]
   exact ZFQ hC ms ks rs hs
 |m+1,hk=>by
  have hs':=hs
  simp only[ZaC,Bool.and_eq_true,decide_eq_true_eq]at hs'
  have hn:=Zcy hs'.1.1.2 (show 0<ks.length by omega)
  have hlt:(0:Int)<ks.length:=by omega
  have hlt2:0<ks.length:=by omega
  have e0:((ks.getD 0 .top).cellAt 0).toS=ZaA ks 0:=rfl
  have e1:((ks.getD 0 .top).cellAt 1).toI=Zaj ks 0 1:=rfl
  have ih:=ZFa hC ms ks rs hs m 1 [.str (ZaA ks 0)] (by omega) (by simp)
  obtain⟨V,hV⟩:∃V,V=ZbT 2 (ZbC (fun k=>ZaA ks k) (fun k=>Zda ks k ms.length) (m+1) 0 []) (dB ms ks rs):=⟨_,rfl⟩
  rw[←hV]
  rw[ZgN,Zfv,Zpk]at hV
  refine tgo hC Zfe Zhm ?_
  simp[-List.getD_eq_getElem?_getD,ZcV,e0,e1,hlt,hlt2,hn,AV.bx,Zac]
  clear e0 e1 hs
  replace hs':=hs'.2
  generalize ZaA ks 0=nm at*
  generalize Zaj ks 0 1=f1 at*
  repeat' (first |split |apply And.intro)
  all_goals first |omega |skip
  all_goals (clear hs';simp_all[ZbA,Zjd])
theorem ZJV:vE C (Zmk ms ks rs) (Zco 119 (ZqP ms ks rs) none):=by
 have:=ZCG hC ms ks rs hs _ rfl
 rw[←ZGN]at this
 exact this
theorem ZEc:∀(m k:Nat) (xs:zA),k+m=ms.length→xs.map AV.toS=(ms.take k).map AV.toS→vE C (ZhA ms ks rs k)
 (Zco 119 (ZbT 1 (ZbC (fun k=>Zbi ms k) (fun _=>0) m k xs) (dA ms ks rs)) none)
 |0,k,xs,hk,hx=>by
  refine tgo hC Zfe Zhk ?_
  by_cases h0:ks.length=0
  ·simp[Zca,show ¬(k:Int)<ms.length by omega,ZbC,ZbT,dA,h0,ZbA]
  ·by_cases h:8<ks.length
   ·simp[Zca,show ¬(k:Int)<ms.length by omega,ZbC,ZbT,dA,h0,h,show(8:Int)<ks.length by omega,ZbA]
   ·simp[Zca,show ¬(k:Int)<ms.length by omega,ZbC,ZbT,dA,h0,h,show ¬(8:Int)<ks.length by omega]
    exact ZJV hC ms ks rs hs
 |m+1,k,xs,hk,hx=>by
  have hs':=hs
  simp only[ZaC,Bool.and_eq_true,decide_eq_true_eq]at hs'
  have hn:=ZjK hs'.1.1.1 (show k<ms.length by omega)
  have hlt:(k:Int)<ms.length:=by omega
  have hlt2:k<ms.length:=by omega
  have e0:(ms.getD k .top).toS=Zbi ms k:=rfl
  have ih:=ZEc m (k+1) (xs++[.str (Zbi ms k)]) (by omega) (by
   rw[List.map_append,hx,List.take_succ_eq_append_getElem hlt2,List.map_append]
   congr 1
   simp[Zbi,AV.toS,hlt2])
  have hh:Zjd (ms.take k) (Zbi ms k)=Zjd xs (Zbi ms k):=Zu1 hx.symm
  obtain⟨V,hV⟩:∃V,V=ZbT 1 (ZbC (fun k=>Zbi ms k) (fun _=>0) (m+1) k xs) (dA ms ks rs):=⟨_,rfl⟩
  rw[←hV]
  rw[ZgN,Zfv]at hV
  refine tgo hC Zfe Zhk ?_
  simp[-List.getD_eq_getElem?_getD,Zca,e0,hlt,hlt2,hn,hh]
  clear e0 hs hx hh
  replace hs':=hs'.2
  generalize Zbi ms k=nm at*
  repeat' (first |split |apply And.intro)
  all_goals first |omega |skip
  all_goals (clear hs';simp_all[ZbA])
end
theorem ZtL(ms ks rs:zA)(hs:ZaC ms ks rs=true):Zan Tryz.prog 119 [vM ms ks rs] (.tup [.agg (.gen [.int .i64 (Zmq ms ks rs), .int .i64 (Zmi ms ks rs)]), .int .i64 (ZaN ms ks rs)]) none:=by
 rw[show AV.tup [.agg (.gen [.int .i64 (Zmq ms ks rs), .int .i64 (Zmi ms ks rs)]), .int .i64 (ZaN ms ks rs)]=ZeU ms ks rs from(ZmX ms ks rs).eq.symm]
 refine start (Ztx ms ks rs) fun C hC=>tgo hC Zfe ZD2 ?_
 rw[ZmK]
 by_cases h0:ms.length=0
 ·simp[Zot,h0,ZbA]
 ·by_cases h:6<ms.length
  ·simp[Zot,h0,h,show(6:Int)<ms.length by omega,ZbA]
  ·simp[Zot,h0,h,show ¬(6:Int)<ms.length by omega]
   have:=ZEc hC ms ks rs hs ms.length 0 [] (by omega) (by simp)
   rw[Zu5,ZCU]
   exact this
end Go.Proofs.YtkeoeooghhjibaaGreatDoor
namespace Go.Proofs.YtkeoeooghhjibaaGreatDoor
variable {A:Ar}{K:KT}{F:FT}{M:MT}
def Zmw(rs:zA)(a b:Int)(xs:zI)(k:Int)(i:Nat):Bool:=decide (Zaj rs i 1=k∧(Zaj rs i 2= -1∨Zaj rs i 2=a)∧(Zaj rs i 3= -1∨(xs.getD (Zaj rs i 3).toNat 0≠ -1∧b-xs.getD (Zaj rs i 3).toNat 0<Zaj rs i 4)))
def Ze3(rs:zA)(a b:Int)(xs:zI)(k:Int):Nat→Nat→List UInt8
 |0,_=>[]
 |m+1,i=>if Zmw rs a b xs k i=true then ZaA rs i else Ze3 rs a b xs k m (i+1)
def Zbx(rs:zA)(b:Int)(xs:zI):Bool:=((List.range rs.length).all fun i=>decide (-1≤Zaj rs i 3∧Zaj rs i 3<xs.length))&&(xs.all fun x=>decide (-1≤x∧x≤b))&&decide (0≤b∧b≤1000000000000∧rs.length≤1000000)
theorem ZoG{rs:zA}{b:Int}{xs:zI}(h:Zbx rs b xs=true){k:Nat}(hk:k<rs.length):(-1≤Zaj rs k 3∧Zaj rs k 3<xs.length)∧(Zaj rs k 3≠ -1→ -1≤xs.getD (Zaj rs k 3).toNat 0∧xs.getD (Zaj rs k 3).toNat 0≤b)∧0≤b∧b≤1000000000000∧rs.length≤1000000:=by
 simp only[Zbx,Bool.and_eq_true,List.all_eq_true,decide_eq_true_eq,List.mem_range]at h
 obtain⟨⟨h1,h2⟩,h3⟩:=h
 refine⟨h1 k hk,fun h4=>?_,h3⟩
 have h5:=h1 k hk
 have h6:(Zaj rs k 3).toNat<xs.length:=by omega
 refine h2 _ ?_
 rw[List.getD_eq_getElem?_getD,List.getElem?_eq_getElem h6];exact List.getElem_mem h6
theorem ZmH{C:Ctx}(hC:C.P=Tryz.prog)(ms ks rs:zA)(a b:Int)(xs:zI)(q:Int)(hg:Zbx rs b xs=true):∀m k:Nat,k+m=rs.length→vE C (Zb0 ms ks rs a b xs q k) (Zco 86 (.str (Ze3 rs a b xs q m k)) none)
 |0,k,hk=>tgo hC Zfe Zkl (by simp[Zg3,show ¬(k:Int)<rs.length by omega];rfl)
 |m+1,k,hk=>by
  have hlt:(k:Int)<rs.length:=by omega
  have hlt2:k<rs.length:=by omega
  have e0:((rs.getD k .top).cellAt 0).toS=ZaA rs k:=rfl
  have e1:((rs.getD k .top).cellAt 1).toI=Zaj rs k 1:=rfl
  have e2:((rs.getD k .top).cellAt 2).toI=Zaj rs k 2:=rfl
  have e3:((rs.getD k .top).cellAt 3).toI=Zaj rs k 3:=rfl
  have e4:((rs.getD k .top).cellAt 4).toI=Zaj rs k 4:=rfl
  have ih:=ZmH hC ms ks rs a b xs q hg m (k+1) (by omega)
  refine tgo hC Zfe Zkl ?_
  simp[-List.getD_eq_getElem?_getD,Zg3,e0,e1,e2,e3,e4,hlt,hlt2]
  obtain⟨V,hV⟩:∃V,V=Ze3 rs a b xs q (m+1) k:=⟨_,rfl⟩
  rw[←hV]
  simp only[Ze3,Zmw,decide_eq_true_eq]at hV
  have g:=ZoG hg hlt2
  clear e0 e1 e2 e3 e4 hg
  generalize ZaA rs k=nm at*
  generalize Zaj rs k 1=f1 at*
  generalize Zaj rs k 2=f2 at*
  generalize Zaj rs k 3=f3 at*
  generalize Zaj rs k 4=f4 at*
  generalize xs.getD f3.toNat 0=t at*
  have r3: -9223372036854775808≤(k:Int)+1∧(k:Int)+1≤9223372036854775807:=by omega
  have r1:f3≠ -1→(0≤f3∧f3.toNat<xs.length)∧(-9223372036854775808≤b-t∧b-t≤9223372036854775807):=by omega
  have ih':vE C (Zb0 ms ks rs a b xs q (k+1)) (Zco 86 (.str (Ze3 rs a b xs q m (k+1))) none):=ih
  clear hk hlt hlt2 g ih
  by_cases h1:f1=q<;>by_cases h2:f2= -1<;>by_cases h3:f2=a<;>by_cases h4:f3= -1<;>by_cases h5:t= -1<;>by_cases h6:b-t<f4<;>simp_all<;>(intro h7;omega)
theorem Zq7(ms ks rs:zA)(a b:Int)(xs:zI)(q:Int)(hg:Zbx rs b xs=true):Zan Tryz.prog 86 [vM ms ks rs, .agg (.gen [.int .i64 a, .int .i64 b, .list (.ints .i64 xs)]), .int .i64 q] (.str (Ze3 rs a b xs q rs.length 0)) none:=
 start (ZBk ms ks rs a b xs q) fun C hC=>tgo hC Zfe ZH7 (ZmH hC ms ks rs a b xs q hg rs.length 0 (by omega))
theorem firstE_zero:∀ {l:zI},Zae l=0↔∀x∈l,x=0
 |[]=>by simp[Zae]
 |x::l=>by
  have ih:=firstE_zero (l:=l)
  by_cases h:x=0
  ·simp[Zae,h,ih]
  ·simp[Zae,h]
theorem ZaE{b:Bool}{e:Int}(h:Zaa b e=0)(he:e≠0):b=true:=by
 cases b
 ·exact absurd h he
 ·rfl
theorem Zlq{nm:Nat→List UInt8}{ex:Nat→Int}{p:Int}{d:AV} :∀(m k:Nat) (xs:zA),mE (ZbT p (ZbC nm ex m k xs) d)=0→mE d=0∧∀i,k≤i→i<k+m→ZaZ (nm i)=true∧ex i=0
 |0,k,xs,h=>⟨h,fun i h1 h2=>by omega⟩
 |m+1,k,xs,h=>by
  rw[ZgN]at h
  split at h
  ·rename_i hs
   obtain⟨h1,h2⟩:=Zlq m (k+1) _ h
   refine⟨h1,fun i h3 h4=>?_⟩
   by_cases hi:i=k
   ·subst hi
    obtain⟨g1,_,g3⟩:=ZwS hs
    exact⟨ZaE g1 (by decide),g3⟩
   ·exact h2 i (by omega) (by omega)
  ·rename_i hs
   exact absurd h hs
theorem ZqD{ms ks rs:zA}(h:ZaN ms ks rs=0):(1≤ms.length∧ms.length≤6)∧(1≤ks.length∧ks.length≤8)∧rs.length≤10∧(∀i<ms.length,ZaZ (Zbi ms i)=true)∧(∀i<ks.length,ZaZ (ZaA ks i)=true∧Zda ks i ms.length=0)∧(∀i<rs.length,ZaZ (ZaA rs i)=true∧Zcb rs i ks.length ms.length=0):=by
 unfold ZaN at h
 rw[ZmK]at h
 split at h
 ·cases h
 ·split at h
  ·cases h
  ·rw[Zu5,ZCU]at h
   obtain⟨h1,h2⟩:=Zlq _ _ _ h
   unfold dA at h1
   split at h1
   ·cases h1
   ·split at h1
    ·cases h1
    ·rw[ZqP,ZGN]at h1
     obtain⟨h3,h4⟩:=Zlq _ _ _ h1
     unfold dB at h3
     split at h3
     ·cases h3
     ·obtain⟨_,h5⟩:=Zlq _ _ _ h3
      exact⟨by omega,by omega,by omega,fun i hi=>(h2 i (by omega) (by omega)).1,fun i hi=>h4 i (by omega) (by omega),fun i hi=>h5 i (by omega) (by omega)⟩
theorem within_iff{n a b:Int} :Zab n a b=true↔a≤n∧n≤b:=by simp[Zab]
theorem Zh9{rs:zA}{i n m:Nat}(h:Zcb rs i n m=0):(0≤Zaj rs i 1∧Zaj rs i 1<n)∧(-1≤Zaj rs i 2∧Zaj rs i 2<m)∧(-1≤Zaj rs i 3∧Zaj rs i 3<n)∧(1≤Zaj rs i 4∧Zaj rs i 4≤1000000)∧(Zaj rs i 3= -1→Zaj rs i 4=1):=by
 rw[ZkY]at h
 simp only[within_iff]at h
 split at h
 ·split at h
  ·split at h
   ·cases h
   ·rename_i h1 h2 h3
    exact⟨by omega,by omega,by omega,by omega,fun h4=>by simpa[h4]using h3⟩
  ·cases h
 ·cases h
end Go.Proofs.YtkeoeooghhjibaaGreatDoor
namespace Go.Proofs.YtkeoeooghhjibaaGreatDoor
variable {A:Ar}{K:KT}{F:FT}{M:MT}
def k119:Ctr:=⟨119,0,fun _ a=>match a with |[.agg (.gen [.list (.big .str ms), .list (.big (.agg [.str, .int .i64]) ks), .list (.big (.agg [.str, .int .i64, .int .i64, .int .i64, .int .i64]) rs)])]=>some (decide (ZaC ms ks rs=true), .tup [.agg (.gen [.int .i64 (Zmq ms ks rs), .int .i64 (Zmi ms ks rs)]), .int .i64 (ZaN ms ks rs)],none) |_=>none⟩
theorem Zzv:k119.OK Tryz.prog:=fun pa args r fr h=>by
 simp only[k119]at h
 split at h
 ·simp only[zS,zP,decide_eq_true_eq]at h
  obtain⟨h0,rfl,rfl⟩:=h
  exact ZtL _ _ _ h0
 ·cases h
def k86:Ctr:=⟨86,0,fun _ a=>match a with |[.agg (.gen [.list (.big .str _), .list (.big (.agg [.str, .int .i64]) _), .list (.big (.agg [.str, .int .i64, .int .i64, .int .i64, .int .i64]) rs)]), .agg (.gen [.int .i64 a, .int .i64 b, .list (.ints .i64 xs)]), .int .i64 q]=>some (decide (Zbx rs b xs=true), .str (Ze3 rs a b xs q rs.length 0),none) |_=>none⟩
theorem ZEF:k86.OK Tryz.prog:=fun pa args r fr h=>by
 simp only[k86]at h
 split at h
 ·simp only[zS,zP,decide_eq_true_eq]at h
  obtain⟨h0,rfl,rfl⟩:=h
  exact Zq7 _ _ _ _ _ _ _ h0
 ·cases h
def B7:List Ctr:=[k119,k86]++B6
theorem ZF0:ZaF Tryz.prog B7:=⟨Zzv,⟨ZEF,Zfe⟩⟩
end Go.Proofs.YtkeoeooghhjibaaGreatDoor
namespace Go.Proofs.YtkeoeooghhjibaaGreatDoor
variable {A:Ar}{K:KT}{F:FT}{M:MT}
set_option maxRecDepth 100000
set_option linter.unusedVariables false
def ZGU(ms ks rs:zA):AFrame:=vF 65 11 [(0,vM ms ks rs)] [.code a65.code] [.tmp 2]
def ZMw(ms ks rs:zA):List AFrame:=[(ZGU ms ks rs)]
theorem Zxo(ms ks rs:zA):Zam tab 65 [vM ms ks rs]=some (ZGU ms ks rs):=rfl
def ZDv(A:Ar)(K:KT)(F:FT)(ms ks rs:zA):Prop:=rB [decide (ZaC ms ks rs=true)] (F (AV.int .i64 (ZaN ms ks rs)) none)
theorem ZIB{ms ks rs:zA} :Zaw A tab B7 65 K F M (.run 23 (.fn)) (ZMw ms ks rs) []=ZDv A K F ms ks rs:=by kernel_rfl
end Go.Proofs.YtkeoeooghhjibaaGreatDoor
