/- Paths of functions, printed by the explorer (Gx). No condition. -/
import Derived.Test.YtjhldefnjghcdaaGreatMm
import Derived.KernelRfl
namespace Go.Proofs.YtjhldefnjghcdaaGreat
set_option maxRecDepth 100000
set_option linter.unusedVariables false
def ZOq(m p q h D:Int)(mk:zI)(le er ve fy sl g t s:Int)(ds:List AV)(op:zI):AFrame:=vF 3 337 [(0,AV.agg (Row.gen [.int .i64 m, .int .i64 p, .int .i64 q, .int .i64 h, .int .i64 D])),(1,AV.agg (Row.gen [.list (.ints .i64 mk), .int .i64 le, .int .i64 er, .int .i64 ve, .int .i64 fy, .int .i64 sl, .int .i64 g, .int .i64 t, .int .i64 s, .list (Row.big (.ints .i64) ds), .list (.ints .i64 op)]))] [.code a3.code] [.tmp 4]
def f3e(m p q h D:Int)(mk:zI)(le er ve fy sl g t s:Int)(ds:List AV)(op:zI):List AFrame:=[(ZOq m p q h D mk le er ve fy sl g t s ds op)]
theorem ZGd(m p q h D:Int)(mk:zI)(le er ve fy sl g t s:Int)(ds:List AV)(op:zI):Zak tab 3 [AV.agg (Row.gen [.int .i64 m, .int .i64 p, .int .i64 q, .int .i64 h, .int .i64 D]),AV.agg (Row.gen [.list (.ints .i64 mk), .int .i64 le, .int .i64 er, .int .i64 ve, .int .i64 fy, .int .i64 sl, .int .i64 g, .int .i64 t, .int .i64 s, .list (Row.big (.ints .i64) ds), .list (.ints .i64 op)])]=some (ZOq m p q h D mk le er ve fy sl g t s ds op):=rfl
def ZrH(m p q h D:Int)(mk:zI)(le er ve fy sl g t s:Int)(ds:List AV)(op:zI)(n0:Int)(l1 l2:zI)(n3:Int):List AFrame:=[vF 3 337 [vP 2 3003,vP 3 3004,vP 5 3006,vI 6 n3,vR 7 3151,vR 8 3154,vI 9 n0] (vC ZPd ZQB) [.tmp 4]]
def ZoK(m p q h D:Int)(mk:zI)(le er ve fy sl g t s:Int)(ds:List AV)(op:zI)(n0:Int)(l1 l2:zI)(n3:Int):Zaa:=[(3003,{ base:=0,blks:=[Blk.row 26 5 (Row.gen [AV.agg (Row.gen [AV.int .i64 m,AV.int .i64 p,AV.int .i64 q,AV.int .i64 h,AV.int .i64 D])])] }),(3004,{ base:=0,blks:=[Blk.row 34 11 (Row.gen [AV.agg (Row.gen [AV.list (.ints .i64 mk),AV.int .i64 le,AV.int .i64 er,AV.int .i64 ve,AV.int .i64 fy,AV.int .i64 sl,AV.int .i64 g,AV.int .i64 t,AV.int .i64 s,AV.list (Row.big (.ints .i64) ds),AV.list (.ints .i64 op)])])] }),(3006,{ base:=0,blks:=[Blk.row 29 6 (Row.gen [AV.agg (Row.gen [AV.list (.ints .i64 mk),AV.int .i64 le,AV.int .i64 er,AV.int .i64 ve,AV.int .i64 fy,AV.int .i64 sl])])] }),vK 3151 l1,vK 3154 l2]
abbrev Zr7(m p q h D:Int)(mk:zI)(le er ve fy sl g t s:Int)(ds:List AV)(op:zI)(n0:Int)(l1 l2:zI)(n3:Int):List AFrame×Zaa:=(ZrH m p q h D mk le er ve fy sl g t s ds op n0 l1 l2 n3,ZoK m p q h D mk le er ve fy sl g t s ds op n0 l1 l2 n3)
def ZqF(m p q h D:Int)(mk:zI)(le er ve fy sl g t s:Int)(ds:List AV)(op:zI)(n3:Int)(l4:zI)(n5:Int)(l6:zI):List AFrame:=[vF 3 337 [vP 2 3003,vP 3 3004,vP 5 3006,vI 6 n3,vR 7 3162,vR 8 3154,vI 14 n5] (vC ZOn ZQA) [.tmp 4]]
def ZoD(m p q h D:Int)(mk:zI)(le er ve fy sl g t s:Int)(ds:List AV)(op:zI)(n3:Int)(l4:zI)(n5:Int)(l6:zI):Zaa:=[(3003,{ base:=0,blks:=[Blk.row 26 5 (Row.gen [AV.agg (Row.gen [AV.int .i64 m,AV.int .i64 p,AV.int .i64 q,AV.int .i64 h,AV.int .i64 D])])] }),(3004,{ base:=0,blks:=[Blk.row 34 11 (Row.gen [AV.agg (Row.gen [AV.list (.ints .i64 mk),AV.int .i64 le,AV.int .i64 er,AV.int .i64 ve,AV.int .i64 fy,AV.int .i64 sl,AV.int .i64 g,AV.int .i64 t,AV.int .i64 s,AV.list (Row.big (.ints .i64) ds),AV.list (.ints .i64 op)])])] }),(3006,{ base:=0,blks:=[Blk.row 29 6 (Row.gen [AV.agg (Row.gen [AV.list (.ints .i64 mk),AV.int .i64 le,AV.int .i64 er,AV.int .i64 ve,AV.int .i64 fy,AV.int .i64 sl])])] }),vK 3154 l6,vK 3162 l4]
abbrev Zfu(m p q h D:Int)(mk:zI)(le er ve fy sl g t s:Int)(ds:List AV)(op:zI)(n3:Int)(l4:zI)(n5:Int)(l6:zI):List AFrame×Zaa:=(ZqF m p q h D mk le er ve fy sl g t s ds op n3 l4 n5 l6,ZoD m p q h D mk le er ve fy sl g t s ds op n3 l4 n5 l6)
def ZqO(m p q h D:Int)(mk:zI)(le er ve fy sl g t s:Int)(ds:List AV)(op:zI)(n3:Int)(l4 l6:zI)(x7:List AV)(n8:Int):List AFrame:=[vF 3 337 [vP 2 3003,vP 3 3004,vP 5 3006,vI 6 n3,vR 7 3162,vR 8 3154,(16,AV.list (Row.big (.agg [.int .i64, .int .i64, .bool, .int .i64, .int .i64]) x7)),vI 18 n8] (vC ZOX ZQU) [.tmp 4]]
def ZoJ(m p q h D:Int)(mk:zI)(le er ve fy sl g t s:Int)(ds:List AV)(op:zI)(n3:Int)(l4 l6:zI)(x7:List AV)(n8:Int):Zaa:=[(3003,{ base:=0,blks:=[Blk.row 26 5 (Row.gen [AV.agg (Row.gen [AV.int .i64 m,AV.int .i64 p,AV.int .i64 q,AV.int .i64 h,AV.int .i64 D])])] }),(3004,{ base:=0,blks:=[Blk.row 34 11 (Row.gen [AV.agg (Row.gen [AV.list (.ints .i64 mk),AV.int .i64 le,AV.int .i64 er,AV.int .i64 ve,AV.int .i64 fy,AV.int .i64 sl,AV.int .i64 g,AV.int .i64 t,AV.int .i64 s,AV.list (Row.big (.ints .i64) ds),AV.list (.ints .i64 op)])])] }),(3006,{ base:=0,blks:=[Blk.row 29 6 (Row.gen [AV.agg (Row.gen [AV.list (.ints .i64 mk),AV.int .i64 le,AV.int .i64 er,AV.int .i64 ve,AV.int .i64 fy,AV.int .i64 sl])])] }),vK 3154 l6,vK 3162 l4]
abbrev ZsZ(m p q h D:Int)(mk:zI)(le er ve fy sl g t s:Int)(ds:List AV)(op:zI)(n3:Int)(l4 l6:zI)(x7:List AV)(n8:Int):List AFrame×Zaa:=(ZqO m p q h D mk le er ve fy sl g t s ds op n3 l4 l6 x7 n8,ZoJ m p q h D mk le er ve fy sl g t s ds op n3 l4 l6 x7 n8)
def Zqn(m p q h D:Int)(mk:zI)(le er ve fy sl g t s:Int)(ds:List AV)(op:zI)(n3:Int)(l6:zI)(n9:Int)(x10:List AV)(n11:Int):List AFrame:=[vF 3 337 [vP 2 3003,vP 3 3004,vI 6 n3,vR 8 3154,vR 19 3252,vI 21 n9,vI 23 n11] (vC ZOO ZPX) [.tmp 4]]
def Zn1(m p q h D:Int)(mk:zI)(le er ve fy sl g t s:Int)(ds:List AV)(op:zI)(n3:Int)(l6:zI)(n9:Int)(x10:List AV)(n11:Int):Zaa:=[(3003,{ base:=0,blks:=[Blk.row 26 5 (Row.gen [AV.agg (Row.gen [AV.int .i64 m,AV.int .i64 p,AV.int .i64 q,AV.int .i64 h,AV.int .i64 D])])] }),(3004,{ base:=0,blks:=[Blk.row 34 11 (Row.gen [AV.agg (Row.gen [AV.list (.ints .i64 mk),AV.int .i64 le,AV.int .i64 er,AV.int .i64 ve,AV.int .i64 fy,AV.int .i64 sl,AV.int .i64 g,AV.int .i64 t,AV.int .i64 s,AV.list (Row.big (.ints .i64) ds),AV.list (.ints .i64 op)])])] }),vK 3154 l6,(3252,{ base:=0,blks:=[Blk.row 59 4 (Row.big (.agg [.int .i64, .bool, .int .i64, .ints .i64]) x10)] })]
abbrev ZiS(m p q h D:Int)(mk:zI)(le er ve fy sl g t s:Int)(ds:List AV)(op:zI)(n3:Int)(l6:zI)(n9:Int)(x10:List AV)(n11:Int):List AFrame×Zaa:=(Zqn m p q h D mk le er ve fy sl g t s ds op n3 l6 n9 x10 n11,Zn1 m p q h D mk le er ve fy sl g t s ds op n3 l6 n9 x10 n11)
def ZyE(A:Ar)(K:KT)(F:FT)(m p q h D:Int)(mk:zI)(le er ve fy sl g t s:Int)(ds:List AV)(op:zI):Prop:=let u0:=A.add (A.int (A.len mk)) (cnI m D);rB [!A.not true] (bB (A.not (A.eq (lkE m p q h D) 0)) (F (AV.bool true) none) (bB (A.not (A.eq D 1)) (F (AV.bool true) none) (bB (A.not (A.eq (ruE mk le er ve fy sl) 0)) (F (AV.bool true) none) (bB (A.not (A.eq (rdE g t s) 0)) (F (AV.bool true) none) (bB (A.lt 3 (A.int (A.lenA ds))) (F (AV.bool true) none) (bB (A.lt 20 (A.int (A.len op))) (F (AV.bool true) none) (rB [A.inR .i64 u0,decide (lkE m p q h D=0)] (bB (A.not (A.eq le u0)) (F (AV.bool true) none) (K (Zr7 m p q h D mk le er ve fy sl g t s ds op 0 [] [] (cnI m D)))))))))))
theorem ZQi{A:Ar}{K:KT}{F:FT}{M:MT}{m p q h D:Int}{mk:zI}{le er ve fy sl g t s:Int}{ds:List AV}{op:zI} :Zah A tab Vl 3 K F M (.run 12 (.fy (.run 15 (.tf (.ty (.ty (.ty (.run 1 (.ty (.ty (.ty (.ty (.run 1 (.ty (.ty (.ty (.ty (.ty (.run 1 (.ty (.ty (.ty (.ty (.ty (.run 1 (.ty (.ty (.ty (.ty (.ty (.run 2 (.ty (.run 5 (.fn)))))))))))))))))))))))))))))) (.fy (.fy (.fy (.run 1 (.tf (.ty (.ty (.ty (.run 1 (.ty (.ty (.ty (.ty (.ty (.run 1 (.ty (.ty (.ty (.ty (.ty (.run 1 (.ty (.ty (.ty (.ty (.ty (.run 2 (.ty (.run 5 (.fn))))))))))))))))))))))))) (.fy (.fy (.fy (.run 1 (.tf (.ty (.ty (.ty (.ty (.run 1 (.ty (.ty (.ty (.ty (.ty (.run 1 (.ty (.ty (.ty (.ty (.ty (.run 2 (.ty (.run 5 (.fn)))))))))))))))))))) (.fy (.fy (.fy (.fy (.run 1 (.tf (.ty (.ty (.ty (.ty (.run 1 (.ty (.ty (.ty (.ty (.ty (.run 2 (.ty (.run 5 (.fn)))))))))))))) (.fy (.fy (.fy (.fy (.run 1 (.tf (.ty (.ty (.ty (.ty (.run 2 (.ty (.run 5 (.fn)))))))) (.fy (.fy (.fy (.fy (.run 2 (.tf (.run 5 (.fn)) (.run 20 (.tf (.run 5 (.fn)) (.run 19 (.hd)))))))))))))))))))))))))))))))))))) (f3e m p q h D mk le er ve fy sl g t s ds op) []=ZyE A K F m p q h D mk le er ve fy sl g t s ds op:=by kernel_rfl
def ZfO(A:Ar)(K:KT)(F:FT)(m p q h D:Int)(mk:zI)(le er ve fy sl g t s:Int)(ds:List AV)(op:zI)(n0:Int)(l1 l2:zI)(n3:Int):Prop:=let u2:=A.nat n0;let u0:=A.nthA ds u2;let u1:=A.lenA ds;let u3:=A.int (A.len (AV.toIs u0));bB (A.lt n0 (A.int u1)) (qB [A.not (A.eq u3 (daI h D)),decide (lkE m p q h D=0),Zac (Zac (A.le 0 n0) (Nat.blt u2 u1)) true] (F (AV.bool true) none) (rB [decide (List.length (AV.toIs u0)≤1000000),Zac (Zac (A.le 0 n0) (Nat.blt u2 u1)) true,!A.not (A.eq u3 (daI h D)),decide (lkE m p q h D=0),Zac (Zac (A.le 0 n0) (Nat.blt u2 u1)) true] (bB (A.not (A.eq (ZaF (AV.toIs u0) 0 15) 0)) (F (AV.bool true) none) (rB [decide (List.length (AV.toIs u0)≤1000000),decide (List.length (AV.toIs u0)≤1000000),Zac (Zac (A.le 0 n0) (Nat.blt u2 u1)) true] (bB (A.not (A.eq (snE m p q h D (AV.toIs u0)) 0)) False (bB (A.not (A.eq (A.int (A.len (snV m p q h D (AV.toIs u0)))) n3)) False (rB [decide (List.length (snV m p q h D (AV.toIs u0))≤1000000)] (bB (A.not (Zas (snV m p q h D (AV.toIs u0)))) False (rB [decide (rdE g t s=0∧sfF (List.map (fun x=>1-2*x) (snV m p q h D (AV.toIs u0)))=0),decide (Zas (snV m p q h D (AV.toIs u0))=true∧List.length (snV m p q h D (AV.toIs u0))≤1000000)] (rB [!A.not (A.eq 0 0)] (bB (A.not (A.eq (A.int (A.len (flL g t s (List.map (fun x=>1-2*x) (snV m p q h D (AV.toIs u0)))))) n3)) False (bB (A.not (A.eq (sfF (flL g t s (List.map (fun x=>1-2*x) (snV m p q h D (AV.toIs u0))))) 0)) False (rB [A.inR .i64 (A.add n0 1),Nat.ble (A.len l2+A.len [0]) 4294967296,List.all [AV.int .i64 0] fun x=>AV.bx x&&Nat.beq (Zad A x) 1,Nat.ble (A.len (A.app l1 (List.map (fun x=>1-2*x) mk))+A.len (flL g t s (List.map (fun x=>1-2*x) (snV m p q h D (AV.toIs u0))))) 4294967296,Nat.ble (A.len l1+A.len (List.map (fun x=>1-2*x) mk)) 4294967296,decide (Zas mk=true∧List.length mk≤1000000)] (K (Zr7 m p q h D mk le er ve fy sl g t s ds op (A.add n0 1) (A.app (A.app l1 (List.map (fun x=>1-2*x) mk)) (flL g t s (List.map (fun x=>1-2*x) (snV m p q h D (AV.toIs u0))))) (A.app l2 [0]) n3))))))))))))))) (rB [Zac (A.le 0 sl) (Nat.ble (A.len (A.app l1 (List.map (fun x=>1-2*x) mk))+A.nat sl) 4294967296),Nat.ble (A.len l1+A.len (List.map (fun x=>1-2*x) mk)) 4294967296,decide (Zas mk=true∧List.length mk≤1000000)] (K (Zfu m p q h D mk le er ve fy sl g t s ds op n3 (A.app (A.app l1 (List.map (fun x=>1-2*x) mk)) (A.rep (A.nat sl) 0)) 0 l2)))
theorem ZsG{A:Ar}{K:KT}{F:FT}{M:MT}{m p q h D:Int}{mk:zI}{le er ve fy sl g t s:Int}{ds:List AV}{op:zI}{n0:Int}{l1 l2:zI}{n3:Int} :Zah A tab Vl 3 K F M (.run 10 (.tf (.run 5 (.tf (.run 1 (.ty (.run 5 (.fn)))) (.run 1 (.tf (.run 5 (.fn)) (.run 10 (.tf (.ty (.ty (.ty (.ty (.run 1 (.ty (.ty (.ty (.ty (.run 2 (.ty (.run 5 (.no))))))))))))) (.fy (.fy (.fy (.fy (.run 1 (.tf (.ty (.ty (.ty (.run 2 (.ty (.run 5 (.no))))))) (.fy (.fy (.fy (.run 2 (.tf (.run 5 (.no)) (.run 10 (.fy (.fy (.fy (.fy (.fy (.run 1 (.tf (.ty (.ty (.ty (.run 2 (.ty (.run 5 (.no))))))) (.fy (.fy (.fy (.run 2 (.tf (.run 5 (.no)) (.run 27 (.hd)))))))))))))))))))))))))))))))) (.run 12 (.hd)))) (ZrH m p q h D mk le er ve fy sl g t s ds op n0 l1 l2 n3) (ZoK m p q h D mk le er ve fy sl g t s ds op n0 l1 l2 n3)=ZfO A K F m p q h D mk le er ve fy sl g t s ds op n0 l1 l2 n3:=by kernel_rfl
def Zdj(A:Ar)(K:KT)(F:FT)(m p q h D:Int)(mk:zI)(le er ve fy sl g t s:Int)(ds:List AV)(op:zI)(n3:Int)(l4:zI)(n5:Int)(l6:zI):Prop:=let u3:=A.add n5 1;let u2:=A.nat n5;let u6:=A.neg (A.nth l4 u2);let u0:=rB [A.inR .i64 u3] (K (Zfu m p q h D mk le er ve fy sl g t s ds op n3 (A.set l4 u2 u6) u3 l6));let u1:=A.quo n5 le;let u4:=A.nat u1;let u5:=A.len l6;let u7:=A.len l4;let u8:=A.add (A.int (A.lenA ds)) 1;let u9:=A.add (A.nth l6 u4) 1;bB (A.lt n5 (A.int u7)) (rB [decide (List.length op≤1000000)] (bB (decide (n5∈op)) (rB [Zac (A.not (A.eq le 0)) (A.inR .i64 u1),Zac (Nat.blt u2 u7) true,Zac (A.le 0 n5) (Nat.blt u2 u7),A.inR .i64 u6,Zac (Nat.blt u2 u7) true,Zac (A.le 0 n5) (Nat.blt u2 u7)] (qB [A.not (A.eq le 0),A.lt u1 (A.int u5)] (bB (A.le (A.int (A.len mk)) (A.rem n5 le)) (rB [A.inR .i64 u3,Zac (Nat.blt u4 u5) true,Zac (A.le 0 u1) (Nat.blt u4 u5),A.inR .i64 u9,Zac (Nat.blt u4 u5) true,Zac (A.le 0 u1) (Nat.blt u4 u5)] (K (Zfu m p q h D mk le er ve fy sl g t s ds op n3 (A.set l4 u2 u6) u3 (A.set l6 u4 u9)))) u0) (rB [!A.lt u1 (A.int u5)] u0))) (rB [A.inR .i64 u3] (K (Zfu m p q h D mk le er ve fy sl g t s ds op n3 l4 u3 l6))))) (rB [decide (ruE mk le er ve fy sl=0∧sfF l4=0),decide (List.length l4≤1000000),decide (List.length mk≤1000000)] (rB [!A.not (A.eq 0 0)] (rB [A.inR .i64 u8] (bB (A.not (A.eq (A.int (A.lenA (fnM mk er l4))) u8)) (F (AV.bool true) none) (K (ZsZ m p q h D mk le er ve fy sl g t s ds op n3 l4 l6 (fnM mk er l4) 0))))))
theorem Zsv{A:Ar}{K:KT}{F:FT}{M:MT}{m p q h D:Int}{mk:zI}{le er ve fy sl g t s:Int}{ds:List AV}{op:zI}{n3:Int}{l4:zI}{n5:Int}{l6:zI} :Zah A tab Vl 3 K F M (.run 9 (.tf (.run 10 (.tf (.run 22 (.tf (.run 1 (.tf (.run 19 (.hd)) (.run 9 (.hd)))) (.run 1 (.fy (.run 9 (.hd)))))) (.run 9 (.hd)))) (.run 21 (.fy (.run 13 (.tf (.run 5 (.fn)) (.run 9 (.hd)))))))) (ZqF m p q h D mk le er ve fy sl g t s ds op n3 l4 n5 l6) (ZoD m p q h D mk le er ve fy sl g t s ds op n3 l4 n5 l6)=Zdj A K F m p q h D mk le er ve fy sl g t s ds op n3 l4 n5 l6:=by kernel_rfl
def Zf1(A:Ar)(K:KT)(F:FT)(m p q h D:Int)(mk:zI)(le er ve fy sl g t s:Int)(ds:List AV)(op:zI)(n3:Int)(l4 l6:zI)(x7:List AV)(n8:Int):Prop:=let u0:=A.nat n8;let u1:=A.mul n8 le;let u2:=A.lenA x7;let u3:=A.nthA x7 u0;bB (A.lt n8 (A.int u2)) (qB [A.not (A.eq (u3.cellAt 1).toI u1),A.inR .i64 u1,Zac (Zac (A.le 0 n8) (Nat.blt u0 u2)) true] (F (AV.bool true) none) (rB [Zac (Zac (A.le 0 n8) (Nat.blt u0 u2)) true,!A.not (A.eq (u3.cellAt 1).toI u1),A.inR .i64 u1,Zac (Zac (A.le 0 n8) (Nat.blt u0 u2)) true] (bB (u3.cellAt 2).toB (F (AV.bool true) none) (rB [A.inR .i64 (A.add n8 1)] (K (ZsZ m p q h D mk le er ve fy sl g t s ds op n3 l4 l6 x7 (A.add n8 1))))))) (rB [decide (frG mk le er ve fy sl l4=true),decide (List.length l4≤1000000),decide (List.length mk≤1000000)] (rB [!A.not (A.eq 0 0)] (bB (A.not (A.eq (ZaI m p q) 0)) False (bB (A.not (A.eq (A.int (A.lenA (frL mk le sl l4))) (A.int (A.lenA ds)))) False (K (ZiS m p q h D mk le er ve fy sl g t s ds op n3 l6 (frI m p q) (frL mk le sl l4) 0))))))
theorem ZsF{A:Ar}{K:KT}{F:FT}{M:MT}{m p q h D:Int}{mk:zI}{le er ve fy sl g t s:Int}{ds:List AV}{op:zI}{n3:Int}{l4 l6:zI}{x7:List AV}{n8:Int} :Zah A tab Vl 3 K F M (.run 9 (.tf (.run 4 (.tf (.run 1 (.ty (.run 5 (.fn)))) (.run 1 (.tf (.run 5 (.fn)) (.run 9 (.hd)))))) (.run 33 (.fy (.fy (.fy (.run 1 (.tf (.ty (.ty (.ty (.ty (.ty (.ty (.run 2 (.ty (.run 5 (.no)))))))))) (.fy (.fy (.fy (.fy (.fy (.fy (.run 2 (.tf (.run 5 (.no)) (.run 9 (.hd)))))))))))))))))) (ZqO m p q h D mk le er ve fy sl g t s ds op n3 l4 l6 x7 n8) (ZoJ m p q h D mk le er ve fy sl g t s ds op n3 l4 l6 x7 n8)=Zf1 A K F m p q h D mk le er ve fy sl g t s ds op n3 l4 l6 x7 n8:=by kernel_rfl
def Zfv(A:Ar)(K:KT)(F:FT)(m p q h D:Int)(mk:zI)(le er ve fy sl g t s:Int)(ds:List AV)(op:zI)(n3:Int)(l6:zI)(n9:Int)(x10:List AV)(n11:Int):Prop:=let u2:=A.nat n11;let u0:=A.nthA x10 u2;let u1:=rB [A.inR .i64 (A.add n11 1)] (K (ZiS m p q h D mk le er ve fy sl g t s ds op n3 l6 n9 x10 (A.add n11 1)));let u3:=A.mul 2 (A.nth l6 u2);let u4:=A.len l6;let u5:=A.lenA x10;bB (A.lt n11 (A.int u5)) (rB [decide (rdE g t s=0∧sfF (u0.cellAt 3).toIs=0),decide (List.length (u0.cellAt 3).toIs≤1000000),Zac (Nat.blt u2 u5) true,Zac (A.le 0 n11) (Nat.blt u2 u5)] (rB [!A.not (A.eq 0 0)] (bB (A.not (A.eq (A.int (A.len (flL g t s (u0.cellAt 3).toIs))) n3)) False (rB [decide (List.length (flL g t s (u0.cellAt 3).toIs)≤1000000),decide (List.length (flL g t s (u0.cellAt 3).toIs)≤1000000)] (bB (A.not (A.eq (reE m p q h D (flL g t s (u0.cellAt 3).toIs)) 0)) (bB (A.not (A.eq (reE m p q h D (flL g t s (u0.cellAt 3).toIs)) 27)) False (rB [Zac (A.le 0 n11) (Nat.blt u2 u4)] (rB [Zac (Nat.blt u2 u4) true] (rB [A.inR .i64 u3] (bB (A.lt u3 n9) (rB [A.not (A.eq (reE m p q h D (flL g t s (u0.cellAt 3).toIs)) 0)] False) u1))))) (rB [Zac (A.le 0 n11) (Nat.blt u2 u4)] (rB [Zac (Nat.blt u2 u4) true] (rB [A.inR .i64 u3] (bB (A.lt u3 n9) (rB [!A.not (A.eq (reE m p q h D (flL g t s (u0.cellAt 3).toIs)) 0)] (rB [Zac (Zac (A.le 0 n11) (Nat.blt u2 (A.lenA ds))) true] (rB [decide (List.length (reV m p q h D (flL g t s (u0.cellAt 3).toIs))≤1000000)] (bB (A.not (decide (reV m p q h D (flL g t s (u0.cellAt 3).toIs)=AV.toIs (A.nthA ds u2)))) False u1)))) u1))))))))) (F (AV.bool true) none)
theorem Zsk{A:Ar}{K:KT}{F:FT}{M:MT}{m p q h D:Int}{mk:zI}{le er ve fy sl g t s:Int}{ds:List AV}{op:zI}{n3:Int}{l6:zI}{n9:Int}{x10:List AV}{n11:Int} :Zah A tab Vl 3 K F M (.run 9 (.tf (.run 12 (.fy (.fy (.fy (.fy (.fy (.run 2 (.tf (.run 5 (.no)) (.run 9 (.tf (.ty (.ty (.run 1 (.tf (.ty (.ty (.ty (.ty (.ty (.ty (.ty (.run 12 (.ty (.ty (.run 2 (.ty (.run 5 (.no)))))))))))))) (.fy (.fy (.fy (.fy (.fy (.fy (.fy (.tf (.ty (.ty (.ty (.ty (.ty (.ty (.ty (.ty (.ty (.ty (.alt [true,true] (.alt [false,true] (.fy (.run 2 (.ty (.run 5 (.no))))) (.no)) (.no)))))))))))) (.fy (.fy (.run 8 (.fy (.alt [false,false] (.fy (.run 2 (.fy (.run 9 (.hd))))) (.no)))))))))))))))))) (.fy (.fy (.run 1 (.fy (.fy (.fy (.fy (.fy (.fy (.fy (.fy (.tf (.ty (.ty (.fy (.fy (.fy (.fy (.fy (.fy (.fy (.fy (.alt [true,false] (.alt [false,true] (.fy (.run 2 (.tf (.run 5 (.no)) (.run 9 (.hd))))) (.no)) (.no)))))))))))) (.fy (.fy (.run 8 (.fy (.alt [false,false] (.fy (.run 2 (.fy (.run 9 (.hd))))) (.no)))))))))))))))))))))))))))) (.run 6 (.fn)))) (Zqn m p q h D mk le er ve fy sl g t s ds op n3 l6 n9 x10 n11) (Zn1 m p q h D mk le er ve fy sl g t s ds op n3 l6 n9 x10 n11)=Zfv A K F m p q h D mk le er ve fy sl g t s ds op n3 l6 n9 x10 n11:=by kernel_rfl
end Go.Proofs.YtjhldefnjghcdaaGreat
namespace Go.Proofs.YtjhldefnjghcdaaGreat
theorem ZrD{l:zI}{j:Nat}(h:j<l.length):l.getD j 0=l[j]:=by rw[List.getD_eq_getElem?_getD,List.getElem?_eq_getElem h];rfl
theorem ZtD{a b:zI}(hl:a.length=b.length)(h:∀j,j<a.length→a.getD j 0=b.getD j 0):a=b:=
 List.ext_getElem hl fun j h1 h2=>by rw[←ZrD h1,←ZrD h2];exact h j h1
theorem ZuW{l:zI}{R j:Nat}(h:j<l.length):(tS l R).getD j 0=tE l R j:=by simp[tS,h]
theorem ZvR{l:zI}{d k j:Nat}(hl:l.length=15*d)(hk:k<d)(hj:j<15):(paL 15 (tS l 15) k).getD j 0=l.getD (j*d+k) 0:=by
 rw[Zrw hj,ZuW (by rw[hl];omega)]
 unfold tE
 rw[hl,show 15*d/15=d by omega,show(k*15+j)%15=j by omega,show(k*15+j)/15=k by omega]
theorem ZCG(l:zI){R q:Nat}(h:q*R=l.length)(hR:0<R):tS (tS l R) q=l:=by
 have hq:l.length/R=q:=by rw[←h];exact Nat.mul_div_cancel q hR
 refine ZtD (by rw[Zdz,Zdz]) fun j h1=>?_
 rw[Zdz,Zdz]at h1
 have h4:0<q:=by
  rcases Nat.eq_zero_or_pos q with e |e
  ·rw[e]at h;omega
  ·exact e
 have h3:j/q<R:=(Nat.div_lt_iff_lt_mul h4).2 (by rw[Nat.mul_comm];omega)
 have hRq:l.length/q=R:=by rw[←h];exact Nat.mul_div_cancel_left R h4
 rw[ZuW (by rw[Zdz];exact h1)]
 unfold tE
 rw[Zdz,hRq]
 have hm:j%q<q:=Nat.mod_lt j h4
 have h5:j%q*R+j/q<l.length:=by
  have:=Nat.mul_le_mul_right R (show j%q+1≤q from hm)
  rw[Nat.add_mul,Nat.one_mul,h]at this;omega
 rw[ZuW h5]
 unfold tE
 rw[hq]
 have e2:(j%q*R+j/q)%R=j/q:=by rw[Nat.mul_comm,Nat.mul_add_mod];exact Nat.mod_eq_of_lt h3
 have e3:(j%q*R+j/q)/R=j%q:=by rw[Nat.mul_comm,Nat.mul_add_div hR,Nat.div_eq_of_lt h3];rfl
 rw[e2,e3,show j/q*q+j%q=j by rw[Nat.mul_comm];exact Nat.div_add_mod j q]
theorem ZLL{x:Int}(h:0≤x∧x≤15):nbI (b4L x) 0=x:=by
 obtain⟨k,rfl⟩:=Int.eq_ofNat_of_zero_le h.1
 exact(by decide:∀a:Fin 16,nbI (b4L (a.val:Int)) 0=(a.val:Int)) ⟨k,by omega⟩
theorem ZIz:∀(l:zI) (i:Nat),i<l.length→paL 4 (biL l) i=b4L (l.getD i 0)
 |[],_,h=>by simp at h
 |x::l,0,_=>by
  unfold paL
  rw[Nat.zero_mul,List.drop_zero,biL]
  rfl
 |x::l,i+1,h=>by
  have:=ZIz l i (by simpa using h)
  unfold paL at*
  rw[biL,show(i+1)*4=4+i*4 by omega,←List.drop_drop]
  have e:(b4L x++biL l).drop 4=biL l:=rfl
  rw[e,this];rfl
theorem ZvI{bs:zI}{k i:Nat}(h:i<k):(neL bs k).getD i 0=nbI (paL 4 bs i) 0:=by simp[neL,h]
theorem ZMU{l:zI}{k:Nat}(hr:ZaF l 0 15=0)(hk:l.length=k):neL (biL l) k=l:=by
 refine ZtD (by rw[Zd5,hk]) fun j h1=>?_
 rw[Zd5]at h1
 rw[ZvI h1,ZIz l j (by omega),ZLL (Znk hr (by omega) j)]
theorem ZE9:∀ {a b:zI},a.length=4→b.length=4→Zas a=true→Zas b=true→(nbI a 0=nbI b 0↔a=b)
 |[a0,a1,a2,a3],[c0,c1,c2,c3],_,_,ha,hb=>by
  have h0:a0=0∨a0=1:=ZbG ha 0
  have h1:a1=0∨a1=1:=ZbG ha 1
  have h2:a2=0∨a2=1:=ZbG ha 2
  have h3:a3=0∨a3=1:=ZbG ha 3
  have g0:c0=0∨c0=1:=ZbG hb 0
  have g1:c1=0∨c1=1:=ZbG hb 1
  have g2:c2=0∨c2=1:=ZbG hb 2
  have g3:c3=0∨c3=1:=ZbG hb 3
  simp only[nbI,List.cons.injEq,and_true]
  omega
theorem ZEY{h D:Int}{l:zI}{n d:Nat}(K:LnK h D l n d):∀(t:Nat),t≤d→∀k,k<t→paL 15 (woL h n l t) k=enW h (paL n l k)
 |0,_,_,hk=>by omega
 |t+1,ht,k,hk=>by
  obtain⟨a,_⟩:=K.wo t (by omega)
  unfold paL
  rw[woL]
  by_cases e:k=t
  ·subst e
   rw[show k*15=(woL h n l k).length by rw[a];omega,List.drop_left,List.take_of_length_le]
   ·rfl
   ·exact Nat.le_of_eq (K.en (by omega)).1
  ·have:=ZEY K t (by omega) k (by omega)
   unfold paL at this
   rw[List.drop_append_of_le_length (by rw[a];omega),List.take_append_of_le_length (by rw[List.length_drop,a];omega)]
   exact this
theorem ZN4{h:Int}{d:zI}(g:daB h d=true):(enW h d).take d.length=d:=by
 obtain⟨g1,g2,g3⟩:=ZpV g
 have hl:=(okw_iff.1 (ZvV g).1).1
 have hp:=Zju (ZiC (Zpn g)).2.2.2.1
 refine ZtD (by rw[List.length_take,hl];omega) fun i h1=>?_
 rw[List.length_take]at h1
 have e:=ZJZ (h:=h) (w:=Zqh d) hp (i:=i) (fun a=>by
  unfold erT at a
  obtain⟨k,_,hk⟩:=List.mem_map.1 a
  omega)
 have e2:(enW h d).getD i 0=(Zqh d).getD i 0:=e
 unfold Zqh at e2
 rw[Zof,if_pos (by omega)]at e2
 rw[List.getD_eq_getElem?_getD,List.getElem?_take,if_pos (by omega),←List.getD_eq_getElem?_getD]
 exact e2
def wgN(d:Nat)(a b:zI)(k:Nat):Nat:=((List.range 15).filter fun j=>decide (paL 4 a (j*d+k)≠paL 4 b (j*d+k))).length
def ZIg(d:Nat)(a b:zI):Nat→Nat
 |0=>0
 |k+1=>ZIg d a b k+wgN d a b k
theorem LnK.bs{h D:Int}{l:zI}{n d:Nat}(K:LnK h D l n d):(biL (mxL h n l d)).length=60*d∧Zas (biL (mxL h n l d))=true:=by
 obtain⟨a,b⟩:=K.mx
 exact⟨by rw[ZsH,a];omega,Zqm _ b⟩
section
variable {h D:Int}{l:zI}{n d:Nat}(K:LnK h D l n d){bb:zI}(hl:bb.length=60*d)(hb:Zas bb=true)
include K hl hb
theorem Zx1{k:Nat}(hk:k<d):Za9 (paL 15 (tS (neL bb (15*d)) 15) k) (enW h (paL n l k))=(wgN d bb (biL (mxL h n l d)) k:Int):=by
 obtain⟨a,b⟩:=K.mx
 obtain⟨c,e⟩:=K.bs
 obtain⟨w1,w2⟩:=K.wo d (Nat.le_refl _)
 have h1:=K.d1
 have back:tS (mxL h n l d) 15=woL h n l d:=ZCG _ (by rw[w1]) (by omega)
 rw[←ZEY K d (Nat.le_refl _) k hk,←back]
 have e0:neL (biL (mxL h n l d)) (15*d)=mxL h n l d:=ZMU b a
 rw[Zjq (Zcz (D:=d) (by rw[Zdz,Zd5];omega) hk) (Zcz (D:=d) (by rw[Zdz,a];omega) hk)]
 unfold dfL wgN
 congr 2
 refine List.filter_congr fun j hj=>?_
 have hj:=List.mem_range.1 hj
 have hjd:j*d+k<15*d:=by
  have:=Nat.mul_le_mul_right d (show j+1≤15 from hj)
  rw[Nat.add_mul,Nat.one_mul]at this;omega
 rw[ZvR (Zd5 _ _) hk hj,ZvR a hk hj,ZvI hjd]
 have e1:(mxL h n l d).getD (j*d+k) 0=nbI (paL 4 (biL (mxL h n l d)) (j*d+k)) 0:=by
  rw[←ZvI hjd,e0]
 rw[e1,decide_eq_decide]
 have:=ZE9 (Zcz (D:=15*d) (by omega) hjd) (Zcz (D:=15*d) (by omega) hjd) (Zow (n:=4) hb (j*d+k)) (Zow (n:=4) e (j*d+k))
 exact not_congr this
theorem ZCl:∀(k i:Nat),i+k=d→(∀j,i≤j→j<d→(wgN d bb (biL (mxL h n l d)) j:Int)≤h)→dlR h (tS (neL bb (15*d)) 15) n k i (l.take (i*n)) (ZIg d bb (biL (mxL h n l d)) i)=some (l,(ZIg d bb (biL (mxL h n l d)) d:Int)):=by
 intro k
 induction k with
 |zero=>
  intro i hi _
  have:i=d:=by omega
  subst this
  rw[dlR,List.take_of_length_le (by rw[K.hl];omega)]
 |succ k ih=>
  intro i hi hw
  have hid:i<d:=by omega
  have g:=K.da hid
  obtain⟨c1,c2⟩:=ZvV g
  have hr:=Zx1 K hl hb hid
  have hok:okw (paL 15 (tS (neL bb (15*d)) 15) i)=true:=okw_iff.2 ⟨Zcz (D:=d) (by rw[Zdz,Zd5];omega) hid,ZrS (Zxl (ZzI hb (by omega))) i⟩
  obtain⟨s1,s2⟩:=ZBS hok K.hb c1 c2 (by rw[hr];exact hw i (by omega) hid)
  obtain⟨_,_,s3,_⟩:=ZxA hok K.hb s1
  rw[dlR,if_pos s1,s2,s3,s2,hr]
  have e1:(enW h (paL n l i)).take n=paL n l i:=by
   have:=ZN4 g
   rwa[Zcz K.hl hid]at this
  have e2:l.take (i*n)++paL n l i=l.take ((i+1)*n):=by
   unfold paL
   rw[Nat.add_mul,Nat.one_mul,List.take_add]
  rw[e1,e2]
  have:=ih (i+1) (by omega) (fun j h1 h2=>hw j (by omega) h2)
  rw[ZIg,Int.natCast_add]at this
  exact this
end
theorem ZC6(d:Nat)(a:zI)(k:Nat):wgN d a a k=0:=by unfold wgN;simp
theorem ZIj{m p q h D:Int}{l:zI}{n d:Nat}(K:LnK h D l n d):(snL m p q h D l).length=2*(60*d+m.toNat):=by
 obtain⟨a,_⟩:=K.bs
 rw[K.sn,Zeq,a]
theorem Zvl{m p q h D:Int}{so x:zI}{z:Int}(g:Zx3 m p q h D so=true)(e:dlO m p q h D so=some (x,z)):reE m p q h D so=0∧reV m p q h D so=x∧reN m p q h D so=z:=by
 unfold Zx3 at g
 rw[Bool.and_eq_true,Bool.and_eq_true]at g
 obtain⟨g1,g2,g3⟩:=g
 have e0:reE m p q h D so=0:=by
  unfold reE
  rw[of_decide_eq_true g1,of_decide_eq_true g3,g2,e];rfl
 exact⟨e0,by unfold reV dlV;rw[if_pos e0,e],by unfold reN dlN;rw[if_pos e0,e]⟩
theorem ZAM{m p q h D:Int}{so:zI}(g:Zx3 m p q h D so=true)(e:dlO m p q h D so=none):reE m p q h D so=27∧reV m p q h D so=[]∧reN m p q h D so=0:=by
 unfold Zx3 at g
 rw[Bool.and_eq_true,Bool.and_eq_true]at g
 obtain⟨g1,g2,g3⟩:=g
 have e0:reE m p q h D so=27:=by
  unfold reE
  rw[of_decide_eq_true g1,of_decide_eq_true g3,g2,e];rfl
 exact⟨e0,by unfold reV;rw[if_neg (by rw[e0];decide)],by unfold reN;rw[if_neg (by rw[e0];decide)]⟩
end Go.Proofs.YtjhldefnjghcdaaGreat
namespace Go.Proofs.YtjhldefnjghcdaaGreat
section
variable (m p q:Int)(so:zI)
def ZeY:Nat→Nat→zI→Int
 |_,_,[]=>0
 |t,s,b::bs=>gnI m p q so t s b+ZeY (t+1) (nxS m s b).toNat bs
def ZiT:Nat→zI→Nat
 |s,[]=>s
 |s,b::bs=>ZiT (nxS m s b).toNat bs
def okW:Nat→zI→Prop
 |_,[]=>True
 |t,b::bs=>(b=0∨b=1∧t<ZbQ m so)∧okW (t+1) bs
end
theorem Zqs{m:Int}{so:zI} :∀ {a:zI} {t:Nat},Zas a=true→t+a.length≤ZbQ m so→okW m so t a
 |[],_,_,_=>trivial
 |b::a,t,h,hl=>by
  have h':(decide (b=0∨b=1)&&Zas a)=true:=h
  rw[Bool.and_eq_true]at h'
  have hb:=of_decide_eq_true h'.1
  simp only[List.length_cons]at hl
  exact⟨by omega,Zqs h'.2 (by omega)⟩
theorem ZsR{m:Int}{so:zI} :∀(n t:Nat),okW m so t (List.replicate n 0)
 |0,_=>trivial
 |n+1,t=>⟨Or.inl rfl,ZsR n (t+1)⟩
theorem Zu9{m:Int}{so:zI} :∀ {a b:zI} {t:Nat},okW m so t a→okW m so (t+a.length) b→okW m so t (a++b)
 |[],b,t,_,h=>by simpa using h
 |x::a,b,t,h1,h2=>by
  refine⟨h1.1,Zu9 h1.2 ?_⟩
  rw[show t+1+a.length=t+(x::a).length by simp;omega];exact h2
theorem ZCN{m:Int}{so:zI}{bs:zI}(h:Zas bs=true)(hl:bs.length=ZbQ m so):okW m so 0 (bs++List.replicate m.toNat 0):=
 Zu9 (Zqs h (by omega)) (ZsR _ _)
theorem ZAX{m p q:Int}{so:zI}{n s:Nat}(hs:s<stS m){b:Int}(hb:b=0∨b=1∧Zab so-1-n<ZbQ m so):gnI m p q so (Zab so-1-n) s b+(dpP m p q so n).getD (nxS m s b).toNat 0≤(dpP m p q so (n+1)).getD s 0:=by
 rw[Zoa m p q so hs,Zsy]
 unfold upP
 rcases hb with rfl |⟨rfl,hb⟩
 ·split<;>omega
 ·rw[if_pos hb];omega
section
variable {m p q:Int}{so:zI}(h:OkC m p q so)
include h
theorem Ztf:∀(bs:zI) (t s:Nat),s<stS m→Zas bs=true→ZxD so (2*t) (Zqi m p q s bs)=ZeY m p q so t s bs
 |[],_,_,_,_=>rfl
 |b::bs,t,s,hs,hb=>by
  have h':(decide (b=0∨b=1)&&Zas bs)=true:=hb
  rw[Bool.and_eq_true]at h'
  have hbb:=of_decide_eq_true h'.1
  obtain⟨s1,s2,s3⟩:=Zbk h hs hbb
  have i:=Ztf bs (t+1) (nxS m s b).toNat s3 h'.2
  rw[Int.toNat_of_nonneg s2]at i
  rw[Zqi,ZxD,ZxD,ZeY,←i,show 2*(t+1)=2*t+1+1 by omega,←Int.add_assoc,Zyv so t (ZdC m p s b) (ZdC m q s b)];rfl
theorem Zww:∀(bs:zI) (t s:Nat),s<stS m→okW m so t bs→ZiT m s bs<stS m
 |[],_,_,hs,_=>hs
 |b::bs,t,s,hs,hw=>Zww bs (t+1) _ (Zbk h hs (by have:=hw.1;omega)).2.2 hw.2
theorem Zxu:∀(bs:zI) (t s:Nat),s<stS m→okW m so t bs→t+bs.length≤Zab so→ZeY m p q so t s bs+(dpP m p q so (Zab so-(t+bs.length))).getD (ZiT m s bs) 0≤(dpP m p q so (Zab so-t)).getD s 0
 |[],t,s,_,_,_=>by simp[ZeY,ZiT]
 |b::bs,t,s,hs,hw,hl=>by
  simp only[List.length_cons]at hl
  have hb:=hw.1
  have i:=Zxu bs (t+1) (nxS m s b).toNat (Zbk h hs (by omega)).2.2 hw.2 (by omega)
  have d:=ZAX (m:=m) (p:=p) (q:=q) (so:=so) (n:=Zab so-(t+1)) (s:=s) (b:=b) hs (by rw[show Zab so-1-(Zab so-(t+1))=t by omega];exact hb)
  rw[show Zab so-1-(Zab so-(t+1))=t by omega,show Zab so-(t+1)+1=Zab so-t by omega]at d
  rw[show t+1+bs.length=t+(b::bs).length by simp;omega]at i
  rw[ZeY,ZiT]
  omega
end
theorem Zwr(m:Int)(s:Nat):(nxS m s 0).toNat=s/2:=by
 unfold nxS ZxF
 rw[Int.zero_mul,Int.zero_add];omega
theorem ZjE(m:Int):∀(n s:Nat),ZiT m s (List.replicate n 0)=s/2^n
 |0,s=>by simp[ZiT]
 |n+1,s=>by rw[List.replicate_succ,ZiT,ZjE m n,Zwr,Nat.div_div_eq_div_mul,Nat.pow_succ,Nat.mul_comm]
theorem Zsq(m:Int):∀(a b:zI) (s:Nat),ZiT m s (a++b)=ZiT m (ZiT m s a) b
 |[],_,_=>rfl
 |_::a,b,_=>Zsq m a b _
section
variable {m p q:Int}{so:zI}(h:OkC m p q so)
include h
theorem ZEv:stS m=2^m.toNat:=by
 have hm:=(Zan h.cv).1
 rcases hm with rfl |rfl |rfl<;>rfl
theorem Zr4{s:Nat}(hs:s<stS m):ZiT m s (List.replicate m.toNat 0)=0:=by
 rw[ZjE]
 rw[ZEv h]at hs
 exact Nat.div_eq_of_lt hs
theorem ZvA:ZbQ m so+m.toNat=Zab so∧Zab so≤303∧so.length=2*Zab so:=by
 have hm:=(Zan h.cv).1
 obtain⟨_,hl1,hl2,hl3⟩:=h.soft
 unfold ZbQ Zab;omega
theorem Zse{bs:zI}(hb:Zas bs=true):ZxD so 0 (Zb3 m p q bs)=ZeY m p q so 0 0 (bs++List.replicate m.toNat 0):=by
 have h2:=Zbe (Zan h.cv).1
 exact Ztf h (bs++List.replicate m.toNat 0) 0 0 (by omega) (Zdv hb (Zi3 _))
theorem Zov{bs:zI}(hb:Zas bs=true)(hl:bs.length=ZbQ m so):ZiT m 0 (bs++List.replicate m.toNat 0)=0:=by
 have h2:=Zbe (Zan h.cv).1
 rw[Zsq]
 exact Zr4 h (Zww h bs 0 0 (by omega) (Zqs hb (by omega)))
theorem ZIf{bs:zI}(hb:Zas bs=true)(hl:bs.length=ZbQ m so):ZxD so 0 (Zb3 m p q bs)≤bvI m p q so:=by
 have h2:=Zbe (Zan h.cv).1
 obtain⟨z1,z2,z3⟩:=ZvA h
 have i:=Zxu h (bs++List.replicate m.toNat 0) 0 0 (by omega) (ZCN hb hl) (by simp;omega)
 rw[Zov h hb hl,←Zse h hb,List.length_append,List.length_replicate,hl,Nat.zero_add,z1,Nat.sub_self,Zn9 m p q so (by omega),Nat.sub_zero,(Zog h).2]at i
 simpa using i
theorem Zu3:∀(n s:Nat),n≤m.toNat→s<stS m→s/2^n=0→(dpP m p q so n).getD s 0=ZeY m p q so (Zab so-n) s (List.replicate n 0)
 |0,s,_,hs,h0=>by
  rw[Zn9 m p q so hs,if_pos (by simpa using h0)];rfl
 |n+1,s,hn,hs,h0=>by
  obtain⟨z1,z2,z3⟩:=ZvA h
  obtain⟨s1,s2,s3⟩:=Zbk h hs (b:=0) (Or.inl rfl)
  have e:(nxS m s 0).toNat/2^n=0:=by rw[Zwr,Nat.div_div_eq_div_mul,Nat.mul_comm,←Nat.pow_succ];exact h0
  have i:=Zu3 n (nxS m s 0).toNat (by omega) s3 e
  have hb:=ZdN h (n:=n) (by omega) s3
  rw[Zoa m p q so hs,Zsy,if_neg (by omega),upP,List.replicate_succ,ZeY,i,show Zab so-1-n=Zab so-(n+1) by omega,show Zab so-(n+1)+1=Zab so-n by omega]
  have hm:=(Zan h.cv).1
  obtain⟨hg,_⟩:=h.soft
  have g:=Zgi (m:=m) (p:=p) (q:=q) hg (Zab so-(n+1)) s 0
  have lo: -14*(n:Int)≤ZeY m p q so (Zab so-n) (nxS m s 0).toNat (List.replicate n 0):=by
   have key:∀(bs:zI) (t s:Nat), -14*(bs.length:Int)≤ZeY m p q so t s bs:=by
    intro bs
    induction bs with
    |nil=>intro t s;simp[ZeY]
    |cons b bs ih=>
     intro t s
     have:=ih (t+1) (nxS m s b).toNat
     have g:=Zgi (m:=m) (p:=p) (q:=q) hg t s b
     rw[ZeY,List.length_cons];omega
   have:=key (List.replicate n 0) (Zab so-n) (nxS m s 0).toNat
   simpa using this
  omega
theorem Zw7:∀(j t s:Nat),t+j=ZbQ m so→s<stS m→ -14*((Zab so-t:Nat):Int)≤(dpR m p q so (Zab so-t)).getD s 0→
 ZeY m p q so t s (tbP m p q so j t s++List.replicate m.toNat 0)=(dpP m p q so (Zab so-t)).getD s 0∧Zas (tbP m p q so j t s)=true∧(tbP m p q so j t s).length=j
 |0,t,s,ht,hs,_=>by
  obtain⟨z1,z2,z3⟩:=ZvA h
  have e:Zab so-t=m.toNat:=by omega
  rw[e,Zu3 h m.toNat s (Nat.le_refl _) hs (by rw[←ZjE m];exact Zr4 h hs),show Zab so-m.toNat=t by omega]
  exact⟨rfl,rfl,rfl⟩
 |j+1,t,s,ht,hs,hw=>by
  obtain⟨hg,_⟩:=h.soft
  obtain⟨z1,z2,z3⟩:=ZvA h
  have hg0:=Zgi (m:=m) (p:=p) (q:=q) hg t s 0
  have hg1:=Zgi (m:=m) (p:=p) (q:=q) hg t s 1
  obtain⟨_,a2,a3⟩:=Zbk h hs (b:=0) (Or.inl rfl)
  obtain⟨_,b2,b3⟩:=Zbk h hs (b:=1) (Or.inr rfl)
  obtain⟨n,hn⟩:∃n,Zab so-t=n+1:=⟨Zab so-t-1,by omega⟩
  have hn1:Zab so-t-1=n:=by omega
  have w:=Zf9 h (n+1) (by omega) s hs
  have w0:=Zf9 h n (by omega) _ a3
  have w1:=Zf9 h n (by omega) _ b3
  have e0:=ZfW m p q so hs (n:=n)
  rw[show Zab so-1-n=t by omega,ZAC,if_pos (by omega),upR,upR]at e0
  have i0:=Zw7 j (t+1) (nxS m s 0).toNat (by omega) a3
  have i1:=Zw7 j (t+1) (nxS m s 1).toNat (by omega) b3
  rw[show Zab so-(t+1)=n by omega]at i0 i1
  rw[hn]at hw
  obtain⟨r1,r2,r3⟩:=Ztg (by omega) w w0 w1 hg0 hg1 hw e0
  rw[tbP,hn1,hn]
  by_cases hq:(dpR m p q so n).getD (nxS m s 0).toNat 0+gnI m p q so t s 0=(dpR m p q so (n+1)).getD s 0
  ·obtain⟨c1,c2,c3⟩:=i0 (r2 hq)
   rw[if_pos (r1.2 hq),List.cons_append,ZeY,c1]
   exact⟨by have:=r1.2 hq;omega,c2,by rw[List.length_cons,c3]⟩
  ·obtain⟨d1,d2⟩:=r3 hq
   obtain⟨c1,c2,c3⟩:=i1 d2
   rw[if_neg (fun e=>hq (r1.1 e)),if_pos d1,List.cons_append,ZeY,c1]
   exact⟨by omega,c2,by rw[List.length_cons,c3]⟩
theorem ZyZ:ZxD so 0 (Zb3 m p q (blI m p q so))=bvI m p q so∧Zas (blI m p q so)=true∧(blI m p q so).length=ZbQ m so:=by
 have h2:=Zbe (Zan h.cv).1
 have hz:=Zfa h (Zab so) (Nat.le_refl _)
 obtain⟨a,b,c⟩:=Zw7 h (ZbQ m so) 0 0 (by omega) (by omega) (by simpa using hz)
 obtain⟨d,e⟩:=Zog h
 rw[d]at a b c
 rw[Nat.sub_zero,e]at a
 exact⟨by rw[Zse h b,a],b,c⟩
end
end Go.Proofs.YtjhldefnjghcdaaGreat
namespace Go.Proofs.YtjhldefnjghcdaaGreat
def wgt(m p q:Int):Nat→zI→Int
 |_,[]=>0
 |s,b::bs=>wt m p q s b+wgt m p q (nxS m s b).toNat bs
theorem ZwK(m p q:Int):∀(bs:zI) (s:Nat),0≤wgt m p q s bs
 |[],_=>by simp[wgt]
 |b::bs,s=>by
  have h1:=ZwK m p q bs (nxS m s b).toNat
  have h2:=Zvz m p q s b
  rw[wgt];omega
def ZDD(m p q:Int):Bool:=
 match frP m p q with
 |(d,ws)=>decide (1≤d∧d≤100)&&(decide (ws.getD (nxS m 0 1).toNat 0≤wt m p q 0 1)&&(List.range (stS m)).all fun s=>s==0||[0,1].all fun b=>
  if nxS m s b=0 then decide (d≤ws.getD s 0+wt m p q s b)else decide (ws.getD (nxS m s b).toNat 0≤ws.getD s 0+wt m p q s b))
def ZOo:Bool:=(List.range 4).all fun m=>(List.range 16).all fun p=>(List.range 16).all fun q=>if ZaI m p q=0 then ZDD m p q else true
theorem ZC7:ZOo=true:=by kernel_rfl
theorem ZDA{m p q:Int}(h:ZaI m p q=0):ZDD m p q=true:=by
 obtain⟨hm,p1,p2,q1,q2,p3,q3⟩:=Zan h
 have h0:=ZC7
 obtain⟨M,rfl⟩:=Int.eq_ofNat_of_zero_le (show 0≤m by omega)
 obtain⟨P,rfl⟩:=Int.eq_ofNat_of_zero_le (show 0≤p by omega)
 obtain⟨Q,rfl⟩:=Int.eq_ofNat_of_zero_le (show 0≤q by omega)
 unfold ZOo at h0
 have h1:=List.all_eq_true.1 h0 M (List.mem_range.2 (by omega))
 have h2:=List.all_eq_true.1 h1 P (List.mem_range.2 (by omega))
 have h3:=List.all_eq_true.1 h2 Q (List.mem_range.2 (by omega))
 rwa[if_pos h]at h3
def xb(a b:Int):Int:=if a=b then 0 else 1
def ZOv:Bool:=(List.range 4).all fun m=>(List.range 16).all fun g=>(List.range 8).all fun s=>(List.range 8).all fun u=>[0,1].all fun a=>[0,1].all fun b=>
 if s<2^m∧u<2^m then decide (xb (oS m g s a) (oS m g u b)=oS m g ((s ^^^ u:Nat):Int) (xb a b))&&(nxS m ((s ^^^ u:Nat):Int) (xb a b)).toNat==(nxS m s a).toNat ^^^ (nxS m u b).toNat else true
theorem ZEs:ZOv=true:=by kernel_rfl
theorem ZAo{m g:Int}(hm:m=1∨m=2∨m=3)(hg:0≤g∧g≤15){s u:Nat}(hs:s<stS m)(hu:u<stS m){a b:Int}(ha:a=0∨a=1)(hb:b=0∨b=1):
 xb (oS m g s a) (oS m g u b)=oS m g ((s ^^^ u:Nat):Int) (xb a b)∧(nxS m ((s ^^^ u:Nat):Int) (xb a b)).toNat=(nxS m s a).toNat ^^^ (nxS m u b).toNat:=by
 have h2:=Zbe hm
 have hp:stS m=2^m.toNat:=by rcases hm with rfl |rfl |rfl<;>rfl
 have h0:=ZEs
 obtain⟨M,rfl⟩:=Int.eq_ofNat_of_zero_le (show 0≤m by omega)
 obtain⟨G,rfl⟩:=Int.eq_ofNat_of_zero_le hg.1
 unfold ZOv at h0
 have h1:=List.all_eq_true.1 h0 M (List.mem_range.2 (by omega))
 have h2:=List.all_eq_true.1 h1 G (List.mem_range.2 (by omega))
 have h3:=List.all_eq_true.1 h2 s (List.mem_range.2 (by omega))
 have h4:=List.all_eq_true.1 h3 u (List.mem_range.2 (by omega))
 have h5:=List.all_eq_true.1 h4 a (by rcases ha with rfl |rfl<;>simp)
 have h6:=List.all_eq_true.1 h5 b (by rcases hb with rfl |rfl<;>simp)
 rw[hp,Int.toNat_natCast]at hs hu
 rw[if_pos ⟨hs,hu⟩,Bool.and_eq_true,decide_eq_true_eq,beq_iff_eq]at h6
 exact h6
end Go.Proofs.YtjhldefnjghcdaaGreat
namespace Go.Proofs.YtjhldefnjghcdaaGreat
structure Free (m p q d:Int) (ws:zI):Prop where
 r:1≤d∧d≤100
 b:ws.getD (nxS m 0 1).toNat 0≤wt m p q 0 1
 z:∀(s:Nat) (b:Int),s<stS m→s≠0→(b=0∨b=1)→nxS m s b=0→d≤ws.getD s 0+wt m p q s b
 n:∀(s:Nat) (b:Int),s<stS m→s≠0→(b=0∨b=1)→nxS m s b≠0→ws.getD (nxS m s b).toNat 0≤ws.getD s 0+wt m p q s b
theorem ZAL{m p q:Int}(h:ZaI m p q=0):∃ws,Free m p q (frI m p q) ws:=by
 have g:=ZDA h
 unfold ZDD at g
 have e:frI m p q=(frP m p q).1:=by unfold frI;rw[if_pos h]
 rw[e]
 generalize frP m p q=x at g⊢
 obtain⟨d,ws⟩:=x
 simp only[Bool.and_eq_true,decide_eq_true_eq]at g
 obtain⟨g1,g2,g3⟩:=g
 have key:∀(s:Nat) (b:Int),s<stS m→s≠0→(b=0∨b=1)→(if nxS m s b=0 then decide (d≤ws.getD s 0+wt m p q s b)else decide (ws.getD (nxS m s b).toNat 0≤ws.getD s 0+wt m p q s b))=true:=fun s b hs h0 hb=>by
  have h1:=List.all_eq_true.1 g3 s (List.mem_range.2 hs)
  rw[Bool.or_eq_true]at h1
  rcases h1 with h1 |h1
  ·exact absurd (by simpa using h1) h0
  ·exact List.all_eq_true.1 h1 b (by rcases hb with rfl |rfl<;>simp)
 refine⟨ws,g1,g2,fun s b hs h0 hb hn=>?_,fun s b hs h0 hb hn=>?_⟩
 ·have:=key s b hs h0 hb;rw[if_pos hn]at this;exact of_decide_eq_true this
 ·have:=key s b hs h0 hb;rw[if_neg hn]at this;exact of_decide_eq_true this
theorem ZHu{m p q:Int}(hv:ZaI m p q=0):0<nxS m (0:Nat) 1:=by
 rcases(Zan hv).1 with rfl |rfl |rfl<;>decide
section
variable {m p q d:Int}{ws:zI}(hv:ZaI m p q=0)(hf:Free m p q d ws)
include hv hf
theorem Zs3:∀(bs:zI) (s:Nat),s<stS m→s≠0→Zas bs=true→ZiT m s bs=0→d≤ws.getD s 0+wgt m p q s bs
 |[],s,_,h0,_,he=>absurd he h0
 |b::bs,s,hs,h0,hb,he=>by
  have h':(decide (b=0∨b=1)&&Zas bs)=true:=hb
  rw[Bool.and_eq_true]at h'
  have hbb:=of_decide_eq_true h'.1
  have h2:=Zbe (Zan hv).1
  obtain⟨s1,s2,s3⟩:=ZrT hv (s:=s) (b:=b) (by omega) hbb
  rw[ZiT]at he
  rw[wgt]
  by_cases hz:nxS m s b=0
  ·have:=hf.z s b hs h0 hbb hz
   have:=ZwK m p q bs (nxS m s b).toNat
   omega
  ·have i:=Zs3 bs (nxS m s b).toNat (by omega) (by omega) h'.2 he
   have:=hf.n s b hs h0 hbb hz
   omega
theorem Zsc:∀(bs:zI),Zas bs=true→ZiT m 0 bs=0→(∃x∈bs,x=1)→d≤wgt m p q 0 bs
 |[],_,_,⟨x,hx,_⟩=>by cases hx
 |b::bs,hb,he,⟨x,hx,hx1⟩=>by
  have h':(decide (b=0∨b=1)&&Zas bs)=true:=hb
  rw[Bool.and_eq_true]at h'
  have hbb:=of_decide_eq_true h'.1
  have h2:=Zbe (Zan hv).1
  obtain⟨s1,s2,s3⟩:=ZrT hv (s:=(0:Nat)) (b:=b) (by omega) hbb
  rw[ZiT]at he
  rw[wgt]
  rcases hbb with rfl |rfl
  ·have e:(nxS m (0:Nat) 0).toNat=0:=Zu8 (Zan hv).1
   rw[e]at he⊢
   have hx':x∈bs:=by
    rcases List.mem_cons.1 hx with r |r
    ·omega
    ·exact r
   have i:=Zsc bs h'.2 he ⟨x,hx',hx1⟩
   have:=Zvz m p q (0:Nat) 0
   omega
  ·have h1:=ZHu hv
   have i:=Zs3 hv hf bs (nxS m (0:Nat) 1).toNat (by omega) (by omega) h'.2 he
   have:=hf.b
   have e:((0:Nat):Int)=0:=rfl
   rw[e]at i⊢
   omega
end
theorem ZLU(a b:Int):xb a b=0∨xb a b=1:=by unfold xb;split<;>simp
def ZxY:zI→zI→zI
 |a::u,b::v=>xb a b::ZxY u v
 |_,_=>[]
theorem ZoW:∀a b:zI,Zas (ZxY a b)=true
 |[],_=>rfl
 |_::_,[]=>rfl
 |x::a,y::b=>by
  have:=ZoW a b
  unfold Zas at*
  rw[ZxY,List.all_cons,this,Bool.and_true]
  exact decide_eq_true (ZLU x y)
theorem ZvK:∀ {a b:zI},a.length=b.length→a≠b→∃x∈ZxY a b,x=1
 |[],[],_,h=>absurd rfl h
 |[],_::_,h,_=>by simp at h
 |_::_,[],h,_=>by simp at h
 |x::a,y::b,hl,h=>by
  by_cases hxy:x=y
  ·subst hxy
   obtain⟨z,hz,h1⟩:=ZvK (a:=a) (b:=b) (by simpa using hl) (fun e=>h (by rw[e]))
   exact⟨z,List.mem_cons_of_mem _ hz,h1⟩
  ·exact⟨xb x y,List.mem_cons_self,by unfold xb;rw[if_neg hxy]⟩
section
variable {m p q:Int}(hv:ZaI m p q=0)
include hv
theorem Ztl:∀(a b:zI) (s u:Nat),a.length=b.length→Zas a=true→Zas b=true→s<stS m→u<stS m→
 Za9 (Zqi m p q s a) (Zqi m p q u b)=wgt m p q (s ^^^ u) (ZxY a b)∧ZiT m (s ^^^ u) (ZxY a b)=ZiT m s a ^^^ ZiT m u b
 |[],[],s,u,_,_,_,_,_=>by simp[Zqi,Za9,wgt,ZxY,ZiT]
 |[],_::_,_,_,h,_,_,_,_=>by simp at h
 |_::_,[],_,_,h,_,_,_,_=>by simp at h
 |x::a,y::b,s,u,hl,ha,hb,hs,hu=>by
  have ha':(decide (x=0∨x=1)&&Zas a)=true:=ha
  have hb':(decide (y=0∨y=1)&&Zas b)=true:=hb
  rw[Bool.and_eq_true]at ha' hb'
  have hx:=of_decide_eq_true ha'.1
  have hy:=of_decide_eq_true hb'.1
  obtain⟨hm,p1,p2,q1,q2,p3,q3⟩:=Zan hv
  have h2:=Zbe hm
  obtain⟨_,x2,x3⟩:=ZrT hv (s:=s) (b:=x) (by omega) hx
  obtain⟨_,y2,y3⟩:=ZrT hv (s:=u) (b:=y) (by omega) hy
  obtain⟨l1,l2⟩:=ZAo (g:=p) hm ⟨by omega,p3⟩ hs hu hx hy
  obtain⟨l3,_⟩:=ZAo (g:=q) hm ⟨by omega,q3⟩ hs hu hx hy
  obtain⟨i1,i2⟩:=Ztl a b (nxS m s x).toNat (nxS m u y).toNat (by simpa using hl) ha'.2 hb'.2 (by omega) (by omega)
  rw[Int.toNat_of_nonneg x2,Int.toNat_of_nonneg y2]at i1
  rw[←l2]at i1 i2
  rw[Zqi,Zqi,Za9,Za9,ZxY,wgt,ZiT,i1,ZiT,ZiT]
  refine⟨?_,i2⟩
  unfold wt
  rw[←l1,←l3]
  unfold xb
  omega
end
section
variable {m p q:Int}{so:zI}(h:OkC m p q so)
include h
theorem ZxM{a b:zI}(ha:Zas a=true)(hb:Zas b=true)(hla:a.length=ZbQ m so)(hlb:b.length=ZbQ m so)(hne:a≠b):frI m p q≤Za9 (Zb3 m p q a) (Zb3 m p q b):=by
 obtain⟨ws,hf⟩:=ZAL h.cv
 have h2:=Zbe (Zan h.cv).1
 obtain⟨d1,d2⟩:=Ztl h.cv (a++List.replicate m.toNat 0) (b++List.replicate m.toNat 0) 0 0 (by simp;omega) (Zdv ha (Zi3 _)) (Zdv hb (Zi3 _)) (by omega) (by omega)
 rw[Zov h ha hla,Zov h hb hlb]at d2
 have w:=Zsc h.cv hf (ZxY (a++List.replicate m.toNat 0) (b++List.replicate m.toNat 0)) (ZoW _ _) d2 (ZvK (by simp;omega) (fun e=>hne (List.append_cancel_right e)))
 unfold Zb3
 rw[show ((0:Nat):Int)=0 from rfl]at d1
 rw[d1];exact w
end
def spL(ats:zI)(sz:Int):Nat→zI→zI
 |_,[]=>[]
 |i,x::l=>(if (i:Int)∈ats then -(sz*(1-2*x))else sz*(1-2*x))::spL ats sz (i+1) l
def spN(ats:zI):Nat→zI→Int
 |_,[]=>0
 |i,_::l=>(if (i:Int)∈ats then 1 else 0)+spN ats (i+1) l
theorem Zkr(ats:zI)(sz:Int):∀(l:zI) (i:Nat),(spL ats sz i l).length=l.length
 |[],_=>rfl
 |x::l,i=>by rw[spL,List.length_cons,Zkr ats sz l,List.length_cons]
theorem Zwy(ats:zI):∀(l:zI) (i:Nat),0≤spN ats i l∧spN ats i l≤l.length
 |[],_=>by simp[spN]
 |x::l,i=>by
  have:=Zwy ats l (i+1)
  rw[spN,List.length_cons];split<;>omega
theorem Zq7(ats:zI){sz:Int}(hs:1≤sz∧sz≤7):∀(l:zI) (i:Nat),Zas l=true→(spL ats sz i l).all (fun x=>Zaf x (-7) 7)=true
 |[],_,_=>rfl
 |x::l,i,h=>by
  have h':(decide (x=0∨x=1)&&Zas l)=true:=h
  rw[Bool.and_eq_true]at h'
  have hx:=of_decide_eq_true h'.1
  rw[spL,List.all_cons,Zq7 ats hs l (i+1) h'.2,Bool.and_true]
  refine decide_eq_true ?_
  rcases hx with rfl |rfl<;>split<;>omega
def Zw2(ats:zI):Nat→zI→zI→Int
 |i,x::l,y::r=>(if (i:Int)∈ats then(if x=y then 1 else 0)else(if x=y then 0 else 1))+Zw2 ats (i+1) l r
 |_,_,_=>0
theorem ZzZ(ats:zI):∀(l r:zI) (i:Nat),Za9 l r-spN ats i l≤Zw2 ats i l r
 |[],_,_=>by simp[Za9,Zw2,spN]
 |x::l,[],i=>by
  have:=Zwy ats (x::l) i
  simp only[Za9,Zw2];omega
 |x::l,y::r,i=>by
  have:=ZzZ ats l r (i+1)
  rw[Za9,spN,Zw2]
  split<;>split<;>omega
theorem Zsn(ats:zI):∀(l:zI) (i:Nat),Zw2 ats i l l=spN ats i l
 |[],_=>rfl
 |x::l,i=>by rw[Zw2,spN,Zsn ats l (i+1)];simp
theorem ZqR(ats:zI)(sz:Int)(so:zI):∀(l r:zI) (i:Nat),l.length=r.length→Zas l=true→Zas r=true→so.drop i=spL ats sz i l→ZxD so i r=sz*(l.length-2*Zw2 ats i l r)
 |[],[],_,_,_,_,_=>by simp[ZxD,Zw2]
 |[],_::_,_,h,_,_,_=>by simp at h
 |_::_,[],_,h,_,_,_=>by simp at h
 |x::l,y::r,i,hl,ha,hb,hd=>by
  have ha':(decide (x=0∨x=1)&&Zas l)=true:=ha
  have hb':(decide (y=0∨y=1)&&Zas r)=true:=hb
  rw[Bool.and_eq_true]at ha' hb'
  have hx:=of_decide_eq_true ha'.1
  have hy:=of_decide_eq_true hb'.1
  rw[spL]at hd
  have hlt:i<so.length:=by
   by_cases hc:i<so.length
   ·exact hc
   ·rw[List.drop_of_length_le (by omega)]at hd;cases hd
  rw[ZdE hlt]at hd
  injection hd with e1 e2
  have ih:=ZqR ats sz so l r (i+1) (by simpa using hl) ha'.2 hb'.2 e2
  rw[ZxD,ih,Zw2,e1,List.length_cons]
  unfold coI
  generalize Zw2 ats (i+1) l r=D
  generalize hL:(l.length:Int)=L
  rw[Int.natCast_add,hL]
  have e3:sz*(L+((1:Nat):Int)-2*(1+D))=sz*(L-2*D)-sz:=by
   rw[show (L+((1:Nat):Int)-2*(1+D))=(L-2*D)-1 by omega,Int.mul_sub,Int.mul_one]
  have e4:sz*(L+((1:Nat):Int)-2*(0+D))=sz*(L-2*D)+sz:=by
   rw[show (L+((1:Nat):Int)-2*(0+D))=(L-2*D)+1 by omega,Int.mul_add,Int.mul_one]
  rcases hx with rfl |rfl<;>rcases hy with rfl |rfl<;>by_cases hi:(i:Int)∈ats<;>simp only[hi,if_false,if_pos,Int.reduceEq]<;>first |(rw [e3];omega) |(rw [e4];omega)
section
variable {m p q:Int}(hv:ZaI m p q=0){bs ats:zI}{sz:Int}(hl:bs.length≤300)(hs:1≤sz∧sz≤7)
include hv hl hs
theorem ZKV:OkC m p q (spL ats sz 0 (Zb3 m p q bs)):=by
 have hm:=(Zan hv).1
 have e:=Zkr ats sz (Zb3 m p q bs) 0
 have e2:=Zeq m p q bs
 refine⟨hv,?_⟩
 unfold sfE ZaF
 rw[if_neg (by omega),if_neg (by omega),if_pos (Zq7 ats hs (Zb3 m p q bs) 0 (ZbU m p q _ 0))]
theorem ZuS(hb:Zas bs=true)(hd:2*spN ats 0 (Zb3 m p q bs)<frI m p q):blI m p q (spL ats sz 0 (Zb3 m p q bs))=bs∧bvI m p q (spL ats sz 0 (Zb3 m p q bs))=sz*((Zb3 m p q bs).length-2*spN ats 0 (Zb3 m p q bs)):=by
 have ho:=ZKV hv hl hs (ats:=ats)
 have hm:=(Zan hv).1
 have e:=Zkr ats sz (Zb3 m p q bs) 0
 have e2:=Zeq m p q bs
 obtain⟨b1,b2,b3⟩:=ZyZ ho
 have hn:bs.length=ZbQ m (spL ats sz 0 (Zb3 m p q bs)):=by unfold ZbQ;omega
 have m1:=ZIf ho hb hn
 have s1:=ZqR ats sz (spL ats sz 0 (Zb3 m p q bs)) (Zb3 m p q bs) (Zb3 m p q bs) 0 rfl (ZbU m p q _ 0) (ZbU m p q _ 0) rfl
 rw[Zsn]at s1
 have hle:(Zb3 m p q (blI m p q (spL ats sz 0 (Zb3 m p q bs)))).length=(Zb3 m p q bs).length:=by rw[Zeq,Zeq,b3,hn]
 have s2:=ZqR ats sz (spL ats sz 0 (Zb3 m p q bs)) (Zb3 m p q bs) (Zb3 m p q (blI m p q (spL ats sz 0 (Zb3 m p q bs)))) 0 hle.symm (ZbU m p q _ 0) (ZbU m p q _ 0) rfl
 by_cases heq:blI m p q (spL ats sz 0 (Zb3 m p q bs))=bs
 ·refine⟨heq,?_⟩
  rw[←b1,heq,s1]
 ·exfalso
  have dm:=ZxM ho hb b2 hn b3 (fun x=>heq x.symm)
  have dg:=ZzZ ats (Zb3 m p q bs) (Zb3 m p q (blI m p q (spL ats sz 0 (Zb3 m p q bs)))) 0
  rw[s1]at m1
  rw[s2]at b1
  rw[←b1]at m1
  have:=Int.le_of_mul_le_mul_left m1 (by omega)
  omega
end
end Go.Proofs.YtjhldefnjghcdaaGreat
namespace Go.Proofs.YtjhldefnjghcdaaGreat
end Go.Proofs.YtjhldefnjghcdaaGreat
namespace Go.Proofs.YtjhldefnjghcdaaGreat
def ngL(op:zI):Nat→zI→zI
 |_,[]=>[]
 |i,x::l=>(if (i:Int)∈op then -x else x)::ngL op (i+1) l
theorem Zkq(op:zI):∀(l:zI) (i:Nat),(ngL op i l).length=l.length
 |[],_=>rfl
 |x::l,i=>by rw[ngL,List.length_cons,Zkq op l,List.length_cons]
theorem ZAy(op:zI):∀(a b:zI) (i:Nat),ngL op i (a++b)=ngL op i a++ngL op (i+a.length) b
 |[],b,i=>rfl
 |x::a,b,i=>by
  rw[List.cons_append,ngL,ngL,ZAy op a b,List.cons_append,List.length_cons,show i+1+a.length=i+(a.length+1) by omega]
theorem Zwo(op:zI):∀(n:Nat) (l:zI) (i:Nat),(ngL op i l).drop n=ngL op (i+n) (l.drop n)
 |0,_,_=>rfl
 |n+1,[],i=>rfl
 |n+1,x::l,i=>by rw[ngL,List.drop_succ_cons,List.drop_succ_cons,Zwo op n l,show i+1+n=i+(n+1) by omega]
theorem Zva(op:zI):∀(n:Nat) (l:zI) (i:Nat),(ngL op i l).take n=ngL op i (l.take n)
 |0,_,_=>rfl
 |n+1,[],i=>rfl
 |n+1,x::l,i=>by rw[ngL,List.take_succ_cons,List.take_succ_cons,ngL,Zva op n l]
theorem ZHp(g t:Int)(op:zI):∀(l:zI) (r:Int) (i:Nat),flL g t r (ngL op i (flL g t r l))=ngL op i l
 |[],_,_=>rfl
 |x::l,r,i=>by
  rw[flL,ngL,flL,ngL,ZHp g t op l]
  by_cases h1:std.bits .and .i64 r 1=1<;>by_cases h2:(i:Int)∈op<;>simp[h1,h2]
def shL(op:zI)(o:Nat):zI:=op.map fun x=>x-(o:Int)
theorem ZAi(op:zI)(o i:Nat):(i:Int)∈shL op o↔((o+i:Nat):Int)∈op:=by
 unfold shL
 rw[List.mem_map]
 constructor
 ·rintro⟨x,hx,e⟩
  have:x=((o+i:Nat):Int):=by omega
  rw[←this];exact hx
 ·intro h
  exact⟨_,h,by omega⟩
theorem ZGZ(op:zI)(o:Nat):∀(l:zI) (i:Nat),ngL op (o+i) (l.map fun x=>1-2*x)=spL (shL op o) 1 i l
 |[],_=>rfl
 |x::l,i=>by
  have h:=ZAi op o i
  rw[List.map_cons,ngL,spL,Int.one_mul,show o+i+1=o+(i+1) by omega,ZGZ op o l]
  by_cases hi:(i:Int)∈shL op o
  ·rw[if_pos hi,if_pos (h.1 hi)]
  ·rw[if_neg hi,if_neg (fun q=>hi (h.2 q))]
def ctN(op:zI):Nat→Nat→Nat
 |0,_=>0
 |k+1,i=>(if (i:Int)∈op then 1 else 0)+ctN op k (i+1)
theorem ZKZ(op:zI)(o:Nat):∀(l:zI) (i:Nat),spN (shL op o) i l=(ctN op l.length (o+i):Int)
 |[],_=>rfl
 |x::l,i=>by
  have h:=ZAi op o i
  rw[spN,List.length_cons,ctN,ZKZ op o l,show o+(i+1)=o+i+1 by omega]
  by_cases hi:(i:Int)∈shL op o
  ·rw[if_pos hi,if_pos (h.1 hi)];omega
  ·rw[if_neg hi,if_neg (fun q=>hi (h.2 q))];omega
theorem Zz8(op:zI):∀(a b i:Nat),ctN op (a+b) i=ctN op a i+ctN op b (i+a)
 |0,b,i=>by rw[Nat.zero_add,ctN,Nat.zero_add,Nat.add_zero]
 |a+1,b,i=>by
  rw[show a+1+b=(a+b)+1 by omega,ctN,ctN,Zz8 op a b,show i+1+a=i+(a+1) by omega]
  omega
theorem ZAn(mk:zI)(er:Int)(so:zI):∀(k a:Nat) (v:AV),v∈fnL mk er so k a→∃i iv w,v=mkA i iv w∧a≤i∧i<a+k∧(iv=false→wA so i mk≤er)
 |0,_,_,h=>by cases h
 |k+1,a,v,h=>by
  rw[fnL]at h
  have rest:v∈fnL mk er so k (a+1)→∃i iv w,v=mkA i iv w∧a≤i∧i<a+(k+1)∧(iv=false→wA so i mk≤er):=fun q=>by
   obtain⟨i,iv,w,e,h1,h2,h3⟩:=ZAn mk er so k (a+1) v q
   exact⟨i,iv,w,e,by omega,by omega,h3⟩
  split at h
  ·rename_i h1
   rcases List.mem_cons.1 h with q |q
   ·exact⟨a,false,_,q,by omega,by omega,fun _=>h1⟩
   ·exact rest q
  ·split at h
   ·rcases List.mem_cons.1 h with q |q
    ·exact⟨a,true,_,q,by omega,by omega,fun e=>by cases e⟩
    ·exact rest q
   ·exact rest h
end Go.Proofs.YtjhldefnjghcdaaGreat
namespace Go.Proofs.YtjhldefnjghcdaaGreat
theorem ZHw{m p q h D:Int}{d:zI}(h1:lkE m p q h D=0)(h2:(d.length:Int)=daI h D):d.length≤1000000:=by
 obtain⟨_,_,q1,q2,q3,q4⟩:=ZfY h1
 have b1:D*(15-2*h)≤4*13:=Int.mul_le_mul q4 (by omega) (by omega) (by omega)
 rw[Zsw]at h2
 omega
theorem Zpz{m p q h D:Int}{d:zI}(h1:lkE m p q h D=0)(h2:(d.length:Int)=daI h D)(h3:ZaF d 0 15=0):
 snE m p q h D d=0∧((snV m p q h D d).length:Int)=cnI m D∧Zas (snV m p q h D d)=true∧(snV m p q h D d).length≤1000:=by
 have hv:=(ZfY h1).1
 have hm:=(Zan hv).1
 have e0:snE m p q h D d=0:=by simp[snE,elE,Zaj,Zae,h1,h3,h2,Zsw]
 obtain⟨_,n,k,K⟩:=ZEg (ZBC e0)
 have ev:snV m p q h D d=Zb3 m p q (biL (mxL h n d k)):=by unfold snV;rw[if_pos e0,K.sn]
 have hl:=ZIj K (m:=m) (p:=p) (q:=q)
 rw[K.sn]at hl
 have hk:=K.d1
 have hD:=K.hd
 have hb:Zas (Zb3 m p q (biL (mxL h n d k)))=true:=ZbU m p q _ 0
 have hc:((Zb3 m p q (biL (mxL h n d k))).length:Int)=cnI m D:=by rw[ZlL];omega
 rw[ev]
 exact⟨e0,hc,hb,by omega⟩
theorem ZGW{m p q h D:Int}{d:zI}(h1:lkE m p q h D=0)(h2:(d.length:Int)=daI h D)(h3:ZaF d 0 15=0)(a:zI):
 (reE m p q h D (spL a 1 0 (snV m p q h D d))=0∨reE m p q h D (spL a 1 0 (snV m p q h D d))=27)∧
 (2*spN a 0 (snV m p q h D d)<frI m p q→reE m p q h D (spL a 1 0 (snV m p q h D d))=0∧reV m p q h D (spL a 1 0 (snV m p q h D d))=d):=by
 have hv:=(ZfY h1).1
 have hm:=(Zan hv).1
 have e0:snE m p q h D d=0:=by simp[snE,elE,Zaj,Zae,h1,h3,h2,Zsw]
 obtain⟨_,n,k,K⟩:=ZEg (ZBC e0)
 have ev:snV m p q h D d=Zb3 m p q (biL (mxL h n d k)):=by unfold snV;rw[if_pos e0,K.sn]
 rw[ev]
 have hk:=K.d1
 have hD:=K.hd
 have hz:(1:Int)≤1∧(1:Int)≤7:=by omega
 obtain⟨hbl,hbb⟩:=K.bs
 generalize hbs:biL (mxL h n d k)=bs at*
 have he:=Zeq m p q bs
 have hXb:Zas (Zb3 m p q bs)=true:=ZbU m p q _ 0
 have hsl:=Zkr a 1 (Zb3 m p q bs) 0
 have g:Zx3 m p q h D (spL a 1 0 (Zb3 m p q bs))=true:=by
  have hr:ZaF (spL a 1 0 (Zb3 m p q bs)) (-7) 7=0:=by
   unfold ZaF
   rw[if_pos (Zq7 a hz (Zb3 m p q bs) 0 hXb)]
  unfold Zx3
  rw[h1,hr]
  simp
  omega
 obtain⟨n',k',R⟩:=ZzJ g
 have e1:k'=k:=by have:=R.hd;omega
 have e2:n'=n:=by have:=R.hn;have:=K.hn;omega
 subst e1 e2
 have hRl:=R.bl
 have hRb:=R.bb
 refine⟨?_,fun hd=>?_⟩
 ·cases c:dlO m p q h D (spL a 1 0 (Zb3 m p q bs))with
  |none=>exact .inr (ZAM g c).1
  |some y=>
   obtain⟨y,w⟩:=y
   exact .inl (Zvl g c).1
 ·have w:=(ZuS hv (ats:=a) (by omega) hz hbb hd).1
  have:=ZCl K hRl hRb k' 0 (by omega) (fun j _ hj=>by
   rw[hbs,w,ZC6]
   have:=of_decide_eq_true K.hb
   omega)
  rw[hbs,Nat.zero_mul,List.take_zero,ZIg]at this
  have r:=Zvl g (R.dl.trans this)
  exact⟨r.1,r.2.1⟩
end Go.Proofs.YtjhldefnjghcdaaGreat
namespace Go.Proofs.YtjhldefnjghcdaaGreat
def P1(l:zI):Prop:=∀x∈l, -1≤x∧x≤1
theorem Zpk{a b:zI}(h1:P1 a)(h2:P1 b):P1 (a++b):=fun x h=>by
 rcases List.mem_append.1 h with q |q
 ·exact h1 x q
 ·exact h2 x q
theorem ZgK{l:zI}(h:Zas l=true):P1 (l.map fun x=>1-2*x):=fun x hx=>by
 obtain⟨y,hy,rfl⟩:=List.mem_map.1 hx
 have:=of_decide_eq_true (List.all_eq_true.1 h y hy)
 show -1≤1-2*y∧1-2*y≤1
 omega
theorem Zzk(g t:Int):∀ {l:zI} (r:Int),P1 l→P1 (flL g t r l)
 |[],_,_=>fun x h=>by cases h
 |y::l,r,h=>fun x hx=>by
  rw[flL]at hx
  have hy:=h y (List.mem_cons_self ..)
  rcases List.mem_cons.1 hx with q |q
  ·subst q;split<;>omega
  ·exact Zzk g t _ (fun z hz=>h z (List.mem_cons_of_mem _ hz)) x q
theorem ZyM(op:zI):∀ {l:zI} (i:Nat),P1 l→P1 (ngL op i l)
 |[],_,_=>fun x h=>by cases h
 |y::l,i,h=>fun x hx=>by
  rw[ngL]at hx
  have hy:=h y (List.mem_cons_self ..)
  rcases List.mem_cons.1 hx with q |q
  ·subst q;split<;>omega
  ·exact ZyM op _ (fun z hz=>h z (List.mem_cons_of_mem _ hz)) x q
theorem ZFJ(n:Nat):P1 (List.replicate n 0):=fun x h=>by
 have:=List.eq_of_mem_replicate h
 omega
theorem ZAI{l:zI}(n:Nat)(h:P1 l):P1 (l.take n):=fun x hx=>h x (List.mem_of_mem_take hx)
theorem ZB6{l:zI}(n:Nat)(h:P1 l):P1 (l.drop n):=fun x hx=>h x (List.mem_of_mem_drop hx)
theorem ZGF{l:zI}(h:P1 l):ZaF l (-7) 7=0:=by
 unfold ZaF
 rw[if_pos]
 rw[List.all_eq_true]
 intro x hx
 have:=h x hx
 exact decide_eq_true (by omega)
theorem Zyk{l:zI}(h:P1 l)(hl:l.length≤600):sfF l=0:=by
 unfold sfF
 rw[if_neg (by omega),ZGF h]
theorem ZHh{l:zI}(h:P1 l)(i:Nat): -1≤l.getD i 0∧l.getD i 0≤1:=by
 by_cases hi:i<l.length
 ·rw[ZrD hi];exact h _ (List.getElem_mem hi)
 ·rw[List.getD_eq_getElem?_getD,List.getElem?_eq_none (by omega)]
  show -1≤(0:Int)∧(0:Int)≤1
  omega
def bkL(m p q h D g t s:Int)(mk:zI)(d:AV):zI:=(mk.map fun x=>1-2*x)++flL g t s ((snV m p q h D d.toIs).map fun x=>1-2*x)
def stL(m p q h D g t s:Int)(mk:zI):List AV→zI
 |[]=>[]
 |d::ds=>bkL m p q h D g t s mk d++stL m p q h D g t s mk ds
def VD(h D:Int)(d:AV):Prop:=(d.toIs.length:Int)=daI h D∧ZaF d.toIs 0 15=0
theorem ZAt(m p q h D g t s:Int)(mk:zI):∀(a:List AV) (d:AV),stL m p q h D g t s mk (a++[d])=stL m p q h D g t s mk a++bkL m p q h D g t s mk d
 |[],d=>by rw[List.nil_append,stL,stL,stL,List.append_nil,List.nil_append]
 |x::a,d=>by rw[List.cons_append,stL,stL,ZAt m p q h D g t s mk a,List.append_assoc]
section
variable {m p q h D:Int}(g t s:Int){mk:zI}(h1:lkE m p q h D=0)
include h1
theorem ZzB{d:AV}(v:VD h D d):(bkL m p q h D g t s mk d).length=mk.length+(cnI m D).toNat:=by
 obtain⟨_,e,_,_⟩:=Zpz h1 v.1 v.2
 rw[bkL,List.length_append,List.length_map,ZpB,List.length_map]
 omega
theorem ZL7(hb:Zas mk=true){d:AV}(v:VD h D d):P1 (bkL m p q h D g t s mk d):=by
 obtain⟨_,_,e,_⟩:=Zpz h1 v.1 v.2
 exact Zpk (ZgK hb) (Zzk g t s (ZgK e))
theorem Znq:∀ {ds:List AV},(∀d∈ds,VD h D d)→(stL m p q h D g t s mk ds).length=ds.length*(mk.length+(cnI m D).toNat)
 |[],_=>by simp[stL]
 |d::ds,v=>by
  rw[stL,List.length_append,ZzB g t s h1 (v d (List.mem_cons_self ..)),Znq (fun x hx=>v x (List.mem_cons_of_mem _ hx)),List.length_cons,Nat.succ_mul]
  omega
theorem ZH5(hb:Zas mk=true):∀ {ds:List AV},(∀d∈ds,VD h D d)→P1 (stL m p q h D g t s mk ds)
 |[],_=>fun x hx=>by cases hx
 |d::ds,v=>by
  rw[stL]
  exact Zpk (ZL7 g t s h1 hb (v d (List.mem_cons_self ..))) (ZH5 hb (fun x hx=>v x (List.mem_cons_of_mem _ hx)))
theorem Zwq(tl:zI):∀ {ds:List AV} {i:Nat},(∀d∈ds,VD h D d)→i<ds.length→∃rest,(stL m p q h D g t s mk ds++tl).drop (i*(mk.length+(cnI m D).toNat))=bkL m p q h D g t s mk (ds.getD i .top)++rest
 |[],_,_,hi=>absurd hi (by simp)
 |d::ds,0,_,_=>⟨stL m p q h D g t s mk ds++tl,by rw[Nat.zero_mul,List.drop_zero,stL,List.append_assoc];rfl⟩
 |d::ds,i+1,v,hi=>by
  obtain⟨rest,e⟩:=Zwq tl (ds:=ds) (i:=i) (fun x hx=>v x (List.mem_cons_of_mem _ hx)) (by simpa using hi)
  refine⟨rest,?_⟩
  have L:=ZzB g t s (mk:=mk) h1 (v d (List.mem_cons_self ..))
  rw[stL,List.append_assoc,Nat.succ_mul,Nat.add_comm,←List.drop_drop,List.drop_left' L,e]
  rfl
theorem ZyY(tl:zI){ds:List AV}{i:Nat}(v:∀d∈ds,VD h D d)(hi:i<ds.length):((stL m p q h D g t s mk ds++tl).drop (i*(mk.length+(cnI m D).toNat)+mk.length)).take (cnI m D).toNat=flL g t s ((snV m p q h D (ds.getD i .top).toIs).map fun x=>1-2*x):=by
 obtain⟨rest,e⟩:=Zwq g t s h1 tl v hi
 have w:VD h D (ds.getD i .top):=by
  rw[List.getD_eq_getElem?_getD,List.getElem?_eq_getElem hi]
  exact v _ (List.getElem_mem hi)
 obtain⟨_,e2,_,_⟩:=Zpz h1 w.1 w.2
 have hl:(mk.map fun x:Int=>1-2*x).length=mk.length:=List.length_map ..
 rw[←List.drop_drop,e,bkL,List.append_assoc,←hl,List.drop_left, ]
 have hn:(cnI m D).toNat=(flL g t s ((snV m p q h D (ds.getD i .top).toIs).map fun x=>1-2*x)).length:=by
  rw[ZpB,List.length_map];omega
 rw[hn,List.take_left]
end
def twL(op T:zI)(i:Nat):zI:=ngL op 0 (T.take i)++T.drop i
theorem ZAP(op T:zI):twL op T 0=T:=rfl
theorem ZKz(op T:zI):twL op T T.length=ngL op 0 T:=by rw[twL,List.take_length,List.drop_length,List.append_nil]
theorem ZFO(op T:zI)(i:Nat):(twL op T i).length=T.length:=by
 rw[twL,List.length_append,Zkq,List.length_take,List.length_drop];omega
theorem ZNq{T:zI}(h:P1 T)(op:zI)(i:Nat):P1 (twL op T i):=Zpk (ZyM op 0 (ZAI i h)) (ZB6 i h)
theorem ZDm{op T:zI}{i:Nat}(hi:i<T.length):twL op T (i+1)=if(i:Int)∈op then(twL op T i).set i (-(twL op T i).getD i 0)else twL op T i:=by
 have hl:(ngL op 0 (T.take i)).length=i:=by rw[Zkq,List.length_take];omega
 have e1:twL op T i=ngL op 0 (T.take i)++T[i]::T.drop (i+1):=by rw[twL,List.drop_eq_getElem_cons hi]
 have e2:twL op T (i+1)=ngL op 0 (T.take i)++(if (i:Int)∈op then -T[i]else T[i])::T.drop (i+1):=by
  rw[twL,List.take_succ_eq_append_getElem hi,ZAy,List.length_take,show 0+min i T.length=i by omega,ngL,ngL,List.append_assoc]
  rfl
 have e3:(twL op T i).getD i 0=T[i]:=by
  rw[e1,List.getD_eq_getElem?_getD,List.getElem?_append_right (by omega),hl,Nat.sub_self]
  rfl
 rw[e3,e1,e2]
 split
 ·rw[List.set_append_right _ _ (by omega),hl,Nat.sub_self,List.set_cons_zero]
 ·rfl
theorem Zxb(op:zI)(o C i:Nat):ctN op (min (i+1-o) C) o=ctN op (min (i-o) C) o+if o≤i∧i<o+C∧(i:Int)∈op then 1 else 0:=by
 by_cases h:o≤i∧i<o+C
 ·have e1:min (i+1-o) C=(i-o)+1:=by omega
  have e2:min (i-o) C=i-o:=by omega
  have e3:o+(i-o)=i:=by omega
  rw[e1,e2,Zz8,e3,ctN,ctN]
  by_cases hm:(i:Int)∈op
  ·rw[if_pos hm,if_pos ⟨h.1,h.2,hm⟩]
  ·rw[if_neg hm,if_neg (fun q=>hm q.2.2)]
 ·have e1:min (i+1-o) C=min (i-o) C:=by omega
  rw[e1,if_neg (fun q=>h ⟨q.1,q.2.1⟩)]
  rfl
def cnL(op:zI)(M C N i:Nat):zI:=(List.range N).map fun j=>((ctN op (min (i-(j*(M+C)+M)) C) (j*(M+C)+M):Nat):Int)
theorem ZnF(op:zI)(M C N i:Nat):(cnL op M C N i).length=N:=by simp[cnL]
theorem Zin{op:zI}{M C N j:Nat}(i:Nat)(h:j<N):(cnL op M C N i).getD j 0=((ctN op (min (i-(j*(M+C)+M)) C) (j*(M+C)+M):Nat):Int):=by simp[cnL,h]
theorem ZCc(op:zI)(M C N:Nat):cnL op M C N 0=List.replicate N 0:=by
 refine ZtD (by simp[cnL]) fun j hj=>?_
 rw[ZnF]at hj
 rw[Zin 0 hj]
 simp[ctN,hj]
theorem ZIO(op:zI):∀(k i:Nat),ctN op k i≤k
 |0,_=>Nat.le_refl _
 |k+1,i=>by
  rw[ctN]
  have:=ZIO op k (i+1)
  split<;>omega
theorem ZBt{op:zI}{M C N i:Nat}(hM:0<M+C)(h:¬((i:Int)∈op∧i/(M+C)<N∧M≤i%(M+C))):cnL op M C N (i+1)=cnL op M C N i:=by
 refine ZtD (by simp[cnL]) fun j hj=>?_
 rw[ZnF]at hj
 rw[Zin _ hj,Zin _ hj,Zxb,if_neg,Nat.add_zero]
 rintro⟨q1,q2,q3⟩
 have e:i/(M+C)=j:=by
  rw[Nat.div_eq_of_lt_le]<;>first |omega |(rw [Nat.succ_mul];omega)
 have e2:=Nat.div_add_mod i (M+C)
 rw[e,Nat.mul_comm]at e2
 exact h ⟨q3,by omega,by omega⟩
theorem ZDz{op:zI}{M C N i:Nat}(hM:0<M+C)(h1:(i:Int)∈op)(h2:i/(M+C)<N)(h3:M≤i%(M+C)):cnL op M C N (i+1)=(cnL op M C N i).set (i/(M+C)) ((cnL op M C N i).getD (i/(M+C)) 0+1):=by
 have hlt:=Nat.mod_lt i hM
 have e2:=Nat.div_add_mod i (M+C)
 refine ZtD (by simp[cnL]) fun j hj=>?_
 rw[ZnF]at hj
 rw[Zin _ hj,Zxb]
 by_cases e:i/(M+C)=j
 ·subst e
  rw[List.getD_eq_getElem?_getD,List.getElem?_set_self (by rw[ZnF];exact h2),Option.getD_some,Zin _ h2]
  rw[Nat.mul_comm]at e2
  rw[if_pos ⟨by omega,by omega,h1⟩]
  rfl
 ·rw[List.getD_eq_getElem?_getD,List.getElem?_set_ne e,←List.getD_eq_getElem?_getD,Zin _ hj,if_neg,Nat.add_zero]
  rintro⟨q1,q2,_⟩
  apply e
  rw[Nat.div_eq_of_lt_le]<;>first |omega |(rw [Nat.succ_mul];omega)
end Go.Proofs.YtjhldefnjghcdaaGreat
