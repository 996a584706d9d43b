/- Paths of functions, printed by the explorer (Gx). No condition. -/
import Derived.Test.YtkeoeooghhjibaaGreatDoorQr
import Derived.KernelRfl
namespace Go.Proofs.YtkeoeooghhjibaaGreatDoor
variable {A:Ar}{K:KT}{F:FT}{M:MT}
set_option maxRecDepth 100000
set_option linter.unusedVariables false
def ZrV(ms ks rs l:zA)(wn fl at0 mo:Int)(dn:zA)(ha:Bool)(ba:Int)(to:Bool)(dw:zI)(up:zA)(en:Int):AFrame:=vF 49 208 [(0,vU ms ks rs l wn fl),(1,vS at0 mo dn ha ba to dw up),(2,AV.agg (vx [.int .i64 0, .int .i64 en]))] [.code a49.code] [ARes.cell 6 true 8,.tmp 7]
def ZHl(ms ks rs l:zA)(wn fl at0 mo:Int)(dn:zA)(ha:Bool)(ba:Int)(to:Bool)(dw:zI)(up:zA)(en:Int):List AFrame:=[(ZrV ms ks rs l wn fl at0 mo dn ha ba to dw up en)]
theorem Zrm(ms ks rs l:zA)(wn fl at0 mo:Int)(dn:zA)(ha:Bool)(ba:Int)(to:Bool)(dw:zI)(up:zA)(en:Int):Zam tab 49 [vU ms ks rs l wn fl,vS at0 mo dn ha ba to dw up,AV.agg (Row.gen [.int .i64 0, .int .i64 en])]=some (ZrV ms ks rs l wn fl at0 mo dn ha ba to dw up en):=rfl
def ZnH(A:Ar)(K:KT)(F:FT)(ms ks rs l:zA)(wn fl at0 mo:Int)(dn:zA)(ha:Bool)(ba:Int)(to:Bool)(dw:zI)(up:zA)(en:Int):Prop:=let u0:=A.sub 1000000000000 at0;rB [A.inR .i64 (A.sub (A.int (A.len dw)) 1),Nat.ble (0+A.lenA up) 4294967296,List.all [] fun x=>AV.bx x&&Nat.beq (Zac A x) 2,decide (List.length dw≤1000000),Nat.ble (0+A.lenA dn) 4294967296,List.all [] fun x=>AV.bx x&&Nat.beq (Zac A x) 2] (rB [!A.eq 0 3] (rB [!A.eq 0 5] (rB [A.eq 0 0] (rB [A.inR .i64 u0] (bB (A.lt u0 en) (F (AV.tup [AV.agg (Row.gen [.int .i64 0, .int .i64 0,AV.nils, .bool false, .int .i64 0, .bool false,AV.nils,AV.nils]),AV.int .i64 2]) none) (rB [A.inR .i64 (A.add at0 en)] (F (AV.tup [vS (A.add at0 en) mo dn ha ba to dw up,AV.int .i64 0]) none)))))))
theorem ZwT{ms ks rs l:zA}{wn fl at0 mo:Int}{dn:zA}{ha:Bool}{ba:Int}{to:Bool}{dw:zI}{up:zA}{en:Int} :Zaw A tab Bn 49 K F M (.run 83 (.fy (.fy (.fy (.fy (.run 2 (.fy (.run 8 (.fy (.fy (.fy (.run 2 (.fy (.run 13 (.ty (.run 9 (.tf (.run 7 (.fn)) (.run 17 (.fn))))))))))))))))))) (ZHl ms ks rs l wn fl at0 mo dn ha ba to dw up en) []=ZnH A K F ms ks rs l wn fl at0 mo dn ha ba to dw up en:=by kernel_rfl
def Zsh(ms ks rs l:zA)(wn fl at0 mo:Int)(dn:zA)(ha:Bool)(ba:Int)(to:Bool)(dw:zI)(up:zA)(en:Int):AFrame:=vF 49 208 [(0,vU ms ks rs l wn fl),(1,vS at0 mo dn ha ba to dw up),(2,AV.agg (vx [.int .i64 1, .int .i64 en]))] [.code a49.code] [ARes.cell 6 true 8,.tmp 7]
def ZDT(ms ks rs l:zA)(wn fl at0 mo:Int)(dn:zA)(ha:Bool)(ba:Int)(to:Bool)(dw:zI)(up:zA)(en:Int):List AFrame:=[(Zsh ms ks rs l wn fl at0 mo dn ha ba to dw up en)]
theorem Zrt(ms ks rs l:zA)(wn fl at0 mo:Int)(dn:zA)(ha:Bool)(ba:Int)(to:Bool)(dw:zI)(up:zA)(en:Int):Zam tab 49 [vU ms ks rs l wn fl,vS at0 mo dn ha ba to dw up,AV.agg (Row.gen [.int .i64 1, .int .i64 en])]=some (Zsh ms ks rs l wn fl at0 mo dn ha ba to dw up en):=rfl
def ZgT(A:Ar)(K:KT)(F:FT)(ms ks rs l:zA)(wn fl at0 mo:Int)(dn:zA)(ha:Bool)(ba:Int)(to:Bool)(dw:zI)(up:zA)(en:Int):Prop:=let u0:=A.add ba wn;let u1:=A.int (A.len dw);rB [A.inR .i64 (A.sub u1 1),Nat.ble (0+A.lenA up) 4294967296,List.all [] fun x=>AV.bx x&&Nat.beq (Zac A x) 2,decide (List.length dw≤1000000),Nat.ble (0+A.lenA dn) 4294967296,List.all [] fun x=>AV.bx x&&Nat.beq (Zac A x) 2] (rB [!A.eq 1 3] (rB [!A.eq 1 5] (rB [!A.eq 1 0] (rB [A.eq 1 1] (bB (A.le (A.int (A.lenA l)) en) (F (AV.tup [AV.agg (Row.gen [.int .i64 0, .int .i64 0,AV.nils, .bool false, .int .i64 0, .bool false,AV.nils,AV.nils]),AV.int .i64 6]) none) (bB to (F (AV.tup [AV.agg (Row.gen [.int .i64 0, .int .i64 0,AV.nils, .bool false, .int .i64 0, .bool false,AV.nils,AV.nils]),AV.int .i64 21]) none) (rB [A.inR .i64 (A.sub u0 1),A.inR .i64 u0] (bB (A.not (Zab en ba (A.sub u0 1))) (F (AV.tup [AV.agg (Row.gen [.int .i64 0, .int .i64 0,AV.nils, .bool false, .int .i64 0, .bool false,AV.nils,AV.nils]),AV.int .i64 26]) none) (bB (A.le fl u1) (F (AV.tup [AV.agg (Row.gen [.int .i64 0, .int .i64 0,AV.nils, .bool false, .int .i64 0, .bool false,AV.nils,AV.nils]),AV.int .i64 16]) none) (rB [Nat.ble (A.len dw+A.len [en]) 4294967296,List.all [AV.int .i64 en] fun x=>AV.bx x&&Nat.beq (Zac A x) 1] (F (AV.tup [vS at0 mo dn ha ba to (A.app dw [en]) up,AV.int .i64 0]) none)))))))))))
theorem ZxZ{ms ks rs l:zA}{wn fl at0 mo:Int}{dn:zA}{ha:Bool}{ba:Int}{to:Bool}{dw:zI}{up:zA}{en:Int} :Zaw A tab Bn 49 K F M (.run 83 (.fy (.fy (.fy (.fy (.run 2 (.fy (.run 8 (.fy (.fy (.fy (.run 2 (.fy (.run 13 (.fy (.run 5 (.ty (.run 9 (.tf (.run 7 (.fn)) (.run 7 (.tf (.run 7 (.fn)) (.run 17 (.tf (.run 7 (.fn)) (.run 11 (.tf (.run 7 (.fn)) (.run 18 (.fn))))))))))))))))))))))))))) (ZDT ms ks rs l wn fl at0 mo dn ha ba to dw up en) []=ZgT A K F ms ks rs l wn fl at0 mo dn ha ba to dw up en:=by kernel_rfl
def ZsG(ms ks rs l:zA)(wn fl at0 mo:Int)(dn:zA)(ha:Bool)(ba:Int)(to:Bool)(dw:zI)(up:zA)(en:Int):AFrame:=vF 49 208 [(0,vU ms ks rs l wn fl),(1,vS at0 mo dn ha ba to dw up),(2,AV.agg (vx [.int .i64 3, .int .i64 en]))] [.code a49.code] [ARes.cell 6 true 8,.tmp 7]
def ZFD(ms ks rs l:zA)(wn fl at0 mo:Int)(dn:zA)(ha:Bool)(ba:Int)(to:Bool)(dw:zI)(up:zA)(en:Int):List AFrame:=[(ZsG ms ks rs l wn fl at0 mo dn ha ba to dw up en)]
theorem Zq8(ms ks rs l:zA)(wn fl at0 mo:Int)(dn:zA)(ha:Bool)(ba:Int)(to:Bool)(dw:zI)(up:zA)(en:Int):Zam tab 49 [vU ms ks rs l wn fl,vS at0 mo dn ha ba to dw up,AV.agg (Row.gen [.int .i64 3, .int .i64 en])]=some (ZsG ms ks rs l wn fl at0 mo dn ha ba to dw up en):=rfl
def Zln(A:Ar)(K:KT)(F:FT)(ms ks rs l:zA)(wn fl at0 mo:Int)(dn:zA)(ha:Bool)(ba:Int)(to:Bool)(dw:zI)(up:zA)(en:Int):Prop:=let u4:=A.add en 1;let u8:=A.lenA up-A.nat u4;let u0:=A.subA up (A.nat u4) u8;let u3:=A.nat en-0+A.lenA u0;let u2:=A.lenA up;let u1:=A.appA (A.appA (A.subA up 0 (A.nat en-0)) u0) (A.subA up u3 u2);let u5:=A.nat en;let u6:=A.max ba ((A.nthA up u5).cellAt 0).toI;let u7:=A.sub (A.int u2) 1;rB [A.inR .i64 (A.sub (A.int (A.len dw)) 1),Nat.ble (0+A.lenA up) 4294967296,List.all [] fun x=>AV.bx x&&Nat.beq (Zac A x) 2,decide (List.length dw≤1000000),Nat.ble (0+A.lenA dn) 4294967296,List.all [] fun x=>AV.bx x&&Nat.beq (Zac A x) 2] (rB [A.eq 3 3] (rB [A.inR .i64 u7] (bB (A.not (Zab en 0 u7)) (F (AV.tup [AV.agg (Row.gen [.int .i64 0, .int .i64 0,AV.nils, .bool false, .int .i64 0, .bool false,AV.nils,AV.nils]),AV.int .i64 6]) none) (rB [!A.eq 3 0] (rB [!A.eq 3 1] (rB [!A.eq 3 2] (rB [A.eq 3 3] (rB [Zag (Nat.ble u3 (A.lenA u1)) true,Zag (Zag (Nat.ble (A.nat u4+u8) u2) true) (Zag (Nat.ble u3 u2) (Nat.blt 0 u2)),Zag (Zag (A.le 0 u4) true) (Zag (Zag (Nat.ble (A.nat u4) u2) (Nat.ble u2 u2)) true),A.inR .i64 u4,Zag (A.le 0 en) (Zag (Zag (Nat.ble 0 u5) (Nat.ble u5 u2)) true),Zag (Nat.blt u5 u2) true,Zag (A.le 0 en) (Nat.blt u5 u2)] (bB to (F (AV.tup [vS at0 mo dn ha u6 true dw (A.subA u1 0 u3),AV.int .i64 0]) none) (F (AV.tup [AV.agg (Row.gen [.int .i64 at0, .int .i64 mo, .list (Row.big (.agg [.int .i64, .int .i64]) dn), .bool ha, .int .i64 u6, .bool ((A.nthA up u5).cellAt 1).toB, .list (.ints .i64 dw), .list (Row.big (.agg [.int .i64, .bool]) (A.subA u1 0 u3))]),AV.int .i64 0]) none))))))))))
theorem ZBg{ms ks rs l:zA}{wn fl at0 mo:Int}{dn:zA}{ha:Bool}{ba:Int}{to:Bool}{dw:zI}{up:zA}{en:Int} :Zaw A tab Bn 49 K F M (.run 83 (.ty (.ty (.ty (.ty (.run 2 (.ty (.run 16 (.ty (.ty (.ty (.run 2 (.tf (.run 7 (.fn)) (.run 13 (.fy (.run 5 (.fy (.run 5 (.fy (.run 5 (.ty (.run 28 (.tf (.ty (.ty (.run 11 (.fn)))) (.fy (.fy (.run 11 (.fn))))))))))))))))))))))))))) (ZFD ms ks rs l wn fl at0 mo dn ha ba to dw up en) []=Zln A K F ms ks rs l wn fl at0 mo dn ha ba to dw up en:=by kernel_rfl
def Zsg(ms ks rs l:zA)(wn fl at0 mo:Int)(dn:zA)(ha:Bool)(ba:Int)(to:Bool)(dw:zI)(up:zA)(en:Int):AFrame:=vF 49 208 [(0,vU ms ks rs l wn fl),(1,vS at0 mo dn ha ba to dw up),(2,AV.agg (vx [.int .i64 4, .int .i64 en]))] [.code a49.code] [ARes.cell 6 true 8,.tmp 7]
def ZG5(ms ks rs l:zA)(wn fl at0 mo:Int)(dn:zA)(ha:Bool)(ba:Int)(to:Bool)(dw:zI)(up:zA)(en:Int):List AFrame:=[(Zsg ms ks rs l wn fl at0 mo dn ha ba to dw up en)]
theorem ZrW(ms ks rs l:zA)(wn fl at0 mo:Int)(dn:zA)(ha:Bool)(ba:Int)(to:Bool)(dw:zI)(up:zA)(en:Int):Zam tab 49 [vU ms ks rs l wn fl,vS at0 mo dn ha ba to dw up,AV.agg (Row.gen [.int .i64 4, .int .i64 en])]=some (Zsg ms ks rs l wn fl at0 mo dn ha ba to dw up en):=rfl
def Zn0(A:Ar)(K:KT)(F:FT)(ms ks rs l:zA)(wn fl at0 mo:Int)(dn:zA)(ha:Bool)(ba:Int)(to:Bool)(dw:zI)(up:zA)(en:Int):Prop:=let u3:=A.add en 1;let u6:=A.len dw-A.nat u3;let u0:=A.sub3 dw (A.nat u3) u6;let u4:=A.nat en-0+A.len u0;let u2:=A.len dw;let u1:=A.app (A.app (A.sub3 dw 0 (A.nat en-0)) u0) (A.sub3 dw u4 u2);let u5:=A.sub (A.int u2) 1;rB [A.inR .i64 u5,Nat.ble (0+A.lenA up) 4294967296,List.all [] fun x=>AV.bx x&&Nat.beq (Zac A x) 2,decide (List.length dw≤1000000),Nat.ble (0+A.lenA dn) 4294967296,List.all [] fun x=>AV.bx x&&Nat.beq (Zac A x) 2] (rB [!A.eq 4 3] (rB [!A.eq 4 5] (bB (A.not (Zab en 0 u5)) (F (AV.tup [AV.agg (Row.gen [.int .i64 0, .int .i64 0,AV.nils, .bool false, .int .i64 0, .bool false,AV.nils,AV.nils]),AV.int .i64 6]) none) (rB [!A.eq 4 0] (rB [!A.eq 4 1] (rB [!A.eq 4 2] (rB [!A.eq 4 3] (rB [A.eq 4 4] (rB [Zag (Nat.ble u4 (A.len u1)) true,Zag (Zag (Nat.ble (A.nat u3+u6) u2) true) (Zag (Nat.ble u4 u2) (Nat.blt 0 u2)),Zag (Zag (A.le 0 u3) true) (Zag (Zag (Nat.ble (A.nat u3) u2) (Nat.ble u2 u2)) true),A.inR .i64 u3,Zag (A.le 0 en) (Zag (Zag (Nat.ble 0 (A.nat en)) (Nat.ble (A.nat en) u2)) true)] (F (AV.tup [vS at0 mo dn ha ba to (A.sub3 u1 0 u4) up,AV.int .i64 0]) none))))))))))
theorem ZzF{ms ks rs l:zA}{wn fl at0 mo:Int}{dn:zA}{ha:Bool}{ba:Int}{to:Bool}{dw:zI}{up:zA}{en:Int} :Zaw A tab Bn 49 K F M (.run 83 (.fy (.fy (.fy (.fy (.run 2 (.fy (.run 8 (.ty (.ty (.ty (.run 2 (.tf (.run 7 (.fn)) (.run 13 (.fy (.run 5 (.fy (.run 5 (.fy (.run 5 (.fy (.run 5 (.ty (.run 9 (.fn))))))))))))))))))))))))) (ZG5 ms ks rs l wn fl at0 mo dn ha ba to dw up en) []=Zn0 A K F ms ks rs l wn fl at0 mo dn ha ba to dw up en:=by kernel_rfl
def ZsT(ms ks rs l:zA)(wn fl at0 mo:Int)(dn:zA)(ha:Bool)(ba:Int)(to:Bool)(dw:zI)(up:zA)(en:Int):AFrame:=vF 49 208 [(0,vU ms ks rs l wn fl),(1,vS at0 mo dn ha ba to dw up),(2,AV.agg (vx [.int .i64 5, .int .i64 en]))] [.code a49.code] [ARes.cell 6 true 8,.tmp 7]
def ZCz(ms ks rs l:zA)(wn fl at0 mo:Int)(dn:zA)(ha:Bool)(ba:Int)(to:Bool)(dw:zI)(up:zA)(en:Int):List AFrame:=[(ZsT ms ks rs l wn fl at0 mo dn ha ba to dw up en)]
theorem ZqV(ms ks rs l:zA)(wn fl at0 mo:Int)(dn:zA)(ha:Bool)(ba:Int)(to:Bool)(dw:zI)(up:zA)(en:Int):Zam tab 49 [vU ms ks rs l wn fl,vS at0 mo dn ha ba to dw up,AV.agg (Row.gen [.int .i64 5, .int .i64 en])]=some (ZsT ms ks rs l wn fl at0 mo dn ha ba to dw up en):=rfl
def Zm2(A:Ar)(K:KT)(F:FT)(ms ks rs l:zA)(wn fl at0 mo:Int)(dn:zA)(ha:Bool)(ba:Int)(to:Bool)(dw:zI)(up:zA)(en:Int):Prop:=let u4:=A.add en 1;let u6:=A.lenA up-A.nat u4;let u0:=A.subA up (A.nat u4) u6;let u3:=A.nat en-0+A.lenA u0;let u2:=A.lenA up;let u1:=A.appA (A.appA (A.subA up 0 (A.nat en-0)) u0) (A.subA up u3 u2);let u5:=A.sub (A.int u2) 1;rB [A.inR .i64 (A.sub (A.int (A.len dw)) 1),Nat.ble (0+A.lenA up) 4294967296,List.all [] fun x=>AV.bx x&&Nat.beq (Zac A x) 2,decide (List.length dw≤1000000),Nat.ble (0+A.lenA dn) 4294967296,List.all [] fun x=>AV.bx x&&Nat.beq (Zac A x) 2] (rB [!A.eq 5 3] (rB [A.eq 5 5] (rB [A.inR .i64 u5] (bB (A.not (Zab en 0 u5)) (F (AV.tup [AV.agg (Row.gen [.int .i64 0, .int .i64 0,AV.nils, .bool false, .int .i64 0, .bool false,AV.nils,AV.nils]),AV.int .i64 6]) none) (rB [!A.eq 5 0] (rB [!A.eq 5 1] (rB [!A.eq 5 2] (rB [!A.eq 5 3] (rB [!A.eq 5 4] (rB [A.eq 5 5] (rB [Zag (Nat.ble u3 (A.lenA u1)) true,Zag (Zag (Nat.ble (A.nat u4+u6) u2) true) (Zag (Nat.ble u3 u2) (Nat.blt 0 u2)),Zag (Zag (A.le 0 u4) true) (Zag (Zag (Nat.ble (A.nat u4) u2) (Nat.ble u2 u2)) true),A.inR .i64 u4,Zag (A.le 0 en) (Zag (Zag (Nat.ble 0 (A.nat en)) (Nat.ble (A.nat en) u2)) true)] (F (AV.tup [vS at0 mo dn ha ba to dw (A.subA u1 0 u3),AV.int .i64 0]) none))))))))))))
theorem ZzH{ms ks rs l:zA}{wn fl at0 mo:Int}{dn:zA}{ha:Bool}{ba:Int}{to:Bool}{dw:zI}{up:zA}{en:Int} :Zaw A tab Bn 49 K F M (.run 83 (.fy (.fy (.fy (.fy (.run 2 (.ty (.run 16 (.ty (.ty (.ty (.run 2 (.tf (.run 7 (.fn)) (.run 13 (.fy (.run 5 (.fy (.run 5 (.fy (.run 5 (.fy (.run 5 (.fy (.run 5 (.ty (.run 9 (.fn))))))))))))))))))))))))))) (ZCz ms ks rs l wn fl at0 mo dn ha ba to dw up en) []=Zm2 A K F ms ks rs l wn fl at0 mo dn ha ba to dw up en:=by kernel_rfl
def ZsL(ms ks rs l:zA)(wn fl at0 mo:Int)(dn:zA)(ha:Bool)(ba:Int)(to:Bool)(dw:zI)(up:zA)(en:Int):AFrame:=vF 49 208 [(0,vU ms ks rs l wn fl),(1,vS at0 mo dn ha ba to dw up),(2,AV.agg (vx [.int .i64 6, .int .i64 en]))] [.code a49.code] [ARes.cell 6 true 8,.tmp 7]
def ZCs(ms ks rs l:zA)(wn fl at0 mo:Int)(dn:zA)(ha:Bool)(ba:Int)(to:Bool)(dw:zI)(up:zA)(en:Int):List AFrame:=[(ZsL ms ks rs l wn fl at0 mo dn ha ba to dw up en)]
theorem Zq3(ms ks rs l:zA)(wn fl at0 mo:Int)(dn:zA)(ha:Bool)(ba:Int)(to:Bool)(dw:zI)(up:zA)(en:Int):Zam tab 49 [vU ms ks rs l wn fl,vS at0 mo dn ha ba to dw up,AV.agg (Row.gen [.int .i64 6, .int .i64 en])]=some (ZsL ms ks rs l wn fl at0 mo dn ha ba to dw up en):=rfl
def ZkI(A:Ar)(K:KT)(F:FT)(ms ks rs l:zA)(wn fl at0 mo:Int)(dn:zA)(ha:Bool)(ba:Int)(to:Bool)(dw:zI)(up:zA)(en:Int):Prop:=let u0:=A.len dw;let u1:=A.nat en;let u2:=A.sub (A.int u0) 1;rB [A.inR .i64 u2,Nat.ble (0+A.lenA up) 4294967296,List.all [] fun x=>AV.bx x&&Nat.beq (Zac A x) 2,decide (List.length dw≤1000000),Nat.ble (0+A.lenA dn) 4294967296,List.all [] fun x=>AV.bx x&&Nat.beq (Zac A x) 2] (rB [!A.eq 6 3] (rB [!A.eq 6 5] (bB (A.not (Zab en 0 u2)) (F (AV.tup [AV.agg (Row.gen [.int .i64 0, .int .i64 0,AV.nils, .bool false, .int .i64 0, .bool false,AV.nils,AV.nils]),AV.int .i64 6]) none) (rB [!A.eq 6 0] (rB [!A.eq 6 1] (rB [!A.eq 6 2] (rB [!A.eq 6 3] (rB [!A.eq 6 4] (rB [!A.eq 6 5] (rB [A.eq 6 6] (bB (A.le fl (A.int u0)) (F (AV.tup [AV.agg (Row.gen [.int .i64 0, .int .i64 0,AV.nils, .bool false, .int .i64 0, .bool false,AV.nils,AV.nils]),AV.int .i64 16]) none) (rB [Nat.ble (A.len dw+A.len [A.nth dw u1]) 4294967296,List.all [AV.int .i64 (A.nth dw u1)] fun x=>AV.bx x&&Nat.beq (Zac A x) 1,Zag (Nat.blt u1 u0) true,Zag (A.le 0 en) (Nat.blt u1 u0)] (F (AV.tup [vS at0 mo dn ha ba to (A.app dw [A.nth dw u1]) up,AV.int .i64 0]) none)))))))))))))
theorem ZzP{ms ks rs l:zA}{wn fl at0 mo:Int}{dn:zA}{ha:Bool}{ba:Int}{to:Bool}{dw:zI}{up:zA}{en:Int} :Zaw A tab Bn 49 K F M (.run 83 (.fy (.fy (.fy (.fy (.run 2 (.fy (.run 8 (.ty (.ty (.ty (.run 2 (.tf (.run 7 (.fn)) (.run 13 (.fy (.run 5 (.fy (.run 5 (.fy (.run 5 (.fy (.run 5 (.fy (.run 5 (.fy (.run 5 (.ty (.run 10 (.tf (.run 7 (.fn)) (.run 27 (.fn))))))))))))))))))))))))))))))) (ZCs ms ks rs l wn fl at0 mo dn ha ba to dw up en) []=ZkI A K F ms ks rs l wn fl at0 mo dn ha ba to dw up en:=by kernel_rfl
def Zrp(ms ks rs l:zA)(wn fl at0 mo:Int)(dn:zA)(ha:Bool)(ba:Int)(to:Bool)(dw:zI)(up:zA)(en:Int):AFrame:=vF 49 208 [(0,vU ms ks rs l wn fl),(1,vS at0 mo dn ha ba to dw up),(2,AV.agg (vx [.int .i64 7, .int .i64 en]))] [.code a49.code] [ARes.cell 6 true 8,.tmp 7]
def ZGD(ms ks rs l:zA)(wn fl at0 mo:Int)(dn:zA)(ha:Bool)(ba:Int)(to:Bool)(dw:zI)(up:zA)(en:Int):List AFrame:=[(Zrp ms ks rs l wn fl at0 mo dn ha ba to dw up en)]
theorem ZsJ(ms ks rs l:zA)(wn fl at0 mo:Int)(dn:zA)(ha:Bool)(ba:Int)(to:Bool)(dw:zI)(up:zA)(en:Int):Zam tab 49 [vU ms ks rs l wn fl,vS at0 mo dn ha ba to dw up,AV.agg (Row.gen [.int .i64 7, .int .i64 en])]=some (Zrp ms ks rs l wn fl at0 mo dn ha ba to dw up en):=rfl
def Zrx(A:Ar)(K:KT)(F:FT)(ms ks rs l:zA)(wn fl at0 mo:Int)(dn:zA)(ha:Bool)(ba:Int)(to:Bool)(dw:zI)(up:zA)(en:Int):Prop:=rB [A.inR .i64 (A.sub (A.int (A.len dw)) 1),Nat.ble (0+A.lenA up) 4294967296,List.all [] fun x=>AV.bx x&&Nat.beq (Zac A x) 2,decide (List.length dw≤1000000),Nat.ble (0+A.lenA dn) 4294967296,List.all [] fun x=>AV.bx x&&Nat.beq (Zac A x) 2] (rB [!A.eq 7 3] (rB [!A.eq 7 5] (rB [!A.eq 7 0] (rB [!A.eq 7 1] (rB [!A.eq 7 2] (rB [!A.eq 7 3] (rB [!A.eq 7 4] (rB [!A.eq 7 5] (rB [!A.eq 7 6] (rB [A.eq 7 7] (F (AV.tup [vS at0 mo dn ha 0 false dw up,AV.int .i64 0]) none)))))))))))
theorem Zxy{ms ks rs l:zA}{wn fl at0 mo:Int}{dn:zA}{ha:Bool}{ba:Int}{to:Bool}{dw:zI}{up:zA}{en:Int} :Zaw A tab Bn 49 K F M (.run 83 (.fy (.fy (.fy (.fy (.run 2 (.fy (.run 8 (.fy (.fy (.fy (.run 2 (.fy (.run 13 (.fy (.run 5 (.fy (.run 5 (.fy (.run 5 (.fy (.run 5 (.fy (.run 5 (.fy (.run 5 (.fy (.run 5 (.ty (.run 14 (.fn))))))))))))))))))))))))))))))) (ZGD ms ks rs l wn fl at0 mo dn ha ba to dw up en) []=Zrx A K F ms ks rs l wn fl at0 mo dn ha ba to dw up en:=by kernel_rfl
def Ztq(ms ks rs l:zA)(wn fl at0 mo:Int)(dn:zA)(ha:Bool)(ba:Int)(to:Bool)(dw:zI)(up:zA)(en:Int):AFrame:=vF 49 208 [(0,vU ms ks rs l wn fl),(1,vS at0 mo dn ha ba to dw up),(2,AV.agg (vx [.int .i64 8, .int .i64 en]))] [.code a49.code] [ARes.cell 6 true 8,.tmp 7]
def ZGe(ms ks rs l:zA)(wn fl at0 mo:Int)(dn:zA)(ha:Bool)(ba:Int)(to:Bool)(dw:zI)(up:zA)(en:Int):List AFrame:=[(Ztq ms ks rs l wn fl at0 mo dn ha ba to dw up en)]
theorem ZsX(ms ks rs l:zA)(wn fl at0 mo:Int)(dn:zA)(ha:Bool)(ba:Int)(to:Bool)(dw:zI)(up:zA)(en:Int):Zam tab 49 [vU ms ks rs l wn fl,vS at0 mo dn ha ba to dw up,AV.agg (Row.gen [.int .i64 8, .int .i64 en])]=some (Ztq ms ks rs l wn fl at0 mo dn ha ba to dw up en):=rfl
def ZnR(A:Ar)(K:KT)(F:FT)(ms ks rs l:zA)(wn fl at0 mo:Int)(dn:zA)(ha:Bool)(ba:Int)(to:Bool)(dw:zI)(up:zA)(en:Int):Prop:=let u0:=A.int (A.lenA dn);rB [A.inR .i64 (A.sub (A.int (A.len dw)) 1),Nat.ble (0+A.lenA up) 4294967296,List.all [] fun x=>AV.bx x&&Nat.beq (Zac A x) 2,decide (List.length dw≤1000000),Nat.ble (0+A.lenA dn) 4294967296,List.all [] fun x=>AV.bx x&&Nat.beq (Zac A x) 2] (rB [!A.eq 8 3] (rB [!A.eq 8 5] (rB [!A.eq 8 0] (rB [!A.eq 8 1] (rB [!A.eq 8 2] (rB [!A.eq 8 3] (rB [!A.eq 8 4] (rB [!A.eq 8 5] (rB [!A.eq 8 6] (rB [!A.eq 8 7] (rB [A.eq 8 8] (bB (A.lt (A.int (A.lenA up)) fl) (rB [Nat.ble (A.lenA up+A.lenA [AV.agg (Row.gen [.int .i64 u0, .bool ha])]) 4294967296,List.all [AV.agg (Row.gen [.int .i64 u0, .bool ha])] fun x=>AV.bx x&&Nat.beq (Zac A x) 2] (F (AV.tup [vS at0 mo dn ha ba to dw (A.appA up [AV.agg (Row.gen [AV.int .i64 u0,AV.bool ha])]),AV.int .i64 0]) none)) (F (AV.tup [vS at0 mo dn ha ba to dw up,AV.int .i64 0]) none)))))))))))))
theorem ZwZ{ms ks rs l:zA}{wn fl at0 mo:Int}{dn:zA}{ha:Bool}{ba:Int}{to:Bool}{dw:zI}{up:zA}{en:Int} :Zaw A tab Bn 49 K F M (.run 83 (.fy (.fy (.fy (.fy (.run 2 (.fy (.run 8 (.fy (.fy (.fy (.run 2 (.fy (.run 13 (.fy (.run 5 (.fy (.run 5 (.fy (.run 5 (.fy (.run 5 (.fy (.run 5 (.fy (.run 5 (.fy (.run 5 (.fy (.run 5 (.ty (.run 20 (.tf (.run 31 (.fn)) (.run 18 (.fn))))))))))))))))))))))))))))))))))) (ZGe ms ks rs l wn fl at0 mo dn ha ba to dw up en) []=ZnR A K F ms ks rs l wn fl at0 mo dn ha ba to dw up en:=by kernel_rfl
end Go.Proofs.YtkeoeooghhjibaaGreatDoor
namespace Go.Proofs.YtkeoeooghhjibaaGreatDoor
variable {A:Ar}{K:KT}{F:FT}{M:MT}
def st0:ST:=⟨0,0,[],false,0,false,[],[]⟩
def ZcM(ks rs l:zA)(wn fl:Int)(s:ST)(k n:Int):ST:=if ZaT l wn fl s k n=0 then appS ks rs l fl s k n else st0
structure OkA (ms ks rs l:zA) (wn fl:Int) (s:ST) (k n:Int):Prop where
 u:upE ms ks rs l wn fl=0
 s:stE ks rs l fl s.t s.mo s.dn s.ha s.ba s.to s.dw s.up=0
 e:evE k n=0
theorem ev0{n:Int}(h:evE 0 n=0):1≤n∧n≤1000000000000:=by
 unfold evE at h
 rw[if_pos (by decide),if_pos rfl]at h
 exact within_iff.1 (ZaE h (by decide))
theorem ev1{n:Int}(h:evE 1 n=0):0≤n∧n≤11:=by
 unfold evE at h
 rw[if_pos (by decide),if_neg (by decide),if_pos rfl]at h
 exact within_iff.1 (ZaE h (by decide))
theorem ZrG{k n:Int}(hk:2≤k∧k≤6)(h:evE k n=0):0≤n∧n≤5:=by
 unfold evE at h
 rw[if_pos (within_iff.2 (by omega)),if_neg (by omega),if_neg (by omega),if_pos (within_iff.2 hk)]at h
 exact within_iff.1 (ZaE h (by decide))
theorem ZLV(x:Int):Wk (.tup [.agg (.gen [.int .i64 0, .int .i64 0, .nils, .bool false, .int .i64 0, .bool false, .nils, .nils]), .int .i64 x]) (.tup [.agg (.gen [.int .i64 (st0).t, .int .i64 (st0).mo, .list (.big (.agg [.int .i64, .int .i64]) (st0).dn), .bool (st0).ha, .int .i64 (st0).ba, .bool (st0).to, .list (.ints .i64 (st0).dw), .list (.big (.agg [.int .i64, .bool]) (st0).up)]), .int .i64 x]):=Wk.tup' ⟨Wk.agg' ⟨.same _, .same _, .nil _ rfl, .same _, .same _, .same _, .nil _ rfl, .nil _ rfl,trivial⟩, .same _,trivial⟩
def Zhd(s:ST)(e:Int):AV:=.tup [.agg (.gen [.int .i64 (s).t, .int .i64 (s).mo, .list (.big (.agg [.int .i64, .int .i64]) (s).dn), .bool (s).ha, .int .i64 (s).ba, .bool (s).to, .list (.ints .i64 (s).dw), .list (.big (.agg [.int .i64, .bool]) (s).up)]), .int .i64 e]
theorem ZaU{ks rs l:zA}{wn fl:Int}{s:ST}{k n e:Int}(h:ZaT l wn fl s k n=e)(he:e≠0):Wk (.tup [.agg (.gen [.int .i64 0, .int .i64 0, .nils, .bool false, .int .i64 0, .bool false, .nils, .nils]), .int .i64 e]) (Zhd (ZcM ks rs l wn fl s k n) (ZaT l wn fl s k n)):=by
 unfold ZcM
 rw[h,if_neg he]
 exact ZLV e
theorem ZaG{ks rs l:zA}{wn fl:Int}{s s':ST}{k n:Int}(h:ZaT l wn fl s k n=0)(hs:appS ks rs l fl s k n=s'):Wk (Zhd s' 0) (Zhd (ZcM ks rs l wn fl s k n) (ZaT l wn fl s k n)):=by
 unfold ZcM
 rw[h,if_pos rfl,hs]
 exact .same _
theorem Zo6{α:Type}(xs:List α)(n:Int)(h0:0≤n)(h:n<xs.length):(n+1).toNat=n.toNat+1∧n.toNat<xs.length:=by omega
theorem ZuR{α:Type}(xs:List α)(n:Nat)(h:n<xs.length):(xs.take n++((xs.drop (n+1)).take (xs.length-(n+1))++(xs.drop (n+(xs.length-(n+1)))).take xs.length)).take (n+(xs.length-(n+1)))=xs.take n++xs.drop (n+1):=by
 rw[←List.append_assoc,List.take_of_length_le (l:=xs.drop (n+1)) (by simp),List.take_append_of_le_length (by simp;omega),List.take_of_length_le (by simp;omega)]
theorem Zfm(a:Int)(b:Bool):Row.len std (.gen [.int .i64 a, .bool b])=2:=rfl
theorem ZbU(a b:Int):Row.len std (.gen [.int .i64 a, .int .i64 b])=2:=rfl
theorem Zdi{ms ks rs l:zA}{wn fl at0 mo:Int}{dn:zA}{ha:Bool}{ba:Int}{to:Bool}{dw:zI}{up:zA}{k en:Int}(h:OkA ms ks rs l wn fl ⟨at0,mo,dn,ha,ba,to,dw,up⟩ k en):
 (l.length≤12∧dn.length≤l.length)∧(dw.length:Int)≤fl∧(up.length:Int)≤fl∧(1≤wn∧wn≤6)∧fl≤6∧(0≤at0∧at0≤1000000000000)∧(0≤ba∧ba≤dn.length)∧ks.length≤8:=by
 obtain⟨hf,hw,hfl⟩:=Zcr h.u
 have hs:=vs_iff.1 h.s
 exact⟨⟨hf.l1.2,hs.len.1⟩,hs.len.2.1,hs.len.2.2,hw,hfl.2,hs.t,hs.base,hf.ks1.2⟩
section
variable (ms ks rs l:zA)(wn fl:Int)(at0 mo:Int)(dn:zA)(ha:Bool)(ba:Int)(to:Bool)(dw:zI)(up:zA)(en:Int)
theorem ZIy(h:OkA ms ks rs l wn fl ⟨at0,mo,dn,ha,ba,to,dw,up⟩ 0 en):Zan Tryz.prog 49 [vU ms ks rs l wn fl, (vS at0 mo dn ha ba to dw up), .agg (.gen [.int .i64 0, .int .i64 en])] (Zhd (ZcM ks rs l wn fl ⟨at0,mo,dn,ha,ba,to,dw,up⟩ 0 en) (ZaT l wn fl ⟨at0,mo,dn,ha,ba,to,dw,up⟩ 0 en)) none:=
 Zd4 (Zrm ms ks rs l wn fl at0 mo dn ha ba to dw up en) fun C hC=>ZeE hC Za4 ZwT (by
  obtain⟨g0,g1,g2,g3,g4,g5,g6,g7⟩:=Zdi h
  have hv:=ev0 h.e
  by_cases h1:1000000000000-at0<en
  ·have hr:=ZaU (ks:=ks) (rs:=rs) (l:=l) (wn:=wn) (fl:=fl) (s:=⟨at0,mo,dn,ha,ba,to,dw,up⟩) (k:=0) (n:=en) (e:=2) (by simp[ZaT,h1]) (by decide)
   simp[ZnH,h1]
   exact⟨by omega,by omega,hr⟩
  ·have hr:=ZaG (ks:=ks) (rs:=rs) (l:=l) (wn:=wn) (fl:=fl) (s:=⟨at0,mo,dn,ha,ba,to,dw,up⟩) (k:=0) (n:=en) (by simp[ZaT,h1]) rfl
   simp[ZnH,h1]
   exact⟨by omega,by omega,by omega,hr⟩)
theorem ZKf(h:OkA ms ks rs l wn fl ⟨at0,mo,dn,ha,ba,to,dw,up⟩ 1 en):Zan Tryz.prog 49 [vU ms ks rs l wn fl, (vS at0 mo dn ha ba to dw up), .agg (.gen [.int .i64 1, .int .i64 en])] (Zhd (ZcM ks rs l wn fl ⟨at0,mo,dn,ha,ba,to,dw,up⟩ 1 en) (ZaT l wn fl ⟨at0,mo,dn,ha,ba,to,dw,up⟩ 1 en)) none:=
 Zd4 (Zrt ms ks rs l wn fl at0 mo dn ha ba to dw up en) fun C hC=>ZeE hC Za4 ZxZ (by
  obtain⟨g0,g1,g2,g3,g4,g5,g6,g7⟩:=Zdi h
  have hv:=ev1 h.e
  by_cases h1:(l.length:Int)≤en
  ·have hr:=ZaU (ks:=ks) (rs:=rs) (l:=l) (wn:=wn) (fl:=fl) (s:=⟨at0,mo,dn,ha,ba,to,dw,up⟩) (k:=1) (n:=en) (e:=6) (by simp[ZaT,Int.not_lt.2 h1]) (by decide)
   simp[ZgT,h1]
   exact⟨by omega,hr⟩
  ·have h1n:en<l.length:=by omega
   cases to
   ·by_cases h2:Zab en ba (ba+wn-1)=true
    ·by_cases h3:fl≤(dw.length:Int)
     ·have hr:=ZaU (ks:=ks) (rs:=rs) (l:=l) (wn:=wn) (fl:=fl) (s:=⟨at0,mo,dn,ha,ba,false,dw,up⟩) (k:=1) (n:=en) (e:=16) (by simp[ZaT,h1n,h2,Int.not_lt.2 h3]) (by decide)
      simp[ZgT,h1,h2,h3]
      exact⟨by omega,by omega,hr⟩
     ·have hr:=ZaG (ks:=ks) (rs:=rs) (l:=l) (wn:=wn) (fl:=fl) (s:=⟨at0,mo,dn,ha,ba,false,dw,up⟩) (k:=1) (n:=en) (by simp[ZaT,h1n,h2,Int.not_le.1 h3]) rfl
      simp[ZgT,h1,h2,h3,AV.bx,Zac]
      exact⟨by omega,by omega,by omega,hr⟩
    ·have hr:=ZaU (ks:=ks) (rs:=rs) (l:=l) (wn:=wn) (fl:=fl) (s:=⟨at0,mo,dn,ha,ba,false,dw,up⟩) (k:=1) (n:=en) (e:=26) (by simp[ZaT,h1n,h2]) (by decide)
     simp[ZgT,h1,h2]
     exact⟨by omega,by omega,hr⟩
   ·have hr:=ZaU (ks:=ks) (rs:=rs) (l:=l) (wn:=wn) (fl:=fl) (s:=⟨at0,mo,dn,ha,ba,true,dw,up⟩) (k:=1) (n:=en) (e:=21) (by simp[ZaT,h1n]) (by decide)
    simp[ZgT,h1]
    exact⟨by omega,hr⟩)
theorem ZIV(h:OkA ms ks rs l wn fl ⟨at0,mo,dn,ha,ba,to,dw,up⟩ 4 en):Zan Tryz.prog 49 [vU ms ks rs l wn fl, (vS at0 mo dn ha ba to dw up), .agg (.gen [.int .i64 4, .int .i64 en])] (Zhd (ZcM ks rs l wn fl ⟨at0,mo,dn,ha,ba,to,dw,up⟩ 4 en) (ZaT l wn fl ⟨at0,mo,dn,ha,ba,to,dw,up⟩ 4 en)) none:=
 Zd4 (ZrW ms ks rs l wn fl at0 mo dn ha ba to dw up en) fun C hC=>ZeE hC Za4 ZzF (by
  obtain⟨g0,g1,g2,g3,g4,g5,g6,g7⟩:=Zdi h
  have hv:=ZrG (by omega) h.e
  by_cases h1:en<dw.length
  ·have hr:=ZaG (ks:=ks) (rs:=rs) (l:=l) (wn:=wn) (fl:=fl) (s:=⟨at0,mo,dn,ha,ba,to,dw,up⟩) (k:=4) (n:=en) (by simp[ZaT,h1]) rfl
   have h2:Zab en 0 ((dw.length:Int)-1)=true:=within_iff.2 (by omega)
   obtain⟨c1,c2⟩:=Zo6 dw en hv.1 h1
   simp[Zn0,h2,c1,ZuR _ _ c2]
   exact⟨by omega,by omega,hr⟩
  ·have hr:=ZaU (ks:=ks) (rs:=rs) (l:=l) (wn:=wn) (fl:=fl) (s:=⟨at0,mo,dn,ha,ba,to,dw,up⟩) (k:=4) (n:=en) (e:=6) (by simp[ZaT,h1]) (by decide)
   have h2:¬Zab en 0 ((dw.length:Int)-1)=true:=fun hh=>h1 (by have:=within_iff.1 hh;omega)
   simp[Zn0,h2]
   exact⟨by omega,hr⟩)
theorem ZIM(h:OkA ms ks rs l wn fl ⟨at0,mo,dn,ha,ba,to,dw,up⟩ 5 en):Zan Tryz.prog 49 [vU ms ks rs l wn fl, (vS at0 mo dn ha ba to dw up), .agg (.gen [.int .i64 5, .int .i64 en])] (Zhd (ZcM ks rs l wn fl ⟨at0,mo,dn,ha,ba,to,dw,up⟩ 5 en) (ZaT l wn fl ⟨at0,mo,dn,ha,ba,to,dw,up⟩ 5 en)) none:=
 Zd4 (ZqV ms ks rs l wn fl at0 mo dn ha ba to dw up en) fun C hC=>ZeE hC Za4 ZzH (by
  obtain⟨g0,g1,g2,g3,g4,g5,g6,g7⟩:=Zdi h
  have hv:=ZrG (by omega) h.e
  by_cases h1:en<up.length
  ·have hr:=ZaG (ks:=ks) (rs:=rs) (l:=l) (wn:=wn) (fl:=fl) (s:=⟨at0,mo,dn,ha,ba,to,dw,up⟩) (k:=5) (n:=en) (by simp[ZaT,h1]) rfl
   have h2:Zab en 0 ((up.length:Int)-1)=true:=within_iff.2 (by omega)
   obtain⟨c1,c2⟩:=Zo6 up en hv.1 h1
   simp[Zm2,h2,c1,ZuR _ _ c2]
   exact⟨by omega,by omega,by omega,hr⟩
  ·have hr:=ZaU (ks:=ks) (rs:=rs) (l:=l) (wn:=wn) (fl:=fl) (s:=⟨at0,mo,dn,ha,ba,to,dw,up⟩) (k:=5) (n:=en) (e:=6) (by simp[ZaT,h1]) (by decide)
   have h2:¬Zab en 0 ((up.length:Int)-1)=true:=fun hh=>h1 (by have:=within_iff.1 hh;omega)
   simp[Zm2,h2]
   exact⟨by omega,by omega,hr⟩)
theorem ZJ3(h:OkA ms ks rs l wn fl ⟨at0,mo,dn,ha,ba,to,dw,up⟩ 3 en):Zan Tryz.prog 49 [vU ms ks rs l wn fl, (vS at0 mo dn ha ba to dw up), .agg (.gen [.int .i64 3, .int .i64 en])] (Zhd (ZcM ks rs l wn fl ⟨at0,mo,dn,ha,ba,to,dw,up⟩ 3 en) (ZaT l wn fl ⟨at0,mo,dn,ha,ba,to,dw,up⟩ 3 en)) none:=
 Zd4 (Zq8 ms ks rs l wn fl at0 mo dn ha ba to dw up en) fun C hC=>ZeE hC Za4 ZBg (by
  obtain⟨g0,g1,g2,g3,g4,g5,g6,g7⟩:=Zdi h
  have hv:=ZrG (by omega) h.e
  by_cases h1:en<up.length
  ·have hr:=ZaG (ks:=ks) (rs:=rs) (l:=l) (wn:=wn) (fl:=fl) (s:=⟨at0,mo,dn,ha,ba,to,dw,up⟩) (k:=3) (n:=en) (by simp[ZaT,h1]) rfl
   have e1:appS ks rs l fl ⟨at0,mo,dn,ha,ba,to,dw,up⟩ 3 en=⟨at0,mo,dn,ha,max ba (Zaj up en 0),to||((up.getD en.toNat .top).cellAt 1).toB,dw,ZbO up en⟩:=rfl
   rw[e1]at hr
   have e2:((up.getD en.toNat .top).cellAt 0).toI=Zaj up en 0:=rfl
   have h2:Zab en 0 ((up.length:Int)-1)=true:=within_iff.2 (by omega)
   obtain⟨c1,c2⟩:=Zo6 up en hv.1 h1
   by_cases ht:to=true
   ·subst ht
    simp[-List.getD_eq_getElem?_getD,Zln,h2,c1,c2,ZuR _ _ c2,e2]
    exact⟨by omega,by omega,by omega,hr⟩
   ·obtain rfl:to=false:=by simpa using ht
    simp[-List.getD_eq_getElem?_getD,Zln,h2,c1,c2,ZuR _ _ c2,e2]
    exact⟨by omega,by omega,by omega,hr⟩
  ·have hr:=ZaU (ks:=ks) (rs:=rs) (l:=l) (wn:=wn) (fl:=fl) (s:=⟨at0,mo,dn,ha,ba,to,dw,up⟩) (k:=3) (n:=en) (e:=6) (by simp[ZaT,h1]) (by decide)
   have h2:¬Zab en 0 ((up.length:Int)-1)=true:=fun hh=>h1 (by have:=within_iff.1 hh;omega)
   simp[Zln,h2]
   exact⟨by omega,by omega,hr⟩)
theorem ZIs(h:OkA ms ks rs l wn fl ⟨at0,mo,dn,ha,ba,to,dw,up⟩ 6 en):Zan Tryz.prog 49 [vU ms ks rs l wn fl, (vS at0 mo dn ha ba to dw up), .agg (.gen [.int .i64 6, .int .i64 en])] (Zhd (ZcM ks rs l wn fl ⟨at0,mo,dn,ha,ba,to,dw,up⟩ 6 en) (ZaT l wn fl ⟨at0,mo,dn,ha,ba,to,dw,up⟩ 6 en)) none:=
 Zd4 (Zq3 ms ks rs l wn fl at0 mo dn ha ba to dw up en) fun C hC=>ZeE hC Za4 ZzP (by
  obtain⟨g0,g1,g2,g3,g4,g5,g6,g7⟩:=Zdi h
  have hv:=ZrG (by omega) h.e
  by_cases h1:en<dw.length
  ·have h2:Zab en 0 ((dw.length:Int)-1)=true:=within_iff.2 (by omega)
   obtain⟨c1,c2⟩:=Zo6 dw en hv.1 h1
   by_cases h3:fl≤(dw.length:Int)
   ·have hr:=ZaU (ks:=ks) (rs:=rs) (l:=l) (wn:=wn) (fl:=fl) (s:=⟨at0,mo,dn,ha,ba,to,dw,up⟩) (k:=6) (n:=en) (e:=16) (by simp[ZaT,h1,Int.not_lt.2 h3]) (by decide)
    simp[ZkI,h2,h3]
    exact⟨by omega,hr⟩
   ·have hr:=ZaG (ks:=ks) (rs:=rs) (l:=l) (wn:=wn) (fl:=fl) (s:=⟨at0,mo,dn,ha,ba,to,dw,up⟩) (k:=6) (n:=en) (by simp[ZaT,h1,Int.not_le.1 h3]) rfl
    simp[-List.getD_eq_getElem?_getD,ZkI,h2,h3,c2,AV.bx,Zac]
    exact⟨by omega,by omega,hr⟩
  ·have hr:=ZaU (ks:=ks) (rs:=rs) (l:=l) (wn:=wn) (fl:=fl) (s:=⟨at0,mo,dn,ha,ba,to,dw,up⟩) (k:=6) (n:=en) (e:=6) (by simp[ZaT,h1]) (by decide)
   have h2:¬Zab en 0 ((dw.length:Int)-1)=true:=fun hh=>h1 (by have:=within_iff.1 hh;omega)
   simp[ZkI,h2]
   exact⟨by omega,hr⟩)
theorem ZKy(h:OkA ms ks rs l wn fl ⟨at0,mo,dn,ha,ba,to,dw,up⟩ 7 en):Zan Tryz.prog 49 [vU ms ks rs l wn fl, (vS at0 mo dn ha ba to dw up), .agg (.gen [.int .i64 7, .int .i64 en])] (Zhd (ZcM ks rs l wn fl ⟨at0,mo,dn,ha,ba,to,dw,up⟩ 7 en) (ZaT l wn fl ⟨at0,mo,dn,ha,ba,to,dw,up⟩ 7 en)) none:=
 Zd4 (ZsJ ms ks rs l wn fl at0 mo dn ha ba to dw up en) fun C hC=>ZeE hC Za4 Zxy (by
  obtain⟨g0,g1,g2,g3,g4,g5,g6,g7⟩:=Zdi h
  have hr:=ZaG (ks:=ks) (rs:=rs) (l:=l) (wn:=wn) (fl:=fl) (s:=⟨at0,mo,dn,ha,ba,to,dw,up⟩) (k:=7) (n:=en) (by simp[ZaT]) rfl
  simp[Zrx]
  exact⟨by omega,hr⟩)
theorem ZKM(h:OkA ms ks rs l wn fl ⟨at0,mo,dn,ha,ba,to,dw,up⟩ 8 en):Zan Tryz.prog 49 [vU ms ks rs l wn fl, (vS at0 mo dn ha ba to dw up), .agg (.gen [.int .i64 8, .int .i64 en])] (Zhd (ZcM ks rs l wn fl ⟨at0,mo,dn,ha,ba,to,dw,up⟩ 8 en) (ZaT l wn fl ⟨at0,mo,dn,ha,ba,to,dw,up⟩ 8 en)) none:=
 Zd4 (ZsX ms ks rs l wn fl at0 mo dn ha ba to dw up en) fun C hC=>ZeE hC Za4 ZwZ (by
  obtain⟨g0,g1,g2,g3,g4,g5,g6,g7⟩:=Zdi h
  have hr:=ZaG (ks:=ks) (rs:=rs) (l:=l) (wn:=wn) (fl:=fl) (s:=⟨at0,mo,dn,ha,ba,to,dw,up⟩) (k:=8) (n:=en) (by simp[ZaT]) (s':=_) rfl
  have e1:appS ks rs l fl ⟨at0,mo,dn,ha,ba,to,dw,up⟩ 8 en=Zd8 fl ⟨at0,mo,dn,ha,ba,to,dw,up⟩:=rfl
  rw[e1]at hr
  unfold Zd8 ZBE at hr
  by_cases h1:(up.length:Int)<fl
  ·simp only[if_pos h1]at hr
   simp[ZnR,h1,AV.bx,Zac,Zfm]
   exact⟨by omega,by omega,hr⟩
  ·simp only[if_neg h1]at hr
   simp[ZnR,h1]
   exact⟨by omega,hr⟩)
end
end Go.Proofs.YtkeoeooghhjibaaGreatDoor
namespace Go.Proofs.YtkeoeooghhjibaaGreatDoor
variable {A:Ar}{K:KT}{F:FT}{M:MT}
set_option maxRecDepth 100000
set_option linter.unusedVariables false
def Zrv(ms ks rs l:zA)(wn fl at0 mo:Int)(dn:zA)(ha:Bool)(ba:Int)(to:Bool)(dw:zI)(up:zA)(en:Int):AFrame:=vF 49 208 [(0,vU ms ks rs l wn fl),(1,vS at0 mo dn ha ba to dw up),(2,AV.agg (vx [.int .i64 2, .int .i64 en]))] [.code a49.code] [ARes.cell 6 true 8,.tmp 7]
def ZDz(ms ks rs l:zA)(wn fl at0 mo:Int)(dn:zA)(ha:Bool)(ba:Int)(to:Bool)(dw:zI)(up:zA)(en:Int):List AFrame:=[(Zrv ms ks rs l wn fl at0 mo dn ha ba to dw up en)]
theorem Zts(ms ks rs l:zA)(wn fl at0 mo:Int)(dn:zA)(ha:Bool)(ba:Int)(to:Bool)(dw:zI)(up:zA)(en:Int):Zam tab 49 [vU ms ks rs l wn fl,vS at0 mo dn ha ba to dw up,AV.agg (Row.gen [.int .i64 2, .int .i64 en])]=some (Zrv ms ks rs l wn fl at0 mo dn ha ba to dw up en):=rfl
def Zds(ms ks rs l:zA)(wn fl at0 mo:Int)(dn:zA)(ha:Bool)(ba:Int)(to:Bool)(up:zA)(n0:Int)(b1:Bool)(n2 n3 n4 n5 n6 n7 n8 n9 n10:Int)(l11 l12:zI)(n13 n14 n15 n16 n17 n18:Int):List AFrame:=[vF 85 32 [vR 1 35007,vP 2 85003,vP 4 85005,vP 5 85006,vI 6 n16] (vC ZuK ZyS) [ARes.cell 4 true 3],vF 98 68 [vI 2 n0,vP 3 98004,vP 4 98005,vP 6 98007,vP 7 98008,vB 18 b1,(19,AV.ptr 98004 0 0 3),(20,vl vsA l),vI 21 n2,(22,AV.eptr (AV.agg (vx [.int .i64 n3, .int .i64 n4, .int .i64 n5])) 0),(23,AV.agg (vx [.int .i64 n6, .int .i64 n7, .int .i64 n8])),(24,vU ms ks rs l wn fl),(25,AV.ptr 98005 0 0 2),vR 26 35007] [.inReg [oN 27 (.icall 85 [.t 24,.t 26]),oN 8 (.alloc 98009 76 (AV.agg (vx [.int .i64 0, .int .i64 0,AV.nils]))),{ d:=none,g:=none,k:=OpK.store 3 (.t 8) (.t 27) }], .code (.seq (.reg none [oN 28 (.faddr 0 (.t 4)),oN 29 (.load false 1 (.t 28)),oN 30 (.faddr 1 (.t 8)),{ d:=none,g:=none,k:=OpK.store 1 (.t 30) (.t 29) }]) (.seq (.reg none [oN 31 (.faddr 0 (.t 4)),oN 32 (.load false 1 (.t 31)),oN 33 (.faddr 1 (.t 7)),oN 34 (.faddr 0 (.t 33)),oN 35 (.load false 1 (.t 34)),oN 36 (.faddr 1 (.t 7)),oN 37 (.faddr 1 (.t 36)),oN 38 (.load false 1 (.t 37)),oN 39 (.ncall true 0 41 [.t 32,.t 35,.t 38]),mV 40 39,{ d:=some 41,g:=some (40,true),k:=OpK.faddr 0 (.t 3) },{ d:=some 42,g:=some (40,true),k:=OpK.load true 3 (.t 41) },{ d:=some 43,g:=some (40,true),k:=OpK.load true 3 (.t 8) },{ d:=some 44,g:=some (40,true),k:=OpK.faddr 0 (.t 7) },{ d:=some 45,g:=some (40,true),k:=OpK.load false 1 (.t 44) },{ d:=some 46,g:=some (40,true),k:=OpK.ncall true 0 86 [.t 42,.t 43,.t 45] },{ d:=some 47,g:=some (40,true),k:=OpK.bin Go.BinOp.eql (.t 46) (.c (AV.str [])) },oN 48 (.pick (.t 40) (.t 47) (.c (vb false)))]) (.gh [.keep [2,3,4,6,48]] (.cond (.t 48) (.seq (.reg none [oN 49 (.faddr 2 (.t 4)),oN 50 (.load false 1 (.t 49)),mV 51 2,oN 52 (.faddr 0 (.t 4)),oN 53 (.load false 1 (.t 52)),oN 54 (.build (vx [.int .i64 0, .int .i64 0]) [(0,1,.t 51),(1,1,.t 53)]),oN 55 (.bslice 98056 78 2 [.t 54]),oN 56 (.append 98057 78 2 (.t 50) (.t 55)),oN 57 (.faddr 2 (.t 4)),{ d:=none,g:=none,k:=OpK.store 1 (.t 57) (.t 56) }]) (.gh [.keep [3,4,6]] (.reg none [oN 58 (.load true 6 (.t 3)),oN 59 (.faddr 2 (.t 4)),oN 60 (.load false 1 (.t 59)),oN 61 (.icall 85 [.t 58,.t 60]),oN 62 (.fld false 0 1 (.t 61)),oN 63 (.faddr 1 (.t 4)),{ d:=none,g:=none,k:=OpK.store 1 (.t 63) (.t 62) }]))) (.reg none [oN 64 (.faddr 3 (.t 4)),{ d:=none,g:=none,k:=OpK.store 1 (.t 64) (.c (vb true)) }]))))), .code v12Q] [ARes.cell 6 true 8],vF 49 208 [vP 3 49004,vP 6 49007,vP 8 49009,vI 12 n9,(117,vU ms ks rs l wn fl),(118,AV.agg (vx [.int .i64 at0, .int .i64 mo, .row 35007 0, .bool ha, .int .i64 ba, .bool to, .row 35011 0, .row 35016 0])),vI 119 n10] v4Q [ARes.cell 6 true 8,.tmp 7]]
def ZcS(ms ks rs l:zA)(wn fl at0 mo:Int)(dn:zA)(ha:Bool)(ba:Int)(to:Bool)(up:zA)(n0:Int)(b1:Bool)(n2 n3 n4 n5 n6 n7 n8 n9 n10:Int)(l11 l12:zI)(n13 n14 n15 n16 n17 n18:Int):Zad:=[vH 35007 78 2 (Row.big vsD dn),vK 35011 l11,vH 35016 129 2 (Row.big vsU up),vH 49004 29 6 (vx [vU ms ks rs l wn fl]),vH 49007 37 8 (vx [AV.agg (vx [vi 0,vi 0,AV.nils,vb false,vi 0,vb false,AV.nils,AV.nils])]),vH 49009 37 8 (vx [AV.agg (vx [vi at0,vi mo,vw 35007,vb ha,vi ba,vb to,vw 35011,vw 35016])]),vH 85003 29 6 (vx [vU ms ks rs l wn fl]),vH 85005 76 3 (vx [AV.agg (vx [vi 0,vi 0,AV.nils])]),vH 85006 76 3 (vx [AV.agg (vx [vi n17,vi n18,vz l12])]),vH 98004 29 6 (vx [vU ms ks rs l wn fl]),vH 98005 37 8 (vx [AV.agg (vx [vi at0,vi mo,vw 35007,vb ha,vi ba,vb to,vw 35011,vw 35016])]),vH 98007 37 8 (vx [AV.agg (vx [vi 0,vi 0,AV.nils,vb false,vi 0,vb false,AV.nils,AV.nils])]),vH 98008 82 3 (vx [AV.agg (vx [vi n13,vi n14,vi n15])])]
abbrev Zht(ms ks rs l:zA)(wn fl at0 mo:Int)(dn:zA)(ha:Bool)(ba:Int)(to:Bool)(up:zA)(n0:Int)(b1:Bool)(n2 n3 n4 n5 n6 n7 n8 n9 n10:Int)(l11 l12:zI)(n13 n14 n15 n16 n17 n18:Int):List AFrame×Zad:=(Zds ms ks rs l wn fl at0 mo dn ha ba to up n0 b1 n2 n3 n4 n5 n6 n7 n8 n9 n10 l11 l12 n13 n14 n15 n16 n17 n18,ZcS ms ks rs l wn fl at0 mo dn ha ba to up n0 b1 n2 n3 n4 n5 n6 n7 n8 n9 n10 l11 l12 n13 n14 n15 n16 n17 n18)
def ZdC(ms ks rs l:zA)(wn fl at0 mo:Int)(ha:Bool)(ba:Int)(to:Bool)(up:zA)(n9 n10:Int)(l11 l19:zI)(x20:zA)(n21 n22 n23:Int):List AFrame:=[vF 85 32 [vR 1 98057,vP 2 85003,vP 4 85005,vP 5 85006,vI 6 n21] (vC ZuK ZyS) [ARes.cell 4 true 3],vF 98 68 [vP 3 98004,vP 4 98005,vP 6 98007,(58,vU ms ks rs l wn fl),(59,AV.ptr 98005 0 0 2),vR 60 98057] [.inReg [oN 61 (.icall 85 [.t 58,.t 60]),oN 62 (.fld false 0 1 (.t 61)),oN 63 (.faddr 1 (.t 4)),{ d:=none,g:=none,k:=OpK.store 1 (.t 63) (.t 62) }], .code v12Q] [ARes.cell 6 true 8],vF 49 208 [vP 3 49004,vP 6 49007,vP 8 49009,vI 12 n9,(117,vU ms ks rs l wn fl),(118,AV.agg (vx [.int .i64 at0, .int .i64 mo,AV.top, .bool ha, .int .i64 ba, .bool to, .row 35011 0, .row 35016 0])),vI 119 n10] v4Q [ARes.cell 6 true 8,.tmp 7]]
def ZcN(ms ks rs l:zA)(wn fl at0 mo:Int)(ha:Bool)(ba:Int)(to:Bool)(up:zA)(n9 n10:Int)(l11 l19:zI)(x20:zA)(n21 n22 n23:Int):Zad:=[vK 35011 l11,vH 35016 129 2 (Row.big vsU up),vH 49004 29 6 (vx [vU ms ks rs l wn fl]),vH 49007 37 8 (vx [AV.agg (vx [vi 0,vi 0,AV.nils,vb false,vi 0,vb false,AV.nils,AV.nils])]),vH 49009 37 8 (vx [AV.agg (vx [vi at0,vi mo,AV.top,vb ha,vi ba,vb to,vw 35011,vw 35016])]),vH 85003 29 6 (vx [vU ms ks rs l wn fl]),vH 85005 76 3 (vx [AV.agg (vx [vi 0,vi 0,AV.nils])]),vH 85006 76 3 (vx [AV.agg (vx [vi n22,vi n23,vz l19])]),vH 98004 29 6 (vx [vU ms ks rs l wn fl]),vH 98005 37 8 (vx [AV.agg (vx [vi at0,vi mo,vw 98057,vb ha,vi ba,vb to,vw 35011,vw 35016])]),vH 98007 37 8 (vx [AV.agg (vx [vi 0,vi 0,AV.nils,vb false,vi 0,vb false,AV.nils,AV.nils])]),vH 98057 78 2 (Row.big vsD x20)]
abbrev Zhb(ms ks rs l:zA)(wn fl at0 mo:Int)(ha:Bool)(ba:Int)(to:Bool)(up:zA)(n9 n10:Int)(l11 l19:zI)(x20:zA)(n21 n22 n23:Int):List AFrame×Zad:=(ZdC ms ks rs l wn fl at0 mo ha ba to up n9 n10 l11 l19 x20 n21 n22 n23,ZcN ms ks rs l wn fl at0 mo ha ba to up n9 n10 l11 l19 x20 n21 n22 n23)
def Zfg(A:Ar)(K:KT)(F:FT)(ms ks rs l:zA)(wn fl at0 mo:Int)(dn:zA)(ha:Bool)(ba:Int)(to:Bool)(dw:zI)(up:zA)(en:Int):Prop:=let u7:=A.add en 1;let ud:=A.len dw-A.nat u7;let u1:=A.sub3 dw (A.nat u7) ud;let u9:=A.nat en-0+A.len u1;let u4:=A.len dw;let u5:=A.app (A.app (A.sub3 dw 0 (A.nat en-0)) u1) (A.sub3 dw u9 u4);let u0:=A.sub3 u5 0 u9;let ub:=A.nat en;let u2:=A.nth dw ub;let u3:=A.int (A.lenA dn);let u6:=A.nat u2;let u8:=A.lenA up+A.lenA [AV.agg (Row.gen [.int .i64 u3, .bool ha])];let ua:=A.appA up [AV.agg (Row.gen [AV.int .i64 u3,AV.bool ha])];let uc:=A.sub (A.int u4) 1;let ue:=A.int (A.lenA up);rB [A.inR .i64 uc,Nat.ble (0+A.lenA up) 4294967296,List.all [] fun x=>AV.bx x&&Nat.beq (Zac A x) 2,decide (List.length dw≤1000000),Nat.ble (0+A.lenA dn) 4294967296,List.all [] fun x=>AV.bx x&&Nat.beq (Zac A x) 2] (rB [!A.eq 2 3] (rB [!A.eq 2 5] (bB (A.not (Zab en 0 uc)) (F (AV.tup [AV.agg (Row.gen [.int .i64 0, .int .i64 0,AV.nils, .bool false, .int .i64 0, .bool false,AV.nils,AV.nils]),AV.int .i64 6]) none) (rB [!A.eq 2 0] (rB [!A.eq 2 1] (rB [A.eq 2 2] (rB [Zag (Nat.ble u9 (A.len u5)) true,Zag (Zag (Nat.ble (A.nat u7+ud) u4) true) (Zag (Nat.ble u9 u4) (Nat.blt 0 u4)),Zag (Zag (A.le 0 u7) true) (Zag (Zag (Nat.ble (A.nat u7) u4) (Nat.ble u4 u4)) true),A.inR .i64 u7,Zag (A.le 0 en) (Zag (Zag (Nat.ble 0 ub) (Nat.ble ub u4)) true),Zag (Nat.blt ub u4) true,Zag (A.le 0 en) (Nat.blt ub u4)] (bB (A.not ha) (bB (A.eq u2 u3) (rB [decide (List.length ks≤1000000),Zag (Zag (A.le 0 u2) (Nat.blt u6 (A.lenA l))) true] (K (Zht ms ks rs l wn fl at0 mo dn ha ba to up u2 (A.eq u2 u3) u2 ((A.nthA l u6).cellAt 0).toI ((A.nthA l u6).cellAt 1).toI ((A.nthA l u6).cellAt 2).toI ((A.nthA l u6).cellAt 0).toI ((A.nthA l u6).cellAt 1).toI ((A.nthA l u6).cellAt 2).toI u2 u2 u0 (List.replicate (List.length ks) (-1)) ((A.nthA l u6).cellAt 0).toI ((A.nthA l u6).cellAt 1).toI ((A.nthA l u6).cellAt 2).toI 0 0 0))) (bB (A.lt ue fl) (rB [Nat.ble u8 4294967296,List.all [AV.agg (Row.gen [.int .i64 u3, .bool ha])] fun x=>AV.bx x&&Nat.beq (Zac A x) 2] (F (AV.tup [vS at0 mo dn ha ba to u0 ua,AV.int .i64 0]) none)) (F (AV.tup [vS at0 mo dn ha ba to u0 up,AV.int .i64 0]) none))) (bB (A.lt ue fl) (rB [Nat.ble u8 4294967296,List.all [AV.agg (Row.gen [.int .i64 u3, .bool ha])] fun x=>AV.bx x&&Nat.beq (Zac A x) 2] (F (AV.tup [vS at0 mo dn ha ba to u0 ua,AV.int .i64 0]) none)) (F (AV.tup [vS at0 mo dn ha ba to u0 up,AV.int .i64 0]) none))))))))))
theorem ZxW{ms ks rs l:zA}{wn fl at0 mo:Int}{dn:zA}{ha:Bool}{ba:Int}{to:Bool}{dw:zI}{up:zA}{en:Int} :Zaw A tab Bn 49 K F M (.run 83 (.fy (.fy (.fy (.fy (.run 2 (.fy (.run 8 (.ty (.ty (.ty (.run 2 (.tf (.run 7 (.fn)) (.run 13 (.fy (.run 5 (.fy (.run 5 (.ty (.run 30 (.tf (.ty (.ty (.ty (.ty (.ty (.run 2 (.tf (.run 37 (.hd)) (.run 22 (.tf (.run 35 (.fn)) (.run 22 (.fn))))))))))) (.fy (.fy (.fy (.fy (.fy (.run 2 (.fy (.run 22 (.tf (.run 35 (.fn)) (.run 22 (.fn)))))))))))))))))))))))))))))))) (ZDz ms ks rs l wn fl at0 mo dn ha ba to dw up en) []=Zfg A K F ms ks rs l wn fl at0 mo dn ha ba to dw up en:=by kernel_rfl
def Zbt(A:Ar)(K:KT)(F:FT)(ms ks rs l:zA)(wn fl at0 mo:Int)(dn:zA)(ha:Bool)(ba:Int)(to:Bool)(up:zA)(n0:Int)(b1:Bool)(n2 n3 n4 n5 n6 n7 n8 n9 n10:Int)(l11 l12:zI)(n13 n14 n15 n16 n17 n18:Int):Prop:=let u4:=A.lenA dn;let u0:=A.int u4;let u1:=A.nat n16;let u2:=A.lenA up+A.lenA [AV.agg (Row.gen [.int .i64 u0, .bool true])];let u3:=A.appA up [AV.agg (Row.gen [AV.int .i64 u0,AV.bool true])];let u5:=A.int (A.lenA up);bB (A.lt n16 u0) (rB [A.inR .i64 (A.add n16 1),decide (List.length l12≤1000000∧0≤AV.toI (AV.cellAt (A.nthA l u1) 0)∧AV.toI (AV.cellAt (A.nthA l u1) 0)< ↑(List.length ks)∧AV.toI (AV.cellAt (A.nthA l u1) 0)< ↑(List.length l12)),Zag (Nat.blt u1 u4) true,Zag (A.le 0 n16) (Nat.blt u1 u4),Zag (Zag (A.le 0 n16) (Nat.blt u1 (A.lenA l))) true] (K (Zht ms ks rs l wn fl at0 mo dn ha ba to up n0 b1 n2 n3 n4 n5 n6 n7 n8 n9 n10 l11 (List.set l12 (Int.toNat ((A.nthA l u1).cellAt 0).toI) ((A.nthA dn u1).cellAt 1).toI) n13 n14 n15 (A.add n16 1) (exM ks n17 ((A.nthA l u1).cellAt 0).toI) ((A.nthA dn u1).cellAt 1).toI))) (bB (Zab at0 n14 n15) (rB [decide (Zbx rs at0 l12=true)] (bB (A.eqS (Ze3 rs n17 at0 l12 n13 (List.length rs) 0) []) (rB [decide (List.length ks≤1000000),Nat.ble (A.lenA dn+A.lenA [AV.agg (Row.gen [.int .i64 n0, .int .i64 at0])]) 4294967296,List.all [AV.agg (Row.gen [.int .i64 n0, .int .i64 at0])] fun x=>AV.bx x&&Nat.beq (Zac A x) 2] (K (Zhb ms ks rs l wn fl at0 mo ha ba to up n9 n10 l11 (List.replicate (List.length ks) (-1)) (A.appA dn [AV.agg (Row.gen [.int .i64 n0, .int .i64 at0])]) 0 0 0))) (bB (A.lt u5 fl) (rB [Nat.ble u2 4294967296,List.all [AV.agg (Row.gen [.int .i64 u0, .bool true])] fun x=>AV.bx x&&Nat.beq (Zac A x) 2] (F (AV.tup [vS at0 mo dn true ba to l11 u3,AV.int .i64 0]) none)) (F (AV.tup [vS at0 mo dn true ba to l11 up,AV.int .i64 0]) none)))) (bB (A.lt u5 fl) (rB [Nat.ble u2 4294967296,List.all [AV.agg (Row.gen [.int .i64 u0, .bool true])] fun x=>AV.bx x&&Nat.beq (Zac A x) 2] (F (AV.tup [vS at0 mo dn true ba to l11 u3,AV.int .i64 0]) none)) (F (AV.tup [vS at0 mo dn true ba to l11 up,AV.int .i64 0]) none)))
theorem Zhi{ms ks rs l:zA}{wn fl at0 mo:Int}{dn:zA}{ha:Bool}{ba:Int}{to:Bool}{up:zA}{n0:Int}{b1:Bool}{n2 n3 n4 n5 n6 n7 n8 n9 n10:Int}{l11 l12:zI}{n13 n14 n15 n16 n17 n18:Int} :vT A tab Bn 49 K F M (.run 9 (.tf (.run 12 (.hd)) (.run 30 (.tf (.ty (.ty (.ty (.ty (.ty (.ty (.ty (.run 2 (.tf (.run 40 (.hd)) (.run 25 (.tf (.run 35 (.fn)) (.run 22 (.fn))))))))))))) (.fy (.fy (.fy (.fy (.fy (.fy (.fy (.run 2 (.fy (.run 25 (.tf (.run 35 (.fn)) (.run 22 (.fn))))))))))))))))) (Zht ms ks rs l wn fl at0 mo dn ha ba to up n0 b1 n2 n3 n4 n5 n6 n7 n8 n9 n10 l11 l12 n13 n14 n15 n16 n17 n18)=Zbt A K F ms ks rs l wn fl at0 mo dn ha ba to up n0 b1 n2 n3 n4 n5 n6 n7 n8 n9 n10 l11 l12 n13 n14 n15 n16 n17 n18:=by kernel_rfl
def ZcQ(A:Ar)(K:KT)(F:FT)(ms ks rs l:zA)(wn fl at0 mo:Int)(ha:Bool)(ba:Int)(to:Bool)(up:zA)(n9 n10:Int)(l11 l19:zI)(x20:zA)(n21 n22 n23:Int):Prop:=let u0:=A.nat n21;let u2:=A.lenA x20;let u1:=A.int u2;bB (A.lt n21 u1) (rB [A.inR .i64 (A.add n21 1),decide (List.length l19≤1000000∧0≤AV.toI (AV.cellAt (A.nthA l u0) 0)∧AV.toI (AV.cellAt (A.nthA l u0) 0)< ↑(List.length ks)∧AV.toI (AV.cellAt (A.nthA l u0) 0)< ↑(List.length l19)),Zag (Nat.blt u0 u2) true,Zag (A.le 0 n21) (Nat.blt u0 u2),Zag (Zag (A.le 0 n21) (Nat.blt u0 (A.lenA l))) true] (K (Zhb ms ks rs l wn fl at0 mo ha ba to up n9 n10 l11 (List.set l19 (Int.toNat ((A.nthA l u0).cellAt 0).toI) ((A.nthA x20 u0).cellAt 1).toI) x20 (A.add n21 1) (exM ks n22 ((A.nthA l u0).cellAt 0).toI) ((A.nthA x20 u0).cellAt 1).toI))) (bB (A.lt (A.int (A.lenA up)) fl) (rB [Nat.ble (A.lenA up+A.lenA [AV.agg (Row.gen [.int .i64 u1, .bool ha])]) 4294967296,List.all [AV.agg (Row.gen [.int .i64 u1, .bool ha])] fun x=>AV.bx x&&Nat.beq (Zac A x) 2] (F (AV.tup [vS at0 n22 x20 ha ba to l11 (A.appA up [AV.agg (Row.gen [AV.int .i64 u1,AV.bool ha])]),AV.int .i64 0]) none)) (F (AV.tup [vS at0 n22 x20 ha ba to l11 up,AV.int .i64 0]) none))
theorem Zhh{ms ks rs l:zA}{wn fl at0 mo:Int}{ha:Bool}{ba:Int}{to:Bool}{up:zA}{n9 n10:Int}{l11 l19:zI}{x20:zA}{n21 n22 n23:Int} :vT A tab Bn 49 K F M (.run 9 (.tf (.run 12 (.hd)) (.run 33 (.tf (.run 35 (.fn)) (.run 22 (.fn)))))) (Zhb ms ks rs l wn fl at0 mo ha ba to up n9 n10 l11 l19 x20 n21 n22 n23)=ZcQ A K F ms ks rs l wn fl at0 mo ha ba to up n9 n10 l11 l19 x20 n21 n22 n23:=by kernel_rfl
end Go.Proofs.YtkeoeooghhjibaaGreatDoor
