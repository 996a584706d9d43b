/- Paths of functions, printed by the explorer (Gx). No condition. -/
import Derived.Test.YtkeoeooghhjibaaGreatDoorCq
import Derived.KernelRfl
namespace Go.Proofs.YtkeoeooghhjibaaGreatDoor
variable {A:Ar}{K:KT}{F:FT}{M:MT}
set_option maxRecDepth 100000
set_option linter.unusedVariables false
def ZB6(ms ks rs l:zA):AFrame:=vF 28 20 [(0,vM ms ks rs),(1,vl vsA l)] [.code a28.code] [.tmp 4]
def ZNi(ms ks rs l:zA):List AFrame:=[(ZB6 ms ks rs l)]
theorem Zyc(ms ks rs l:zA):Zam tab 28 [vM ms ks rs,AV.list (Row.big (.agg [.int .i64, .int .i64, .int .i64]) l)]=some (ZB6 ms ks rs l):=rfl
def ZGF(A:Ar)(K:KT)(F:FT)(ms ks rs l:zA):Prop:=rB [decide (ZaC ms ks rs=true)] (bB (A.not (A.eq (ZaN ms ks rs) 0)) (F (AV.int .i64 (ZaN ms ks rs)) none) (rB [decide (List.length ks≤1000000∧List.length l≤1000000)] (F (AV.int .i64 (Zdc 0 (↑(List.length ks)) l)) none)))
theorem ZKI{ms ks rs l:zA} :Zaw A tab B8 28 K F M (.run 17 (.tf (.run 6 (.fn)) (.run 19 (.fn)))) (ZNi ms ks rs l) []=ZGF A K F ms ks rs l:=by kernel_rfl
def ZEH(ms ks rs l:zA)(wn fl:Int):AFrame:=vF 19 22 [(0,vU ms ks rs l wn fl)] [.code a19.code] [.tmp 2]
def ZOS(ms ks rs l:zA)(wn fl:Int):List AFrame:=[(ZEH ms ks rs l wn fl)]
theorem Zxa(ms ks rs l:zA)(wn fl:Int):Zam tab 19 [vU ms ks rs l wn fl]=some (ZEH ms ks rs l wn fl):=rfl
def Zxu(A:Ar)(K:KT)(F:FT)(ms ks rs l:zA)(wn fl:Int):Prop:=rB [decide (ZaC ms ks rs=true)] (bB (A.not (A.eq (ZaN ms ks rs) 0)) (rB [A.not (A.eq (ZaN ms ks rs) 0)] (F (AV.int .i64 (ZaN ms ks rs)) none)) (rB [decide (List.length ks≤1000000∧List.length l≤1000000)] (bB (A.not (A.eq (Zdc 0 (↑(List.length ks)) l) 0)) (F (AV.int .i64 (Zdc 0 (↑(List.length ks)) l)) none) (bB (A.not (Zab wn 1 6)) (F (AV.int .i64 2) none) (bB (A.not (Zab fl 1 6)) (F (AV.int .i64 2) none) (F (AV.int .i64 0) none))))))
theorem ZJR{ms ks rs l:zA}{wn fl:Int} :Zaw A tab B8 19 K F M (.run 30 (.tf (.run 14 (.ty (.run 6 (.fn)))) (.run 27 (.tf (.run 6 (.fn)) (.run 9 (.tf (.ty (.ty (.ty (.ty (.run 2 (.ty (.run 5 (.fn)))))))) (.fy (.fy (.fy (.fy (.run 2 (.tf (.run 5 (.fn)) (.run 6 (.fn)))))))))))))) (ZOS ms ks rs l wn fl) []=Zxu A K F ms ks rs l wn fl:=by kernel_rfl
def ZFV(ms ks rs l:zA)(wn fl:Int):AFrame:=vF 36 25 [(0,vU ms ks rs l wn fl)] [.code a36.code] [.tmp 2]
def ZMe(ms ks rs l:zA)(wn fl:Int):List AFrame:=[(ZFV ms ks rs l wn fl)]
theorem Zzy(ms ks rs l:zA)(wn fl:Int):Zam tab 36 [vU ms ks rs l wn fl]=some (ZFV ms ks rs l wn fl):=rfl
def ZE3(A:Ar)(K:KT)(F:FT)(ms ks rs l:zA)(wn fl:Int):Prop:=rB [decide (ZaC ms ks rs=true∧List.length l≤1000000)] (bB (Zab wn 1 6) (rB [decide (List.length [Zdc (ZaN ms ks rs) (↑(List.length ks)) l,Zaa (Zab fl 1 6) 2]≤1000000),List.all [AV.int .i64 (Zdc (ZaN ms ks rs) (↑(List.length ks)) l),AV.int .i64 (Zaa (Zab fl 1 6) 2)] fun x=>AV.bx x&&Nat.beq (Zac A x) 1] (F (AV.int .i64 (Zae [Zdc (ZaN ms ks rs) (↑(List.length ks)) l,Zaa (Zab fl 1 6) 2])) none)) (rB [decide (List.length [Zdc (ZaN ms ks rs) (↑(List.length ks)) l,2]≤1000000),List.all [AV.int .i64 (Zdc (ZaN ms ks rs) (↑(List.length ks)) l),AV.int .i64 2] fun x=>AV.bx x&&Nat.beq (Zac A x) 1] (F (AV.int .i64 (Zae [Zdc (ZaN ms ks rs) (↑(List.length ks)) l,2])) none)))
theorem ZH0{ms ks rs l:zA}{wn fl:Int} :Zaw A tab B8 36 K F M (.run 26 (.tf (.ty (.ty (.ty (.run 7 (.fn))))) (.fy (.fy (.fy (.run 7 (.fn))))))) (ZMe ms ks rs l wn fl) []=ZE3 A K F ms ks rs l wn fl:=by kernel_rfl
def ZFi(ek en:Int):AFrame:=vF 38 35 [(0,AV.agg (vx [.int .i64 ek, .int .i64 en]))] [.code a38.code] [.tmp 2]
def ZOW(ek en:Int):List AFrame:=[(ZFi ek en)]
theorem ZAH(ek en:Int):Zam tab 38 [AV.agg (Row.gen [.int .i64 ek, .int .i64 en])]=some (ZFi ek en):=rfl
def Zp7(A:Ar)(K:KT)(F:FT)(ek en:Int):Prop:=let u0:=rB [!A.not true] (F (AV.int .i64 0) none);let u1:=rB [A.eq ek 0] u0;bB (A.not (Zab ek 0 8)) (F (AV.int .i64 15) none) (bB (A.eq ek 0) (bB (A.eq ek 1) (rB [A.eq ek 0] (bB (A.not (Zab en 1 11)) (F (AV.int .i64 2) none) u1)) (rB [A.eq ek 0] (bB (A.not (Zab en 1 1000000000000)) (F (AV.int .i64 2) none) u1))) (bB (A.eq ek 1) (rB [!A.eq ek 0] (rB [A.eq ek 1] (bB (A.not (Zab en 0 11)) (F (AV.int .i64 2) none) (rB [!A.eq ek 0] (rB [A.eq ek 1] u0))))) (rB [!A.eq ek 0] (rB [!A.eq ek 1] (bB (Zab ek 2 6) (bB (A.not (Zab en 0 5)) (F (AV.int .i64 2) none) (rB [!A.eq ek 0] (rB [!A.eq ek 1] (rB [!A.not (Zab ek 2 6)] (F (AV.int .i64 0) none))))) (rB [!A.eq ek 0] (rB [!A.eq ek 1] (rB [A.not (Zab ek 2 6)] (bB (A.not (A.eq en 0)) (F (AV.int .i64 3) none) (F (AV.int .i64 0) none))))))))))
theorem ZIw{ek en:Int} :Zaw A tab B8 38 K F M (.run 13 (.tf (.run 5 (.fn)) (.run 13 (.tf (.run 11 (.tf (.run 18 (.ty (.ty (.ty (.run 1 (.ty (.ty (.ty (.run 6 (.ty (.ty (.ty (.ty (.ty (.ty (.ty (.run 2 (.tf (.run 5 (.fn)) (.run 16 (.ty (.ty (.ty (.run 1 (.ty (.ty (.ty (.run 7 (.fy (.fy (.fy (.fy (.run 2 (.fy (.run 6 (.fn))))))))))))))))))))))))))))))))))) (.run 16 (.ty (.ty (.ty (.run 1 (.ty (.ty (.ty (.run 6 (.ty (.ty (.ty (.ty (.ty (.ty (.ty (.run 2 (.tf (.run 5 (.fn)) (.run 16 (.ty (.ty (.ty (.run 1 (.ty (.ty (.ty (.run 7 (.fy (.fy (.fy (.fy (.run 2 (.fy (.run 6 (.fn))))))))))))))))))))))))))))))))))))) (.run 8 (.tf (.run 18 (.fy (.fy (.fy (.run 1 (.ty (.ty (.ty (.run 6 (.ty (.ty (.ty (.ty (.ty (.ty (.ty (.run 2 (.tf (.run 5 (.fn)) (.run 16 (.fy (.fy (.fy (.run 1 (.ty (.ty (.ty (.run 7 (.fy (.fy (.fy (.fy (.run 2 (.fy (.run 6 (.fn))))))))))))))))))))))))))))))))))) (.run 16 (.fy (.fy (.fy (.run 1 (.fy (.fy (.run 12 (.fy (.run 6 (.tf (.ty (.ty (.ty (.ty (.ty (.ty (.run 2 (.tf (.run 5 (.fn)) (.run 16 (.fy (.fy (.fy (.run 1 (.fy (.fy (.run 12 (.fy (.run 7 (.fy (.fy (.fy (.fy (.run 2 (.fy (.run 6 (.fn)))))))))))))))))))))))))) (.fy (.fy (.fy (.fy (.fy (.fy (.run 2 (.fy (.run 16 (.fy (.fy (.fy (.run 1 (.fy (.fy (.run 12 (.fy (.run 7 (.ty (.ty (.ty (.ty (.run 2 (.tf (.run 5 (.fn)) (.run 6 (.fn))))))))))))))))))))))))))))))))))))))))))) (ZOW ek en) []=Zp7 A K F ek en:=by kernel_rfl
def ZG9(n:Int):AFrame:=vF 84 13 [vI 0 n] [.code a84.code] [.tmp 2]
def ZMy(n:Int):List AFrame:=[(ZG9 n)]
theorem Zyv(n:Int):Zam tab 84 [AV.int .i64 n]=some (ZG9 n):=rfl
def ZDi(A:Ar)(K:KT)(F:FT)(n:Int):Prop:=bB (A.eq n 0) (F (AV.bool true) none) (bB (A.eq n 1) (F (AV.bool true) none) (F (AV.bool (Zab n 2 6)) none))
theorem ZIv{n:Int} :Zaw A tab B8 84 K F M (.run 9 (.tf (.ty (.ty (.run 1 (.ty (.ty (.ty (.run 4 (.fn)))))))) (.fy (.fy (.run 1 (.tf (.ty (.ty (.run 4 (.fn)))) (.fy (.run 12 (.fy (.run 4 (.fn))))))))))) (ZMy n) []=ZDi A K F n:=by kernel_rfl
def ZEo(n:Int):AFrame:=vF 97 5 [vI 0 n] [.code a97.code] [.tmp 2]
def ZMq(n:Int):List AFrame:=[(ZEo n)]
theorem ZBq(n:Int):Zam tab 97 [AV.int .i64 n]=some (ZEo n):=rfl
def ZCo(A:Ar)(K:KT)(F:FT)(n:Int):Prop:=F (AV.bool (Zab n 2 6)) none
theorem ZIf{n:Int} :Zaw A tab B8 97 K F M (.run 11 (.fn)) (ZMq n) []=ZCo A K F n:=by kernel_rfl
def ZHw(ms ks rs l:zA)(wn fl:Int):AFrame:=vF 14 12 [(0,vU ms ks rs l wn fl)] [.code a14.code] [.tmp 2]
def ZNt(ms ks rs l:zA)(wn fl:Int):List AFrame:=[(ZHw ms ks rs l wn fl)]
theorem Zxe(ms ks rs l:zA)(wn fl:Int):Zam tab 14 [vU ms ks rs l wn fl]=some (ZHw ms ks rs l wn fl):=rfl
def ZE7(A:Ar)(K:KT)(F:FT)(ms ks rs l:zA)(wn fl:Int):Prop:=bB (Zsm ms ks rs) (F (AV.bool (A.le (A.int (A.lenA l)) 14)) none) (F (AV.bool false) none)
theorem ZKD{ms ks rs l:zA}{wn fl:Int} :Zaw A tab B8 14 K F M (.run 11 (.tf (.ty (.ty (.ty (.ty (.run 4 (.fn)))))) (.fy (.fy (.fy (.fy (.run 4 (.fn)))))))) (ZNt ms ks rs l wn fl) []=ZE7 A K F ms ks rs l wn fl:=by kernel_rfl
def ZBO(at0 mo:Int)(dn:zA)(ha:Bool)(ba:Int)(to:Bool)(dw:zI)(up:zA):AFrame:=vF 32 19 [(0,vS at0 mo dn ha ba to dw up)] [.code a32.code] [.tmp 2]
def ZOP(at0 mo:Int)(dn:zA)(ha:Bool)(ba:Int)(to:Bool)(dw:zI)(up:zA):List AFrame:=[(ZBO at0 mo dn ha ba to dw up)]
theorem ZzS(at0 mo:Int)(dn:zA)(ha:Bool)(ba:Int)(to:Bool)(dw:zI)(up:zA):Zam tab 32 [vS at0 mo dn ha ba to dw up]=some (ZBO at0 mo dn ha ba to dw up):=rfl
def ZEl(A:Ar)(K:KT)(F:FT)(at0 mo:Int)(dn:zA)(ha:Bool)(ba:Int)(to:Bool)(dw:zI)(up:zA):Prop:=bB (A.le (A.int (A.lenA dn)) 14) (bB (A.le (A.int (A.len dw)) 8) (F (AV.bool (A.le (A.int (A.lenA up)) 8)) none) (F (AV.bool false) none)) (F (AV.bool false) none)
theorem ZJh{at0 mo:Int}{dn:zA}{ha:Bool}{ba:Int}{to:Bool}{dw:zI}{up:zA} :Zaw A tab B8 32 K F M (.run 12 (.tf (.ty (.ty (.ty (.ty (.run 1 (.tf (.ty (.ty (.ty (.ty (.run 4 (.fn)))))) (.fy (.fy (.fy (.fy (.run 4 (.fn)))))))))))) (.fy (.fy (.fy (.fy (.run 1 (.fy (.fy (.fy (.fy (.fy (.run 4 (.fn)))))))))))))) (ZOP at0 mo dn ha ba to dw up) []=ZEl A K F at0 mo dn ha ba to dw up:=by kernel_rfl
def ZCe(ms ks rs l:zA)(wn fl:Int):AFrame:=vF 16 12 [(0,vU ms ks rs l wn fl)] [.code a16.code] [ARes.cell 2 true 6]
def ZNc(ms ks rs l:zA)(wn fl:Int):List AFrame:=[(ZCe ms ks rs l wn fl)]
theorem ZwU(ms ks rs l:zA)(wn fl:Int):Zam tab 16 [vU ms ks rs l wn fl]=some (ZCe ms ks rs l wn fl):=rfl
def ZBN(A:Ar)(K:KT)(F:FT)(ms ks rs l:zA)(wn fl:Int):Prop:=rB [decide (List.length l≤1000000),decide (List.length ms≤1000000∧List.length ks≤1000000∧List.length rs≤1000000)] (F (vU ms ks rs l wn fl) none)
theorem ZKq{ms ks rs l:zA}{wn fl:Int} :Zaw A tab B8 16 K F M (.run 14 (.fn)) (ZNc ms ks rs l wn fl) []=ZBN A K F ms ks rs l wn fl:=by kernel_rfl
def ZDK(at0 mo:Int)(dn:zA)(ha:Bool)(ba:Int)(to:Bool)(dw:zI)(up:zA):AFrame:=vF 35 18 [(0,vS at0 mo dn ha ba to dw up)] [.code a35.code] [ARes.cell 2 true 8]
def ZMQ(at0 mo:Int)(dn:zA)(ha:Bool)(ba:Int)(to:Bool)(dw:zI)(up:zA):List AFrame:=[(ZDK at0 mo dn ha ba to dw up)]
theorem ZA7(at0 mo:Int)(dn:zA)(ha:Bool)(ba:Int)(to:Bool)(dw:zI)(up:zA):Zam tab 35 [vS at0 mo dn ha ba to dw up]=some (ZDK at0 mo dn ha ba to dw up):=rfl
def ZDb(A:Ar)(K:KT)(F:FT)(at0 mo:Int)(dn:zA)(ha:Bool)(ba:Int)(to:Bool)(dw:zI)(up:zA):Prop:=rB [Nat.ble (0+A.lenA up) 4294967296,List.all [] fun x=>AV.bx x&&Nat.beq (Zac A x) 2,Nat.ble (0+A.len dw) 4294967296,List.all [] fun x=>AV.bx x&&Nat.beq (Zac A x) 1,Nat.ble (0+A.lenA dn) 4294967296,List.all [] fun x=>AV.bx x&&Nat.beq (Zac A x) 2] (F (vS at0 mo dn ha ba to dw up) none)
theorem ZHY{at0 mo:Int}{dn:zA}{ha:Bool}{ba:Int}{to:Bool}{dw:zI}{up:zA} :Zaw A tab B8 35 K F M (.run 50 (.fn)) (ZMQ at0 mo dn ha ba to dw up) []=ZDb A K F at0 mo dn ha ba to dw up:=by kernel_rfl
def ZGM(xs ys:zI):AFrame:=vF 29 26 [vL 0 xs,vL 1 ys] [.code a29.code] [.tmp 4]
def ZOw(xs ys:zI):List AFrame:=[(ZGM xs ys)]
theorem ZxQ(xs ys:zI):Zam tab 29 [AV.list (.ints .i64 xs),AV.list (.ints .i64 ys)]=some (ZGM xs ys):=rfl
def ZiB(xs ys:zI)(n0:Int):List AFrame:=[vF 29 26 [vL 0 xs,vL 1 ys,vI 5 n0] (vC ZDr ZJK) [.tmp 4]]
def ZgZ(xs ys:zI)(n0:Int):Zad:=[]
abbrev Zj6(xs ys:zI)(n0:Int):List AFrame×Zad:=(ZiB xs ys n0,ZgZ xs ys n0)
def Zyx(A:Ar)(K:KT)(F:FT)(xs ys:zI):Prop:=bB (A.not (A.eq (A.int (A.len xs)) (A.int (A.len ys)))) (F (AV.bool false) none) (K (Zj6 xs ys 0))
theorem ZKQ{xs ys:zI} :Zaw A tab B8 29 K F M (.run 13 (.tf (.run 5 (.fn)) (.run 9 (.hd)))) (ZOw xs ys) []=Zyx A K F xs ys:=by kernel_rfl
def Zew(A:Ar)(K:KT)(F:FT)(xs ys:zI)(n0:Int):Prop:=let u0:=A.nat n0;bB (A.lt n0 (A.int (A.len xs))) (rB [Zag (Zag (A.le 0 n0) (Nat.blt u0 (A.len ys))) true,Zag (Zag (A.le 0 n0) (Nat.blt u0 (A.len xs))) true] (bB (A.not (A.eq (A.nth xs u0) (A.nth ys u0))) (F (AV.bool false) none) (rB [A.inR .i64 (A.add n0 1)] (K (Zj6 xs ys (A.add n0 1)))))) (F (AV.bool true) none)
theorem ZjO{xs ys:zI}{n0:Int} :vT A tab B8 29 K F M (.run 9 (.tf (.run 6 (.tf (.run 5 (.fn)) (.run 9 (.hd)))) (.run 6 (.fn)))) (Zj6 xs ys n0)=Zew A K F xs ys n0:=by kernel_rfl
def ZCP(xs ys:zA):AFrame:=vF 22 26 [(0,vl vsD xs),(1,vl vsD ys)] [.code a22.code] [.tmp 4]
def ZL9(xs ys:zA):List AFrame:=[(ZCP xs ys)]
theorem Zya(xs ys:zA):Zam tab 22 [AV.list (Row.big (.agg [.int .i64, .int .i64]) xs),AV.list (Row.big (.agg [.int .i64, .int .i64]) ys)]=some (ZCP xs ys):=rfl
def Zi8(xs ys:zA)(n0:Int):List AFrame:=[vF 22 26 [(0,vl vsD xs),(1,vl vsD ys),vI 5 n0] (vC ZC3 ZKp) [.tmp 4]]
def Zga(xs ys:zA)(n0:Int):Zad:=[]
abbrev ZjS(xs ys:zA)(n0:Int):List AFrame×Zad:=(Zi8 xs ys n0,Zga xs ys n0)
def Zyd(A:Ar)(K:KT)(F:FT)(xs ys:zA):Prop:=bB (A.not (A.eq (A.int (A.lenA xs)) (A.int (A.lenA ys)))) (F (AV.bool false) none) (K (ZjS xs ys 0))
theorem ZI9{xs ys:zA} :Zaw A tab B8 22 K F M (.run 13 (.tf (.run 5 (.fn)) (.run 9 (.hd)))) (ZL9 xs ys) []=Zyd A K F xs ys:=by kernel_rfl
def Zer(A:Ar)(K:KT)(F:FT)(xs ys:zA)(n0:Int):Prop:=let u0:=A.nat n0;bB (A.lt n0 (A.int (A.lenA xs))) (rB [Zag (Zag (A.le 0 n0) (Nat.blt u0 (A.lenA ys))) true,Zag (Zag (A.le 0 n0) (Nat.blt u0 (A.lenA xs))) true] (bB (A.not (Zag (A.eq ((A.nthA xs u0).cellAt 0).toI ((A.nthA ys u0).cellAt 0).toI) (A.eq ((A.nthA xs u0).cellAt 1).toI ((A.nthA ys u0).cellAt 1).toI))) (F (AV.bool false) none) (rB [A.inR .i64 (A.add n0 1)] (K (ZjS xs ys (A.add n0 1)))))) (F (AV.bool true) none)
theorem Zj1{xs ys:zA}{n0:Int} :vT A tab B8 22 K F M (.run 9 (.tf (.run 6 (.tf (.run 5 (.fn)) (.run 9 (.hd)))) (.run 6 (.fn)))) (ZjS xs ys n0)=Zer A K F xs ys n0:=by kernel_rfl
def ZCj(ms ks rs:zA):AFrame:=vF 77 19 [(0,vM ms ks rs)] [.code a77.code] [ARes.cell 2 true 3]
def ZOU(ms ks rs:zA):List AFrame:=[(ZCj ms ks rs)]
theorem ZAE(ms ks rs:zA):Zam tab 77 [vM ms ks rs]=some (ZCj ms ks rs):=rfl
def Zmy(ms ks rs:zA):List AFrame:=[vF 77 19 [vP 1 77002,vP 2 77003,vP 3 77004,vI 4 0] (vC Zw2 ZE8) [ARes.cell 2 true 3]]
def Zkj(ms ks rs:zA):Zad:=[vH 77002 26 3 (vx [vM ms ks rs]),vH 77003 76 3 (vx [AV.agg (vx [vi 0,vi 0,AV.nils])]),vH 77004 76 3 (vx [AV.agg (vx [vi 0,vi 0,AV.nils])])]
abbrev Zqa(ms ks rs:zA):List AFrame×Zad:=(Zmy ms ks rs,Zkj ms ks rs)
def Zi2(ms ks rs:zA)(n0:Int)(l1:zI):List AFrame:=[vF 77 19 [vP 1 77002,vP 2 77003,vP 3 77004,vI 4 n0] (vC Zw2 ZE8) [ARes.cell 2 true 3]]
def Zgf(ms ks rs:zA)(n0:Int)(l1:zI):Zad:=[vH 77002 26 3 (vx [vM ms ks rs]),vH 77003 76 3 (vx [AV.agg (vx [vi 0,vi 0,AV.nils])]),vH 77004 76 3 (vx [AV.agg (vx [vi 0,vi 0,vw 77017])]),vK 77017 l1]
abbrev Zkc(ms ks rs:zA)(n0:Int)(l1:zI):List AFrame×Zad:=(Zi2 ms ks rs n0 l1,Zgf ms ks rs n0 l1)
def ZFS(A:Ar)(K:KT)(F:FT)(ms ks rs:zA):Prop:=K (Zqa ms ks rs)
theorem ZKB{ms ks rs:zA} :Zaw A tab B8 77 K F M (.run 19 (.hd)) (ZOU ms ks rs) []=ZFS A K F ms ks rs:=by kernel_rfl
def Zf3(A:Ar)(K:KT)(F:FT)(ms ks rs:zA):Prop:=bB (A.lt 0 (A.int (A.lenA ks))) (rB [A.inR .i64 (A.add 0 1),Zag (Nat.ble (A.len [-1]) 4294967296) (Nat.blt 0 (A.len [-1])),List.all [AV.int .i64 (-1)] fun x=>AV.bx x&&Nat.beq (Zac A x) 1] (K (Zkc ms ks rs (A.add 0 1) ([-1])))) (F (AV.agg (Row.gen [.int .i64 0, .int .i64 0,AV.nils])) none)
theorem Zql{ms ks rs:zA} :vT A tab B8 77 K F M (.run 10 (.tf (.run 19 (.hd)) (.run 7 (.fn)))) (Zqa ms ks rs)=Zf3 A K F ms ks rs:=by kernel_rfl
def Zgk(A:Ar)(K:KT)(F:FT)(ms ks rs:zA)(n0:Int)(l1:zI):Prop:=bB (A.lt n0 (A.int (A.lenA ks))) (rB [A.inR .i64 (A.add n0 1),Nat.ble (A.len l1+A.len [-1]) 4294967296,List.all [AV.int .i64 (-1)] fun x=>AV.bx x&&Nat.beq (Zac A x) 1] (K (Zkc ms ks rs (A.add n0 1) (A.app l1 [-1])))) (F (AV.agg (Row.gen [.int .i64 0, .int .i64 0, .list (.ints .i64 l1)])) none)
theorem Zjz{ms ks rs:zA}{n0:Int}{l1:zI} :vT A tab B8 77 K F M (.run 10 (.tf (.run 19 (.hd)) (.run 7 (.fn)))) (Zkc ms ks rs n0 l1)=Zgk A K F ms ks rs n0 l1:=by kernel_rfl
def ZDB(ek en:Int):AFrame:=vF 37 29 [(0,AV.agg (vx [.int .i64 ek, .int .i64 en]))] [.code a37.code] [.tmp 2]
def ZOB(ek en:Int):List AFrame:=[(ZDB ek en)]
theorem Zzu(ek en:Int):Zam tab 37 [AV.agg (Row.gen [.int .i64 ek, .int .i64 en])]=some (ZDB ek en):=rfl
def Zh4(A:Ar)(K:KT)(F:FT)(ek en:Int):Prop:=let u0:=rB [!A.eq 5 0] (F (AV.int .i64 (Zaa (Zab en 0 5) 2)) none);let u1:=rB [A.eq 0 0] (F (AV.int .i64 (Zaa (A.eq en 0) 3)) none);bB (A.not (Zab ek 0 8)) (F (AV.int .i64 15) none) (qB [A.eq ek 0] (rB [!A.eq 1000000000000 0] (F (AV.int .i64 (Zaa (Zab en 1 1000000000000) 2)) none)) (qB [A.eq ek (Int.ofNat 1)] (rB [!A.eq 11 0] (F (AV.int .i64 (Zaa (Zab en 0 11) 2)) none)) (qB [A.eq ek (Int.ofNat 2)] u0 (qB [A.eq ek (Int.ofNat 3)] u0 (qB [A.eq ek (Int.ofNat 4)] u0 (qB [A.eq ek (Int.ofNat 5)] u0 (qB [A.eq ek (Int.ofNat 6)] u0 (qB [A.eq ek (Int.ofNat 7)] u1 (rB [A.eq ek (Int.ofNat 8)] u1)))))))))
theorem ZIu{ek en:Int} :Zaw A tab B8 37 K F M (.run 40 (.tf (.run 5 (.fn)) (.run 5 (.alt [true] (.run 11 (.fy (.run 15 (.fn)))) (.alt [false,true] (.run 11 (.fy (.run 15 (.fn)))) (.alt [false,false,true] (.run 11 (.fy (.run 15 (.fn)))) (.alt [false,false,false,true] (.run 11 (.fy (.run 15 (.fn)))) (.alt [false,false,false,false,true] (.run 11 (.fy (.run 15 (.fn)))) (.alt [false,false,false,false,false,true] (.run 11 (.fy (.run 15 (.fn)))) (.alt [false,false,false,false,false,false,true] (.run 11 (.fy (.run 15 (.fn)))) (.alt [false,false,false,false,false,false,false,true] (.run 11 (.ty (.run 9 (.fn)))) (.alt [false,false,false,false,false,false,false,false,true] (.run 11 (.ty (.run 9 (.fn)))) (.no))))))))))))) (ZOB ek en) []=Zh4 A K F ek en:=by kernel_rfl
def ZDQ(xs ys:zA):AFrame:=vF 47 26 [(0,vl vsD xs),(1,vl vsD ys)] [.code a47.code] [.tmp 4]
def ZOj(xs ys:zA):List AFrame:=[(ZDQ xs ys)]
theorem Zyf(xs ys:zA):Zam tab 47 [AV.list (Row.big (.agg [.int .i64, .int .i64]) xs),AV.list (Row.big (.agg [.int .i64, .int .i64]) ys)]=some (ZDQ xs ys):=rfl
def ZiF(xs ys:zA)(n0:Int):List AFrame:=[vF 47 26 [(0,vl vsD xs),(1,vl vsD ys),vI 5 n0] (vC ZD4 ZKK) [.tmp 4]]
def ZgK(xs ys:zA)(n0:Int):Zad:=[]
abbrev Zjn(xs ys:zA)(n0:Int):List AFrame×Zad:=(ZiF xs ys n0,ZgK xs ys n0)
def ZzB(A:Ar)(K:KT)(F:FT)(xs ys:zA):Prop:=bB (A.not (A.eq (A.int (A.lenA xs)) (A.int (A.lenA ys)))) (F (AV.bool false) none) (K (Zjn xs ys 0))
theorem ZJU{xs ys:zA} :Zaw A tab B8 47 K F M (.run 13 (.tf (.run 5 (.fn)) (.run 9 (.hd)))) (ZOj xs ys) []=ZzB A K F xs ys:=by kernel_rfl
def ZeA(A:Ar)(K:KT)(F:FT)(xs ys:zA)(n0:Int):Prop:=let u0:=A.nat n0;bB (A.lt n0 (A.int (A.lenA xs))) (rB [Zag (Zag (A.le 0 n0) (Nat.blt u0 (A.lenA ys))) true,Zag (Zag (A.le 0 n0) (Nat.blt u0 (A.lenA xs))) true] (bB (A.not (Zag (A.eq ((A.nthA xs u0).cellAt 0).toI ((A.nthA ys u0).cellAt 0).toI) (A.eq ((A.nthA xs u0).cellAt 1).toI ((A.nthA ys u0).cellAt 1).toI))) (F (AV.bool false) none) (rB [A.inR .i64 (A.add n0 1)] (K (Zjn xs ys (A.add n0 1)))))) (F (AV.bool true) none)
theorem Zkx{xs ys:zA}{n0:Int} :vT A tab B8 47 K F M (.run 9 (.tf (.run 6 (.tf (.run 5 (.fn)) (.run 9 (.hd)))) (.run 6 (.fn)))) (Zjn xs ys n0)=ZeA A K F xs ys n0:=by kernel_rfl
def ZGW(xs:zI):AFrame:=vF 81 6 [vL 0 xs] [.code a81.code] [.tmp 2]
def ZNe(xs:zI):List AFrame:=[(ZGW xs)]
theorem ZwV(xs:zI):Zam tab 81 [AV.list (.ints .i64 xs)]=some (ZGW xs):=rfl
def ZFT(A:Ar)(K:KT)(F:FT)(xs:zI):Prop:=rB [Nat.ble (0+A.len xs) 4294967296,List.all [] fun x=>AV.bx x&&Nat.beq (Zac A x) 1] (F (AV.row 0 0) (some { e:=3,sz:=1,r:=.ints .i64 xs }))
theorem ZIU{xs:zI} :Zaw A tab B8 81 K F M (.run 12 (.fn)) (ZNe xs) []=ZFT A K F xs:=by kernel_rfl
end Go.Proofs.YtkeoeooghhjibaaGreatDoor
namespace Go.Proofs.YtkeoeooghhjibaaGreatDoor
variable {A:Ar}{K:KT}{F:FT}{M:MT}
theorem Zs4{ms ks rs:zA}(h:Zsm ms ks rs=true):ZaC ms ks rs=true∧ms.length≤8∧ks.length≤10∧rs.length≤12:=by
 simp only[Zsm,Bool.and_eq_true,decide_eq_true_eq,List.all_eq_true,ZGt,ZqR]at h
 obtain⟨h1,h2,h3,h4⟩:=h
 simp only[ZaC,Bool.and_eq_true,decide_eq_true_eq,List.all_eq_true]
 refine⟨⟨⟨⟨fun x hx=>?_,fun x hx=>?_⟩,fun x hx=>?_⟩,by omega⟩,h1⟩
 ·have:=h2 x hx;omega
 ·have:=h3 x hx;omega
 ·have:=h4 x hx;omega
def Zso(ms ks rs l:zA):Int:=Zdc (ZaN ms ks rs) ks.length l
theorem ZoD{ms ks rs:zA}(h:ZaC ms ks rs=true):ms.length≤1000000∧ks.length≤1000000∧rs.length≤1000000:=by
 simp only[ZaC,Bool.and_eq_true,decide_eq_true_eq]at h
 exact h.2
def upE(ms ks rs l:zA)(wn fl:Int):Int:=if Zso ms ks rs l=0 then(if Zab wn 1 6=true∧Zab fl 1 6=true then 0 else 2)else Zso ms ks rs l
def ZjR(ms ks rs l:zA):Bool:=Zsm ms ks rs&&decide (l.length≤14)
def ZmP(dn:zA)(dw:zI)(up:zA):Bool:=decide (dn.length≤14∧dw.length≤8∧up.length≤8)
def ZzI(n:Int):Bool:=decide (n=0∨n=1)||Zab n 2 6
def evE(ek en:Int):Int:=if Zab ek 0 8=true then(if ek=0 then Zaa (Zab en 1 1000000000000) 2 else if ek=1 then Zaa (Zab en 0 11) 2 else if Zab ek 2 6=true then Zaa (Zab en 0 5) 2 else Zaa (decide (en=0)) 3)else 15
def eq2(x y:AV):Bool:=decide ((x.cellAt 0).toI=(y.cellAt 0).toI∧(x.cellAt 1).toI=(y.cellAt 1).toI)
def Zcj(e:AV→AV→Bool):zA→zA→Bool
 |[],[]=>true
 |x::xs,y::ys=>e x y&&Zcj e xs ys
 |_,_=>false
theorem ZlE{e:AV→AV→Bool} :∀ {xs ys:zA},Zcj e xs ys=true→xs.length=ys.length
 |[],[],_=>rfl
 |x::xs,y::ys,h=>by
  simp only[Zcj,Bool.and_eq_true]at h
  simp[ZlE h.2]
 |[],y::ys,h=>by cases h
 |x::xs,[],h=>by cases h
theorem Zev{e:AV→AV→Bool}(he:∀x,e x x=true):∀xs:zA,Zcj e xs xs=true
 |[]=>rfl
 |x::xs=>by simp only[Zcj,he,Zev he xs,Bool.and_self]
theorem Zpt(x:AV):eq2 x x=true:=by simp[eq2]
theorem Zi6{xs:zA}{k:Nat}(h:k<xs.length):xs.drop k=xs.getD k .top::xs.drop (k+1):=by
 rw[List.drop_eq_getElem_cons h,List.getD_eq_getElem?_getD,List.getElem?_eq_getElem h];rfl
theorem Zrj{xs:zI}{k:Nat}(h:k<xs.length):xs.drop k=xs.getD k 0::xs.drop (k+1):=by
 rw[List.drop_eq_getElem_cons h,List.getD_eq_getElem?_getD,List.getElem?_eq_getElem h];rfl
theorem Zt5(ms ks rs l:zA)(h:ZaC ms ks rs=true∧l.length≤1000000):Zan Tryz.prog 28 [vM ms ks rs, .list (.big (.agg [.int .i64, .int .i64, .int .i64]) l)] (.int .i64 (Zso ms ks rs l)) none:=
 start (Zyc ms ks rs l) fun C hC=>tgo hC Zb8 ZKI (by
  have:=ZoD h.1
  by_cases he:ZaN ms ks rs=0<;>simp[ZGF,h.1,h.2,he,Zso,ZoT,this])
theorem Zvo(ms ks rs l:zA)(wn fl:Int)(h:ZaC ms ks rs=true∧l.length≤1000000):Zan Tryz.prog 19 [vU ms ks rs l wn fl] (.int .i64 (upE ms ks rs l wn fl)) none:=
 start (Zxa ms ks rs l wn fl) fun C hC=>tgo hC Zb8 ZJR (by
  have:=ZoD h.1
  by_cases he:ZaN ms ks rs=0
  ·by_cases hf:Zdc 0 ks.length l=0<;>by_cases h1:Zab wn 1 6=true<;>by_cases h2:Zab fl 1 6=true<;>simp[Zxu,h.1,h.2,he,upE,Zso,this,hf,h1,h2]
  ·simp[Zxu,h.1,he,upE,Zso,ZoT])
theorem bxA(a b:Int):([AV.int .i64 a,AV.int .i64 b].all fun x=>AV.bx x&&Nat.beq (Zac std x) 1)=true:=rfl
theorem Zty(ms ks rs l:zA)(wn fl:Int)(h:ZaC ms ks rs=true∧l.length≤1000000):Zan Tryz.prog 36 [vU ms ks rs l wn fl] (.int .i64 (upE ms ks rs l wn fl)) none:=
 start (Zzy ms ks rs l wn fl) fun C hC=>tgo hC Zb8 ZH0 (by
  unfold ZE3
  simp only[bxA]
  by_cases hf:Zso ms ks rs l=0<;>by_cases h1:Zab wn 1 6=true<;>by_cases h2:Zab fl 1 6=true<;>(have hf':=hf;unfold Zso at hf';simp[h.1,h.2,upE,hf,hf',h1,h2,Zae,Zaa,Zso]))
theorem ZAk(ek en:Int):Zan Tryz.prog 38 [.agg (.gen [.int .i64 ek, .int .i64 en])] (.int .i64 (evE ek en)) none:=
 start (ZAH ek en) fun C hC=>tgo hC Zb8 ZIw (by
  by_cases h1:Zab ek 0 8=true
  ·by_cases h2:ek=0
   ·subst h2
    by_cases h3:Zab en 1 1000000000000=true<;>simp[Zp7,h1,evE,Zaa,h3]
   ·by_cases h4:ek=1
    ·subst h4
     by_cases h3:Zab en 0 11=true<;>simp[Zp7,h1,evE,Zaa,h3]
    ·by_cases h5:Zab ek 2 6=true
     ·by_cases h3:Zab en 0 5=true<;>simp[Zp7,h1,h2,h4,h5,evE,Zaa,h3]
     ·by_cases h3:en=0<;>simp[Zp7,h1,h2,h4,h5,evE,Zaa,h3]
  ·simp[Zp7,h1,evE])
theorem ZyI(ek en:Int):Zan Tryz.prog 37 [.agg (.gen [.int .i64 ek, .int .i64 en])] (.int .i64 (evE ek en)) none:=
 start (Zzu ek en) fun C hC=>tgo hC Zb8 ZIu (by
  by_cases h1:Zab ek 0 8=true
  ·have h2:=within_iff.1 h1
   obtain⟨n,rfl⟩:∃n:Nat,ek=n:=⟨ek.toNat,by omega⟩
   have h3:n≤8:=by omega
   match n,h3 with
   |0,_=>simp[Zh4,evE,Zab]
   |1,_=>simp[Zh4,evE,Zab]
   |2,_=>simp[Zh4,h1,evE,Zab]
   |3,_=>simp[Zh4,h1,evE,Zab]
   |4,_=>simp[Zh4,h1,evE,Zab]
   |5,_=>simp[Zh4,h1,evE,Zab]
   |6,_=>simp[Zh4,h1,evE,Zab]
   |7,_=>simp[Zh4,h1,evE,Zab]
   |8,_=>simp[Zh4,h1,evE,Zab]
  ·simp[Zh4,h1,evE])
theorem Zuz(n:Int):Zan Tryz.prog 84 [.int .i64 n] (.bool (ZzI n)) none:=
 start (Zyv n) fun C hC=>tgo hC Zb8 ZIv (by
  by_cases h1:n=0<;>by_cases h2:n=1<;>simp[ZDi,h1,h2,ZzI])
theorem ZuX(n:Int):Zan Tryz.prog 97 [.int .i64 n] (.bool (Zab n 2 6)) none:=
 start (ZBq n) fun C hC=>tgo hC Zb8 ZIf (by simp[ZCo])
theorem ZqO(ms ks rs l:zA)(wn fl:Int):Zan Tryz.prog 14 [vU ms ks rs l wn fl] (.bool (ZjR ms ks rs l)) none:=
 start (Zxe ms ks rs l wn fl) fun C hC=>tgo hC Zb8 ZKD (by
  by_cases h1:Zsm ms ks rs=true<;>by_cases h2:l.length≤14<;>simp[ZE7,h1,h2,ZjR]<;>omega)
theorem ZqJ(at0 mo:Int)(dn:zA)(ha:Bool)(ba:Int)(to:Bool)(dw:zI)(up:zA):Zan Tryz.prog 32 [vS at0 mo dn ha ba to dw up] (.bool (ZmP dn dw up)) none:=
 start (ZzS at0 mo dn ha ba to dw up) fun C hC=>tgo hC Zb8 ZJh (by
  by_cases h1:dn.length≤14<;>by_cases h2:dw.length≤8<;>by_cases h3:up.length≤8<;>simp[ZEl,ZmP,h1,h2,h3,show ∀(n m:Nat),((n:Int)≤(m:Int))=(n≤m)from fun _ _=>by simp]<;>omega)
theorem Zue(ms ks rs l:zA)(wn fl:Int)(h:ms.length≤1000000∧ks.length≤1000000∧rs.length≤1000000∧l.length≤1000000):Zan Tryz.prog 16 [vU ms ks rs l wn fl] (vU ms ks rs l wn fl) none:=
 start (ZwU ms ks rs l wn fl) fun C hC=>tgo hC Zb8 ZKq (by simp[ZBN,h])
theorem Zt3(at0 mo:Int)(dn:zA)(ha:Bool)(ba:Int)(to:Bool)(dw:zI)(up:zA)(h:dn.length≤1000000∧dw.length≤1000000∧up.length≤1000000):Zan Tryz.prog 35 [vS at0 mo dn ha ba to dw up] (vS at0 mo dn ha ba to dw up) none:=
 start (ZA7 at0 mo dn ha ba to dw up) fun C hC=>tgo hC Zb8 ZHY (by simp[ZDb];omega)
theorem Zh0(xs:zI)(h:xs.length≤1000000):Zan Tryz.prog 81 [.list (.ints .i64 xs)] (.row 0 0) (some ⟨3,1, .ints .i64 xs⟩):=
 start (ZwV xs) fun C hC=>tgo hC Zb8 ZIU (by simp[ZFT];omega)
theorem ZrZ(xs:zI)(h:xs.length≤1000000):Zan Tryz.prog 81 [.list (.ints .i64 xs)] (.list (.ints .i64 xs)) ZpJ:=Zzl (Zh0 xs h) rfl rfl
theorem Zly{C:Ctx}(hC:C.P=Tryz.prog)(xs ys:zI)(hl:xs.length≤1000000∧xs.length=ys.length):∀m k:Nat,k+m=xs.length→vE C (Zj6 xs ys k) (Zco 29 (.bool (decide (xs.drop k=ys.drop k))) none)
 |0,k,hk=>tgo hC Zb8 ZjO (by
  rw[List.drop_of_length_le (by omega),List.drop_of_length_le (by omega)]
  simp[Zew,show ¬(k:Int)<xs.length by omega])
 |m+1,k,hk=>by
  have ih:=Zly hC xs ys hl m (k+1) (by omega)
  rw[Zrj (show k<xs.length by omega),Zrj (show k<ys.length by omega)]
  refine tgo hC Zb8 ZjO ?_
  by_cases h:xs.getD k 0=ys.getD k 0
  ·simp[-List.getD_eq_getElem?_getD,Zew,show(k:Int)<xs.length by omega,show k<xs.length by omega,show k<ys.length by omega,h]
   exact⟨by omega,by simpa using ih⟩
  ·simp[-List.getD_eq_getElem?_getD,Zew,show(k:Int)<xs.length by omega,show k<xs.length by omega,show k<ys.length by omega,h]
theorem Zsd(xs ys:zI)(hl:xs.length≤1000000):Zan Tryz.prog 29 [.list (.ints .i64 xs), .list (.ints .i64 ys)] (.bool (decide (xs=ys))) none:=
 start (ZxQ xs ys) fun C hC=>tgo hC Zb8 ZKQ (by
  by_cases h:xs.length=ys.length
  ·simp[Zyx,h]
   have:=Zly hC xs ys ⟨hl,h⟩ xs.length 0 (by omega)
   simpa using this
  ·have:xs≠ys:=fun e=>h (by rw[e])
   simp[Zyx,this,show ¬((xs.length:Int)=ys.length) by omega])
theorem ZmR{C:Ctx}(hC:C.P=Tryz.prog)(xs ys:zA)(hl:xs.length≤1000000∧xs.length=ys.length):∀m k:Nat,k+m=xs.length→vE C (ZjS xs ys k) (Zco 22 (.bool (Zcj eq2 (xs.drop k) (ys.drop k))) none)
 |0,k,hk=>tgo hC Zb8 Zj1 (by
  rw[List.drop_of_length_le (by omega),List.drop_of_length_le (by omega)]
  simp[Zer,show ¬(k:Int)<xs.length by omega,Zcj])
 |m+1,k,hk=>by
  have ih:=ZmR hC xs ys hl m (k+1) (by omega)
  rw[Zi6 (show k<xs.length by omega),Zi6 (show k<ys.length by omega),Zcj]
  refine tgo hC Zb8 Zj1 ?_
  by_cases h:eq2 (xs.getD k .top) (ys.getD k .top)=true
  ·rw[h,Bool.true_and]
   simp[-List.getD_eq_getElem?_getD,eq2]at h
   simp[-List.getD_eq_getElem?_getD,Zer,show(k:Int)<xs.length by omega,show k<xs.length by omega,show k<ys.length by omega,h]
   exact⟨by omega,by simpa using ih⟩
  ·rw[(by simpa using h:eq2 (xs.getD k .top) (ys.getD k .top)=false),Bool.false_and]
   simp only[eq2,decide_eq_true_eq,not_and]at h
   simp[-List.getD_eq_getElem?_getD,Zer,show(k:Int)<xs.length by omega,show k<xs.length by omega,show k<ys.length by omega]
   exact fun h1 h2=>absurd h2 (h h1)
theorem Zlt{e:AV→AV→Bool}{xs ys:zA}(h:xs.length≠ys.length):Zcj e xs ys=false:=by
 cases hb:Zcj e xs ys
 ·rfl
 ·exact absurd (ZlE hb) h
theorem Ztu(xs ys:zA)(hl:xs.length≤1000000):Zan Tryz.prog 22 [.list (.big (.agg [.int .i64, .int .i64]) xs), .list (.big (.agg [.int .i64, .int .i64]) ys)] (.bool (Zcj eq2 xs ys)) none:=
 start (Zya xs ys) fun C hC=>tgo hC Zb8 ZI9 (by
  by_cases h:xs.length=ys.length
  ·simp[Zyd,h]
   have:=ZmR hC xs ys ⟨hl,h⟩ xs.length 0 (by omega)
   simpa using this
  ·simp[Zyd,Zlt h,show ¬((xs.length:Int)=ys.length) by omega])
theorem ZoA{C:Ctx}(hC:C.P=Tryz.prog)(xs ys:zA)(hl:xs.length≤1000000∧xs.length=ys.length):∀m k:Nat,k+m=xs.length→vE C (Zjn xs ys k) (Zco 47 (.bool (Zcj eq2 (xs.drop k) (ys.drop k))) none)
 |0,k,hk=>tgo hC Zb8 Zkx (by
  rw[List.drop_of_length_le (by omega),List.drop_of_length_le (by omega)]
  simp[ZeA,show ¬(k:Int)<xs.length by omega,Zcj])
 |m+1,k,hk=>by
  have ih:=ZoA hC xs ys hl m (k+1) (by omega)
  rw[Zi6 (show k<xs.length by omega),Zi6 (show k<ys.length by omega),Zcj]
  refine tgo hC Zb8 Zkx ?_
  by_cases h:eq2 (xs.getD k .top) (ys.getD k .top)=true
  ·rw[h,Bool.true_and]
   simp[-List.getD_eq_getElem?_getD,eq2]at h
   simp[-List.getD_eq_getElem?_getD,ZeA,show(k:Int)<xs.length by omega,show k<xs.length by omega,show k<ys.length by omega,h]
   exact⟨by omega,by simpa using ih⟩
  ·rw[(by simpa using h:eq2 (xs.getD k .top) (ys.getD k .top)=false),Bool.false_and]
   simp only[eq2,decide_eq_true_eq,not_and]at h
   simp[-List.getD_eq_getElem?_getD,ZeA,show(k:Int)<xs.length by omega,show k<xs.length by omega,show k<ys.length by omega]
   exact fun h1 h2=>absurd h2 (h h1)
theorem Zvz(xs ys:zA)(hl:xs.length≤1000000):Zan Tryz.prog 47 [.list (.big (.agg [.int .i64, .int .i64]) xs), .list (.big (.agg [.int .i64, .int .i64]) ys)] (.bool (Zcj eq2 xs ys)) none:=
 start (Zyf xs ys) fun C hC=>tgo hC Zb8 ZJU (by
  by_cases h:xs.length=ys.length
  ·simp[ZzB,h]
   have:=ZoA hC xs ys ⟨hl,h⟩ xs.length 0 (by omega)
   simpa using this
  ·simp[ZzB,Zlt h,show ¬((xs.length:Int)=ys.length) by omega])
theorem Zvl(n:Nat)(x:Int):List.replicate n x++[x]=List.replicate (n+1) x:=by
 rw[List.replicate_succ']
theorem Zps{C:Ctx}(hC:C.P=Tryz.prog)(ms ks rs:zA)(hl:ks.length≤1000000):∀m k:Nat,k+m=ks.length→vE C (Zkc ms ks rs k (List.replicate k (-1))) (Zhe 77 (.agg (.gen [.int .i64 0, .int .i64 0, .list (.ints .i64 (List.replicate ks.length (-1)))])) none)
 |0,k,hk=>ZeE hC Zb8 Zjz (by
  have:k=ks.length:=by omega
  subst this
  simp[Zgk]
  exact .same _)
 |m+1,k,hk=>by
  have ih:=Zps hC ms ks rs hl m (k+1) (by omega)
  rw[←Zvl]at ih
  refine ZeE hC Zb8 Zjz ?_
  simp[Zgk,show(k:Int)<ks.length by omega,AV.bx,Zac]
  exact⟨by omega,by simpa using ih⟩
theorem Zva(ms ks rs:zA)(hl:ks.length≤1000000):Zan Tryz.prog 77 [vM ms ks rs] (.agg (.gen [.int .i64 0, .int .i64 0, .list (.ints .i64 (List.replicate ks.length (-1)))])) none:=
 Zd4 (ZAE ms ks rs) fun C hC=>ZeE hC Zb8 ZKB (by
  simp only[ZFS]
  refine ZeE hC Zb8 Zql ?_
  by_cases h:ks.length=0
  ·simp[Zf3,h]
   exact .agg' ⟨.same _, .same _, .nil _ rfl,trivial⟩
  ·have:=Zps hC ms ks rs hl (ks.length-1) 1 (by omega)
   simp[Zf3,show 0<ks.length by omega,AV.bx,Zac]
   simpa using this)
def k28:Ctr:=⟨28,0,fun _ a=>match a with |[.agg (.gen [.list (.big .str ms), .list (.big (.agg [.str, .int .i64]) ks), .list (.big (.agg [.str, .int .i64, .int .i64, .int .i64, .int .i64]) rs)]), .list (.big (.agg [.int .i64, .int .i64, .int .i64]) l)]=>some (decide (ZaC ms ks rs=true∧l.length≤1000000), .int .i64 (Zso ms ks rs l),none) |_=>none⟩
theorem ZFn:k28.OK Tryz.prog:=fun pa args r fr h=>by
 simp only[k28]at h
 split at h
 ·simp only[zS,zP,decide_eq_true_eq]at h
  obtain⟨h0,rfl,rfl⟩:=h
  exact Zt5 _ _ _ _ h0
 ·cases h
def k19:Ctr:=⟨19,0,fun _ a=>match a with |[.agg (.gen [.list (.big .str ms), .list (.big (.agg [.str, .int .i64]) ks), .list (.big (.agg [.str, .int .i64, .int .i64, .int .i64, .int .i64]) rs), .list (.big (.agg [.int .i64, .int .i64, .int .i64]) l), .int .i64 wn, .int .i64 fl])]=>some (decide (ZaC ms ks rs=true∧l.length≤1000000), .int .i64 (upE ms ks rs l wn fl),none) |_=>none⟩
theorem ZE4:k19.OK Tryz.prog:=fun pa args r fr h=>by
 simp only[k19]at h
 split at h
 ·simp only[zS,zP,decide_eq_true_eq]at h
  obtain⟨h0,rfl,rfl⟩:=h
  exact Zvo _ _ _ _ _ _ h0
 ·cases h
def k36:Ctr:=⟨36,0,fun _ a=>match a with |[.agg (.gen [.list (.big .str ms), .list (.big (.agg [.str, .int .i64]) ks), .list (.big (.agg [.str, .int .i64, .int .i64, .int .i64, .int .i64]) rs), .list (.big (.agg [.int .i64, .int .i64, .int .i64]) l), .int .i64 wn, .int .i64 fl])]=>some (decide (ZaC ms ks rs=true∧l.length≤1000000), .int .i64 (upE ms ks rs l wn fl),none) |_=>none⟩
theorem ZBP:k36.OK Tryz.prog:=fun pa args r fr h=>by
 simp only[k36]at h
 split at h
 ·simp only[zS,zP,decide_eq_true_eq]at h
  obtain⟨h0,rfl,rfl⟩:=h
  exact Zty _ _ _ _ _ _ h0
 ·cases h
def k38:Ctr:=⟨38,0,fun _ a=>match a with |[.agg (.gen [.int .i64 ek, .int .i64 en])]=>some (true, .int .i64 (evE ek en),none) |_=>none⟩
theorem ZFl:k38.OK Tryz.prog:=fun pa args r fr h=>by
 simp only[k38]at h
 split at h
 ·cases h
  exact ZAk _ _
 ·cases h
def k37:Ctr:=⟨37,0,fun _ a=>match a with |[.agg (.gen [.int .i64 ek, .int .i64 en])]=>some (true, .int .i64 (evE ek en),none) |_=>none⟩
theorem ZCp:k37.OK Tryz.prog:=fun pa args r fr h=>by
 simp only[k37]at h
 split at h
 ·cases h
  exact ZyI _ _
 ·cases h
def k84:Ctr:=⟨84,0,fun _ a=>match a with |[.int .i64 n]=>some (true, .bool (ZzI n),none) |_=>none⟩
theorem ZGk:k84.OK Tryz.prog:=fun pa args r fr h=>by
 simp only[k84]at h
 split at h
 ·cases h
  exact Zuz _
 ·cases h
def k97:Ctr:=⟨97,0,fun _ a=>match a with |[.int .i64 n]=>some (true, .bool (Zab n 2 6),none) |_=>none⟩
theorem ZGI:k97.OK Tryz.prog:=fun pa args r fr h=>by
 simp only[k97]at h
 split at h
 ·cases h
  exact ZuX _
 ·cases h
def k14:Ctr:=⟨14,0,fun _ a=>match a with |[.agg (.gen [.list (.big .str ms), .list (.big (.agg [.str, .int .i64]) ks), .list (.big (.agg [.str, .int .i64, .int .i64, .int .i64, .int .i64]) rs), .list (.big (.agg [.int .i64, .int .i64, .int .i64]) l), .int .i64 _, .int .i64 _])]=>some (true, .bool (ZjR ms ks rs l),none) |_=>none⟩
theorem ZFq:k14.OK Tryz.prog:=fun pa args r fr h=>by
 simp only[k14]at h
 split at h
 ·cases h
  exact ZqO _ _ _ _ _ _
 ·cases h
def k32:Ctr:=⟨32,0,fun _ a=>match a with |[.agg (.gen [.int .i64 _, .int .i64 _, .list (.big (.agg [.int .i64, .int .i64]) dn), .bool _, .int .i64 _, .bool _, .list (.ints .i64 dw), .list (.big (.agg [.int .i64, .bool]) up)])]=>some (true, .bool (ZmP dn dw up),none) |_=>none⟩
theorem ZDP:k32.OK Tryz.prog:=fun pa args r fr h=>by
 simp only[k32]at h
 split at h
 ·cases h
  exact ZqJ _ _ _ _ _ _ _ _
 ·cases h
def k16:Ctr:=⟨16,0,fun _ a=>match a with |[.agg (.gen [.list (.big .str ms), .list (.big (.agg [.str, .int .i64]) ks), .list (.big (.agg [.str, .int .i64, .int .i64, .int .i64, .int .i64]) rs), .list (.big (.agg [.int .i64, .int .i64, .int .i64]) l), .int .i64 wn, .int .i64 fl])]=>some (decide (ms.length≤1000000∧ks.length≤1000000∧rs.length≤1000000∧l.length≤1000000), (vU ms ks rs l wn fl),none) |_=>none⟩
theorem ZCv:k16.OK Tryz.prog:=fun pa args r fr h=>by
 simp only[k16]at h
 split at h
 ·simp only[zS,zP,decide_eq_true_eq]at h
  obtain⟨h0,rfl,rfl⟩:=h
  exact Zue _ _ _ _ _ _ h0
 ·cases h
def k35:Ctr:=⟨35,0,fun _ a=>match a with |[.agg (.gen [.int .i64 at0, .int .i64 mo, .list (.big (.agg [.int .i64, .int .i64]) dn), .bool ha, .int .i64 ba, .bool to, .list (.ints .i64 dw), .list (.big (.agg [.int .i64, .bool]) up)])]=>some (decide (dn.length≤1000000∧dw.length≤1000000∧up.length≤1000000), (vS at0 mo dn ha ba to dw up),none) |_=>none⟩
theorem ZFo:k35.OK Tryz.prog:=fun pa args r fr h=>by
 simp only[k35]at h
 split at h
 ·simp only[zS,zP,decide_eq_true_eq]at h
  obtain⟨h0,rfl,rfl⟩:=h
  exact Zt3 _ _ _ _ _ _ _ _ h0
 ·cases h
def k29:Ctr:=⟨29,0,fun _ a=>match a with |[.list (.ints .i64 xs), .list (.ints .i64 ys)]=>some (decide (xs.length≤1000000), .bool (decide (xs=ys)),none) |_=>none⟩
theorem ZCV:k29.OK Tryz.prog:=fun pa args r fr h=>by
 simp only[k29]at h
 split at h
 ·simp only[zS,zP,decide_eq_true_eq]at h
  obtain⟨h0,rfl,rfl⟩:=h
  exact Zsd _ _ h0
 ·cases h
def k22:Ctr:=⟨22,0,fun _ a=>match a with |[.list (.big (.agg [.int .i64, .int .i64]) xs), .list (.big (.agg [.int .i64, .int .i64]) ys)]=>some (decide (xs.length≤1000000), .bool (Zcj eq2 xs ys),none) |_=>none⟩
theorem ZC4:k22.OK Tryz.prog:=fun pa args r fr h=>by
 simp only[k22]at h
 split at h
 ·simp only[zS,zP,decide_eq_true_eq]at h
  obtain⟨h0,rfl,rfl⟩:=h
  exact Ztu _ _ h0
 ·cases h
def k47:Ctr:=⟨47,0,fun _ a=>match a with |[.list (.big (.agg [.int .i64, .int .i64]) xs), .list (.big (.agg [.int .i64, .int .i64]) ys)]=>some (decide (xs.length≤1000000), .bool (Zcj eq2 xs ys),none) |_=>none⟩
theorem ZFt:k47.OK Tryz.prog:=fun pa args r fr h=>by
 simp only[k47]at h
 split at h
 ·simp only[zS,zP,decide_eq_true_eq]at h
  obtain⟨h0,rfl,rfl⟩:=h
  exact Zvz _ _ h0
 ·cases h
def k77:Ctr:=⟨77,0,fun _ a=>match a with |[.agg (.gen [.list (.big .str _), .list (.big (.agg [.str, .int .i64]) ks), .list (.big (.agg [.str, .int .i64, .int .i64, .int .i64, .int .i64]) _)])]=>some (decide (ks.length≤1000000), .agg (.gen [.int .i64 0, .int .i64 0, .list (.ints .i64 (List.replicate ks.length (-1)))]),none) |_=>none⟩
theorem ZEk:k77.OK Tryz.prog:=fun pa args r fr h=>by
 simp only[k77]at h
 split at h
 ·simp only[zS,zP,decide_eq_true_eq]at h
  obtain⟨h0,rfl,rfl⟩:=h
  exact Zva _ _ _ h0
 ·cases h
def B9:List Ctr:=[k28,k19,k36,k38,k37,k84,k97,k14,k32,k16,k35,k29,k22,k47,k77]++B8
theorem ZI4:ZaF Tryz.prog B9:=⟨ZFn,⟨ZE4,⟨ZBP,⟨ZFl,⟨ZCp,⟨ZGk,⟨ZGI,⟨ZFq,⟨ZDP,⟨ZCv,⟨ZFo,⟨ZCV,⟨ZC4,⟨ZFt,⟨ZEk,Zb8⟩⟩⟩⟩⟩⟩⟩⟩⟩⟩⟩⟩⟩⟩⟩
end Go.Proofs.YtkeoeooghhjibaaGreatDoor
namespace Go.Proofs.YtkeoeooghhjibaaGreatDoor
variable {A:Ar}{K:KT}{F:FT}{M:MT}
set_option maxRecDepth 1000000
def rp0:Fact:=⟨179,[(.int .u64 1),(.int .u64 0)],(.tup [(.int .u64 0),(.int .u64 0)]),none⟩
theorem ZFr:Zan Tryz.prog rp0.f rp0.args rp0.r rp0.fr:=Zaf (n:=100000) (l:=[]) follows Zah trivial (by kernel_rfl)
def rp1:Fact:=⟨152,[(.int .u64 1),(.int .u64 0)],(.tup [(.int .u64 0),(.int .u64 0)]),none⟩
theorem ZDF:Zan Tryz.prog rp1.f rp1.args rp1.r rp1.fr:=Zaf (n:=100000) (l:=[rp0]) follows Zah ⟨ZFr,trivial⟩ (by kernel_rfl)
def rp2:Fact:=⟨121,[(.list (.ints .i64 [(-1)])),(.int .i64 0)],(.row 0 0),(some ⟨3,1,(.ints .i64 [])⟩)⟩
theorem ZCh:Zan Tryz.prog rp2.f rp2.args rp2.r rp2.fr:=Zaf (n:=100000) (l:=[rp1]) follows Zah ⟨ZDF,trivial⟩ (by kernel_rfl)
def rp3:Fact:=⟨179,[(.int .u64 1),(.int .u64 1)],(.tup [(.int .u64 0),(.int .u64 1)]),none⟩
theorem ZHa:Zan Tryz.prog rp3.f rp3.args rp3.r rp3.fr:=Zaf (n:=100000) (l:=[]) follows Zah trivial (by kernel_rfl)
def rp4:Fact:=⟨152,[(.int .u64 1),(.int .u64 1)],(.tup [(.int .u64 0),(.int .u64 1)]),none⟩
theorem ZDE:Zan Tryz.prog rp4.f rp4.args rp4.r rp4.fr:=Zaf (n:=100000) (l:=[rp3]) follows Zah ⟨ZHa,trivial⟩ (by kernel_rfl)
def rp5:Fact:=⟨121,[(.list (.ints .i64 [(-1)])),(.int .i64 1)],(.row 0 0),(some ⟨3,1,(.ints .i64 [(-1)])⟩)⟩
theorem ZCT:Zan Tryz.prog rp5.f rp5.args rp5.r rp5.fr:=Zaf (n:=100000) (l:=[rp4]) follows Zah ⟨ZDE,trivial⟩ (by kernel_rfl)
def rp6:Fact:=⟨179,[(.int .u64 1),(.int .u64 2)],(.tup [(.int .u64 0),(.int .u64 2)]),none⟩
theorem ZGx:Zan Tryz.prog rp6.f rp6.args rp6.r rp6.fr:=Zaf (n:=100000) (l:=[]) follows Zah trivial (by kernel_rfl)
def rp7:Fact:=⟨152,[(.int .u64 1),(.int .u64 2)],(.tup [(.int .u64 0),(.int .u64 2)]),none⟩
theorem ZCl:Zan Tryz.prog rp7.f rp7.args rp7.r rp7.fr:=Zaf (n:=100000) (l:=[rp6]) follows Zah ⟨ZGx,trivial⟩ (by kernel_rfl)
def rp8:Fact:=⟨121,[(.list (.ints .i64 [(-1)])),(.int .i64 2)],(.row 0 0),(some ⟨3,1,(.ints .i64 [(-1),(-1)])⟩)⟩
theorem ZF7:Zan Tryz.prog rp8.f rp8.args rp8.r rp8.fr:=Zaf (n:=100000) (l:=[rp7]) follows Zah ⟨ZCl,trivial⟩ (by kernel_rfl)
def rp9:Fact:=⟨179,[(.int .u64 1),(.int .u64 3)],(.tup [(.int .u64 0),(.int .u64 3)]),none⟩
theorem ZG4:Zan Tryz.prog rp9.f rp9.args rp9.r rp9.fr:=Zaf (n:=100000) (l:=[]) follows Zah trivial (by kernel_rfl)
def rp10:Fact:=⟨152,[(.int .u64 1),(.int .u64 3)],(.tup [(.int .u64 0),(.int .u64 3)]),none⟩
theorem ZzU:Zan Tryz.prog rp10.f rp10.args rp10.r rp10.fr:=Zaf (n:=100000) (l:=[rp9]) follows Zah ⟨ZG4,trivial⟩ (by kernel_rfl)
def rp11:Fact:=⟨121,[(.list (.ints .i64 [(-1)])),(.int .i64 3)],(.row 0 0),(some ⟨3,1,(.ints .i64 [(-1),(-1),(-1)])⟩)⟩
theorem ZAp:Zan Tryz.prog rp11.f rp11.args rp11.r rp11.fr:=Zaf (n:=100000) (l:=[rp10]) follows Zah ⟨ZzU,trivial⟩ (by kernel_rfl)
def rp12:Fact:=⟨179,[(.int .u64 1),(.int .u64 4)],(.tup [(.int .u64 0),(.int .u64 4)]),none⟩
theorem ZyQ:Zan Tryz.prog rp12.f rp12.args rp12.r rp12.fr:=Zaf (n:=100000) (l:=[]) follows Zah trivial (by kernel_rfl)
def rp13:Fact:=⟨152,[(.int .u64 1),(.int .u64 4)],(.tup [(.int .u64 0),(.int .u64 4)]),none⟩
theorem ZzN:Zan Tryz.prog rp13.f rp13.args rp13.r rp13.fr:=Zaf (n:=100000) (l:=[rp12]) follows Zah ⟨ZyQ,trivial⟩ (by kernel_rfl)
def rp14:Fact:=⟨121,[(.list (.ints .i64 [(-1)])),(.int .i64 4)],(.row 0 0),(some ⟨3,1,(.ints .i64 [(-1),(-1),(-1),(-1)])⟩)⟩
theorem Zye:Zan Tryz.prog rp14.f rp14.args rp14.r rp14.fr:=Zaf (n:=100000) (l:=[rp13]) follows Zah ⟨ZzN,trivial⟩ (by kernel_rfl)
def rp15:Fact:=⟨179,[(.int .u64 1),(.int .u64 5)],(.tup [(.int .u64 0),(.int .u64 5)]),none⟩
theorem ZyM:Zan Tryz.prog rp15.f rp15.args rp15.r rp15.fr:=Zaf (n:=100000) (l:=[]) follows Zah trivial (by kernel_rfl)
def rp16:Fact:=⟨152,[(.int .u64 1),(.int .u64 5)],(.tup [(.int .u64 0),(.int .u64 5)]),none⟩
theorem ZzK:Zan Tryz.prog rp16.f rp16.args rp16.r rp16.fr:=Zaf (n:=100000) (l:=[rp15]) follows Zah ⟨ZyM,trivial⟩ (by kernel_rfl)
def rp17:Fact:=⟨121,[(.list (.ints .i64 [(-1)])),(.int .i64 5)],(.row 0 0),(some ⟨3,1,(.ints .i64 [(-1),(-1),(-1),(-1),(-1)])⟩)⟩
theorem ZAX:Zan Tryz.prog rp17.f rp17.args rp17.r rp17.fr:=Zaf (n:=100000) (l:=[rp16]) follows Zah ⟨ZzK,trivial⟩ (by kernel_rfl)
def rp18:Fact:=⟨179,[(.int .u64 1),(.int .u64 6)],(.tup [(.int .u64 0),(.int .u64 6)]),none⟩
theorem ZAV:Zan Tryz.prog rp18.f rp18.args rp18.r rp18.fr:=Zaf (n:=100000) (l:=[]) follows Zah trivial (by kernel_rfl)
def rp19:Fact:=⟨152,[(.int .u64 1),(.int .u64 6)],(.tup [(.int .u64 0),(.int .u64 6)]),none⟩
theorem ZyE:Zan Tryz.prog rp19.f rp19.args rp19.r rp19.fr:=Zaf (n:=100000) (l:=[rp18]) follows Zah ⟨ZAV,trivial⟩ (by kernel_rfl)
def rp20:Fact:=⟨121,[(.list (.ints .i64 [(-1)])),(.int .i64 6)],(.row 0 0),(some ⟨3,1,(.ints .i64 [(-1),(-1),(-1),(-1),(-1),(-1)])⟩)⟩
theorem ZzC:Zan Tryz.prog rp20.f rp20.args rp20.r rp20.fr:=Zaf (n:=100000) (l:=[rp19]) follows Zah ⟨ZyE,trivial⟩ (by kernel_rfl)
def rp21:Fact:=⟨179,[(.int .u64 1),(.int .u64 7)],(.tup [(.int .u64 0),(.int .u64 7)]),none⟩
theorem Zxh:Zan Tryz.prog rp21.f rp21.args rp21.r rp21.fr:=Zaf (n:=100000) (l:=[]) follows Zah trivial (by kernel_rfl)
def rp22:Fact:=⟨152,[(.int .u64 1),(.int .u64 7)],(.tup [(.int .u64 0),(.int .u64 7)]),none⟩
theorem ZA4:Zan Tryz.prog rp22.f rp22.args rp22.r rp22.fr:=Zaf (n:=100000) (l:=[rp21]) follows Zah ⟨Zxh,trivial⟩ (by kernel_rfl)
def rp23:Fact:=⟨121,[(.list (.ints .i64 [(-1)])),(.int .i64 7)],(.row 0 0),(some ⟨3,1,(.ints .i64 [(-1),(-1),(-1),(-1),(-1),(-1),(-1)])⟩)⟩
theorem ZwW:Zan Tryz.prog rp23.f rp23.args rp23.r rp23.fr:=Zaf (n:=100000) (l:=[rp22]) follows Zah ⟨ZA4,trivial⟩ (by kernel_rfl)
def rp24:Fact:=⟨179,[(.int .u64 1),(.int .u64 8)],(.tup [(.int .u64 0),(.int .u64 8)]),none⟩
theorem ZAJ:Zan Tryz.prog rp24.f rp24.args rp24.r rp24.fr:=Zaf (n:=100000) (l:=[]) follows Zah trivial (by kernel_rfl)
def rp25:Fact:=⟨152,[(.int .u64 1),(.int .u64 8)],(.tup [(.int .u64 0),(.int .u64 8)]),none⟩
theorem Zy2:Zan Tryz.prog rp25.f rp25.args rp25.r rp25.fr:=Zaf (n:=100000) (l:=[rp24]) follows Zah ⟨ZAJ,trivial⟩ (by kernel_rfl)
def rp26:Fact:=⟨121,[(.list (.ints .i64 [(-1)])),(.int .i64 8)],(.row 0 0),(some ⟨3,1,(.ints .i64 [(-1),(-1),(-1),(-1),(-1),(-1),(-1),(-1)])⟩)⟩
theorem ZAh:Zan Tryz.prog rp26.f rp26.args rp26.r rp26.fr:=Zaf (n:=100000) (l:=[rp25]) follows Zah ⟨Zy2,trivial⟩ (by kernel_rfl)
end Go.Proofs.YtkeoeooghhjibaaGreatDoor
namespace Go.Proofs.YtkeoeooghhjibaaGreatDoor
variable {A:Ar}{K:KT}{F:FT}{M:MT}
def k81b:Ctr:=⟨81,1,fun pa a=>match pa with
 |[]=>none
 |b::_=>(match a with
  |[.list (.ints .i64 xs)]=>some (decide (xs.length≤1000000),(match b with |true=>.row 0 0 |false=>.list (.ints .i64 xs)),(match b with |true=>some ⟨3,1, .ints .i64 xs⟩ |false=>ZpJ))
  |_=>none)⟩
theorem Zy5:k81b.OK Tryz.prog:=fun pa args r fr h=>by
 simp only[k81b]at h
 split at h
 ·simp at h
 ·split at h
  ·simp only[zS,zP,decide_eq_true_eq]at h
   obtain⟨h0,rfl,rfl⟩:=h
   split
   ·exact Zh0 _ h0
   ·exact ZrZ _ h0
  ·cases h
theorem ZqZ(xs:zI)(n:Int)(h:xs=[-1]∧0≤n∧n≤8):Zan Tryz.prog 121 [.list (.ints .i64 xs), .int .i64 n] (.row 0 0) (some ⟨3,1, .ints .i64 (List.replicate n.toNat (-1))⟩):=by
 obtain⟨rfl,h1,h2⟩:=h
 obtain⟨m,rfl⟩:∃m:Nat,n=m:=⟨n.toNat,by omega⟩
 have h3:m≤8:=by omega
 match m,h3 with
 |0,_=>exact ZCh
 |1,_=>exact ZCT
 |2,_=>exact ZF7
 |3,_=>exact ZAp
 |4,_=>exact Zye
 |5,_=>exact ZAX
 |6,_=>exact ZzC
 |7,_=>exact ZwW
 |8,_=>exact ZAh
def k121:Ctr:=⟨121,0,fun _ a=>match a with |[.list (.ints .i64 xs), .int .i64 n]=>some (decide (xs=[-1]∧0≤n∧n≤8), .row 0 0,some ⟨3,1, .ints .i64 (List.replicate n.toNat (-1))⟩) |_=>none⟩
theorem ZAC:k121.OK Tryz.prog:=fun pa args r fr h=>by
 simp only[k121]at h
 split at h
 ·simp only[zS,zP,decide_eq_true_eq]at h
  obtain⟨h0,rfl,rfl⟩:=h
  exact ZqZ _ _ h0
 ·cases h
def Ba:List Ctr:=[k81b,k121]++B9
theorem Zqp:ZaF Tryz.prog Ba:=⟨Zy5,⟨ZAC,ZI4⟩⟩
end Go.Proofs.YtkeoeooghhjibaaGreatDoor
namespace Go.Proofs.YtkeoeooghhjibaaGreatDoor
variable {A:Ar}{K:KT}{F:FT}{M:MT}
set_option maxRecDepth 100000
set_option linter.unusedVariables false
def ZCi(ms ks rs:zA)(a b:Int)(xs:zI)(k t:Int):AFrame:=vF 78 34 [(0,vM ms ks rs),(1,AV.agg (vx [.int .i64 a, .int .i64 b, .list (.ints .i64 xs)])),vI 2 k,vI 3 t] [.code a78.code] [ARes.cell 8 true 3]
def ZOl(ms ks rs:zA)(a b:Int)(xs:zI)(k t:Int):List AFrame:=[(ZCi ms ks rs a b xs k t)]
theorem Zzi(ms ks rs:zA)(a b:Int)(xs:zI)(k t:Int):Zam tab 78 [vM ms ks rs,AV.agg (Row.gen [.int .i64 a, .int .i64 b, .list (.ints .i64 xs)]),AV.int .i64 k,AV.int .i64 t]=some (ZCi ms ks rs a b xs k t):=rfl
def ZGu(A:Ar)(K:KT)(F:FT)(ms ks rs:zA)(a b:Int)(xs:zI)(k t:Int):Prop:=let u0:=A.set xs (A.nat k) t;let u1:=A.nthA ks (A.nat k);rB [decide (List.length xs≤1000000)] (rB [Zag (Zag (A.le 0 k) (Nat.blt (A.nat k) (A.lenA ks))) true,Zag (Nat.blt (A.nat k) (A.len xs)) true,Zag (A.le 0 k) (Nat.blt (A.nat k) (A.len xs))] (bB (A.not (A.eq (u1.cellAt 1).toI (-1))) (F (AV.agg (Row.gen [.int .i64 (u1.cellAt 1).toI, .int .i64 t, .list (.ints .i64 u0)])) none) (F (AV.agg (Row.gen [.int .i64 a, .int .i64 t, .list (.ints .i64 u0)])) none)))
theorem ZKF{ms ks rs:zA}{a b:Int}{xs:zI}{k t:Int} :Zaw A tab Ba 78 K F M (.run 7 (.ty (.run 27 (.tf (.run 11 (.fn)) (.run 7 (.fn)))))) (ZOl ms ks rs a b xs k t) []=ZGu A K F ms ks rs a b xs k t:=by kernel_rfl
def ZD1(at0 mo:Int)(dn:zA)(ha:Bool)(ba:Int)(to:Bool)(dw:zI)(up:zA)(at1 mo1:Int)(dn1:zA)(ha1:Bool)(ba1:Int)(to1:Bool)(dw1:zI)(up1:zA):AFrame:=vF 21 82 [(0,vS at0 mo dn ha ba to dw up),(1,vS at1 mo1 dn1 ha1 ba1 to1 dw1 up1)] [.code a21.code] [.tmp 4]
def ZMc(at0 mo:Int)(dn:zA)(ha:Bool)(ba:Int)(to:Bool)(dw:zI)(up:zA)(at1 mo1:Int)(dn1:zA)(ha1:Bool)(ba1:Int)(to1:Bool)(dw1:zI)(up1:zA):List AFrame:=[(ZD1 at0 mo dn ha ba to dw up at1 mo1 dn1 ha1 ba1 to1 dw1 up1)]
theorem ZxU(at0 mo:Int)(dn:zA)(ha:Bool)(ba:Int)(to:Bool)(dw:zI)(up:zA)(at1 mo1:Int)(dn1:zA)(ha1:Bool)(ba1:Int)(to1:Bool)(dw1:zI)(up1:zA):Zam tab 21 [vS at0 mo dn ha ba to dw up,vS at1 mo1 dn1 ha1 ba1 to1 dw1 up1]=some (ZD1 at0 mo dn ha ba to dw up at1 mo1 dn1 ha1 ba1 to1 dw1 up1):=rfl
def Ziu(at0 mo:Int)(dn:zA)(ha:Bool)(ba:Int)(to:Bool)(dw:zI)(up:zA)(at1 mo1:Int)(dn1:zA)(ha1:Bool)(ba1:Int)(to1:Bool)(dw1:zI)(up1:zA)(n0:Int):List AFrame:=[vF 21 82 [vP 2 21003,vP 3 21004,vI 5 n0] (vC ZFM ZIp) [.tmp 4]]
def ZgI(at0 mo:Int)(dn:zA)(ha:Bool)(ba:Int)(to:Bool)(dw:zI)(up:zA)(at1 mo1:Int)(dn1:zA)(ha1:Bool)(ba1:Int)(to1:Bool)(dw1:zI)(up1:zA)(n0:Int):Zad:=[vH 21003 37 8 (vx [vS at0 mo dn ha ba to dw up]),vH 21004 37 8 (vx [vS at1 mo1 dn1 ha1 ba1 to1 dw1 up1])]
abbrev Zjt(at0 mo:Int)(dn:zA)(ha:Bool)(ba:Int)(to:Bool)(dw:zI)(up:zA)(at1 mo1:Int)(dn1:zA)(ha1:Bool)(ba1:Int)(to1:Bool)(dw1:zI)(up1:zA)(n0:Int):List AFrame×Zad:=(Ziu at0 mo dn ha ba to dw up at1 mo1 dn1 ha1 ba1 to1 dw1 up1 n0,ZgI at0 mo dn ha ba to dw up at1 mo1 dn1 ha1 ba1 to1 dw1 up1 n0)
def ZDf(A:Ar)(K:KT)(F:FT)(at0 mo:Int)(dn:zA)(ha:Bool)(ba:Int)(to:Bool)(dw:zI)(up:zA)(at1 mo1:Int)(dn1:zA)(ha1:Bool)(ba1:Int)(to1:Bool)(dw1:zI)(up1:zA):Prop:=bB (A.not (A.eq at0 at1)) (F (AV.bool false) none) (bB (A.not (A.eq mo mo1)) (F (AV.bool false) none) (rB [decide (List.length dn≤1000000)] (bB (A.not (Zcj eq2 dn dn1)) (F (AV.bool false) none) (bB (A.not (Decidable.rec (fun h=>(fun x=>false) h) (fun h=>(fun x=>true) h) (instDecidableEqBool ha ha1))) (F (AV.bool false) none) (bB (A.not (A.eq ba ba1)) (F (AV.bool false) none) (bB (A.not (Decidable.rec (fun h=>(fun x=>false) h) (fun h=>(fun x=>true) h) (instDecidableEqBool to to1))) (F (AV.bool false) none) (rB [decide (List.length dw≤1000000)] (bB (A.not (decide (dw=dw1))) (F (AV.bool false) none) (bB (A.not (A.eq (A.int (A.lenA up)) (A.int (A.lenA up1)))) (F (AV.bool false) none) (K (Zjt at0 mo dn ha ba to dw up at1 mo1 dn1 ha1 ba1 to1 dw1 up1 0)))))))))))
theorem ZH4{at0 mo:Int}{dn:zA}{ha:Bool}{ba:Int}{to:Bool}{dw:zI}{up:zA}{at1 mo1:Int}{dn1:zA}{ha1:Bool}{ba1:Int}{to1:Bool}{dw1:zI}{up1:zA} :Zaw A tab Ba 21 K F M (.run 15 (.tf (.ty (.ty (.ty (.ty (.ty (.run 1 (.ty (.ty (.ty (.ty (.ty (.ty (.ty (.run 1 (.ty (.ty (.ty (.ty (.ty (.ty (.run 1 (.ty (.ty (.ty (.ty (.ty (.ty (.run 1 (.ty (.ty (.ty (.ty (.ty (.ty (.run 1 (.ty (.ty (.ty (.ty (.ty (.ty (.ty (.run 1 (.ty (.ty (.ty (.ty (.ty (.ty (.ty (.ty (.run 2 (.ty (.run 5 (.fn))))))))))))))))))))))))))))))))))))))))))))))))))))))) (.fy (.fy (.fy (.fy (.fy (.run 1 (.tf (.ty (.ty (.ty (.ty (.ty (.ty (.run 1 (.ty (.ty (.ty (.ty (.ty (.ty (.run 1 (.ty (.ty (.ty (.ty (.ty (.ty (.run 1 (.ty (.ty (.ty (.ty (.ty (.ty (.run 1 (.ty (.ty (.ty (.ty (.ty (.ty (.ty (.run 1 (.ty (.ty (.ty (.ty (.ty (.ty (.ty (.ty (.run 2 (.ty (.run 5 (.fn)))))))))))))))))))))))))))))))))))))))))))))))) (.fy (.fy (.fy (.fy (.fy (.fy (.run 1 (.tf (.ty (.ty (.ty (.ty (.ty (.run 1 (.ty (.ty (.ty (.ty (.ty (.ty (.run 1 (.ty (.ty (.ty (.ty (.ty (.ty (.run 1 (.ty (.ty (.ty (.ty (.ty (.ty (.ty (.run 1 (.ty (.ty (.ty (.ty (.ty (.ty (.ty (.ty (.run 2 (.ty (.run 5 (.fn)))))))))))))))))))))))))))))))))))))))) (.fy (.fy (.fy (.fy (.fy (.run 1 (.tf (.ty (.ty (.ty (.ty (.ty (.run 1 (.ty (.ty (.ty (.ty (.ty (.ty (.run 1 (.ty (.ty (.ty (.ty (.ty (.ty (.ty (.run 1 (.ty (.ty (.ty (.ty (.ty (.ty (.ty (.ty (.run 2 (.ty (.run 5 (.fn))))))))))))))))))))))))))))))))) (.fy (.fy (.fy (.fy (.fy (.run 1 (.tf (.ty (.ty (.ty (.ty (.ty (.run 1 (.ty (.ty (.ty (.ty (.ty (.ty (.ty (.run 1 (.ty (.ty (.ty (.ty (.ty (.ty (.ty (.ty (.run 2 (.ty (.run 5 (.fn)))))))))))))))))))))))))) (.fy (.fy (.fy (.fy (.fy (.run 1 (.tf (.ty (.ty (.ty (.ty (.ty (.ty (.run 1 (.ty (.ty (.ty (.ty (.ty (.ty (.ty (.ty (.run 2 (.ty (.run 5 (.fn))))))))))))))))))) (.fy (.fy (.fy (.fy (.fy (.fy (.run 1 (.tf (.ty (.ty (.ty (.ty (.ty (.ty (.ty (.run 2 (.ty (.run 5 (.fn))))))))))) (.fy (.fy (.fy (.fy (.fy (.fy (.fy (.run 2 (.tf (.run 5 (.fn)) (.run 9 (.hd))))))))))))))))))))))))))))))))))))))))))))))))))))))))) (ZMc at0 mo dn ha ba to dw up at1 mo1 dn1 ha1 ba1 to1 dw1 up1) []=ZDf A K F at0 mo dn ha ba to dw up at1 mo1 dn1 ha1 ba1 to1 dw1 up1:=by kernel_rfl
def ZgJ(A:Ar)(K:KT)(F:FT)(at0 mo:Int)(dn:zA)(ha:Bool)(ba:Int)(to:Bool)(dw:zI)(up:zA)(at1 mo1:Int)(dn1:zA)(ha1:Bool)(ba1:Int)(to1:Bool)(dw1:zI)(up1:zA)(n0:Int):Prop:=let u0:=A.nat n0;bB (A.lt n0 (A.int (A.lenA up))) (rB [Zag (Zag (A.le 0 n0) (Nat.blt u0 (A.lenA up1))) true,Zag (Zag (A.le 0 n0) (Nat.blt u0 (A.lenA up))) true] (bB (A.not (Zag (A.eq ((A.nthA up u0).cellAt 0).toI ((A.nthA up1 u0).cellAt 0).toI) (Decidable.rec (fun h=>(fun x=>false) h) (fun h=>(fun x=>true) h) (instDecidableEqBool ((A.nthA up u0).cellAt 1).toB ((A.nthA up1 u0).cellAt 1).toB)))) (F (AV.bool false) none) (rB [A.inR .i64 (A.add n0 1)] (K (Zjt at0 mo dn ha ba to dw up at1 mo1 dn1 ha1 ba1 to1 dw1 up1 (A.add n0 1)))))) (F (AV.bool true) none)
theorem Zkg{at0 mo:Int}{dn:zA}{ha:Bool}{ba:Int}{to:Bool}{dw:zI}{up:zA}{at1 mo1:Int}{dn1:zA}{ha1:Bool}{ba1:Int}{to1:Bool}{dw1:zI}{up1:zA}{n0:Int} :vT A tab Ba 21 K F M (.run 10 (.tf (.run 6 (.tf (.run 5 (.fn)) (.run 9 (.hd)))) (.run 6 (.fn)))) (Zjt at0 mo dn ha ba to dw up at1 mo1 dn1 ha1 ba1 to1 dw1 up1 n0)=ZgJ A K F at0 mo dn ha ba to dw up at1 mo1 dn1 ha1 ba1 to1 dw1 up1 n0:=by kernel_rfl
def Zv1(ms ks rs:zA)(a t:Int)(xs:zI)(s:List UInt8)(r1 r2 r3 r4 b:Int):AFrame:=vF 122 26 [(0,AV.eptr (AV.agg (vx [.list (Row.big .str ms), .list (Row.big vsK ks), .list (Row.big vsR rs), .int .i64 a, .int .i64 t, .list (.ints .i64 xs)])) 0),(1,AV.agg (vx [.str s, .int .i64 r1, .int .i64 r2, .int .i64 r3, .int .i64 r4])),vI 2 b] [.code a122.code] [.tmp 6]
def ZIc(ms ks rs:zA)(a t:Int)(xs:zI)(s:List UInt8)(r1 r2 r3 r4 b:Int):List AFrame:=[(Zv1 ms ks rs a t xs s r1 r2 r3 r4 b)]
theorem ZtY(ms ks rs:zA)(a t:Int)(xs:zI)(s:List UInt8)(r1 r2 r3 r4 b:Int):Zam tab 122 [AV.eptr (AV.agg (Row.gen [.list (Row.big .str ms), .list (Row.big (.agg [.str, .int .i64]) ks), .list (Row.big (.agg [.str, .int .i64, .int .i64, .int .i64, .int .i64]) rs), .int .i64 a, .int .i64 t, .list (.ints .i64 xs)])) 0,AV.agg (Row.gen [.str s, .int .i64 r1, .int .i64 r2, .int .i64 r3, .int .i64 r4]),AV.int .i64 b]=some (Zv1 ms ks rs a t xs s r1 r2 r3 r4 b):=rfl
def ZvH(A:Ar)(K:KT)(F:FT)(ms ks rs:zA)(a t:Int)(xs:zI)(s:List UInt8)(r1 r2 r3 r4 b:Int):Prop:=qB [A.eq r2 (-1),A.eq r1 b] (F (AV.bool true) none) (qB [!A.eq r2 (-1),A.eq r1 b] (F (AV.bool (A.eq r2 a)) none) (rB [!A.eq r1 b] (F (AV.bool false) none)))
theorem ZF6{ms ks rs:zA}{a t:Int}{xs:zI}{s:List UInt8}{r1 r2 r3 r4 b:Int} :Zaw A tab Ba 122 K F M (.run 6 (.alt [true,true] (.run 2 (.fn)) (.alt [true,false] (.run 2 (.fn)) (.fy (.run 2 (.fn)))))) (ZIc ms ks rs a t xs s r1 r2 r3 r4 b) []=ZvH A K F ms ks rs a t xs s r1 r2 r3 r4 b:=by kernel_rfl
end Go.Proofs.YtkeoeooghhjibaaGreatDoor
namespace Go.Proofs.YtkeoeooghhjibaaGreatDoor
variable {A:Ar}{K:KT}{F:FT}{M:MT}
theorem ZLv(a b:Bool):(Decidable.rec (fun h=>(fun x=>false) h) (fun h=>(fun x=>true) h) (instDecidableEqBool a b):Bool)=decide (a=b):=by cases a<;>cases b<;>rfl
def exM(ks:zA)(a k:Int):Int:=if Zaj ks k 1= -1 then a else Zaj ks k 1
theorem ZtU(ms ks rs:zA)(a b:Int)(xs:zI)(k t:Int)(h:xs.length≤1000000∧0≤k∧k<ks.length∧k<xs.length):Zan Tryz.prog 78 [vM ms ks rs, .agg (.gen [.int .i64 a, .int .i64 b, .list (.ints .i64 xs)]), .int .i64 k, .int .i64 t] (.agg (.gen [.int .i64 (exM ks a k), .int .i64 t, .list (.ints .i64 (xs.set k.toNat t))])) none:=
 start (Zzi ms ks rs a b xs k t) fun C hC=>tgo hC Zqp ZKF (by
  have e:((ks.getD k.toNat .top).cellAt 1).toI=Zaj ks k 1:=rfl
  have h1:k.toNat<ks.length:=by omega
  have h2:k.toNat<xs.length:=by omega
  by_cases hf:Zaj ks k 1= -1<;>simp[-List.getD_eq_getElem?_getD,ZGu,e,h,h1,h2,hf,exM])
def ZIz(a b r1 r2:Int):Bool:=decide (r1=b∧(r2= -1∨r2=a))
theorem Zsa(ms ks rs:zA)(a t:Int)(xs:zI)(s:List UInt8)(r1 r2 r3 r4 b:Int):Zan Tryz.prog 122 [.eptr (.agg (.gen [.list (.big .str ms), .list (.big (.agg [.str, .int .i64]) ks), .list (.big (.agg [.str, .int .i64, .int .i64, .int .i64, .int .i64]) rs), .int .i64 a, .int .i64 t, .list (.ints .i64 xs)])) 0, .agg (.gen [.str s, .int .i64 r1, .int .i64 r2, .int .i64 r3, .int .i64 r4]), .int .i64 b] (.bool (ZIz a b r1 r2)) none:=
 start (ZtY ms ks rs a t xs s r1 r2 r3 r4 b) fun C hC=>tgo hC Zqp ZF6 (by
  by_cases h1:r1=b<;>by_cases h2:r2= -1<;>by_cases h3:r2=a<;>simp_all[ZvH,ZIz])
def eqR(x y:AV):Bool:=decide ((x.cellAt 0).toI=(y.cellAt 0).toI∧(x.cellAt 1).toB=(y.cellAt 1).toB)
theorem ZuM(x:AV):eqR x x=true:=by simp[eqR]
def ZhJ(at0 mo:Int)(dn:zA)(ha:Bool)(ba:Int)(to:Bool)(dw:zI)(up:zA)(at1 mo1:Int)(dn1:zA)(ha1:Bool)(ba1:Int)(to1:Bool)(dw1:zI)(up1:zA):Bool:=
 decide (at0=at1∧mo=mo1∧Zcj eq2 dn dn1=true∧ha=ha1∧ba=ba1∧to=to1∧dw=dw1)&&Zcj eqR up up1
theorem Zmv{C:Ctx}(hC:C.P=Tryz.prog)(at0 mo:Int)(dn:zA)(ha:Bool)(ba:Int)(to:Bool)(dw:zI)(up:zA)(at1 mo1:Int)(dn1:zA)(ha1:Bool)(ba1:Int)(to1:Bool)(dw1:zI)(up1:zA)(hl:up.length≤1000000∧up.length=up1.length):∀m k:Nat,k+m=up.length→vE C (Zjt at0 mo dn ha ba to dw up at1 mo1 dn1 ha1 ba1 to1 dw1 up1 k) (Zco 21 (.bool (Zcj eqR (up.drop k) (up1.drop k))) none)
 |0,k,hk=>tgo hC Zqp Zkg (by
  rw[List.drop_of_length_le (by omega),List.drop_of_length_le (by omega)]
  simp[ZgJ,show ¬(k:Int)<up.length by omega,Zcj])
 |m+1,k,hk=>by
  have ih:=Zmv hC at0 mo dn ha ba to dw up at1 mo1 dn1 ha1 ba1 to1 dw1 up1 hl m (k+1) (by omega)
  rw[Zi6 (show k<up.length by omega),Zi6 (show k<up1.length by omega),Zcj]
  refine tgo hC Zqp Zkg ?_
  unfold ZgJ
  simp only[ZLv]
  by_cases h:eqR (up.getD k .top) (up1.getD k .top)=true
  ·rw[h,Bool.true_and]
   simp[-List.getD_eq_getElem?_getD,eqR]at h
   simp[-List.getD_eq_getElem?_getD,show(k:Int)<up.length by omega,show k<up.length by omega,show k<up1.length by omega,h]
   exact⟨by omega,by simpa using ih⟩
  ·rw[(by simpa using h:eqR (up.getD k .top) (up1.getD k .top)=false),Bool.false_and]
   simp only[eqR,decide_eq_true_eq,not_and]at h
   simp[-List.getD_eq_getElem?_getD,show(k:Int)<up.length by omega,show k<up.length by omega,show k<up1.length by omega]
   exact fun h1 h2=>absurd (by simpa using h2) (h h1)
theorem ZlL(at0 mo:Int)(dn:zA)(ha:Bool)(ba:Int)(to:Bool)(dw:zI)(up:zA)(at1 mo1:Int)(dn1:zA)(ha1:Bool)(ba1:Int)(to1:Bool)(dw1:zI)(up1:zA)(hl:dn.length≤1000000∧dw.length≤1000000∧up.length≤1000000):Zan Tryz.prog 21 [vS at0 mo dn ha ba to dw up, (vS at1 mo1 dn1 ha1 ba1 to1 dw1 up1)] (.bool (ZhJ at0 mo dn ha ba to dw up at1 mo1 dn1 ha1 ba1 to1 dw1 up1)) none:=
 start (ZxU at0 mo dn ha ba to dw up at1 mo1 dn1 ha1 ba1 to1 dw1 up1) fun C hC=>tgo hC Zqp ZH4 (by
  unfold ZDf ZhJ
  simp only[ZLv]
  by_cases h1:at0=at1
  ·by_cases h2:mo=mo1
   ·by_cases h3:Zcj eq2 dn dn1=true
    ·by_cases h4:ha=ha1
     ·by_cases h5:ba=ba1
      ·by_cases h6:to=to1
       ·by_cases h7:dw=dw1
        ·by_cases h8:up.length=up1.length
         ·have:=Zmv hC at0 mo dn ha ba to dw up at1 mo1 dn1 ha1 ba1 to1 dw1 up1 ⟨hl.2.2,h8⟩ up.length 0 (by omega)
          simp only[List.drop_zero]at this
          subst h1 h2 h4 h5 h6 h7
          simp[hl,h3,h8]
          simpa using this
         ·subst h1 h2 h4 h5 h6 h7
          simp[hl,h3,Zlt h8,show ¬((up.length:Int)=up1.length) by omega]
        ·simp[hl,h1,h2,h3,h4,h5,h6,h7]
       ·simp[hl,h1,h2,h3,h4,h5,h6]
      ·simp[hl,h1,h2,h3,h4,h5]
     ·simp[hl,h1,h2,h3,h4]
    ·simp[hl,h1,h2,h3]
   ·simp[h1,h2]
  ·simp[h1])
def k78:Ctr:=⟨78,0,fun _ a=>match a with |[.agg (.gen [.list (.big .str _), .list (.big (.agg [.str, .int .i64]) ks), .list (.big (.agg [.str, .int .i64, .int .i64, .int .i64, .int .i64]) _)]), .agg (.gen [.int .i64 a, .int .i64 _, .list (.ints .i64 xs)]), .int .i64 k, .int .i64 t]=>some (decide (xs.length≤1000000∧0≤k∧k<ks.length∧k<xs.length), .agg (.gen [.int .i64 (exM ks a k), .int .i64 t, .list (.ints .i64 (xs.set k.toNat t))]),none) |_=>none⟩
theorem ZEW:k78.OK Tryz.prog:=fun pa args r fr h=>by
 simp only[k78]at h
 split at h
 ·simp only[zS,zP,decide_eq_true_eq]at h
  obtain⟨h0,rfl,rfl⟩:=h
  exact ZtU _ _ _ _ _ _ _ _ h0
 ·cases h
def k122:Ctr:=⟨122,0,fun _ a=>match a with |[.eptr (.agg (.gen [.list (.big .str _), .list (.big (.agg [.str, .int .i64]) _), .list (.big (.agg [.str, .int .i64, .int .i64, .int .i64, .int .i64]) _), .int .i64 a, .int .i64 _, .list (.ints .i64 _)])) 0, .agg (.gen [.str _, .int .i64 r1, .int .i64 r2, .int .i64 _, .int .i64 _]), .int .i64 b]=>some (true, .bool (ZIz a b r1 r2),none) |_=>none⟩
theorem ZyU:k122.OK Tryz.prog:=fun pa args r fr h=>by
 simp only[k122]at h
 split at h
 ·cases h
  exact Zsa _ _ _ _ _ _ _ _ _ _ _ _
 ·cases h
def k21:Ctr:=⟨21,0,fun _ a=>match a with |[.agg (.gen [.int .i64 at0, .int .i64 mo, .list (.big (.agg [.int .i64, .int .i64]) dn), .bool ha, .int .i64 ba, .bool to, .list (.ints .i64 dw), .list (.big (.agg [.int .i64, .bool]) up)]), .agg (.gen [.int .i64 at1, .int .i64 mo1, .list (.big (.agg [.int .i64, .int .i64]) dn1), .bool ha1, .int .i64 ba1, .bool to1, .list (.ints .i64 dw1), .list (.big (.agg [.int .i64, .bool]) up1)])]=>some (decide (dn.length≤1000000∧dw.length≤1000000∧up.length≤1000000), .bool (ZhJ at0 mo dn ha ba to dw up at1 mo1 dn1 ha1 ba1 to1 dw1 up1),none) |_=>none⟩
theorem ZE6:k21.OK Tryz.prog:=fun pa args r fr h=>by
 simp only[k21]at h
 split at h
 ·simp only[zS,zP,decide_eq_true_eq]at h
  obtain⟨h0,rfl,rfl⟩:=h
  exact ZlL _ _ _ _ _ _ _ _ _ _ _ _ _ _ _ _ h0
 ·cases h
def Bb:List Ctr:=[k78,k122,k21]++Ba
theorem Zvx:ZaF Tryz.prog Bb:=⟨ZEW,⟨ZyU,⟨ZE6,Zqp⟩⟩⟩
end Go.Proofs.YtkeoeooghhjibaaGreatDoor
namespace Go.Proofs.YtkeoeooghhjibaaGreatDoor
variable {A:Ar}{K:KT}{F:FT}{M:MT}
set_option maxRecDepth 100000
set_option linter.unusedVariables false
def ZDj(ms ks rs:zA)(a b:Int)(xs:zI)(q:Int):AFrame:=vF 91 66 [(0,AV.eptr (AV.agg (vx [.list (Row.big .str ms), .list (Row.big vsK ks), .list (Row.big vsR rs), .int .i64 a, .int .i64 b, .list (.ints .i64 xs)])) 0),vI 1 q] [.code a91.code] [.tmp 4]
def ZOm(ms ks rs:zA)(a b:Int)(xs:zI)(q:Int):List AFrame:=[(ZDj ms ks rs a b xs q)]
theorem Zxf(ms ks rs:zA)(a b:Int)(xs:zI)(q:Int):Zam tab 91 [AV.eptr (AV.agg (Row.gen [.list (Row.big .str ms), .list (Row.big (.agg [.str, .int .i64]) ks), .list (Row.big (.agg [.str, .int .i64, .int .i64, .int .i64, .int .i64]) rs), .int .i64 a, .int .i64 b, .list (.ints .i64 xs)])) 0,AV.int .i64 q]=some (ZDj ms ks rs a b xs q):=rfl
def ZfW(ms ks rs:zA)(a b:Int)(xs:zI)(q n0 n1:Int):List AFrame:=[vF 91 66 [(0,AV.eptr (AV.agg (vx [.list (Row.big .str ms), .list (Row.big vsK ks), .list (Row.big vsR rs), .int .i64 a, .int .i64 b, .list (.ints .i64 xs)])) 0),vI 1 q,(11,vl vsR rs),vI 12 n0,vI 13 n1] (vC ZCc ZIe) [.tmp 4]]
def ZeC(ms ks rs:zA)(a b:Int)(xs:zI)(q n0 n1:Int):Zad:=[]
abbrev Zb1(ms ks rs:zA)(a b:Int)(xs:zI)(q n0 n1:Int):List AFrame×Zad:=(ZfW ms ks rs a b xs q n0 n1,ZeC ms ks rs a b xs q n0 n1)
def ZEX(A:Ar)(K:KT)(F:FT)(ms ks rs:zA)(a b:Int)(xs:zI)(q:Int):Prop:=K (Zb1 ms ks rs a b xs q (A.int (A.lenA rs)) 0)
theorem ZI0{ms ks rs:zA}{a b:Int}{xs:zI}{q:Int} :Zaw A tab Bb 91 K F M (.run 18 (.hd)) (ZOm ms ks rs a b xs q) []=ZEX A K F ms ks rs a b xs q:=by kernel_rfl
def ZgY(A:Ar)(K:KT)(F:FT)(ms ks rs:zA)(a b:Int)(xs:zI)(q n0 n1:Int):Prop:=let u6:=A.nat n1;let u1:=A.nthA rs u6;let u2:=rB [Zag (Zag (A.le 0 n1) (Nat.blt u6 (A.lenA rs))) true] (F (AV.eptr (AV.agg (Row.gen [.str (u1.cellAt 0).toS, .int .i64 (u1.cellAt 1).toI, .int .i64 (u1.cellAt 2).toI, .int .i64 (u1.cellAt 3).toI, .int .i64 (u1.cellAt 4).toI])) 0) none);let u4:=A.nat (u1.cellAt 3).toI;let u5:=A.nth xs u4;let u7:=A.len xs;let u3:=rB [A.inR .i64 (A.add n1 1)] (K (Zb1 ms ks rs a b xs q n0 (A.add n1 1)));let u0:=qB [A.eq (u1.cellAt 3).toI (-1)] u2 (qB [A.inR .i64 (A.sub b u5),Zag (Zag (A.le 0 (u1.cellAt 3).toI) (Nat.blt u4 u7)) true,A.not (A.eq u5 (-1)),Zag (Zag (A.le 0 (u1.cellAt 3).toI) (Nat.blt u4 u7)) true,!A.eq (u1.cellAt 3).toI (-1)] (bB (A.lt (A.sub b u5) (u1.cellAt 4).toI) u2 u3) (rB [!A.not (A.eq u5 (-1)),Zag (Zag (A.le 0 (u1.cellAt 3).toI) (Nat.blt u4 u7)) true,!A.eq (u1.cellAt 3).toI (-1)] u3));bB (A.lt n1 n0) (rB [Zag (Zag (A.le 0 n1) (Nat.blt u6 (A.lenA rs))) true] (qB [A.eq (u1.cellAt 2).toI (-1),A.eq (u1.cellAt 1).toI q] (rB [!A.not true] u0) (qB [!A.eq (u1.cellAt 2).toI (-1),A.eq (u1.cellAt 1).toI q] (bB (A.not (A.eq (u1.cellAt 2).toI a)) u3 u0) (rB [!A.eq (u1.cellAt 1).toI q] (rB [A.not false] u3))))) (F (AV.val (Go.Value.pointer none)) none)
theorem Zki{ms ks rs:zA}{a b:Int}{xs:zI}{q n0 n1:Int} :vT A tab Bb 91 K F M (.run 6 (.tf (.run 25 (.alt [true,true] (.run 5 (.fy (.run 2 (.alt [true] (.run 1 (.ty (.run 13 (.fn)))) (.alt [false,true] (.run 1 (.tf (.run 13 (.fn)) (.run 8 (.hd)))) (.alt [false,false] (.run 1 (.fy (.run 8 (.hd)))) (.no))))))) (.alt [true,false] (.run 5 (.tf (.run 7 (.hd)) (.run 2 (.alt [true] (.run 1 (.ty (.run 13 (.fn)))) (.alt [false,true] (.run 1 (.tf (.run 13 (.fn)) (.run 8 (.hd)))) (.alt [false,false] (.run 1 (.fy (.run 8 (.hd)))) (.no))))))) (.fy (.run 5 (.ty (.run 7 (.hd)))))))) (.run 6 (.fn)))) (Zb1 ms ks rs a b xs q n0 n1)=ZgY A K F ms ks rs a b xs q n0 n1:=by kernel_rfl
end Go.Proofs.YtkeoeooghhjibaaGreatDoor
