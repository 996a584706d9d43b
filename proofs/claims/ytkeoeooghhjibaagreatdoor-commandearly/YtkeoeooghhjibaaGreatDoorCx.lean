/- Paths of functions, printed by the explorer (Gx). No condition. -/
import Derived.Test.YtkeoeooghhjibaaGreatDoorCq
import Derived.KernelRfl
namespace Go.Proofs.YtkeoeooghhjibaaGreatDoor
set_option maxRecDepth 100000
set_option linter.unusedVariables false
def ZBa(ms ks rs l:List AV):AFrame:={ fn:=28,N:=20,env:=[(0,AV.agg (Row.gen [.list (Row.big .str ms), .list (Row.big (.agg [.str, .int .i64]) ks), .list (Row.big (.agg [.str, .int .i64, .int .i64, .int .i64, .int .i64]) rs)])),(1,AV.list (Row.big (.agg [.int .i64, .int .i64, .int .i64]) l))],todo:=[.code a28.code],defs:=[],rnd:=none,ret:=false,res:=[ARes.tmp 4] }
def ZHq(ms ks rs l:List AV):List AFrame:=[(ZBa ms ks rs l)]
theorem Zv3(ms ks rs l:List AV):Zat tab 28 [AV.agg (Row.gen [.list (Row.big .str ms), .list (Row.big (.agg [.str, .int .i64]) ks), .list (Row.big (.agg [.str, .int .i64, .int .i64, .int .i64, .int .i64]) rs)]),AV.list (Row.big (.agg [.int .i64, .int .i64, .int .i64]) l)]=some (ZBa ms ks rs l):=rfl
def ZB3(A:Ar)(K:KT)(F:FT)(ms ks rs l:List AV):Prop:=rB [decide (Zax ms ks rs=true)] (bB (A.not (A.eq (ZaC ms ks rs) 0)) (F (AV.int .i64 (ZaC ms ks rs)) (none)) (rB [decide (List.length ks≤1000000∧List.length l≤1000000)] (F (AV.int .i64 (ZbA 0 (↑(List.length ks)) l)) (none))))
theorem ZD8{A:Ar}{K:KT}{F:FT}{M:MT}{ms ks rs l:List AV} :ZaK A tab B8 28 K F M (.run 17 (.tf (.run 6 (.fn)) (.run 19 (.fn)))) (ZHq ms ks rs l) []=ZB3 A K F ms ks rs l:=by kernel_rfl
def Zzp(ms ks rs l:List AV)(wn fl:Int):AFrame:={ fn:=19,N:=22,env:=[(0,AV.agg (Row.gen [.list (Row.big .str ms), .list (Row.big (.agg [.str, .int .i64]) ks), .list (Row.big (.agg [.str, .int .i64, .int .i64, .int .i64, .int .i64]) rs), .list (Row.big (.agg [.int .i64, .int .i64, .int .i64]) l), .int .i64 wn, .int .i64 fl]))],todo:=[.code a19.code],defs:=[],rnd:=none,ret:=false,res:=[ARes.tmp 2] }
def ZGU(ms ks rs l:List AV)(wn fl:Int):List AFrame:=[(Zzp ms ks rs l wn fl)]
theorem Zv2(ms ks rs l:List AV)(wn fl:Int):Zat tab 19 [AV.agg (Row.gen [.list (Row.big .str ms), .list (Row.big (.agg [.str, .int .i64]) ks), .list (Row.big (.agg [.str, .int .i64, .int .i64, .int .i64, .int .i64]) rs), .list (Row.big (.agg [.int .i64, .int .i64, .int .i64]) l), .int .i64 wn, .int .i64 fl])]=some (Zzp ms ks rs l wn fl):=rfl
def ZvD(A:Ar)(K:KT)(F:FT)(ms ks rs l:List AV)(wn fl:Int):Prop:=rB [decide (Zax ms ks rs=true)] (bB (A.not (A.eq (ZaC ms ks rs) 0)) (rB [A.not (A.eq (ZaC ms ks rs) 0)] (F (AV.int .i64 (ZaC ms ks rs)) (none))) (rB [decide (List.length ks≤1000000∧List.length l≤1000000)] (bB (A.not (A.eq (ZbA 0 (↑(List.length ks)) l) 0)) (F (AV.int .i64 (ZbA 0 (↑(List.length ks)) l)) (none)) (bB (A.not (Zab wn 1 6)) (F (AV.int .i64 2) (none)) (bB (A.not (Zab fl 1 6)) (F (AV.int .i64 2) (none)) (F (AV.int .i64 0) (none)))))))
theorem ZEQ{A:Ar}{K:KT}{F:FT}{M:MT}{ms ks rs l:List AV}{wn fl:Int} :ZaK A tab B8 19 K F M (.run 30 (.tf (.run 14 (.ty (.run 6 (.fn)))) (.run 27 (.tf (.run 6 (.fn)) (.run 9 (.tf (.ty (.ty (.ty (.ty (.run 2 (.ty (.run 5 (.fn)))))))) (.fy (.fy (.fy (.fy (.run 2 (.tf (.run 5 (.fn)) (.run 6 (.fn)))))))))))))) (ZGU ms ks rs l wn fl) []=ZvD A K F ms ks rs l wn fl:=by kernel_rfl
def Zy7(ms ks rs l:List AV)(wn fl:Int):AFrame:={ fn:=36,N:=25,env:=[(0,AV.agg (Row.gen [.list (Row.big .str ms), .list (Row.big (.agg [.str, .int .i64]) ks), .list (Row.big (.agg [.str, .int .i64, .int .i64, .int .i64, .int .i64]) rs), .list (Row.big (.agg [.int .i64, .int .i64, .int .i64]) l), .int .i64 wn, .int .i64 fl]))],todo:=[.code a36.code],defs:=[],rnd:=none,ret:=false,res:=[ARes.tmp 2] }
def ZHm(ms ks rs l:List AV)(wn fl:Int):List AFrame:=[(Zy7 ms ks rs l wn fl)]
theorem ZwP(ms ks rs l:List AV)(wn fl:Int):Zat tab 36 [AV.agg (Row.gen [.list (Row.big .str ms), .list (Row.big (.agg [.str, .int .i64]) ks), .list (Row.big (.agg [.str, .int .i64, .int .i64, .int .i64, .int .i64]) rs), .list (Row.big (.agg [.int .i64, .int .i64, .int .i64]) l), .int .i64 wn, .int .i64 fl])]=some (Zy7 ms ks rs l wn fl):=rfl
def ZAV(A:Ar)(K:KT)(F:FT)(ms ks rs l:List AV)(wn fl:Int):Prop:=rB [decide (Zax ms ks rs=true∧List.length l≤1000000)] (bB (Zab wn 1 6) (rB [decide (List.length [ZbA (ZaC ms ks rs) (↑(List.length ks)) l,Zaa (Zab fl 1 6) 2]≤1000000),List.all [AV.int .i64 (ZbA (ZaC ms ks rs) (↑(List.length ks)) l),AV.int .i64 (Zaa (Zab fl 1 6) 2)] fun x=>AV.bx x&&Nat.beq (Zad A x) 1] (F (AV.int .i64 (Zaf [ZbA (ZaC ms ks rs) (↑(List.length ks)) l,Zaa (Zab fl 1 6) 2])) (none))) (rB [decide (List.length [ZbA (ZaC ms ks rs) (↑(List.length ks)) l,2]≤1000000),List.all [AV.int .i64 (ZbA (ZaC ms ks rs) (↑(List.length ks)) l),AV.int .i64 2] fun x=>AV.bx x&&Nat.beq (Zad A x) 1] (F (AV.int .i64 (Zaf [ZbA (ZaC ms ks rs) (↑(List.length ks)) l,2])) (none))))
theorem ZEr{A:Ar}{K:KT}{F:FT}{M:MT}{ms ks rs l:List AV}{wn fl:Int} :ZaK A tab B8 36 K F M (.run 26 (.tf (.ty (.ty (.ty (.run 7 (.fn))))) (.fy (.fy (.fy (.run 7 (.fn))))))) (ZHm ms ks rs l wn fl) []=ZAV A K F ms ks rs l wn fl:=by kernel_rfl
def Zyw(ms ks rs l:List AV)(wn fl:Int):AFrame:={ fn:=33,N:=7,env:=[(0,AV.agg (Row.gen [.list (Row.big .str ms), .list (Row.big (.agg [.str, .int .i64]) ks), .list (Row.big (.agg [.str, .int .i64, .int .i64, .int .i64, .int .i64]) rs), .list (Row.big (.agg [.int .i64, .int .i64, .int .i64]) l), .int .i64 wn, .int .i64 fl]))],todo:=[.code a33.code],defs:=[],rnd:=none,ret:=false,res:=[ARes.cell 2 true 8,ARes.tmp 3] }
def ZGC(ms ks rs l:List AV)(wn fl:Int):List AFrame:=[(Zyw ms ks rs l wn fl)]
theorem Zxa(ms ks rs l:List AV)(wn fl:Int):Zat tab 33 [AV.agg (Row.gen [.list (Row.big .str ms), .list (Row.big (.agg [.str, .int .i64]) ks), .list (Row.big (.agg [.str, .int .i64, .int .i64, .int .i64, .int .i64]) rs), .list (Row.big (.agg [.int .i64, .int .i64, .int .i64]) l), .int .i64 wn, .int .i64 fl])]=some (Zyw ms ks rs l wn fl):=rfl
def Zzx(A:Ar)(K:KT)(F:FT)(ms ks rs l:List AV)(wn fl:Int):Prop:=rB [decide (Zax ms ks rs=true∧List.length l≤1000000)] (bB (Zab wn 1 6) (rB [decide (List.length [ZbA (ZaC ms ks rs) (↑(List.length ks)) l,Zaa (Zab fl 1 6) 2]≤1000000),List.all [AV.int .i64 (ZbA (ZaC ms ks rs) (↑(List.length ks)) l),AV.int .i64 (Zaa (Zab fl 1 6) 2)] fun x=>AV.bx x&&Nat.beq (Zad A x) 1] (F (AV.tup [AV.agg (Row.gen [.int .i64 0, .int .i64 0,AV.nils, .bool false, .int .i64 0, .bool false,AV.nils,AV.nils]),AV.int .i64 (Zaf [ZbA (ZaC ms ks rs) (↑(List.length ks)) l,Zaa (Zab fl 1 6) 2])]) (none))) (rB [decide (List.length [ZbA (ZaC ms ks rs) (↑(List.length ks)) l,2]≤1000000),List.all [AV.int .i64 (ZbA (ZaC ms ks rs) (↑(List.length ks)) l),AV.int .i64 2] fun x=>AV.bx x&&Nat.beq (Zad A x) 1] (F (AV.tup [AV.agg (Row.gen [.int .i64 0, .int .i64 0,AV.nils, .bool false, .int .i64 0, .bool false,AV.nils,AV.nils]),AV.int .i64 (Zaf [ZbA (ZaC ms ks rs) (↑(List.length ks)) l,2])]) (none))))
theorem ZDn{A:Ar}{K:KT}{F:FT}{M:MT}{ms ks rs l:List AV}{wn fl:Int} :ZaK A tab B8 33 K F M (.run 37 (.tf (.ty (.ty (.ty (.run 12 (.fn))))) (.fy (.fy (.fy (.run 12 (.fn))))))) (ZGC ms ks rs l wn fl) []=Zzx A K F ms ks rs l wn fl:=by kernel_rfl
def ZAB(ms ks rs l:List AV)(wn fl:Int):AFrame:={ fn:=14,N:=12,env:=[(0,AV.agg (Row.gen [.list (Row.big .str ms), .list (Row.big (.agg [.str, .int .i64]) ks), .list (Row.big (.agg [.str, .int .i64, .int .i64, .int .i64, .int .i64]) rs), .list (Row.big (.agg [.int .i64, .int .i64, .int .i64]) l), .int .i64 wn, .int .i64 fl]))],todo:=[.code a14.code],defs:=[],rnd:=none,ret:=false,res:=[ARes.tmp 2] }
def ZIC(ms ks rs l:List AV)(wn fl:Int):List AFrame:=[(ZAB ms ks rs l wn fl)]
theorem Zu4(ms ks rs l:List AV)(wn fl:Int):Zat tab 14 [AV.agg (Row.gen [.list (Row.big .str ms), .list (Row.big (.agg [.str, .int .i64]) ks), .list (Row.big (.agg [.str, .int .i64, .int .i64, .int .i64, .int .i64]) rs), .list (Row.big (.agg [.int .i64, .int .i64, .int .i64]) l), .int .i64 wn, .int .i64 fl])]=some (ZAB ms ks rs l wn fl):=rfl
def ZzG(A:Ar)(K:KT)(F:FT)(ms ks rs l:List AV)(wn fl:Int):Prop:=bB (Zqa ms ks rs) (F (AV.bool (A.le (A.int (A.lenA l)) 14)) (none)) (F (AV.bool false) (none))
theorem ZET{A:Ar}{K:KT}{F:FT}{M:MT}{ms ks rs l:List AV}{wn fl:Int} :ZaK A tab B8 14 K F M (.run 11 (.tf (.ty (.ty (.ty (.ty (.run 4 (.fn)))))) (.fy (.fy (.fy (.fy (.run 4 (.fn)))))))) (ZIC ms ks rs l wn fl) []=ZzG A K F ms ks rs l wn fl:=by kernel_rfl
def ZA7(ms ks rs l:List AV)(wn fl:Int):AFrame:={ fn:=16,N:=12,env:=[(0,AV.agg (Row.gen [.list (Row.big .str ms), .list (Row.big (.agg [.str, .int .i64]) ks), .list (Row.big (.agg [.str, .int .i64, .int .i64, .int .i64, .int .i64]) rs), .list (Row.big (.agg [.int .i64, .int .i64, .int .i64]) l), .int .i64 wn, .int .i64 fl]))],todo:=[.code a16.code],defs:=[],rnd:=none,ret:=false,res:=[ARes.cell 2 true 6] }
def ZG8(ms ks rs l:List AV)(wn fl:Int):List AFrame:=[(ZA7 ms ks rs l wn fl)]
theorem Zvy(ms ks rs l:List AV)(wn fl:Int):Zat tab 16 [AV.agg (Row.gen [.list (Row.big .str ms), .list (Row.big (.agg [.str, .int .i64]) ks), .list (Row.big (.agg [.str, .int .i64, .int .i64, .int .i64, .int .i64]) rs), .list (Row.big (.agg [.int .i64, .int .i64, .int .i64]) l), .int .i64 wn, .int .i64 fl])]=some (ZA7 ms ks rs l wn fl):=rfl
def ZCh(A:Ar)(K:KT)(F:FT)(ms ks rs l:List AV)(wn fl:Int):Prop:=rB [decide (List.length l≤1000000),decide (List.length ms≤1000000∧List.length ks≤1000000∧List.length rs≤1000000)] (F (AV.agg (Row.gen [.list (Row.big .str ms), .list (Row.big (.agg [.str, .int .i64]) ks), .list (Row.big (.agg [.str, .int .i64, .int .i64, .int .i64, .int .i64]) rs), .list (Row.big (.agg [.int .i64, .int .i64, .int .i64]) l), .int .i64 wn, .int .i64 fl])) (none))
theorem ZC1{A:Ar}{K:KT}{F:FT}{M:MT}{ms ks rs l:List AV}{wn fl:Int} :ZaK A tab B8 16 K F M (.run 14 (.fn)) (ZG8 ms ks rs l wn fl) []=ZCh A K F ms ks rs l wn fl:=by kernel_rfl
def Zy3(at0 mo:Int)(dn:List AV)(ha:Bool)(ba:Int)(to:Bool)(dw:List Int)(up:List AV):AFrame:={ fn:=35,N:=18,env:=[(0,AV.agg (Row.gen [.int .i64 at0, .int .i64 mo, .list (Row.big (.agg [.int .i64, .int .i64]) dn), .bool ha, .int .i64 ba, .bool to, .list (.ints .i64 dw), .list (Row.big (.agg [.int .i64, .bool]) up)]))],todo:=[.code a35.code],defs:=[],rnd:=none,ret:=false,res:=[ARes.cell 2 true 8] }
def ZGK(at0 mo:Int)(dn:List AV)(ha:Bool)(ba:Int)(to:Bool)(dw:List Int)(up:List AV):List AFrame:=[(Zy3 at0 mo dn ha ba to dw up)]
theorem ZvL(at0 mo:Int)(dn:List AV)(ha:Bool)(ba:Int)(to:Bool)(dw:List Int)(up:List AV):Zat tab 35 [AV.agg (Row.gen [.int .i64 at0, .int .i64 mo, .list (Row.big (.agg [.int .i64, .int .i64]) dn), .bool ha, .int .i64 ba, .bool to, .list (.ints .i64 dw), .list (Row.big (.agg [.int .i64, .bool]) up)])]=some (Zy3 at0 mo dn ha ba to dw up):=rfl
def ZyX(A:Ar)(K:KT)(F:FT)(at0 mo:Int)(dn:List AV)(ha:Bool)(ba:Int)(to:Bool)(dw:List Int)(up:List AV):Prop:=rB [Nat.ble (0+A.lenA up) 4294967296,List.all [] fun x=>AV.bx x&&Nat.beq (Zad A x) 2,Nat.ble (0+A.len dw) 4294967296,List.all [] fun x=>AV.bx x&&Nat.beq (Zad A x) 1,Nat.ble (0+A.lenA dn) 4294967296,List.all [] fun x=>AV.bx x&&Nat.beq (Zad A x) 2] (F (AV.agg (Row.gen [.int .i64 at0, .int .i64 mo, .list (Row.big (.agg [.int .i64, .int .i64]) dn), .bool ha, .int .i64 ba, .bool to, .list (.ints .i64 dw), .list (Row.big (.agg [.int .i64, .bool]) up)])) (none))
theorem ZE4{A:Ar}{K:KT}{F:FT}{M:MT}{at0 mo:Int}{dn:List AV}{ha:Bool}{ba:Int}{to:Bool}{dw:List Int}{up:List AV} :ZaK A tab B8 35 K F M (.run 50 (.fn)) (ZGK at0 mo dn ha ba to dw up) []=ZyX A K F at0 mo dn ha ba to dw up:=by kernel_rfl
def ZBE(ek en:Int):AFrame:={ fn:=37,N:=29,env:=[(0,AV.agg (Row.gen [.int .i64 ek, .int .i64 en]))],todo:=[.code a37.code],defs:=[],rnd:=none,ret:=false,res:=[ARes.tmp 2] }
def ZHL(ek en:Int):List AFrame:=[(ZBE ek en)]
theorem Zwg(ek en:Int):Zat tab 37 [AV.agg (Row.gen [.int .i64 ek, .int .i64 en])]=some (ZBE ek en):=rfl
def Zg6(A:Ar)(K:KT)(F:FT)(ek en:Int):Prop:=bB (A.not (Zab ek 0 8)) (F (AV.int .i64 15) (none)) (qB [A.eq ek 0] (rB [!A.eq 1000000000000 0] (F (AV.int .i64 (Zaa (Zab en 1 1000000000000) 2)) (none))) (qB [A.eq ek (Int.ofNat 1)] (rB [!A.eq 11 0] (F (AV.int .i64 (Zaa (Zab en 0 11) 2)) (none))) (qB [A.eq ek (Int.ofNat 2)] (rB [!A.eq 5 0] (F (AV.int .i64 (Zaa (Zab en 0 5) 2)) (none))) (qB [A.eq ek (Int.ofNat 3)] (rB [!A.eq 5 0] (F (AV.int .i64 (Zaa (Zab en 0 5) 2)) (none))) (qB [A.eq ek (Int.ofNat 4)] (rB [!A.eq 5 0] (F (AV.int .i64 (Zaa (Zab en 0 5) 2)) (none))) (qB [A.eq ek (Int.ofNat 5)] (rB [!A.eq 5 0] (F (AV.int .i64 (Zaa (Zab en 0 5) 2)) (none))) (qB [A.eq ek (Int.ofNat 6)] (rB [!A.eq 5 0] (F (AV.int .i64 (Zaa (Zab en 0 5) 2)) (none))) (qB [A.eq ek (Int.ofNat 7)] (rB [A.eq 0 0] (F (AV.int .i64 (Zaa (A.eq en 0) 3)) (none))) (rB [A.eq ek (Int.ofNat 8)] (rB [A.eq 0 0] (F (AV.int .i64 (Zaa (A.eq en 0) 3)) (none))))))))))))
theorem ZDd{A:Ar}{K:KT}{F:FT}{M:MT}{ek en:Int} :ZaK A tab B8 37 K F M (.run 40 (.tf (.run 5 (.fn)) (.run 5 (.alt [true] (.run 11 (.fy (.run 15 (.fn)))) (.alt [false,true] (.run 11 (.fy (.run 15 (.fn)))) (.alt [false,false,true] (.run 11 (.fy (.run 15 (.fn)))) (.alt [false,false,false,true] (.run 11 (.fy (.run 15 (.fn)))) (.alt [false,false,false,false,true] (.run 11 (.fy (.run 15 (.fn)))) (.alt [false,false,false,false,false,true] (.run 11 (.fy (.run 15 (.fn)))) (.alt [false,false,false,false,false,false,true] (.run 11 (.fy (.run 15 (.fn)))) (.alt [false,false,false,false,false,false,false,true] (.run 11 (.ty (.run 9 (.fn)))) (.alt [false,false,false,false,false,false,false,false,true] (.run 11 (.ty (.run 9 (.fn)))) (.no))))))))))))) (ZHL ek en) []=Zg6 A K F ek en:=by kernel_rfl
def ZzE(xs:List Int):AFrame:={ fn:=81,N:=6,env:=[(0,AV.list (.ints .i64 xs))],todo:=[.code a81.code],defs:=[],rnd:=none,ret:=false,res:=[ARes.tmp 2] }
def ZIT(xs:List Int):List AFrame:=[(ZzE xs)]
theorem ZuX(xs:List Int):Zat tab 81 [AV.list (.ints .i64 xs)]=some (ZzE xs):=rfl
def ZzO(A:Ar)(K:KT)(F:FT)(xs:List Int):Prop:=rB [Nat.ble (0+A.len xs) 4294967296,List.all [] fun x=>AV.bx x&&Nat.beq (Zad A x) 1] (F (AV.row 0 0) (some { e:=3,sz:=1,r:=.ints .i64 xs }))
theorem ZEI{A:Ar}{K:KT}{F:FT}{M:MT}{xs:List Int} :ZaK A tab B8 81 K F M (.run 12 (.fn)) (ZIT xs) []=ZzO A K F xs:=by kernel_rfl
end Go.Proofs.YtkeoeooghhjibaaGreatDoor
/- Contracts as a list. No condition. -/
namespace Go.Proofs.YtkeoeooghhjibaaGreatDoor
theorem ZpC{ms ks rs:List AV}(h:Zqa ms ks rs=true):Zax ms ks rs=true∧ms.length≤8∧ks.length≤10∧rs.length≤12:=by
 simp only[Zqa,Bool.and_eq_true,decide_eq_true_eq,List.all_eq_true,ZxO,Zof]at h
 obtain⟨h1,h2,h3,h4⟩:=h
 simp only[Zax,Bool.and_eq_true,decide_eq_true_eq,List.all_eq_true]
 refine⟨⟨⟨⟨fun x hx=>?_,fun x hx=>?_⟩,fun x hx=>?_⟩,by omega⟩,h1⟩
 ·have:=h2 x hx;omega
 ·have:=h3 x hx;omega
 ·have:=h4 x hx;omega
def Zgf(ms ks rs l:List AV):Int:=ZbA (ZaC ms ks rs) ks.length l
theorem ZmG{ms ks rs:List AV}(h:Zax ms ks rs=true):ms.length≤1000000∧ks.length≤1000000∧rs.length≤1000000:=by
 simp only[Zax,Bool.and_eq_true,decide_eq_true_eq]at h
 exact h.2
def upE(ms ks rs l:List AV)(wn fl:Int):Int:=if Zgf ms ks rs l=0 then(if Zab wn 1 6=true∧Zab fl 1 6=true then 0 else 2)else Zgf ms ks rs l
def Zh9(ms ks rs l:List AV):Bool:=Zqa ms ks rs&&decide (l.length≤14)
def evE(ek en:Int):Int:=if Zab ek 0 8=true then(if ek=0 then Zaa (Zab en 1 1000000000000) 2 else if ek=1 then Zaa (Zab en 0 11) 2 else if Zab ek 2 6=true then Zaa (Zab en 0 5) 2 else Zaa (decide (en=0)) 3)else 15
theorem Zx5{xs:List AV}{k:Nat}(h:k<xs.length):xs.drop k=xs.getD k .top::xs.drop (k+1):=by
 rw[List.drop_eq_getElem_cons h,List.getD_eq_getElem?_getD,List.getElem?_eq_getElem h];rfl
theorem ZDX{xs:List Int}{k:Nat}(h:k<xs.length):xs.drop k=xs.getD k 0::xs.drop (k+1):=by
 rw[List.drop_eq_getElem_cons h,List.getD_eq_getElem?_getD,List.getElem?_eq_getElem h];rfl
theorem Zr1(ms ks rs l:List AV)(h:Zax ms ks rs=true∧l.length≤1000000):Zao Tryz.prog 28 [.agg (.gen [.list (.big .str ms), .list (.big (.agg [.str, .int .i64]) ks), .list (.big (.agg [.str, .int .i64, .int .i64, .int .i64, .int .i64]) rs)]), .list (.big (.agg [.int .i64, .int .i64, .int .i64]) l)] (.int .i64 (Zgf ms ks rs l)) none:=
 start (Zv3 ms ks rs l) fun C hC=>tgo hC ZhD ZD8 (by
  have:=ZmG h.1
  by_cases he:ZaC ms ks rs=0<;>simp[ZB3,h.1,h.2,he,Zgf,ZmW,this])
theorem ZrA(ms ks rs l:List AV)(wn fl:Int)(h:Zax ms ks rs=true∧l.length≤1000000):Zao Tryz.prog 19 [.agg (.gen [.list (.big .str ms), .list (.big (.agg [.str, .int .i64]) ks), .list (.big (.agg [.str, .int .i64, .int .i64, .int .i64, .int .i64]) rs), .list (.big (.agg [.int .i64, .int .i64, .int .i64]) l), .int .i64 wn, .int .i64 fl])] (.int .i64 (upE ms ks rs l wn fl)) none:=
 start (Zv2 ms ks rs l wn fl) fun C hC=>tgo hC ZhD ZEQ (by
  have:=ZmG h.1
  by_cases he:ZaC ms ks rs=0
  ·by_cases hf:ZbA 0 ks.length l=0<;>by_cases h1:Zab wn 1 6=true<;>by_cases h2:Zab fl 1 6=true<;>simp[ZvD,h.1,h.2,he,upE,Zgf,this,hf,h1,h2]
  ·simp[ZvD,h.1,he,upE,Zgf,ZmW])
theorem bxA(a b:Int):([AV.int .i64 a,AV.int .i64 b].all fun x=>AV.bx x&&Nat.beq (Zad std x) 1)=true:=rfl
theorem Zq7(ms ks rs l:List AV)(wn fl:Int)(h:Zax ms ks rs=true∧l.length≤1000000):Zao Tryz.prog 36 [.agg (.gen [.list (.big .str ms), .list (.big (.agg [.str, .int .i64]) ks), .list (.big (.agg [.str, .int .i64, .int .i64, .int .i64, .int .i64]) rs), .list (.big (.agg [.int .i64, .int .i64, .int .i64]) l), .int .i64 wn, .int .i64 fl])] (.int .i64 (upE ms ks rs l wn fl)) none:=
 start (ZwP ms ks rs l wn fl) fun C hC=>tgo hC ZhD ZEr (by
  unfold ZAV
  simp only[bxA]
  by_cases hf:Zgf ms ks rs l=0<;>by_cases h1:Zab wn 1 6=true<;>by_cases h2:Zab fl 1 6=true<;>(have hf':=hf;unfold Zgf at hf';simp[h.1,h.2,upE,hf,hf',h1,h2,Zaf,Zaa,Zgf]))
theorem ZrU(ms ks rs l:List AV)(wn fl:Int)(h:Zax ms ks rs=true∧l.length≤1000000):Zao Tryz.prog 33 [.agg (.gen [.list (.big .str ms), .list (.big (.agg [.str, .int .i64]) ks), .list (.big (.agg [.str, .int .i64, .int .i64, .int .i64, .int .i64]) rs), .list (.big (.agg [.int .i64, .int .i64, .int .i64]) l), .int .i64 wn, .int .i64 fl])] (.tup [.agg (.gen [.int .i64 0, .int .i64 0, .list (.big (.agg [.int .i64, .int .i64]) []), .bool false, .int .i64 0, .bool false, .list (.ints .i64 []), .list (.big (.agg [.int .i64, .bool]) [])]), .int .i64 (upE ms ks rs l wn fl)]) none:=
 Zs7 (Zxa ms ks rs l wn fl) fun C hC=>ZjB hC ZhD ZDn (by
  unfold Zzx
  simp only[bxA]
  have hw:∀e:Int,e=upE ms ks rs l wn fl→Wk (.tup [.agg (.gen [.int .i64 0, .int .i64 0, .nils, .bool false, .int .i64 0, .bool false, .nils, .nils]), .int .i64 e]) (.tup [.agg (.gen [.int .i64 0, .int .i64 0, .list (.big (.agg [.int .i64, .int .i64]) []), .bool false, .int .i64 0, .bool false, .list (.ints .i64 []), .list (.big (.agg [.int .i64, .bool]) [])]), .int .i64 (upE ms ks rs l wn fl)]):=fun e he=>by
   subst he
   exact .tup' ⟨.agg' ⟨.same _, .same _, .nil _ rfl, .same _, .same _, .same _, .nil _ rfl, .nil _ rfl,trivial⟩, .same _,trivial⟩
  by_cases hf:Zgf ms ks rs l=0<;>by_cases h1:Zab wn 1 6=true<;>by_cases h2:Zab fl 1 6=true<;>(have hf':=hf;unfold Zgf at hf';simp[h.1,h.2,hf',h1,h2];apply hw;simp[upE,hf,hf',h1,h2,Zaf,Zaa,Zgf]))
theorem Zw0(ek en:Int):Zao Tryz.prog 37 [.agg (.gen [.int .i64 ek, .int .i64 en])] (.int .i64 (evE ek en)) none:=
 start (Zwg ek en) fun C hC=>tgo hC ZhD ZDd (by
  by_cases h1:Zab ek 0 8=true
  ·have h2:=within_iff.1 h1
   obtain⟨n,rfl⟩:∃n:Nat,ek=n:=⟨ek.toNat,by omega⟩
   have h3:n≤8:=by omega
   match n,h3 with
   |0,_=>simp[Zg6,evE,Zab]
   |1,_=>simp[Zg6,evE,Zab]
   |2,_=>simp[Zg6,h1,evE,Zab]
   |3,_=>simp[Zg6,h1,evE,Zab]
   |4,_=>simp[Zg6,h1,evE,Zab]
   |5,_=>simp[Zg6,h1,evE,Zab]
   |6,_=>simp[Zg6,h1,evE,Zab]
   |7,_=>simp[Zg6,h1,evE,Zab]
   |8,_=>simp[Zg6,h1,evE,Zab]
  ·simp[Zg6,h1,evE])
theorem Znj(ms ks rs l:List AV)(wn fl:Int):Zao Tryz.prog 14 [.agg (.gen [.list (.big .str ms), .list (.big (.agg [.str, .int .i64]) ks), .list (.big (.agg [.str, .int .i64, .int .i64, .int .i64, .int .i64]) rs), .list (.big (.agg [.int .i64, .int .i64, .int .i64]) l), .int .i64 wn, .int .i64 fl])] (.bool (Zh9 ms ks rs l)) none:=
 start (Zu4 ms ks rs l wn fl) fun C hC=>tgo hC ZhD ZET (by
  by_cases h1:Zqa ms ks rs=true<;>by_cases h2:l.length≤14<;>simp[ZzG,h1,h2,Zh9]<;>omega)
theorem ZqH(ms ks rs l:List AV)(wn fl:Int)(h:ms.length≤1000000∧ks.length≤1000000∧rs.length≤1000000∧l.length≤1000000):Zao Tryz.prog 16 [.agg (.gen [.list (.big .str ms), .list (.big (.agg [.str, .int .i64]) ks), .list (.big (.agg [.str, .int .i64, .int .i64, .int .i64, .int .i64]) rs), .list (.big (.agg [.int .i64, .int .i64, .int .i64]) l), .int .i64 wn, .int .i64 fl])] (.agg (.gen [.list (.big .str ms), .list (.big (.agg [.str, .int .i64]) ks), .list (.big (.agg [.str, .int .i64, .int .i64, .int .i64, .int .i64]) rs), .list (.big (.agg [.int .i64, .int .i64, .int .i64]) l), .int .i64 wn, .int .i64 fl])) none:=
 start (Zvy ms ks rs l wn fl) fun C hC=>tgo hC ZhD ZC1 (by simp[ZCh,h])
theorem ZqI(at0 mo:Int)(dn:List AV)(ha:Bool)(ba:Int)(to:Bool)(dw:List Int)(up:List AV)(h:dn.length≤1000000∧dw.length≤1000000∧up.length≤1000000):Zao Tryz.prog 35 [.agg (.gen [.int .i64 at0, .int .i64 mo, .list (.big (.agg [.int .i64, .int .i64]) dn), .bool ha, .int .i64 ba, .bool to, .list (.ints .i64 dw), .list (.big (.agg [.int .i64, .bool]) up)])] (.agg (.gen [.int .i64 at0, .int .i64 mo, .list (.big (.agg [.int .i64, .int .i64]) dn), .bool ha, .int .i64 ba, .bool to, .list (.ints .i64 dw), .list (.big (.agg [.int .i64, .bool]) up)])) none:=
 start (ZvL at0 mo dn ha ba to dw up) fun C hC=>tgo hC ZhD ZE4 (by simp[ZyX];omega)
theorem ZgX(xs:List Int)(h:xs.length≤1000000):Zao Tryz.prog 81 [.list (.ints .i64 xs)] (.row 0 0) (some ⟨3,1, .ints .i64 xs⟩):=
 start (ZuX xs) fun C hC=>tgo hC ZhD ZEI (by simp[ZzO];omega)
theorem ZoS(xs:List Int)(h:xs.length≤1000000):Zao Tryz.prog 81 [.list (.ints .i64 xs)] (.list (.ints .i64 xs)) Ztn:=ZuW (ZgX xs h) rfl rfl
def k28:Ctr:=⟨28,0,fun _ a=>match a with |[.agg (.gen [.list (.big .str ms), .list (.big (.agg [.str, .int .i64]) ks), .list (.big (.agg [.str, .int .i64, .int .i64, .int .i64, .int .i64]) rs)]), .list (.big (.agg [.int .i64, .int .i64, .int .i64]) l)]=>some (decide (Zax ms ks rs=true∧l.length≤1000000), .int .i64 (Zgf ms ks rs l),none) |_=>none⟩
theorem ZyL:k28.OK Tryz.prog:=fun pa args r fr h=>by
 simp only[k28]at h
 split at h
 ·simp only[Option.some.injEq,Prod.mk.injEq,decide_eq_true_eq]at h
  obtain⟨h0,rfl,rfl⟩:=h
  exact Zr1 _ _ _ _ h0
 ·cases h
def k19:Ctr:=⟨19,0,fun _ a=>match a with |[.agg (.gen [.list (.big .str ms), .list (.big (.agg [.str, .int .i64]) ks), .list (.big (.agg [.str, .int .i64, .int .i64, .int .i64, .int .i64]) rs), .list (.big (.agg [.int .i64, .int .i64, .int .i64]) l), .int .i64 wn, .int .i64 fl])]=>some (decide (Zax ms ks rs=true∧l.length≤1000000), .int .i64 (upE ms ks rs l wn fl),none) |_=>none⟩
theorem ZxX:k19.OK Tryz.prog:=fun pa args r fr h=>by
 simp only[k19]at h
 split at h
 ·simp only[Option.some.injEq,Prod.mk.injEq,decide_eq_true_eq]at h
  obtain⟨h0,rfl,rfl⟩:=h
  exact ZrA _ _ _ _ _ _ h0
 ·cases h
def k36:Ctr:=⟨36,0,fun _ a=>match a with |[.agg (.gen [.list (.big .str ms), .list (.big (.agg [.str, .int .i64]) ks), .list (.big (.agg [.str, .int .i64, .int .i64, .int .i64, .int .i64]) rs), .list (.big (.agg [.int .i64, .int .i64, .int .i64]) l), .int .i64 wn, .int .i64 fl])]=>some (decide (Zax ms ks rs=true∧l.length≤1000000), .int .i64 (upE ms ks rs l wn fl),none) |_=>none⟩
theorem ZAa:k36.OK Tryz.prog:=fun pa args r fr h=>by
 simp only[k36]at h
 split at h
 ·simp only[Option.some.injEq,Prod.mk.injEq,decide_eq_true_eq]at h
  obtain⟨h0,rfl,rfl⟩:=h
  exact Zq7 _ _ _ _ _ _ h0
 ·cases h
def k33:Ctr:=⟨33,0,fun _ a=>match a with |[.agg (.gen [.list (.big .str ms), .list (.big (.agg [.str, .int .i64]) ks), .list (.big (.agg [.str, .int .i64, .int .i64, .int .i64, .int .i64]) rs), .list (.big (.agg [.int .i64, .int .i64, .int .i64]) l), .int .i64 wn, .int .i64 fl])]=>some (decide (Zax ms ks rs=true∧l.length≤1000000), .tup [.agg (.gen [.int .i64 0, .int .i64 0, .list (.big (.agg [.int .i64, .int .i64]) []), .bool false, .int .i64 0, .bool false, .list (.ints .i64 []), .list (.big (.agg [.int .i64, .bool]) [])]), .int .i64 (upE ms ks rs l wn fl)],none) |_=>none⟩
theorem ZAu:k33.OK Tryz.prog:=fun pa args r fr h=>by
 simp only[k33]at h
 split at h
 ·simp only[Option.some.injEq,Prod.mk.injEq,decide_eq_true_eq]at h
  obtain⟨h0,rfl,rfl⟩:=h
  exact ZrU _ _ _ _ _ _ h0
 ·cases h
def k37:Ctr:=⟨37,0,fun _ a=>match a with |[.agg (.gen [.int .i64 ek, .int .i64 en])]=>some (true, .int .i64 (evE ek en),none) |_=>none⟩
theorem Zzw:k37.OK Tryz.prog:=fun pa args r fr h=>by
 simp only[k37]at h
 split at h
 ·cases h
  exact Zw0 _ _
 ·cases h
def k14:Ctr:=⟨14,0,fun _ a=>match a with |[.agg (.gen [.list (.big .str ms), .list (.big (.agg [.str, .int .i64]) ks), .list (.big (.agg [.str, .int .i64, .int .i64, .int .i64, .int .i64]) rs), .list (.big (.agg [.int .i64, .int .i64, .int .i64]) l), .int .i64 _, .int .i64 _])]=>some (true, .bool (Zh9 ms ks rs l),none) |_=>none⟩
theorem Zz7:k14.OK Tryz.prog:=fun pa args r fr h=>by
 simp only[k14]at h
 split at h
 ·cases h
  exact Znj _ _ _ _ _ _
 ·cases h
def k16:Ctr:=⟨16,0,fun _ a=>match a with |[.agg (.gen [.list (.big .str ms), .list (.big (.agg [.str, .int .i64]) ks), .list (.big (.agg [.str, .int .i64, .int .i64, .int .i64, .int .i64]) rs), .list (.big (.agg [.int .i64, .int .i64, .int .i64]) l), .int .i64 wn, .int .i64 fl])]=>some (decide (ms.length≤1000000∧ks.length≤1000000∧rs.length≤1000000∧l.length≤1000000), .agg (.gen [.list (.big .str ms), .list (.big (.agg [.str, .int .i64]) ks), .list (.big (.agg [.str, .int .i64, .int .i64, .int .i64, .int .i64]) rs), .list (.big (.agg [.int .i64, .int .i64, .int .i64]) l), .int .i64 wn, .int .i64 fl]),none) |_=>none⟩
theorem ZCk:k16.OK Tryz.prog:=fun pa args r fr h=>by
 simp only[k16]at h
 split at h
 ·simp only[Option.some.injEq,Prod.mk.injEq,decide_eq_true_eq]at h
  obtain⟨h0,rfl,rfl⟩:=h
  exact ZqH _ _ _ _ _ _ h0
 ·cases h
def k35:Ctr:=⟨35,0,fun _ a=>match a with |[.agg (.gen [.int .i64 at0, .int .i64 mo, .list (.big (.agg [.int .i64, .int .i64]) dn), .bool ha, .int .i64 ba, .bool to, .list (.ints .i64 dw), .list (.big (.agg [.int .i64, .bool]) up)])]=>some (decide (dn.length≤1000000∧dw.length≤1000000∧up.length≤1000000), .agg (.gen [.int .i64 at0, .int .i64 mo, .list (.big (.agg [.int .i64, .int .i64]) dn), .bool ha, .int .i64 ba, .bool to, .list (.ints .i64 dw), .list (.big (.agg [.int .i64, .bool]) up)]),none) |_=>none⟩
theorem ZyZ:k35.OK Tryz.prog:=fun pa args r fr h=>by
 simp only[k35]at h
 split at h
 ·simp only[Option.some.injEq,Prod.mk.injEq,decide_eq_true_eq]at h
  obtain⟨h0,rfl,rfl⟩:=h
  exact ZqI _ _ _ _ _ _ _ _ h0
 ·cases h
def B9:List Ctr:=[k28,k19,k36,k33,k37,k14,k16,k35]++B8
theorem ZEG:ZaD Tryz.prog B9:=⟨ZyL,⟨ZxX,⟨ZAa,⟨ZAu,⟨Zzw,⟨Zz7,⟨ZCk,⟨ZyZ,ZhD⟩⟩⟩⟩⟩⟩⟩⟩
end Go.Proofs.YtkeoeooghhjibaaGreatDoor
/- Calls at given values. Printed by facts.py. -/
namespace Go.Proofs.YtkeoeooghhjibaaGreatDoor
set_option maxRecDepth 1000000
def rp0:Fact:=⟨179,[(.int .u64 1),(.int .u64 0)],(.tup [(.int .u64 0),(.int .u64 0)]),none⟩
theorem ZAZ:Zao Tryz.prog rp0.f rp0.args rp0.r rp0.fr:=Zae (n:=100000) (l:=[]) follows Zag trivial (by kernel_rfl)
def rp1:Fact:=⟨152,[(.int .u64 1),(.int .u64 0)],(.tup [(.int .u64 0),(.int .u64 0)]),none⟩
theorem Zy9:Zao Tryz.prog rp1.f rp1.args rp1.r rp1.fr:=Zae (n:=100000) (l:=[rp0]) follows Zag ⟨ZAZ,trivial⟩ (by kernel_rfl)
def rp2:Fact:=⟨121,[(.list (.ints .i64 [(-1)])),(.int .i64 0)],(.row 0 0),(some ⟨3,1,(.ints .i64 [])⟩)⟩
theorem ZAD:Zao Tryz.prog rp2.f rp2.args rp2.r rp2.fr:=Zae (n:=100000) (l:=[rp1]) follows Zag ⟨Zy9,trivial⟩ (by kernel_rfl)
def rp3:Fact:=⟨179,[(.int .u64 1),(.int .u64 1)],(.tup [(.int .u64 0),(.int .u64 1)]),none⟩
theorem ZyE:Zao Tryz.prog rp3.f rp3.args rp3.r rp3.fr:=Zae (n:=100000) (l:=[]) follows Zag trivial (by kernel_rfl)
def rp4:Fact:=⟨152,[(.int .u64 1),(.int .u64 1)],(.tup [(.int .u64 0),(.int .u64 1)]),none⟩
theorem Zzq:Zao Tryz.prog rp4.f rp4.args rp4.r rp4.fr:=Zae (n:=100000) (l:=[rp3]) follows Zag ⟨ZyE,trivial⟩ (by kernel_rfl)
def rp5:Fact:=⟨121,[(.list (.ints .i64 [(-1)])),(.int .i64 1)],(.row 0 0),(some ⟨3,1,(.ints .i64 [(-1)])⟩)⟩
theorem ZBY:Zao Tryz.prog rp5.f rp5.args rp5.r rp5.fr:=Zae (n:=100000) (l:=[rp4]) follows Zag ⟨Zzq,trivial⟩ (by kernel_rfl)
def rp6:Fact:=⟨179,[(.int .u64 1),(.int .u64 2)],(.tup [(.int .u64 0),(.int .u64 2)]),none⟩
theorem ZzW:Zao Tryz.prog rp6.f rp6.args rp6.r rp6.fr:=Zae (n:=100000) (l:=[]) follows Zag trivial (by kernel_rfl)
def rp7:Fact:=⟨152,[(.int .u64 1),(.int .u64 2)],(.tup [(.int .u64 0),(.int .u64 2)]),none⟩
theorem ZzR:Zao Tryz.prog rp7.f rp7.args rp7.r rp7.fr:=Zae (n:=100000) (l:=[rp6]) follows Zag ⟨ZzW,trivial⟩ (by kernel_rfl)
def rp8:Fact:=⟨121,[(.list (.ints .i64 [(-1)])),(.int .i64 2)],(.row 0 0),(some ⟨3,1,(.ints .i64 [(-1),(-1)])⟩)⟩
theorem ZBJ:Zao Tryz.prog rp8.f rp8.args rp8.r rp8.fr:=Zae (n:=100000) (l:=[rp7]) follows Zag ⟨ZzR,trivial⟩ (by kernel_rfl)
def rp9:Fact:=⟨179,[(.int .u64 1),(.int .u64 3)],(.tup [(.int .u64 0),(.int .u64 3)]),none⟩
theorem Zyu:Zao Tryz.prog rp9.f rp9.args rp9.r rp9.fr:=Zae (n:=100000) (l:=[]) follows Zag trivial (by kernel_rfl)
def rp10:Fact:=⟨152,[(.int .u64 1),(.int .u64 3)],(.tup [(.int .u64 0),(.int .u64 3)]),none⟩
theorem Zwb:Zao Tryz.prog rp10.f rp10.args rp10.r rp10.fr:=Zae (n:=100000) (l:=[rp9]) follows Zag ⟨Zyu,trivial⟩ (by kernel_rfl)
def rp11:Fact:=⟨121,[(.list (.ints .i64 [(-1)])),(.int .i64 3)],(.row 0 0),(some ⟨3,1,(.ints .i64 [(-1),(-1),(-1)])⟩)⟩
theorem ZvY:Zao Tryz.prog rp11.f rp11.args rp11.r rp11.fr:=Zae (n:=100000) (l:=[rp10]) follows Zag ⟨Zwb,trivial⟩ (by kernel_rfl)
def rp12:Fact:=⟨179,[(.int .u64 1),(.int .u64 4)],(.tup [(.int .u64 0),(.int .u64 4)]),none⟩
theorem ZwJ:Zao Tryz.prog rp12.f rp12.args rp12.r rp12.fr:=Zae (n:=100000) (l:=[]) follows Zag trivial (by kernel_rfl)
def rp13:Fact:=⟨152,[(.int .u64 1),(.int .u64 4)],(.tup [(.int .u64 0),(.int .u64 4)]),none⟩
theorem Zwu:Zao Tryz.prog rp13.f rp13.args rp13.r rp13.fr:=Zae (n:=100000) (l:=[rp12]) follows Zag ⟨ZwJ,trivial⟩ (by kernel_rfl)
def rp14:Fact:=⟨121,[(.list (.ints .i64 [(-1)])),(.int .i64 4)],(.row 0 0),(some ⟨3,1,(.ints .i64 [(-1),(-1),(-1),(-1)])⟩)⟩
theorem Zxn:Zao Tryz.prog rp14.f rp14.args rp14.r rp14.fr:=Zae (n:=100000) (l:=[rp13]) follows Zag ⟨Zwu,trivial⟩ (by kernel_rfl)
def rp15:Fact:=⟨179,[(.int .u64 1),(.int .u64 5)],(.tup [(.int .u64 0),(.int .u64 5)]),none⟩
theorem ZtW:Zao Tryz.prog rp15.f rp15.args rp15.r rp15.fr:=Zae (n:=100000) (l:=[]) follows Zag trivial (by kernel_rfl)
def rp16:Fact:=⟨152,[(.int .u64 1),(.int .u64 5)],(.tup [(.int .u64 0),(.int .u64 5)]),none⟩
theorem ZuZ:Zao Tryz.prog rp16.f rp16.args rp16.r rp16.fr:=Zae (n:=100000) (l:=[rp15]) follows Zag ⟨ZtW,trivial⟩ (by kernel_rfl)
def rp17:Fact:=⟨121,[(.list (.ints .i64 [(-1)])),(.int .i64 5)],(.row 0 0),(some ⟨3,1,(.ints .i64 [(-1),(-1),(-1),(-1),(-1)])⟩)⟩
theorem ZvU:Zao Tryz.prog rp17.f rp17.args rp17.r rp17.fr:=Zae (n:=100000) (l:=[rp16]) follows Zag ⟨ZuZ,trivial⟩ (by kernel_rfl)
def rp18:Fact:=⟨179,[(.int .u64 1),(.int .u64 6)],(.tup [(.int .u64 0),(.int .u64 6)]),none⟩
theorem ZtD:Zao Tryz.prog rp18.f rp18.args rp18.r rp18.fr:=Zae (n:=100000) (l:=[]) follows Zag trivial (by kernel_rfl)
def rp19:Fact:=⟨152,[(.int .u64 1),(.int .u64 6)],(.tup [(.int .u64 0),(.int .u64 6)]),none⟩
theorem Zxk:Zao Tryz.prog rp19.f rp19.args rp19.r rp19.fr:=Zae (n:=100000) (l:=[rp18]) follows Zag ⟨ZtD,trivial⟩ (by kernel_rfl)
def rp20:Fact:=⟨121,[(.list (.ints .i64 [(-1)])),(.int .i64 6)],(.row 0 0),(some ⟨3,1,(.ints .i64 [(-1),(-1),(-1),(-1),(-1),(-1)])⟩)⟩
theorem Zvd:Zao Tryz.prog rp20.f rp20.args rp20.r rp20.fr:=Zae (n:=100000) (l:=[rp19]) follows Zag ⟨Zxk,trivial⟩ (by kernel_rfl)
def rp21:Fact:=⟨179,[(.int .u64 1),(.int .u64 7)],(.tup [(.int .u64 0),(.int .u64 7)]),none⟩
theorem Zwd:Zao Tryz.prog rp21.f rp21.args rp21.r rp21.fr:=Zae (n:=100000) (l:=[]) follows Zag trivial (by kernel_rfl)
def rp22:Fact:=⟨152,[(.int .u64 1),(.int .u64 7)],(.tup [(.int .u64 0),(.int .u64 7)]),none⟩
theorem ZtI:Zao Tryz.prog rp22.f rp22.args rp22.r rp22.fr:=Zae (n:=100000) (l:=[rp21]) follows Zag ⟨Zwd,trivial⟩ (by kernel_rfl)
def rp23:Fact:=⟨121,[(.list (.ints .i64 [(-1)])),(.int .i64 7)],(.row 0 0),(some ⟨3,1,(.ints .i64 [(-1),(-1),(-1),(-1),(-1),(-1),(-1)])⟩)⟩
theorem ZwF:Zao Tryz.prog rp23.f rp23.args rp23.r rp23.fr:=Zae (n:=100000) (l:=[rp22]) follows Zag ⟨ZtI,trivial⟩ (by kernel_rfl)
def rp24:Fact:=⟨179,[(.int .u64 1),(.int .u64 8)],(.tup [(.int .u64 0),(.int .u64 8)]),none⟩
theorem ZtF:Zao Tryz.prog rp24.f rp24.args rp24.r rp24.fr:=Zae (n:=100000) (l:=[]) follows Zag trivial (by kernel_rfl)
def rp25:Fact:=⟨152,[(.int .u64 1),(.int .u64 8)],(.tup [(.int .u64 0),(.int .u64 8)]),none⟩
theorem ZvW:Zao Tryz.prog rp25.f rp25.args rp25.r rp25.fr:=Zae (n:=100000) (l:=[rp24]) follows Zag ⟨ZtF,trivial⟩ (by kernel_rfl)
def rp26:Fact:=⟨121,[(.list (.ints .i64 [(-1)])),(.int .i64 8)],(.row 0 0),(some ⟨3,1,(.ints .i64 [(-1),(-1),(-1),(-1),(-1),(-1),(-1),(-1)])⟩)⟩
theorem Zxv:Zao Tryz.prog rp26.f rp26.args rp26.r rp26.fr:=Zae (n:=100000) (l:=[rp25]) follows Zag ⟨ZvW,trivial⟩ (by kernel_rfl)
end Go.Proofs.YtkeoeooghhjibaaGreatDoor
/- A copy, owned or a value, as the path says; a row of one value. No condition. -/
namespace Go.Proofs.YtkeoeooghhjibaaGreatDoor
def k81b:Ctr:=⟨81,1,fun pa a=>match pa with
 |[]=>none
 |b::_=>(match a with
  |[.list (.ints .i64 xs)]=>some (decide (xs.length≤1000000),(match b with |true=>.row 0 0 |false=>.list (.ints .i64 xs)),(match b with |true=>some ⟨3,1, .ints .i64 xs⟩ |false=>Ztn))
  |_=>none)⟩
theorem Zva:k81b.OK Tryz.prog:=fun pa args r fr h=>by
 simp only[k81b]at h
 split at h
 ·simp at h
 ·split at h
  ·simp only[Option.some.injEq,Prod.mk.injEq,decide_eq_true_eq]at h
   obtain⟨h0,rfl,rfl⟩:=h
   split
   ·exact ZgX _ h0
   ·exact ZoS _ h0
  ·cases h
theorem ZpE(xs:List Int)(n:Int)(h:xs=[-1]∧0≤n∧n≤8):Zao Tryz.prog 121 [.list (.ints .i64 xs), .int .i64 n] (.row 0 0) (some ⟨3,1, .ints .i64 (List.replicate n.toNat (-1))⟩):=by
 obtain⟨rfl,h1,h2⟩:=h
 obtain⟨m,rfl⟩:∃m:Nat,n=m:=⟨n.toNat,by omega⟩
 have h3:m≤8:=by omega
 match m,h3 with
 |0,_=>exact ZAD
 |1,_=>exact ZBY
 |2,_=>exact ZBJ
 |3,_=>exact ZvY
 |4,_=>exact Zxn
 |5,_=>exact ZvU
 |6,_=>exact Zvd
 |7,_=>exact ZwF
 |8,_=>exact Zxv
def k121:Ctr:=⟨121,0,fun _ a=>match a with |[.list (.ints .i64 xs), .int .i64 n]=>some (decide (xs=[-1]∧0≤n∧n≤8), .row 0 0,some ⟨3,1, .ints .i64 (List.replicate n.toNat (-1))⟩) |_=>none⟩
theorem Zv5:k121.OK Tryz.prog:=fun pa args r fr h=>by
 simp only[k121]at h
 split at h
 ·simp only[Option.some.injEq,Prod.mk.injEq,decide_eq_true_eq]at h
  obtain⟨h0,rfl,rfl⟩:=h
  exact ZpE _ _ h0
 ·cases h
def Ba:List Ctr:=[k81b,k121]++B9
theorem ZB7:ZaD Tryz.prog Ba:=⟨Zva,⟨Zv5,ZEG⟩⟩
end Go.Proofs.YtkeoeooghhjibaaGreatDoor
/- Paths of functions, printed by the explorer (Gx). No condition. -/
namespace Go.Proofs.YtkeoeooghhjibaaGreatDoor
set_option maxRecDepth 100000
set_option linter.unusedVariables false
def Zs4(ms ks rs:List AV)(a t:Int)(xs:List Int)(s:List UInt8)(r1 r2 r3 r4 b:Int):AFrame:={ fn:=122,N:=26,env:=[(0,AV.eptr (AV.agg (Row.gen [.list (Row.big .str ms), .list (Row.big (.agg [.str, .int .i64]) ks), .list (Row.big (.agg [.str, .int .i64, .int .i64, .int .i64, .int .i64]) rs), .int .i64 a, .int .i64 t, .list (.ints .i64 xs)])) 0),(1,AV.agg (Row.gen [.str s, .int .i64 r1, .int .i64 r2, .int .i64 r3, .int .i64 r4])),(2,AV.int .i64 b)],todo:=[.code a122.code],defs:=[],rnd:=none,ret:=false,res:=[ARes.tmp 6] }
def ZD0(ms ks rs:List AV)(a t:Int)(xs:List Int)(s:List UInt8)(r1 r2 r3 r4 b:Int):List AFrame:=[(Zs4 ms ks rs a t xs s r1 r2 r3 r4 b)]
theorem Zsi(ms ks rs:List AV)(a t:Int)(xs:List Int)(s:List UInt8)(r1 r2 r3 r4 b:Int):Zat tab 122 [AV.eptr (AV.agg (Row.gen [.list (Row.big .str ms), .list (Row.big (.agg [.str, .int .i64]) ks), .list (Row.big (.agg [.str, .int .i64, .int .i64, .int .i64, .int .i64]) rs), .int .i64 a, .int .i64 t, .list (.ints .i64 xs)])) 0,AV.agg (Row.gen [.str s, .int .i64 r1, .int .i64 r2, .int .i64 r3, .int .i64 r4]),AV.int .i64 b]=some (Zs4 ms ks rs a t xs s r1 r2 r3 r4 b):=rfl
def ZsF(A:Ar)(K:KT)(F:FT)(ms ks rs:List AV)(a t:Int)(xs:List Int)(s:List UInt8)(r1 r2 r3 r4 b:Int):Prop:=qB [A.eq r2 (-1),A.eq r1 b] (F (AV.bool true) (none)) (qB [!A.eq r2 (-1),A.eq r1 b] (F (AV.bool (A.eq r2 a)) (none)) (rB [!A.eq r1 b] (F (AV.bool false) (none))))
theorem ZBf{A:Ar}{K:KT}{F:FT}{M:MT}{ms ks rs:List AV}{a t:Int}{xs:List Int}{s:List UInt8}{r1 r2 r3 r4 b:Int} :ZaK A tab Ba 122 K F M (.run 6 (.alt [true,true] (.run 2 (.fn)) (.alt [true,false] (.run 2 (.fn)) (.fy (.run 2 (.fn)))))) (ZD0 ms ks rs a t xs s r1 r2 r3 r4 b) []=ZsF A K F ms ks rs a t xs s r1 r2 r3 r4 b:=by kernel_rfl
end Go.Proofs.YtkeoeooghhjibaaGreatDoor
/- Contracts as a list. No condition. -/
namespace Go.Proofs.YtkeoeooghhjibaaGreatDoor
def exM(ks:List AV)(a k:Int):Int:=if Zaj ks k 1= -1 then a else Zaj ks k 1
def ZmK(a b r1 r2:Int):Bool:=decide (r1=b∧(r2= -1∨r2=a))
theorem ZpM(ms ks rs:List AV)(a t:Int)(xs:List Int)(s:List UInt8)(r1 r2 r3 r4 b:Int):Zao Tryz.prog 122 [.eptr (.agg (.gen [.list (.big .str ms), .list (.big (.agg [.str, .int .i64]) ks), .list (.big (.agg [.str, .int .i64, .int .i64, .int .i64, .int .i64]) rs), .int .i64 a, .int .i64 t, .list (.ints .i64 xs)])) 0, .agg (.gen [.str s, .int .i64 r1, .int .i64 r2, .int .i64 r3, .int .i64 r4]), .int .i64 b] (.bool (ZmK a b r1 r2)) none:=
 start (Zsi ms ks rs a t xs s r1 r2 r3 r4 b) fun C hC=>tgo hC ZB7 ZBf (by
  by_cases h1:r1=b<;>by_cases h2:r2= -1<;>by_cases h3:r2=a<;>simp_all[ZsF,ZmK])
def k122:Ctr:=⟨122,0,fun _ a=>match a with |[.eptr (.agg (.gen [.list (.big .str _), .list (.big (.agg [.str, .int .i64]) _), .list (.big (.agg [.str, .int .i64, .int .i64, .int .i64, .int .i64]) _), .int .i64 a, .int .i64 _, .list (.ints .i64 _)])) 0, .agg (.gen [.str _, .int .i64 r1, .int .i64 r2, .int .i64 _, .int .i64 _]), .int .i64 b]=>some (true, .bool (ZmK a b r1 r2),none) |_=>none⟩
theorem Zvk:k122.OK Tryz.prog:=fun pa args r fr h=>by
 simp only[k122]at h
 split at h
 ·cases h
  exact ZpM _ _ _ _ _ _ _ _ _ _ _ _
 ·cases h
def Bb:List Ctr:=[k122]++Ba
theorem ZrR:ZaD Tryz.prog Bb:=⟨Zvk,ZB7⟩
end Go.Proofs.YtkeoeooghhjibaaGreatDoor
/- Paths of functions, printed by the explorer (Gx). No condition. -/
namespace Go.Proofs.YtkeoeooghhjibaaGreatDoor
set_option maxRecDepth 100000
set_option linter.unusedVariables false
def ZyS(ms ks rs:List AV)(a b:Int)(xs:List Int)(q:Int):AFrame:={ fn:=91,N:=66,env:=[(0,AV.eptr (AV.agg (Row.gen [.list (Row.big .str ms), .list (Row.big (.agg [.str, .int .i64]) ks), .list (Row.big (.agg [.str, .int .i64, .int .i64, .int .i64, .int .i64]) rs), .int .i64 a, .int .i64 b, .list (.ints .i64 xs)])) 0),(1,AV.int .i64 q)],todo:=[.code a91.code],defs:=[],rnd:=none,ret:=false,res:=[ARes.tmp 4] }
def ZI4(ms ks rs:List AV)(a b:Int)(xs:List Int)(q:Int):List AFrame:=[(ZyS ms ks rs a b xs q)]
theorem ZuM(ms ks rs:List AV)(a b:Int)(xs:List Int)(q:Int):Zat tab 91 [AV.eptr (AV.agg (Row.gen [.list (Row.big .str ms), .list (Row.big (.agg [.str, .int .i64]) ks), .list (Row.big (.agg [.str, .int .i64, .int .i64, .int .i64, .int .i64]) rs), .int .i64 a, .int .i64 b, .list (.ints .i64 xs)])) 0,AV.int .i64 q]=some (ZyS ms ks rs a b xs q):=rfl
def ZeY(ms ks rs:List AV)(a b:Int)(xs:List Int)(q n0 n1:Int):List AFrame:=[{ fn:=91,N:=66,env:=[(0,AV.eptr (AV.agg (Row.gen [.list (Row.big .str ms), .list (Row.big (.agg [.str, .int .i64]) ks), .list (Row.big (.agg [.str, .int .i64, .int .i64, .int .i64, .int .i64]) rs), .int .i64 a, .int .i64 b, .list (.ints .i64 xs)])) 0),(1,AV.int .i64 q),(11,AV.list (Row.big (.agg [.str, .int .i64, .int .i64, .int .i64, .int .i64]) rs)),(12,AV.int .i64 n0),(13,AV.int .i64 n1)],todo:=.code (ACode.gh [] ZB0)::ZEw,defs:=[],rnd:=none,ret:=false,res:=[ARes.tmp 4] }]
def Zd6(ms ks rs:List AV)(a b:Int)(xs:List Int)(q n0 n1:Int):Zac:=[]
abbrev ZbJ(ms ks rs:List AV)(a b:Int)(xs:List Int)(q n0 n1:Int):List AFrame×Zac:=(ZeY ms ks rs a b xs q n0 n1,Zd6 ms ks rs a b xs q n0 n1)
def ZzP(A:Ar)(K:KT)(F:FT)(ms ks rs:List AV)(a b:Int)(xs:List Int)(q:Int):Prop:=K (ZbJ (ms) (ks) (rs) (a) (b) (xs) (q) (A.int (A.lenA rs)) (0))
theorem ZE9{A:Ar}{K:KT}{F:FT}{M:MT}{ms ks rs:List AV}{a b:Int}{xs:List Int}{q:Int} :ZaK A tab Bb 91 K F M (.run 18 (.hd)) (ZI4 ms ks rs a b xs q) []=ZzP A K F ms ks rs a b xs q:=by kernel_rfl
def Zfn(A:Ar)(K:KT)(F:FT)(ms ks rs:List AV)(a b:Int)(xs:List Int)(q n0 n1:Int):Prop:=bB (A.lt n1 n0) (rB [Zah (Zah (A.le 0 n1) (Nat.blt (A.nat n1) (A.lenA rs))) true] (qB [A.eq ((A.nthA rs (A.nat n1)).cellAt 2).toI (-1),A.eq ((A.nthA rs (A.nat n1)).cellAt 1).toI q] (rB [!A.not true] (qB [A.eq ((A.nthA rs (A.nat n1)).cellAt 3).toI (-1)] (rB [Zah (Zah (A.le 0 n1) (Nat.blt (A.nat n1) (A.lenA rs))) true] (F (AV.eptr (AV.agg (Row.gen [.str ((A.nthA rs (A.nat n1)).cellAt 0).toS, .int .i64 ((A.nthA rs (A.nat n1)).cellAt 1).toI, .int .i64 ((A.nthA rs (A.nat n1)).cellAt 2).toI, .int .i64 ((A.nthA rs (A.nat n1)).cellAt 3).toI, .int .i64 ((A.nthA rs (A.nat n1)).cellAt 4).toI])) 0) (none))) (qB [A.inR .i64 (A.sub b (A.nth xs (A.nat ((A.nthA rs (A.nat n1)).cellAt 3).toI))),Zah (Zah (A.le 0 ((A.nthA rs (A.nat n1)).cellAt 3).toI) (Nat.blt (A.nat ((A.nthA rs (A.nat n1)).cellAt 3).toI) (A.len xs))) true,A.not (A.eq (A.nth xs (A.nat ((A.nthA rs (A.nat n1)).cellAt 3).toI)) (-1)),Zah (Zah (A.le 0 ((A.nthA rs (A.nat n1)).cellAt 3).toI) (Nat.blt (A.nat ((A.nthA rs (A.nat n1)).cellAt 3).toI) (A.len xs))) true,!A.eq ((A.nthA rs (A.nat n1)).cellAt 3).toI (-1)] (bB (A.lt (A.sub b (A.nth xs (A.nat ((A.nthA rs (A.nat n1)).cellAt 3).toI))) ((A.nthA rs (A.nat n1)).cellAt 4).toI) (rB [Zah (Zah (A.le 0 n1) (Nat.blt (A.nat n1) (A.lenA rs))) true] (F (AV.eptr (AV.agg (Row.gen [.str ((A.nthA rs (A.nat n1)).cellAt 0).toS, .int .i64 ((A.nthA rs (A.nat n1)).cellAt 1).toI, .int .i64 ((A.nthA rs (A.nat n1)).cellAt 2).toI, .int .i64 ((A.nthA rs (A.nat n1)).cellAt 3).toI, .int .i64 ((A.nthA rs (A.nat n1)).cellAt 4).toI])) 0) (none))) (rB [A.inR .i64 (A.add n1 1)] (K (ZbJ (ms) (ks) (rs) (a) (b) (xs) (q) (n0) (A.add n1 1))))) (rB [!A.not (A.eq (A.nth xs (A.nat ((A.nthA rs (A.nat n1)).cellAt 3).toI)) (-1)),Zah (Zah (A.le 0 ((A.nthA rs (A.nat n1)).cellAt 3).toI) (Nat.blt (A.nat ((A.nthA rs (A.nat n1)).cellAt 3).toI) (A.len xs))) true,!A.eq ((A.nthA rs (A.nat n1)).cellAt 3).toI (-1)] (rB [A.inR .i64 (A.add n1 1)] (K (ZbJ (ms) (ks) (rs) (a) (b) (xs) (q) (n0) (A.add n1 1)))))))) (qB [!A.eq ((A.nthA rs (A.nat n1)).cellAt 2).toI (-1),A.eq ((A.nthA rs (A.nat n1)).cellAt 1).toI q] (bB (A.not (A.eq ((A.nthA rs (A.nat n1)).cellAt 2).toI a)) (rB [A.inR .i64 (A.add n1 1)] (K (ZbJ (ms) (ks) (rs) (a) (b) (xs) (q) (n0) (A.add n1 1)))) (qB [A.eq ((A.nthA rs (A.nat n1)).cellAt 3).toI (-1)] (rB [Zah (Zah (A.le 0 n1) (Nat.blt (A.nat n1) (A.lenA rs))) true] (F (AV.eptr (AV.agg (Row.gen [.str ((A.nthA rs (A.nat n1)).cellAt 0).toS, .int .i64 ((A.nthA rs (A.nat n1)).cellAt 1).toI, .int .i64 ((A.nthA rs (A.nat n1)).cellAt 2).toI, .int .i64 ((A.nthA rs (A.nat n1)).cellAt 3).toI, .int .i64 ((A.nthA rs (A.nat n1)).cellAt 4).toI])) 0) (none))) (qB [A.inR .i64 (A.sub b (A.nth xs (A.nat ((A.nthA rs (A.nat n1)).cellAt 3).toI))),Zah (Zah (A.le 0 ((A.nthA rs (A.nat n1)).cellAt 3).toI) (Nat.blt (A.nat ((A.nthA rs (A.nat n1)).cellAt 3).toI) (A.len xs))) true,A.not (A.eq (A.nth xs (A.nat ((A.nthA rs (A.nat n1)).cellAt 3).toI)) (-1)),Zah (Zah (A.le 0 ((A.nthA rs (A.nat n1)).cellAt 3).toI) (Nat.blt (A.nat ((A.nthA rs (A.nat n1)).cellAt 3).toI) (A.len xs))) true,!A.eq ((A.nthA rs (A.nat n1)).cellAt 3).toI (-1)] (bB (A.lt (A.sub b (A.nth xs (A.nat ((A.nthA rs (A.nat n1)).cellAt 3).toI))) ((A.nthA rs (A.nat n1)).cellAt 4).toI) (rB [Zah (Zah (A.le 0 n1) (Nat.blt (A.nat n1) (A.lenA rs))) true] (F (AV.eptr (AV.agg (Row.gen [.str ((A.nthA rs (A.nat n1)).cellAt 0).toS, .int .i64 ((A.nthA rs (A.nat n1)).cellAt 1).toI, .int .i64 ((A.nthA rs (A.nat n1)).cellAt 2).toI, .int .i64 ((A.nthA rs (A.nat n1)).cellAt 3).toI, .int .i64 ((A.nthA rs (A.nat n1)).cellAt 4).toI])) 0) (none))) (rB [A.inR .i64 (A.add n1 1)] (K (ZbJ (ms) (ks) (rs) (a) (b) (xs) (q) (n0) (A.add n1 1))))) (rB [!A.not (A.eq (A.nth xs (A.nat ((A.nthA rs (A.nat n1)).cellAt 3).toI)) (-1)),Zah (Zah (A.le 0 ((A.nthA rs (A.nat n1)).cellAt 3).toI) (Nat.blt (A.nat ((A.nthA rs (A.nat n1)).cellAt 3).toI) (A.len xs))) true,!A.eq ((A.nthA rs (A.nat n1)).cellAt 3).toI (-1)] (rB [A.inR .i64 (A.add n1 1)] (K (ZbJ (ms) (ks) (rs) (a) (b) (xs) (q) (n0) (A.add n1 1)))))))) (rB [!A.eq ((A.nthA rs (A.nat n1)).cellAt 1).toI q] (rB [A.not false] (rB [A.inR .i64 (A.add n1 1)] (K (ZbJ (ms) (ks) (rs) (a) (b) (xs) (q) (n0) (A.add n1 1))))))))) (F (AV.val (Go.Value.pointer none)) (none))
theorem ZhU{A:Ar}{K:KT}{F:FT}{M:MT}{ms ks rs:List AV}{a b:Int}{xs:List Int}{q n0 n1:Int} :ZaK A tab Bb 91 K F M (.run 6 (.tf (.run 25 (.alt [true,true] (.run 5 (.fy (.run 2 (.alt [true] (.run 1 (.ty (.run 13 (.fn)))) (.alt [false,true] (.run 1 (.tf (.run 13 (.fn)) (.run 8 (.hd)))) (.alt [false,false] (.run 1 (.fy (.run 8 (.hd)))) (.no))))))) (.alt [true,false] (.run 5 (.tf (.run 7 (.hd)) (.run 2 (.alt [true] (.run 1 (.ty (.run 13 (.fn)))) (.alt [false,true] (.run 1 (.tf (.run 13 (.fn)) (.run 8 (.hd)))) (.alt [false,false] (.run 1 (.fy (.run 8 (.hd)))) (.no))))))) (.fy (.run 5 (.ty (.run 7 (.hd)))))))) (.run 6 (.fn)))) (ZeY ms ks rs a b xs q n0 n1) (Zd6 ms ks rs a b xs q n0 n1)=Zfn A K F ms ks rs a b xs q n0 n1:=by kernel_rfl
end Go.Proofs.YtkeoeooghhjibaaGreatDoor
/- Contracts as a list. No condition. -/
namespace Go.Proofs.YtkeoeooghhjibaaGreatDoor
def ZhI(rs:List AV)(a b:Int)(xs:List Int)(k:Int):Nat→Nat→Nat
 |0,i=>i
 |m+1,i=>if ZjE rs a b xs k i=true then i else ZhI rs a b xs k m (i+1)
def ZeC(rs:List AV)(a b:Int)(xs:List Int)(k:Int):Bool:=decide (ZhI rs a b xs k rs.length 0=rs.length)
def Zrg(rs:List AV)(i:Nat):AV:=.eptr (.agg (.gen [.str (Zay rs i), .int .i64 (Zaj rs i 1), .int .i64 (Zaj rs i 2), .int .i64 (Zaj rs i 3), .int .i64 (Zaj rs i 4)])) 0
def ZhB(rs:List AV)(a b:Int)(xs:List Int)(k:Int)(m i:Nat):AV:=if ZhI rs a b xs k m i=i+m then .val (.pointer none)else Zrg rs (ZhI rs a b xs k m i)
theorem Zno(rs:List AV)(a b:Int)(xs:List Int)(k:Int)(m i:Nat):ZhB rs a b xs k (m+1) i=if ZjE rs a b xs k i=true then Zrg rs i else ZhB rs a b xs k m (i+1):=by
 unfold ZhB
 simp only[ZhI]
 split
 ·rw[if_neg (by omega)]
 ·rw[show i+(m+1)=i+1+m by omega]
theorem Zhk{C:Ctx}(hC:C.P=Tryz.prog)(ms ks rs:List AV)(a b:Int)(xs:List Int)(q:Int)(hg:ZbS rs b xs=true):∀m k:Nat,k+m=rs.length→Ev C (ZeY ms ks rs a b xs q rs.length k) (Zd6 ms ks rs a b xs q rs.length k) (Zcq 91 (ZhB rs a b xs q m k) none)
 |0,k,hk=>tgo hC ZrR ZhU (by simp[Zfn,show ¬(k:Int)<rs.length by omega,ZhB,ZhI])
 |m+1,k,hk=>by
  have hlt:(k:Int)<rs.length:=by omega
  have hlt2:k<rs.length:=by omega
  have e0:((rs.getD k .top).cellAt 0).toS=Zay rs k:=rfl
  have e1:((rs.getD k .top).cellAt 1).toI=Zaj rs k 1:=rfl
  have e2:((rs.getD k .top).cellAt 2).toI=Zaj rs k 2:=rfl
  have e3:((rs.getD k .top).cellAt 3).toI=Zaj rs k 3:=rfl
  have e4:((rs.getD k .top).cellAt 4).toI=Zaj rs k 4:=rfl
  have ih:=Zhk hC ms ks rs a b xs q hg m (k+1) (by omega)
  refine tgo hC ZrR ZhU ?_
  simp[-List.getD_eq_getElem?_getD,Zfn,e0,e1,e2,e3,e4,hlt,hlt2]
  obtain⟨V,hV⟩:∃V,V=ZhB rs a b xs q (m+1) k:=⟨_,rfl⟩
  rw[←hV]
  rw[Zno]at hV
  simp only[ZjE,Zrg,decide_eq_true_eq]at hV
  have g:=ZrQ hg hlt2
  clear e0 e1 e2 e3 e4 hg
  generalize Zay rs k=nm at*
  generalize Zaj rs k 1=f1 at*
  generalize Zaj rs k 2=f2 at*
  generalize Zaj rs k 3=f3 at*
  generalize Zaj rs k 4=f4 at*
  generalize xs.getD f3.toNat 0=t at*
  have r3: -9223372036854775808≤(k:Int)+1∧(k:Int)+1≤9223372036854775807:=by omega
  have r1:f3≠ -1→(0≤f3∧f3.toNat<xs.length)∧(-9223372036854775808≤b-t∧b-t≤9223372036854775807):=by omega
  have ih':Ev C (ZeY ms ks rs a b xs q rs.length (k+1)) (Zd6 ms ks rs a b xs q rs.length (k+1)) (Zcq 91 (ZhB rs a b xs q m (k+1)) none):=ih
  clear hk hlt hlt2 g ih
  by_cases h1:f1=q<;>by_cases h2:f2= -1<;>by_cases h3:f2=a<;>by_cases h4:f3= -1<;>by_cases h5:t= -1<;>by_cases h6:b-t<f4<;>simp_all<;>(intro h7;omega)
theorem ZpN(ms ks rs:List AV)(a b:Int)(xs:List Int)(q:Int)(hg:ZbS rs b xs=true):Zao Tryz.prog 91 [.eptr (.agg (.gen [.list (.big .str ms), .list (.big (.agg [.str, .int .i64]) ks), .list (.big (.agg [.str, .int .i64, .int .i64, .int .i64, .int .i64]) rs), .int .i64 a, .int .i64 b, .list (.ints .i64 xs)])) 0, .int .i64 q] (ZhB rs a b xs q rs.length 0) none:=
 start (ZuM ms ks rs a b xs q) fun C hC=>tgo hC ZrR ZE9 (by
  have:=Zhk hC ms ks rs a b xs q hg rs.length 0 (by omega)
  simpa[ZzP]using this)
def ZER(c:Bool)(rs:List AV)(a b:Int)(xs:List Int)(q:Int):AV:=match c with |true=>.val (.pointer none) |false=>Zrg rs (ZhI rs a b xs q rs.length 0)
theorem ZvV{c:Bool}{rs:List AV}{a b:Int}{xs:List Int}{q:Int}(h:ZeC rs a b xs q=c):ZER c rs a b xs q=ZhB rs a b xs q rs.length 0:=by
 subst h
 unfold ZER ZhB ZeC
 by_cases h:ZhI rs a b xs q rs.length 0=rs.length
 ·rw[decide_eq_true h,if_pos (by omega)]
 ·rw[decide_eq_false h,if_neg (by omega)]
def k91b:Ctr:=⟨91,1,fun pa a=>match pa with
 |[]=>none
 |c::_=>(match a with
  |[.eptr (.agg (.gen [.list (.big .str _), .list (.big (.agg [.str, .int .i64]) _), .list (.big (.agg [.str, .int .i64, .int .i64, .int .i64, .int .i64]) rs), .int .i64 a, .int .i64 b, .list (.ints .i64 xs)])) 0, .int .i64 q]=>some (decide (ZbS rs b xs=true∧ZeC rs a b xs q=c),ZER c rs a b xs q,none)
  |_=>none)⟩
theorem Zuu:k91b.OK Tryz.prog:=fun pa args r fr h=>by
 simp only[k91b]at h
 split at h
 ·cases h
 ·split at h
  ·simp only[Option.some.injEq,Prod.mk.injEq,decide_eq_true_eq]at h
   obtain⟨⟨h0,h1⟩,rfl,rfl⟩:=h
   rw[ZvV h1]
   exact ZpN _ _ _ _ _ _ _ h0
  ·cases h
def Bc0:List Ctr:=[k91b]++Bb
theorem ZAb:ZaD Tryz.prog Bc0:=⟨Zuu,ZrR⟩
def Bc:List Ctr:=[]++Bc0
theorem ZyF:ZaD Tryz.prog Bc:=ZAb
end Go.Proofs.YtkeoeooghhjibaaGreatDoor
/- Paths of functions, printed by the explorer (Gx). No condition. -/
namespace Go.Proofs.YtkeoeooghhjibaaGreatDoor
set_option maxRecDepth 100000
set_option linter.unusedVariables false
def Zsp(ms ks rs:List AV)(a t:Int)(xs:List Int)(c d e:Int):AFrame:={ fn:=123,N:=24,env:=[(0,AV.eptr (AV.agg (Row.gen [.list (Row.big .str ms), .list (Row.big (.agg [.str, .int .i64]) ks), .list (Row.big (.agg [.str, .int .i64, .int .i64, .int .i64, .int .i64]) rs), .int .i64 a, .int .i64 t, .list (.ints .i64 xs)])) 0),(1,AV.agg (Row.gen [.int .i64 c, .int .i64 d, .int .i64 e]))],todo:=[.code a123.code],defs:=[],rnd:=none,ret:=false,res:=[ARes.tmp 4] }
def ZDf(ms ks rs:List AV)(a t:Int)(xs:List Int)(c d e:Int):List AFrame:=[(Zsp ms ks rs a t xs c d e)]
theorem Zrv(ms ks rs:List AV)(a t:Int)(xs:List Int)(c d e:Int):Zat tab 123 [AV.eptr (AV.agg (Row.gen [.list (Row.big .str ms), .list (Row.big (.agg [.str, .int .i64]) ks), .list (Row.big (.agg [.str, .int .i64, .int .i64, .int .i64, .int .i64]) rs), .int .i64 a, .int .i64 t, .list (.ints .i64 xs)])) 0,AV.agg (Row.gen [.int .i64 c, .int .i64 d, .int .i64 e])]=some (Zsp ms ks rs a t xs c d e):=rfl
def Zo1(A:Ar)(K:KT)(F:FT)(ms ks rs:List AV)(a t:Int)(xs:List Int)(c d e:Int):Prop:=qB [decide (ZbS rs t xs=true∧ZeC rs a t xs c=true),Zab t d e] (F (AV.bool true) (none)) (qB [decide (ZbS rs t xs=true∧ZeC rs a t xs c=false),Zab t d e] (F (AV.bool false) (none)) (rB [!Zab t d e] (F (AV.bool false) (none))))
theorem ZyM{A:Ar}{K:KT}{F:FT}{M:MT}{ms ks rs:List AV}{a t:Int}{xs:List Int}{c d e:Int} :ZaK A tab Bc 123 K F M (.run 6 (.alt [true,true] (.run 2 (.fn)) (.alt [true,false] (.run 2 (.fn)) (.fy (.run 2 (.fn)))))) (ZDf ms ks rs a t xs c d e) []=Zo1 A K F ms ks rs a t xs c d e:=by kernel_rfl
end Go.Proofs.YtkeoeooghhjibaaGreatDoor
/- Contracts as a list. No condition. -/
namespace Go.Proofs.YtkeoeooghhjibaaGreatDoor
def ZdB(rs:List AV)(a t:Int)(xs:List Int)(c d e:Int):Bool:=Zab t d e&&ZeC rs a t xs c
theorem Zoz(ms ks rs:List AV)(a t:Int)(xs:List Int)(c d e:Int)(h:Zab t d e=false∨ZbS rs t xs=true):Zao Tryz.prog 123 [.eptr (.agg (.gen [.list (.big .str ms), .list (.big (.agg [.str, .int .i64]) ks), .list (.big (.agg [.str, .int .i64, .int .i64, .int .i64, .int .i64]) rs), .int .i64 a, .int .i64 t, .list (.ints .i64 xs)])) 0, .agg (.gen [.int .i64 c, .int .i64 d, .int .i64 e])] (.bool (ZdB rs a t xs c d e)) none:=
 start (Zrv ms ks rs a t xs c d e) fun C hC=>tgo hC ZyF ZyM (by
  unfold ZdB
  cases h1:Zab t d e
  ·simp[Zo1,h1]
  ·have hg:ZbS rs t xs=true:=by simpa[h1]using h
   cases h2:ZeC rs a t xs c<;>simp[Zo1,h1,h2,hg])
def k123:Ctr:=⟨123,0,fun _ a=>match a with |[.eptr (.agg (.gen [.list (.big .str _), .list (.big (.agg [.str, .int .i64]) _), .list (.big (.agg [.str, .int .i64, .int .i64, .int .i64, .int .i64]) rs), .int .i64 a, .int .i64 t, .list (.ints .i64 xs)])) 0, .agg (.gen [.int .i64 c, .int .i64 d, .int .i64 e])]=>some (decide (Zab t d e=false∨ZbS rs t xs=true), .bool (ZdB rs a t xs c d e),none) |_=>none⟩
theorem Zu8:k123.OK Tryz.prog:=fun pa args r fr h=>by
 simp only[k123]at h
 split at h
 ·simp only[Option.some.injEq,Prod.mk.injEq,decide_eq_true_eq]at h
  obtain⟨h0,rfl,rfl⟩:=h
  exact Zoz _ _ _ _ _ _ _ _ _ h0
 ·cases h
def Bd:List Ctr:=[k123]++Bc
theorem ZiL:ZaD Tryz.prog Bd:=⟨Zu8,ZyF⟩
end Go.Proofs.YtkeoeooghhjibaaGreatDoor
/- Paths of functions, printed by the explorer (Gx). No condition. -/
namespace Go.Proofs.YtkeoeooghhjibaaGreatDoor
set_option maxRecDepth 100000
set_option linter.unusedVariables false
def ZA6(ms ks rs l:List AV):AFrame:={ fn:=24,N:=46,env:=[(0,AV.agg (Row.gen [.list (Row.big .str ms), .list (Row.big (.agg [.str, .int .i64]) ks), .list (Row.big (.agg [.str, .int .i64, .int .i64, .int .i64, .int .i64]) rs)])),(1,AV.list (Row.big (.agg [.int .i64, .int .i64, .int .i64]) l))],todo:=[.code a24.code],defs:=[],rnd:=none,ret:=false,res:=[ARes.tmp 4,ARes.tmp 5] }
def ZIK(ms ks rs l:List AV):List AFrame:=[(ZA6 ms ks rs l)]
theorem Zu6(ms ks rs l:List AV):Zat tab 24 [AV.agg (Row.gen [.list (Row.big .str ms), .list (Row.big (.agg [.str, .int .i64]) ks), .list (Row.big (.agg [.str, .int .i64, .int .i64, .int .i64, .int .i64]) rs)]),AV.list (Row.big (.agg [.int .i64, .int .i64, .int .i64]) l)]=some (ZA6 ms ks rs l):=rfl
def Zkh(ms ks rs l:List AV)(n0:Int)(l1:List Int):List AFrame:=[{ fn:=24,N:=46,env:=[(8,AV.ptr 72012 0 0 0),(9,AV.nils),(23,AV.list (Row.big (.agg [.int .i64, .int .i64, .int .i64]) l)),(24,AV.int .i64 n0),(25,AV.int .i64 0)],todo:=.code (ACode.gh [] ZwT)::ZrX,defs:=[],rnd:=none,ret:=false,res:=[ARes.tmp 4,ARes.tmp 5] }]
def Zh6(ms ks rs l:List AV)(n0:Int)(l1:List Int):Zac:=[(72009,{ base:=0,blks:=[Blk.row 3 1 (.ints .i64 l1)] }),(72012,{ base:=0,blks:=[Blk.row 137 6 (Row.gen [AV.agg (Row.gen [AV.list (Row.big .str ms),AV.list (Row.big (.agg [.str, .int .i64]) ks),AV.list (Row.big (.agg [.str, .int .i64, .int .i64, .int .i64, .int .i64]) rs),AV.int .i64 0,AV.int .i64 0,AV.row 72009 0])])] })]
abbrev ZnB(ms ks rs l:List AV)(n0:Int)(l1:List Int):List AFrame×Zac:=(Zkh ms ks rs l n0 l1,Zh6 ms ks rs l n0 l1)
def ZeT(ms ks rs l:List AV)(n0:Int)(l1:List Int)(n2:Int)(b3:Bool)(n4 n5 n6 n7 n8 n9 n10 n11 n12 n13 n14 n15 n16 n17 n18 n19 n20:Int):List AFrame:=[{ fn:=73,N:=78,env:=[(0,AV.ptr 72012 0 0 0),(3,AV.ptr 73004 0 0 0),(24,AV.list (Row.big (.agg [.str, .int .i64, .int .i64, .int .i64, .int .i64]) rs)),(25,AV.int .i64 n2),(26,AV.int .i64 n20)],todo:=.code (ACode.gh [] ZuD)::ZyQ,defs:=[],rnd:=none,ret:=false,res:=[ARes.tmp 4] },{ fn:=24,N:=46,env:=[(8,AV.ptr 72012 0 0 0),(9,AV.nils),(11,AV.ptr 24012 0 0 0),(23,AV.list (Row.big (.agg [.int .i64, .int .i64, .int .i64]) l)),(24,AV.int .i64 n0),(25,AV.int .i64 0),(26,AV.bool b3),(27,AV.eptr (AV.agg (Row.gen [.int .i64 n4, .int .i64 n5, .int .i64 n6])) 0),(28,AV.agg (Row.gen [.int .i64 n7, .int .i64 n8, .int .i64 n9])),(29,AV.ptr 72012 0 0 0),(30,AV.agg (Row.gen [.int .i64 n10, .int .i64 n11, .int .i64 n12]))],todo:=AItem.inReg [oN 31 (OpK.icall 73 [Opd.t 29,Opd.t 30]),oN 32 (OpK.not (Opd.t 31))]::.code (ACode.cond (Opd.t 32) (ACode.seq (ACode.reg none [oN 4 (OpK.mov (Opd.c AV.nils)),oN 5 (OpK.mov (cI 12))]) ACode.ret) ACode.skip)::.code (ACode.seq (ACode.reg none [mV 33 8,oN 34 (OpK.load true 3 (Opd.t 11)),oN 35 (OpK.icall 74 [Opd.t 33,Opd.t 34])]) (ACode.reg none [mV 36 9,mV 37 8,oN 38 (OpK.nilck (Opd.t 37)),oN 39 (OpK.faddr 3 (Opd.t 38)),oN 40 (OpK.faddr 1 (Opd.t 39)),oN 41 (OpK.load false 1 (Opd.t 40)),oN 42 (OpK.bslice 24043 3 1 [Opd.t 41]),oN 43 (OpK.append 24044 3 1 (Opd.t 36) (Opd.t 42)),mV 9 43]))::AItem.inBlock 1::.code (ACode.reg none [oN 44 (OpK.bin Go.BinOp.add (Opd.t 25) (cI 1)),mV 25 44])::ZrX,defs:=[],rnd:=none,ret:=false,res:=[ARes.tmp 4,ARes.tmp 5] }]
def ZdX(ms ks rs l:List AV)(n0:Int)(l1:List Int)(n2:Int)(b3:Bool)(n4 n5 n6 n7 n8 n9 n10 n11 n12 n13 n14 n15 n16 n17 n18 n19 n20:Int):Zac:=[(24012,{ base:=0,blks:=[Blk.row 82 3 (Row.gen [AV.agg (Row.gen [AV.int .i64 n13,AV.int .i64 n14,AV.int .i64 n15])])] }),(72009,{ base:=0,blks:=[Blk.row 3 1 (.ints .i64 l1)] }),(72012,{ base:=0,blks:=[Blk.row 137 6 (Row.gen [AV.agg (Row.gen [AV.list (Row.big .str ms),AV.list (Row.big (.agg [.str, .int .i64]) ks),AV.list (Row.big (.agg [.str, .int .i64, .int .i64, .int .i64, .int .i64]) rs),AV.int .i64 0,AV.int .i64 n16,AV.row 72009 0])])] }),(73004,{ base:=0,blks:=[Blk.row 82 3 (Row.gen [AV.agg (Row.gen [AV.int .i64 n17,AV.int .i64 n18,AV.int .i64 n19])])] })]
abbrev ZcS(ms ks rs l:List AV)(n0:Int)(l1:List Int)(n2:Int)(b3:Bool)(n4 n5 n6 n7 n8 n9 n10 n11 n12 n13 n14 n15 n16 n17 n18 n19 n20:Int):List AFrame×Zac:=(ZeT ms ks rs l n0 l1 n2 b3 n4 n5 n6 n7 n8 n9 n10 n11 n12 n13 n14 n15 n16 n17 n18 n19 n20,ZdX ms ks rs l n0 l1 n2 b3 n4 n5 n6 n7 n8 n9 n10 n11 n12 n13 n14 n15 n16 n17 n18 n19 n20)
def Zgv(ms ks rs l:List AV)(n0 n21:Int)(l22 l23:List Int)(n24 n25:Int):List AFrame:=[{ fn:=24,N:=46,env:=[(8,AV.ptr 72012 0 0 0),(9,AV.row 24044 0),(23,AV.list (Row.big (.agg [.int .i64, .int .i64, .int .i64]) l)),(24,AV.int .i64 n0),(25,AV.int .i64 n21)],todo:=.code (ACode.gh [] ZwT)::ZrX,defs:=[],rnd:=none,ret:=false,res:=[ARes.tmp 4,ARes.tmp 5] }]
def Ze5(ms ks rs l:List AV)(n0 n21:Int)(l22 l23:List Int)(n24 n25:Int):Zac:=[(24044,{ base:=0,blks:=[Blk.row 3 1 (.ints .i64 l22)] }),(72009,{ base:=0,blks:=[Blk.row 3 1 (.ints .i64 l23)] }),(72012,{ base:=0,blks:=[Blk.row 137 6 (Row.gen [AV.agg (Row.gen [AV.list (Row.big .str ms),AV.list (Row.big (.agg [.str, .int .i64]) ks),AV.list (Row.big (.agg [.str, .int .i64, .int .i64, .int .i64, .int .i64]) rs),AV.int .i64 n24,AV.int .i64 n25,AV.row 72009 0])])] })]
abbrev Zd1(ms ks rs l:List AV)(n0 n21:Int)(l22 l23:List Int)(n24 n25:Int):List AFrame×Zac:=(Zgv ms ks rs l n0 n21 l22 l23 n24 n25,Ze5 ms ks rs l n0 n21 l22 l23 n24 n25)
def ZeO(ms ks rs l:List AV)(n0 n21:Int)(l22 l23:List Int)(n24 n26:Int)(b27:Bool)(n28 n29 n30 n31 n32 n33 n34 n35 n36 n37 n38 n39 n40 n41 n42 n43 n44:Int):List AFrame:=[{ fn:=73,N:=78,env:=[(0,AV.ptr 72012 0 0 0),(3,AV.ptr 73004 0 0 0),(24,AV.list (Row.big (.agg [.str, .int .i64, .int .i64, .int .i64, .int .i64]) rs)),(25,AV.int .i64 n26),(26,AV.int .i64 n44)],todo:=.code (ACode.gh [] ZuD)::ZyQ,defs:=[],rnd:=none,ret:=false,res:=[ARes.tmp 4] },{ fn:=24,N:=46,env:=[(8,AV.ptr 72012 0 0 0),(9,AV.row 24044 0),(11,AV.ptr 24012 0 0 0),(23,AV.list (Row.big (.agg [.int .i64, .int .i64, .int .i64]) l)),(24,AV.int .i64 n0),(25,AV.int .i64 n21),(26,AV.bool b27),(27,AV.eptr (AV.agg (Row.gen [.int .i64 n28, .int .i64 n29, .int .i64 n30])) 0),(28,AV.agg (Row.gen [.int .i64 n31, .int .i64 n32, .int .i64 n33])),(29,AV.ptr 72012 0 0 0),(30,AV.agg (Row.gen [.int .i64 n34, .int .i64 n35, .int .i64 n36]))],todo:=AItem.inReg [oN 31 (OpK.icall 73 [Opd.t 29,Opd.t 30]),oN 32 (OpK.not (Opd.t 31))]::.code (ACode.cond (Opd.t 32) (ACode.seq (ACode.reg none [oN 4 (OpK.mov (Opd.c AV.nils)),oN 5 (OpK.mov (cI 12))]) ACode.ret) ACode.skip)::.code (ACode.seq (ACode.reg none [mV 33 8,oN 34 (OpK.load true 3 (Opd.t 11)),oN 35 (OpK.icall 74 [Opd.t 33,Opd.t 34])]) (ACode.reg none [mV 36 9,mV 37 8,oN 38 (OpK.nilck (Opd.t 37)),oN 39 (OpK.faddr 3 (Opd.t 38)),oN 40 (OpK.faddr 1 (Opd.t 39)),oN 41 (OpK.load false 1 (Opd.t 40)),oN 42 (OpK.bslice 24043 3 1 [Opd.t 41]),oN 43 (OpK.append 24044 3 1 (Opd.t 36) (Opd.t 42)),mV 9 43]))::AItem.inBlock 1::.code (ACode.reg none [oN 44 (OpK.bin Go.BinOp.add (Opd.t 25) (cI 1)),mV 25 44])::ZrX,defs:=[],rnd:=none,ret:=false,res:=[ARes.tmp 4,ARes.tmp 5] }]
def ZdV(ms ks rs l:List AV)(n0 n21:Int)(l22 l23:List Int)(n24 n26:Int)(b27:Bool)(n28 n29 n30 n31 n32 n33 n34 n35 n36 n37 n38 n39 n40 n41 n42 n43 n44:Int):Zac:=[(24012,{ base:=0,blks:=[Blk.row 82 3 (Row.gen [AV.agg (Row.gen [AV.int .i64 n37,AV.int .i64 n38,AV.int .i64 n39])])] }),(24044,{ base:=0,blks:=[Blk.row 3 1 (.ints .i64 l22)] }),(72009,{ base:=0,blks:=[Blk.row 3 1 (.ints .i64 l23)] }),(72012,{ base:=0,blks:=[Blk.row 137 6 (Row.gen [AV.agg (Row.gen [AV.list (Row.big .str ms),AV.list (Row.big (.agg [.str, .int .i64]) ks),AV.list (Row.big (.agg [.str, .int .i64, .int .i64, .int .i64, .int .i64]) rs),AV.int .i64 n24,AV.int .i64 n40,AV.row 72009 0])])] }),(73004,{ base:=0,blks:=[Blk.row 82 3 (Row.gen [AV.agg (Row.gen [AV.int .i64 n41,AV.int .i64 n42,AV.int .i64 n43])])] })]
abbrev ZcJ(ms ks rs l:List AV)(n0 n21:Int)(l22 l23:List Int)(n24 n26:Int)(b27:Bool)(n28 n29 n30 n31 n32 n33 n34 n35 n36 n37 n38 n39 n40 n41 n42 n43 n44:Int):List AFrame×Zac:=(ZeO ms ks rs l n0 n21 l22 l23 n24 n26 b27 n28 n29 n30 n31 n32 n33 n34 n35 n36 n37 n38 n39 n40 n41 n42 n43 n44,ZdV ms ks rs l n0 n21 l22 l23 n24 n26 b27 n28 n29 n30 n31 n32 n33 n34 n35 n36 n37 n38 n39 n40 n41 n42 n43 n44)
def ZuV(A:Ar)(K:KT)(F:FT)(ms ks rs l:List AV):Prop:=rB [decide (Zax ms ks rs=true∧List.length l≤1000000)] (bB (A.not (A.eq (ZbA (ZaC ms ks rs) (↑(List.length ks)) l) 0)) (F (AV.tup [AV.nils,AV.int .i64 (ZbA (ZaC ms ks rs) (↑(List.length ks)) l)]) (none)) (rB [decide ([-1]=[-1]∧0≤A.int (A.lenA ks)∧A.int (A.lenA ks)≤8),List.all [AV.int .i64 (-1)] fun x=>AV.bx x&&Nat.beq (Zad A x) 1] (K (ZnB (ms) (ks) (rs) (l) (A.int (A.lenA l)) (List.replicate (Int.toNat (A.int (A.lenA ks))) (-1))))))
theorem ZC3{A:Ar}{K:KT}{F:FT}{M:MT}{ms ks rs l:List AV} :ZaK A tab Bd 24 K F M (.run 24 (.tf (.run 7 (.fn)) (.run 31 (.hd)))) (ZIK ms ks rs l) []=ZuV A K F ms ks rs l:=by kernel_rfl
def Zid(A:Ar)(K:KT)(F:FT)(ms ks rs l:List AV)(n0:Int)(l1:List Int):Prop:=bB (A.lt 0 n0) (rB [Zah (Zah (A.le 0 0) (Nat.blt (A.nat 0) (A.lenA l))) true] (K (ZcS (ms) (ks) (rs) (l) (n0) (l1) (A.int (A.lenA rs)) (A.lt 0 n0) ((A.nthA l (A.nat 0)).cellAt 0).toI ((A.nthA l (A.nat 0)).cellAt 1).toI ((A.nthA l (A.nat 0)).cellAt 2).toI ((A.nthA l (A.nat 0)).cellAt 0).toI ((A.nthA l (A.nat 0)).cellAt 1).toI ((A.nthA l (A.nat 0)).cellAt 2).toI ((A.nthA l (A.nat 0)).cellAt 0).toI ((A.nthA l (A.nat 0)).cellAt 1).toI ((A.nthA l (A.nat 0)).cellAt 2).toI ((A.nthA l (A.nat 0)).cellAt 0).toI ((A.nthA l (A.nat 0)).cellAt 1).toI ((A.nthA l (A.nat 0)).cellAt 2).toI (A.max 0 ((A.nthA l (A.nat 0)).cellAt 1).toI) ((A.nthA l (A.nat 0)).cellAt 0).toI ((A.nthA l (A.nat 0)).cellAt 1).toI ((A.nthA l (A.nat 0)).cellAt 2).toI (0)))) (F (AV.tup [AV.nils,AV.int .i64 0]) (none))
theorem Znz{A:Ar}{K:KT}{F:FT}{M:MT}{ms ks rs l:List AV}{n0:Int}{l1:List Int} :ZaK A tab Bd 24 K F M (.run 6 (.tf (.run 38 (.hd)) (.run 8 (.fn)))) (Zkh ms ks rs l n0 l1) (Zh6 ms ks rs l n0 l1)=Zid A K F ms ks rs l n0 l1:=by kernel_rfl
def Zbu(A:Ar)(K:KT)(F:FT)(ms ks rs l:List AV)(n0:Int)(l1:List Int)(n2:Int)(b3:Bool)(n4 n5 n6 n7 n8 n9 n10 n11 n12 n13 n14 n15 n16 n17 n18 n19 n20:Int):Prop:=bB (A.lt n20 n2) (rB [Zah (Zah (A.le 0 n20) (Nat.blt (A.nat n20) (A.lenA rs))) true] (qB [Zah (Nat.blt (A.nat ((A.nthA rs (A.nat n20)).cellAt 3).toI) (A.len l1)) true,Zah (A.le 0 ((A.nthA rs (A.nat n20)).cellAt 3).toI) (Nat.blt (A.nat ((A.nthA rs (A.nat n20)).cellAt 3).toI) (A.len l1)),ZmK 0 n17 ((A.nthA rs (A.nat n20)).cellAt 1).toI ((A.nthA rs (A.nat n20)).cellAt 2).toI,A.not (A.eq ((A.nthA rs (A.nat n20)).cellAt 3).toI (-1))] (bB (A.not (A.eq (A.nth l1 (A.nat ((A.nthA rs (A.nat n20)).cellAt 3).toI)) (-1))) (rB [A.inR .i64 (A.add n20 1),A.inR .i64 (A.add (A.nth l1 (A.nat ((A.nthA rs (A.nat n20)).cellAt 3).toI)) ((A.nthA rs (A.nat n20)).cellAt 4).toI),Zah (Nat.blt (A.nat ((A.nthA rs (A.nat n20)).cellAt 3).toI) (A.len l1)) true,Zah (A.le 0 ((A.nthA rs (A.nat n20)).cellAt 3).toI) (Nat.blt (A.nat ((A.nthA rs (A.nat n20)).cellAt 3).toI) (A.len l1))] (K (ZcS (ms) (ks) (rs) (l) (n0) (l1) (n2) (b3) (n4) (n5) (n6) (n7) (n8) (n9) (n10) (n11) (n12) (n13) (n14) (n15) (A.max n16 (A.add (A.nth l1 (A.nat ((A.nthA rs (A.nat n20)).cellAt 3).toI)) ((A.nthA rs (A.nat n20)).cellAt 4).toI)) (n17) (n18) (n19) (A.add n20 1)))) (rB [A.inR .i64 (A.add n20 1)] (K (ZcS (ms) (ks) (rs) (l) (n0) (l1) (n2) (b3) (n4) (n5) (n6) (n7) (n8) (n9) (n10) (n11) (n12) (n13) (n14) (n15) (n16) (n17) (n18) (n19) (A.add n20 1))))) (qB [!ZmK 0 n17 ((A.nthA rs (A.nat n20)).cellAt 1).toI ((A.nthA rs (A.nat n20)).cellAt 2).toI,A.not (A.eq ((A.nthA rs (A.nat n20)).cellAt 3).toI (-1))] (rB [A.inR .i64 (A.add n20 1)] (K (ZcS (ms) (ks) (rs) (l) (n0) (l1) (n2) (b3) (n4) (n5) (n6) (n7) (n8) (n9) (n10) (n11) (n12) (n13) (n14) (n15) (n16) (n17) (n18) (n19) (A.add n20 1)))) (rB [!A.not (A.eq ((A.nthA rs (A.nat n20)).cellAt 3).toI (-1))] (rB [A.inR .i64 (A.add n20 1)] (K (ZcS (ms) (ks) (rs) (l) (n0) (l1) (n2) (b3) (n4) (n5) (n6) (n7) (n8) (n9) (n10) (n11) (n12) (n13) (n14) (n15) (n16) (n17) (n18) (n19) (A.add n20 1)))))))) (rB [decide (Zab n16 n18 n19=false∨ZbS rs n16 l1=true)] (bB (A.not (ZdB rs 0 n16 l1 n17 n18 n19)) (F (AV.tup [AV.nils,AV.int .i64 12]) (none)) (rB [Zah (Zah (A.le 0 n13) (Nat.blt (A.nat n13) (A.lenA ks))) true,Zah (Nat.blt (A.nat n13) (A.len l1)) true,Zah (A.le 0 n13) (Nat.blt (A.nat n13) (A.len l1))] (bB (A.not (A.eq ((A.nthA ks (A.nat n13)).cellAt 1).toI (-1))) (rB [A.inR .i64 (A.add 0 1),Zah (Nat.ble (A.len [n16]) 4294967296) (Nat.blt 0 (A.len [n16])),List.all [AV.int .i64 n16] fun x=>AV.bx x&&Nat.beq (Zad A x) 1] (K (Zd1 (ms) (ks) (rs) (l) (n0) (A.add 0 1) ([n16]) (A.set l1 (A.nat n13) n16) ((A.nthA ks (A.nat n13)).cellAt 1).toI (n16)))) (rB [A.inR .i64 (A.add 0 1),Zah (Nat.ble (A.len [n16]) 4294967296) (Nat.blt 0 (A.len [n16])),List.all [AV.int .i64 n16] fun x=>AV.bx x&&Nat.beq (Zad A x) 1] (K (Zd1 (ms) (ks) (rs) (l) (n0) (A.add 0 1) ([n16]) (A.set l1 (A.nat n13) n16) (0) (n16))))))))
theorem Zit{A:Ar}{K:KT}{F:FT}{M:MT}{ms ks rs l:List AV}{n0:Int}{l1:List Int}{n2:Int}{b3:Bool}{n4 n5 n6 n7 n8 n9 n10 n11 n12 n13 n14 n15 n16 n17 n18 n19 n20:Int} :ZaK A tab Bd 24 K F M (.run 6 (.tf (.run 11 (.alt [true,true] (.run 1 (.tf (.run 8 (.hd)) (.run 8 (.hd)))) (.alt [true,false] (.run 1 (.fy (.run 8 (.hd)))) (.alt [false,false] (.run 1 (.fy (.run 8 (.hd)))) (.no))))) (.run 12 (.tf (.run 6 (.fn)) (.run 21 (.tf (.run 29 (.hd)) (.run 22 (.hd)))))))) (ZeT ms ks rs l n0 l1 n2 b3 n4 n5 n6 n7 n8 n9 n10 n11 n12 n13 n14 n15 n16 n17 n18 n19 n20) (ZdX ms ks rs l n0 l1 n2 b3 n4 n5 n6 n7 n8 n9 n10 n11 n12 n13 n14 n15 n16 n17 n18 n19 n20)=Zbu A K F ms ks rs l n0 l1 n2 b3 n4 n5 n6 n7 n8 n9 n10 n11 n12 n13 n14 n15 n16 n17 n18 n19 n20:=by kernel_rfl
def Zfo(A:Ar)(K:KT)(F:FT)(ms ks rs l:List AV)(n0 n21:Int)(l22 l23:List Int)(n24 n25:Int):Prop:=bB (A.lt n21 n0) (rB [Zah (Zah (A.le 0 n21) (Nat.blt (A.nat n21) (A.lenA l))) true] (K (ZcJ (ms) (ks) (rs) (l) (n0) (n21) (l22) (l23) (n24) (A.int (A.lenA rs)) (A.lt n21 n0) ((A.nthA l (A.nat n21)).cellAt 0).toI ((A.nthA l (A.nat n21)).cellAt 1).toI ((A.nthA l (A.nat n21)).cellAt 2).toI ((A.nthA l (A.nat n21)).cellAt 0).toI ((A.nthA l (A.nat n21)).cellAt 1).toI ((A.nthA l (A.nat n21)).cellAt 2).toI ((A.nthA l (A.nat n21)).cellAt 0).toI ((A.nthA l (A.nat n21)).cellAt 1).toI ((A.nthA l (A.nat n21)).cellAt 2).toI ((A.nthA l (A.nat n21)).cellAt 0).toI ((A.nthA l (A.nat n21)).cellAt 1).toI ((A.nthA l (A.nat n21)).cellAt 2).toI (A.max n25 ((A.nthA l (A.nat n21)).cellAt 1).toI) ((A.nthA l (A.nat n21)).cellAt 0).toI ((A.nthA l (A.nat n21)).cellAt 1).toI ((A.nthA l (A.nat n21)).cellAt 2).toI (0)))) (F (AV.tup [AV.row 0 0,AV.int .i64 0]) (some { e:=3,sz:=1,r:=.ints .i64 l22 }))
theorem Ziw{A:Ar}{K:KT}{F:FT}{M:MT}{ms ks rs l:List AV}{n0 n21:Int}{l22 l23:List Int}{n24 n25:Int} :ZaK A tab Bd 24 K F M (.run 6 (.tf (.run 38 (.hd)) (.run 8 (.fn)))) (Zgv ms ks rs l n0 n21 l22 l23 n24 n25) (Ze5 ms ks rs l n0 n21 l22 l23 n24 n25)=Zfo A K F ms ks rs l n0 n21 l22 l23 n24 n25:=by kernel_rfl
def Zbt(A:Ar)(K:KT)(F:FT)(ms ks rs l:List AV)(n0 n21:Int)(l22 l23:List Int)(n24 n26:Int)(b27:Bool)(n28 n29 n30 n31 n32 n33 n34 n35 n36 n37 n38 n39 n40 n41 n42 n43 n44:Int):Prop:=bB (A.lt n44 n26) (rB [Zah (Zah (A.le 0 n44) (Nat.blt (A.nat n44) (A.lenA rs))) true] (qB [Zah (Nat.blt (A.nat ((A.nthA rs (A.nat n44)).cellAt 3).toI) (A.len l23)) true,Zah (A.le 0 ((A.nthA rs (A.nat n44)).cellAt 3).toI) (Nat.blt (A.nat ((A.nthA rs (A.nat n44)).cellAt 3).toI) (A.len l23)),ZmK n24 n41 ((A.nthA rs (A.nat n44)).cellAt 1).toI ((A.nthA rs (A.nat n44)).cellAt 2).toI,A.not (A.eq ((A.nthA rs (A.nat n44)).cellAt 3).toI (-1))] (bB (A.not (A.eq (A.nth l23 (A.nat ((A.nthA rs (A.nat n44)).cellAt 3).toI)) (-1))) (rB [A.inR .i64 (A.add n44 1),A.inR .i64 (A.add (A.nth l23 (A.nat ((A.nthA rs (A.nat n44)).cellAt 3).toI)) ((A.nthA rs (A.nat n44)).cellAt 4).toI),Zah (Nat.blt (A.nat ((A.nthA rs (A.nat n44)).cellAt 3).toI) (A.len l23)) true,Zah (A.le 0 ((A.nthA rs (A.nat n44)).cellAt 3).toI) (Nat.blt (A.nat ((A.nthA rs (A.nat n44)).cellAt 3).toI) (A.len l23))] (K (ZcJ (ms) (ks) (rs) (l) (n0) (n21) (l22) (l23) (n24) (n26) (b27) (n28) (n29) (n30) (n31) (n32) (n33) (n34) (n35) (n36) (n37) (n38) (n39) (A.max n40 (A.add (A.nth l23 (A.nat ((A.nthA rs (A.nat n44)).cellAt 3).toI)) ((A.nthA rs (A.nat n44)).cellAt 4).toI)) (n41) (n42) (n43) (A.add n44 1)))) (rB [A.inR .i64 (A.add n44 1)] (K (ZcJ (ms) (ks) (rs) (l) (n0) (n21) (l22) (l23) (n24) (n26) (b27) (n28) (n29) (n30) (n31) (n32) (n33) (n34) (n35) (n36) (n37) (n38) (n39) (n40) (n41) (n42) (n43) (A.add n44 1))))) (qB [!ZmK n24 n41 ((A.nthA rs (A.nat n44)).cellAt 1).toI ((A.nthA rs (A.nat n44)).cellAt 2).toI,A.not (A.eq ((A.nthA rs (A.nat n44)).cellAt 3).toI (-1))] (rB [A.inR .i64 (A.add n44 1)] (K (ZcJ (ms) (ks) (rs) (l) (n0) (n21) (l22) (l23) (n24) (n26) (b27) (n28) (n29) (n30) (n31) (n32) (n33) (n34) (n35) (n36) (n37) (n38) (n39) (n40) (n41) (n42) (n43) (A.add n44 1)))) (rB [!A.not (A.eq ((A.nthA rs (A.nat n44)).cellAt 3).toI (-1))] (rB [A.inR .i64 (A.add n44 1)] (K (ZcJ (ms) (ks) (rs) (l) (n0) (n21) (l22) (l23) (n24) (n26) (b27) (n28) (n29) (n30) (n31) (n32) (n33) (n34) (n35) (n36) (n37) (n38) (n39) (n40) (n41) (n42) (n43) (A.add n44 1)))))))) (rB [decide (Zab n40 n42 n43=false∨ZbS rs n40 l23=true)] (bB (A.not (ZdB rs n24 n40 l23 n41 n42 n43)) (F (AV.tup [AV.nils,AV.int .i64 12]) (none)) (rB [Zah (Zah (A.le 0 n37) (Nat.blt (A.nat n37) (A.lenA ks))) true,Zah (Nat.blt (A.nat n37) (A.len l23)) true,Zah (A.le 0 n37) (Nat.blt (A.nat n37) (A.len l23))] (bB (A.not (A.eq ((A.nthA ks (A.nat n37)).cellAt 1).toI (-1))) (rB [A.inR .i64 (A.add n21 1),Nat.ble (A.len l22+A.len [n40]) 4294967296,List.all [AV.int .i64 n40] fun x=>AV.bx x&&Nat.beq (Zad A x) 1] (K (Zd1 (ms) (ks) (rs) (l) (n0) (A.add n21 1) (A.app l22 [n40]) (A.set l23 (A.nat n37) n40) ((A.nthA ks (A.nat n37)).cellAt 1).toI (n40)))) (rB [A.inR .i64 (A.add n21 1),Nat.ble (A.len l22+A.len [n40]) 4294967296,List.all [AV.int .i64 n40] fun x=>AV.bx x&&Nat.beq (Zad A x) 1] (K (Zd1 (ms) (ks) (rs) (l) (n0) (A.add n21 1) (A.app l22 [n40]) (A.set l23 (A.nat n37) n40) (n24) (n40))))))))
theorem ZhR{A:Ar}{K:KT}{F:FT}{M:MT}{ms ks rs l:List AV}{n0 n21:Int}{l22 l23:List Int}{n24 n26:Int}{b27:Bool}{n28 n29 n30 n31 n32 n33 n34 n35 n36 n37 n38 n39 n40 n41 n42 n43 n44:Int} :ZaK A tab Bd 24 K F M (.run 6 (.tf (.run 11 (.alt [true,true] (.run 1 (.tf (.run 8 (.hd)) (.run 8 (.hd)))) (.alt [true,false] (.run 1 (.fy (.run 8 (.hd)))) (.alt [false,false] (.run 1 (.fy (.run 8 (.hd)))) (.no))))) (.run 12 (.tf (.run 6 (.fn)) (.run 21 (.tf (.run 29 (.hd)) (.run 22 (.hd)))))))) (ZeO ms ks rs l n0 n21 l22 l23 n24 n26 b27 n28 n29 n30 n31 n32 n33 n34 n35 n36 n37 n38 n39 n40 n41 n42 n43 n44) (ZdV ms ks rs l n0 n21 l22 l23 n24 n26 b27 n28 n29 n30 n31 n32 n33 n34 n35 n36 n37 n38 n39 n40 n41 n42 n43 n44)=Zbt A K F ms ks rs l n0 n21 l22 l23 n24 n26 b27 n28 n29 n30 n31 n32 n33 n34 n35 n36 n37 n38 n39 n40 n41 n42 n43 n44:=by kernel_rfl
end Go.Proofs.YtkeoeooghhjibaaGreatDoor
/- Contracts as a list. No condition. -/
namespace Go.Proofs.YtkeoeooghhjibaaGreatDoor
theorem Zog{e n:Int}{l:List AV}(h:ZbA e n l=0):e=0∧0<l.length∧l.length≤12∧∀i<l.length,Zhx n l i=0:=by
 unfold ZbA ZeM at h
 split at h
 ·rename_i hh
  have h0:=firstE_zero.1 hh
  simp only[List.mem_cons,List.not_mem_nil,or_false,forall_eq_or_imp,forall_eq]at h0
  obtain⟨h1,h2,h3⟩:=h0
  have h2:=ZaN h2 (by decide)
  have h3:=ZaN h3 (by decide)
  simp only[decide_eq_true_eq]at h2 h3
  refine⟨h1,by omega,by omega,fun i hi=>?_⟩
  have key:∀(m k:Nat),k+m=l.length→pE (Zfj (Zhx n l) m k)=0→∀i,k≤i→i<l.length→Zhx n l i=0:=by
   intro m
   induction m with
   |zero=>intro k hk _ i hi1 hi2;omega
   |succ m ih=>
    intro k hk hs i hi1 hi2
    rw[Zfj]at hs
    split at hs
    ·rename_i hz
     by_cases hik:i=k
     ·rw[hik];exact hz
     ·exact ih (k+1) (by omega) hs i (by omega) hi2
    ·rename_i hz;exact absurd hs hz
  exact key l.length 0 (by omega) h i (by omega) hi
 ·rename_i hh;exact absurd h hh
theorem Zrl{n:Int}{l:List AV}{i:Nat}(h:Zhx n l i=0):(0≤Zaj l i 0∧Zaj l i 0<n)∧(0≤Zaj l i 1∧Zaj l i 1≤1000000000000)∧(0≤Zaj l i 2∧Zaj l i 2≤1000000000000)∧Zaj l i 1≤Zaj l i 2:=by
 unfold Zhx ZmQ at h
 have h0:=firstE_zero.1 h
 simp only[List.mem_cons,List.not_mem_nil,or_false,forall_eq_or_imp,forall_eq]at h0
 obtain⟨h1,h2,h3⟩:=h0
 have h1:=within_iff.1 (ZaN h1 (by decide))
 have h2:=ZaN h2 (by decide)
 have h3:=ZaN h3 (by decide)
 simp only[Bool.and_eq_true,within_iff,decide_eq_true_eq]at h2 h3
 omega
structure OkF (ms ks rs l:List AV):Prop where
 model:ZaC ms ks rs=0
 ks1:1≤ks.length∧ks.length≤8
 rs1:rs.length≤10
 l1:0<l.length∧l.length≤12
 act:∀i<l.length,(0≤Zaj l i 0∧Zaj l i 0<ks.length)∧(0≤Zaj l i 1∧Zaj l i 1≤1000000000000)∧(0≤Zaj l i 2∧Zaj l i 2≤1000000000000)∧Zaj l i 1≤Zaj l i 2
 rule:∀i<rs.length,(0≤Zaj rs i 1∧Zaj rs i 1<ks.length)∧(-1≤Zaj rs i 3∧Zaj rs i 3<ks.length)∧(1≤Zaj rs i 4∧Zaj rs i 4≤1000000)
 name:∀i<rs.length,ZaT (Zay rs i)=true
theorem okF{ms ks rs l:List AV}(h:Zgf ms ks rs l=0):OkF ms ks rs l:=by
 obtain⟨h1,h2,h3,h4⟩:=Zog h
 obtain⟨g1,g2,g3,_,_,g6⟩:=Znm h1
 exact⟨h1,g2,g3,⟨h2,h3⟩,fun i hi=>Zrl (h4 i hi),fun i hi=>⟨(Zhc (g6 i hi).2).1,(Zhc (g6 i hi).2).2.2.1,(Zhc (g6 i hi).2).2.2.2.1⟩,fun i hi=>(g6 i hi).1⟩
theorem Zub(e:Int)(xs:List Int)(h:xs=[]):∃r'',Wk (.tup [.nils, .int .i64 e]) r''∧Frz none r'' (.tup [.list (.ints .i64 xs), .int .i64 e])∧ZgI none=false:=by
 subst h
 exact⟨_, .same _, .tup ⟨.nil _ rfl, .same _ rfl rfl,trivial⟩,rfl⟩
theorem ZDp(e:Int)(xs ys:List Int)(h:xs=ys):∃r'',Wk (.tup [.row 0 0, .int .i64 e]) r''∧Frz (some ⟨3,1, .ints .i64 xs⟩) r'' (.tup [.list (.ints .i64 ys), .int .i64 e])∧ZgI (some ⟨3,1, .ints .i64 xs⟩)=false:=by
 subst h
 exact⟨_, .same _, .tup ⟨.row _ rfl rfl rfl, .same _ rfl rfl,trivial⟩,rfl⟩
def Be:List Ctr:=Bd
theorem ZDG:ZaD Tryz.prog Be:=ZiL
end Go.Proofs.YtkeoeooghhjibaaGreatDoor
