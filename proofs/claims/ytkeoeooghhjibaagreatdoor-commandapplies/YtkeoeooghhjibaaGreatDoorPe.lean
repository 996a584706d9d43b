/- The cells of chapter 08's types, as they are read; the start that the door's own run leaves. No condition. -/
import Derived.Test.YtkeoeooghhjibaaGreatDoorW4
import Derived.LaidMore
import Derived.Stop.Joined
import Derived.KernelRfl
namespace Go.Proofs.YtkeoeooghhjibaaGreatDoor
open Go.ChangeShapes Go.WideShapes
theorem ZrQ{us:zA}(h:Cfs [.big .str, .big (.agg [.str, .int .i64]), .big (.agg [.str, .int .i64, .int .i64, .int .i64, .int .i64]), .big (.agg [.int .i64, .int .i64, .int .i64]), .int .i64, .int .i64] us):∃ms ks rs l wn fl,us=[.list (.big .str ms), .list (.big (.agg [.str, .int .i64]) ks), .list (.big (.agg [.str, .int .i64, .int .i64, .int .i64, .int .i64]) rs), .list (.big (.agg [.int .i64, .int .i64, .int .i64]) l), .int .i64 wn, .int .i64 fl]:=by
 obtain⟨u0,r,rfl,h0,h⟩:=Zbd h
 obtain⟨u1,r,rfl,h1,h⟩:=Zbd h
 obtain⟨u2,r,rfl,h2,h⟩:=Zbd h
 obtain⟨u3,r,rfl,h3,h⟩:=Zbd h
 obtain⟨u4,r,rfl,h4,h⟩:=Zbd h
 obtain⟨u5,r,rfl,h5,h⟩:=Zbd h
 obtain rfl:=Znd h
 obtain⟨x0,rfl⟩:=Zkh h0
 obtain⟨x1,rfl⟩:=Zkh h1
 obtain⟨x2,rfl⟩:=Zkh h2
 obtain⟨x3,rfl⟩:=Zkh h3
 obtain⟨x4,rfl,_⟩:=Zi4 h4
 obtain⟨x5,rfl,_⟩:=Zi4 h5
 exact⟨x0,x1,x2,x3,x4,x5,rfl⟩
theorem ZtS{us:zA}(h:Cfs [.int .i64, .int .i64, .big (.agg [.int .i64, .int .i64]), .bool, .int .i64, .bool, .ints .i64, .big (.agg [.int .i64, .bool])] us):∃at0 mo dn ha ba to dw up,us=[.int .i64 at0, .int .i64 mo, .list (.big (.agg [.int .i64, .int .i64]) dn), .bool ha, .int .i64 ba, .bool to, .list (.ints .i64 dw), .list (.big (.agg [.int .i64, .bool]) up)]:=by
 obtain⟨u0,r,rfl,h0,h⟩:=Zbd h
 obtain⟨u1,r,rfl,h1,h⟩:=Zbd h
 obtain⟨u2,r,rfl,h2,h⟩:=Zbd h
 obtain⟨u3,r,rfl,h3,h⟩:=Zbd h
 obtain⟨u4,r,rfl,h4,h⟩:=Zbd h
 obtain⟨u5,r,rfl,h5,h⟩:=Zbd h
 obtain⟨u6,r,rfl,h6,h⟩:=Zbd h
 obtain⟨u7,r,rfl,h7,h⟩:=Zbd h
 obtain rfl:=Znd h
 obtain⟨x0,rfl,_⟩:=Zi4 h0
 obtain⟨x1,rfl,_⟩:=Zi4 h1
 obtain⟨x2,rfl⟩:=Zkh h2
 obtain⟨x3,rfl⟩:=Zrd h3
 obtain⟨x4,rfl,_⟩:=Zi4 h4
 obtain⟨x5,rfl⟩:=Zrd h5
 obtain⟨x6,rfl,_⟩:=Zx2 h6
 obtain⟨x7,rfl⟩:=Zkh h7
 exact⟨x0,x1,x2,x3,x4,x5,x6,x7,rfl⟩
theorem Zu8{us:zA}(h:Cfs [.int .i64, .int .i64] us):∃ek en,us=[.int .i64 ek, .int .i64 en]:=by
 obtain⟨u0,r,rfl,h0,h⟩:=Zbd h
 obtain⟨u1,r,rfl,h1,h⟩:=Zbd h
 obtain rfl:=Znd h
 obtain⟨x0,rfl,_⟩:=Zi4 h0
 obtain⟨x1,rfl,_⟩:=Zi4 h1
 exact⟨x0,x1,rfl⟩
end Go.Proofs.YtkeoeooghhjibaaGreatDoor
namespace Go.Proofs.YtkeoeooghhjibaaGreatDoor
set_option maxRecDepth 100000
set_option linter.unusedVariables false
def ZDR(n a b:Int):AFrame:=vF 41 15 [vI 0 n,vI 1 a,vI 2 b] [.code a41.code] [.tmp 6]
def ZK2(n a b:Int):List AFrame:=[(ZDR n a b)]
theorem Zy3(n a b:Int):Zam tab 41 [AV.int .i64 n,AV.int .i64 a,AV.int .i64 b]=some (ZDR n a b):=rfl
theorem ZIS(A:Ar)(n a b:Int):Za9 A tab E0 18 [true,true,true,true] 41 (ZK2 n a b) []=
 some (tr [9,5] [A.le a n],
  AV.bool (A.le n b),none):=by kernel_rfl
theorem ZI1(A:Ar)(n a b:Int):Za9 A tab E0 18 [false,false,false,false] 41 (ZK2 n a b) []=
 some (tr [9,5] [!A.le a n],
  AV.bool false,none):=by kernel_rfl
def ZCN(n a b:Int):AFrame:=vF 82 15 [vI 0 n,vI 1 a,vI 2 b] [.code a82.code] [.tmp 6]
def ZL6(n a b:Int):List AFrame:=[(ZCN n a b)]
theorem Zym(n a b:Int):Zam tab 82 [AV.int .i64 n,AV.int .i64 a,AV.int .i64 b]=some (ZCN n a b):=rfl
theorem ZKu(A:Ar)(n a b:Int):Za9 A tab E0 18 [true,true,true,true] 82 (ZL6 n a b) []=
 some (tr [9,5] [A.le a n],
  AV.bool (A.le n b),none):=by kernel_rfl
theorem ZJM(A:Ar)(n a b:Int):Za9 A tab E0 18 [false,false,false,false] 82 (ZL6 n a b) []=
 some (tr [9,5] [!A.le a n],
  AV.bool false,none):=by kernel_rfl
def ZEG(b:Bool)(e:Int):AFrame:=vF 68 7 [vB 0 b,vI 1 e] [.code a68.code] [.tmp 4]
def ZLR(b:Bool)(e:Int):List AFrame:=[(ZEG b e)]
theorem ZzT(b:Bool)(e:Int):Zam tab 68 [AV.bool b,AV.int .i64 e]=some (ZEG b e):=rfl
theorem ZG7(A:Ar)(b:Bool)(e:Int):Za9 A tab E0 15 [true] 68 (ZLR b e) []=
 some (tr [2,2] [b],
  AV.int .i64 0,none):=by kernel_rfl
theorem ZFR(A:Ar)(b:Bool)(e:Int):Za9 A tab E0 17 [false] 68 (ZLR b e) []=
 some (tr [3,2] [!b],
  AV.int .i64 e,none):=by kernel_rfl
def ZB4(xs:zI):AFrame:=vF 67 15 [vL 0 xs] [.code a67.code] [.tmp 2]
def ZNo(xs:zI):List AFrame:=[(ZB4 xs)]
theorem ZAD(xs:zI):Zam tab 67 [AV.list (.ints .i64 xs)]=some (ZB4 xs):=rfl
def ZdI(xs:zI)(n0 n1:Int):List AFrame:=[vF 67 15 [vL 5 xs,vI 6 n0,vI 7 n1] (vC ZGf ZKS) [.tmp 2]]
def Zdj(xs:zI)(n0 n1:Int):Zad:=[]
abbrev ZjM(xs:zI)(n0 n1:Int):List AFrame×Zad:=(ZdI xs n0 n1,Zdj xs n0 n1)
theorem ZJE(A:Ar)(xs:zI):ZaD A tab E0 14 [] (ZNo xs) []=
 some (tr [4] [],
  ZjM (xs) (A.int (A.len xs)) (0)):=by kernel_rfl
theorem ZKL(A:Ar)(xs:zI)(n0 n1:Int):Za9 A tab E0 28 [true,true] 67 (ZdI xs n0 n1) (Zdj xs n0 n1)=
 some (tr [3,4,0,1] [A.not (A.eq (A.nth xs (A.nat n1)) 0),Zag (Zag (A.le 0 n1) (Nat.blt (A.nat n1) (A.len xs))) true,A.lt n1 n0],
  AV.int .i64 (A.nth xs (A.nat n1)),none):=by kernel_rfl
theorem ZIT(A:Ar)(xs:zI)(n0 n1:Int):ZaD A tab E0 30 [true,false] (ZdI xs n0 n1) (Zdj xs n0 n1)=
 some (tr [1,0,4,0,1] [A.inR .i64 (A.add n1 1),!A.not (A.eq (A.nth xs (A.nat n1)) 0),Zag (Zag (A.le 0 n1) (Nat.blt (A.nat n1) (A.len xs))) true,A.lt n1 n0],
  ZjM (xs) (n0) (A.add n1 1)):=by kernel_rfl
theorem ZHX(A:Ar)(xs:zI)(n0 n1:Int):Za9 A tab E0 13 [false] 67 (ZdI xs n0 n1) (Zdj xs n0 n1)=
 some (tr [2,1] [!A.lt n1 n0],
  AV.int .i64 0,none):=by kernel_rfl
def Zwg(xs:zA)(s:List UInt8):AFrame:=vF 151 18 [(0,AV.list (Row.big .str xs)),(1,AV.str s)] [.code a151.code] [.tmp 4]
def ZIx(xs:zA)(s:List UInt8):List AFrame:=[(Zwg xs s)]
theorem Zud(xs:zA)(s:List UInt8):Zam tab 151 [AV.list (Row.big .str xs),AV.str s]=some (Zwg xs s):=rfl
def ZcH(xs:zA)(s:List UInt8)(n0:Int):List AFrame:=[vF 151 18 [(0,AV.list (Row.big .str xs)),(1,AV.str s),vI 5 n0] (vC Zss Zwh) [.tmp 4]]
def Zch(xs:zA)(s:List UInt8)(n0:Int):Zad:=[]
abbrev Zhs(xs:zA)(s:List UInt8)(n0:Int):List AFrame×Zad:=(ZcH xs s n0,Zch xs s n0)
theorem ZGh(A:Ar)(xs:zA)(s:List UInt8):ZaD A tab E0 12 [] (ZIx xs s) []=
 some (tr [2] [],
  Zhs (xs) (s) (0)):=by kernel_rfl
theorem ZD0(A:Ar)(xs:zA)(s:List UInt8)(n0:Int):Za9 A tab E0 28 [true,true] 151 (ZcH xs s n0) (Zch xs s n0)=
 some (tr [2,3,2,4] [A.eqS (AV.toS (A.nthA xs (A.nat n0))) s,Zag (Zag (A.le 0 n0) (Nat.blt (A.nat n0) (A.lenA xs))) true,A.lt n0 (A.int (A.lenA xs))],
  AV.bool true,none):=by kernel_rfl
theorem ZEi(A:Ar)(xs:zA)(s:List UInt8)(n0:Int):ZaD A tab E0 32 [true,false] (ZcH xs s n0) (Zch xs s n0)=
 some (tr [1,1,3,2,4] [A.inR .i64 (A.add n0 1),!A.eqS (AV.toS (A.nthA xs (A.nat n0))) s,Zag (Zag (A.le 0 n0) (Nat.blt (A.nat n0) (A.lenA xs))) true,A.lt n0 (A.int (A.lenA xs))],
  Zhs (xs) (s) (A.add n0 1)):=by kernel_rfl
theorem ZBX(A:Ar)(xs:zA)(s:List UInt8)(n0:Int):Za9 A tab E0 16 [false] 151 (ZcH xs s n0) (Zch xs s n0)=
 some (tr [2,4] [!A.lt n0 (A.int (A.lenA xs))],
  AV.bool false,none):=by kernel_rfl
def ZvR(s:List UInt8):AFrame:=vF 150 55 [(0,AV.str s)] [.code a150.code] [.tmp 2]
def ZzX(s:List UInt8):List AFrame:=[(ZvR s)]
theorem Zve(s:List UInt8):Zam tab 150 [AV.str s]=some (ZvR s):=rfl
def Zav(s:List UInt8)(n0:Int):List AFrame:=[vF 150 55 [(0,AV.str s),vI 3 n0] (vC Zwb ZEB) [.tmp 2]]
def Zaq(s:List UInt8)(n0:Int):Zad:=[]
abbrev ZaR(s:List UInt8)(n0:Int):List AFrame×Zad:=(Zav s n0,Zaq s n0)
theorem ZDA(A:Ar)(s:List UInt8):Za9 A tab E0 23 [true,true,true,true,true] 150 (ZzX s) []=
 some (tr [10,5] [A.lt (A.int (A.lenS s)) 1],
  AV.bool false,none):=by kernel_rfl
theorem ZGB(A:Ar)(s:List UInt8):Za9 A tab E0 23 [false,false,false,false,true] 150 (ZzX s) []=
 some (tr [2,7,5] [A.lt 12 (A.int (A.lenS s)),!A.lt (A.int (A.lenS s)) 1],
  AV.bool false,none):=by kernel_rfl
theorem ZHe(A:Ar)(s:List UInt8):ZaD A tab E0 27 [false,false,false,false,false] (ZzX s) []=
 some (tr [1,7,5] [!A.lt 12 (A.int (A.lenS s)),!A.lt (A.int (A.lenS s)) 1],
  ZaR (s) (0)):=by kernel_rfl
theorem ZGO(A:Ar)(s:List UInt8)(n0:Int):ZaD A tab E0 71 [true,true,true,true,true,true,true,true,true,false,false,false,false,false,false] (Zav s n0) (Zaq s n0)=
 some (tr [1,21,15,6,4,2,4] [A.inR .i64 (A.add n0 1),!A.not true,A.le (A.nthS s (A.nat n0)) 122,A.le 97 (A.nthS s (A.nat n0)),Zag (A.le 0 n0) (Nat.blt (A.nat n0) (A.lenS s)),A.lt n0 (A.int (A.lenS s))],
  ZaR (s) (A.add n0 1)):=by kernel_rfl
theorem ZEQ(A:Ar)(s:List UInt8)(n0:Int):Za9 A tab E0 67 [true,true,true,true,false,false,false,true,true,false,true,false,true,true,true,true,true,true,true,true,true,true,true] 150 (Zav s n0) (Zaq s n0)=
 some (tr [21,5,12,5,6,4,2,4] [A.eq n0 0,A.not (A.le (A.nthS s (A.nat n0)) 90),A.le 65 (A.nthS s (A.nat n0)),!A.le (A.nthS s (A.nat n0)) 122,A.le 97 (A.nthS s (A.nat n0)),Zag (A.le 0 n0) (Nat.blt (A.nat n0) (A.lenS s)),A.lt n0 (A.int (A.lenS s))],
  AV.bool false,none):=by kernel_rfl
theorem ZCM(A:Ar)(s:List UInt8)(n0:Int):Za9 A tab E0 67 [true,true,true,true,false,false,false,true,true,false,true,false,true,true,true,false,false,false,true,true,true,true,true,true,true,false,true,true,false,true,true] 150 (Zav s n0) (Zaq s n0)=
 some (tr [17,5,5,5,12,5,6,4,2,4] [A.lt (A.nthS s (A.nat n0)) 48,A.not (A.eq (A.nthS s (A.nat n0)) 45),!A.eq n0 0,A.not (A.le (A.nthS s (A.nat n0)) 90),A.le 65 (A.nthS s (A.nat n0)),!A.le (A.nthS s (A.nat n0)) 122,A.le 97 (A.nthS s (A.nat n0)),Zag (A.le 0 n0) (Nat.blt (A.nat n0) (A.lenS s)),A.lt n0 (A.int (A.lenS s))],
  AV.bool false,none):=by kernel_rfl
theorem ZFK(A:Ar)(s:List UInt8)(n0:Int):Za9 A tab E0 67 [true,true,true,true,false,false,false,true,true,false,true,false,true,true,true,false,false,false,true,true,true,false,false,true,false,false,true,true,false,true,true] 150 (Zav s n0) (Zaq s n0)=
 some (tr [2,14,5,5,5,12,5,6,4,2,4] [A.lt 57 (A.nthS s (A.nat n0)),!A.lt (A.nthS s (A.nat n0)) 48,A.not (A.eq (A.nthS s (A.nat n0)) 45),!A.eq n0 0,A.not (A.le (A.nthS s (A.nat n0)) 90),A.le 65 (A.nthS s (A.nat n0)),!A.le (A.nthS s (A.nat n0)) 122,A.le 97 (A.nthS s (A.nat n0)),Zag (A.le 0 n0) (Nat.blt (A.nat n0) (A.lenS s)),A.lt n0 (A.int (A.lenS s))],
  AV.bool false,none):=by kernel_rfl
theorem ZDC(A:Ar)(s:List UInt8)(n0:Int):ZaD A tab E0 71 [true,true,true,true,false,false,false,true,true,false,true,false,true,true,true,false,false,false,true,true,true,false,false,true,false,false,true,true,false,true,false] (Zav s n0) (Zaq s n0)=
 some (tr [1,1,14,5,5,5,12,5,6,4,2,4] [A.inR .i64 (A.add n0 1),!A.lt 57 (A.nthS s (A.nat n0)),!A.lt (A.nthS s (A.nat n0)) 48,A.not (A.eq (A.nthS s (A.nat n0)) 45),!A.eq n0 0,A.not (A.le (A.nthS s (A.nat n0)) 90),A.le 65 (A.nthS s (A.nat n0)),!A.le (A.nthS s (A.nat n0)) 122,A.le 97 (A.nthS s (A.nat n0)),Zag (A.le 0 n0) (Nat.blt (A.nat n0) (A.lenS s)),A.lt n0 (A.int (A.lenS s))],
  ZaR (s) (A.add n0 1)):=by kernel_rfl
theorem ZCb(A:Ar)(s:List UInt8)(n0:Int):ZaD A tab E0 71 [true,true,true,true,false,false,false,true,true,false,true,false,true,true,true,false,false,false,false,false,false,false,false,false,true,false,true,false] (Zav s n0) (Zaq s n0)=
 some (tr [1,19,5,5,12,5,6,4,2,4] [A.inR .i64 (A.add n0 1),!A.not (A.eq (A.nthS s (A.nat n0)) 45),!A.eq n0 0,A.not (A.le (A.nthS s (A.nat n0)) 90),A.le 65 (A.nthS s (A.nat n0)),!A.le (A.nthS s (A.nat n0)) 122,A.le 97 (A.nthS s (A.nat n0)),Zag (A.le 0 n0) (Nat.blt (A.nat n0) (A.lenS s)),A.lt n0 (A.int (A.lenS s))],
  ZaR (s) (A.add n0 1)):=by kernel_rfl
theorem ZBL(A:Ar)(s:List UInt8)(n0:Int):ZaD A tab E0 71 [true,true,true,true,false,false,false,true,true,false,true,false,false,false,false,false,false,false] (Zav s n0) (Zaq s n0)=
 some (tr [1,21,12,5,6,4,2,4] [A.inR .i64 (A.add n0 1),!A.not (A.le (A.nthS s (A.nat n0)) 90),A.le 65 (A.nthS s (A.nat n0)),!A.le (A.nthS s (A.nat n0)) 122,A.le 97 (A.nthS s (A.nat n0)),Zag (A.le 0 n0) (Nat.blt (A.nat n0) (A.lenS s)),A.lt n0 (A.int (A.lenS s))],
  ZaR (s) (A.add n0 1)):=by kernel_rfl
theorem ZxX(A:Ar)(s:List UInt8)(n0:Int):Za9 A tab E0 67 [true,true,true,true,false,false,false,false,false,false,false,false,true,true,true,true,true,true,true,true,true,true,true] 150 (Zav s n0) (Zaq s n0)=
 some (tr [21,5,12,5,6,4,2,4] [A.eq n0 0,A.not false,!A.le 65 (A.nthS s (A.nat n0)),!A.le (A.nthS s (A.nat n0)) 122,A.le 97 (A.nthS s (A.nat n0)),Zag (A.le 0 n0) (Nat.blt (A.nat n0) (A.lenS s)),A.lt n0 (A.int (A.lenS s))],
  AV.bool false,none):=by kernel_rfl
theorem Zzr(A:Ar)(s:List UInt8)(n0:Int):Za9 A tab E0 67 [true,true,true,true,false,false,false,false,false,false,false,false,true,true,true,false,false,false,true,true,true,true,true,true,true,false,true,true,false,true,true] 150 (Zav s n0) (Zaq s n0)=
 some (tr [17,5,5,5,12,5,6,4,2,4] [A.lt (A.nthS s (A.nat n0)) 48,A.not (A.eq (A.nthS s (A.nat n0)) 45),!A.eq n0 0,A.not false,!A.le 65 (A.nthS s (A.nat n0)),!A.le (A.nthS s (A.nat n0)) 122,A.le 97 (A.nthS s (A.nat n0)),Zag (A.le 0 n0) (Nat.blt (A.nat n0) (A.lenS s)),A.lt n0 (A.int (A.lenS s))],
  AV.bool false,none):=by kernel_rfl
theorem ZyP(A:Ar)(s:List UInt8)(n0:Int):Za9 A tab E0 67 [true,true,true,true,false,false,false,false,false,false,false,false,true,true,true,false,false,false,true,true,true,false,false,true,false,false,true,true,false,true,true] 150 (Zav s n0) (Zaq s n0)=
 some (tr [2,14,5,5,5,12,5,6,4,2,4] [A.lt 57 (A.nthS s (A.nat n0)),!A.lt (A.nthS s (A.nat n0)) 48,A.not (A.eq (A.nthS s (A.nat n0)) 45),!A.eq n0 0,A.not false,!A.le 65 (A.nthS s (A.nat n0)),!A.le (A.nthS s (A.nat n0)) 122,A.le 97 (A.nthS s (A.nat n0)),Zag (A.le 0 n0) (Nat.blt (A.nat n0) (A.lenS s)),A.lt n0 (A.int (A.lenS s))],
  AV.bool false,none):=by kernel_rfl
theorem ZAd(A:Ar)(s:List UInt8)(n0:Int):ZaD A tab E0 71 [true,true,true,true,false,false,false,false,false,false,false,false,true,true,true,false,false,false,true,true,true,false,false,true,false,false,true,true,false,true,false] (Zav s n0) (Zaq s n0)=
 some (tr [1,1,14,5,5,5,12,5,6,4,2,4] [A.inR .i64 (A.add n0 1),!A.lt 57 (A.nthS s (A.nat n0)),!A.lt (A.nthS s (A.nat n0)) 48,A.not (A.eq (A.nthS s (A.nat n0)) 45),!A.eq n0 0,A.not false,!A.le 65 (A.nthS s (A.nat n0)),!A.le (A.nthS s (A.nat n0)) 122,A.le 97 (A.nthS s (A.nat n0)),Zag (A.le 0 n0) (Nat.blt (A.nat n0) (A.lenS s)),A.lt n0 (A.int (A.lenS s))],
  ZaR (s) (A.add n0 1)):=by kernel_rfl
theorem Zyn(A:Ar)(s:List UInt8)(n0:Int):ZaD A tab E0 71 [true,true,true,true,false,false,false,false,false,false,false,false,true,true,true,false,false,false,false,false,false,false,false,false,true,false,true,false] (Zav s n0) (Zaq s n0)=
 some (tr [1,19,5,5,12,5,6,4,2,4] [A.inR .i64 (A.add n0 1),!A.not (A.eq (A.nthS s (A.nat n0)) 45),!A.eq n0 0,A.not false,!A.le 65 (A.nthS s (A.nat n0)),!A.le (A.nthS s (A.nat n0)) 122,A.le 97 (A.nthS s (A.nat n0)),Zag (A.le 0 n0) (Nat.blt (A.nat n0) (A.lenS s)),A.lt n0 (A.int (A.lenS s))],
  ZaR (s) (A.add n0 1)):=by kernel_rfl
theorem ZxK(A:Ar)(s:List UInt8)(n0:Int):Za9 A tab E0 67 [true,false,false,false,false,false,false,true,true,false,true,false,true,true,true,true,true,true,true,true,true,true,true] 150 (Zav s n0) (Zaq s n0)=
 some (tr [21,5,12,12,4,2,4] [A.eq n0 0,A.not (A.le (A.nthS s (A.nat n0)) 90),A.le 65 (A.nthS s (A.nat n0)),!A.le 97 (A.nthS s (A.nat n0)),Zag (A.le 0 n0) (Nat.blt (A.nat n0) (A.lenS s)),A.lt n0 (A.int (A.lenS s))],
  AV.bool false,none):=by kernel_rfl
theorem ZBu(A:Ar)(s:List UInt8)(n0:Int):Za9 A tab E0 67 [true,false,false,false,false,false,false,true,true,false,true,false,true,true,true,false,false,false,true,true,true,true,true,true,true,false,true,true,false,true,true] 150 (Zav s n0) (Zaq s n0)=
 some (tr [17,5,5,5,12,12,4,2,4] [A.lt (A.nthS s (A.nat n0)) 48,A.not (A.eq (A.nthS s (A.nat n0)) 45),!A.eq n0 0,A.not (A.le (A.nthS s (A.nat n0)) 90),A.le 65 (A.nthS s (A.nat n0)),!A.le 97 (A.nthS s (A.nat n0)),Zag (A.le 0 n0) (Nat.blt (A.nat n0) (A.lenS s)),A.lt n0 (A.int (A.lenS s))],
  AV.bool false,none):=by kernel_rfl
theorem ZxJ(A:Ar)(s:List UInt8)(n0:Int):Za9 A tab E0 67 [true,false,false,false,false,false,false,true,true,false,true,false,true,true,true,false,false,false,true,true,true,false,false,true,false,false,true,true,false,true,true] 150 (Zav s n0) (Zaq s n0)=
 some (tr [2,14,5,5,5,12,12,4,2,4] [A.lt 57 (A.nthS s (A.nat n0)),!A.lt (A.nthS s (A.nat n0)) 48,A.not (A.eq (A.nthS s (A.nat n0)) 45),!A.eq n0 0,A.not (A.le (A.nthS s (A.nat n0)) 90),A.le 65 (A.nthS s (A.nat n0)),!A.le 97 (A.nthS s (A.nat n0)),Zag (A.le 0 n0) (Nat.blt (A.nat n0) (A.lenS s)),A.lt n0 (A.int (A.lenS s))],
  AV.bool false,none):=by kernel_rfl
theorem Zx1(A:Ar)(s:List UInt8)(n0:Int):ZaD A tab E0 71 [true,false,false,false,false,false,false,true,true,false,true,false,true,true,true,false,false,false,true,true,true,false,false,true,false,false,true,true,false,true,false] (Zav s n0) (Zaq s n0)=
 some (tr [1,1,14,5,5,5,12,12,4,2,4] [A.inR .i64 (A.add n0 1),!A.lt 57 (A.nthS s (A.nat n0)),!A.lt (A.nthS s (A.nat n0)) 48,A.not (A.eq (A.nthS s (A.nat n0)) 45),!A.eq n0 0,A.not (A.le (A.nthS s (A.nat n0)) 90),A.le 65 (A.nthS s (A.nat n0)),!A.le 97 (A.nthS s (A.nat n0)),Zag (A.le 0 n0) (Nat.blt (A.nat n0) (A.lenS s)),A.lt n0 (A.int (A.lenS s))],
  ZaR (s) (A.add n0 1)):=by kernel_rfl
theorem Zw8(A:Ar)(s:List UInt8)(n0:Int):ZaD A tab E0 71 [true,false,false,false,false,false,false,true,true,false,true,false,true,true,true,false,false,false,false,false,false,false,false,false,true,false,true,false] (Zav s n0) (Zaq s n0)=
 some (tr [1,19,5,5,12,12,4,2,4] [A.inR .i64 (A.add n0 1),!A.not (A.eq (A.nthS s (A.nat n0)) 45),!A.eq n0 0,A.not (A.le (A.nthS s (A.nat n0)) 90),A.le 65 (A.nthS s (A.nat n0)),!A.le 97 (A.nthS s (A.nat n0)),Zag (A.le 0 n0) (Nat.blt (A.nat n0) (A.lenS s)),A.lt n0 (A.int (A.lenS s))],
  ZaR (s) (A.add n0 1)):=by kernel_rfl
theorem ZBj(A:Ar)(s:List UInt8)(n0:Int):ZaD A tab E0 71 [true,false,false,false,false,false,false,true,true,false,true,false,false,false,false,false,false,false] (Zav s n0) (Zaq s n0)=
 some (tr [1,21,12,12,4,2,4] [A.inR .i64 (A.add n0 1),!A.not (A.le (A.nthS s (A.nat n0)) 90),A.le 65 (A.nthS s (A.nat n0)),!A.le 97 (A.nthS s (A.nat n0)),Zag (A.le 0 n0) (Nat.blt (A.nat n0) (A.lenS s)),A.lt n0 (A.int (A.lenS s))],
  ZaR (s) (A.add n0 1)):=by kernel_rfl
theorem ZzQ(A:Ar)(s:List UInt8)(n0:Int):Za9 A tab E0 67 [true,false,false,false,false,false,false,false,false,false,false,false,true,true,true,true,true,true,true,true,true,true,true] 150 (Zav s n0) (Zaq s n0)=
 some (tr [21,5,12,12,4,2,4] [A.eq n0 0,A.not false,!A.le 65 (A.nthS s (A.nat n0)),!A.le 97 (A.nthS s (A.nat n0)),Zag (A.le 0 n0) (Nat.blt (A.nat n0) (A.lenS s)),A.lt n0 (A.int (A.lenS s))],
  AV.bool false,none):=by kernel_rfl
theorem Zzs(A:Ar)(s:List UInt8)(n0:Int):Za9 A tab E0 67 [true,false,false,false,false,false,false,false,false,false,false,false,true,true,true,false,false,false,true,true,true,true,true,true,true,false,true,true,false,true,true] 150 (Zav s n0) (Zaq s n0)=
 some (tr [17,5,5,5,12,12,4,2,4] [A.lt (A.nthS s (A.nat n0)) 48,A.not (A.eq (A.nthS s (A.nat n0)) 45),!A.eq n0 0,A.not false,!A.le 65 (A.nthS s (A.nat n0)),!A.le 97 (A.nthS s (A.nat n0)),Zag (A.le 0 n0) (Nat.blt (A.nat n0) (A.lenS s)),A.lt n0 (A.int (A.lenS s))],
  AV.bool false,none):=by kernel_rfl
theorem ZxS(A:Ar)(s:List UInt8)(n0:Int):Za9 A tab E0 67 [true,false,false,false,false,false,false,false,false,false,false,false,true,true,true,false,false,false,true,true,true,false,false,true,false,false,true,true,false,true,true] 150 (Zav s n0) (Zaq s n0)=
 some (tr [2,14,5,5,5,12,12,4,2,4] [A.lt 57 (A.nthS s (A.nat n0)),!A.lt (A.nthS s (A.nat n0)) 48,A.not (A.eq (A.nthS s (A.nat n0)) 45),!A.eq n0 0,A.not false,!A.le 65 (A.nthS s (A.nat n0)),!A.le 97 (A.nthS s (A.nat n0)),Zag (A.le 0 n0) (Nat.blt (A.nat n0) (A.lenS s)),A.lt n0 (A.int (A.lenS s))],
  AV.bool false,none):=by kernel_rfl
theorem ZxA(A:Ar)(s:List UInt8)(n0:Int):ZaD A tab E0 71 [true,false,false,false,false,false,false,false,false,false,false,false,true,true,true,false,false,false,true,true,true,false,false,true,false,false,true,true,false,true,false] (Zav s n0) (Zaq s n0)=
 some (tr [1,1,14,5,5,5,12,12,4,2,4] [A.inR .i64 (A.add n0 1),!A.lt 57 (A.nthS s (A.nat n0)),!A.lt (A.nthS s (A.nat n0)) 48,A.not (A.eq (A.nthS s (A.nat n0)) 45),!A.eq n0 0,A.not false,!A.le 65 (A.nthS s (A.nat n0)),!A.le 97 (A.nthS s (A.nat n0)),Zag (A.le 0 n0) (Nat.blt (A.nat n0) (A.lenS s)),A.lt n0 (A.int (A.lenS s))],
  ZaR (s) (A.add n0 1)):=by kernel_rfl
theorem ZA3(A:Ar)(s:List UInt8)(n0:Int):ZaD A tab E0 71 [true,false,false,false,false,false,false,false,false,false,false,false,true,true,true,false,false,false,false,false,false,false,false,false,true,false,true,false] (Zav s n0) (Zaq s n0)=
 some (tr [1,19,5,5,12,12,4,2,4] [A.inR .i64 (A.add n0 1),!A.not (A.eq (A.nthS s (A.nat n0)) 45),!A.eq n0 0,A.not false,!A.le 65 (A.nthS s (A.nat n0)),!A.le 97 (A.nthS s (A.nat n0)),Zag (A.le 0 n0) (Nat.blt (A.nat n0) (A.lenS s)),A.lt n0 (A.int (A.lenS s))],
  ZaR (s) (A.add n0 1)):=by kernel_rfl
theorem Zxl(A:Ar)(s:List UInt8)(n0:Int):Za9 A tab E0 16 [false] 150 (Zav s n0) (Zaq s n0)=
 some (tr [2,4] [!A.lt n0 (A.int (A.lenS s))],
  AV.bool true,none):=by kernel_rfl
def Zwj(s:List UInt8):AFrame:=vF 182 54 [(0,AV.str s)] [.code a182.code] [.tmp 2]
def ZIl(s:List UInt8):List AFrame:=[(Zwj s)]
theorem Zuk(s:List UInt8):Zam tab 182 [AV.str s]=some (Zwj s):=rfl
def Zau(s:List UInt8)(l0:zI)(n1 n2:Int):List AFrame:=[vF 182 54 [(0,AV.str s),(7,AV.list (.ints .u8 l0)),vI 8 n1,vI 9 n2] (vC Zwq ZHC) [.tmp 2]]
def Zao(s:List UInt8)(l0:zI)(n1 n2:Int):Zad:=[]
abbrev ZaS(s:List UInt8)(l0:zI)(n1 n2:Int):List AFrame×Zad:=(Zau s l0 n1 n2,Zao s l0 n1 n2)
theorem ZC8(A:Ar)(s:List UInt8):ZaD A tab E0 15 [] (ZIl s) []=
 some (tr [2,2] [Nat.ble (A.lenS s) 4294967296],
  ZaS (s) (A.byt s) (A.int (A.len (A.byt s))) (0)):=by kernel_rfl
theorem ZE0(A:Ar)(s:List UInt8)(l0:zI)(n1 n2:Int):ZaD A tab E0 68 [true,true,true,true,true,true,true,true,true,false,false,false,false,false,false] (Zau s l0 n1 n2) (Zao s l0 n1 n2)=
 some (tr [1,20,15,6,6,1,1] [A.inR .i64 (A.add n2 1),!A.not true,A.le (A.nth l0 (A.nat n2)) 122,A.le 97 (A.nth l0 (A.nat n2)),Zag (Zag (A.le 0 n2) (Nat.blt (A.nat n2) (A.len l0))) true,A.lt n2 n1],
  ZaS (s) (l0) (n1) (A.add n2 1)):=by kernel_rfl
theorem ZGn(A:Ar)(s:List UInt8)(l0:zI)(n1 n2:Int):Za9 A tab E0 65 [true,true,true,true,false,false,false,true,true,false,true,false,true,true,true,true,true,true,true,true,true,true,true] 182 (Zau s l0 n1 n2) (Zao s l0 n1 n2)=
 some (tr [21,5,12,5,6,6,1,1] [A.eq n2 0,A.not (A.le (A.nth l0 (A.nat n2)) 90),A.le 65 (A.nth l0 (A.nat n2)),!A.le (A.nth l0 (A.nat n2)) 122,A.le 97 (A.nth l0 (A.nat n2)),Zag (Zag (A.le 0 n2) (Nat.blt (A.nat n2) (A.len l0))) true,A.lt n2 n1],
  AV.bool false,none):=by kernel_rfl
theorem ZFd(A:Ar)(s:List UInt8)(l0:zI)(n1 n2:Int):Za9 A tab E0 65 [true,true,true,true,false,false,false,true,true,false,true,false,true,true,true,false,false,false,true,true,true,true,true,true,true,false,true,true,false,true,true] 182 (Zau s l0 n1 n2) (Zao s l0 n1 n2)=
 some (tr [17,5,5,5,12,5,6,6,1,1] [A.lt (A.nth l0 (A.nat n2)) 48,A.not (A.eq (A.nth l0 (A.nat n2)) 45),!A.eq n2 0,A.not (A.le (A.nth l0 (A.nat n2)) 90),A.le 65 (A.nth l0 (A.nat n2)),!A.le (A.nth l0 (A.nat n2)) 122,A.le 97 (A.nth l0 (A.nat n2)),Zag (Zag (A.le 0 n2) (Nat.blt (A.nat n2) (A.len l0))) true,A.lt n2 n1],
  AV.bool false,none):=by kernel_rfl
theorem ZHp(A:Ar)(s:List UInt8)(l0:zI)(n1 n2:Int):Za9 A tab E0 65 [true,true,true,true,false,false,false,true,true,false,true,false,true,true,true,false,false,false,true,true,true,false,false,true,false,false,true,true,false,true,true] 182 (Zau s l0 n1 n2) (Zao s l0 n1 n2)=
 some (tr [2,14,5,5,5,12,5,6,6,1,1] [A.lt 57 (A.nth l0 (A.nat n2)),!A.lt (A.nth l0 (A.nat n2)) 48,A.not (A.eq (A.nth l0 (A.nat n2)) 45),!A.eq n2 0,A.not (A.le (A.nth l0 (A.nat n2)) 90),A.le 65 (A.nth l0 (A.nat n2)),!A.le (A.nth l0 (A.nat n2)) 122,A.le 97 (A.nth l0 (A.nat n2)),Zag (Zag (A.le 0 n2) (Nat.blt (A.nat n2) (A.len l0))) true,A.lt n2 n1],
  AV.bool false,none):=by kernel_rfl
theorem ZFB(A:Ar)(s:List UInt8)(l0:zI)(n1 n2:Int):ZaD A tab E0 68 [true,true,true,true,false,false,false,true,true,false,true,false,true,true,true,false,false,false,true,true,true,false,false,true,false,false,true,true,false,true,false] (Zau s l0 n1 n2) (Zao s l0 n1 n2)=
 some (tr [1,0,14,5,5,5,12,5,6,6,1,1] [A.inR .i64 (A.add n2 1),!A.lt 57 (A.nth l0 (A.nat n2)),!A.lt (A.nth l0 (A.nat n2)) 48,A.not (A.eq (A.nth l0 (A.nat n2)) 45),!A.eq n2 0,A.not (A.le (A.nth l0 (A.nat n2)) 90),A.le 65 (A.nth l0 (A.nat n2)),!A.le (A.nth l0 (A.nat n2)) 122,A.le 97 (A.nth l0 (A.nat n2)),Zag (Zag (A.le 0 n2) (Nat.blt (A.nat n2) (A.len l0))) true,A.lt n2 n1],
  ZaS (s) (l0) (n1) (A.add n2 1)):=by kernel_rfl
theorem ZFz(A:Ar)(s:List UInt8)(l0:zI)(n1 n2:Int):ZaD A tab E0 68 [true,true,true,true,false,false,false,true,true,false,true,false,true,true,true,false,false,false,false,false,false,false,false,false,true,false,true,false] (Zau s l0 n1 n2) (Zao s l0 n1 n2)=
 some (tr [1,18,5,5,12,5,6,6,1,1] [A.inR .i64 (A.add n2 1),!A.not (A.eq (A.nth l0 (A.nat n2)) 45),!A.eq n2 0,A.not (A.le (A.nth l0 (A.nat n2)) 90),A.le 65 (A.nth l0 (A.nat n2)),!A.le (A.nth l0 (A.nat n2)) 122,A.le 97 (A.nth l0 (A.nat n2)),Zag (Zag (A.le 0 n2) (Nat.blt (A.nat n2) (A.len l0))) true,A.lt n2 n1],
  ZaS (s) (l0) (n1) (A.add n2 1)):=by kernel_rfl
theorem ZFx(A:Ar)(s:List UInt8)(l0:zI)(n1 n2:Int):ZaD A tab E0 68 [true,true,true,true,false,false,false,true,true,false,true,false,false,false,false,false,false,false] (Zau s l0 n1 n2) (Zao s l0 n1 n2)=
 some (tr [1,20,12,5,6,6,1,1] [A.inR .i64 (A.add n2 1),!A.not (A.le (A.nth l0 (A.nat n2)) 90),A.le 65 (A.nth l0 (A.nat n2)),!A.le (A.nth l0 (A.nat n2)) 122,A.le 97 (A.nth l0 (A.nat n2)),Zag (Zag (A.le 0 n2) (Nat.blt (A.nat n2) (A.len l0))) true,A.lt n2 n1],
  ZaS (s) (l0) (n1) (A.add n2 1)):=by kernel_rfl
theorem ZEC(A:Ar)(s:List UInt8)(l0:zI)(n1 n2:Int):Za9 A tab E0 65 [true,true,true,true,false,false,false,false,false,false,false,false,true,true,true,true,true,true,true,true,true,true,true] 182 (Zau s l0 n1 n2) (Zao s l0 n1 n2)=
 some (tr [21,5,12,5,6,6,1,1] [A.eq n2 0,A.not false,!A.le 65 (A.nth l0 (A.nat n2)),!A.le (A.nth l0 (A.nat n2)) 122,A.le 97 (A.nth l0 (A.nat n2)),Zag (Zag (A.le 0 n2) (Nat.blt (A.nat n2) (A.len l0))) true,A.lt n2 n1],
  AV.bool false,none):=by kernel_rfl
theorem ZDI(A:Ar)(s:List UInt8)(l0:zI)(n1 n2:Int):Za9 A tab E0 65 [true,true,true,true,false,false,false,false,false,false,false,false,true,true,true,false,false,false,true,true,true,true,true,true,true,false,true,true,false,true,true] 182 (Zau s l0 n1 n2) (Zao s l0 n1 n2)=
 some (tr [17,5,5,5,12,5,6,6,1,1] [A.lt (A.nth l0 (A.nat n2)) 48,A.not (A.eq (A.nth l0 (A.nat n2)) 45),!A.eq n2 0,A.not false,!A.le 65 (A.nth l0 (A.nat n2)),!A.le (A.nth l0 (A.nat n2)) 122,A.le 97 (A.nth l0 (A.nat n2)),Zag (Zag (A.le 0 n2) (Nat.blt (A.nat n2) (A.len l0))) true,A.lt n2 n1],
  AV.bool false,none):=by kernel_rfl
theorem ZxB(A:Ar)(s:List UInt8)(l0:zI)(n1 n2:Int):Za9 A tab E0 65 [true,true,true,true,false,false,false,false,false,false,false,false,true,true,true,false,false,false,true,true,true,false,false,true,false,false,true,true,false,true,true] 182 (Zau s l0 n1 n2) (Zao s l0 n1 n2)=
 some (tr [2,14,5,5,5,12,5,6,6,1,1] [A.lt 57 (A.nth l0 (A.nat n2)),!A.lt (A.nth l0 (A.nat n2)) 48,A.not (A.eq (A.nth l0 (A.nat n2)) 45),!A.eq n2 0,A.not false,!A.le 65 (A.nth l0 (A.nat n2)),!A.le (A.nth l0 (A.nat n2)) 122,A.le 97 (A.nth l0 (A.nat n2)),Zag (Zag (A.le 0 n2) (Nat.blt (A.nat n2) (A.len l0))) true,A.lt n2 n1],
  AV.bool false,none):=by kernel_rfl
theorem ZxH(A:Ar)(s:List UInt8)(l0:zI)(n1 n2:Int):ZaD A tab E0 68 [true,true,true,true,false,false,false,false,false,false,false,false,true,true,true,false,false,false,true,true,true,false,false,true,false,false,true,true,false,true,false] (Zau s l0 n1 n2) (Zao s l0 n1 n2)=
 some (tr [1,0,14,5,5,5,12,5,6,6,1,1] [A.inR .i64 (A.add n2 1),!A.lt 57 (A.nth l0 (A.nat n2)),!A.lt (A.nth l0 (A.nat n2)) 48,A.not (A.eq (A.nth l0 (A.nat n2)) 45),!A.eq n2 0,A.not false,!A.le 65 (A.nth l0 (A.nat n2)),!A.le (A.nth l0 (A.nat n2)) 122,A.le 97 (A.nth l0 (A.nat n2)),Zag (Zag (A.le 0 n2) (Nat.blt (A.nat n2) (A.len l0))) true,A.lt n2 n1],
  ZaS (s) (l0) (n1) (A.add n2 1)):=by kernel_rfl
theorem ZBe(A:Ar)(s:List UInt8)(l0:zI)(n1 n2:Int):ZaD A tab E0 68 [true,true,true,true,false,false,false,false,false,false,false,false,true,true,true,false,false,false,false,false,false,false,false,false,true,false,true,false] (Zau s l0 n1 n2) (Zao s l0 n1 n2)=
 some (tr [1,18,5,5,12,5,6,6,1,1] [A.inR .i64 (A.add n2 1),!A.not (A.eq (A.nth l0 (A.nat n2)) 45),!A.eq n2 0,A.not false,!A.le 65 (A.nth l0 (A.nat n2)),!A.le (A.nth l0 (A.nat n2)) 122,A.le 97 (A.nth l0 (A.nat n2)),Zag (Zag (A.le 0 n2) (Nat.blt (A.nat n2) (A.len l0))) true,A.lt n2 n1],
  ZaS (s) (l0) (n1) (A.add n2 1)):=by kernel_rfl
theorem ZAM(A:Ar)(s:List UInt8)(l0:zI)(n1 n2:Int):Za9 A tab E0 65 [true,false,false,false,false,false,false,true,true,false,true,false,true,true,true,true,true,true,true,true,true,true,true] 182 (Zau s l0 n1 n2) (Zao s l0 n1 n2)=
 some (tr [21,5,12,12,6,1,1] [A.eq n2 0,A.not (A.le (A.nth l0 (A.nat n2)) 90),A.le 65 (A.nth l0 (A.nat n2)),!A.le 97 (A.nth l0 (A.nat n2)),Zag (Zag (A.le 0 n2) (Nat.blt (A.nat n2) (A.len l0))) true,A.lt n2 n1],
  AV.bool false,none):=by kernel_rfl
theorem ZzA(A:Ar)(s:List UInt8)(l0:zI)(n1 n2:Int):Za9 A tab E0 65 [true,false,false,false,false,false,false,true,true,false,true,false,true,true,true,false,false,false,true,true,true,true,true,true,true,false,true,true,false,true,true] 182 (Zau s l0 n1 n2) (Zao s l0 n1 n2)=
 some (tr [17,5,5,5,12,12,6,1,1] [A.lt (A.nth l0 (A.nat n2)) 48,A.not (A.eq (A.nth l0 (A.nat n2)) 45),!A.eq n2 0,A.not (A.le (A.nth l0 (A.nat n2)) 90),A.le 65 (A.nth l0 (A.nat n2)),!A.le 97 (A.nth l0 (A.nat n2)),Zag (Zag (A.le 0 n2) (Nat.blt (A.nat n2) (A.len l0))) true,A.lt n2 n1],
  AV.bool false,none):=by kernel_rfl
theorem ZAf(A:Ar)(s:List UInt8)(l0:zI)(n1 n2:Int):Za9 A tab E0 65 [true,false,false,false,false,false,false,true,true,false,true,false,true,true,true,false,false,false,true,true,true,false,false,true,false,false,true,true,false,true,true] 182 (Zau s l0 n1 n2) (Zao s l0 n1 n2)=
 some (tr [2,14,5,5,5,12,12,6,1,1] [A.lt 57 (A.nth l0 (A.nat n2)),!A.lt (A.nth l0 (A.nat n2)) 48,A.not (A.eq (A.nth l0 (A.nat n2)) 45),!A.eq n2 0,A.not (A.le (A.nth l0 (A.nat n2)) 90),A.le 65 (A.nth l0 (A.nat n2)),!A.le 97 (A.nth l0 (A.nat n2)),Zag (Zag (A.le 0 n2) (Nat.blt (A.nat n2) (A.len l0))) true,A.lt n2 n1],
  AV.bool false,none):=by kernel_rfl
theorem Zxd(A:Ar)(s:List UInt8)(l0:zI)(n1 n2:Int):ZaD A tab E0 68 [true,false,false,false,false,false,false,true,true,false,true,false,true,true,true,false,false,false,true,true,true,false,false,true,false,false,true,true,false,true,false] (Zau s l0 n1 n2) (Zao s l0 n1 n2)=
 some (tr [1,0,14,5,5,5,12,12,6,1,1] [A.inR .i64 (A.add n2 1),!A.lt 57 (A.nth l0 (A.nat n2)),!A.lt (A.nth l0 (A.nat n2)) 48,A.not (A.eq (A.nth l0 (A.nat n2)) 45),!A.eq n2 0,A.not (A.le (A.nth l0 (A.nat n2)) 90),A.le 65 (A.nth l0 (A.nat n2)),!A.le 97 (A.nth l0 (A.nat n2)),Zag (Zag (A.le 0 n2) (Nat.blt (A.nat n2) (A.len l0))) true,A.lt n2 n1],
  ZaS (s) (l0) (n1) (A.add n2 1)):=by kernel_rfl
theorem ZzV(A:Ar)(s:List UInt8)(l0:zI)(n1 n2:Int):ZaD A tab E0 68 [true,false,false,false,false,false,false,true,true,false,true,false,true,true,true,false,false,false,false,false,false,false,false,false,true,false,true,false] (Zau s l0 n1 n2) (Zao s l0 n1 n2)=
 some (tr [1,18,5,5,12,12,6,1,1] [A.inR .i64 (A.add n2 1),!A.not (A.eq (A.nth l0 (A.nat n2)) 45),!A.eq n2 0,A.not (A.le (A.nth l0 (A.nat n2)) 90),A.le 65 (A.nth l0 (A.nat n2)),!A.le 97 (A.nth l0 (A.nat n2)),Zag (Zag (A.le 0 n2) (Nat.blt (A.nat n2) (A.len l0))) true,A.lt n2 n1],
  ZaS (s) (l0) (n1) (A.add n2 1)):=by kernel_rfl
theorem ZzG(A:Ar)(s:List UInt8)(l0:zI)(n1 n2:Int):ZaD A tab E0 68 [true,false,false,false,false,false,false,true,true,false,true,false,false,false,false,false,false,false] (Zau s l0 n1 n2) (Zao s l0 n1 n2)=
 some (tr [1,20,12,12,6,1,1] [A.inR .i64 (A.add n2 1),!A.not (A.le (A.nth l0 (A.nat n2)) 90),A.le 65 (A.nth l0 (A.nat n2)),!A.le 97 (A.nth l0 (A.nat n2)),Zag (Zag (A.le 0 n2) (Nat.blt (A.nat n2) (A.len l0))) true,A.lt n2 n1],
  ZaS (s) (l0) (n1) (A.add n2 1)):=by kernel_rfl
theorem ZAj(A:Ar)(s:List UInt8)(l0:zI)(n1 n2:Int):Za9 A tab E0 65 [true,false,false,false,false,false,false,false,false,false,false,false,true,true,true,true,true,true,true,true,true,true,true] 182 (Zau s l0 n1 n2) (Zao s l0 n1 n2)=
 some (tr [21,5,12,12,6,1,1] [A.eq n2 0,A.not false,!A.le 65 (A.nth l0 (A.nat n2)),!A.le 97 (A.nth l0 (A.nat n2)),Zag (Zag (A.le 0 n2) (Nat.blt (A.nat n2) (A.len l0))) true,A.lt n2 n1],
  AV.bool false,none):=by kernel_rfl
theorem Zw4(A:Ar)(s:List UInt8)(l0:zI)(n1 n2:Int):Za9 A tab E0 65 [true,false,false,false,false,false,false,false,false,false,false,false,true,true,true,false,false,false,true,true,true,true,true,true,true,false,true,true,false,true,true] 182 (Zau s l0 n1 n2) (Zao s l0 n1 n2)=
 some (tr [17,5,5,5,12,12,6,1,1] [A.lt (A.nth l0 (A.nat n2)) 48,A.not (A.eq (A.nth l0 (A.nat n2)) 45),!A.eq n2 0,A.not false,!A.le 65 (A.nth l0 (A.nat n2)),!A.le 97 (A.nth l0 (A.nat n2)),Zag (Zag (A.le 0 n2) (Nat.blt (A.nat n2) (A.len l0))) true,A.lt n2 n1],
  AV.bool false,none):=by kernel_rfl
theorem Zxw(A:Ar)(s:List UInt8)(l0:zI)(n1 n2:Int):Za9 A tab E0 65 [true,false,false,false,false,false,false,false,false,false,false,false,true,true,true,false,false,false,true,true,true,false,false,true,false,false,true,true,false,true,true] 182 (Zau s l0 n1 n2) (Zao s l0 n1 n2)=
 some (tr [2,14,5,5,5,12,12,6,1,1] [A.lt 57 (A.nth l0 (A.nat n2)),!A.lt (A.nth l0 (A.nat n2)) 48,A.not (A.eq (A.nth l0 (A.nat n2)) 45),!A.eq n2 0,A.not false,!A.le 65 (A.nth l0 (A.nat n2)),!A.le 97 (A.nth l0 (A.nat n2)),Zag (Zag (A.le 0 n2) (Nat.blt (A.nat n2) (A.len l0))) true,A.lt n2 n1],
  AV.bool false,none):=by kernel_rfl
theorem Zza(A:Ar)(s:List UInt8)(l0:zI)(n1 n2:Int):ZaD A tab E0 68 [true,false,false,false,false,false,false,false,false,false,false,false,true,true,true,false,false,false,true,true,true,false,false,true,false,false,true,true,false,true,false] (Zau s l0 n1 n2) (Zao s l0 n1 n2)=
 some (tr [1,0,14,5,5,5,12,12,6,1,1] [A.inR .i64 (A.add n2 1),!A.lt 57 (A.nth l0 (A.nat n2)),!A.lt (A.nth l0 (A.nat n2)) 48,A.not (A.eq (A.nth l0 (A.nat n2)) 45),!A.eq n2 0,A.not false,!A.le 65 (A.nth l0 (A.nat n2)),!A.le 97 (A.nth l0 (A.nat n2)),Zag (Zag (A.le 0 n2) (Nat.blt (A.nat n2) (A.len l0))) true,A.lt n2 n1],
  ZaS (s) (l0) (n1) (A.add n2 1)):=by kernel_rfl
theorem ZyG(A:Ar)(s:List UInt8)(l0:zI)(n1 n2:Int):ZaD A tab E0 68 [true,false,false,false,false,false,false,false,false,false,false,false,true,true,true,false,false,false,false,false,false,false,false,false,true,false,true,false] (Zau s l0 n1 n2) (Zao s l0 n1 n2)=
 some (tr [1,18,5,5,12,12,6,1,1] [A.inR .i64 (A.add n2 1),!A.not (A.eq (A.nth l0 (A.nat n2)) 45),!A.eq n2 0,A.not false,!A.le 65 (A.nth l0 (A.nat n2)),!A.le 97 (A.nth l0 (A.nat n2)),Zag (Zag (A.le 0 n2) (Nat.blt (A.nat n2) (A.len l0))) true,A.lt n2 n1],
  ZaS (s) (l0) (n1) (A.add n2 1)):=by kernel_rfl
theorem Zw9(A:Ar)(s:List UInt8)(l0:zI)(n1 n2:Int):Za9 A tab E0 21 [false,true,true,true,true] 182 (Zau s l0 n1 n2) (Zao s l0 n1 n2)=
 some (tr [9,3,1] [A.not (A.eqS s []),!A.lt n2 n1],
  AV.bool (A.le (A.int (A.lenS s)) 12),none):=by kernel_rfl
theorem ZAQ(A:Ar)(s:List UInt8)(l0:zI)(n1 n2:Int):Za9 A tab E0 21 [false,false,false,false,false] 182 (Zau s l0 n1 n2) (Zao s l0 n1 n2)=
 some (tr [9,3,1] [!A.not (A.eqS s []),!A.lt n2 n1],
  AV.bool false,none):=by kernel_rfl
def ZvO(n:Int):AFrame:=vF 161 3 [vI 0 n] [.code a161.code] [.tmp 2]
def ZJ0(n:Int):List AFrame:=[(ZvO n)]
theorem Zvu(n:Int):Zam tab 161 [AV.int .i64 n]=some (ZvO n):=rfl
theorem ZCH(A:Ar)(n:Int):Za9 A tab E0 9 [] 161 (ZJ0 n) []=
 some (tr [3] [],
  AV.int .i64 0,none):=by kernel_rfl
end Go.Proofs.YtkeoeooghhjibaaGreatDoor
namespace Go.Proofs.YtkeoeooghhjibaaGreatDoor
def Zab(n a b:Int):Bool:=decide (a≤n∧n≤b)
def Zaa(b:Bool)(e:Int):Int:=if b=true then 0 else e
def ZFP(k:Nat)(c:Int):Bool:=decide ((97≤c∧c≤122)∨(65≤c∧c≤90)∨(k≠0∧(c=45∨(48≤c∧c≤57))))
def nmR(f:Nat→Int):Nat→Nat→Bool
 |0,_=>true
 |m+1,k=>ZFP k (f k)&&nmR f m (k+1)
def ZaZ(s:List UInt8):Bool:=decide (1≤s.length∧s.length≤12)&&nmR (fun k=>((s.getD k 0).toNat:Int)) s.length 0
def Zae:zI→Int
 |[]=>0
 |x::xs=>if x=0 then Zae xs else x
def Zjd(xs:zA)(s:List UInt8):Bool:=xs.any fun x=>x.toS==s
theorem ZnL(n a b:Int):Zan Tryz.prog 41 [.int .i64 n, .int .i64 a, .int .i64 b] (.bool (Zab n a b)) none:=
 start (Zy3 n a b) fun C hC=>by
  by_cases h:a≤n
  ·exact fin hC ZaJ (ZIS std n a b) (by simp[h]) (by simp[Zab,h]) rfl
  ·exact fin hC ZaJ (ZI1 std n a b) (by simp;omega) (by simp[Zab,h]) rfl
theorem Zn9(n a b:Int):Zan Tryz.prog 82 [.int .i64 n, .int .i64 a, .int .i64 b] (.bool (Zab n a b)) none:=
 start (Zym n a b) fun C hC=>by
  by_cases h:a≤n
  ·exact fin hC ZaJ (ZKu std n a b) (by simp[h]) (by simp[Zab,h]) rfl
  ·exact fin hC ZaJ (ZJM std n a b) (by simp;omega) (by simp[Zab,h]) rfl
theorem ZnV(b:Bool)(e:Int):Zan Tryz.prog 68 [.bool b, .int .i64 e] (.int .i64 (Zaa b e)) none:=
 start (ZzT b e) fun C hC=>by
  cases b
  ·first
   |exact fin hC ZaJ (ZG7 std false e) (by simp) rfl rfl
   |exact fin hC ZaJ (ZFR std false e) (by simp) rfl rfl
  ·first
   |exact fin hC ZaJ (ZG7 std true e) (by simp) rfl rfl
   |exact fin hC ZaJ (ZFR std true e) (by simp) rfl rfl
theorem Zq5(n:Int):Zan Tryz.prog 161 [.int .i64 n] (.int .i64 0) none:=start (Zvu n) fun C hC=>fin hC ZaJ (ZCH std n) (by simp) rfl rfl
theorem ZiC{C:Ctx}(hC:C.P=Tryz.prog)(s:List UInt8)(hl:s.length≤1000000):∀(m k:Nat),k+m=s.length→vE C (ZaR s (k:Int)) (Zco 150 (.bool (nmR (fun k=>((s.getD k 0).toNat:Int)) m k)) none)
 |0,k,hk=>fin hC ZaJ (Zxl std s k) (by simp;omega) rfl rfl
 |m+1,k,hk=>by
  have nx:ZFP k (((s.getD k 0).toNat:Int))=true→vE C (ZaR s ((k:Int)+1)) (Zco 150 (.bool (nmR (fun k=>((s.getD k 0).toNat:Int)) (m+1) k)) none):=fun h=>by
   have:=ZiC hC s hl m (k+1) (by omega)
   simp only[nmR,h,Bool.true_and]
   exact this
  have fx:ZFP k (((s.getD k 0).toNat:Int))=false→AV.bool false=AV.bool (nmR (fun k=>((s.getD k 0).toNat:Int)) (m+1) k):=fun h=>by simp only[nmR,h,Bool.false_and]
  by_cases h1:((k:Int)<((s.length:Nat):Int))
  ·by_cases h2:(97≤((s.getD k 0).toNat:Int))
   ·by_cases h3:(((s.getD k 0).toNat:Int)≤122)
    ·exact go hC ZaJ (ZGO std s (k:Int)) (by simp[-List.getD_eq_getElem?_getD]<;>omega) (nx (decide_eq_true (by omega)))
    ·by_cases h4:(65≤((s.getD k 0).toNat:Int))
     ·by_cases h5:(((s.getD k 0).toNat:Int)≤90)
      ·exact go hC ZaJ (ZBL std s (k:Int)) (by simp[-List.getD_eq_getElem?_getD]<;>omega) (nx (decide_eq_true (by omega)))
      ·by_cases h6:((k:Int)=0)
       ·exact fin hC ZaJ (ZEQ std s (k:Int)) (by simp[-List.getD_eq_getElem?_getD]<;>omega) (fx (decide_eq_false (by omega))) rfl
       ·by_cases h7:(((s.getD k 0).toNat:Int)=45)
        ·exact go hC ZaJ (ZCb std s (k:Int)) (by simp[-List.getD_eq_getElem?_getD]<;>omega) (nx (decide_eq_true (by omega)))
        ·by_cases h8:(((s.getD k 0).toNat:Int)<48)
         ·exact fin hC ZaJ (ZCM std s (k:Int)) (by simp[-List.getD_eq_getElem?_getD]<;>omega) (fx (decide_eq_false (by omega))) rfl
         ·by_cases h9:(57<((s.getD k 0).toNat:Int))
          ·exact fin hC ZaJ (ZFK std s (k:Int)) (by simp[-List.getD_eq_getElem?_getD]<;>omega) (fx (decide_eq_false (by omega))) rfl
          ·exact go hC ZaJ (ZDC std s (k:Int)) (by simp[-List.getD_eq_getElem?_getD]<;>omega) (nx (decide_eq_true (by omega)))
     ·by_cases h5:((k:Int)=0)
      ·exact fin hC ZaJ (ZxX std s (k:Int)) (by simp[-List.getD_eq_getElem?_getD]<;>omega) (fx (decide_eq_false (by omega))) rfl
      ·by_cases h6:(((s.getD k 0).toNat:Int)=45)
       ·exact go hC ZaJ (Zyn std s (k:Int)) (by simp[-List.getD_eq_getElem?_getD]<;>omega) (nx (decide_eq_true (by omega)))
       ·by_cases h7:(((s.getD k 0).toNat:Int)<48)
        ·exact fin hC ZaJ (Zzr std s (k:Int)) (by simp[-List.getD_eq_getElem?_getD]<;>omega) (fx (decide_eq_false (by omega))) rfl
        ·by_cases h8:(57<((s.getD k 0).toNat:Int))
         ·exact fin hC ZaJ (ZyP std s (k:Int)) (by simp[-List.getD_eq_getElem?_getD]<;>omega) (fx (decide_eq_false (by omega))) rfl
         ·exact go hC ZaJ (ZAd std s (k:Int)) (by simp[-List.getD_eq_getElem?_getD]<;>omega) (nx (decide_eq_true (by omega)))
   ·by_cases h3:(65≤((s.getD k 0).toNat:Int))
    ·by_cases h4:(((s.getD k 0).toNat:Int)≤90)
     ·exact go hC ZaJ (ZBj std s (k:Int)) (by simp[-List.getD_eq_getElem?_getD]<;>omega) (nx (decide_eq_true (by omega)))
     ·by_cases h5:((k:Int)=0)
      ·exact fin hC ZaJ (ZxK std s (k:Int)) (by simp[-List.getD_eq_getElem?_getD]<;>omega) (fx (decide_eq_false (by omega))) rfl
      ·by_cases h6:(((s.getD k 0).toNat:Int)=45)
       ·exact go hC ZaJ (Zw8 std s (k:Int)) (by simp[-List.getD_eq_getElem?_getD]<;>omega) (nx (decide_eq_true (by omega)))
       ·by_cases h7:(((s.getD k 0).toNat:Int)<48)
        ·exact fin hC ZaJ (ZBu std s (k:Int)) (by simp[-List.getD_eq_getElem?_getD]<;>omega) (fx (decide_eq_false (by omega))) rfl
        ·by_cases h8:(57<((s.getD k 0).toNat:Int))
         ·exact fin hC ZaJ (ZxJ std s (k:Int)) (by simp[-List.getD_eq_getElem?_getD]<;>omega) (fx (decide_eq_false (by omega))) rfl
         ·exact go hC ZaJ (Zx1 std s (k:Int)) (by simp[-List.getD_eq_getElem?_getD]<;>omega) (nx (decide_eq_true (by omega)))
    ·by_cases h4:((k:Int)=0)
     ·exact fin hC ZaJ (ZzQ std s (k:Int)) (by simp[-List.getD_eq_getElem?_getD]<;>omega) (fx (decide_eq_false (by omega))) rfl
     ·by_cases h5:(((s.getD k 0).toNat:Int)=45)
      ·exact go hC ZaJ (ZA3 std s (k:Int)) (by simp[-List.getD_eq_getElem?_getD]<;>omega) (nx (decide_eq_true (by omega)))
      ·by_cases h6:(((s.getD k 0).toNat:Int)<48)
       ·exact fin hC ZaJ (Zzs std s (k:Int)) (by simp[-List.getD_eq_getElem?_getD]<;>omega) (fx (decide_eq_false (by omega))) rfl
       ·by_cases h7:(57<((s.getD k 0).toNat:Int))
        ·exact fin hC ZaJ (ZxS std s (k:Int)) (by simp[-List.getD_eq_getElem?_getD]<;>omega) (fx (decide_eq_false (by omega))) rfl
        ·exact go hC ZaJ (ZxA std s (k:Int)) (by simp[-List.getD_eq_getElem?_getD]<;>omega) (nx (decide_eq_true (by omega)))
  ·omega
theorem Zrz(s:List UInt8)(hl:s.length≤1000000):Zan Tryz.prog 150 [.str s] (.bool (ZaZ s)) none:=
 start (Zve s) fun C hC=>by
  by_cases h1:((s.length:Int)<1)
  ·exact fin hC ZaJ (ZDA std s) (by simp;omega) (by simp[ZaZ];omega) rfl
  ·by_cases h2:(12<(s.length:Int))
   ·exact fin hC ZaJ (ZGB std s) (by simp;omega) (by simp[ZaZ];omega) rfl
   ·refine go hC ZaJ (ZHe std s) (by simp;omega) ?_
    have:=ZiC hC s hl s.length 0 (by omega)
    have e:decide (1≤s.length∧s.length≤12)=true:=by simp;omega
    simp only[ZaZ,e,Bool.true_and]
    exact this
theorem Ziq{C:Ctx}(hC:C.P=Tryz.prog)(s:List UInt8)(l0:zI)(hl:l0.length≤4294967296):∀(m k:Nat),k+m=l0.length→vE C (ZaS s l0 (l0.length:Int) (k:Int)) (Zco 182 (.bool (decide (1≤s.length∧s.length≤12)&&nmR (fun k=>l0.getD k 0) m k)) none)
 |0,k,hk=>by
  by_cases h2:s=[]
  ·exact fin hC ZaJ (ZAQ std s l0 l0.length k) (by simp[h2];omega) (by simp[h2]) rfl
  ·have h3:0<s.length:=List.length_pos_iff.2 h2
   exact fin hC ZaJ (Zw9 std s l0 l0.length k) (by simp[h2];omega) (by simp only[nmR,Bool.and_true];congr 1;rw[Bool.eq_iff_iff];simp;omega) rfl
 |m+1,k,hk=>by
  have nx:ZFP k (l0.getD k 0)=true→vE C (ZaS s l0 (l0.length:Int) ((k:Int)+1)) (Zco 182 (.bool (decide (1≤s.length∧s.length≤12)&&nmR (fun k=>l0.getD k 0) (m+1) k)) none):=fun h=>by
   have:=Ziq hC s l0 hl m (k+1) (by omega)
   simp only[nmR,h,Bool.true_and]
   exact this
  have fx:ZFP k (l0.getD k 0)=false→AV.bool false=AV.bool (decide (1≤s.length∧s.length≤12)&&nmR (fun k=>l0.getD k 0) (m+1) k):=fun h=>by simp only[nmR,h,Bool.false_and,Bool.and_false]
  by_cases h1:((k:Int)<(l0.length:Int))
  ·by_cases h2:(97≤(l0.getD k 0))
   ·by_cases h3:((l0.getD k 0)≤122)
    ·exact go hC ZaJ (ZE0 std s l0 (l0.length:Int) (k:Int)) (by simp[-List.getD_eq_getElem?_getD]<;>omega) (nx (decide_eq_true (by omega)))
    ·by_cases h4:(65≤(l0.getD k 0))
     ·by_cases h5:((l0.getD k 0)≤90)
      ·exact go hC ZaJ (ZFx std s l0 (l0.length:Int) (k:Int)) (by simp[-List.getD_eq_getElem?_getD]<;>omega) (nx (decide_eq_true (by omega)))
      ·by_cases h6:((k:Int)=0)
       ·exact fin hC ZaJ (ZGn std s l0 (l0.length:Int) (k:Int)) (by simp[-List.getD_eq_getElem?_getD]<;>omega) (fx (decide_eq_false (by omega))) rfl
       ·by_cases h7:((l0.getD k 0)=45)
        ·exact go hC ZaJ (ZFz std s l0 (l0.length:Int) (k:Int)) (by simp[-List.getD_eq_getElem?_getD]<;>omega) (nx (decide_eq_true (by omega)))
        ·by_cases h8:((l0.getD k 0)<48)
         ·exact fin hC ZaJ (ZFd std s l0 (l0.length:Int) (k:Int)) (by simp[-List.getD_eq_getElem?_getD]<;>omega) (fx (decide_eq_false (by omega))) rfl
         ·by_cases h9:(57<(l0.getD k 0))
          ·exact fin hC ZaJ (ZHp std s l0 (l0.length:Int) (k:Int)) (by simp[-List.getD_eq_getElem?_getD]<;>omega) (fx (decide_eq_false (by omega))) rfl
          ·exact go hC ZaJ (ZFB std s l0 (l0.length:Int) (k:Int)) (by simp[-List.getD_eq_getElem?_getD]<;>omega) (nx (decide_eq_true (by omega)))
     ·by_cases h5:((k:Int)=0)
      ·exact fin hC ZaJ (ZEC std s l0 (l0.length:Int) (k:Int)) (by simp[-List.getD_eq_getElem?_getD]<;>omega) (fx (decide_eq_false (by omega))) rfl
      ·by_cases h6:((l0.getD k 0)=45)
       ·exact go hC ZaJ (ZBe std s l0 (l0.length:Int) (k:Int)) (by simp[-List.getD_eq_getElem?_getD]<;>omega) (nx (decide_eq_true (by omega)))
       ·by_cases h7:((l0.getD k 0)<48)
        ·exact fin hC ZaJ (ZDI std s l0 (l0.length:Int) (k:Int)) (by simp[-List.getD_eq_getElem?_getD]<;>omega) (fx (decide_eq_false (by omega))) rfl
        ·by_cases h8:(57<(l0.getD k 0))
         ·exact fin hC ZaJ (ZxB std s l0 (l0.length:Int) (k:Int)) (by simp[-List.getD_eq_getElem?_getD]<;>omega) (fx (decide_eq_false (by omega))) rfl
         ·exact go hC ZaJ (ZxH std s l0 (l0.length:Int) (k:Int)) (by simp[-List.getD_eq_getElem?_getD]<;>omega) (nx (decide_eq_true (by omega)))
   ·by_cases h3:(65≤(l0.getD k 0))
    ·by_cases h4:((l0.getD k 0)≤90)
     ·exact go hC ZaJ (ZzG std s l0 (l0.length:Int) (k:Int)) (by simp[-List.getD_eq_getElem?_getD]<;>omega) (nx (decide_eq_true (by omega)))
     ·by_cases h5:((k:Int)=0)
      ·exact fin hC ZaJ (ZAM std s l0 (l0.length:Int) (k:Int)) (by simp[-List.getD_eq_getElem?_getD]<;>omega) (fx (decide_eq_false (by omega))) rfl
      ·by_cases h6:((l0.getD k 0)=45)
       ·exact go hC ZaJ (ZzV std s l0 (l0.length:Int) (k:Int)) (by simp[-List.getD_eq_getElem?_getD]<;>omega) (nx (decide_eq_true (by omega)))
       ·by_cases h7:((l0.getD k 0)<48)
        ·exact fin hC ZaJ (ZzA std s l0 (l0.length:Int) (k:Int)) (by simp[-List.getD_eq_getElem?_getD]<;>omega) (fx (decide_eq_false (by omega))) rfl
        ·by_cases h8:(57<(l0.getD k 0))
         ·exact fin hC ZaJ (ZAf std s l0 (l0.length:Int) (k:Int)) (by simp[-List.getD_eq_getElem?_getD]<;>omega) (fx (decide_eq_false (by omega))) rfl
         ·exact go hC ZaJ (Zxd std s l0 (l0.length:Int) (k:Int)) (by simp[-List.getD_eq_getElem?_getD]<;>omega) (nx (decide_eq_true (by omega)))
    ·by_cases h4:((k:Int)=0)
     ·exact fin hC ZaJ (ZAj std s l0 (l0.length:Int) (k:Int)) (by simp[-List.getD_eq_getElem?_getD]<;>omega) (fx (decide_eq_false (by omega))) rfl
     ·by_cases h5:((l0.getD k 0)=45)
      ·exact go hC ZaJ (ZyG std s l0 (l0.length:Int) (k:Int)) (by simp[-List.getD_eq_getElem?_getD]<;>omega) (nx (decide_eq_true (by omega)))
      ·by_cases h6:((l0.getD k 0)<48)
       ·exact fin hC ZaJ (Zw4 std s l0 (l0.length:Int) (k:Int)) (by simp[-List.getD_eq_getElem?_getD]<;>omega) (fx (decide_eq_false (by omega))) rfl
       ·by_cases h7:(57<(l0.getD k 0))
        ·exact fin hC ZaJ (Zxw std s l0 (l0.length:Int) (k:Int)) (by simp[-List.getD_eq_getElem?_getD]<;>omega) (fx (decide_eq_false (by omega))) rfl
        ·exact go hC ZaJ (Zza std s l0 (l0.length:Int) (k:Int)) (by simp[-List.getD_eq_getElem?_getD]<;>omega) (nx (decide_eq_true (by omega)))
  ·by_cases h2:(s=[])
   ·omega
   ·omega
theorem Zs9(s:List UInt8)(hl:s.length≤1000000):Zan Tryz.prog 182 [.str s] (.bool (ZaZ s)) none:=
 start (Zuk s) fun C hC=>by
  refine go hC ZaJ (ZC8 std s) (by simp;omega) ?_
  have:=Ziq hC s (s.map fun b=>(b.toNat:Int)) (by simp;omega) (s.map fun b=>(b.toNat:Int)).length 0 (by simp)
  have e:(fun k=>(s.map fun b=>(b.toNat:Int)).getD k 0)=fun k=>((s.getD k 0).toNat:Int):=by
   funext k
   simp only[List.getD_eq_getElem?_getD,List.getElem?_map]
   cases s[k]?<;>rfl
  have q:(decide (1≤s.length∧s.length≤12)&&nmR (fun k=>(s.map fun b=>(b.toNat:Int)).getD k 0) (s.map fun b=>(b.toNat:Int)).length 0)=ZaZ s:=by rw[e,List.length_map];rfl
  rw[q]at this
  exact this
@[simp] theorem ZcE (l:zA):std.lenA l=l.length:=rfl
@[simp] theorem ZK4 (l:zA) (j:Nat):std.nthA l j=l.getD j .top:=rfl
theorem ZjN{C:Ctx}(hC:C.P=Tryz.prog)(xs:zA)(s:List UInt8)(hl:xs.length≤1000000):∀(m k:Nat),k+m=xs.length→vE C (Zhs xs s (k:Int)) (Zco 151 (.bool (Zjd (xs.drop k) s)) none)
 |0,k,hk=>fin hC ZaJ (ZBX std xs s k) (by simp;omega) (by rw[List.drop_of_length_le (by omega)];rfl) rfl
 |m+1,k,hk=>by
  have hd:xs.drop k=xs[k]'(by omega)::xs.drop (k+1):=List.drop_eq_getElem_cons (by omega)
  have hg:xs.getD k .top=xs[k]'(by omega):=by simp[List.getD_eq_getElem?_getD,List.getElem?_eq_getElem (show k<xs.length by omega)]
  by_cases h:(xs.getD k .top).toS=s
  ·exact fin hC ZaJ (ZD0 std xs s k) (by simp[-List.getD_eq_getElem?_getD,h]<;>omega) (by rw[hd,←hg];simp[-List.getD_eq_getElem?_getD,Zjd,h]) rfl
  ·refine go hC ZaJ (ZEi std xs s k) (by simp[-List.getD_eq_getElem?_getD,h]<;>omega) ?_
   have:=ZjN hC xs s hl m (k+1) (by omega)
   rw[hd,←hg]
   have e:Zjd (xs.getD k .top::xs.drop (k+1)) s=Zjd (xs.drop (k+1)) s:=by simp[-List.getD_eq_getElem?_getD,Zjd,h]
   rw[e]
   exact this
theorem Zus(xs:zA)(s:List UInt8)(hl:xs.length≤1000000):Zan Tryz.prog 151 [.list (.big .str xs), .str s] (.bool (Zjd xs s)) none:=
 start (Zud xs s) fun C hC=>go hC ZaJ (ZGh std xs s) (by simp) (ZjN hC xs s hl xs.length 0 (by omega))
theorem Zhl{C:Ctx}(hC:C.P=Tryz.prog)(xs:zI)(hl:xs.length≤1000000):∀(m k:Nat),k+m=xs.length→vE C (ZjM xs (xs.length:Int) (k:Int)) (Zco 67 (.int .i64 (Zae (xs.drop k))) none)
 |0,k,hk=>fin hC ZaJ (ZHX std xs xs.length k) (by simp;omega) (by rw[List.drop_of_length_le (by omega)];rfl) rfl
 |m+1,k,hk=>by
  have hd:xs.drop k=xs[k]'(by omega)::xs.drop (k+1):=List.drop_eq_getElem_cons (by omega)
  have hg:xs.getD k 0=xs[k]'(by omega):=by simp[List.getD_eq_getElem?_getD,List.getElem?_eq_getElem (show k<xs.length by omega)]
  by_cases h:xs.getD k 0=0
  ·refine go hC ZaJ (ZIT std xs xs.length k) (by simp[-List.getD_eq_getElem?_getD,h]<;>omega) ?_
   have:=Zhl hC xs hl m (k+1) (by omega)
   rw[hd,←hg,Zae,if_pos h]
   exact this
  ·exact fin hC ZaJ (ZKL std xs xs.length k) (by simp[-List.getD_eq_getElem?_getD,h]<;>omega) (by rw[hd,←hg,Zae,if_neg h];rfl) rfl
theorem ZpN(xs:zI)(hl:xs.length≤1000000):Zan Tryz.prog 67 [.list (.ints .i64 xs)] (.int .i64 (Zae xs)) none:=
 start (ZAD xs) fun C hC=>go hC ZaJ (ZJE std xs) (by simp) (Zhl hC xs hl xs.length 0 (by omega))
end Go.Proofs.YtkeoeooghhjibaaGreatDoor
namespace Go.Proofs.YtkeoeooghhjibaaGreatDoor
def k41:Ctr:=⟨41,0,fun _ a=>match a with |[.int .i64 n, .int .i64 a, .int .i64 b]=>some (true, .bool (Zab n a b),none) |_=>none⟩
theorem ZBZ:k41.OK Tryz.prog:=fun pa args r fr h=>by
 simp only[k41]at h
 split at h
 ·cases h
  exact ZnL _ _ _
 ·cases h
def k82:Ctr:=⟨82,0,fun _ a=>match a with |[.int .i64 n, .int .i64 a, .int .i64 b]=>some (true, .bool (Zab n a b),none) |_=>none⟩
theorem ZEJ:k82.OK Tryz.prog:=fun pa args r fr h=>by
 simp only[k82]at h
 split at h
 ·cases h
  exact Zn9 _ _ _
 ·cases h
def k68:Ctr:=⟨68,0,fun _ a=>match a with |[.bool b, .int .i64 e]=>some (true, .int .i64 (Zaa b e),none) |_=>none⟩
theorem ZHk:k68.OK Tryz.prog:=fun pa args r fr h=>by
 simp only[k68]at h
 split at h
 ·cases h
  exact ZnV _ _
 ·cases h
def k161:Ctr:=⟨161,0,fun _ a=>match a with |[.int .i64 _]=>some (true, .int .i64 0,none) |_=>none⟩
theorem Zyk:k161.OK Tryz.prog:=fun pa args r fr h=>by
 simp only[k161]at h
 split at h
 ·cases h
  exact Zq5 _
 ·cases h
def k150:Ctr:=⟨150,0,fun _ a=>match a with |[.str s]=>some (decide (s.length≤1000000), .bool (ZaZ s),none) |_=>none⟩
theorem Zxj:k150.OK Tryz.prog:=fun pa args r fr h=>by
 simp only[k150]at h
 split at h
 ·simp only[zS,zP,decide_eq_true_eq]at h
  obtain⟨h0,rfl,rfl⟩:=h
  exact Zrz _ h0
 ·cases h
def k182:Ctr:=⟨182,0,fun _ a=>match a with |[.str s]=>some (decide (s.length≤1000000), .bool (ZaZ s),none) |_=>none⟩
theorem Zx5:k182.OK Tryz.prog:=fun pa args r fr h=>by
 simp only[k182]at h
 split at h
 ·simp only[zS,zP,decide_eq_true_eq]at h
  obtain⟨h0,rfl,rfl⟩:=h
  exact Zs9 _ h0
 ·cases h
def k151:Ctr:=⟨151,0,fun _ a=>match a with |[.list (.big .str xs), .str s]=>some (decide (xs.length≤1000000), .bool (Zjd xs s),none) |_=>none⟩
theorem Zxg:k151.OK Tryz.prog:=fun pa args r fr h=>by
 simp only[k151]at h
 split at h
 ·simp only[zS,zP,decide_eq_true_eq]at h
  obtain⟨h0,rfl,rfl⟩:=h
  exact Zus _ _ h0
 ·cases h
def k67:Ctr:=⟨67,0,fun _ a=>match a with |[.list (.ints .i64 xs)]=>some (decide (xs.length≤1000000), .int .i64 (Zae xs),none) |_=>none⟩
theorem ZCk:k67.OK Tryz.prog:=fun pa args r fr h=>by
 simp only[k67]at h
 split at h
 ·simp only[zS,zP,decide_eq_true_eq]at h
  obtain⟨h0,rfl,rfl⟩:=h
  exact ZpN _ h0
 ·cases h
def B1:List Ctr:=[k41,k82,k68,k161,k150,k182,k151,k67]
theorem ZnT:ZaF Tryz.prog B1:=⟨ZBZ,⟨ZEJ,⟨ZHk,⟨Zyk,⟨Zxj,⟨Zx5,⟨Zxg,⟨ZCk,trivial⟩⟩⟩⟩⟩⟩⟩⟩
end Go.Proofs.YtkeoeooghhjibaaGreatDoor
namespace Go.Proofs.YtkeoeooghhjibaaGreatDoor
set_option maxRecDepth 100000
set_option linter.unusedVariables false
def Zwl(n m:Int):AFrame:=vF 158 13 [vI 0 n,vI 1 m] [.code a158.code] [.tmp 4]
def ZG1(n m:Int):List AFrame:=[(Zwl n m)]
theorem Zuh(n m:Int):Zam tab 158 [AV.int .i64 n,AV.int .i64 m]=some (Zwl n m):=rfl
theorem ZFs(A:Ar)(n m:Int):Za9 A tab B1 18 [true,true,true,true,true] 158 (ZG1 n m) []=
 some (tr [11,4] [A.eq n (-1)],
  AV.bool true,none):=by kernel_rfl
theorem ZCD(A:Ar)(n m:Int):Za9 A tab B1 18 [false,false,false,false,false] 158 (ZG1 n m) []=
 some (tr [6,4,4] [A.inR .i64 (A.sub m 1),!A.eq n (-1)],
  AV.bool (Zab n 0 (A.sub m 1)),none):=by kernel_rfl
def Zwm(ms ks rs:zA)(i:Int):AFrame:=vF 160 9 [vI 0 i,(1,AV.eptr (vM ms ks rs) 0)] [.code a160.code] [.tmp 3]
def ZKx(ms ks rs:zA)(i:Int):List AFrame:=[(Zwm ms ks rs i)]
theorem Zvq(ms ks rs:zA)(i:Int):Zam tab 160 [AV.int .i64 i,AV.eptr (vM ms ks rs) 0]=some (Zwm ms ks rs i):=rfl
theorem ZC7(A:Ar)(ms ks rs:zA)(i:Int):Za9 A tab B1 14 [] 160 (ZKx ms ks rs i) []=
 some (tr [3,4] [Zag (Zag (A.le 0 i) (Nat.blt (A.nat i) (A.lenA ms))) true],
  AV.str (AV.toS (A.nthA ms (A.nat i))),none):=by kernel_rfl
def Zwp(ms ks rs:zA)(i:Int):AFrame:=vF 162 10 [vI 0 i,(1,AV.eptr (vM ms ks rs) 0)] [.code a162.code] [.tmp 3]
def ZIX(ms ks rs:zA)(i:Int):List AFrame:=[(Zwp ms ks rs i)]
theorem ZtN(ms ks rs:zA)(i:Int):Zam tab 162 [AV.int .i64 i,AV.eptr (vM ms ks rs) 0]=some (Zwp ms ks rs i):=rfl
theorem ZEP(A:Ar)(ms ks rs:zA)(i:Int):Za9 A tab B1 16 [] 162 (ZIX ms ks rs i) []=
 some (tr [4,4] [Zag (Zag (A.le 0 i) (Nat.blt (A.nat i) (A.lenA ks))) true],
  AV.str ((A.nthA ks (A.nat i)).cellAt 0).toS,none):=by kernel_rfl
def Zwx(ms ks rs:zA)(i:Int):AFrame:=vF 164 10 [vI 0 i,(1,AV.eptr (vM ms ks rs) 0)] [.code a164.code] [.tmp 3]
def ZIh(ms ks rs:zA)(i:Int):List AFrame:=[(Zwx ms ks rs i)]
theorem Zvk(ms ks rs:zA)(i:Int):Zam tab 164 [AV.int .i64 i,AV.eptr (vM ms ks rs) 0]=some (Zwx ms ks rs i):=rfl
theorem ZB9(A:Ar)(ms ks rs:zA)(i:Int):Za9 A tab B1 16 [] 164 (ZIh ms ks rs i) []=
 some (tr [4,4] [Zag (Zag (A.le 0 i) (Nat.blt (A.nat i) (A.lenA rs))) true],
  AV.str ((A.nthA rs (A.nat i)).cellAt 0).toS,none):=by kernel_rfl
def ZFv(xs:zA):AFrame:=vF 75 6 [(0,AV.list (Row.big .str xs))] [.code a75.code] [.tmp 2]
def ZNf(xs:zA):List AFrame:=[(ZFv xs)]
theorem ZxT(xs:zA):Zam tab 75 [AV.list (Row.big .str xs)]=some (ZFv xs):=rfl
theorem ZIK(A:Ar)(xs:zA):Za9 A tab B1 12 [] 75 (ZNf xs) []=
 some (tr [2,3] [Nat.ble (A.lenA xs) 4294967296],
  AV.list (Row.big .str xs),none):=by kernel_rfl
end Go.Proofs.YtkeoeooghhjibaaGreatDoor
namespace Go.Proofs.YtkeoeooghhjibaaGreatDoor
def Zjf(n m:Int):Bool:=if n= -1 then true else Zab n 0 (m-1)
def Zbi(ms:zA)(i:Int):List UInt8:=(ms.getD i.toNat .top).toS
def ZaA(ks:zA)(i:Int):List UInt8:=((ks.getD i.toNat .top).cellAt 0).toS
theorem ZtI(n m:Int)(h: -1000000≤m∧m≤1000000):Zan Tryz.prog 158 [.int .i64 n, .int .i64 m] (.bool (Zjf n m)) none:=
 start (Zuh n m) fun C hC=>by
  by_cases h1:n= -1
  ·exact fin hC ZnT (ZFs std n m) (by simp[h1]) (by simp[Zjf,h1]) rfl
  ·exact fin hC ZnT (ZCD std n m) (by simp[h1];omega) (by simp[Zjf,h1]) rfl
theorem Zq4(ms ks rs:zA)(i:Int)(h:0≤i∧i<ms.length):Zan Tryz.prog 160 [.int .i64 i, .eptr (vM ms ks rs) 0] (.str (Zbi ms i)) none:=
 start (Zvq ms ks rs i) fun C hC=>fin hC ZnT (ZC7 std ms ks rs i) (by simp;omega) rfl rfl
theorem ZrC(ms ks rs:zA)(i:Int)(h:0≤i∧i<ks.length):Zan Tryz.prog 162 [.int .i64 i, .eptr (vM ms ks rs) 0] (.str (ZaA ks i)) none:=
 start (ZtN ms ks rs i) fun C hC=>fin hC ZnT (ZEP std ms ks rs i) (by simp;omega) rfl rfl
theorem Zsv(ms ks rs:zA)(i:Int)(h:0≤i∧i<rs.length):Zan Tryz.prog 164 [.int .i64 i, .eptr (vM ms ks rs) 0] (.str (ZaA rs i)) none:=
 start (Zvk ms ks rs i) fun C hC=>fin hC ZnT (ZB9 std ms ks rs i) (by simp;omega) rfl rfl
theorem Zs1(xs:zA)(h:xs.length≤1000000):Zan Tryz.prog 75 [.list (.big .str xs)] (.list (.big .str xs)) none:=
 start (ZxT xs) fun C hC=>fin hC ZnT (ZIK std xs) (by simp;omega) rfl rfl
def k158:Ctr:=⟨158,0,fun _ a=>match a with |[.int .i64 n, .int .i64 m]=>some (decide (-1000000≤m∧m≤1000000), .bool (Zjf n m),none) |_=>none⟩
theorem ZAF:k158.OK Tryz.prog:=fun pa args r fr h=>by
 simp only[k158]at h
 split at h
 ·simp only[zS,zP,decide_eq_true_eq]at h
  obtain⟨h0,rfl,rfl⟩:=h
  exact ZtI _ _ h0
 ·cases h
def k160:Ctr:=⟨160,0,fun _ a=>match a with |[.int .i64 i, .eptr (.agg (.gen [.list (.big .str ms), .list (.big (.agg [.str, .int .i64]) ks), .list (.big (.agg [.str, .int .i64, .int .i64, .int .i64, .int .i64]) rs)])) 0]=>some (decide (0≤i∧i<ms.length), .str (Zbi ms i),none) |_=>none⟩
theorem Zx9:k160.OK Tryz.prog:=fun pa args r fr h=>by
 simp only[k160]at h
 split at h
 ·simp only[zS,zP,decide_eq_true_eq]at h
  obtain⟨h0,rfl,rfl⟩:=h
  exact Zq4 _ _ _ _ h0
 ·cases h
def k162:Ctr:=⟨162,0,fun _ a=>match a with |[.int .i64 i, .eptr (.agg (.gen [.list (.big .str ms), .list (.big (.agg [.str, .int .i64]) ks), .list (.big (.agg [.str, .int .i64, .int .i64, .int .i64, .int .i64]) rs)])) 0]=>some (decide (0≤i∧i<ks.length), .str (ZaA ks i),none) |_=>none⟩
theorem ZzO:k162.OK Tryz.prog:=fun pa args r fr h=>by
 simp only[k162]at h
 split at h
 ·simp only[zS,zP,decide_eq_true_eq]at h
  obtain⟨h0,rfl,rfl⟩:=h
  exact ZrC _ _ _ _ h0
 ·cases h
def k164:Ctr:=⟨164,0,fun _ a=>match a with |[.int .i64 i, .eptr (.agg (.gen [.list (.big .str ms), .list (.big (.agg [.str, .int .i64]) ks), .list (.big (.agg [.str, .int .i64, .int .i64, .int .i64, .int .i64]) rs)])) 0]=>some (decide (0≤i∧i<rs.length), .str (ZaA rs i),none) |_=>none⟩
theorem Zx6:k164.OK Tryz.prog:=fun pa args r fr h=>by
 simp only[k164]at h
 split at h
 ·simp only[zS,zP,decide_eq_true_eq]at h
  obtain⟨h0,rfl,rfl⟩:=h
  exact Zsv _ _ _ _ h0
 ·cases h
def k75:Ctr:=⟨75,0,fun _ a=>match a with |[.list (.big .str xs)]=>some (decide (xs.length≤1000000), .list (.big .str xs),none) |_=>none⟩
theorem ZGP:k75.OK Tryz.prog:=fun pa args r fr h=>by
 simp only[k75]at h
 split at h
 ·simp only[zS,zP,decide_eq_true_eq]at h
  obtain⟨h0,rfl,rfl⟩:=h
  exact Zs1 _ h0
 ·cases h
def B2:List Ctr:=[k158,k160,k162,k164,k75]++B1
theorem Zjm:ZaF Tryz.prog B2:=⟨ZAF,⟨Zx9,⟨ZzO,⟨Zx6,⟨ZGP,ZnT⟩⟩⟩⟩⟩
end Go.Proofs.YtkeoeooghhjibaaGreatDoor
namespace Go.Proofs.YtkeoeooghhjibaaGreatDoor
set_option maxRecDepth 100000
set_option linter.unusedVariables false
def ZwN(ms ks rs:zA)(i k:Int):AFrame:=vF 163 16 [vI 0 i,(1,AV.eptr (AV.fn 158 []) 0),(2,AV.eptr (vM ms ks rs) 0),(3,AV.eptr (vi k) 0)] [.code a163.code] [.tmp 5]
def ZI5(ms ks rs:zA)(i k:Int):List AFrame:=[(ZwN ms ks rs i k)]
theorem ZtQ(ms ks rs:zA)(i k:Int):Zam tab 163 [AV.int .i64 i,AV.eptr (AV.fn 158 []) 0,AV.eptr (vM ms ks rs) 0,AV.eptr (AV.int .i64 k) 0]=some (ZwN ms ks rs i k):=rfl
theorem ZGq(A:Ar)(ms ks rs:zA)(i k:Int):Za9 A tab B2 8 [] 163 (ZI5 ms ks rs i k) []=
 some (tr [3,3,5] [decide (-1000000≤k∧k≤1000000),Zag (Zag (A.le 0 i) (Nat.blt (A.nat i) (A.lenA ks))) true],
  AV.int .i64 (Zaa (Zjf ((A.nthA ks (A.nat i)).cellAt 1).toI k) 6),none):=by kernel_rfl
def ZwH(ms ks rs:zA)(i n m:Int):AFrame:=vF 165 48 [vI 0 i,(1,AV.eptr (vM ms ks rs) 0),(2,AV.eptr (vi n) 0),(3,AV.eptr (AV.fn 158 []) 0),(4,AV.eptr (vi m) 0)] [.code a165.code] [.tmp 6]
def Zp8(ms ks rs:zA)(i n m:Int):List AFrame:=[(ZwH ms ks rs i n m)]
theorem Zuu(ms ks rs:zA)(i n m:Int):Zam tab 165 [AV.int .i64 i,AV.eptr (vM ms ks rs) 0,AV.eptr (AV.int .i64 n) 0,AV.eptr (AV.fn 158 []) 0,AV.eptr (AV.int .i64 m) 0]=some (ZwH ms ks rs i n m):=rfl
theorem ZFJ(A:Ar)(ms ks rs:zA)(i n m:Int):Za9 A tab B2 18 [true,true,true] 165 (Zp8 ms ks rs i n m) []=
 some (tr [2,0,5,10,4,2,4,2,6,4] [decide (List.length [Zaa (Zjf ((A.nthA rs (A.nat i)).cellAt 3).toI n) 6,Zaa (Zab ((A.nthA rs (A.nat i)).cellAt 4).toI 1 1000000) 2,0]≤1000000),List.all [AV.int .i64 (Zaa (Zjf ((A.nthA rs (A.nat i)).cellAt 3).toI n) 6),AV.int .i64 (Zaa (Zab ((A.nthA rs (A.nat i)).cellAt 4).toI 1 1000000) 2),AV.int .i64 0] fun x=>AV.bx x&&Nat.beq (Zac A x) 1,A.not (A.eq ((A.nthA rs (A.nat i)).cellAt 3).toI (-1)),decide (-1000000≤n∧n≤1000000),Zjf ((A.nthA rs (A.nat i)).cellAt 2).toI m,decide (-1000000≤m∧m≤1000000),Zab ((A.nthA rs (A.nat i)).cellAt 1).toI 0 (A.sub n 1),A.inR .i64 (A.sub n 1),Zag (Zag (A.le 0 i) (Nat.blt (A.nat i) (A.lenA rs))) true],
  AV.int .i64 (Zae [Zaa (Zjf ((A.nthA rs (A.nat i)).cellAt 3).toI n) 6,Zaa (Zab ((A.nthA rs (A.nat i)).cellAt 4).toI 1 1000000) 2,0]),none):=by kernel_rfl
theorem ZEE(A:Ar)(ms ks rs:zA)(i n m:Int):Za9 A tab B2 18 [true,true,false] 165 (Zp8 ms ks rs i n m) []=
 some (tr [2,0,5,10,4,2,4,2,6,4] [decide (List.length [Zaa (Zjf ((A.nthA rs (A.nat i)).cellAt 3).toI n) 6,Zaa (Zab ((A.nthA rs (A.nat i)).cellAt 4).toI 1 1000000) 2,Zaa (A.eq ((A.nthA rs (A.nat i)).cellAt 4).toI 1) 3]≤1000000),List.all [AV.int .i64 (Zaa (Zjf ((A.nthA rs (A.nat i)).cellAt 3).toI n) 6),AV.int .i64 (Zaa (Zab ((A.nthA rs (A.nat i)).cellAt 4).toI 1 1000000) 2),AV.int .i64 (Zaa (A.eq ((A.nthA rs (A.nat i)).cellAt 4).toI 1) 3)] fun x=>AV.bx x&&Nat.beq (Zac A x) 1,!A.not (A.eq ((A.nthA rs (A.nat i)).cellAt 3).toI (-1)),decide (-1000000≤n∧n≤1000000),Zjf ((A.nthA rs (A.nat i)).cellAt 2).toI m,decide (-1000000≤m∧m≤1000000),Zab ((A.nthA rs (A.nat i)).cellAt 1).toI 0 (A.sub n 1),A.inR .i64 (A.sub n 1),Zag (Zag (A.le 0 i) (Nat.blt (A.nat i) (A.lenA rs))) true],
  AV.int .i64 (Zae [Zaa (Zjf ((A.nthA rs (A.nat i)).cellAt 3).toI n) 6,Zaa (Zab ((A.nthA rs (A.nat i)).cellAt 4).toI 1 1000000) 2,Zaa (A.eq ((A.nthA rs (A.nat i)).cellAt 4).toI 1) 3]),none):=by kernel_rfl
theorem ZFg(A:Ar)(ms ks rs:zA)(i n m:Int):Za9 A tab B2 18 [true,false,true] 165 (Zp8 ms ks rs i n m) []=
 some (tr [2,0,5,15,2,4,2,6,4] [decide (List.length [6,Zaa (Zab ((A.nthA rs (A.nat i)).cellAt 4).toI 1 1000000) 2,0]≤1000000),List.all [AV.int .i64 6,AV.int .i64 (Zaa (Zab ((A.nthA rs (A.nat i)).cellAt 4).toI 1 1000000) 2),AV.int .i64 0] fun x=>AV.bx x&&Nat.beq (Zac A x) 1,A.not (A.eq ((A.nthA rs (A.nat i)).cellAt 3).toI (-1)),!Zjf ((A.nthA rs (A.nat i)).cellAt 2).toI m,decide (-1000000≤m∧m≤1000000),Zab ((A.nthA rs (A.nat i)).cellAt 1).toI 0 (A.sub n 1),A.inR .i64 (A.sub n 1),Zag (Zag (A.le 0 i) (Nat.blt (A.nat i) (A.lenA rs))) true],
  AV.int .i64 (Zae [6,Zaa (Zab ((A.nthA rs (A.nat i)).cellAt 4).toI 1 1000000) 2,0]),none):=by kernel_rfl
theorem ZFm(A:Ar)(ms ks rs:zA)(i n m:Int):Za9 A tab B2 18 [true,false,false] 165 (Zp8 ms ks rs i n m) []=
 some (tr [2,0,5,15,2,4,2,6,4] [decide (List.length [6,Zaa (Zab ((A.nthA rs (A.nat i)).cellAt 4).toI 1 1000000) 2,Zaa (A.eq ((A.nthA rs (A.nat i)).cellAt 4).toI 1) 3]≤1000000),List.all [AV.int .i64 6,AV.int .i64 (Zaa (Zab ((A.nthA rs (A.nat i)).cellAt 4).toI 1 1000000) 2),AV.int .i64 (Zaa (A.eq ((A.nthA rs (A.nat i)).cellAt 4).toI 1) 3)] fun x=>AV.bx x&&Nat.beq (Zac A x) 1,!A.not (A.eq ((A.nthA rs (A.nat i)).cellAt 3).toI (-1)),!Zjf ((A.nthA rs (A.nat i)).cellAt 2).toI m,decide (-1000000≤m∧m≤1000000),Zab ((A.nthA rs (A.nat i)).cellAt 1).toI 0 (A.sub n 1),A.inR .i64 (A.sub n 1),Zag (Zag (A.le 0 i) (Nat.blt (A.nat i) (A.lenA rs))) true],
  AV.int .i64 (Zae [6,Zaa (Zab ((A.nthA rs (A.nat i)).cellAt 4).toI 1 1000000) 2,Zaa (A.eq ((A.nthA rs (A.nat i)).cellAt 4).toI 1) 3]),none):=by kernel_rfl
theorem ZGX(A:Ar)(ms ks rs:zA)(i n m:Int):Za9 A tab B2 18 [false,false,true] 165 (Zp8 ms ks rs i n m) []=
 some (tr [2,0,5,23,2,6,4] [decide (List.length [6,Zaa (Zab ((A.nthA rs (A.nat i)).cellAt 4).toI 1 1000000) 2,0]≤1000000),List.all [AV.int .i64 6,AV.int .i64 (Zaa (Zab ((A.nthA rs (A.nat i)).cellAt 4).toI 1 1000000) 2),AV.int .i64 0] fun x=>AV.bx x&&Nat.beq (Zac A x) 1,A.not (A.eq ((A.nthA rs (A.nat i)).cellAt 3).toI (-1)),!Zab ((A.nthA rs (A.nat i)).cellAt 1).toI 0 (A.sub n 1),A.inR .i64 (A.sub n 1),Zag (Zag (A.le 0 i) (Nat.blt (A.nat i) (A.lenA rs))) true],
  AV.int .i64 (Zae [6,Zaa (Zab ((A.nthA rs (A.nat i)).cellAt 4).toI 1 1000000) 2,0]),none):=by kernel_rfl
theorem ZCm(A:Ar)(ms ks rs:zA)(i n m:Int):Za9 A tab B2 18 [false,false,false] 165 (Zp8 ms ks rs i n m) []=
 some (tr [2,0,5,23,2,6,4] [decide (List.length [6,Zaa (Zab ((A.nthA rs (A.nat i)).cellAt 4).toI 1 1000000) 2,Zaa (A.eq ((A.nthA rs (A.nat i)).cellAt 4).toI 1) 3]≤1000000),List.all [AV.int .i64 6,AV.int .i64 (Zaa (Zab ((A.nthA rs (A.nat i)).cellAt 4).toI 1 1000000) 2),AV.int .i64 (Zaa (A.eq ((A.nthA rs (A.nat i)).cellAt 4).toI 1) 3)] fun x=>AV.bx x&&Nat.beq (Zac A x) 1,!A.not (A.eq ((A.nthA rs (A.nat i)).cellAt 3).toI (-1)),!Zab ((A.nthA rs (A.nat i)).cellAt 1).toI 0 (A.sub n 1),A.inR .i64 (A.sub n 1),Zag (Zag (A.le 0 i) (Nat.blt (A.nat i) (A.lenA rs))) true],
  AV.int .i64 (Zae [6,Zaa (Zab ((A.nthA rs (A.nat i)).cellAt 4).toI 1 1000000) 2,Zaa (A.eq ((A.nthA rs (A.nat i)).cellAt 4).toI 1) 3]),none):=by kernel_rfl
def ZEp(ms ks rs:zA):AFrame:=vF 25 15 [(0,vM ms ks rs)] [.code a25.code] [ARes.cell 2 true 3]
def ZN5(ms ks rs:zA):List AFrame:=[(ZEp ms ks rs)]
theorem ZyF(ms ks rs:zA):Zam tab 25 [vM ms ks rs]=some (ZEp ms ks rs):=rfl
theorem ZJk(A:Ar)(ms ks rs:zA):Za9 A tab B2 9 [] 25 (ZN5 ms ks rs) []=
 some (tr [3,3,3,4] [Nat.ble (A.lenA rs) 4294967296,Nat.ble (A.lenA ks) 4294967296,decide (List.length ms≤1000000)],
  (vM ms ks rs),none):=by kernel_rfl
def ZCF(l:zA):AFrame:=vF 26 6 [(0,vl vsA l)] [.code a26.code] [.tmp 2]
def ZMM(l:zA):List AFrame:=[(ZCF l)]
theorem Zxt(l:zA):Zam tab 26 [AV.list (Row.big (.agg [.int .i64, .int .i64, .int .i64]) l)]=some (ZCF l):=rfl
theorem ZJY(A:Ar)(l:zA):Za9 A tab B2 12 [] 26 (ZMM l) []=
 some (tr [2,3] [Nat.ble (A.lenA l) 4294967296],
  AV.list (Row.big (.agg [.int .i64, .int .i64, .int .i64]) l),none):=by kernel_rfl
end Go.Proofs.YtkeoeooghhjibaaGreatDoor
namespace Go.Proofs.YtkeoeooghhjibaaGreatDoor
def Zaj(xs:zA)(i:Int)(j:Nat):Int:=((xs.getD i.toNat .top).cellAt j).toI
def Zda(ks:zA)(i k:Int):Int:=Zaa (Zjf (Zaj ks i 1) k) 6
def Zcb(rs:zA)(i n m:Int):Int:=Zae [Zaa (Zab (Zaj rs i 1) 0 (n-1)&&Zjf (Zaj rs i 2) m&&Zjf (Zaj rs i 3) n) 6,Zaa (Zab (Zaj rs i 4) 1 1000000) 2,Zaa (decide (Zaj rs i 3≠ -1∨Zaj rs i 4=1)) 3]
theorem Zs6(ms ks rs:zA)(i k:Int)(h:(0≤i∧i<ks.length)∧ -1000000≤k∧k≤1000000):Zan Tryz.prog 163 [.int .i64 i, .eptr (.fn 158 []) 0, .eptr (vM ms ks rs) 0, .eptr (.int .i64 k) 0] (.int .i64 (Zda ks i k)) none:=
 start (ZtQ ms ks rs i k) fun C hC=>fin hC Zjm (ZGq std ms ks rs i k) (by simp;omega) rfl rfl
theorem Zst(ms ks rs:zA)(i n m:Int)(h:(0≤i∧i<rs.length)∧(-1000000≤n∧n≤1000000)∧ -1000000≤m∧m≤1000000):Zan Tryz.prog 165 [.int .i64 i, .eptr (vM ms ks rs) 0, .eptr (.int .i64 n) 0, .eptr (.fn 158 []) 0, .eptr (.int .i64 m) 0] (.int .i64 (Zcb rs i n m)) none:=
 start (Zuu ms ks rs i n m) fun C hC=>by
  have hb:∀x y z:Int,([AV.int .i64 x,AV.int .i64 y,AV.int .i64 z].all fun x=>AV.bx x&&Nat.beq (Zac std x) 1)=true:=fun _ _ _=>rfl
  have e1:((rs.getD i.toNat .top).cellAt 1).toI=Zaj rs i 1:=rfl
  have e2:((rs.getD i.toNat .top).cellAt 2).toI=Zaj rs i 2:=rfl
  have e3:((rs.getD i.toNat .top).cellAt 3).toI=Zaj rs i 3:=rfl
  have e4:((rs.getD i.toNat .top).cellAt 4).toI=Zaj rs i 4:=rfl
  have hi:i.toNat<rs.length:=by omega
  by_cases h1:Zab (Zaj rs i 1) 0 (n-1)=true
  ·by_cases h2:Zjf (Zaj rs i 2) m=true
   ·by_cases h3:Zaj rs i 3= -1
    ·exact fin hC Zjm (ZEE std ms ks rs i n m) (by simp only[hb];simp[-List.getD_eq_getElem?_getD,e1,e2,e3,e4,h1,h2,h3];omega) (by simp[-List.getD_eq_getElem?_getD,Zcb,e1,e2,e3,e4,h1,h2,h3]) rfl
    ·exact fin hC Zjm (ZFJ std ms ks rs i n m) (by simp only[hb];simp[-List.getD_eq_getElem?_getD,e1,e2,e3,e4,h1,h2,h3];omega) (by simp[-List.getD_eq_getElem?_getD,Zcb,e1,e2,e3,e4,h1,h2,h3,Zaa]) rfl
   ·by_cases h3:Zaj rs i 3= -1
    ·exact fin hC Zjm (ZFm std ms ks rs i n m) (by simp only[hb];simp[-List.getD_eq_getElem?_getD,e1,e2,e3,e4,h1,h2,h3];omega) (by simp[-List.getD_eq_getElem?_getD,Zcb,e1,e2,e3,e4,h1,h2,h3,Zaa]) rfl
    ·exact fin hC Zjm (ZFg std ms ks rs i n m) (by simp only[hb];simp[-List.getD_eq_getElem?_getD,e1,e2,e3,e4,h1,h2,h3];omega) (by simp[-List.getD_eq_getElem?_getD,Zcb,e1,e2,e3,e4,h1,h2,h3,Zaa]) rfl
  ·by_cases h3:Zaj rs i 3= -1
   ·exact fin hC Zjm (ZCm std ms ks rs i n m) (by simp only[hb];simp[-List.getD_eq_getElem?_getD,e1,e2,e3,e4,h1,h3];omega) (by simp[-List.getD_eq_getElem?_getD,Zcb,e1,e2,e3,e4,h1,h3,Zaa]) rfl
   ·exact fin hC Zjm (ZGX std ms ks rs i n m) (by simp only[hb];simp[-List.getD_eq_getElem?_getD,e1,e2,e3,e4,h1,h3];omega) (by simp[-List.getD_eq_getElem?_getD,Zcb,e1,e2,e3,e4,h1,h3,Zaa]) rfl
theorem Zvf(ms ks rs:zA)(h:ms.length≤1000000∧ks.length≤1000000∧rs.length≤1000000):Zan Tryz.prog 25 [vM ms ks rs] (vM ms ks rs) none:=
 start (ZyF ms ks rs) fun C hC=>fin hC Zjm (ZJk std ms ks rs) (by simp;omega) rfl rfl
theorem ZsH(l:zA)(h:l.length≤1000000):Zan Tryz.prog 26 [.list (.big (.agg [.int .i64, .int .i64, .int .i64]) l)] (.list (.big (.agg [.int .i64, .int .i64, .int .i64]) l)) none:=
 start (Zxt l) fun C hC=>fin hC Zjm (ZJY std l) (by simp;omega) rfl rfl
def k163:Ctr:=⟨163,0,fun _ a=>match a with |[.int .i64 i, .eptr (.fn 158 []) 0, .eptr (.agg (.gen [.list (.big .str ms), .list (.big (.agg [.str, .int .i64]) ks), .list (.big (.agg [.str, .int .i64, .int .i64, .int .i64, .int .i64]) rs)])) 0, .eptr (.int .i64 k) 0]=>some (decide ((0≤i∧i<ks.length)∧ -1000000≤k∧k≤1000000), .int .i64 (Zda ks i k),none) |_=>none⟩
theorem ZyA:k163.OK Tryz.prog:=fun pa args r fr h=>by
 simp only[k163]at h
 split at h
 ·simp only[zS,zP,decide_eq_true_eq]at h
  obtain⟨h0,rfl,rfl⟩:=h
  exact Zs6 _ _ _ _ _ h0
 ·cases h
def k165:Ctr:=⟨165,0,fun _ a=>match a with |[.int .i64 i, .eptr (.agg (.gen [.list (.big .str ms), .list (.big (.agg [.str, .int .i64]) ks), .list (.big (.agg [.str, .int .i64, .int .i64, .int .i64, .int .i64]) rs)])) 0, .eptr (.int .i64 n) 0, .eptr (.fn 158 []) 0, .eptr (.int .i64 m) 0]=>some (decide ((0≤i∧i<rs.length)∧(-1000000≤n∧n≤1000000)∧ -1000000≤m∧m≤1000000), .int .i64 (Zcb rs i n m),none) |_=>none⟩
theorem ZxO:k165.OK Tryz.prog:=fun pa args r fr h=>by
 simp only[k165]at h
 split at h
 ·simp only[zS,zP,decide_eq_true_eq]at h
  obtain⟨h0,rfl,rfl⟩:=h
  exact Zst _ _ _ _ _ _ h0
 ·cases h
def k25:Ctr:=⟨25,0,fun _ a=>match a with |[.agg (.gen [.list (.big .str ms), .list (.big (.agg [.str, .int .i64]) ks), .list (.big (.agg [.str, .int .i64, .int .i64, .int .i64, .int .i64]) rs)])]=>some (decide (ms.length≤1000000∧ks.length≤1000000∧rs.length≤1000000), (vM ms ks rs),none) |_=>none⟩
theorem ZEt:k25.OK Tryz.prog:=fun pa args r fr h=>by
 simp only[k25]at h
 split at h
 ·simp only[zS,zP,decide_eq_true_eq]at h
  obtain⟨h0,rfl,rfl⟩:=h
  exact Zvf _ _ _ h0
 ·cases h
def k26:Ctr:=⟨26,0,fun _ a=>match a with |[.list (.big (.agg [.int .i64, .int .i64, .int .i64]) l)]=>some (decide (l.length≤1000000), .list (.big (.agg [.int .i64, .int .i64, .int .i64]) l),none) |_=>none⟩
theorem ZBR:k26.OK Tryz.prog:=fun pa args r fr h=>by
 simp only[k26]at h
 split at h
 ·simp only[zS,zP,decide_eq_true_eq]at h
  obtain⟨h0,rfl,rfl⟩:=h
  exact ZsH _ h0
 ·cases h
def B3:List Ctr:=[k163,k165,k25,k26]++B2
theorem Zbl:ZaF Tryz.prog B3:=⟨ZyA,⟨ZxO,⟨ZEt,⟨ZBR,Zjm⟩⟩⟩⟩
end Go.Proofs.YtkeoeooghhjibaaGreatDoor
namespace Go.Proofs.YtkeoeooghhjibaaGreatDoor
set_option maxRecDepth 100000
set_option linter.unusedVariables false
def ZrR(s:List UInt8):AFrame:=vF 151 18 [(0,AV.nils),(1,AV.str s)] [.code a151.code] [.tmp 4]
def ZDM(s:List UInt8):List AFrame:=[(ZrR s)]
theorem ZrL(s:List UInt8):Zam tab 151 [AV.nils,AV.str s]=some (ZrR s):=rfl
def Zg8(s:List UInt8):List AFrame:=[vF 151 18 [(0,AV.nils),(1,AV.str s),vI 5 0] (vC Zss Zwh) [.tmp 4]]
def Zft(s:List UInt8):Zad:=[]
abbrev Zlk(s:List UInt8):List AFrame×Zad:=(Zg8 s,Zft s)
theorem Zzq(A:Ar)(s:List UInt8):ZaD A tab B3 12 [] (ZDM s) []=
 some (tr [2] [],
  Zlk (s)):=by kernel_rfl
theorem ZBh(A:Ar)(s:List UInt8):Za9 A tab B3 16 [false] 151 (Zg8 s) (Zft s)=
 some (tr [2,4] [!A.lt 0 (A.int 0)],
  AV.bool false,none):=by kernel_rfl
end Go.Proofs.YtkeoeooghhjibaaGreatDoor
