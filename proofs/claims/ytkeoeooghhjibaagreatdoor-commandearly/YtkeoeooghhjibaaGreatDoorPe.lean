/- The cells of chapter 08's types, as they are read; the start that the door's own run leaves. No condition. -/
import Derived.Test.YtkeoeooghhjibaaGreatDoorW4
import Derived.LaidMore
import Derived.Stop.Joined
import Derived.KernelRfl
namespace Go.Proofs.YtkeoeooghhjibaaGreatDoor
open Go.ChangeShapes Go.WideShapes
theorem Zp3{us:List AV}(h:Cfs [.big .str, .big (.agg [.str, .int .i64]), .big (.agg [.str, .int .i64, .int .i64, .int .i64, .int .i64]), .big (.agg [.int .i64, .int .i64, .int .i64]), .int .i64, .int .i64] us):∃ms ks rs l wn fl,us=[.list (.big .str ms), .list (.big (.agg [.str, .int .i64]) ks), .list (.big (.agg [.str, .int .i64, .int .i64, .int .i64, .int .i64]) rs), .list (.big (.agg [.int .i64, .int .i64, .int .i64]) l), .int .i64 wn, .int .i64 fl]:=by
 obtain⟨u0,r,rfl,h0,h⟩:=ZdZ h
 obtain⟨u1,r,rfl,h1,h⟩:=ZdZ h
 obtain⟨u2,r,rfl,h2,h⟩:=ZdZ h
 obtain⟨u3,r,rfl,h3,h⟩:=ZdZ h
 obtain⟨u4,r,rfl,h4,h⟩:=ZdZ h
 obtain⟨u5,r,rfl,h5,h⟩:=ZdZ h
 obtain rfl:=Zue h
 obtain⟨x0,rfl⟩:=Zks h0
 obtain⟨x1,rfl⟩:=Zks h1
 obtain⟨x2,rfl⟩:=Zks h2
 obtain⟨x3,rfl⟩:=Zks h3
 obtain⟨x4,rfl,_⟩:=Zs8 h4
 obtain⟨x5,rfl,_⟩:=Zs8 h5
 exact⟨x0,x1,x2,x3,x4,x5,rfl⟩
end Go.Proofs.YtkeoeooghhjibaaGreatDoor
/- Paths of functions, printed by the explorer (Gx). No condition. -/
namespace Go.Proofs.YtkeoeooghhjibaaGreatDoor
set_option maxRecDepth 100000
set_option linter.unusedVariables false
def ZBZ(n a b:Int):AFrame:={ fn:=41,N:=15,env:=[(0,AV.int .i64 n),(1,AV.int .i64 a),(2,AV.int .i64 b)],todo:=[.code a41.code],defs:=[],rnd:=none,ret:=false,res:=[ARes.tmp 6] }
def ZFw(n a b:Int):List AFrame:=[(ZBZ n a b)]
theorem Zv1(n a b:Int):Zat tab 41 [AV.int .i64 n,AV.int .i64 a,AV.int .i64 b]=some (ZBZ n a b):=rfl
theorem ZC2(A:Ar)(n a b:Int):Za1 A tab E0 18 [true,true,true,true] 41 (ZFw n a b) []=
 some (tr [9,5] [A.le a n],
  AV.bool (A.le n b),none):=by kernel_rfl
theorem ZC0(A:Ar)(n a b:Int):Za1 A tab E0 18 [false,false,false,false] 41 (ZFw n a b) []=
 some (tr [9,5] [!A.le a n],
  AV.bool false,none):=by kernel_rfl
def ZAk(n a b:Int):AFrame:={ fn:=82,N:=15,env:=[(0,AV.int .i64 n),(1,AV.int .i64 a),(2,AV.int .i64 b)],todo:=[.code a82.code],defs:=[],rnd:=none,ret:=false,res:=[ARes.tmp 6] }
def ZFJ(n a b:Int):List AFrame:=[(ZAk n a b)]
theorem Zwv(n a b:Int):Zat tab 82 [AV.int .i64 n,AV.int .i64 a,AV.int .i64 b]=some (ZAk n a b):=rfl
theorem ZEW(A:Ar)(n a b:Int):Za1 A tab E0 18 [true,true,true,true] 82 (ZFJ n a b) []=
 some (tr [9,5] [A.le a n],
  AV.bool (A.le n b),none):=by kernel_rfl
theorem ZEY(A:Ar)(n a b:Int):Za1 A tab E0 18 [false,false,false,false] 82 (ZFJ n a b) []=
 some (tr [9,5] [!A.le a n],
  AV.bool false,none):=by kernel_rfl
def Zyn(b:Bool)(e:Int):AFrame:={ fn:=68,N:=7,env:=[(0,AV.bool b),(1,AV.int .i64 e)],todo:=[.code a68.code],defs:=[],rnd:=none,ret:=false,res:=[ARes.tmp 4] }
def ZGx(b:Bool)(e:Int):List AFrame:=[(Zyn b e)]
theorem Zun(b:Bool)(e:Int):Zat tab 68 [AV.bool b,AV.int .i64 e]=some (Zyn b e):=rfl
theorem Zz5(A:Ar)(b:Bool)(e:Int):Za1 A tab E0 15 [true] 68 (ZGx b e) []=
 some (tr [2,2] [b],
  AV.int .i64 0,none):=by kernel_rfl
theorem ZAN(A:Ar)(b:Bool)(e:Int):Za1 A tab E0 17 [false] 68 (ZGx b e) []=
 some (tr [3,2] [!b],
  AV.int .i64 e,none):=by kernel_rfl
def Zzv(xs:List Int):AFrame:={ fn:=67,N:=15,env:=[(0,AV.list (.ints .i64 xs))],todo:=[.code a67.code],defs:=[],rnd:=none,ret:=false,res:=[ARes.tmp 2] }
def ZIG(xs:List Int):List AFrame:=[(Zzv xs)]
theorem ZvK(xs:List Int):Zat tab 67 [AV.list (.ints .i64 xs)]=some (Zzv xs):=rfl
def Zdx(xs:List Int)(n0 n1:Int):List AFrame:=[{ fn:=67,N:=15,env:=[(5,AV.list (.ints .i64 xs)),(6,AV.int .i64 n0),(7,AV.int .i64 n1)],todo:=.code (ACode.gh [] Zx9)::ZCU,defs:=[],rnd:=none,ret:=false,res:=[ARes.tmp 2] }]
def ZcM(xs:List Int)(n0 n1:Int):Zac:=[]
abbrev ZhV(xs:List Int)(n0 n1:Int):List AFrame×Zac:=(Zdx xs n0 n1,ZcM xs n0 n1)
theorem ZCZ(A:Ar)(xs:List Int):ZaB A tab E0 14 [] (ZIG xs) []=
 some (tr [4] [],
  ZhV (xs) (A.int (A.len xs)) (0)):=by kernel_rfl
theorem ZDe(A:Ar)(xs:List Int)(n0 n1:Int):Za1 A tab E0 28 [true,true] 67 (Zdx xs n0 n1) (ZcM xs n0 n1)=
 some (tr [3,4,0,1] [A.not (A.eq (A.nth xs (A.nat n1)) 0),Zah (Zah (A.le 0 n1) (Nat.blt (A.nat n1) (A.len xs))) true,A.lt n1 n0],
  AV.int .i64 (A.nth xs (A.nat n1)),none):=by kernel_rfl
theorem ZDk(A:Ar)(xs:List Int)(n0 n1:Int):ZaB A tab E0 30 [true,false] (Zdx xs n0 n1) (ZcM xs n0 n1)=
 some (tr [1,0,4,0,1] [A.inR .i64 (A.add n1 1),!A.not (A.eq (A.nth xs (A.nat n1)) 0),Zah (Zah (A.le 0 n1) (Nat.blt (A.nat n1) (A.len xs))) true,A.lt n1 n0],
  ZhV (xs) (n0) (A.add n1 1)):=by kernel_rfl
theorem ZDC(A:Ar)(xs:List Int)(n0 n1:Int):Za1 A tab E0 13 [false] 67 (Zdx xs n0 n1) (ZcM xs n0 n1)=
 some (tr [2,1] [!A.lt n1 n0],
  AV.int .i64 0,none):=by kernel_rfl
def Zta(xs:List AV)(s:List UInt8):AFrame:={ fn:=151,N:=18,env:=[(0,AV.list (Row.big .str xs)),(1,AV.str s)],todo:=[.code a151.code],defs:=[],rnd:=none,ret:=false,res:=[ARes.tmp 4] }
def ZDS(xs:List AV)(s:List UInt8):List AFrame:=[(Zta xs s)]
theorem ZqB(xs:List AV)(s:List UInt8):Zat tab 151 [AV.list (Row.big .str xs),AV.str s]=some (Zta xs s):=rfl
def Zcj(xs:List AV)(s:List UInt8)(n0:Int):List AFrame:=[{ fn:=151,N:=18,env:=[(0,AV.list (Row.big .str xs)),(1,AV.str s),(5,AV.int .i64 n0)],todo:=.code (ACode.gh [] Zoo)::Zsx,defs:=[],rnd:=none,ret:=false,res:=[ARes.tmp 4] }]
def ZbO(xs:List AV)(s:List UInt8)(n0:Int):Zac:=[]
abbrev ZfM(xs:List AV)(s:List UInt8)(n0:Int):List AFrame×Zac:=(Zcj xs s n0,ZbO xs s n0)
theorem Zyi(A:Ar)(xs:List AV)(s:List UInt8):ZaB A tab E0 12 [] (ZDS xs s) []=
 some (tr [2] [],
  ZfM (xs) (s) (0)):=by kernel_rfl
theorem ZAq(A:Ar)(xs:List AV)(s:List UInt8)(n0:Int):Za1 A tab E0 28 [true,true] 151 (Zcj xs s n0) (ZbO xs s n0)=
 some (tr [2,3,2,4] [A.eqS (AV.toS (A.nthA xs (A.nat n0))) s,Zah (Zah (A.le 0 n0) (Nat.blt (A.nat n0) (A.lenA xs))) true,A.lt n0 (A.int (A.lenA xs))],
  AV.bool true,none):=by kernel_rfl
theorem ZBs(A:Ar)(xs:List AV)(s:List UInt8)(n0:Int):ZaB A tab E0 32 [true,false] (Zcj xs s n0) (ZbO xs s n0)=
 some (tr [1,1,3,2,4] [A.inR .i64 (A.add n0 1),!A.eqS (AV.toS (A.nthA xs (A.nat n0))) s,Zah (Zah (A.le 0 n0) (Nat.blt (A.nat n0) (A.lenA xs))) true,A.lt n0 (A.int (A.lenA xs))],
  ZfM (xs) (s) (A.add n0 1)):=by kernel_rfl
theorem ZAY(A:Ar)(xs:List AV)(s:List UInt8)(n0:Int):Za1 A tab E0 16 [false] 151 (Zcj xs s n0) (ZbO xs s n0)=
 some (tr [2,4] [!A.lt n0 (A.int (A.lenA xs))],
  AV.bool false,none):=by kernel_rfl
def Zts(s:List UInt8):AFrame:={ fn:=150,N:=55,env:=[(0,AV.str s)],todo:=[.code a150.code],defs:=[],rnd:=none,ret:=false,res:=[ARes.tmp 2] }
def Zvz(s:List UInt8):List AFrame:=[(Zts s)]
theorem Zsh(s:List UInt8):Zat tab 150 [AV.str s]=some (Zts s):=rfl
def Zaq(s:List UInt8)(n0:Int):List AFrame:=[{ fn:=150,N:=55,env:=[(0,AV.str s),(3,AV.int .i64 n0)],todo:=.code (ACode.gh [] ZsE)::ZAz,defs:=[],rnd:=none,ret:=false,res:=[ARes.tmp 2] }]
def Zam(s:List UInt8)(n0:Int):Zac:=[]
abbrev ZaL(s:List UInt8)(n0:Int):List AFrame×Zac:=(Zaq s n0,Zam s n0)
theorem ZAl(A:Ar)(s:List UInt8):Za1 A tab E0 23 [true,true,true,true,true] 150 (Zvz s) []=
 some (tr [10,5] [A.lt (A.int (A.lenS s)) 1],
  AV.bool false,none):=by kernel_rfl
theorem ZCb(A:Ar)(s:List UInt8):Za1 A tab E0 23 [false,false,false,false,true] 150 (Zvz s) []=
 some (tr [2,7,5] [A.lt 12 (A.int (A.lenS s)),!A.lt (A.int (A.lenS s)) 1],
  AV.bool false,none):=by kernel_rfl
theorem Zz1(A:Ar)(s:List UInt8):ZaB A tab E0 27 [false,false,false,false,false] (Zvz s) []=
 some (tr [1,7,5] [!A.lt 12 (A.int (A.lenS s)),!A.lt (A.int (A.lenS s)) 1],
  ZaL (s) (0)):=by kernel_rfl
theorem Zx1(A:Ar)(s:List UInt8)(n0:Int):ZaB A tab E0 71 [true,true,true,true,true,true,true,true,true,false,false,false,false,false,false] (Zaq s n0) (Zam s n0)=
 some (tr [1,21,15,6,4,2,4] [A.inR .i64 (A.add n0 1),!A.not true,A.le (A.nthS s (A.nat n0)) 122,A.le 97 (A.nthS s (A.nat n0)),Zah (A.le 0 n0) (Nat.blt (A.nat n0) (A.lenS s)),A.lt n0 (A.int (A.lenS s))],
  ZaL (s) (A.add n0 1)):=by kernel_rfl
theorem Zy5(A:Ar)(s:List UInt8)(n0:Int):Za1 A tab E0 67 [true,true,true,true,false,false,false,true,true,false,true,false,true,true,true,true,true,true,true,true,true,true,true] 150 (Zaq s n0) (Zam s n0)=
 some (tr [21,5,12,5,6,4,2,4] [A.eq n0 0,A.not (A.le (A.nthS s (A.nat n0)) 90),A.le 65 (A.nthS s (A.nat n0)),!A.le (A.nthS s (A.nat n0)) 122,A.le 97 (A.nthS s (A.nat n0)),Zah (A.le 0 n0) (Nat.blt (A.nat n0) (A.lenS s)),A.lt n0 (A.int (A.lenS s))],
  AV.bool false,none):=by kernel_rfl
theorem ZAr(A:Ar)(s:List UInt8)(n0:Int):Za1 A tab E0 67 [true,true,true,true,false,false,false,true,true,false,true,false,true,true,true,false,false,false,true,true,true,true,true,true,true,false,true,true,false,true,true] 150 (Zaq s n0) (Zam s n0)=
 some (tr [17,5,5,5,12,5,6,4,2,4] [A.lt (A.nthS s (A.nat n0)) 48,A.not (A.eq (A.nthS s (A.nat n0)) 45),!A.eq n0 0,A.not (A.le (A.nthS s (A.nat n0)) 90),A.le 65 (A.nthS s (A.nat n0)),!A.le (A.nthS s (A.nat n0)) 122,A.le 97 (A.nthS s (A.nat n0)),Zah (A.le 0 n0) (Nat.blt (A.nat n0) (A.lenS s)),A.lt n0 (A.int (A.lenS s))],
  AV.bool false,none):=by kernel_rfl
theorem ZBi(A:Ar)(s:List UInt8)(n0:Int):Za1 A tab E0 67 [true,true,true,true,false,false,false,true,true,false,true,false,true,true,true,false,false,false,true,true,true,false,false,true,false,false,true,true,false,true,true] 150 (Zaq s n0) (Zam s n0)=
 some (tr [2,14,5,5,5,12,5,6,4,2,4] [A.lt 57 (A.nthS s (A.nat n0)),!A.lt (A.nthS s (A.nat n0)) 48,A.not (A.eq (A.nthS s (A.nat n0)) 45),!A.eq n0 0,A.not (A.le (A.nthS s (A.nat n0)) 90),A.le 65 (A.nthS s (A.nat n0)),!A.le (A.nthS s (A.nat n0)) 122,A.le 97 (A.nthS s (A.nat n0)),Zah (A.le 0 n0) (Nat.blt (A.nat n0) (A.lenS s)),A.lt n0 (A.int (A.lenS s))],
  AV.bool false,none):=by kernel_rfl
theorem ZAO(A:Ar)(s:List UInt8)(n0:Int):ZaB A tab E0 71 [true,true,true,true,false,false,false,true,true,false,true,false,true,true,true,false,false,false,true,true,true,false,false,true,false,false,true,true,false,true,false] (Zaq s n0) (Zam s n0)=
 some (tr [1,1,14,5,5,5,12,5,6,4,2,4] [A.inR .i64 (A.add n0 1),!A.lt 57 (A.nthS s (A.nat n0)),!A.lt (A.nthS s (A.nat n0)) 48,A.not (A.eq (A.nthS s (A.nat n0)) 45),!A.eq n0 0,A.not (A.le (A.nthS s (A.nat n0)) 90),A.le 65 (A.nthS s (A.nat n0)),!A.le (A.nthS s (A.nat n0)) 122,A.le 97 (A.nthS s (A.nat n0)),Zah (A.le 0 n0) (Nat.blt (A.nat n0) (A.lenS s)),A.lt n0 (A.int (A.lenS s))],
  ZaL (s) (A.add n0 1)):=by kernel_rfl
theorem ZxT(A:Ar)(s:List UInt8)(n0:Int):ZaB A tab E0 71 [true,true,true,true,false,false,false,true,true,false,true,false,true,true,true,false,false,false,false,false,false,false,false,false,true,false,true,false] (Zaq s n0) (Zam s n0)=
 some (tr [1,19,5,5,12,5,6,4,2,4] [A.inR .i64 (A.add n0 1),!A.not (A.eq (A.nthS s (A.nat n0)) 45),!A.eq n0 0,A.not (A.le (A.nthS s (A.nat n0)) 90),A.le 65 (A.nthS s (A.nat n0)),!A.le (A.nthS s (A.nat n0)) 122,A.le 97 (A.nthS s (A.nat n0)),Zah (A.le 0 n0) (Nat.blt (A.nat n0) (A.lenS s)),A.lt n0 (A.int (A.lenS s))],
  ZaL (s) (A.add n0 1)):=by kernel_rfl
theorem Zz8(A:Ar)(s:List UInt8)(n0:Int):ZaB A tab E0 71 [true,true,true,true,false,false,false,true,true,false,true,false,false,false,false,false,false,false] (Zaq s n0) (Zam s n0)=
 some (tr [1,21,12,5,6,4,2,4] [A.inR .i64 (A.add n0 1),!A.not (A.le (A.nthS s (A.nat n0)) 90),A.le 65 (A.nthS s (A.nat n0)),!A.le (A.nthS s (A.nat n0)) 122,A.le 97 (A.nthS s (A.nat n0)),Zah (A.le 0 n0) (Nat.blt (A.nat n0) (A.lenS s)),A.lt n0 (A.int (A.lenS s))],
  ZaL (s) (A.add n0 1)):=by kernel_rfl
theorem ZwZ(A:Ar)(s:List UInt8)(n0:Int):Za1 A tab E0 67 [true,true,true,true,false,false,false,false,false,false,false,false,true,true,true,true,true,true,true,true,true,true,true] 150 (Zaq s n0) (Zam s n0)=
 some (tr [21,5,12,5,6,4,2,4] [A.eq n0 0,A.not false,!A.le 65 (A.nthS s (A.nat n0)),!A.le (A.nthS s (A.nat n0)) 122,A.le 97 (A.nthS s (A.nat n0)),Zah (A.le 0 n0) (Nat.blt (A.nat n0) (A.lenS s)),A.lt n0 (A.int (A.lenS s))],
  AV.bool false,none):=by kernel_rfl
theorem ZvT(A:Ar)(s:List UInt8)(n0:Int):Za1 A tab E0 67 [true,true,true,true,false,false,false,false,false,false,false,false,true,true,true,false,false,false,true,true,true,true,true,true,true,false,true,true,false,true,true] 150 (Zaq s n0) (Zam s n0)=
 some (tr [17,5,5,5,12,5,6,4,2,4] [A.lt (A.nthS s (A.nat n0)) 48,A.not (A.eq (A.nthS s (A.nat n0)) 45),!A.eq n0 0,A.not false,!A.le 65 (A.nthS s (A.nat n0)),!A.le (A.nthS s (A.nat n0)) 122,A.le 97 (A.nthS s (A.nat n0)),Zah (A.le 0 n0) (Nat.blt (A.nat n0) (A.lenS s)),A.lt n0 (A.int (A.lenS s))],
  AV.bool false,none):=by kernel_rfl
theorem Zvh(A:Ar)(s:List UInt8)(n0:Int):Za1 A tab E0 67 [true,true,true,true,false,false,false,false,false,false,false,false,true,true,true,false,false,false,true,true,true,false,false,true,false,false,true,true,false,true,true] 150 (Zaq s n0) (Zam s n0)=
 some (tr [2,14,5,5,5,12,5,6,4,2,4] [A.lt 57 (A.nthS s (A.nat n0)),!A.lt (A.nthS s (A.nat n0)) 48,A.not (A.eq (A.nthS s (A.nat n0)) 45),!A.eq n0 0,A.not false,!A.le 65 (A.nthS s (A.nat n0)),!A.le (A.nthS s (A.nat n0)) 122,A.le 97 (A.nthS s (A.nat n0)),Zah (A.le 0 n0) (Nat.blt (A.nat n0) (A.lenS s)),A.lt n0 (A.int (A.lenS s))],
  AV.bool false,none):=by kernel_rfl
theorem Zuj(A:Ar)(s:List UInt8)(n0:Int):ZaB A tab E0 71 [true,true,true,true,false,false,false,false,false,false,false,false,true,true,true,false,false,false,true,true,true,false,false,true,false,false,true,true,false,true,false] (Zaq s n0) (Zam s n0)=
 some (tr [1,1,14,5,5,5,12,5,6,4,2,4] [A.inR .i64 (A.add n0 1),!A.lt 57 (A.nthS s (A.nat n0)),!A.lt (A.nthS s (A.nat n0)) 48,A.not (A.eq (A.nthS s (A.nat n0)) 45),!A.eq n0 0,A.not false,!A.le 65 (A.nthS s (A.nat n0)),!A.le (A.nthS s (A.nat n0)) 122,A.le 97 (A.nthS s (A.nat n0)),Zah (A.le 0 n0) (Nat.blt (A.nat n0) (A.lenS s)),A.lt n0 (A.int (A.lenS s))],
  ZaL (s) (A.add n0 1)):=by kernel_rfl
theorem Zwh(A:Ar)(s:List UInt8)(n0:Int):ZaB A tab E0 71 [true,true,true,true,false,false,false,false,false,false,false,false,true,true,true,false,false,false,false,false,false,false,false,false,true,false,true,false] (Zaq s n0) (Zam s n0)=
 some (tr [1,19,5,5,12,5,6,4,2,4] [A.inR .i64 (A.add n0 1),!A.not (A.eq (A.nthS s (A.nat n0)) 45),!A.eq n0 0,A.not false,!A.le 65 (A.nthS s (A.nat n0)),!A.le (A.nthS s (A.nat n0)) 122,A.le 97 (A.nthS s (A.nat n0)),Zah (A.le 0 n0) (Nat.blt (A.nat n0) (A.lenS s)),A.lt n0 (A.int (A.lenS s))],
  ZaL (s) (A.add n0 1)):=by kernel_rfl
theorem ZwW(A:Ar)(s:List UInt8)(n0:Int):Za1 A tab E0 67 [true,false,false,false,false,false,false,true,true,false,true,false,true,true,true,true,true,true,true,true,true,true,true] 150 (Zaq s n0) (Zam s n0)=
 some (tr [21,5,12,12,4,2,4] [A.eq n0 0,A.not (A.le (A.nthS s (A.nat n0)) 90),A.le 65 (A.nthS s (A.nat n0)),!A.le 97 (A.nthS s (A.nat n0)),Zah (A.le 0 n0) (Nat.blt (A.nat n0) (A.lenS s)),A.lt n0 (A.int (A.lenS s))],
  AV.bool false,none):=by kernel_rfl
theorem ZtU(A:Ar)(s:List UInt8)(n0:Int):Za1 A tab E0 67 [true,false,false,false,false,false,false,true,true,false,true,false,true,true,true,false,false,false,true,true,true,true,true,true,true,false,true,true,false,true,true] 150 (Zaq s n0) (Zam s n0)=
 some (tr [17,5,5,5,12,12,4,2,4] [A.lt (A.nthS s (A.nat n0)) 48,A.not (A.eq (A.nthS s (A.nat n0)) 45),!A.eq n0 0,A.not (A.le (A.nthS s (A.nat n0)) 90),A.le 65 (A.nthS s (A.nat n0)),!A.le 97 (A.nthS s (A.nat n0)),Zah (A.le 0 n0) (Nat.blt (A.nat n0) (A.lenS s)),A.lt n0 (A.int (A.lenS s))],
  AV.bool false,none):=by kernel_rfl
theorem Zv9(A:Ar)(s:List UInt8)(n0:Int):Za1 A tab E0 67 [true,false,false,false,false,false,false,true,true,false,true,false,true,true,true,false,false,false,true,true,true,false,false,true,false,false,true,true,false,true,true] 150 (Zaq s n0) (Zam s n0)=
 some (tr [2,14,5,5,5,12,12,4,2,4] [A.lt 57 (A.nthS s (A.nat n0)),!A.lt (A.nthS s (A.nat n0)) 48,A.not (A.eq (A.nthS s (A.nat n0)) 45),!A.eq n0 0,A.not (A.le (A.nthS s (A.nat n0)) 90),A.le 65 (A.nthS s (A.nat n0)),!A.le 97 (A.nthS s (A.nat n0)),Zah (A.le 0 n0) (Nat.blt (A.nat n0) (A.lenS s)),A.lt n0 (A.int (A.lenS s))],
  AV.bool false,none):=by kernel_rfl
theorem Zxx(A:Ar)(s:List UInt8)(n0:Int):ZaB A tab E0 71 [true,false,false,false,false,false,false,true,true,false,true,false,true,true,true,false,false,false,true,true,true,false,false,true,false,false,true,true,false,true,false] (Zaq s n0) (Zam s n0)=
 some (tr [1,1,14,5,5,5,12,12,4,2,4] [A.inR .i64 (A.add n0 1),!A.lt 57 (A.nthS s (A.nat n0)),!A.lt (A.nthS s (A.nat n0)) 48,A.not (A.eq (A.nthS s (A.nat n0)) 45),!A.eq n0 0,A.not (A.le (A.nthS s (A.nat n0)) 90),A.le 65 (A.nthS s (A.nat n0)),!A.le 97 (A.nthS s (A.nat n0)),Zah (A.le 0 n0) (Nat.blt (A.nat n0) (A.lenS s)),A.lt n0 (A.int (A.lenS s))],
  ZaL (s) (A.add n0 1)):=by kernel_rfl
theorem ZvR(A:Ar)(s:List UInt8)(n0:Int):ZaB A tab E0 71 [true,false,false,false,false,false,false,true,true,false,true,false,true,true,true,false,false,false,false,false,false,false,false,false,true,false,true,false] (Zaq s n0) (Zam s n0)=
 some (tr [1,19,5,5,12,12,4,2,4] [A.inR .i64 (A.add n0 1),!A.not (A.eq (A.nthS s (A.nat n0)) 45),!A.eq n0 0,A.not (A.le (A.nthS s (A.nat n0)) 90),A.le 65 (A.nthS s (A.nat n0)),!A.le 97 (A.nthS s (A.nat n0)),Zah (A.le 0 n0) (Nat.blt (A.nat n0) (A.lenS s)),A.lt n0 (A.int (A.lenS s))],
  ZaL (s) (A.add n0 1)):=by kernel_rfl
theorem Zxh(A:Ar)(s:List UInt8)(n0:Int):ZaB A tab E0 71 [true,false,false,false,false,false,false,true,true,false,true,false,false,false,false,false,false,false] (Zaq s n0) (Zam s n0)=
 some (tr [1,21,12,12,4,2,4] [A.inR .i64 (A.add n0 1),!A.not (A.le (A.nthS s (A.nat n0)) 90),A.le 65 (A.nthS s (A.nat n0)),!A.le 97 (A.nthS s (A.nat n0)),Zah (A.le 0 n0) (Nat.blt (A.nat n0) (A.lenS s)),A.lt n0 (A.int (A.lenS s))],
  ZaL (s) (A.add n0 1)):=by kernel_rfl
theorem ZuY(A:Ar)(s:List UInt8)(n0:Int):Za1 A tab E0 67 [true,false,false,false,false,false,false,false,false,false,false,false,true,true,true,true,true,true,true,true,true,true,true] 150 (Zaq s n0) (Zam s n0)=
 some (tr [21,5,12,12,4,2,4] [A.eq n0 0,A.not false,!A.le 65 (A.nthS s (A.nat n0)),!A.le 97 (A.nthS s (A.nat n0)),Zah (A.le 0 n0) (Nat.blt (A.nat n0) (A.lenS s)),A.lt n0 (A.int (A.lenS s))],
  AV.bool false,none):=by kernel_rfl
theorem ZtY(A:Ar)(s:List UInt8)(n0:Int):Za1 A tab E0 67 [true,false,false,false,false,false,false,false,false,false,false,false,true,true,true,false,false,false,true,true,true,true,true,true,true,false,true,true,false,true,true] 150 (Zaq s n0) (Zam s n0)=
 some (tr [17,5,5,5,12,12,4,2,4] [A.lt (A.nthS s (A.nat n0)) 48,A.not (A.eq (A.nthS s (A.nat n0)) 45),!A.eq n0 0,A.not false,!A.le 65 (A.nthS s (A.nat n0)),!A.le 97 (A.nthS s (A.nat n0)),Zah (A.le 0 n0) (Nat.blt (A.nat n0) (A.lenS s)),A.lt n0 (A.int (A.lenS s))],
  AV.bool false,none):=by kernel_rfl
theorem Zvp(A:Ar)(s:List UInt8)(n0:Int):Za1 A tab E0 67 [true,false,false,false,false,false,false,false,false,false,false,false,true,true,true,false,false,false,true,true,true,false,false,true,false,false,true,true,false,true,true] 150 (Zaq s n0) (Zam s n0)=
 some (tr [2,14,5,5,5,12,12,4,2,4] [A.lt 57 (A.nthS s (A.nat n0)),!A.lt (A.nthS s (A.nat n0)) 48,A.not (A.eq (A.nthS s (A.nat n0)) 45),!A.eq n0 0,A.not false,!A.le 65 (A.nthS s (A.nat n0)),!A.le 97 (A.nthS s (A.nat n0)),Zah (A.le 0 n0) (Nat.blt (A.nat n0) (A.lenS s)),A.lt n0 (A.int (A.lenS s))],
  AV.bool false,none):=by kernel_rfl
theorem Zxq(A:Ar)(s:List UInt8)(n0:Int):ZaB A tab E0 71 [true,false,false,false,false,false,false,false,false,false,false,false,true,true,true,false,false,false,true,true,true,false,false,true,false,false,true,true,false,true,false] (Zaq s n0) (Zam s n0)=
 some (tr [1,1,14,5,5,5,12,12,4,2,4] [A.inR .i64 (A.add n0 1),!A.lt 57 (A.nthS s (A.nat n0)),!A.lt (A.nthS s (A.nat n0)) 48,A.not (A.eq (A.nthS s (A.nat n0)) 45),!A.eq n0 0,A.not false,!A.le 65 (A.nthS s (A.nat n0)),!A.le 97 (A.nthS s (A.nat n0)),Zah (A.le 0 n0) (Nat.blt (A.nat n0) (A.lenS s)),A.lt n0 (A.int (A.lenS s))],
  ZaL (s) (A.add n0 1)):=by kernel_rfl
theorem ZuE(A:Ar)(s:List UInt8)(n0:Int):ZaB A tab E0 71 [true,false,false,false,false,false,false,false,false,false,false,false,true,true,true,false,false,false,false,false,false,false,false,false,true,false,true,false] (Zaq s n0) (Zam s n0)=
 some (tr [1,19,5,5,12,12,4,2,4] [A.inR .i64 (A.add n0 1),!A.not (A.eq (A.nthS s (A.nat n0)) 45),!A.eq n0 0,A.not false,!A.le 65 (A.nthS s (A.nat n0)),!A.le 97 (A.nthS s (A.nat n0)),Zah (A.le 0 n0) (Nat.blt (A.nat n0) (A.lenS s)),A.lt n0 (A.int (A.lenS s))],
  ZaL (s) (A.add n0 1)):=by kernel_rfl
theorem ZvG(A:Ar)(s:List UInt8)(n0:Int):Za1 A tab E0 16 [false] 150 (Zaq s n0) (Zam s n0)=
 some (tr [2,4] [!A.lt n0 (A.int (A.lenS s))],
  AV.bool true,none):=by kernel_rfl
def ZsL(s:List UInt8):AFrame:={ fn:=182,N:=54,env:=[(0,AV.str s)],todo:=[.code a182.code],defs:=[],rnd:=none,ret:=false,res:=[ARes.tmp 2] }
def ZDx(s:List UInt8):List AFrame:=[(ZsL s)]
theorem ZqG(s:List UInt8):Zat tab 182 [AV.str s]=some (ZsL s):=rfl
def Zap(s:List UInt8)(l0:List Int)(n1 n2:Int):List AFrame:=[{ fn:=182,N:=54,env:=[(0,AV.str s),(7,AV.list (.ints .u8 l0)),(8,AV.int .i64 n1),(9,AV.int .i64 n2)],todo:=.code (ACode.gh [] Zs6)::Zzr,defs:=[],rnd:=none,ret:=false,res:=[ARes.tmp 2] }]
def Zal(s:List UInt8)(l0:List Int)(n1 n2:Int):Zac:=[]
abbrev ZaM(s:List UInt8)(l0:List Int)(n1 n2:Int):List AFrame×Zac:=(Zap s l0 n1 n2,Zal s l0 n1 n2)
theorem Zzh(A:Ar)(s:List UInt8):ZaB A tab E0 15 [] (ZDx s) []=
 some (tr [2,2] [Nat.ble (A.lenS s) 4294967296],
  ZaM (s) (A.byt s) (A.int (A.len (A.byt s))) (0)):=by kernel_rfl
theorem ZyB(A:Ar)(s:List UInt8)(l0:List Int)(n1 n2:Int):ZaB A tab E0 68 [true,true,true,true,true,true,true,true,true,false,false,false,false,false,false] (Zap s l0 n1 n2) (Zal s l0 n1 n2)=
 some (tr [1,20,15,6,6,1,1] [A.inR .i64 (A.add n2 1),!A.not true,A.le (A.nth l0 (A.nat n2)) 122,A.le 97 (A.nth l0 (A.nat n2)),Zah (Zah (A.le 0 n2) (Nat.blt (A.nat n2) (A.len l0))) true,A.lt n2 n1],
  ZaM (s) (l0) (n1) (A.add n2 1)):=by kernel_rfl
theorem ZBx(A:Ar)(s:List UInt8)(l0:List Int)(n1 n2:Int):Za1 A tab E0 65 [true,true,true,true,false,false,false,true,true,false,true,false,true,true,true,true,true,true,true,true,true,true,true] 182 (Zap s l0 n1 n2) (Zal s l0 n1 n2)=
 some (tr [21,5,12,5,6,6,1,1] [A.eq n2 0,A.not (A.le (A.nth l0 (A.nat n2)) 90),A.le 65 (A.nth l0 (A.nat n2)),!A.le (A.nth l0 (A.nat n2)) 122,A.le 97 (A.nth l0 (A.nat n2)),Zah (Zah (A.le 0 n2) (Nat.blt (A.nat n2) (A.len l0))) true,A.lt n2 n1],
  AV.bool false,none):=by kernel_rfl
theorem ZBw(A:Ar)(s:List UInt8)(l0:List Int)(n1 n2:Int):Za1 A tab E0 65 [true,true,true,true,false,false,false,true,true,false,true,false,true,true,true,false,false,false,true,true,true,true,true,true,true,false,true,true,false,true,true] 182 (Zap s l0 n1 n2) (Zal s l0 n1 n2)=
 some (tr [17,5,5,5,12,5,6,6,1,1] [A.lt (A.nth l0 (A.nat n2)) 48,A.not (A.eq (A.nth l0 (A.nat n2)) 45),!A.eq n2 0,A.not (A.le (A.nth l0 (A.nat n2)) 90),A.le 65 (A.nth l0 (A.nat n2)),!A.le (A.nth l0 (A.nat n2)) 122,A.le 97 (A.nth l0 (A.nat n2)),Zah (Zah (A.le 0 n2) (Nat.blt (A.nat n2) (A.len l0))) true,A.lt n2 n1],
  AV.bool false,none):=by kernel_rfl
theorem ZyI(A:Ar)(s:List UInt8)(l0:List Int)(n1 n2:Int):Za1 A tab E0 65 [true,true,true,true,false,false,false,true,true,false,true,false,true,true,true,false,false,false,true,true,true,false,false,true,false,false,true,true,false,true,true] 182 (Zap s l0 n1 n2) (Zal s l0 n1 n2)=
 some (tr [2,14,5,5,5,12,5,6,6,1,1] [A.lt 57 (A.nth l0 (A.nat n2)),!A.lt (A.nth l0 (A.nat n2)) 48,A.not (A.eq (A.nth l0 (A.nat n2)) 45),!A.eq n2 0,A.not (A.le (A.nth l0 (A.nat n2)) 90),A.le 65 (A.nth l0 (A.nat n2)),!A.le (A.nth l0 (A.nat n2)) 122,A.le 97 (A.nth l0 (A.nat n2)),Zah (Zah (A.le 0 n2) (Nat.blt (A.nat n2) (A.len l0))) true,A.lt n2 n1],
  AV.bool false,none):=by kernel_rfl
theorem Zx4(A:Ar)(s:List UInt8)(l0:List Int)(n1 n2:Int):ZaB A tab E0 68 [true,true,true,true,false,false,false,true,true,false,true,false,true,true,true,false,false,false,true,true,true,false,false,true,false,false,true,true,false,true,false] (Zap s l0 n1 n2) (Zal s l0 n1 n2)=
 some (tr [1,0,14,5,5,5,12,5,6,6,1,1] [A.inR .i64 (A.add n2 1),!A.lt 57 (A.nth l0 (A.nat n2)),!A.lt (A.nth l0 (A.nat n2)) 48,A.not (A.eq (A.nth l0 (A.nat n2)) 45),!A.eq n2 0,A.not (A.le (A.nth l0 (A.nat n2)) 90),A.le 65 (A.nth l0 (A.nat n2)),!A.le (A.nth l0 (A.nat n2)) 122,A.le 97 (A.nth l0 (A.nat n2)),Zah (Zah (A.le 0 n2) (Nat.blt (A.nat n2) (A.len l0))) true,A.lt n2 n1],
  ZaM (s) (l0) (n1) (A.add n2 1)):=by kernel_rfl
theorem ZAW(A:Ar)(s:List UInt8)(l0:List Int)(n1 n2:Int):ZaB A tab E0 68 [true,true,true,true,false,false,false,true,true,false,true,false,true,true,true,false,false,false,false,false,false,false,false,false,true,false,true,false] (Zap s l0 n1 n2) (Zal s l0 n1 n2)=
 some (tr [1,18,5,5,12,5,6,6,1,1] [A.inR .i64 (A.add n2 1),!A.not (A.eq (A.nth l0 (A.nat n2)) 45),!A.eq n2 0,A.not (A.le (A.nth l0 (A.nat n2)) 90),A.le 65 (A.nth l0 (A.nat n2)),!A.le (A.nth l0 (A.nat n2)) 122,A.le 97 (A.nth l0 (A.nat n2)),Zah (Zah (A.le 0 n2) (Nat.blt (A.nat n2) (A.len l0))) true,A.lt n2 n1],
  ZaM (s) (l0) (n1) (A.add n2 1)):=by kernel_rfl
theorem Zzc(A:Ar)(s:List UInt8)(l0:List Int)(n1 n2:Int):ZaB A tab E0 68 [true,true,true,true,false,false,false,true,true,false,true,false,false,false,false,false,false,false] (Zap s l0 n1 n2) (Zal s l0 n1 n2)=
 some (tr [1,20,12,5,6,6,1,1] [A.inR .i64 (A.add n2 1),!A.not (A.le (A.nth l0 (A.nat n2)) 90),A.le 65 (A.nth l0 (A.nat n2)),!A.le (A.nth l0 (A.nat n2)) 122,A.le 97 (A.nth l0 (A.nat n2)),Zah (Zah (A.le 0 n2) (Nat.blt (A.nat n2) (A.len l0))) true,A.lt n2 n1],
  ZaM (s) (l0) (n1) (A.add n2 1)):=by kernel_rfl
theorem Zx3(A:Ar)(s:List UInt8)(l0:List Int)(n1 n2:Int):Za1 A tab E0 65 [true,true,true,true,false,false,false,false,false,false,false,false,true,true,true,true,true,true,true,true,true,true,true] 182 (Zap s l0 n1 n2) (Zal s l0 n1 n2)=
 some (tr [21,5,12,5,6,6,1,1] [A.eq n2 0,A.not false,!A.le 65 (A.nth l0 (A.nat n2)),!A.le (A.nth l0 (A.nat n2)) 122,A.le 97 (A.nth l0 (A.nat n2)),Zah (Zah (A.le 0 n2) (Nat.blt (A.nat n2) (A.len l0))) true,A.lt n2 n1],
  AV.bool false,none):=by kernel_rfl
theorem ZAm(A:Ar)(s:List UInt8)(l0:List Int)(n1 n2:Int):Za1 A tab E0 65 [true,true,true,true,false,false,false,false,false,false,false,false,true,true,true,false,false,false,true,true,true,true,true,true,true,false,true,true,false,true,true] 182 (Zap s l0 n1 n2) (Zal s l0 n1 n2)=
 some (tr [17,5,5,5,12,5,6,6,1,1] [A.lt (A.nth l0 (A.nat n2)) 48,A.not (A.eq (A.nth l0 (A.nat n2)) 45),!A.eq n2 0,A.not false,!A.le 65 (A.nth l0 (A.nat n2)),!A.le (A.nth l0 (A.nat n2)) 122,A.le 97 (A.nth l0 (A.nat n2)),Zah (Zah (A.le 0 n2) (Nat.blt (A.nat n2) (A.len l0))) true,A.lt n2 n1],
  AV.bool false,none):=by kernel_rfl
theorem ZuP(A:Ar)(s:List UInt8)(l0:List Int)(n1 n2:Int):Za1 A tab E0 65 [true,true,true,true,false,false,false,false,false,false,false,false,true,true,true,false,false,false,true,true,true,false,false,true,false,false,true,true,false,true,true] 182 (Zap s l0 n1 n2) (Zal s l0 n1 n2)=
 some (tr [2,14,5,5,5,12,5,6,6,1,1] [A.lt 57 (A.nth l0 (A.nat n2)),!A.lt (A.nth l0 (A.nat n2)) 48,A.not (A.eq (A.nth l0 (A.nat n2)) 45),!A.eq n2 0,A.not false,!A.le 65 (A.nth l0 (A.nat n2)),!A.le (A.nth l0 (A.nat n2)) 122,A.le 97 (A.nth l0 (A.nat n2)),Zah (Zah (A.le 0 n2) (Nat.blt (A.nat n2) (A.len l0))) true,A.lt n2 n1],
  AV.bool false,none):=by kernel_rfl
theorem ZuK(A:Ar)(s:List UInt8)(l0:List Int)(n1 n2:Int):ZaB A tab E0 68 [true,true,true,true,false,false,false,false,false,false,false,false,true,true,true,false,false,false,true,true,true,false,false,true,false,false,true,true,false,true,false] (Zap s l0 n1 n2) (Zal s l0 n1 n2)=
 some (tr [1,0,14,5,5,5,12,5,6,6,1,1] [A.inR .i64 (A.add n2 1),!A.lt 57 (A.nth l0 (A.nat n2)),!A.lt (A.nth l0 (A.nat n2)) 48,A.not (A.eq (A.nth l0 (A.nat n2)) 45),!A.eq n2 0,A.not false,!A.le 65 (A.nth l0 (A.nat n2)),!A.le (A.nth l0 (A.nat n2)) 122,A.le 97 (A.nth l0 (A.nat n2)),Zah (Zah (A.le 0 n2) (Nat.blt (A.nat n2) (A.len l0))) true,A.lt n2 n1],
  ZaM (s) (l0) (n1) (A.add n2 1)):=by kernel_rfl
theorem Zww(A:Ar)(s:List UInt8)(l0:List Int)(n1 n2:Int):ZaB A tab E0 68 [true,true,true,true,false,false,false,false,false,false,false,false,true,true,true,false,false,false,false,false,false,false,false,false,true,false,true,false] (Zap s l0 n1 n2) (Zal s l0 n1 n2)=
 some (tr [1,18,5,5,12,5,6,6,1,1] [A.inR .i64 (A.add n2 1),!A.not (A.eq (A.nth l0 (A.nat n2)) 45),!A.eq n2 0,A.not false,!A.le 65 (A.nth l0 (A.nat n2)),!A.le (A.nth l0 (A.nat n2)) 122,A.le 97 (A.nth l0 (A.nat n2)),Zah (Zah (A.le 0 n2) (Nat.blt (A.nat n2) (A.len l0))) true,A.lt n2 n1],
  ZaM (s) (l0) (n1) (A.add n2 1)):=by kernel_rfl
theorem Zvr(A:Ar)(s:List UInt8)(l0:List Int)(n1 n2:Int):Za1 A tab E0 65 [true,false,false,false,false,false,false,true,true,false,true,false,true,true,true,true,true,true,true,true,true,true,true] 182 (Zap s l0 n1 n2) (Zal s l0 n1 n2)=
 some (tr [21,5,12,12,6,1,1] [A.eq n2 0,A.not (A.le (A.nth l0 (A.nat n2)) 90),A.le 65 (A.nth l0 (A.nat n2)),!A.le 97 (A.nth l0 (A.nat n2)),Zah (Zah (A.le 0 n2) (Nat.blt (A.nat n2) (A.len l0))) true,A.lt n2 n1],
  AV.bool false,none):=by kernel_rfl
theorem ZxB(A:Ar)(s:List UInt8)(l0:List Int)(n1 n2:Int):Za1 A tab E0 65 [true,false,false,false,false,false,false,true,true,false,true,false,true,true,true,false,false,false,true,true,true,true,true,true,true,false,true,true,false,true,true] 182 (Zap s l0 n1 n2) (Zal s l0 n1 n2)=
 some (tr [17,5,5,5,12,12,6,1,1] [A.lt (A.nth l0 (A.nat n2)) 48,A.not (A.eq (A.nth l0 (A.nat n2)) 45),!A.eq n2 0,A.not (A.le (A.nth l0 (A.nat n2)) 90),A.le 65 (A.nth l0 (A.nat n2)),!A.le 97 (A.nth l0 (A.nat n2)),Zah (Zah (A.le 0 n2) (Nat.blt (A.nat n2) (A.len l0))) true,A.lt n2 n1],
  AV.bool false,none):=by kernel_rfl
theorem Zt7(A:Ar)(s:List UInt8)(l0:List Int)(n1 n2:Int):Za1 A tab E0 65 [true,false,false,false,false,false,false,true,true,false,true,false,true,true,true,false,false,false,true,true,true,false,false,true,false,false,true,true,false,true,true] 182 (Zap s l0 n1 n2) (Zal s l0 n1 n2)=
 some (tr [2,14,5,5,5,12,12,6,1,1] [A.lt 57 (A.nth l0 (A.nat n2)),!A.lt (A.nth l0 (A.nat n2)) 48,A.not (A.eq (A.nth l0 (A.nat n2)) 45),!A.eq n2 0,A.not (A.le (A.nth l0 (A.nat n2)) 90),A.le 65 (A.nth l0 (A.nat n2)),!A.le 97 (A.nth l0 (A.nat n2)),Zah (Zah (A.le 0 n2) (Nat.blt (A.nat n2) (A.len l0))) true,A.lt n2 n1],
  AV.bool false,none):=by kernel_rfl
theorem Zwc(A:Ar)(s:List UInt8)(l0:List Int)(n1 n2:Int):ZaB A tab E0 68 [true,false,false,false,false,false,false,true,true,false,true,false,true,true,true,false,false,false,true,true,true,false,false,true,false,false,true,true,false,true,false] (Zap s l0 n1 n2) (Zal s l0 n1 n2)=
 some (tr [1,0,14,5,5,5,12,12,6,1,1] [A.inR .i64 (A.add n2 1),!A.lt 57 (A.nth l0 (A.nat n2)),!A.lt (A.nth l0 (A.nat n2)) 48,A.not (A.eq (A.nth l0 (A.nat n2)) 45),!A.eq n2 0,A.not (A.le (A.nth l0 (A.nat n2)) 90),A.le 65 (A.nth l0 (A.nat n2)),!A.le 97 (A.nth l0 (A.nat n2)),Zah (Zah (A.le 0 n2) (Nat.blt (A.nat n2) (A.len l0))) true,A.lt n2 n1],
  ZaM (s) (l0) (n1) (A.add n2 1)):=by kernel_rfl
theorem Zum(A:Ar)(s:List UInt8)(l0:List Int)(n1 n2:Int):ZaB A tab E0 68 [true,false,false,false,false,false,false,true,true,false,true,false,true,true,true,false,false,false,false,false,false,false,false,false,true,false,true,false] (Zap s l0 n1 n2) (Zal s l0 n1 n2)=
 some (tr [1,18,5,5,12,12,6,1,1] [A.inR .i64 (A.add n2 1),!A.not (A.eq (A.nth l0 (A.nat n2)) 45),!A.eq n2 0,A.not (A.le (A.nth l0 (A.nat n2)) 90),A.le 65 (A.nth l0 (A.nat n2)),!A.le 97 (A.nth l0 (A.nat n2)),Zah (Zah (A.le 0 n2) (Nat.blt (A.nat n2) (A.len l0))) true,A.lt n2 n1],
  ZaM (s) (l0) (n1) (A.add n2 1)):=by kernel_rfl
theorem ZwN(A:Ar)(s:List UInt8)(l0:List Int)(n1 n2:Int):ZaB A tab E0 68 [true,false,false,false,false,false,false,true,true,false,true,false,false,false,false,false,false,false] (Zap s l0 n1 n2) (Zal s l0 n1 n2)=
 some (tr [1,20,12,12,6,1,1] [A.inR .i64 (A.add n2 1),!A.not (A.le (A.nth l0 (A.nat n2)) 90),A.le 65 (A.nth l0 (A.nat n2)),!A.le 97 (A.nth l0 (A.nat n2)),Zah (Zah (A.le 0 n2) (Nat.blt (A.nat n2) (A.len l0))) true,A.lt n2 n1],
  ZaM (s) (l0) (n1) (A.add n2 1)):=by kernel_rfl
theorem ZvZ(A:Ar)(s:List UInt8)(l0:List Int)(n1 n2:Int):Za1 A tab E0 65 [true,false,false,false,false,false,false,false,false,false,false,false,true,true,true,true,true,true,true,true,true,true,true] 182 (Zap s l0 n1 n2) (Zal s l0 n1 n2)=
 some (tr [21,5,12,12,6,1,1] [A.eq n2 0,A.not false,!A.le 65 (A.nth l0 (A.nat n2)),!A.le 97 (A.nth l0 (A.nat n2)),Zah (Zah (A.le 0 n2) (Nat.blt (A.nat n2) (A.len l0))) true,A.lt n2 n1],
  AV.bool false,none):=by kernel_rfl
theorem Zuv(A:Ar)(s:List UInt8)(l0:List Int)(n1 n2:Int):Za1 A tab E0 65 [true,false,false,false,false,false,false,false,false,false,false,false,true,true,true,false,false,false,true,true,true,true,true,true,true,false,true,true,false,true,true] 182 (Zap s l0 n1 n2) (Zal s l0 n1 n2)=
 some (tr [17,5,5,5,12,12,6,1,1] [A.lt (A.nth l0 (A.nat n2)) 48,A.not (A.eq (A.nth l0 (A.nat n2)) 45),!A.eq n2 0,A.not false,!A.le 65 (A.nth l0 (A.nat n2)),!A.le 97 (A.nth l0 (A.nat n2)),Zah (Zah (A.le 0 n2) (Nat.blt (A.nat n2) (A.len l0))) true,A.lt n2 n1],
  AV.bool false,none):=by kernel_rfl
theorem Zxs(A:Ar)(s:List UInt8)(l0:List Int)(n1 n2:Int):Za1 A tab E0 65 [true,false,false,false,false,false,false,false,false,false,false,false,true,true,true,false,false,false,true,true,true,false,false,true,false,false,true,true,false,true,true] 182 (Zap s l0 n1 n2) (Zal s l0 n1 n2)=
 some (tr [2,14,5,5,5,12,12,6,1,1] [A.lt 57 (A.nth l0 (A.nat n2)),!A.lt (A.nth l0 (A.nat n2)) 48,A.not (A.eq (A.nth l0 (A.nat n2)) 45),!A.eq n2 0,A.not false,!A.le 65 (A.nth l0 (A.nat n2)),!A.le 97 (A.nth l0 (A.nat n2)),Zah (Zah (A.le 0 n2) (Nat.blt (A.nat n2) (A.len l0))) true,A.lt n2 n1],
  AV.bool false,none):=by kernel_rfl
theorem Zu0(A:Ar)(s:List UInt8)(l0:List Int)(n1 n2:Int):ZaB A tab E0 68 [true,false,false,false,false,false,false,false,false,false,false,false,true,true,true,false,false,false,true,true,true,false,false,true,false,false,true,true,false,true,false] (Zap s l0 n1 n2) (Zal s l0 n1 n2)=
 some (tr [1,0,14,5,5,5,12,12,6,1,1] [A.inR .i64 (A.add n2 1),!A.lt 57 (A.nth l0 (A.nat n2)),!A.lt (A.nth l0 (A.nat n2)) 48,A.not (A.eq (A.nth l0 (A.nat n2)) 45),!A.eq n2 0,A.not false,!A.le 65 (A.nth l0 (A.nat n2)),!A.le 97 (A.nth l0 (A.nat n2)),Zah (Zah (A.le 0 n2) (Nat.blt (A.nat n2) (A.len l0))) true,A.lt n2 n1],
  ZaM (s) (l0) (n1) (A.add n2 1)):=by kernel_rfl
theorem ZvH(A:Ar)(s:List UInt8)(l0:List Int)(n1 n2:Int):ZaB A tab E0 68 [true,false,false,false,false,false,false,false,false,false,false,false,true,true,true,false,false,false,false,false,false,false,false,false,true,false,true,false] (Zap s l0 n1 n2) (Zal s l0 n1 n2)=
 some (tr [1,18,5,5,12,12,6,1,1] [A.inR .i64 (A.add n2 1),!A.not (A.eq (A.nth l0 (A.nat n2)) 45),!A.eq n2 0,A.not false,!A.le 65 (A.nth l0 (A.nat n2)),!A.le 97 (A.nth l0 (A.nat n2)),Zah (Zah (A.le 0 n2) (Nat.blt (A.nat n2) (A.len l0))) true,A.lt n2 n1],
  ZaM (s) (l0) (n1) (A.add n2 1)):=by kernel_rfl
theorem ZuQ(A:Ar)(s:List UInt8)(l0:List Int)(n1 n2:Int):Za1 A tab E0 21 [false,true,true,true,true] 182 (Zap s l0 n1 n2) (Zal s l0 n1 n2)=
 some (tr [9,3,1] [A.not (A.eqS s []),!A.lt n2 n1],
  AV.bool (A.le (A.int (A.lenS s)) 12),none):=by kernel_rfl
theorem ZtJ(A:Ar)(s:List UInt8)(l0:List Int)(n1 n2:Int):Za1 A tab E0 21 [false,false,false,false,false] 182 (Zap s l0 n1 n2) (Zal s l0 n1 n2)=
 some (tr [9,3,1] [!A.not (A.eqS s []),!A.lt n2 n1],
  AV.bool false,none):=by kernel_rfl
def ZsZ(n:Int):AFrame:={ fn:=161,N:=3,env:=[(0,AV.int .i64 n)],todo:=[.code a161.code],defs:=[],rnd:=none,ret:=false,res:=[ARes.tmp 2] }
def ZDV(n:Int):List AFrame:=[(ZsZ n)]
theorem ZqD(n:Int):Zat tab 161 [AV.int .i64 n]=some (ZsZ n):=rfl
theorem ZA1(A:Ar)(n:Int):Za1 A tab E0 9 [] 161 (ZDV n) []=
 some (tr [3] [],
  AV.int .i64 0,none):=by kernel_rfl
end Go.Proofs.YtkeoeooghhjibaaGreatDoor
/- Names, ranges, first errors. No condition. -/
namespace Go.Proofs.YtkeoeooghhjibaaGreatDoor
def Zab(n a b:Int):Bool:=decide (a≤n∧n≤b)
def Zaa(b:Bool)(e:Int):Int:=if b=true then 0 else e
def Zz9(k:Nat)(c:Int):Bool:=decide ((97≤c∧c≤122)∨(65≤c∧c≤90)∨(k≠0∧(c=45∨(48≤c∧c≤57))))
def nmR(f:Nat→Int):Nat→Nat→Bool
 |0,_=>true
 |m+1,k=>Zz9 k (f k)&&nmR f m (k+1)
def ZaT(s:List UInt8):Bool:=decide (1≤s.length∧s.length≤12)&&nmR (fun k=>((s.getD k 0).toNat:Int)) s.length 0
def Zaf:List Int→Int
 |[]=>0
 |x::xs=>if x=0 then Zaf xs else x
def Zhv(xs:List AV)(s:List UInt8):Bool:=xs.any fun x=>x.toS==s
theorem Zll(n a b:Int):Zao Tryz.prog 41 [.int .i64 n, .int .i64 a, .int .i64 b] (.bool (Zab n a b)) none:=
 start (Zv1 n a b) fun C hC=>by
  by_cases h:a≤n
  ·exact fin hC ZaF (ZC2 std n a b) (by simp[h]) (by simp[Zab,h]) rfl
  ·exact fin hC ZaF (ZC0 std n a b) (by simp;omega) (by simp[Zab,h]) rfl
theorem ZlT(n a b:Int):Zao Tryz.prog 82 [.int .i64 n, .int .i64 a, .int .i64 b] (.bool (Zab n a b)) none:=
 start (Zwv n a b) fun C hC=>by
  by_cases h:a≤n
  ·exact fin hC ZaF (ZEW std n a b) (by simp[h]) (by simp[Zab,h]) rfl
  ·exact fin hC ZaF (ZEY std n a b) (by simp;omega) (by simp[Zab,h]) rfl
theorem ZlB(b:Bool)(e:Int):Zao Tryz.prog 68 [.bool b, .int .i64 e] (.int .i64 (Zaa b e)) none:=
 start (Zun b e) fun C hC=>by
  cases b
  ·first
   |exact fin hC ZaF (Zz5 std false e) (by simp) rfl rfl
   |exact fin hC ZaF (ZAN std false e) (by simp) rfl rfl
  ·first
   |exact fin hC ZaF (Zz5 std true e) (by simp) rfl rfl
   |exact fin hC ZaF (ZAN std true e) (by simp) rfl rfl
theorem ZoO(n:Int):Zao Tryz.prog 161 [.int .i64 n] (.int .i64 0) none:=start (ZqD n) fun C hC=>fin hC ZaF (ZA1 std n) (by simp) rfl rfl
theorem ZgY{C:Ctx}(hC:C.P=Tryz.prog)(s:List UInt8)(hl:s.length≤1000000):∀(m k:Nat),k+m=s.length→Ev C (Zaq s (k:Int)) (Zam s (k:Int)) (Zcq 150 (.bool (nmR (fun k=>((s.getD k 0).toNat:Int)) m k)) none)
 |0,k,hk=>fin hC ZaF (ZvG std s k) (by simp;omega) rfl rfl
 |m+1,k,hk=>by
  have nx:Zz9 k (((s.getD k 0).toNat:Int))=true→Ev C (Zaq s ((k:Int)+1)) (Zam s ((k:Int)+1)) (Zcq 150 (.bool (nmR (fun k=>((s.getD k 0).toNat:Int)) (m+1) k)) none):=fun h=>by
   have:=ZgY hC s hl m (k+1) (by omega)
   simp only[nmR,h,Bool.true_and]
   exact this
  have fx:Zz9 k (((s.getD k 0).toNat:Int))=false→AV.bool false=AV.bool (nmR (fun k=>((s.getD k 0).toNat:Int)) (m+1) k):=fun h=>by simp only[nmR,h,Bool.false_and]
  by_cases h1:((k:Int)<((s.length:Nat):Int))
  ·by_cases h2:(97≤((s.getD k 0).toNat:Int))
   ·by_cases h3:(((s.getD k 0).toNat:Int)≤122)
    ·exact go hC ZaF (Zx1 std s (k:Int)) (by simp[-List.getD_eq_getElem?_getD]<;>omega) (nx (decide_eq_true (by omega)))
    ·by_cases h4:(65≤((s.getD k 0).toNat:Int))
     ·by_cases h5:(((s.getD k 0).toNat:Int)≤90)
      ·exact go hC ZaF (Zz8 std s (k:Int)) (by simp[-List.getD_eq_getElem?_getD]<;>omega) (nx (decide_eq_true (by omega)))
      ·by_cases h6:((k:Int)=0)
       ·exact fin hC ZaF (Zy5 std s (k:Int)) (by simp[-List.getD_eq_getElem?_getD]<;>omega) (fx (decide_eq_false (by omega))) rfl
       ·by_cases h7:(((s.getD k 0).toNat:Int)=45)
        ·exact go hC ZaF (ZxT std s (k:Int)) (by simp[-List.getD_eq_getElem?_getD]<;>omega) (nx (decide_eq_true (by omega)))
        ·by_cases h8:(((s.getD k 0).toNat:Int)<48)
         ·exact fin hC ZaF (ZAr std s (k:Int)) (by simp[-List.getD_eq_getElem?_getD]<;>omega) (fx (decide_eq_false (by omega))) rfl
         ·by_cases h9:(57<((s.getD k 0).toNat:Int))
          ·exact fin hC ZaF (ZBi std s (k:Int)) (by simp[-List.getD_eq_getElem?_getD]<;>omega) (fx (decide_eq_false (by omega))) rfl
          ·exact go hC ZaF (ZAO std s (k:Int)) (by simp[-List.getD_eq_getElem?_getD]<;>omega) (nx (decide_eq_true (by omega)))
     ·by_cases h5:((k:Int)=0)
      ·exact fin hC ZaF (ZwZ std s (k:Int)) (by simp[-List.getD_eq_getElem?_getD]<;>omega) (fx (decide_eq_false (by omega))) rfl
      ·by_cases h6:(((s.getD k 0).toNat:Int)=45)
       ·exact go hC ZaF (Zwh std s (k:Int)) (by simp[-List.getD_eq_getElem?_getD]<;>omega) (nx (decide_eq_true (by omega)))
       ·by_cases h7:(((s.getD k 0).toNat:Int)<48)
        ·exact fin hC ZaF (ZvT std s (k:Int)) (by simp[-List.getD_eq_getElem?_getD]<;>omega) (fx (decide_eq_false (by omega))) rfl
        ·by_cases h8:(57<((s.getD k 0).toNat:Int))
         ·exact fin hC ZaF (Zvh std s (k:Int)) (by simp[-List.getD_eq_getElem?_getD]<;>omega) (fx (decide_eq_false (by omega))) rfl
         ·exact go hC ZaF (Zuj std s (k:Int)) (by simp[-List.getD_eq_getElem?_getD]<;>omega) (nx (decide_eq_true (by omega)))
   ·by_cases h3:(65≤((s.getD k 0).toNat:Int))
    ·by_cases h4:(((s.getD k 0).toNat:Int)≤90)
     ·exact go hC ZaF (Zxh std s (k:Int)) (by simp[-List.getD_eq_getElem?_getD]<;>omega) (nx (decide_eq_true (by omega)))
     ·by_cases h5:((k:Int)=0)
      ·exact fin hC ZaF (ZwW std s (k:Int)) (by simp[-List.getD_eq_getElem?_getD]<;>omega) (fx (decide_eq_false (by omega))) rfl
      ·by_cases h6:(((s.getD k 0).toNat:Int)=45)
       ·exact go hC ZaF (ZvR std s (k:Int)) (by simp[-List.getD_eq_getElem?_getD]<;>omega) (nx (decide_eq_true (by omega)))
       ·by_cases h7:(((s.getD k 0).toNat:Int)<48)
        ·exact fin hC ZaF (ZtU std s (k:Int)) (by simp[-List.getD_eq_getElem?_getD]<;>omega) (fx (decide_eq_false (by omega))) rfl
        ·by_cases h8:(57<((s.getD k 0).toNat:Int))
         ·exact fin hC ZaF (Zv9 std s (k:Int)) (by simp[-List.getD_eq_getElem?_getD]<;>omega) (fx (decide_eq_false (by omega))) rfl
         ·exact go hC ZaF (Zxx std s (k:Int)) (by simp[-List.getD_eq_getElem?_getD]<;>omega) (nx (decide_eq_true (by omega)))
    ·by_cases h4:((k:Int)=0)
     ·exact fin hC ZaF (ZuY std s (k:Int)) (by simp[-List.getD_eq_getElem?_getD]<;>omega) (fx (decide_eq_false (by omega))) rfl
     ·by_cases h5:(((s.getD k 0).toNat:Int)=45)
      ·exact go hC ZaF (ZuE std s (k:Int)) (by simp[-List.getD_eq_getElem?_getD]<;>omega) (nx (decide_eq_true (by omega)))
      ·by_cases h6:(((s.getD k 0).toNat:Int)<48)
       ·exact fin hC ZaF (ZtY std s (k:Int)) (by simp[-List.getD_eq_getElem?_getD]<;>omega) (fx (decide_eq_false (by omega))) rfl
       ·by_cases h7:(57<((s.getD k 0).toNat:Int))
        ·exact fin hC ZaF (Zvp std s (k:Int)) (by simp[-List.getD_eq_getElem?_getD]<;>omega) (fx (decide_eq_false (by omega))) rfl
        ·exact go hC ZaF (Zxq std s (k:Int)) (by simp[-List.getD_eq_getElem?_getD]<;>omega) (nx (decide_eq_true (by omega)))
  ·omega
theorem Zpv(s:List UInt8)(hl:s.length≤1000000):Zao Tryz.prog 150 [.str s] (.bool (ZaT s)) none:=
 start (Zsh s) fun C hC=>by
  by_cases h1:((s.length:Int)<1)
  ·exact fin hC ZaF (ZAl std s) (by simp;omega) (by simp[ZaT];omega) rfl
  ·by_cases h2:(12<(s.length:Int))
   ·exact fin hC ZaF (ZCb std s) (by simp;omega) (by simp[ZaT];omega) rfl
   ·refine go hC ZaF (Zz1 std s) (by simp;omega) ?_
    have:=ZgY hC s hl s.length 0 (by omega)
    have e:decide (1≤s.length∧s.length≤12)=true:=by simp;omega
    simp only[ZaT,e,Bool.true_and]
    exact this
theorem Zhp{C:Ctx}(hC:C.P=Tryz.prog)(s:List UInt8)(l0:List Int)(hl:l0.length≤4294967296):∀(m k:Nat),k+m=l0.length→Ev C (Zap s l0 (l0.length:Int) (k:Int)) (Zal s l0 (l0.length:Int) (k:Int)) (Zcq 182 (.bool (decide (1≤s.length∧s.length≤12)&&nmR (fun k=>l0.getD k 0) m k)) none)
 |0,k,hk=>by
  by_cases h2:s=[]
  ·exact fin hC ZaF (ZtJ std s l0 l0.length k) (by simp[h2];omega) (by simp[h2]) rfl
  ·have h3:0<s.length:=List.length_pos_iff.2 h2
   exact fin hC ZaF (ZuQ std s l0 l0.length k) (by simp[h2];omega) (by simp only[nmR,Bool.and_true];congr 1;rw[Bool.eq_iff_iff];simp;omega) rfl
 |m+1,k,hk=>by
  have nx:Zz9 k (l0.getD k 0)=true→Ev C (Zap s l0 (l0.length:Int) ((k:Int)+1)) (Zal s l0 (l0.length:Int) ((k:Int)+1)) (Zcq 182 (.bool (decide (1≤s.length∧s.length≤12)&&nmR (fun k=>l0.getD k 0) (m+1) k)) none):=fun h=>by
   have:=Zhp hC s l0 hl m (k+1) (by omega)
   simp only[nmR,h,Bool.true_and]
   exact this
  have fx:Zz9 k (l0.getD k 0)=false→AV.bool false=AV.bool (decide (1≤s.length∧s.length≤12)&&nmR (fun k=>l0.getD k 0) (m+1) k):=fun h=>by simp only[nmR,h,Bool.false_and,Bool.and_false]
  by_cases h1:((k:Int)<(l0.length:Int))
  ·by_cases h2:(97≤(l0.getD k 0))
   ·by_cases h3:((l0.getD k 0)≤122)
    ·exact go hC ZaF (ZyB std s l0 (l0.length:Int) (k:Int)) (by simp[-List.getD_eq_getElem?_getD]<;>omega) (nx (decide_eq_true (by omega)))
    ·by_cases h4:(65≤(l0.getD k 0))
     ·by_cases h5:((l0.getD k 0)≤90)
      ·exact go hC ZaF (Zzc std s l0 (l0.length:Int) (k:Int)) (by simp[-List.getD_eq_getElem?_getD]<;>omega) (nx (decide_eq_true (by omega)))
      ·by_cases h6:((k:Int)=0)
       ·exact fin hC ZaF (ZBx std s l0 (l0.length:Int) (k:Int)) (by simp[-List.getD_eq_getElem?_getD]<;>omega) (fx (decide_eq_false (by omega))) rfl
       ·by_cases h7:((l0.getD k 0)=45)
        ·exact go hC ZaF (ZAW std s l0 (l0.length:Int) (k:Int)) (by simp[-List.getD_eq_getElem?_getD]<;>omega) (nx (decide_eq_true (by omega)))
        ·by_cases h8:((l0.getD k 0)<48)
         ·exact fin hC ZaF (ZBw std s l0 (l0.length:Int) (k:Int)) (by simp[-List.getD_eq_getElem?_getD]<;>omega) (fx (decide_eq_false (by omega))) rfl
         ·by_cases h9:(57<(l0.getD k 0))
          ·exact fin hC ZaF (ZyI std s l0 (l0.length:Int) (k:Int)) (by simp[-List.getD_eq_getElem?_getD]<;>omega) (fx (decide_eq_false (by omega))) rfl
          ·exact go hC ZaF (Zx4 std s l0 (l0.length:Int) (k:Int)) (by simp[-List.getD_eq_getElem?_getD]<;>omega) (nx (decide_eq_true (by omega)))
     ·by_cases h5:((k:Int)=0)
      ·exact fin hC ZaF (Zx3 std s l0 (l0.length:Int) (k:Int)) (by simp[-List.getD_eq_getElem?_getD]<;>omega) (fx (decide_eq_false (by omega))) rfl
      ·by_cases h6:((l0.getD k 0)=45)
       ·exact go hC ZaF (Zww std s l0 (l0.length:Int) (k:Int)) (by simp[-List.getD_eq_getElem?_getD]<;>omega) (nx (decide_eq_true (by omega)))
       ·by_cases h7:((l0.getD k 0)<48)
        ·exact fin hC ZaF (ZAm std s l0 (l0.length:Int) (k:Int)) (by simp[-List.getD_eq_getElem?_getD]<;>omega) (fx (decide_eq_false (by omega))) rfl
        ·by_cases h8:(57<(l0.getD k 0))
         ·exact fin hC ZaF (ZuP std s l0 (l0.length:Int) (k:Int)) (by simp[-List.getD_eq_getElem?_getD]<;>omega) (fx (decide_eq_false (by omega))) rfl
         ·exact go hC ZaF (ZuK std s l0 (l0.length:Int) (k:Int)) (by simp[-List.getD_eq_getElem?_getD]<;>omega) (nx (decide_eq_true (by omega)))
   ·by_cases h3:(65≤(l0.getD k 0))
    ·by_cases h4:((l0.getD k 0)≤90)
     ·exact go hC ZaF (ZwN std s l0 (l0.length:Int) (k:Int)) (by simp[-List.getD_eq_getElem?_getD]<;>omega) (nx (decide_eq_true (by omega)))
     ·by_cases h5:((k:Int)=0)
      ·exact fin hC ZaF (Zvr std s l0 (l0.length:Int) (k:Int)) (by simp[-List.getD_eq_getElem?_getD]<;>omega) (fx (decide_eq_false (by omega))) rfl
      ·by_cases h6:((l0.getD k 0)=45)
       ·exact go hC ZaF (Zum std s l0 (l0.length:Int) (k:Int)) (by simp[-List.getD_eq_getElem?_getD]<;>omega) (nx (decide_eq_true (by omega)))
       ·by_cases h7:((l0.getD k 0)<48)
        ·exact fin hC ZaF (ZxB std s l0 (l0.length:Int) (k:Int)) (by simp[-List.getD_eq_getElem?_getD]<;>omega) (fx (decide_eq_false (by omega))) rfl
        ·by_cases h8:(57<(l0.getD k 0))
         ·exact fin hC ZaF (Zt7 std s l0 (l0.length:Int) (k:Int)) (by simp[-List.getD_eq_getElem?_getD]<;>omega) (fx (decide_eq_false (by omega))) rfl
         ·exact go hC ZaF (Zwc std s l0 (l0.length:Int) (k:Int)) (by simp[-List.getD_eq_getElem?_getD]<;>omega) (nx (decide_eq_true (by omega)))
    ·by_cases h4:((k:Int)=0)
     ·exact fin hC ZaF (ZvZ std s l0 (l0.length:Int) (k:Int)) (by simp[-List.getD_eq_getElem?_getD]<;>omega) (fx (decide_eq_false (by omega))) rfl
     ·by_cases h5:((l0.getD k 0)=45)
      ·exact go hC ZaF (ZvH std s l0 (l0.length:Int) (k:Int)) (by simp[-List.getD_eq_getElem?_getD]<;>omega) (nx (decide_eq_true (by omega)))
      ·by_cases h6:((l0.getD k 0)<48)
       ·exact fin hC ZaF (Zuv std s l0 (l0.length:Int) (k:Int)) (by simp[-List.getD_eq_getElem?_getD]<;>omega) (fx (decide_eq_false (by omega))) rfl
       ·by_cases h7:(57<(l0.getD k 0))
        ·exact fin hC ZaF (Zxs std s l0 (l0.length:Int) (k:Int)) (by simp[-List.getD_eq_getElem?_getD]<;>omega) (fx (decide_eq_false (by omega))) rfl
        ·exact go hC ZaF (Zu0 std s l0 (l0.length:Int) (k:Int)) (by simp[-List.getD_eq_getElem?_getD]<;>omega) (nx (decide_eq_true (by omega)))
  ·by_cases h2:(s=[])
   ·omega
   ·omega
theorem Zo0(s:List UInt8)(hl:s.length≤1000000):Zao Tryz.prog 182 [.str s] (.bool (ZaT s)) none:=
 start (ZqG s) fun C hC=>by
  refine go hC ZaF (Zzh std s) (by simp;omega) ?_
  have:=Zhp hC s (s.map fun b=>(b.toNat:Int)) (by simp;omega) (s.map fun b=>(b.toNat:Int)).length 0 (by simp)
  have e:(fun k=>(s.map fun b=>(b.toNat:Int)).getD k 0)=fun k=>((s.getD k 0).toNat:Int):=by
   funext k
   simp only[List.getD_eq_getElem?_getD,List.getElem?_map]
   cases s[k]?<;>rfl
  have q:(decide (1≤s.length∧s.length≤12)&&nmR (fun k=>(s.map fun b=>(b.toNat:Int)).getD k 0) (s.map fun b=>(b.toNat:Int)).length 0)=ZaT s:=by rw[e,List.length_map];rfl
  rw[q]at this
  exact this
@[simp] theorem Zco (l:List AV):std.lenA l=l.length:=rfl
@[simp] theorem ZsQ (l:List AV) (j:Nat):std.nthA l j=l.getD j .top:=rfl
theorem ZhX{C:Ctx}(hC:C.P=Tryz.prog)(xs:List AV)(s:List UInt8)(hl:xs.length≤1000000):∀(m k:Nat),k+m=xs.length→Ev C (Zcj xs s (k:Int)) (ZbO xs s (k:Int)) (Zcq 151 (.bool (Zhv (xs.drop k) s)) none)
 |0,k,hk=>fin hC ZaF (ZAY std xs s k) (by simp;omega) (by rw[List.drop_of_length_le (by omega)];rfl) rfl
 |m+1,k,hk=>by
  have hd:xs.drop k=xs[k]'(by omega)::xs.drop (k+1):=List.drop_eq_getElem_cons (by omega)
  have hg:xs.getD k .top=xs[k]'(by omega):=by simp[List.getD_eq_getElem?_getD,List.getElem?_eq_getElem (show k<xs.length by omega)]
  by_cases h:(xs.getD k .top).toS=s
  ·exact fin hC ZaF (ZAq std xs s k) (by simp[-List.getD_eq_getElem?_getD,h]<;>omega) (by rw[hd,←hg];simp[-List.getD_eq_getElem?_getD,Zhv,h]) rfl
  ·refine go hC ZaF (ZBs std xs s k) (by simp[-List.getD_eq_getElem?_getD,h]<;>omega) ?_
   have:=ZhX hC xs s hl m (k+1) (by omega)
   rw[hd,←hg]
   have e:Zhv (xs.getD k .top::xs.drop (k+1)) s=Zhv (xs.drop (k+1)) s:=by simp[-List.getD_eq_getElem?_getD,Zhv,h]
   rw[e]
   exact this
theorem Zrk(xs:List AV)(s:List UInt8)(hl:xs.length≤1000000):Zao Tryz.prog 151 [.list (.big .str xs), .str s] (.bool (Zhv xs s)) none:=
 start (ZqB xs s) fun C hC=>go hC ZaF (Zyi std xs s) (by simp) (ZhX hC xs s hl xs.length 0 (by omega))
theorem ZfP{C:Ctx}(hC:C.P=Tryz.prog)(xs:List Int)(hl:xs.length≤1000000):∀(m k:Nat),k+m=xs.length→Ev C (Zdx xs (xs.length:Int) (k:Int)) (ZcM xs (xs.length:Int) (k:Int)) (Zcq 67 (.int .i64 (Zaf (xs.drop k))) none)
 |0,k,hk=>fin hC ZaF (ZDC std xs xs.length k) (by simp;omega) (by rw[List.drop_of_length_le (by omega)];rfl) rfl
 |m+1,k,hk=>by
  have hd:xs.drop k=xs[k]'(by omega)::xs.drop (k+1):=List.drop_eq_getElem_cons (by omega)
  have hg:xs.getD k 0=xs[k]'(by omega):=by simp[List.getD_eq_getElem?_getD,List.getElem?_eq_getElem (show k<xs.length by omega)]
  by_cases h:xs.getD k 0=0
  ·refine go hC ZaF (ZDk std xs xs.length k) (by simp[-List.getD_eq_getElem?_getD,h]<;>omega) ?_
   have:=ZfP hC xs hl m (k+1) (by omega)
   rw[hd,←hg,Zaf,if_pos h]
   exact this
  ·exact fin hC ZaF (ZDe std xs xs.length k) (by simp[-List.getD_eq_getElem?_getD,h]<;>omega) (by rw[hd,←hg,Zaf,if_neg h];rfl) rfl
theorem ZnY(xs:List Int)(hl:xs.length≤1000000):Zao Tryz.prog 67 [.list (.ints .i64 xs)] (.int .i64 (Zaf xs)) none:=
 start (ZvK xs) fun C hC=>go hC ZaF (ZCZ std xs) (by simp) (ZfP hC xs hl xs.length 0 (by omega))
end Go.Proofs.YtkeoeooghhjibaaGreatDoor
/- Contracts as a list. No condition. -/
namespace Go.Proofs.YtkeoeooghhjibaaGreatDoor
def k41:Ctr:=⟨41,0,fun _ a=>match a with |[.int .i64 n, .int .i64 a, .int .i64 b]=>some (true, .bool (Zab n a b),none) |_=>none⟩
theorem ZyU:k41.OK Tryz.prog:=fun pa args r fr h=>by
 simp only[k41]at h
 split at h
 ·cases h
  exact Zll _ _ _
 ·cases h
def k82:Ctr:=⟨82,0,fun _ a=>match a with |[.int .i64 n, .int .i64 a, .int .i64 b]=>some (true, .bool (Zab n a b),none) |_=>none⟩
theorem ZCs:k82.OK Tryz.prog:=fun pa args r fr h=>by
 simp only[k82]at h
 split at h
 ·cases h
  exact ZlT _ _ _
 ·cases h
def k68:Ctr:=⟨68,0,fun _ a=>match a with |[.bool b, .int .i64 e]=>some (true, .int .i64 (Zaa b e),none) |_=>none⟩
theorem ZBn:k68.OK Tryz.prog:=fun pa args r fr h=>by
 simp only[k68]at h
 split at h
 ·cases h
  exact ZlB _ _
 ·cases h
def k161:Ctr:=⟨161,0,fun _ a=>match a with |[.int .i64 _]=>some (true, .int .i64 0,none) |_=>none⟩
theorem Zu2:k161.OK Tryz.prog:=fun pa args r fr h=>by
 simp only[k161]at h
 split at h
 ·cases h
  exact ZoO _
 ·cases h
def k150:Ctr:=⟨150,0,fun _ a=>match a with |[.str s]=>some (decide (s.length≤1000000), .bool (ZaT s),none) |_=>none⟩
theorem ZtK:k150.OK Tryz.prog:=fun pa args r fr h=>by
 simp only[k150]at h
 split at h
 ·simp only[Option.some.injEq,Prod.mk.injEq,decide_eq_true_eq]at h
  obtain⟨h0,rfl,rfl⟩:=h
  exact Zpv _ h0
 ·cases h
def k182:Ctr:=⟨182,0,fun _ a=>match a with |[.str s]=>some (decide (s.length≤1000000), .bool (ZaT s),none) |_=>none⟩
theorem Zwm:k182.OK Tryz.prog:=fun pa args r fr h=>by
 simp only[k182]at h
 split at h
 ·simp only[Option.some.injEq,Prod.mk.injEq,decide_eq_true_eq]at h
  obtain⟨h0,rfl,rfl⟩:=h
  exact Zo0 _ h0
 ·cases h
def k151:Ctr:=⟨151,0,fun _ a=>match a with |[.list (.big .str xs), .str s]=>some (decide (xs.length≤1000000), .bool (Zhv xs s),none) |_=>none⟩
theorem ZuN:k151.OK Tryz.prog:=fun pa args r fr h=>by
 simp only[k151]at h
 split at h
 ·simp only[Option.some.injEq,Prod.mk.injEq,decide_eq_true_eq]at h
  obtain⟨h0,rfl,rfl⟩:=h
  exact Zrk _ _ h0
 ·cases h
def k67:Ctr:=⟨67,0,fun _ a=>match a with |[.list (.ints .i64 xs)]=>some (decide (xs.length≤1000000), .int .i64 (Zaf xs),none) |_=>none⟩
theorem ZBQ:k67.OK Tryz.prog:=fun pa args r fr h=>by
 simp only[k67]at h
 split at h
 ·simp only[Option.some.injEq,Prod.mk.injEq,decide_eq_true_eq]at h
  obtain⟨h0,rfl,rfl⟩:=h
  exact ZnY _ h0
 ·cases h
def B1:List Ctr:=[k41,k82,k68,k161,k150,k182,k151,k67]
theorem Zlg:ZaD Tryz.prog B1:=⟨ZyU,⟨ZCs,⟨ZBn,⟨Zu2,⟨ZtK,⟨Zwm,⟨ZuN,⟨ZBQ,trivial⟩⟩⟩⟩⟩⟩⟩⟩
end Go.Proofs.YtkeoeooghhjibaaGreatDoor
/- Paths of functions, printed by the explorer (Gx). No condition. -/
namespace Go.Proofs.YtkeoeooghhjibaaGreatDoor
set_option maxRecDepth 100000
set_option linter.unusedVariables false
def Ztx(n m:Int):AFrame:={ fn:=158,N:=13,env:=[(0,AV.int .i64 n),(1,AV.int .i64 m)],todo:=[.code a158.code],defs:=[],rnd:=none,ret:=false,res:=[ARes.tmp 4] }
def ZAt(n m:Int):List AFrame:=[(Ztx n m)]
theorem Zro(n m:Int):Zat tab 158 [AV.int .i64 n,AV.int .i64 m]=some (Ztx n m):=rfl
theorem ZyW(A:Ar)(n m:Int):Za1 A tab B1 18 [true,true,true,true,true] 158 (ZAt n m) []=
 some (tr [11,4] [A.eq n (-1)],
  AV.bool true,none):=by kernel_rfl
theorem ZCt(A:Ar)(n m:Int):Za1 A tab B1 18 [false,false,false,false,false] 158 (ZAt n m) []=
 some (tr [6,4,4] [A.inR .i64 (A.sub m 1),!A.eq n (-1)],
  AV.bool (Zab n 0 (A.sub m 1)),none):=by kernel_rfl
def Zsz(ms ks rs:List AV)(i:Int):AFrame:={ fn:=160,N:=9,env:=[(0,AV.int .i64 i),(1,AV.eptr (AV.agg (Row.gen [.list (Row.big .str ms), .list (Row.big (.agg [.str, .int .i64]) ks), .list (Row.big (.agg [.str, .int .i64, .int .i64, .int .i64, .int .i64]) rs)])) 0)],todo:=[.code a160.code],defs:=[],rnd:=none,ret:=false,res:=[ARes.tmp 3] }
def ZDl(ms ks rs:List AV)(i:Int):List AFrame:=[(Zsz ms ks rs i)]
theorem Zq5(ms ks rs:List AV)(i:Int):Zat tab 160 [AV.int .i64 i,AV.eptr (AV.agg (Row.gen [.list (Row.big .str ms), .list (Row.big (.agg [.str, .int .i64]) ks), .list (Row.big (.agg [.str, .int .i64, .int .i64, .int .i64, .int .i64]) rs)])) 0]=some (Zsz ms ks rs i):=rfl
theorem ZBM(A:Ar)(ms ks rs:List AV)(i:Int):Za1 A tab B1 14 [] 160 (ZDl ms ks rs i) []=
 some (tr [3,4] [Zah (Zah (A.le 0 i) (Nat.blt (A.nat i) (A.lenA ms))) true],
  AV.str (AV.toS (A.nthA ms (A.nat i))),none):=by kernel_rfl
def ZsT(ms ks rs:List AV)(i:Int):AFrame:={ fn:=162,N:=10,env:=[(0,AV.int .i64 i),(1,AV.eptr (AV.agg (Row.gen [.list (Row.big .str ms), .list (Row.big (.agg [.str, .int .i64]) ks), .list (Row.big (.agg [.str, .int .i64, .int .i64, .int .i64, .int .i64]) rs)])) 0)],todo:=[.code a162.code],defs:=[],rnd:=none,ret:=false,res:=[ARes.tmp 3] }
def ZDb(ms ks rs:List AV)(i:Int):List AFrame:=[(ZsT ms ks rs i)]
theorem ZrZ(ms ks rs:List AV)(i:Int):Zat tab 162 [AV.int .i64 i,AV.eptr (AV.agg (Row.gen [.list (Row.big .str ms), .list (Row.big (.agg [.str, .int .i64]) ks), .list (Row.big (.agg [.str, .int .i64, .int .i64, .int .i64, .int .i64]) rs)])) 0]=some (ZsT ms ks rs i):=rfl
theorem ZCq(A:Ar)(ms ks rs:List AV)(i:Int):Za1 A tab B1 16 [] 162 (ZDb ms ks rs i) []=
 some (tr [4,4] [Zah (Zah (A.le 0 i) (Nat.blt (A.nat i) (A.lenA ks))) true],
  AV.str ((A.nthA ks (A.nat i)).cellAt 0).toS,none):=by kernel_rfl
def Ztt(ms ks rs:List AV)(i:Int):AFrame:={ fn:=164,N:=10,env:=[(0,AV.int .i64 i),(1,AV.eptr (AV.agg (Row.gen [.list (Row.big .str ms), .list (Row.big (.agg [.str, .int .i64]) ks), .list (Row.big (.agg [.str, .int .i64, .int .i64, .int .i64, .int .i64]) rs)])) 0)],todo:=[.code a164.code],defs:=[],rnd:=none,ret:=false,res:=[ARes.tmp 3] }
def ZCS(ms ks rs:List AV)(i:Int):List AFrame:=[(Ztt ms ks rs i)]
theorem Zrf(ms ks rs:List AV)(i:Int):Zat tab 164 [AV.int .i64 i,AV.eptr (AV.agg (Row.gen [.list (Row.big .str ms), .list (Row.big (.agg [.str, .int .i64]) ks), .list (Row.big (.agg [.str, .int .i64, .int .i64, .int .i64, .int .i64]) rs)])) 0]=some (Ztt ms ks rs i):=rfl
theorem ZB6(A:Ar)(ms ks rs:List AV)(i:Int):Za1 A tab B1 16 [] 164 (ZCS ms ks rs i) []=
 some (tr [4,4] [Zah (Zah (A.le 0 i) (Nat.blt (A.nat i) (A.lenA rs))) true],
  AV.str ((A.nthA rs (A.nat i)).cellAt 0).toS,none):=by kernel_rfl
def ZAC(xs:List AV):AFrame:={ fn:=75,N:=6,env:=[(0,AV.list (Row.big .str xs))],todo:=[.code a75.code],defs:=[],rnd:=none,ret:=false,res:=[ARes.tmp 2] }
def ZHz(xs:List AV):List AFrame:=[(ZAC xs)]
theorem Zxj(xs:List AV):Zat tab 75 [AV.list (Row.big .str xs)]=some (ZAC xs):=rfl
theorem ZDa(A:Ar)(xs:List AV):Za1 A tab B1 12 [] 75 (ZHz xs) []=
 some (tr [2,3] [Nat.ble (A.lenA xs) 4294967296],
  AV.list (Row.big .str xs),none):=by kernel_rfl
end Go.Proofs.YtkeoeooghhjibaaGreatDoor
/- Contracts as a list. No condition. -/
namespace Go.Proofs.YtkeoeooghhjibaaGreatDoor
def ZhA(n m:Int):Bool:=if n= -1 then true else Zab n 0 (m-1)
def Za6(ms:List AV)(i:Int):List UInt8:=(ms.getD i.toNat .top).toS
def Zay(ks:List AV)(i:Int):List UInt8:=((ks.getD i.toNat .top).cellAt 0).toS
theorem ZrF(n m:Int)(h: -1000000≤m∧m≤1000000):Zao Tryz.prog 158 [.int .i64 n, .int .i64 m] (.bool (ZhA n m)) none:=
 start (Zro n m) fun C hC=>by
  by_cases h1:n= -1
  ·exact fin hC Zlg (ZyW std n m) (by simp[h1]) (by simp[ZhA,h1]) rfl
  ·exact fin hC Zlg (ZCt std n m) (by simp[h1];omega) (by simp[ZhA,h1]) rfl
theorem Zpz(ms ks rs:List AV)(i:Int)(h:0≤i∧i<ms.length):Zao Tryz.prog 160 [.int .i64 i, .eptr (.agg (.gen [.list (.big .str ms), .list (.big (.agg [.str, .int .i64]) ks), .list (.big (.agg [.str, .int .i64, .int .i64, .int .i64, .int .i64]) rs)])) 0] (.str (Za6 ms i)) none:=
 start (Zq5 ms ks rs i) fun C hC=>fin hC Zlg (ZBM std ms ks rs i) (by simp;omega) rfl rfl
theorem Zoj(ms ks rs:List AV)(i:Int)(h:0≤i∧i<ks.length):Zao Tryz.prog 162 [.int .i64 i, .eptr (.agg (.gen [.list (.big .str ms), .list (.big (.agg [.str, .int .i64]) ks), .list (.big (.agg [.str, .int .i64, .int .i64, .int .i64, .int .i64]) rs)])) 0] (.str (Zay ks i)) none:=
 start (ZrZ ms ks rs i) fun C hC=>fin hC Zlg (ZCq std ms ks rs i) (by simp;omega) rfl rfl
theorem Zqe(ms ks rs:List AV)(i:Int)(h:0≤i∧i<rs.length):Zao Tryz.prog 164 [.int .i64 i, .eptr (.agg (.gen [.list (.big .str ms), .list (.big (.agg [.str, .int .i64]) ks), .list (.big (.agg [.str, .int .i64, .int .i64, .int .i64, .int .i64]) rs)])) 0] (.str (Zay rs i)) none:=
 start (Zrf ms ks rs i) fun C hC=>fin hC Zlg (ZB6 std ms ks rs i) (by simp;omega) rfl rfl
theorem Zo7(xs:List AV)(h:xs.length≤1000000):Zao Tryz.prog 75 [.list (.big .str xs)] (.list (.big .str xs)) none:=
 start (Zxj xs) fun C hC=>fin hC Zlg (ZDa std xs) (by simp;omega) rfl rfl
def k158:Ctr:=⟨158,0,fun _ a=>match a with |[.int .i64 n, .int .i64 m]=>some (decide (-1000000≤m∧m≤1000000), .bool (ZhA n m),none) |_=>none⟩
theorem ZvS:k158.OK Tryz.prog:=fun pa args r fr h=>by
 simp only[k158]at h
 split at h
 ·simp only[Option.some.injEq,Prod.mk.injEq,decide_eq_true_eq]at h
  obtain⟨h0,rfl,rfl⟩:=h
  exact ZrF _ _ h0
 ·cases h
def k160:Ctr:=⟨160,0,fun _ a=>match a with |[.int .i64 i, .eptr (.agg (.gen [.list (.big .str ms), .list (.big (.agg [.str, .int .i64]) ks), .list (.big (.agg [.str, .int .i64, .int .i64, .int .i64, .int .i64]) rs)])) 0]=>some (decide (0≤i∧i<ms.length), .str (Za6 ms i),none) |_=>none⟩
theorem ZwE:k160.OK Tryz.prog:=fun pa args r fr h=>by
 simp only[k160]at h
 split at h
 ·simp only[Option.some.injEq,Prod.mk.injEq,decide_eq_true_eq]at h
  obtain⟨h0,rfl,rfl⟩:=h
  exact Zpz _ _ _ _ h0
 ·cases h
def k162:Ctr:=⟨162,0,fun _ a=>match a with |[.int .i64 i, .eptr (.agg (.gen [.list (.big .str ms), .list (.big (.agg [.str, .int .i64]) ks), .list (.big (.agg [.str, .int .i64, .int .i64, .int .i64, .int .i64]) rs)])) 0]=>some (decide (0≤i∧i<ks.length), .str (Zay ks i),none) |_=>none⟩
theorem ZuJ:k162.OK Tryz.prog:=fun pa args r fr h=>by
 simp only[k162]at h
 split at h
 ·simp only[Option.some.injEq,Prod.mk.injEq,decide_eq_true_eq]at h
  obtain⟨h0,rfl,rfl⟩:=h
  exact Zoj _ _ _ _ h0
 ·cases h
def k164:Ctr:=⟨164,0,fun _ a=>match a with |[.int .i64 i, .eptr (.agg (.gen [.list (.big .str ms), .list (.big (.agg [.str, .int .i64]) ks), .list (.big (.agg [.str, .int .i64, .int .i64, .int .i64, .int .i64]) rs)])) 0]=>some (decide (0≤i∧i<rs.length), .str (Zay rs i),none) |_=>none⟩
theorem Zua:k164.OK Tryz.prog:=fun pa args r fr h=>by
 simp only[k164]at h
 split at h
 ·simp only[Option.some.injEq,Prod.mk.injEq,decide_eq_true_eq]at h
  obtain⟨h0,rfl,rfl⟩:=h
  exact Zqe _ _ _ _ h0
 ·cases h
def k75:Ctr:=⟨75,0,fun _ a=>match a with |[.list (.big .str xs)]=>some (decide (xs.length≤1000000), .list (.big .str xs),none) |_=>none⟩
theorem Zzf:k75.OK Tryz.prog:=fun pa args r fr h=>by
 simp only[k75]at h
 split at h
 ·simp only[Option.some.injEq,Prod.mk.injEq,decide_eq_true_eq]at h
  obtain⟨h0,rfl,rfl⟩:=h
  exact Zo7 _ h0
 ·cases h
def B2:List Ctr:=[k158,k160,k162,k164,k75]++B1
theorem Zhz:ZaD Tryz.prog B2:=⟨ZvS,⟨ZwE,⟨ZuJ,⟨Zua,⟨Zzf,Zlg⟩⟩⟩⟩⟩
end Go.Proofs.YtkeoeooghhjibaaGreatDoor
/- Paths of functions, printed by the explorer (Gx). No condition. -/
namespace Go.Proofs.YtkeoeooghhjibaaGreatDoor
set_option maxRecDepth 100000
set_option linter.unusedVariables false
def ZsB(ms ks rs:List AV)(i k:Int):AFrame:={ fn:=163,N:=16,env:=[(0,AV.int .i64 i),(1,AV.eptr (AV.fn 158 []) 0),(2,AV.eptr (AV.agg (Row.gen [.list (Row.big .str ms), .list (Row.big (.agg [.str, .int .i64]) ks), .list (Row.big (.agg [.str, .int .i64, .int .i64, .int .i64, .int .i64]) rs)])) 0),(3,AV.eptr (AV.int .i64 k) 0)],todo:=[.code a163.code],defs:=[],rnd:=none,ret:=false,res:=[ARes.tmp 5] }
def ZD6(ms ks rs:List AV)(i k:Int):List AFrame:=[(ZsB ms ks rs i k)]
theorem Zq3(ms ks rs:List AV)(i k:Int):Zat tab 163 [AV.int .i64 i,AV.eptr (AV.fn 158 []) 0,AV.eptr (AV.agg (Row.gen [.list (Row.big .str ms), .list (Row.big (.agg [.str, .int .i64]) ks), .list (Row.big (.agg [.str, .int .i64, .int .i64, .int .i64, .int .i64]) rs)])) 0,AV.eptr (AV.int .i64 k) 0]=some (ZsB ms ks rs i k):=rfl
theorem ZxV(A:Ar)(ms ks rs:List AV)(i k:Int):Za1 A tab B2 8 [] 163 (ZD6 ms ks rs i k) []=
 some (tr [3,3,5] [decide (-1000000≤k∧k≤1000000),Zah (Zah (A.le 0 i) (Nat.blt (A.nat i) (A.lenA ks))) true],
  AV.int .i64 (Zaa (ZhA ((A.nthA ks (A.nat i)).cellAt 1).toI k) 6),none):=by kernel_rfl
def ZsO(ms ks rs:List AV)(i n m:Int):AFrame:={ fn:=165,N:=48,env:=[(0,AV.int .i64 i),(1,AV.eptr (AV.agg (Row.gen [.list (Row.big .str ms), .list (Row.big (.agg [.str, .int .i64]) ks), .list (Row.big (.agg [.str, .int .i64, .int .i64, .int .i64, .int .i64]) rs)])) 0),(2,AV.eptr (AV.int .i64 n) 0),(3,AV.eptr (AV.fn 158 []) 0),(4,AV.eptr (AV.int .i64 m) 0)],todo:=[.code a165.code],defs:=[],rnd:=none,ret:=false,res:=[ARes.tmp 6] }
def Znh(ms ks rs:List AV)(i n m:Int):List AFrame:=[(ZsO ms ks rs i n m)]
theorem Zrr(ms ks rs:List AV)(i n m:Int):Zat tab 165 [AV.int .i64 i,AV.eptr (AV.agg (Row.gen [.list (Row.big .str ms), .list (Row.big (.agg [.str, .int .i64]) ks), .list (Row.big (.agg [.str, .int .i64, .int .i64, .int .i64, .int .i64]) rs)])) 0,AV.eptr (AV.int .i64 n) 0,AV.eptr (AV.fn 158 []) 0,AV.eptr (AV.int .i64 m) 0]=some (ZsO ms ks rs i n m):=rfl
theorem ZyT(A:Ar)(ms ks rs:List AV)(i n m:Int):Za1 A tab B2 18 [true,true,true] 165 (Znh ms ks rs i n m) []=
 some (tr [2,0,5,10,4,2,4,2,6,4] [decide (List.length [Zaa (ZhA ((A.nthA rs (A.nat i)).cellAt 3).toI n) 6,Zaa (Zab ((A.nthA rs (A.nat i)).cellAt 4).toI 1 1000000) 2,0]≤1000000),List.all [AV.int .i64 (Zaa (ZhA ((A.nthA rs (A.nat i)).cellAt 3).toI n) 6),AV.int .i64 (Zaa (Zab ((A.nthA rs (A.nat i)).cellAt 4).toI 1 1000000) 2),AV.int .i64 0] fun x=>AV.bx x&&Nat.beq (Zad A x) 1,A.not (A.eq ((A.nthA rs (A.nat i)).cellAt 3).toI (-1)),decide (-1000000≤n∧n≤1000000),ZhA ((A.nthA rs (A.nat i)).cellAt 2).toI m,decide (-1000000≤m∧m≤1000000),Zab ((A.nthA rs (A.nat i)).cellAt 1).toI 0 (A.sub n 1),A.inR .i64 (A.sub n 1),Zah (Zah (A.le 0 i) (Nat.blt (A.nat i) (A.lenA rs))) true],
  AV.int .i64 (Zaf [Zaa (ZhA ((A.nthA rs (A.nat i)).cellAt 3).toI n) 6,Zaa (Zab ((A.nthA rs (A.nat i)).cellAt 4).toI 1 1000000) 2,0]),none):=by kernel_rfl
theorem ZAJ(A:Ar)(ms ks rs:List AV)(i n m:Int):Za1 A tab B2 18 [true,true,false] 165 (Znh ms ks rs i n m) []=
 some (tr [2,0,5,10,4,2,4,2,6,4] [decide (List.length [Zaa (ZhA ((A.nthA rs (A.nat i)).cellAt 3).toI n) 6,Zaa (Zab ((A.nthA rs (A.nat i)).cellAt 4).toI 1 1000000) 2,Zaa (A.eq ((A.nthA rs (A.nat i)).cellAt 4).toI 1) 3]≤1000000),List.all [AV.int .i64 (Zaa (ZhA ((A.nthA rs (A.nat i)).cellAt 3).toI n) 6),AV.int .i64 (Zaa (Zab ((A.nthA rs (A.nat i)).cellAt 4).toI 1 1000000) 2),AV.int .i64 (Zaa (A.eq ((A.nthA rs (A.nat i)).cellAt 4).toI 1) 3)] fun x=>AV.bx x&&Nat.beq (Zad A x) 1,!A.not (A.eq ((A.nthA rs (A.nat i)).cellAt 3).toI (-1)),decide (-1000000≤n∧n≤1000000),ZhA ((A.nthA rs (A.nat i)).cellAt 2).toI m,decide (-1000000≤m∧m≤1000000),Zab ((A.nthA rs (A.nat i)).cellAt 1).toI 0 (A.sub n 1),A.inR .i64 (A.sub n 1),Zah (Zah (A.le 0 i) (Nat.blt (A.nat i) (A.lenA rs))) true],
  AV.int .i64 (Zaf [Zaa (ZhA ((A.nthA rs (A.nat i)).cellAt 3).toI n) 6,Zaa (Zab ((A.nthA rs (A.nat i)).cellAt 4).toI 1 1000000) 2,Zaa (A.eq ((A.nthA rs (A.nat i)).cellAt 4).toI 1) 3]),none):=by kernel_rfl
theorem ZzX(A:Ar)(ms ks rs:List AV)(i n m:Int):Za1 A tab B2 18 [true,false,true] 165 (Znh ms ks rs i n m) []=
 some (tr [2,0,5,15,2,4,2,6,4] [decide (List.length [6,Zaa (Zab ((A.nthA rs (A.nat i)).cellAt 4).toI 1 1000000) 2,0]≤1000000),List.all [AV.int .i64 6,AV.int .i64 (Zaa (Zab ((A.nthA rs (A.nat i)).cellAt 4).toI 1 1000000) 2),AV.int .i64 0] fun x=>AV.bx x&&Nat.beq (Zad A x) 1,A.not (A.eq ((A.nthA rs (A.nat i)).cellAt 3).toI (-1)),!ZhA ((A.nthA rs (A.nat i)).cellAt 2).toI m,decide (-1000000≤m∧m≤1000000),Zab ((A.nthA rs (A.nat i)).cellAt 1).toI 0 (A.sub n 1),A.inR .i64 (A.sub n 1),Zah (Zah (A.le 0 i) (Nat.blt (A.nat i) (A.lenA rs))) true],
  AV.int .i64 (Zaf [6,Zaa (Zab ((A.nthA rs (A.nat i)).cellAt 4).toI 1 1000000) 2,0]),none):=by kernel_rfl
theorem Zzi(A:Ar)(ms ks rs:List AV)(i n m:Int):Za1 A tab B2 18 [true,false,false] 165 (Znh ms ks rs i n m) []=
 some (tr [2,0,5,15,2,4,2,6,4] [decide (List.length [6,Zaa (Zab ((A.nthA rs (A.nat i)).cellAt 4).toI 1 1000000) 2,Zaa (A.eq ((A.nthA rs (A.nat i)).cellAt 4).toI 1) 3]≤1000000),List.all [AV.int .i64 6,AV.int .i64 (Zaa (Zab ((A.nthA rs (A.nat i)).cellAt 4).toI 1 1000000) 2),AV.int .i64 (Zaa (A.eq ((A.nthA rs (A.nat i)).cellAt 4).toI 1) 3)] fun x=>AV.bx x&&Nat.beq (Zad A x) 1,!A.not (A.eq ((A.nthA rs (A.nat i)).cellAt 3).toI (-1)),!ZhA ((A.nthA rs (A.nat i)).cellAt 2).toI m,decide (-1000000≤m∧m≤1000000),Zab ((A.nthA rs (A.nat i)).cellAt 1).toI 0 (A.sub n 1),A.inR .i64 (A.sub n 1),Zah (Zah (A.le 0 i) (Nat.blt (A.nat i) (A.lenA rs))) true],
  AV.int .i64 (Zaf [6,Zaa (Zab ((A.nthA rs (A.nat i)).cellAt 4).toI 1 1000000) 2,Zaa (A.eq ((A.nthA rs (A.nat i)).cellAt 4).toI 1) 3]),none):=by kernel_rfl
theorem ZyN(A:Ar)(ms ks rs:List AV)(i n m:Int):Za1 A tab B2 18 [false,false,true] 165 (Znh ms ks rs i n m) []=
 some (tr [2,0,5,23,2,6,4] [decide (List.length [6,Zaa (Zab ((A.nthA rs (A.nat i)).cellAt 4).toI 1 1000000) 2,0]≤1000000),List.all [AV.int .i64 6,AV.int .i64 (Zaa (Zab ((A.nthA rs (A.nat i)).cellAt 4).toI 1 1000000) 2),AV.int .i64 0] fun x=>AV.bx x&&Nat.beq (Zad A x) 1,A.not (A.eq ((A.nthA rs (A.nat i)).cellAt 3).toI (-1)),!Zab ((A.nthA rs (A.nat i)).cellAt 1).toI 0 (A.sub n 1),A.inR .i64 (A.sub n 1),Zah (Zah (A.le 0 i) (Nat.blt (A.nat i) (A.lenA rs))) true],
  AV.int .i64 (Zaf [6,Zaa (Zab ((A.nthA rs (A.nat i)).cellAt 4).toI 1 1000000) 2,0]),none):=by kernel_rfl
theorem Zyk(A:Ar)(ms ks rs:List AV)(i n m:Int):Za1 A tab B2 18 [false,false,false] 165 (Znh ms ks rs i n m) []=
 some (tr [2,0,5,23,2,6,4] [decide (List.length [6,Zaa (Zab ((A.nthA rs (A.nat i)).cellAt 4).toI 1 1000000) 2,Zaa (A.eq ((A.nthA rs (A.nat i)).cellAt 4).toI 1) 3]≤1000000),List.all [AV.int .i64 6,AV.int .i64 (Zaa (Zab ((A.nthA rs (A.nat i)).cellAt 4).toI 1 1000000) 2),AV.int .i64 (Zaa (A.eq ((A.nthA rs (A.nat i)).cellAt 4).toI 1) 3)] fun x=>AV.bx x&&Nat.beq (Zad A x) 1,!A.not (A.eq ((A.nthA rs (A.nat i)).cellAt 3).toI (-1)),!Zab ((A.nthA rs (A.nat i)).cellAt 1).toI 0 (A.sub n 1),A.inR .i64 (A.sub n 1),Zah (Zah (A.le 0 i) (Nat.blt (A.nat i) (A.lenA rs))) true],
  AV.int .i64 (Zaf [6,Zaa (Zab ((A.nthA rs (A.nat i)).cellAt 4).toI 1 1000000) 2,Zaa (A.eq ((A.nthA rs (A.nat i)).cellAt 4).toI 1) 3]),none):=by kernel_rfl
def ZAE(ms ks rs:List AV):AFrame:={ fn:=25,N:=15,env:=[(0,AV.agg (Row.gen [.list (Row.big .str ms), .list (Row.big (.agg [.str, .int .i64]) ks), .list (Row.big (.agg [.str, .int .i64, .int .i64, .int .i64, .int .i64]) rs)]))],todo:=[.code a25.code],defs:=[],rnd:=none,ret:=false,res:=[ARes.cell 2 true 3] }
def ZIk(ms ks rs:List AV):List AFrame:=[(ZAE ms ks rs)]
theorem Zt9(ms ks rs:List AV):Zat tab 25 [AV.agg (Row.gen [.list (Row.big .str ms), .list (Row.big (.agg [.str, .int .i64]) ks), .list (Row.big (.agg [.str, .int .i64, .int .i64, .int .i64, .int .i64]) rs)])]=some (ZAE ms ks rs):=rfl
theorem ZEL(A:Ar)(ms ks rs:List AV):Za1 A tab B2 9 [] 25 (ZIk ms ks rs) []=
 some (tr [3,3,3,4] [Nat.ble (A.lenA rs) 4294967296,Nat.ble (A.lenA ks) 4294967296,decide (List.length ms≤1000000)],
  AV.agg (Row.gen [.list (Row.big .str ms), .list (Row.big (.agg [.str, .int .i64]) ks), .list (Row.big (.agg [.str, .int .i64, .int .i64, .int .i64, .int .i64]) rs)]),none):=by kernel_rfl
def ZAF(l:List AV):AFrame:={ fn:=26,N:=6,env:=[(0,AV.list (Row.big (.agg [.int .i64, .int .i64, .int .i64]) l))],todo:=[.code a26.code],defs:=[],rnd:=none,ret:=false,res:=[ARes.tmp 2] }
def ZHJ(l:List AV):List AFrame:=[(ZAF l)]
theorem Zuc(l:List AV):Zat tab 26 [AV.list (Row.big (.agg [.int .i64, .int .i64, .int .i64]) l)]=some (ZAF l):=rfl
theorem ZCN(A:Ar)(l:List AV):Za1 A tab B2 12 [] 26 (ZHJ l) []=
 some (tr [2,3] [Nat.ble (A.lenA l) 4294967296],
  AV.list (Row.big (.agg [.int .i64, .int .i64, .int .i64]) l),none):=by kernel_rfl
end Go.Proofs.YtkeoeooghhjibaaGreatDoor
/- Contracts as a list. No condition. -/
namespace Go.Proofs.YtkeoeooghhjibaaGreatDoor
def Zaj(xs:List AV)(i:Int)(j:Nat):Int:=((xs.getD i.toNat .top).cellAt j).toI
def ZcO(ks:List AV)(i k:Int):Int:=Zaa (ZhA (Zaj ks i 1) k) 6
def ZbQ(rs:List AV)(i n m:Int):Int:=Zaf [Zaa (Zab (Zaj rs i 1) 0 (n-1)&&ZhA (Zaj rs i 2) m&&ZhA (Zaj rs i 3) n) 6,Zaa (Zab (Zaj rs i 4) 1 1000000) 2,Zaa (decide (Zaj rs i 3≠ -1∨Zaj rs i 4=1)) 3]
theorem Zok(ms ks rs:List AV)(i k:Int)(h:(0≤i∧i<ks.length)∧ -1000000≤k∧k≤1000000):Zao Tryz.prog 163 [.int .i64 i, .eptr (.fn 158 []) 0, .eptr (.agg (.gen [.list (.big .str ms), .list (.big (.agg [.str, .int .i64]) ks), .list (.big (.agg [.str, .int .i64, .int .i64, .int .i64, .int .i64]) rs)])) 0, .eptr (.int .i64 k) 0] (.int .i64 (ZcO ks i k)) none:=
 start (Zq3 ms ks rs i k) fun C hC=>fin hC Zhz (ZxV std ms ks rs i k) (by simp;omega) rfl rfl
theorem Zqh(ms ks rs:List AV)(i n m:Int)(h:(0≤i∧i<rs.length)∧(-1000000≤n∧n≤1000000)∧ -1000000≤m∧m≤1000000):Zao Tryz.prog 165 [.int .i64 i, .eptr (.agg (.gen [.list (.big .str ms), .list (.big (.agg [.str, .int .i64]) ks), .list (.big (.agg [.str, .int .i64, .int .i64, .int .i64, .int .i64]) rs)])) 0, .eptr (.int .i64 n) 0, .eptr (.fn 158 []) 0, .eptr (.int .i64 m) 0] (.int .i64 (ZbQ rs i n m)) none:=
 start (Zrr ms ks rs i n m) fun C hC=>by
  have hb:∀x y z:Int,([AV.int .i64 x,AV.int .i64 y,AV.int .i64 z].all fun x=>AV.bx x&&Nat.beq (Zad std x) 1)=true:=fun _ _ _=>rfl
  have e1:((rs.getD i.toNat .top).cellAt 1).toI=Zaj rs i 1:=rfl
  have e2:((rs.getD i.toNat .top).cellAt 2).toI=Zaj rs i 2:=rfl
  have e3:((rs.getD i.toNat .top).cellAt 3).toI=Zaj rs i 3:=rfl
  have e4:((rs.getD i.toNat .top).cellAt 4).toI=Zaj rs i 4:=rfl
  have hi:i.toNat<rs.length:=by omega
  by_cases h1:Zab (Zaj rs i 1) 0 (n-1)=true
  ·by_cases h2:ZhA (Zaj rs i 2) m=true
   ·by_cases h3:Zaj rs i 3= -1
    ·exact fin hC Zhz (ZAJ std ms ks rs i n m) (by simp only[hb];simp[-List.getD_eq_getElem?_getD,e1,e2,e3,e4,h1,h2,h3];omega) (by simp[-List.getD_eq_getElem?_getD,ZbQ,e1,e2,e3,e4,h1,h2,h3]) rfl
    ·exact fin hC Zhz (ZyT std ms ks rs i n m) (by simp only[hb];simp[-List.getD_eq_getElem?_getD,e1,e2,e3,e4,h1,h2,h3];omega) (by simp[-List.getD_eq_getElem?_getD,ZbQ,e1,e2,e3,e4,h1,h2,h3,Zaa]) rfl
   ·by_cases h3:Zaj rs i 3= -1
    ·exact fin hC Zhz (Zzi std ms ks rs i n m) (by simp only[hb];simp[-List.getD_eq_getElem?_getD,e1,e2,e3,e4,h1,h2,h3];omega) (by simp[-List.getD_eq_getElem?_getD,ZbQ,e1,e2,e3,e4,h1,h2,h3,Zaa]) rfl
    ·exact fin hC Zhz (ZzX std ms ks rs i n m) (by simp only[hb];simp[-List.getD_eq_getElem?_getD,e1,e2,e3,e4,h1,h2,h3];omega) (by simp[-List.getD_eq_getElem?_getD,ZbQ,e1,e2,e3,e4,h1,h2,h3,Zaa]) rfl
  ·by_cases h3:Zaj rs i 3= -1
   ·exact fin hC Zhz (Zyk std ms ks rs i n m) (by simp only[hb];simp[-List.getD_eq_getElem?_getD,e1,e2,e3,e4,h1,h3];omega) (by simp[-List.getD_eq_getElem?_getD,ZbQ,e1,e2,e3,e4,h1,h3,Zaa]) rfl
   ·exact fin hC Zhz (ZyN std ms ks rs i n m) (by simp only[hb];simp[-List.getD_eq_getElem?_getD,e1,e2,e3,e4,h1,h3];omega) (by simp[-List.getD_eq_getElem?_getD,ZbQ,e1,e2,e3,e4,h1,h3,Zaa]) rfl
theorem ZrD(ms ks rs:List AV)(h:ms.length≤1000000∧ks.length≤1000000∧rs.length≤1000000):Zao Tryz.prog 25 [.agg (.gen [.list (.big .str ms), .list (.big (.agg [.str, .int .i64]) ks), .list (.big (.agg [.str, .int .i64, .int .i64, .int .i64, .int .i64]) rs)])] (.agg (.gen [.list (.big .str ms), .list (.big (.agg [.str, .int .i64]) ks), .list (.big (.agg [.str, .int .i64, .int .i64, .int .i64, .int .i64]) rs)])) none:=
 start (Zt9 ms ks rs) fun C hC=>fin hC Zhz (ZEL std ms ks rs) (by simp;omega) rfl rfl
theorem Zqp(l:List AV)(h:l.length≤1000000):Zao Tryz.prog 26 [.list (.big (.agg [.int .i64, .int .i64, .int .i64]) l)] (.list (.big (.agg [.int .i64, .int .i64, .int .i64]) l)) none:=
 start (Zuc l) fun C hC=>fin hC Zhz (ZCN std l) (by simp;omega) rfl rfl
def k163:Ctr:=⟨163,0,fun _ a=>match a with |[.int .i64 i, .eptr (.fn 158 []) 0, .eptr (.agg (.gen [.list (.big .str ms), .list (.big (.agg [.str, .int .i64]) ks), .list (.big (.agg [.str, .int .i64, .int .i64, .int .i64, .int .i64]) rs)])) 0, .eptr (.int .i64 k) 0]=>some (decide ((0≤i∧i<ks.length)∧ -1000000≤k∧k≤1000000), .int .i64 (ZcO ks i k),none) |_=>none⟩
theorem Zus:k163.OK Tryz.prog:=fun pa args r fr h=>by
 simp only[k163]at h
 split at h
 ·simp only[Option.some.injEq,Prod.mk.injEq,decide_eq_true_eq]at h
  obtain⟨h0,rfl,rfl⟩:=h
  exact Zok _ _ _ _ _ h0
 ·cases h
def k165:Ctr:=⟨165,0,fun _ a=>match a with |[.int .i64 i, .eptr (.agg (.gen [.list (.big .str ms), .list (.big (.agg [.str, .int .i64]) ks), .list (.big (.agg [.str, .int .i64, .int .i64, .int .i64, .int .i64]) rs)])) 0, .eptr (.int .i64 n) 0, .eptr (.fn 158 []) 0, .eptr (.int .i64 m) 0]=>some (decide ((0≤i∧i<rs.length)∧(-1000000≤n∧n≤1000000)∧ -1000000≤m∧m≤1000000), .int .i64 (ZbQ rs i n m),none) |_=>none⟩
theorem ZtE:k165.OK Tryz.prog:=fun pa args r fr h=>by
 simp only[k165]at h
 split at h
 ·simp only[Option.some.injEq,Prod.mk.injEq,decide_eq_true_eq]at h
  obtain⟨h0,rfl,rfl⟩:=h
  exact Zqh _ _ _ _ _ _ h0
 ·cases h
def k25:Ctr:=⟨25,0,fun _ a=>match a with |[.agg (.gen [.list (.big .str ms), .list (.big (.agg [.str, .int .i64]) ks), .list (.big (.agg [.str, .int .i64, .int .i64, .int .i64, .int .i64]) rs)])]=>some (decide (ms.length≤1000000∧ks.length≤1000000∧rs.length≤1000000), .agg (.gen [.list (.big .str ms), .list (.big (.agg [.str, .int .i64]) ks), .list (.big (.agg [.str, .int .i64, .int .i64, .int .i64, .int .i64]) rs)]),none) |_=>none⟩
theorem ZyR:k25.OK Tryz.prog:=fun pa args r fr h=>by
 simp only[k25]at h
 split at h
 ·simp only[Option.some.injEq,Prod.mk.injEq,decide_eq_true_eq]at h
  obtain⟨h0,rfl,rfl⟩:=h
  exact ZrD _ _ _ h0
 ·cases h
def k26:Ctr:=⟨26,0,fun _ a=>match a with |[.list (.big (.agg [.int .i64, .int .i64, .int .i64]) l)]=>some (decide (l.length≤1000000), .list (.big (.agg [.int .i64, .int .i64, .int .i64]) l),none) |_=>none⟩
theorem ZAP:k26.OK Tryz.prog:=fun pa args r fr h=>by
 simp only[k26]at h
 split at h
 ·simp only[Option.some.injEq,Prod.mk.injEq,decide_eq_true_eq]at h
  obtain⟨h0,rfl,rfl⟩:=h
  exact Zqp _ h0
 ·cases h
def B3:List Ctr:=[k163,k165,k25,k26]++B2
theorem Za8:ZaD Tryz.prog B3:=⟨Zus,⟨ZtE,⟨ZyR,⟨ZAP,Zhz⟩⟩⟩⟩
end Go.Proofs.YtkeoeooghhjibaaGreatDoor
/- Paths of functions, printed by the explorer (Gx). No condition. -/
namespace Go.Proofs.YtkeoeooghhjibaaGreatDoor
set_option maxRecDepth 100000
set_option linter.unusedVariables false
def Zp9(s:List UInt8):AFrame:={ fn:=151,N:=18,env:=[(0,AV.nils),(1,AV.str s)],todo:=[.code a151.code],defs:=[],rnd:=none,ret:=false,res:=[ARes.tmp 4] }
def Zyz(s:List UInt8):List AFrame:=[(Zp9 s)]
theorem Zqb(s:List UInt8):Zat tab 151 [AV.nils,AV.str s]=some (Zp9 s):=rfl
def Zf2(s:List UInt8):List AFrame:=[{ fn:=151,N:=18,env:=[(0,AV.nils),(1,AV.str s),(5,AV.int .i64 0)],todo:=.code (ACode.gh [] Zoo)::Zsx,defs:=[],rnd:=none,ret:=false,res:=[ARes.tmp 4] }]
def ZeJ(s:List UInt8):Zac:=[]
abbrev Zji(s:List UInt8):List AFrame×Zac:=(Zf2 s,ZeJ s)
theorem Zu3(A:Ar)(s:List UInt8):ZaB A tab B3 12 [] (Zyz s) []=
 some (tr [2] [],
  Zji (s)):=by kernel_rfl
theorem Zws(A:Ar)(s:List UInt8):Za1 A tab B3 16 [false] 151 (Zf2 s) (ZeJ s)=
 some (tr [2,4] [!A.lt 0 (A.int 0)],
  AV.bool false,none):=by kernel_rfl
end Go.Proofs.YtkeoeooghhjibaaGreatDoor
