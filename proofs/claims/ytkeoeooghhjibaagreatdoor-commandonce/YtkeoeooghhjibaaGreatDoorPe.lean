/- The cells of chapter 08's types, as they are read; the start that the door's own run leaves. No condition. -/
import Derived.Test.YtkeoeooghhjibaaGreatDoorW4
import Derived.LaidMore
import Derived.Stop.Joined
import Derived.KernelRfl
namespace Go.Proofs.YtkeoeooghhjibaaGreatDoor
open Go.ChangeShapes Go.WideShapes
theorem Zok{us:List AV}(h:Cfs [.big .str, .big (.agg [.str, .int .i64]), .big (.agg [.str, .int .i64, .int .i64, .int .i64, .int .i64]), .big (.agg [.int .i64, .int .i64, .int .i64]), .int .i64, .int .i64] us):∃ms ks rs l wn fl,us=[.list (.big .str ms), .list (.big (.agg [.str, .int .i64]) ks), .list (.big (.agg [.str, .int .i64, .int .i64, .int .i64, .int .i64]) rs), .list (.big (.agg [.int .i64, .int .i64, .int .i64]) l), .int .i64 wn, .int .i64 fl]:=by
 obtain⟨u0,r,rfl,h0,h⟩:=ZdP h
 obtain⟨u1,r,rfl,h1,h⟩:=ZdP h
 obtain⟨u2,r,rfl,h2,h⟩:=ZdP h
 obtain⟨u3,r,rfl,h3,h⟩:=ZdP h
 obtain⟨u4,r,rfl,h4,h⟩:=ZdP h
 obtain⟨u5,r,rfl,h5,h⟩:=ZdP h
 obtain rfl:=ZuA h
 obtain⟨x0,rfl⟩:=Zjh h0
 obtain⟨x1,rfl⟩:=Zjh h1
 obtain⟨x2,rfl⟩:=Zjh h2
 obtain⟨x3,rfl⟩:=Zjh h3
 obtain⟨x4,rfl,_⟩:=ZsX h4
 obtain⟨x5,rfl,_⟩:=ZsX h5
 exact⟨x0,x1,x2,x3,x4,x5,rfl⟩
end Go.Proofs.YtkeoeooghhjibaaGreatDoor
/- Paths of functions, printed by the explorer (Gx). No condition. -/
namespace Go.Proofs.YtkeoeooghhjibaaGreatDoor
set_option maxRecDepth 100000
set_option linter.unusedVariables false
def ZBd(n a b:Int):AFrame:={ fn:=41,N:=15,env:=[(0,AV.int .i64 n),(1,AV.int .i64 a),(2,AV.int .i64 b)],todo:=[.code a41.code],defs:=[],rnd:=none,ret:=false,res:=[ARes.tmp 6] }
def ZFR(n a b:Int):List AFrame:=[(ZBd n a b)]
theorem ZwE(n a b:Int):Zat tab 41 [AV.int .i64 n,AV.int .i64 a,AV.int .i64 b]=some (ZBd n a b):=rfl
theorem ZDU(A:Ar)(n a b:Int):ZaX A tab E0 18 [true,true,true,true] 41 (ZFR n a b) []=
 some (tr [9,5] [A.le a n],
  AV.bool (A.le n b),none):=by kernel_rfl
theorem ZEN(A:Ar)(n a b:Int):ZaX A tab E0 18 [false,false,false,false] 41 (ZFR n a b) []=
 some (tr [9,5] [!A.le a n],
  AV.bool false,none):=by kernel_rfl
def Zzy(n a b:Int):AFrame:={ fn:=82,N:=15,env:=[(0,AV.int .i64 n),(1,AV.int .i64 a),(2,AV.int .i64 b)],todo:=[.code a82.code],defs:=[],rnd:=none,ret:=false,res:=[ARes.tmp 6] }
def ZEW(n a b:Int):List AFrame:=[(Zzy n a b)]
theorem Zww(n a b:Int):Zat tab 82 [AV.int .i64 n,AV.int .i64 a,AV.int .i64 b]=some (Zzy n a b):=rfl
theorem ZDB(A:Ar)(n a b:Int):ZaX A tab E0 18 [true,true,true,true] 82 (ZEW n a b) []=
 some (tr [9,5] [A.le a n],
  AV.bool (A.le n b),none):=by kernel_rfl
theorem ZD1(A:Ar)(n a b:Int):ZaX A tab E0 18 [false,false,false,false] 82 (ZEW n a b) []=
 some (tr [9,5] [!A.le a n],
  AV.bool false,none):=by kernel_rfl
def Zxy(b:Bool)(e:Int):AFrame:={ fn:=68,N:=7,env:=[(0,AV.bool b),(1,AV.int .i64 e)],todo:=[.code a68.code],defs:=[],rnd:=none,ret:=false,res:=[ARes.tmp 4] }
def ZFB(b:Bool)(e:Int):List AFrame:=[(Zxy b e)]
theorem Zwp(b:Bool)(e:Int):Zat tab 68 [AV.bool b,AV.int .i64 e]=some (Zxy b e):=rfl
theorem ZAf(A:Ar)(b:Bool)(e:Int):ZaX A tab E0 15 [true] 68 (ZFB b e) []=
 some (tr [2,2] [b],
  AV.int .i64 0,none):=by kernel_rfl
theorem ZyT(A:Ar)(b:Bool)(e:Int):ZaX A tab E0 17 [false] 68 (ZFB b e) []=
 some (tr [3,2] [!b],
  AV.int .i64 e,none):=by kernel_rfl
def ZAi(xs:List Int):AFrame:={ fn:=67,N:=15,env:=[(0,AV.list (.ints .i64 xs))],todo:=[.code a67.code],defs:=[],rnd:=none,ret:=false,res:=[ARes.tmp 2] }
def ZG8(xs:List Int):List AFrame:=[(ZAi xs)]
theorem Zvn(xs:List Int):Zat tab 67 [AV.list (.ints .i64 xs)]=some (ZAi xs):=rfl
def Zdq(xs:List Int)(n0 n1:Int):List AFrame:=[{ fn:=67,N:=15,env:=[(5,AV.list (.ints .i64 xs)),(6,AV.int .i64 n0),(7,AV.int .i64 n1)],todo:=.code (ACode.gh [] Zze)::ZCH,defs:=[],rnd:=none,ret:=false,res:=[ARes.tmp 2] }]
def ZcE(xs:List Int)(n0 n1:Int):Zac:=[]
abbrev ZhF(xs:List Int)(n0 n1:Int):List AFrame×Zac:=(Zdq xs n0 n1,ZcE xs n0 n1)
theorem ZEQ(A:Ar)(xs:List Int):ZaC A tab E0 14 [] (ZG8 xs) []=
 some (tr [4] [],
  ZhF (xs) (A.int (A.len xs)) (0)):=by kernel_rfl
theorem ZEx(A:Ar)(xs:List Int)(n0 n1:Int):ZaX A tab E0 28 [true,true] 67 (Zdq xs n0 n1) (ZcE xs n0 n1)=
 some (tr [3,4,0,1] [A.not (A.eq (A.nth xs (A.nat n1)) 0),Zah (Zah (A.le 0 n1) (Nat.blt (A.nat n1) (A.len xs))) true,A.lt n1 n0],
  AV.int .i64 (A.nth xs (A.nat n1)),none):=by kernel_rfl
theorem ZEy(A:Ar)(xs:List Int)(n0 n1:Int):ZaC A tab E0 30 [true,false] (Zdq xs n0 n1) (ZcE xs n0 n1)=
 some (tr [1,0,4,0,1] [A.inR .i64 (A.add n1 1),!A.not (A.eq (A.nth xs (A.nat n1)) 0),Zah (Zah (A.le 0 n1) (Nat.blt (A.nat n1) (A.len xs))) true,A.lt n1 n0],
  ZhF (xs) (n0) (A.add n1 1)):=by kernel_rfl
theorem ZCw(A:Ar)(xs:List Int)(n0 n1:Int):ZaX A tab E0 13 [false] 67 (Zdq xs n0 n1) (ZcE xs n0 n1)=
 some (tr [2,1] [!A.lt n1 n0],
  AV.int .i64 0,none):=by kernel_rfl
def Zs6(xs:List AV)(s:List UInt8):AFrame:={ fn:=151,N:=18,env:=[(0,AV.list (Row.big .str xs)),(1,AV.str s)],todo:=[.code a151.code],defs:=[],rnd:=none,ret:=false,res:=[ARes.tmp 4] }
def ZCS(xs:List AV)(s:List UInt8):List AFrame:=[(Zs6 xs s)]
theorem ZrZ(xs:List AV)(s:List UInt8):Zat tab 151 [AV.list (Row.big .str xs),AV.str s]=some (Zs6 xs s):=rfl
def Zb9(xs:List AV)(s:List UInt8)(n0:Int):List AFrame:=[{ fn:=151,N:=18,env:=[(0,AV.list (Row.big .str xs)),(1,AV.str s),(5,AV.int .i64 n0)],todo:=.code (ACode.gh [] Zor)::Zse,defs:=[],rnd:=none,ret:=false,res:=[ARes.tmp 4] }]
def ZbN(xs:List AV)(s:List UInt8)(n0:Int):Zac:=[]
abbrev ZfK(xs:List AV)(s:List UInt8)(n0:Int):List AFrame×Zac:=(Zb9 xs s n0,ZbN xs s n0)
theorem Zzx(A:Ar)(xs:List AV)(s:List UInt8):ZaC A tab E0 12 [] (ZCS xs s) []=
 some (tr [2] [],
  ZfK (xs) (s) (0)):=by kernel_rfl
theorem ZBV(A:Ar)(xs:List AV)(s:List UInt8)(n0:Int):ZaX A tab E0 28 [true,true] 151 (Zb9 xs s n0) (ZbN xs s n0)=
 some (tr [2,3,2,4] [A.eqS (AV.toS (A.nthA xs (A.nat n0))) s,Zah (Zah (A.le 0 n0) (Nat.blt (A.nat n0) (A.lenA xs))) true,A.lt n0 (A.int (A.lenA xs))],
  AV.bool true,none):=by kernel_rfl
theorem ZBq(A:Ar)(xs:List AV)(s:List UInt8)(n0:Int):ZaC A tab E0 32 [true,false] (Zb9 xs s n0) (ZbN xs s n0)=
 some (tr [1,1,3,2,4] [A.inR .i64 (A.add n0 1),!A.eqS (AV.toS (A.nthA xs (A.nat n0))) s,Zah (Zah (A.le 0 n0) (Nat.blt (A.nat n0) (A.lenA xs))) true,A.lt n0 (A.int (A.lenA xs))],
  ZfK (xs) (s) (A.add n0 1)):=by kernel_rfl
theorem ZzT(A:Ar)(xs:List AV)(s:List UInt8)(n0:Int):ZaX A tab E0 16 [false] 151 (Zb9 xs s n0) (ZbN xs s n0)=
 some (tr [2,4] [!A.lt n0 (A.int (A.lenA xs))],
  AV.bool false,none):=by kernel_rfl
def ZsL(s:List UInt8):AFrame:={ fn:=150,N:=55,env:=[(0,AV.str s)],todo:=[.code a150.code],defs:=[],rnd:=none,ret:=false,res:=[ARes.tmp 2] }
def Zto(s:List UInt8):List AFrame:=[(ZsL s)]
theorem Zq3(s:List UInt8):Zat tab 150 [AV.str s]=some (ZsL s):=rfl
def Zar(s:List UInt8)(n0:Int):List AFrame:=[{ fn:=150,N:=55,env:=[(0,AV.str s),(3,AV.int .i64 n0)],todo:=.code (ACode.gh [] Zr0)::ZAV,defs:=[],rnd:=none,ret:=false,res:=[ARes.tmp 2] }]
def Zao(s:List UInt8)(n0:Int):Zac:=[]
abbrev ZaM(s:List UInt8)(n0:Int):List AFrame×Zac:=(Zar s n0,Zao s n0)
theorem ZxP(A:Ar)(s:List UInt8):ZaX A tab E0 23 [true,true,true,true,true] 150 (Zto s) []=
 some (tr [10,5] [A.lt (A.int (A.lenS s)) 1],
  AV.bool false,none):=by kernel_rfl
theorem ZAW(A:Ar)(s:List UInt8):ZaX A tab E0 23 [false,false,false,false,true] 150 (Zto s) []=
 some (tr [2,7,5] [A.lt 12 (A.int (A.lenS s)),!A.lt (A.int (A.lenS s)) 1],
  AV.bool false,none):=by kernel_rfl
theorem ZBL(A:Ar)(s:List UInt8):ZaC A tab E0 27 [false,false,false,false,false] (Zto s) []=
 some (tr [1,7,5] [!A.lt 12 (A.int (A.lenS s)),!A.lt (A.int (A.lenS s)) 1],
  ZaM (s) (0)):=by kernel_rfl
theorem Zyz(A:Ar)(s:List UInt8)(n0:Int):ZaC A tab E0 71 [true,true,true,true,true,true,true,true,true,false,false,false,false,false,false] (Zar s n0) (Zao s n0)=
 some (tr [1,21,15,6,4,2,4] [A.inR .i64 (A.add n0 1),!A.not true,A.le (A.nthS s (A.nat n0)) 122,A.le 97 (A.nthS s (A.nat n0)),Zah (A.le 0 n0) (Nat.blt (A.nat n0) (A.lenS s)),A.lt n0 (A.int (A.lenS s))],
  ZaM (s) (A.add n0 1)):=by kernel_rfl
theorem ZxI(A:Ar)(s:List UInt8)(n0:Int):ZaX A tab E0 67 [true,true,true,true,false,false,false,true,true,false,true,false,true,true,true,true,true,true,true,true,true,true,true] 150 (Zar s n0) (Zao s n0)=
 some (tr [21,5,12,5,6,4,2,4] [A.eq n0 0,A.not (A.le (A.nthS s (A.nat n0)) 90),A.le 65 (A.nthS s (A.nat n0)),!A.le (A.nthS s (A.nat n0)) 122,A.le 97 (A.nthS s (A.nat n0)),Zah (A.le 0 n0) (Nat.blt (A.nat n0) (A.lenS s)),A.lt n0 (A.int (A.lenS s))],
  AV.bool false,none):=by kernel_rfl
theorem Zx5(A:Ar)(s:List UInt8)(n0:Int):ZaX A tab E0 67 [true,true,true,true,false,false,false,true,true,false,true,false,true,true,true,false,false,false,true,true,true,true,true,true,true,false,true,true,false,true,true] 150 (Zar s n0) (Zao s n0)=
 some (tr [17,5,5,5,12,5,6,4,2,4] [A.lt (A.nthS s (A.nat n0)) 48,A.not (A.eq (A.nthS s (A.nat n0)) 45),!A.eq n0 0,A.not (A.le (A.nthS s (A.nat n0)) 90),A.le 65 (A.nthS s (A.nat n0)),!A.le (A.nthS s (A.nat n0)) 122,A.le 97 (A.nthS s (A.nat n0)),Zah (A.le 0 n0) (Nat.blt (A.nat n0) (A.lenS s)),A.lt n0 (A.int (A.lenS s))],
  AV.bool false,none):=by kernel_rfl
theorem ZAd(A:Ar)(s:List UInt8)(n0:Int):ZaX A tab E0 67 [true,true,true,true,false,false,false,true,true,false,true,false,true,true,true,false,false,false,true,true,true,false,false,true,false,false,true,true,false,true,true] 150 (Zar s n0) (Zao s n0)=
 some (tr [2,14,5,5,5,12,5,6,4,2,4] [A.lt 57 (A.nthS s (A.nat n0)),!A.lt (A.nthS s (A.nat n0)) 48,A.not (A.eq (A.nthS s (A.nat n0)) 45),!A.eq n0 0,A.not (A.le (A.nthS s (A.nat n0)) 90),A.le 65 (A.nthS s (A.nat n0)),!A.le (A.nthS s (A.nat n0)) 122,A.le 97 (A.nthS s (A.nat n0)),Zah (A.le 0 n0) (Nat.blt (A.nat n0) (A.lenS s)),A.lt n0 (A.int (A.lenS s))],
  AV.bool false,none):=by kernel_rfl
theorem ZAb(A:Ar)(s:List UInt8)(n0:Int):ZaC A tab E0 71 [true,true,true,true,false,false,false,true,true,false,true,false,true,true,true,false,false,false,true,true,true,false,false,true,false,false,true,true,false,true,false] (Zar s n0) (Zao s n0)=
 some (tr [1,1,14,5,5,5,12,5,6,4,2,4] [A.inR .i64 (A.add n0 1),!A.lt 57 (A.nthS s (A.nat n0)),!A.lt (A.nthS s (A.nat n0)) 48,A.not (A.eq (A.nthS s (A.nat n0)) 45),!A.eq n0 0,A.not (A.le (A.nthS s (A.nat n0)) 90),A.le 65 (A.nthS s (A.nat n0)),!A.le (A.nthS s (A.nat n0)) 122,A.le 97 (A.nthS s (A.nat n0)),Zah (A.le 0 n0) (Nat.blt (A.nat n0) (A.lenS s)),A.lt n0 (A.int (A.lenS s))],
  ZaM (s) (A.add n0 1)):=by kernel_rfl
theorem ZB2(A:Ar)(s:List UInt8)(n0:Int):ZaC A tab E0 71 [true,true,true,true,false,false,false,true,true,false,true,false,true,true,true,false,false,false,false,false,false,false,false,false,true,false,true,false] (Zar s n0) (Zao s n0)=
 some (tr [1,19,5,5,12,5,6,4,2,4] [A.inR .i64 (A.add n0 1),!A.not (A.eq (A.nthS s (A.nat n0)) 45),!A.eq n0 0,A.not (A.le (A.nthS s (A.nat n0)) 90),A.le 65 (A.nthS s (A.nat n0)),!A.le (A.nthS s (A.nat n0)) 122,A.le 97 (A.nthS s (A.nat n0)),Zah (A.le 0 n0) (Nat.blt (A.nat n0) (A.lenS s)),A.lt n0 (A.int (A.lenS s))],
  ZaM (s) (A.add n0 1)):=by kernel_rfl
theorem Zz9(A:Ar)(s:List UInt8)(n0:Int):ZaC A tab E0 71 [true,true,true,true,false,false,false,true,true,false,true,false,false,false,false,false,false,false] (Zar s n0) (Zao s n0)=
 some (tr [1,21,12,5,6,4,2,4] [A.inR .i64 (A.add n0 1),!A.not (A.le (A.nthS s (A.nat n0)) 90),A.le 65 (A.nthS s (A.nat n0)),!A.le (A.nthS s (A.nat n0)) 122,A.le 97 (A.nthS s (A.nat n0)),Zah (A.le 0 n0) (Nat.blt (A.nat n0) (A.lenS s)),A.lt n0 (A.int (A.lenS s))],
  ZaM (s) (A.add n0 1)):=by kernel_rfl
theorem Zv0(A:Ar)(s:List UInt8)(n0:Int):ZaX A tab E0 67 [true,true,true,true,false,false,false,false,false,false,false,false,true,true,true,true,true,true,true,true,true,true,true] 150 (Zar s n0) (Zao s n0)=
 some (tr [21,5,12,5,6,4,2,4] [A.eq n0 0,A.not false,!A.le 65 (A.nthS s (A.nat n0)),!A.le (A.nthS s (A.nat n0)) 122,A.le 97 (A.nthS s (A.nat n0)),Zah (A.le 0 n0) (Nat.blt (A.nat n0) (A.lenS s)),A.lt n0 (A.int (A.lenS s))],
  AV.bool false,none):=by kernel_rfl
theorem Zuy(A:Ar)(s:List UInt8)(n0:Int):ZaX A tab E0 67 [true,true,true,true,false,false,false,false,false,false,false,false,true,true,true,false,false,false,true,true,true,true,true,true,true,false,true,true,false,true,true] 150 (Zar s n0) (Zao s n0)=
 some (tr [17,5,5,5,12,5,6,4,2,4] [A.lt (A.nthS s (A.nat n0)) 48,A.not (A.eq (A.nthS s (A.nat n0)) 45),!A.eq n0 0,A.not false,!A.le 65 (A.nthS s (A.nat n0)),!A.le (A.nthS s (A.nat n0)) 122,A.le 97 (A.nthS s (A.nat n0)),Zah (A.le 0 n0) (Nat.blt (A.nat n0) (A.lenS s)),A.lt n0 (A.int (A.lenS s))],
  AV.bool false,none):=by kernel_rfl
theorem Zvm(A:Ar)(s:List UInt8)(n0:Int):ZaX A tab E0 67 [true,true,true,true,false,false,false,false,false,false,false,false,true,true,true,false,false,false,true,true,true,false,false,true,false,false,true,true,false,true,true] 150 (Zar s n0) (Zao s n0)=
 some (tr [2,14,5,5,5,12,5,6,4,2,4] [A.lt 57 (A.nthS s (A.nat n0)),!A.lt (A.nthS s (A.nat n0)) 48,A.not (A.eq (A.nthS s (A.nat n0)) 45),!A.eq n0 0,A.not false,!A.le 65 (A.nthS s (A.nat n0)),!A.le (A.nthS s (A.nat n0)) 122,A.le 97 (A.nthS s (A.nat n0)),Zah (A.le 0 n0) (Nat.blt (A.nat n0) (A.lenS s)),A.lt n0 (A.int (A.lenS s))],
  AV.bool false,none):=by kernel_rfl
theorem ZuX(A:Ar)(s:List UInt8)(n0:Int):ZaC A tab E0 71 [true,true,true,true,false,false,false,false,false,false,false,false,true,true,true,false,false,false,true,true,true,false,false,true,false,false,true,true,false,true,false] (Zar s n0) (Zao s n0)=
 some (tr [1,1,14,5,5,5,12,5,6,4,2,4] [A.inR .i64 (A.add n0 1),!A.lt 57 (A.nthS s (A.nat n0)),!A.lt (A.nthS s (A.nat n0)) 48,A.not (A.eq (A.nthS s (A.nat n0)) 45),!A.eq n0 0,A.not false,!A.le 65 (A.nthS s (A.nat n0)),!A.le (A.nthS s (A.nat n0)) 122,A.le 97 (A.nthS s (A.nat n0)),Zah (A.le 0 n0) (Nat.blt (A.nat n0) (A.lenS s)),A.lt n0 (A.int (A.lenS s))],
  ZaM (s) (A.add n0 1)):=by kernel_rfl
theorem ZtU(A:Ar)(s:List UInt8)(n0:Int):ZaC A tab E0 71 [true,true,true,true,false,false,false,false,false,false,false,false,true,true,true,false,false,false,false,false,false,false,false,false,true,false,true,false] (Zar s n0) (Zao s n0)=
 some (tr [1,19,5,5,12,5,6,4,2,4] [A.inR .i64 (A.add n0 1),!A.not (A.eq (A.nthS s (A.nat n0)) 45),!A.eq n0 0,A.not false,!A.le 65 (A.nthS s (A.nat n0)),!A.le (A.nthS s (A.nat n0)) 122,A.le 97 (A.nthS s (A.nat n0)),Zah (A.le 0 n0) (Nat.blt (A.nat n0) (A.lenS s)),A.lt n0 (A.int (A.lenS s))],
  ZaM (s) (A.add n0 1)):=by kernel_rfl
theorem Zwr(A:Ar)(s:List UInt8)(n0:Int):ZaX A tab E0 67 [true,false,false,false,false,false,false,true,true,false,true,false,true,true,true,true,true,true,true,true,true,true,true] 150 (Zar s n0) (Zao s n0)=
 some (tr [21,5,12,12,4,2,4] [A.eq n0 0,A.not (A.le (A.nthS s (A.nat n0)) 90),A.le 65 (A.nthS s (A.nat n0)),!A.le 97 (A.nthS s (A.nat n0)),Zah (A.le 0 n0) (Nat.blt (A.nat n0) (A.lenS s)),A.lt n0 (A.int (A.lenS s))],
  AV.bool false,none):=by kernel_rfl
theorem Zud(A:Ar)(s:List UInt8)(n0:Int):ZaX A tab E0 67 [true,false,false,false,false,false,false,true,true,false,true,false,true,true,true,false,false,false,true,true,true,true,true,true,true,false,true,true,false,true,true] 150 (Zar s n0) (Zao s n0)=
 some (tr [17,5,5,5,12,12,4,2,4] [A.lt (A.nthS s (A.nat n0)) 48,A.not (A.eq (A.nthS s (A.nat n0)) 45),!A.eq n0 0,A.not (A.le (A.nthS s (A.nat n0)) 90),A.le 65 (A.nthS s (A.nat n0)),!A.le 97 (A.nthS s (A.nat n0)),Zah (A.le 0 n0) (Nat.blt (A.nat n0) (A.lenS s)),A.lt n0 (A.int (A.lenS s))],
  AV.bool false,none):=by kernel_rfl
theorem ZuT(A:Ar)(s:List UInt8)(n0:Int):ZaX A tab E0 67 [true,false,false,false,false,false,false,true,true,false,true,false,true,true,true,false,false,false,true,true,true,false,false,true,false,false,true,true,false,true,true] 150 (Zar s n0) (Zao s n0)=
 some (tr [2,14,5,5,5,12,12,4,2,4] [A.lt 57 (A.nthS s (A.nat n0)),!A.lt (A.nthS s (A.nat n0)) 48,A.not (A.eq (A.nthS s (A.nat n0)) 45),!A.eq n0 0,A.not (A.le (A.nthS s (A.nat n0)) 90),A.le 65 (A.nthS s (A.nat n0)),!A.le 97 (A.nthS s (A.nat n0)),Zah (A.le 0 n0) (Nat.blt (A.nat n0) (A.lenS s)),A.lt n0 (A.int (A.lenS s))],
  AV.bool false,none):=by kernel_rfl
theorem ZvJ(A:Ar)(s:List UInt8)(n0:Int):ZaC A tab E0 71 [true,false,false,false,false,false,false,true,true,false,true,false,true,true,true,false,false,false,true,true,true,false,false,true,false,false,true,true,false,true,false] (Zar s n0) (Zao s n0)=
 some (tr [1,1,14,5,5,5,12,12,4,2,4] [A.inR .i64 (A.add n0 1),!A.lt 57 (A.nthS s (A.nat n0)),!A.lt (A.nthS s (A.nat n0)) 48,A.not (A.eq (A.nthS s (A.nat n0)) 45),!A.eq n0 0,A.not (A.le (A.nthS s (A.nat n0)) 90),A.le 65 (A.nthS s (A.nat n0)),!A.le 97 (A.nthS s (A.nat n0)),Zah (A.le 0 n0) (Nat.blt (A.nat n0) (A.lenS s)),A.lt n0 (A.int (A.lenS s))],
  ZaM (s) (A.add n0 1)):=by kernel_rfl
theorem ZtV(A:Ar)(s:List UInt8)(n0:Int):ZaC A tab E0 71 [true,false,false,false,false,false,false,true,true,false,true,false,true,true,true,false,false,false,false,false,false,false,false,false,true,false,true,false] (Zar s n0) (Zao s n0)=
 some (tr [1,19,5,5,12,12,4,2,4] [A.inR .i64 (A.add n0 1),!A.not (A.eq (A.nthS s (A.nat n0)) 45),!A.eq n0 0,A.not (A.le (A.nthS s (A.nat n0)) 90),A.le 65 (A.nthS s (A.nat n0)),!A.le 97 (A.nthS s (A.nat n0)),Zah (A.le 0 n0) (Nat.blt (A.nat n0) (A.lenS s)),A.lt n0 (A.int (A.lenS s))],
  ZaM (s) (A.add n0 1)):=by kernel_rfl
theorem Ztc(A:Ar)(s:List UInt8)(n0:Int):ZaC A tab E0 71 [true,false,false,false,false,false,false,true,true,false,true,false,false,false,false,false,false,false] (Zar s n0) (Zao s n0)=
 some (tr [1,21,12,12,4,2,4] [A.inR .i64 (A.add n0 1),!A.not (A.le (A.nthS s (A.nat n0)) 90),A.le 65 (A.nthS s (A.nat n0)),!A.le 97 (A.nthS s (A.nat n0)),Zah (A.le 0 n0) (Nat.blt (A.nat n0) (A.lenS s)),A.lt n0 (A.int (A.lenS s))],
  ZaM (s) (A.add n0 1)):=by kernel_rfl
theorem Zu7(A:Ar)(s:List UInt8)(n0:Int):ZaX A tab E0 67 [true,false,false,false,false,false,false,false,false,false,false,false,true,true,true,true,true,true,true,true,true,true,true] 150 (Zar s n0) (Zao s n0)=
 some (tr [21,5,12,12,4,2,4] [A.eq n0 0,A.not false,!A.le 65 (A.nthS s (A.nat n0)),!A.le 97 (A.nthS s (A.nat n0)),Zah (A.le 0 n0) (Nat.blt (A.nat n0) (A.lenS s)),A.lt n0 (A.int (A.lenS s))],
  AV.bool false,none):=by kernel_rfl
theorem ZvP(A:Ar)(s:List UInt8)(n0:Int):ZaX A tab E0 67 [true,false,false,false,false,false,false,false,false,false,false,false,true,true,true,false,false,false,true,true,true,true,true,true,true,false,true,true,false,true,true] 150 (Zar s n0) (Zao s n0)=
 some (tr [17,5,5,5,12,12,4,2,4] [A.lt (A.nthS s (A.nat n0)) 48,A.not (A.eq (A.nthS s (A.nat n0)) 45),!A.eq n0 0,A.not false,!A.le 65 (A.nthS s (A.nat n0)),!A.le 97 (A.nthS s (A.nat n0)),Zah (A.le 0 n0) (Nat.blt (A.nat n0) (A.lenS s)),A.lt n0 (A.int (A.lenS s))],
  AV.bool false,none):=by kernel_rfl
theorem Zug(A:Ar)(s:List UInt8)(n0:Int):ZaX A tab E0 67 [true,false,false,false,false,false,false,false,false,false,false,false,true,true,true,false,false,false,true,true,true,false,false,true,false,false,true,true,false,true,true] 150 (Zar s n0) (Zao s n0)=
 some (tr [2,14,5,5,5,12,12,4,2,4] [A.lt 57 (A.nthS s (A.nat n0)),!A.lt (A.nthS s (A.nat n0)) 48,A.not (A.eq (A.nthS s (A.nat n0)) 45),!A.eq n0 0,A.not false,!A.le 65 (A.nthS s (A.nat n0)),!A.le 97 (A.nthS s (A.nat n0)),Zah (A.le 0 n0) (Nat.blt (A.nat n0) (A.lenS s)),A.lt n0 (A.int (A.lenS s))],
  AV.bool false,none):=by kernel_rfl
theorem Zuu(A:Ar)(s:List UInt8)(n0:Int):ZaC A tab E0 71 [true,false,false,false,false,false,false,false,false,false,false,false,true,true,true,false,false,false,true,true,true,false,false,true,false,false,true,true,false,true,false] (Zar s n0) (Zao s n0)=
 some (tr [1,1,14,5,5,5,12,12,4,2,4] [A.inR .i64 (A.add n0 1),!A.lt 57 (A.nthS s (A.nat n0)),!A.lt (A.nthS s (A.nat n0)) 48,A.not (A.eq (A.nthS s (A.nat n0)) 45),!A.eq n0 0,A.not false,!A.le 65 (A.nthS s (A.nat n0)),!A.le 97 (A.nthS s (A.nat n0)),Zah (A.le 0 n0) (Nat.blt (A.nat n0) (A.lenS s)),A.lt n0 (A.int (A.lenS s))],
  ZaM (s) (A.add n0 1)):=by kernel_rfl
theorem Zv3(A:Ar)(s:List UInt8)(n0:Int):ZaC A tab E0 71 [true,false,false,false,false,false,false,false,false,false,false,false,true,true,true,false,false,false,false,false,false,false,false,false,true,false,true,false] (Zar s n0) (Zao s n0)=
 some (tr [1,19,5,5,12,12,4,2,4] [A.inR .i64 (A.add n0 1),!A.not (A.eq (A.nthS s (A.nat n0)) 45),!A.eq n0 0,A.not false,!A.le 65 (A.nthS s (A.nat n0)),!A.le 97 (A.nthS s (A.nat n0)),Zah (A.le 0 n0) (Nat.blt (A.nat n0) (A.lenS s)),A.lt n0 (A.int (A.lenS s))],
  ZaM (s) (A.add n0 1)):=by kernel_rfl
theorem Zt0(A:Ar)(s:List UInt8)(n0:Int):ZaX A tab E0 16 [false] 150 (Zar s n0) (Zao s n0)=
 some (tr [2,4] [!A.lt n0 (A.int (A.lenS s))],
  AV.bool true,none):=by kernel_rfl
def ZsF(s:List UInt8):AFrame:={ fn:=182,N:=54,env:=[(0,AV.str s)],todo:=[.code a182.code],defs:=[],rnd:=none,ret:=false,res:=[ARes.tmp 2] }
def ZCV(s:List UInt8):List AFrame:=[(ZsF s)]
theorem Zrz(s:List UInt8):Zat tab 182 [AV.str s]=some (ZsF s):=rfl
def Zaq(s:List UInt8)(l0:List Int)(n1 n2:Int):List AFrame:=[{ fn:=182,N:=54,env:=[(0,AV.str s),(7,AV.list (.ints .u8 l0)),(8,AV.int .i64 n1),(9,AV.int .i64 n2)],todo:=.code (ACode.gh [] ZsV)::ZxF,defs:=[],rnd:=none,ret:=false,res:=[ARes.tmp 2] }]
def Zam(s:List UInt8)(l0:List Int)(n1 n2:Int):Zac:=[]
abbrev ZaL(s:List UInt8)(l0:List Int)(n1 n2:Int):List AFrame×Zac:=(Zaq s l0 n1 n2,Zam s l0 n1 n2)
theorem ZBM(A:Ar)(s:List UInt8):ZaC A tab E0 15 [] (ZCV s) []=
 some (tr [2,2] [Nat.ble (A.lenS s) 4294967296],
  ZaL (s) (A.byt s) (A.int (A.len (A.byt s))) (0)):=by kernel_rfl
theorem ZA2(A:Ar)(s:List UInt8)(l0:List Int)(n1 n2:Int):ZaC A tab E0 68 [true,true,true,true,true,true,true,true,true,false,false,false,false,false,false] (Zaq s l0 n1 n2) (Zam s l0 n1 n2)=
 some (tr [1,20,15,6,6,1,1] [A.inR .i64 (A.add n2 1),!A.not true,A.le (A.nth l0 (A.nat n2)) 122,A.le 97 (A.nth l0 (A.nat n2)),Zah (Zah (A.le 0 n2) (Nat.blt (A.nat n2) (A.len l0))) true,A.lt n2 n1],
  ZaL (s) (l0) (n1) (A.add n2 1)):=by kernel_rfl
theorem Zz3(A:Ar)(s:List UInt8)(l0:List Int)(n1 n2:Int):ZaX A tab E0 65 [true,true,true,true,false,false,false,true,true,false,true,false,true,true,true,true,true,true,true,true,true,true,true] 182 (Zaq s l0 n1 n2) (Zam s l0 n1 n2)=
 some (tr [21,5,12,5,6,6,1,1] [A.eq n2 0,A.not (A.le (A.nth l0 (A.nat n2)) 90),A.le 65 (A.nth l0 (A.nat n2)),!A.le (A.nth l0 (A.nat n2)) 122,A.le 97 (A.nth l0 (A.nat n2)),Zah (Zah (A.le 0 n2) (Nat.blt (A.nat n2) (A.len l0))) true,A.lt n2 n1],
  AV.bool false,none):=by kernel_rfl
theorem Zzs(A:Ar)(s:List UInt8)(l0:List Int)(n1 n2:Int):ZaX A tab E0 65 [true,true,true,true,false,false,false,true,true,false,true,false,true,true,true,false,false,false,true,true,true,true,true,true,true,false,true,true,false,true,true] 182 (Zaq s l0 n1 n2) (Zam s l0 n1 n2)=
 some (tr [17,5,5,5,12,5,6,6,1,1] [A.lt (A.nth l0 (A.nat n2)) 48,A.not (A.eq (A.nth l0 (A.nat n2)) 45),!A.eq n2 0,A.not (A.le (A.nth l0 (A.nat n2)) 90),A.le 65 (A.nth l0 (A.nat n2)),!A.le (A.nth l0 (A.nat n2)) 122,A.le 97 (A.nth l0 (A.nat n2)),Zah (Zah (A.le 0 n2) (Nat.blt (A.nat n2) (A.len l0))) true,A.lt n2 n1],
  AV.bool false,none):=by kernel_rfl
theorem ZBR(A:Ar)(s:List UInt8)(l0:List Int)(n1 n2:Int):ZaX A tab E0 65 [true,true,true,true,false,false,false,true,true,false,true,false,true,true,true,false,false,false,true,true,true,false,false,true,false,false,true,true,false,true,true] 182 (Zaq s l0 n1 n2) (Zam s l0 n1 n2)=
 some (tr [2,14,5,5,5,12,5,6,6,1,1] [A.lt 57 (A.nth l0 (A.nat n2)),!A.lt (A.nth l0 (A.nat n2)) 48,A.not (A.eq (A.nth l0 (A.nat n2)) 45),!A.eq n2 0,A.not (A.le (A.nth l0 (A.nat n2)) 90),A.le 65 (A.nth l0 (A.nat n2)),!A.le (A.nth l0 (A.nat n2)) 122,A.le 97 (A.nth l0 (A.nat n2)),Zah (Zah (A.le 0 n2) (Nat.blt (A.nat n2) (A.len l0))) true,A.lt n2 n1],
  AV.bool false,none):=by kernel_rfl
theorem Zz8(A:Ar)(s:List UInt8)(l0:List Int)(n1 n2:Int):ZaC A tab E0 68 [true,true,true,true,false,false,false,true,true,false,true,false,true,true,true,false,false,false,true,true,true,false,false,true,false,false,true,true,false,true,false] (Zaq s l0 n1 n2) (Zam s l0 n1 n2)=
 some (tr [1,0,14,5,5,5,12,5,6,6,1,1] [A.inR .i64 (A.add n2 1),!A.lt 57 (A.nth l0 (A.nat n2)),!A.lt (A.nth l0 (A.nat n2)) 48,A.not (A.eq (A.nth l0 (A.nat n2)) 45),!A.eq n2 0,A.not (A.le (A.nth l0 (A.nat n2)) 90),A.le 65 (A.nth l0 (A.nat n2)),!A.le (A.nth l0 (A.nat n2)) 122,A.le 97 (A.nth l0 (A.nat n2)),Zah (Zah (A.le 0 n2) (Nat.blt (A.nat n2) (A.len l0))) true,A.lt n2 n1],
  ZaL (s) (l0) (n1) (A.add n2 1)):=by kernel_rfl
theorem ZBQ(A:Ar)(s:List UInt8)(l0:List Int)(n1 n2:Int):ZaC A tab E0 68 [true,true,true,true,false,false,false,true,true,false,true,false,true,true,true,false,false,false,false,false,false,false,false,false,true,false,true,false] (Zaq s l0 n1 n2) (Zam s l0 n1 n2)=
 some (tr [1,18,5,5,12,5,6,6,1,1] [A.inR .i64 (A.add n2 1),!A.not (A.eq (A.nth l0 (A.nat n2)) 45),!A.eq n2 0,A.not (A.le (A.nth l0 (A.nat n2)) 90),A.le 65 (A.nth l0 (A.nat n2)),!A.le (A.nth l0 (A.nat n2)) 122,A.le 97 (A.nth l0 (A.nat n2)),Zah (Zah (A.le 0 n2) (Nat.blt (A.nat n2) (A.len l0))) true,A.lt n2 n1],
  ZaL (s) (l0) (n1) (A.add n2 1)):=by kernel_rfl
theorem Zz7(A:Ar)(s:List UInt8)(l0:List Int)(n1 n2:Int):ZaC A tab E0 68 [true,true,true,true,false,false,false,true,true,false,true,false,false,false,false,false,false,false] (Zaq s l0 n1 n2) (Zam s l0 n1 n2)=
 some (tr [1,20,12,5,6,6,1,1] [A.inR .i64 (A.add n2 1),!A.not (A.le (A.nth l0 (A.nat n2)) 90),A.le 65 (A.nth l0 (A.nat n2)),!A.le (A.nth l0 (A.nat n2)) 122,A.le 97 (A.nth l0 (A.nat n2)),Zah (Zah (A.le 0 n2) (Nat.blt (A.nat n2) (A.len l0))) true,A.lt n2 n1],
  ZaL (s) (l0) (n1) (A.add n2 1)):=by kernel_rfl
theorem Zza(A:Ar)(s:List UInt8)(l0:List Int)(n1 n2:Int):ZaX A tab E0 65 [true,true,true,true,false,false,false,false,false,false,false,false,true,true,true,true,true,true,true,true,true,true,true] 182 (Zaq s l0 n1 n2) (Zam s l0 n1 n2)=
 some (tr [21,5,12,5,6,6,1,1] [A.eq n2 0,A.not false,!A.le 65 (A.nth l0 (A.nat n2)),!A.le (A.nth l0 (A.nat n2)) 122,A.le 97 (A.nth l0 (A.nat n2)),Zah (Zah (A.le 0 n2) (Nat.blt (A.nat n2) (A.len l0))) true,A.lt n2 n1],
  AV.bool false,none):=by kernel_rfl
theorem ZA9(A:Ar)(s:List UInt8)(l0:List Int)(n1 n2:Int):ZaX A tab E0 65 [true,true,true,true,false,false,false,false,false,false,false,false,true,true,true,false,false,false,true,true,true,true,true,true,true,false,true,true,false,true,true] 182 (Zaq s l0 n1 n2) (Zam s l0 n1 n2)=
 some (tr [17,5,5,5,12,5,6,6,1,1] [A.lt (A.nth l0 (A.nat n2)) 48,A.not (A.eq (A.nth l0 (A.nat n2)) 45),!A.eq n2 0,A.not false,!A.le 65 (A.nth l0 (A.nat n2)),!A.le (A.nth l0 (A.nat n2)) 122,A.le 97 (A.nth l0 (A.nat n2)),Zah (Zah (A.le 0 n2) (Nat.blt (A.nat n2) (A.len l0))) true,A.lt n2 n1],
  AV.bool false,none):=by kernel_rfl
theorem ZwL(A:Ar)(s:List UInt8)(l0:List Int)(n1 n2:Int):ZaX A tab E0 65 [true,true,true,true,false,false,false,false,false,false,false,false,true,true,true,false,false,false,true,true,true,false,false,true,false,false,true,true,false,true,true] 182 (Zaq s l0 n1 n2) (Zam s l0 n1 n2)=
 some (tr [2,14,5,5,5,12,5,6,6,1,1] [A.lt 57 (A.nth l0 (A.nat n2)),!A.lt (A.nth l0 (A.nat n2)) 48,A.not (A.eq (A.nth l0 (A.nat n2)) 45),!A.eq n2 0,A.not false,!A.le 65 (A.nth l0 (A.nat n2)),!A.le (A.nth l0 (A.nat n2)) 122,A.le 97 (A.nth l0 (A.nat n2)),Zah (Zah (A.le 0 n2) (Nat.blt (A.nat n2) (A.len l0))) true,A.lt n2 n1],
  AV.bool false,none):=by kernel_rfl
theorem Zvw(A:Ar)(s:List UInt8)(l0:List Int)(n1 n2:Int):ZaC A tab E0 68 [true,true,true,true,false,false,false,false,false,false,false,false,true,true,true,false,false,false,true,true,true,false,false,true,false,false,true,true,false,true,false] (Zaq s l0 n1 n2) (Zam s l0 n1 n2)=
 some (tr [1,0,14,5,5,5,12,5,6,6,1,1] [A.inR .i64 (A.add n2 1),!A.lt 57 (A.nth l0 (A.nat n2)),!A.lt (A.nth l0 (A.nat n2)) 48,A.not (A.eq (A.nth l0 (A.nat n2)) 45),!A.eq n2 0,A.not false,!A.le 65 (A.nth l0 (A.nat n2)),!A.le (A.nth l0 (A.nat n2)) 122,A.le 97 (A.nth l0 (A.nat n2)),Zah (Zah (A.le 0 n2) (Nat.blt (A.nat n2) (A.len l0))) true,A.lt n2 n1],
  ZaL (s) (l0) (n1) (A.add n2 1)):=by kernel_rfl
theorem Zvl(A:Ar)(s:List UInt8)(l0:List Int)(n1 n2:Int):ZaC A tab E0 68 [true,true,true,true,false,false,false,false,false,false,false,false,true,true,true,false,false,false,false,false,false,false,false,false,true,false,true,false] (Zaq s l0 n1 n2) (Zam s l0 n1 n2)=
 some (tr [1,18,5,5,12,5,6,6,1,1] [A.inR .i64 (A.add n2 1),!A.not (A.eq (A.nth l0 (A.nat n2)) 45),!A.eq n2 0,A.not false,!A.le 65 (A.nth l0 (A.nat n2)),!A.le (A.nth l0 (A.nat n2)) 122,A.le 97 (A.nth l0 (A.nat n2)),Zah (Zah (A.le 0 n2) (Nat.blt (A.nat n2) (A.len l0))) true,A.lt n2 n1],
  ZaL (s) (l0) (n1) (A.add n2 1)):=by kernel_rfl
theorem Zul(A:Ar)(s:List UInt8)(l0:List Int)(n1 n2:Int):ZaX A tab E0 65 [true,false,false,false,false,false,false,true,true,false,true,false,true,true,true,true,true,true,true,true,true,true,true] 182 (Zaq s l0 n1 n2) (Zam s l0 n1 n2)=
 some (tr [21,5,12,12,6,1,1] [A.eq n2 0,A.not (A.le (A.nth l0 (A.nat n2)) 90),A.le 65 (A.nth l0 (A.nat n2)),!A.le 97 (A.nth l0 (A.nat n2)),Zah (Zah (A.le 0 n2) (Nat.blt (A.nat n2) (A.len l0))) true,A.lt n2 n1],
  AV.bool false,none):=by kernel_rfl
theorem Zu1(A:Ar)(s:List UInt8)(l0:List Int)(n1 n2:Int):ZaX A tab E0 65 [true,false,false,false,false,false,false,true,true,false,true,false,true,true,true,false,false,false,true,true,true,true,true,true,true,false,true,true,false,true,true] 182 (Zaq s l0 n1 n2) (Zam s l0 n1 n2)=
 some (tr [17,5,5,5,12,12,6,1,1] [A.lt (A.nth l0 (A.nat n2)) 48,A.not (A.eq (A.nth l0 (A.nat n2)) 45),!A.eq n2 0,A.not (A.le (A.nth l0 (A.nat n2)) 90),A.le 65 (A.nth l0 (A.nat n2)),!A.le 97 (A.nth l0 (A.nat n2)),Zah (Zah (A.le 0 n2) (Nat.blt (A.nat n2) (A.len l0))) true,A.lt n2 n1],
  AV.bool false,none):=by kernel_rfl
theorem Ztb(A:Ar)(s:List UInt8)(l0:List Int)(n1 n2:Int):ZaX A tab E0 65 [true,false,false,false,false,false,false,true,true,false,true,false,true,true,true,false,false,false,true,true,true,false,false,true,false,false,true,true,false,true,true] 182 (Zaq s l0 n1 n2) (Zam s l0 n1 n2)=
 some (tr [2,14,5,5,5,12,12,6,1,1] [A.lt 57 (A.nth l0 (A.nat n2)),!A.lt (A.nth l0 (A.nat n2)) 48,A.not (A.eq (A.nth l0 (A.nat n2)) 45),!A.eq n2 0,A.not (A.le (A.nth l0 (A.nat n2)) 90),A.le 65 (A.nth l0 (A.nat n2)),!A.le 97 (A.nth l0 (A.nat n2)),Zah (Zah (A.le 0 n2) (Nat.blt (A.nat n2) (A.len l0))) true,A.lt n2 n1],
  AV.bool false,none):=by kernel_rfl
theorem Zwt(A:Ar)(s:List UInt8)(l0:List Int)(n1 n2:Int):ZaC A tab E0 68 [true,false,false,false,false,false,false,true,true,false,true,false,true,true,true,false,false,false,true,true,true,false,false,true,false,false,true,true,false,true,false] (Zaq s l0 n1 n2) (Zam s l0 n1 n2)=
 some (tr [1,0,14,5,5,5,12,12,6,1,1] [A.inR .i64 (A.add n2 1),!A.lt 57 (A.nth l0 (A.nat n2)),!A.lt (A.nth l0 (A.nat n2)) 48,A.not (A.eq (A.nth l0 (A.nat n2)) 45),!A.eq n2 0,A.not (A.le (A.nth l0 (A.nat n2)) 90),A.le 65 (A.nth l0 (A.nat n2)),!A.le 97 (A.nth l0 (A.nat n2)),Zah (Zah (A.le 0 n2) (Nat.blt (A.nat n2) (A.len l0))) true,A.lt n2 n1],
  ZaL (s) (l0) (n1) (A.add n2 1)):=by kernel_rfl
theorem Ztp(A:Ar)(s:List UInt8)(l0:List Int)(n1 n2:Int):ZaC A tab E0 68 [true,false,false,false,false,false,false,true,true,false,true,false,true,true,true,false,false,false,false,false,false,false,false,false,true,false,true,false] (Zaq s l0 n1 n2) (Zam s l0 n1 n2)=
 some (tr [1,18,5,5,12,12,6,1,1] [A.inR .i64 (A.add n2 1),!A.not (A.eq (A.nth l0 (A.nat n2)) 45),!A.eq n2 0,A.not (A.le (A.nth l0 (A.nat n2)) 90),A.le 65 (A.nth l0 (A.nat n2)),!A.le 97 (A.nth l0 (A.nat n2)),Zah (Zah (A.le 0 n2) (Nat.blt (A.nat n2) (A.len l0))) true,A.lt n2 n1],
  ZaL (s) (l0) (n1) (A.add n2 1)):=by kernel_rfl
theorem Zt9(A:Ar)(s:List UInt8)(l0:List Int)(n1 n2:Int):ZaC A tab E0 68 [true,false,false,false,false,false,false,true,true,false,true,false,false,false,false,false,false,false] (Zaq s l0 n1 n2) (Zam s l0 n1 n2)=
 some (tr [1,20,12,12,6,1,1] [A.inR .i64 (A.add n2 1),!A.not (A.le (A.nth l0 (A.nat n2)) 90),A.le 65 (A.nth l0 (A.nat n2)),!A.le 97 (A.nth l0 (A.nat n2)),Zah (Zah (A.le 0 n2) (Nat.blt (A.nat n2) (A.len l0))) true,A.lt n2 n1],
  ZaL (s) (l0) (n1) (A.add n2 1)):=by kernel_rfl
theorem Zvo(A:Ar)(s:List UInt8)(l0:List Int)(n1 n2:Int):ZaX A tab E0 65 [true,false,false,false,false,false,false,false,false,false,false,false,true,true,true,true,true,true,true,true,true,true,true] 182 (Zaq s l0 n1 n2) (Zam s l0 n1 n2)=
 some (tr [21,5,12,12,6,1,1] [A.eq n2 0,A.not false,!A.le 65 (A.nth l0 (A.nat n2)),!A.le 97 (A.nth l0 (A.nat n2)),Zah (Zah (A.le 0 n2) (Nat.blt (A.nat n2) (A.len l0))) true,A.lt n2 n1],
  AV.bool false,none):=by kernel_rfl
theorem ZtO(A:Ar)(s:List UInt8)(l0:List Int)(n1 n2:Int):ZaX A tab E0 65 [true,false,false,false,false,false,false,false,false,false,false,false,true,true,true,false,false,false,true,true,true,true,true,true,true,false,true,true,false,true,true] 182 (Zaq s l0 n1 n2) (Zam s l0 n1 n2)=
 some (tr [17,5,5,5,12,12,6,1,1] [A.lt (A.nth l0 (A.nat n2)) 48,A.not (A.eq (A.nth l0 (A.nat n2)) 45),!A.eq n2 0,A.not false,!A.le 65 (A.nth l0 (A.nat n2)),!A.le 97 (A.nth l0 (A.nat n2)),Zah (Zah (A.le 0 n2) (Nat.blt (A.nat n2) (A.len l0))) true,A.lt n2 n1],
  AV.bool false,none):=by kernel_rfl
theorem ZvF(A:Ar)(s:List UInt8)(l0:List Int)(n1 n2:Int):ZaX A tab E0 65 [true,false,false,false,false,false,false,false,false,false,false,false,true,true,true,false,false,false,true,true,true,false,false,true,false,false,true,true,false,true,true] 182 (Zaq s l0 n1 n2) (Zam s l0 n1 n2)=
 some (tr [2,14,5,5,5,12,12,6,1,1] [A.lt 57 (A.nth l0 (A.nat n2)),!A.lt (A.nth l0 (A.nat n2)) 48,A.not (A.eq (A.nth l0 (A.nat n2)) 45),!A.eq n2 0,A.not false,!A.le 65 (A.nth l0 (A.nat n2)),!A.le 97 (A.nth l0 (A.nat n2)),Zah (Zah (A.le 0 n2) (Nat.blt (A.nat n2) (A.len l0))) true,A.lt n2 n1],
  AV.bool false,none):=by kernel_rfl
theorem Zuz(A:Ar)(s:List UInt8)(l0:List Int)(n1 n2:Int):ZaC A tab E0 68 [true,false,false,false,false,false,false,false,false,false,false,false,true,true,true,false,false,false,true,true,true,false,false,true,false,false,true,true,false,true,false] (Zaq s l0 n1 n2) (Zam s l0 n1 n2)=
 some (tr [1,0,14,5,5,5,12,12,6,1,1] [A.inR .i64 (A.add n2 1),!A.lt 57 (A.nth l0 (A.nat n2)),!A.lt (A.nth l0 (A.nat n2)) 48,A.not (A.eq (A.nth l0 (A.nat n2)) 45),!A.eq n2 0,A.not false,!A.le 65 (A.nth l0 (A.nat n2)),!A.le 97 (A.nth l0 (A.nat n2)),Zah (Zah (A.le 0 n2) (Nat.blt (A.nat n2) (A.len l0))) true,A.lt n2 n1],
  ZaL (s) (l0) (n1) (A.add n2 1)):=by kernel_rfl
theorem Zvf(A:Ar)(s:List UInt8)(l0:List Int)(n1 n2:Int):ZaC A tab E0 68 [true,false,false,false,false,false,false,false,false,false,false,false,true,true,true,false,false,false,false,false,false,false,false,false,true,false,true,false] (Zaq s l0 n1 n2) (Zam s l0 n1 n2)=
 some (tr [1,18,5,5,12,12,6,1,1] [A.inR .i64 (A.add n2 1),!A.not (A.eq (A.nth l0 (A.nat n2)) 45),!A.eq n2 0,A.not false,!A.le 65 (A.nth l0 (A.nat n2)),!A.le 97 (A.nth l0 (A.nat n2)),Zah (Zah (A.le 0 n2) (Nat.blt (A.nat n2) (A.len l0))) true,A.lt n2 n1],
  ZaL (s) (l0) (n1) (A.add n2 1)):=by kernel_rfl
theorem ZtE(A:Ar)(s:List UInt8)(l0:List Int)(n1 n2:Int):ZaX A tab E0 21 [false,true,true,true,true] 182 (Zaq s l0 n1 n2) (Zam s l0 n1 n2)=
 some (tr [9,3,1] [A.not (A.eqS s []),!A.lt n2 n1],
  AV.bool (A.le (A.int (A.lenS s)) 12),none):=by kernel_rfl
theorem ZuZ(A:Ar)(s:List UInt8)(l0:List Int)(n1 n2:Int):ZaX A tab E0 21 [false,false,false,false,false] 182 (Zaq s l0 n1 n2) (Zam s l0 n1 n2)=
 some (tr [9,3,1] [!A.not (A.eqS s []),!A.lt n2 n1],
  AV.bool false,none):=by kernel_rfl
def Zr5(n:Int):AFrame:={ fn:=161,N:=3,env:=[(0,AV.int .i64 n)],todo:=[.code a161.code],defs:=[],rnd:=none,ret:=false,res:=[ARes.tmp 2] }
def ZDM(n:Int):List AFrame:=[(Zr5 n)]
theorem Zq6(n:Int):Zat tab 161 [AV.int .i64 n]=some (Zr5 n):=rfl
theorem Zyf(A:Ar)(n:Int):ZaX A tab E0 9 [] 161 (ZDM n) []=
 some (tr [3] [],
  AV.int .i64 0,none):=by kernel_rfl
end Go.Proofs.YtkeoeooghhjibaaGreatDoor
/- Names, ranges, first errors. No condition. -/
namespace Go.Proofs.YtkeoeooghhjibaaGreatDoor
def Zab(n a b:Int):Bool:=decide (a≤n∧n≤b)
def Zaa(b:Bool)(e:Int):Int:=if b=true then 0 else e
def Zyr(k:Nat)(c:Int):Bool:=decide ((97≤c∧c≤122)∨(65≤c∧c≤90)∨(k≠0∧(c=45∨(48≤c∧c≤57))))
def nmR(f:Nat→Int):Nat→Nat→Bool
 |0,_=>true
 |m+1,k=>Zyr k (f k)&&nmR f m (k+1)
def ZaT(s:List UInt8):Bool:=decide (1≤s.length∧s.length≤12)&&nmR (fun k=>((s.getD k 0).toNat:Int)) s.length 0
def Zaf:List Int→Int
 |[]=>0
 |x::xs=>if x=0 then Zaf xs else x
def Zhl(xs:List AV)(s:List UInt8):Bool:=xs.any fun x=>x.toS==s
theorem ZkG(n a b:Int):Zap Tryz.prog 41 [.int .i64 n, .int .i64 a, .int .i64 b] (.bool (Zab n a b)) none:=
 start (ZwE n a b) fun C hC=>by
  by_cases h:a≤n
  ·exact fin hC ZaH (ZDU std n a b) (by simp[h]) (by simp[Zab,h]) rfl
  ·exact fin hC ZaH (ZEN std n a b) (by simp;omega) (by simp[Zab,h]) rfl
theorem Zls(n a b:Int):Zap Tryz.prog 82 [.int .i64 n, .int .i64 a, .int .i64 b] (.bool (Zab n a b)) none:=
 start (Zww n a b) fun C hC=>by
  by_cases h:a≤n
  ·exact fin hC ZaH (ZDB std n a b) (by simp[h]) (by simp[Zab,h]) rfl
  ·exact fin hC ZaH (ZD1 std n a b) (by simp;omega) (by simp[Zab,h]) rfl
theorem Zlo(b:Bool)(e:Int):Zap Tryz.prog 68 [.bool b, .int .i64 e] (.int .i64 (Zaa b e)) none:=
 start (Zwp b e) fun C hC=>by
  cases b
  ·first
   |exact fin hC ZaH (ZAf std false e) (by simp) rfl rfl
   |exact fin hC ZaH (ZyT std false e) (by simp) rfl rfl
  ·first
   |exact fin hC ZaH (ZAf std true e) (by simp) rfl rfl
   |exact fin hC ZaH (ZyT std true e) (by simp) rfl rfl
theorem Zp2(n:Int):Zap Tryz.prog 161 [.int .i64 n] (.int .i64 0) none:=start (Zq6 n) fun C hC=>fin hC ZaH (Zyf std n) (by simp) rfl rfl
theorem Zhi{C:Ctx}(hC:C.P=Tryz.prog)(s:List UInt8)(hl:s.length≤1000000):∀(m k:Nat),k+m=s.length→Ev C (Zar s (k:Int)) (Zao s (k:Int)) (Zco 150 (.bool (nmR (fun k=>((s.getD k 0).toNat:Int)) m k)) none)
 |0,k,hk=>fin hC ZaH (Zt0 std s k) (by simp;omega) rfl rfl
 |m+1,k,hk=>by
  have nx:Zyr k (((s.getD k 0).toNat:Int))=true→Ev C (Zar s ((k:Int)+1)) (Zao s ((k:Int)+1)) (Zco 150 (.bool (nmR (fun k=>((s.getD k 0).toNat:Int)) (m+1) k)) none):=fun h=>by
   have:=Zhi hC s hl m (k+1) (by omega)
   simp only[nmR,h,Bool.true_and]
   exact this
  have fx:Zyr k (((s.getD k 0).toNat:Int))=false→AV.bool false=AV.bool (nmR (fun k=>((s.getD k 0).toNat:Int)) (m+1) k):=fun h=>by simp only[nmR,h,Bool.false_and]
  by_cases h1:((k:Int)<((s.length:Nat):Int))
  ·by_cases h2:(97≤((s.getD k 0).toNat:Int))
   ·by_cases h3:(((s.getD k 0).toNat:Int)≤122)
    ·exact go hC ZaH (Zyz std s (k:Int)) (by simp[-List.getD_eq_getElem?_getD]<;>omega) (nx (decide_eq_true (by omega)))
    ·by_cases h4:(65≤((s.getD k 0).toNat:Int))
     ·by_cases h5:(((s.getD k 0).toNat:Int)≤90)
      ·exact go hC ZaH (Zz9 std s (k:Int)) (by simp[-List.getD_eq_getElem?_getD]<;>omega) (nx (decide_eq_true (by omega)))
      ·by_cases h6:((k:Int)=0)
       ·exact fin hC ZaH (ZxI std s (k:Int)) (by simp[-List.getD_eq_getElem?_getD]<;>omega) (fx (decide_eq_false (by omega))) rfl
       ·by_cases h7:(((s.getD k 0).toNat:Int)=45)
        ·exact go hC ZaH (ZB2 std s (k:Int)) (by simp[-List.getD_eq_getElem?_getD]<;>omega) (nx (decide_eq_true (by omega)))
        ·by_cases h8:(((s.getD k 0).toNat:Int)<48)
         ·exact fin hC ZaH (Zx5 std s (k:Int)) (by simp[-List.getD_eq_getElem?_getD]<;>omega) (fx (decide_eq_false (by omega))) rfl
         ·by_cases h9:(57<((s.getD k 0).toNat:Int))
          ·exact fin hC ZaH (ZAd std s (k:Int)) (by simp[-List.getD_eq_getElem?_getD]<;>omega) (fx (decide_eq_false (by omega))) rfl
          ·exact go hC ZaH (ZAb std s (k:Int)) (by simp[-List.getD_eq_getElem?_getD]<;>omega) (nx (decide_eq_true (by omega)))
     ·by_cases h5:((k:Int)=0)
      ·exact fin hC ZaH (Zv0 std s (k:Int)) (by simp[-List.getD_eq_getElem?_getD]<;>omega) (fx (decide_eq_false (by omega))) rfl
      ·by_cases h6:(((s.getD k 0).toNat:Int)=45)
       ·exact go hC ZaH (ZtU std s (k:Int)) (by simp[-List.getD_eq_getElem?_getD]<;>omega) (nx (decide_eq_true (by omega)))
       ·by_cases h7:(((s.getD k 0).toNat:Int)<48)
        ·exact fin hC ZaH (Zuy std s (k:Int)) (by simp[-List.getD_eq_getElem?_getD]<;>omega) (fx (decide_eq_false (by omega))) rfl
        ·by_cases h8:(57<((s.getD k 0).toNat:Int))
         ·exact fin hC ZaH (Zvm std s (k:Int)) (by simp[-List.getD_eq_getElem?_getD]<;>omega) (fx (decide_eq_false (by omega))) rfl
         ·exact go hC ZaH (ZuX std s (k:Int)) (by simp[-List.getD_eq_getElem?_getD]<;>omega) (nx (decide_eq_true (by omega)))
   ·by_cases h3:(65≤((s.getD k 0).toNat:Int))
    ·by_cases h4:(((s.getD k 0).toNat:Int)≤90)
     ·exact go hC ZaH (Ztc std s (k:Int)) (by simp[-List.getD_eq_getElem?_getD]<;>omega) (nx (decide_eq_true (by omega)))
     ·by_cases h5:((k:Int)=0)
      ·exact fin hC ZaH (Zwr std s (k:Int)) (by simp[-List.getD_eq_getElem?_getD]<;>omega) (fx (decide_eq_false (by omega))) rfl
      ·by_cases h6:(((s.getD k 0).toNat:Int)=45)
       ·exact go hC ZaH (ZtV std s (k:Int)) (by simp[-List.getD_eq_getElem?_getD]<;>omega) (nx (decide_eq_true (by omega)))
       ·by_cases h7:(((s.getD k 0).toNat:Int)<48)
        ·exact fin hC ZaH (Zud std s (k:Int)) (by simp[-List.getD_eq_getElem?_getD]<;>omega) (fx (decide_eq_false (by omega))) rfl
        ·by_cases h8:(57<((s.getD k 0).toNat:Int))
         ·exact fin hC ZaH (ZuT std s (k:Int)) (by simp[-List.getD_eq_getElem?_getD]<;>omega) (fx (decide_eq_false (by omega))) rfl
         ·exact go hC ZaH (ZvJ std s (k:Int)) (by simp[-List.getD_eq_getElem?_getD]<;>omega) (nx (decide_eq_true (by omega)))
    ·by_cases h4:((k:Int)=0)
     ·exact fin hC ZaH (Zu7 std s (k:Int)) (by simp[-List.getD_eq_getElem?_getD]<;>omega) (fx (decide_eq_false (by omega))) rfl
     ·by_cases h5:(((s.getD k 0).toNat:Int)=45)
      ·exact go hC ZaH (Zv3 std s (k:Int)) (by simp[-List.getD_eq_getElem?_getD]<;>omega) (nx (decide_eq_true (by omega)))
      ·by_cases h6:(((s.getD k 0).toNat:Int)<48)
       ·exact fin hC ZaH (ZvP std s (k:Int)) (by simp[-List.getD_eq_getElem?_getD]<;>omega) (fx (decide_eq_false (by omega))) rfl
       ·by_cases h7:(57<((s.getD k 0).toNat:Int))
        ·exact fin hC ZaH (Zug std s (k:Int)) (by simp[-List.getD_eq_getElem?_getD]<;>omega) (fx (decide_eq_false (by omega))) rfl
        ·exact go hC ZaH (Zuu std s (k:Int)) (by simp[-List.getD_eq_getElem?_getD]<;>omega) (nx (decide_eq_true (by omega)))
  ·omega
theorem Zn0(s:List UInt8)(hl:s.length≤1000000):Zap Tryz.prog 150 [.str s] (.bool (ZaT s)) none:=
 start (Zq3 s) fun C hC=>by
  by_cases h1:((s.length:Int)<1)
  ·exact fin hC ZaH (ZxP std s) (by simp;omega) (by simp[ZaT];omega) rfl
  ·by_cases h2:(12<(s.length:Int))
   ·exact fin hC ZaH (ZAW std s) (by simp;omega) (by simp[ZaT];omega) rfl
   ·refine go hC ZaH (ZBL std s) (by simp;omega) ?_
    have:=Zhi hC s hl s.length 0 (by omega)
    have e:decide (1≤s.length∧s.length≤12)=true:=by simp;omega
    simp only[ZaT,e,Bool.true_and]
    exact this
theorem Zgj{C:Ctx}(hC:C.P=Tryz.prog)(s:List UInt8)(l0:List Int)(hl:l0.length≤4294967296):∀(m k:Nat),k+m=l0.length→Ev C (Zaq s l0 (l0.length:Int) (k:Int)) (Zam s l0 (l0.length:Int) (k:Int)) (Zco 182 (.bool (decide (1≤s.length∧s.length≤12)&&nmR (fun k=>l0.getD k 0) m k)) none)
 |0,k,hk=>by
  by_cases h2:s=[]
  ·exact fin hC ZaH (ZuZ std s l0 l0.length k) (by simp[h2];omega) (by simp[h2]) rfl
  ·have h3:0<s.length:=List.length_pos_iff.2 h2
   exact fin hC ZaH (ZtE std s l0 l0.length k) (by simp[h2];omega) (by simp only[nmR,Bool.and_true];congr 1;rw[Bool.eq_iff_iff];simp;omega) rfl
 |m+1,k,hk=>by
  have nx:Zyr k (l0.getD k 0)=true→Ev C (Zaq s l0 (l0.length:Int) ((k:Int)+1)) (Zam s l0 (l0.length:Int) ((k:Int)+1)) (Zco 182 (.bool (decide (1≤s.length∧s.length≤12)&&nmR (fun k=>l0.getD k 0) (m+1) k)) none):=fun h=>by
   have:=Zgj hC s l0 hl m (k+1) (by omega)
   simp only[nmR,h,Bool.true_and]
   exact this
  have fx:Zyr k (l0.getD k 0)=false→AV.bool false=AV.bool (decide (1≤s.length∧s.length≤12)&&nmR (fun k=>l0.getD k 0) (m+1) k):=fun h=>by simp only[nmR,h,Bool.false_and,Bool.and_false]
  by_cases h1:((k:Int)<(l0.length:Int))
  ·by_cases h2:(97≤(l0.getD k 0))
   ·by_cases h3:((l0.getD k 0)≤122)
    ·exact go hC ZaH (ZA2 std s l0 (l0.length:Int) (k:Int)) (by simp[-List.getD_eq_getElem?_getD]<;>omega) (nx (decide_eq_true (by omega)))
    ·by_cases h4:(65≤(l0.getD k 0))
     ·by_cases h5:((l0.getD k 0)≤90)
      ·exact go hC ZaH (Zz7 std s l0 (l0.length:Int) (k:Int)) (by simp[-List.getD_eq_getElem?_getD]<;>omega) (nx (decide_eq_true (by omega)))
      ·by_cases h6:((k:Int)=0)
       ·exact fin hC ZaH (Zz3 std s l0 (l0.length:Int) (k:Int)) (by simp[-List.getD_eq_getElem?_getD]<;>omega) (fx (decide_eq_false (by omega))) rfl
       ·by_cases h7:((l0.getD k 0)=45)
        ·exact go hC ZaH (ZBQ std s l0 (l0.length:Int) (k:Int)) (by simp[-List.getD_eq_getElem?_getD]<;>omega) (nx (decide_eq_true (by omega)))
        ·by_cases h8:((l0.getD k 0)<48)
         ·exact fin hC ZaH (Zzs std s l0 (l0.length:Int) (k:Int)) (by simp[-List.getD_eq_getElem?_getD]<;>omega) (fx (decide_eq_false (by omega))) rfl
         ·by_cases h9:(57<(l0.getD k 0))
          ·exact fin hC ZaH (ZBR std s l0 (l0.length:Int) (k:Int)) (by simp[-List.getD_eq_getElem?_getD]<;>omega) (fx (decide_eq_false (by omega))) rfl
          ·exact go hC ZaH (Zz8 std s l0 (l0.length:Int) (k:Int)) (by simp[-List.getD_eq_getElem?_getD]<;>omega) (nx (decide_eq_true (by omega)))
     ·by_cases h5:((k:Int)=0)
      ·exact fin hC ZaH (Zza std s l0 (l0.length:Int) (k:Int)) (by simp[-List.getD_eq_getElem?_getD]<;>omega) (fx (decide_eq_false (by omega))) rfl
      ·by_cases h6:((l0.getD k 0)=45)
       ·exact go hC ZaH (Zvl std s l0 (l0.length:Int) (k:Int)) (by simp[-List.getD_eq_getElem?_getD]<;>omega) (nx (decide_eq_true (by omega)))
       ·by_cases h7:((l0.getD k 0)<48)
        ·exact fin hC ZaH (ZA9 std s l0 (l0.length:Int) (k:Int)) (by simp[-List.getD_eq_getElem?_getD]<;>omega) (fx (decide_eq_false (by omega))) rfl
        ·by_cases h8:(57<(l0.getD k 0))
         ·exact fin hC ZaH (ZwL std s l0 (l0.length:Int) (k:Int)) (by simp[-List.getD_eq_getElem?_getD]<;>omega) (fx (decide_eq_false (by omega))) rfl
         ·exact go hC ZaH (Zvw std s l0 (l0.length:Int) (k:Int)) (by simp[-List.getD_eq_getElem?_getD]<;>omega) (nx (decide_eq_true (by omega)))
   ·by_cases h3:(65≤(l0.getD k 0))
    ·by_cases h4:((l0.getD k 0)≤90)
     ·exact go hC ZaH (Zt9 std s l0 (l0.length:Int) (k:Int)) (by simp[-List.getD_eq_getElem?_getD]<;>omega) (nx (decide_eq_true (by omega)))
     ·by_cases h5:((k:Int)=0)
      ·exact fin hC ZaH (Zul std s l0 (l0.length:Int) (k:Int)) (by simp[-List.getD_eq_getElem?_getD]<;>omega) (fx (decide_eq_false (by omega))) rfl
      ·by_cases h6:((l0.getD k 0)=45)
       ·exact go hC ZaH (Ztp std s l0 (l0.length:Int) (k:Int)) (by simp[-List.getD_eq_getElem?_getD]<;>omega) (nx (decide_eq_true (by omega)))
       ·by_cases h7:((l0.getD k 0)<48)
        ·exact fin hC ZaH (Zu1 std s l0 (l0.length:Int) (k:Int)) (by simp[-List.getD_eq_getElem?_getD]<;>omega) (fx (decide_eq_false (by omega))) rfl
        ·by_cases h8:(57<(l0.getD k 0))
         ·exact fin hC ZaH (Ztb std s l0 (l0.length:Int) (k:Int)) (by simp[-List.getD_eq_getElem?_getD]<;>omega) (fx (decide_eq_false (by omega))) rfl
         ·exact go hC ZaH (Zwt std s l0 (l0.length:Int) (k:Int)) (by simp[-List.getD_eq_getElem?_getD]<;>omega) (nx (decide_eq_true (by omega)))
    ·by_cases h4:((k:Int)=0)
     ·exact fin hC ZaH (Zvo std s l0 (l0.length:Int) (k:Int)) (by simp[-List.getD_eq_getElem?_getD]<;>omega) (fx (decide_eq_false (by omega))) rfl
     ·by_cases h5:((l0.getD k 0)=45)
      ·exact go hC ZaH (Zvf std s l0 (l0.length:Int) (k:Int)) (by simp[-List.getD_eq_getElem?_getD]<;>omega) (nx (decide_eq_true (by omega)))
      ·by_cases h6:((l0.getD k 0)<48)
       ·exact fin hC ZaH (ZtO std s l0 (l0.length:Int) (k:Int)) (by simp[-List.getD_eq_getElem?_getD]<;>omega) (fx (decide_eq_false (by omega))) rfl
       ·by_cases h7:(57<(l0.getD k 0))
        ·exact fin hC ZaH (ZvF std s l0 (l0.length:Int) (k:Int)) (by simp[-List.getD_eq_getElem?_getD]<;>omega) (fx (decide_eq_false (by omega))) rfl
        ·exact go hC ZaH (Zuz std s l0 (l0.length:Int) (k:Int)) (by simp[-List.getD_eq_getElem?_getD]<;>omega) (nx (decide_eq_true (by omega)))
  ·by_cases h2:(s=[])
   ·omega
   ·omega
theorem ZoW(s:List UInt8)(hl:s.length≤1000000):Zap Tryz.prog 182 [.str s] (.bool (ZaT s)) none:=
 start (Zrz s) fun C hC=>by
  refine go hC ZaH (ZBM std s) (by simp;omega) ?_
  have:=Zgj hC s (s.map fun b=>(b.toNat:Int)) (by simp;omega) (s.map fun b=>(b.toNat:Int)).length 0 (by simp)
  have e:(fun k=>(s.map fun b=>(b.toNat:Int)).getD k 0)=fun k=>((s.getD k 0).toNat:Int):=by
   funext k
   simp only[List.getD_eq_getElem?_getD,List.getElem?_map]
   cases s[k]?<;>rfl
  have q:(decide (1≤s.length∧s.length≤12)&&nmR (fun k=>(s.map fun b=>(b.toNat:Int)).getD k 0) (s.map fun b=>(b.toNat:Int)).length 0)=ZaT s:=by rw[e,List.length_map];rfl
  rw[q]at this
  exact this
@[simp] theorem Zcn (l:List AV):std.lenA l=l.length:=rfl
@[simp] theorem ZFP (l:List AV) (j:Nat):std.nthA l j=l.getD j .top:=rfl
theorem Zim{C:Ctx}(hC:C.P=Tryz.prog)(xs:List AV)(s:List UInt8)(hl:xs.length≤1000000):∀(m k:Nat),k+m=xs.length→Ev C (Zb9 xs s (k:Int)) (ZbN xs s (k:Int)) (Zco 151 (.bool (Zhl (xs.drop k) s)) none)
 |0,k,hk=>fin hC ZaH (ZzT std xs s k) (by simp;omega) (by rw[List.drop_of_length_le (by omega)];rfl) rfl
 |m+1,k,hk=>by
  have hd:xs.drop k=xs[k]'(by omega)::xs.drop (k+1):=List.drop_eq_getElem_cons (by omega)
  have hg:xs.getD k .top=xs[k]'(by omega):=by simp[List.getD_eq_getElem?_getD,List.getElem?_eq_getElem (show k<xs.length by omega)]
  by_cases h:(xs.getD k .top).toS=s
  ·exact fin hC ZaH (ZBV std xs s k) (by simp[-List.getD_eq_getElem?_getD,h]<;>omega) (by rw[hd,←hg];simp[-List.getD_eq_getElem?_getD,Zhl,h]) rfl
  ·refine go hC ZaH (ZBq std xs s k) (by simp[-List.getD_eq_getElem?_getD,h]<;>omega) ?_
   have:=Zim hC xs s hl m (k+1) (by omega)
   rw[hd,←hg]
   have e:Zhl (xs.getD k .top::xs.drop (k+1)) s=Zhl (xs.drop (k+1)) s:=by simp[-List.getD_eq_getElem?_getD,Zhl,h]
   rw[e]
   exact this
theorem Zq4(xs:List AV)(s:List UInt8)(hl:xs.length≤1000000):Zap Tryz.prog 151 [.list (.big .str xs), .str s] (.bool (Zhl xs s)) none:=
 start (ZrZ xs s) fun C hC=>go hC ZaH (Zzx std xs s) (by simp) (Zim hC xs s hl xs.length 0 (by omega))
theorem ZfI{C:Ctx}(hC:C.P=Tryz.prog)(xs:List Int)(hl:xs.length≤1000000):∀(m k:Nat),k+m=xs.length→Ev C (Zdq xs (xs.length:Int) (k:Int)) (ZcE xs (xs.length:Int) (k:Int)) (Zco 67 (.int .i64 (Zaf (xs.drop k))) none)
 |0,k,hk=>fin hC ZaH (ZCw std xs xs.length k) (by simp;omega) (by rw[List.drop_of_length_le (by omega)];rfl) rfl
 |m+1,k,hk=>by
  have hd:xs.drop k=xs[k]'(by omega)::xs.drop (k+1):=List.drop_eq_getElem_cons (by omega)
  have hg:xs.getD k 0=xs[k]'(by omega):=by simp[List.getD_eq_getElem?_getD,List.getElem?_eq_getElem (show k<xs.length by omega)]
  by_cases h:xs.getD k 0=0
  ·refine go hC ZaH (ZEy std xs xs.length k) (by simp[-List.getD_eq_getElem?_getD,h]<;>omega) ?_
   have:=ZfI hC xs hl m (k+1) (by omega)
   rw[hd,←hg,Zaf,if_pos h]
   exact this
  ·exact fin hC ZaH (ZEx std xs xs.length k) (by simp[-List.getD_eq_getElem?_getD,h]<;>omega) (by rw[hd,←hg,Zaf,if_neg h];rfl) rfl
theorem Zm8(xs:List Int)(hl:xs.length≤1000000):Zap Tryz.prog 67 [.list (.ints .i64 xs)] (.int .i64 (Zaf xs)) none:=
 start (Zvn xs) fun C hC=>go hC ZaH (ZEQ std xs) (by simp) (ZfI hC xs hl xs.length 0 (by omega))
end Go.Proofs.YtkeoeooghhjibaaGreatDoor
/- Contracts as a list. No condition. -/
namespace Go.Proofs.YtkeoeooghhjibaaGreatDoor
def k41:Ctr:=⟨41,0,fun _ a=>match a with |[.int .i64 n, .int .i64 a, .int .i64 b]=>some (true, .bool (Zab n a b),none) |_=>none⟩
theorem ZAx:k41.OK Tryz.prog:=fun pa args r fr h=>by
 simp only[k41]at h
 split at h
 ·cases h
  exact ZkG _ _ _
 ·cases h
def k82:Ctr:=⟨82,0,fun _ a=>match a with |[.int .i64 n, .int .i64 a, .int .i64 b]=>some (true, .bool (Zab n a b),none) |_=>none⟩
theorem ZyL:k82.OK Tryz.prog:=fun pa args r fr h=>by
 simp only[k82]at h
 split at h
 ·cases h
  exact Zls _ _ _
 ·cases h
def k68:Ctr:=⟨68,0,fun _ a=>match a with |[.bool b, .int .i64 e]=>some (true, .int .i64 (Zaa b e),none) |_=>none⟩
theorem ZzI:k68.OK Tryz.prog:=fun pa args r fr h=>by
 simp only[k68]at h
 split at h
 ·cases h
  exact Zlo _ _
 ·cases h
def k161:Ctr:=⟨161,0,fun _ a=>match a with |[.int .i64 _]=>some (true, .int .i64 0,none) |_=>none⟩
theorem ZtT:k161.OK Tryz.prog:=fun pa args r fr h=>by
 simp only[k161]at h
 split at h
 ·cases h
  exact Zp2 _
 ·cases h
def k150:Ctr:=⟨150,0,fun _ a=>match a with |[.str s]=>some (decide (s.length≤1000000), .bool (ZaT s),none) |_=>none⟩
theorem ZwK:k150.OK Tryz.prog:=fun pa args r fr h=>by
 simp only[k150]at h
 split at h
 ·simp only[Option.some.injEq,Prod.mk.injEq,decide_eq_true_eq]at h
  obtain⟨h0,rfl,rfl⟩:=h
  exact Zn0 _ h0
 ·cases h
def k182:Ctr:=⟨182,0,fun _ a=>match a with |[.str s]=>some (decide (s.length≤1000000), .bool (ZaT s),none) |_=>none⟩
theorem ZwX:k182.OK Tryz.prog:=fun pa args r fr h=>by
 simp only[k182]at h
 split at h
 ·simp only[Option.some.injEq,Prod.mk.injEq,decide_eq_true_eq]at h
  obtain⟨h0,rfl,rfl⟩:=h
  exact ZoW _ h0
 ·cases h
def k151:Ctr:=⟨151,0,fun _ a=>match a with |[.list (.big .str xs), .str s]=>some (decide (xs.length≤1000000), .bool (Zhl xs s),none) |_=>none⟩
theorem ZtZ:k151.OK Tryz.prog:=fun pa args r fr h=>by
 simp only[k151]at h
 split at h
 ·simp only[Option.some.injEq,Prod.mk.injEq,decide_eq_true_eq]at h
  obtain⟨h0,rfl,rfl⟩:=h
  exact Zq4 _ _ h0
 ·cases h
def k67:Ctr:=⟨67,0,fun _ a=>match a with |[.list (.ints .i64 xs)]=>some (decide (xs.length≤1000000), .int .i64 (Zaf xs),none) |_=>none⟩
theorem ZBt:k67.OK Tryz.prog:=fun pa args r fr h=>by
 simp only[k67]at h
 split at h
 ·simp only[Option.some.injEq,Prod.mk.injEq,decide_eq_true_eq]at h
  obtain⟨h0,rfl,rfl⟩:=h
  exact Zm8 _ h0
 ·cases h
def B1:List Ctr:=[k41,k82,k68,k161,k150,k182,k151,k67]
theorem Zlq:ZaE Tryz.prog B1:=⟨ZAx,⟨ZyL,⟨ZzI,⟨ZtT,⟨ZwK,⟨ZwX,⟨ZtZ,⟨ZBt,trivial⟩⟩⟩⟩⟩⟩⟩⟩
end Go.Proofs.YtkeoeooghhjibaaGreatDoor
/- Paths of functions, printed by the explorer (Gx). No condition. -/
namespace Go.Proofs.YtkeoeooghhjibaaGreatDoor
set_option maxRecDepth 100000
set_option linter.unusedVariables false
def Zr4(n m:Int):AFrame:={ fn:=158,N:=13,env:=[(0,AV.int .i64 n),(1,AV.int .i64 m)],todo:=[.code a158.code],defs:=[],rnd:=none,ret:=false,res:=[ARes.tmp 4] }
def ZzE(n m:Int):List AFrame:=[(Zr4 n m)]
theorem Zrv(n m:Int):Zat tab 158 [AV.int .i64 n,AV.int .i64 m]=some (Zr4 n m):=rfl
theorem Zyx(A:Ar)(n m:Int):ZaX A tab B1 18 [true,true,true,true,true] 158 (ZzE n m) []=
 some (tr [11,4] [A.eq n (-1)],
  AV.bool true,none):=by kernel_rfl
theorem ZyK(A:Ar)(n m:Int):ZaX A tab B1 18 [false,false,false,false,false] 158 (ZzE n m) []=
 some (tr [6,4,4] [A.inR .i64 (A.sub m 1),!A.eq n (-1)],
  AV.bool (Zab n 0 (A.sub m 1)),none):=by kernel_rfl
def ZsG(ms ks rs:List AV)(i:Int):AFrame:={ fn:=160,N:=9,env:=[(0,AV.int .i64 i),(1,AV.eptr (AV.agg (Row.gen [.list (Row.big .str ms), .list (Row.big (.agg [.str, .int .i64]) ks), .list (Row.big (.agg [.str, .int .i64, .int .i64, .int .i64, .int .i64]) rs)])) 0)],todo:=[.code a160.code],defs:=[],rnd:=none,ret:=false,res:=[ARes.tmp 3] }
def ZEB(ms ks rs:List AV)(i:Int):List AFrame:=[(ZsG ms ks rs i)]
theorem Zqb(ms ks rs:List AV)(i:Int):Zat tab 160 [AV.int .i64 i,AV.eptr (AV.agg (Row.gen [.list (Row.big .str ms), .list (Row.big (.agg [.str, .int .i64]) ks), .list (Row.big (.agg [.str, .int .i64, .int .i64, .int .i64, .int .i64]) rs)])) 0]=some (ZsG ms ks rs i):=rfl
theorem Zys(A:Ar)(ms ks rs:List AV)(i:Int):ZaX A tab B1 14 [] 160 (ZEB ms ks rs i) []=
 some (tr [3,4] [Zah (Zah (A.le 0 i) (Nat.blt (A.nat i) (A.lenA ms))) true],
  AV.str (AV.toS (A.nthA ms (A.nat i))),none):=by kernel_rfl
def Zsj(ms ks rs:List AV)(i:Int):AFrame:={ fn:=162,N:=10,env:=[(0,AV.int .i64 i),(1,AV.eptr (AV.agg (Row.gen [.list (Row.big .str ms), .list (Row.big (.agg [.str, .int .i64]) ks), .list (Row.big (.agg [.str, .int .i64, .int .i64, .int .i64, .int .i64]) rs)])) 0)],todo:=[.code a162.code],defs:=[],rnd:=none,ret:=false,res:=[ARes.tmp 3] }
def ZDN(ms ks rs:List AV)(i:Int):List AFrame:=[(Zsj ms ks rs i)]
theorem ZrE(ms ks rs:List AV)(i:Int):Zat tab 162 [AV.int .i64 i,AV.eptr (AV.agg (Row.gen [.list (Row.big .str ms), .list (Row.big (.agg [.str, .int .i64]) ks), .list (Row.big (.agg [.str, .int .i64, .int .i64, .int .i64, .int .i64]) rs)])) 0]=some (Zsj ms ks rs i):=rfl
theorem ZAJ(A:Ar)(ms ks rs:List AV)(i:Int):ZaX A tab B1 16 [] 162 (ZDN ms ks rs i) []=
 some (tr [4,4] [Zah (Zah (A.le 0 i) (Nat.blt (A.nat i) (A.lenA ks))) true],
  AV.str ((A.nthA ks (A.nat i)).cellAt 0).toS,none):=by kernel_rfl
def Zs1(ms ks rs:List AV)(i:Int):AFrame:={ fn:=164,N:=10,env:=[(0,AV.int .i64 i),(1,AV.eptr (AV.agg (Row.gen [.list (Row.big .str ms), .list (Row.big (.agg [.str, .int .i64]) ks), .list (Row.big (.agg [.str, .int .i64, .int .i64, .int .i64, .int .i64]) rs)])) 0)],todo:=[.code a164.code],defs:=[],rnd:=none,ret:=false,res:=[ARes.tmp 3] }
def ZDV(ms ks rs:List AV)(i:Int):List AFrame:=[(Zs1 ms ks rs i)]
theorem ZrA(ms ks rs:List AV)(i:Int):Zat tab 164 [AV.int .i64 i,AV.eptr (AV.agg (Row.gen [.list (Row.big .str ms), .list (Row.big (.agg [.str, .int .i64]) ks), .list (Row.big (.agg [.str, .int .i64, .int .i64, .int .i64, .int .i64]) rs)])) 0]=some (Zs1 ms ks rs i):=rfl
theorem Zy5(A:Ar)(ms ks rs:List AV)(i:Int):ZaX A tab B1 16 [] 164 (ZDV ms ks rs i) []=
 some (tr [4,4] [Zah (Zah (A.le 0 i) (Nat.blt (A.nat i) (A.lenA rs))) true],
  AV.str ((A.nthA rs (A.nat i)).cellAt 0).toS,none):=by kernel_rfl
def ZxC(xs:List AV):AFrame:={ fn:=75,N:=6,env:=[(0,AV.list (Row.big .str xs))],todo:=[.code a75.code],defs:=[],rnd:=none,ret:=false,res:=[ARes.tmp 2] }
def ZGK(xs:List AV):List AFrame:=[(ZxC xs)]
theorem Zvy(xs:List AV):Zat tab 75 [AV.list (Row.big .str xs)]=some (ZxC xs):=rfl
theorem ZCI(A:Ar)(xs:List AV):ZaX A tab B1 12 [] 75 (ZGK xs) []=
 some (tr [2,3] [Nat.ble (A.lenA xs) 4294967296],
  AV.list (Row.big .str xs),none):=by kernel_rfl
end Go.Proofs.YtkeoeooghhjibaaGreatDoor
/- Contracts as a list. No condition. -/
namespace Go.Proofs.YtkeoeooghhjibaaGreatDoor
def Zhm(n m:Int):Bool:=if n= -1 then true else Zab n 0 (m-1)
def Za7(ms:List AV)(i:Int):List UInt8:=(ms.getD i.toNat .top).toS
def ZaA(ks:List AV)(i:Int):List UInt8:=((ks.getD i.toNat .top).cellAt 0).toS
theorem Zrf(n m:Int)(h: -1000000≤m∧m≤1000000):Zap Tryz.prog 158 [.int .i64 n, .int .i64 m] (.bool (Zhm n m)) none:=
 start (Zrv n m) fun C hC=>by
  by_cases h1:n= -1
  ·exact fin hC Zlq (Zyx std n m) (by simp[h1]) (by simp[Zhm,h1]) rfl
  ·exact fin hC Zlq (ZyK std n m) (by simp[h1];omega) (by simp[Zhm,h1]) rfl
theorem Zpb(ms ks rs:List AV)(i:Int)(h:0≤i∧i<ms.length):Zap Tryz.prog 160 [.int .i64 i, .eptr (.agg (.gen [.list (.big .str ms), .list (.big (.agg [.str, .int .i64]) ks), .list (.big (.agg [.str, .int .i64, .int .i64, .int .i64, .int .i64]) rs)])) 0] (.str (Za7 ms i)) none:=
 start (Zqb ms ks rs i) fun C hC=>fin hC Zlq (Zys std ms ks rs i) (by simp;omega) rfl rfl
theorem Zoh(ms ks rs:List AV)(i:Int)(h:0≤i∧i<ks.length):Zap Tryz.prog 162 [.int .i64 i, .eptr (.agg (.gen [.list (.big .str ms), .list (.big (.agg [.str, .int .i64]) ks), .list (.big (.agg [.str, .int .i64, .int .i64, .int .i64, .int .i64]) rs)])) 0] (.str (ZaA ks i)) none:=
 start (ZrE ms ks rs i) fun C hC=>fin hC Zlq (ZAJ std ms ks rs i) (by simp;omega) rfl rfl
theorem ZoI(ms ks rs:List AV)(i:Int)(h:0≤i∧i<rs.length):Zap Tryz.prog 164 [.int .i64 i, .eptr (.agg (.gen [.list (.big .str ms), .list (.big (.agg [.str, .int .i64]) ks), .list (.big (.agg [.str, .int .i64, .int .i64, .int .i64, .int .i64]) rs)])) 0] (.str (ZaA rs i)) none:=
 start (ZrA ms ks rs i) fun C hC=>fin hC Zlq (Zy5 std ms ks rs i) (by simp;omega) rfl rfl
theorem Zp5(xs:List AV)(h:xs.length≤1000000):Zap Tryz.prog 75 [.list (.big .str xs)] (.list (.big .str xs)) none:=
 start (Zvy xs) fun C hC=>fin hC Zlq (ZCI std xs) (by simp;omega) rfl rfl
def k158:Ctr:=⟨158,0,fun _ a=>match a with |[.int .i64 n, .int .i64 m]=>some (decide (-1000000≤m∧m≤1000000), .bool (Zhm n m),none) |_=>none⟩
theorem ZvH:k158.OK Tryz.prog:=fun pa args r fr h=>by
 simp only[k158]at h
 split at h
 ·simp only[Option.some.injEq,Prod.mk.injEq,decide_eq_true_eq]at h
  obtain⟨h0,rfl,rfl⟩:=h
  exact Zrf _ _ h0
 ·cases h
def k160:Ctr:=⟨160,0,fun _ a=>match a with |[.int .i64 i, .eptr (.agg (.gen [.list (.big .str ms), .list (.big (.agg [.str, .int .i64]) ks), .list (.big (.agg [.str, .int .i64, .int .i64, .int .i64, .int .i64]) rs)])) 0]=>some (decide (0≤i∧i<ms.length), .str (Za7 ms i),none) |_=>none⟩
theorem ZuL:k160.OK Tryz.prog:=fun pa args r fr h=>by
 simp only[k160]at h
 split at h
 ·simp only[Option.some.injEq,Prod.mk.injEq,decide_eq_true_eq]at h
  obtain⟨h0,rfl,rfl⟩:=h
  exact Zpb _ _ _ _ h0
 ·cases h
def k162:Ctr:=⟨162,0,fun _ a=>match a with |[.int .i64 i, .eptr (.agg (.gen [.list (.big .str ms), .list (.big (.agg [.str, .int .i64]) ks), .list (.big (.agg [.str, .int .i64, .int .i64, .int .i64, .int .i64]) rs)])) 0]=>some (decide (0≤i∧i<ks.length), .str (ZaA ks i),none) |_=>none⟩
theorem ZvD:k162.OK Tryz.prog:=fun pa args r fr h=>by
 simp only[k162]at h
 split at h
 ·simp only[Option.some.injEq,Prod.mk.injEq,decide_eq_true_eq]at h
  obtain⟨h0,rfl,rfl⟩:=h
  exact Zoh _ _ _ _ h0
 ·cases h
def k164:Ctr:=⟨164,0,fun _ a=>match a with |[.int .i64 i, .eptr (.agg (.gen [.list (.big .str ms), .list (.big (.agg [.str, .int .i64]) ks), .list (.big (.agg [.str, .int .i64, .int .i64, .int .i64, .int .i64]) rs)])) 0]=>some (decide (0≤i∧i<rs.length), .str (ZaA rs i),none) |_=>none⟩
theorem ZuD:k164.OK Tryz.prog:=fun pa args r fr h=>by
 simp only[k164]at h
 split at h
 ·simp only[Option.some.injEq,Prod.mk.injEq,decide_eq_true_eq]at h
  obtain⟨h0,rfl,rfl⟩:=h
  exact ZoI _ _ _ _ h0
 ·cases h
def k75:Ctr:=⟨75,0,fun _ a=>match a with |[.list (.big .str xs)]=>some (decide (xs.length≤1000000), .list (.big .str xs),none) |_=>none⟩
theorem ZxV:k75.OK Tryz.prog:=fun pa args r fr h=>by
 simp only[k75]at h
 split at h
 ·simp only[Option.some.injEq,Prod.mk.injEq,decide_eq_true_eq]at h
  obtain⟨h0,rfl,rfl⟩:=h
  exact Zp5 _ h0
 ·cases h
def B2:List Ctr:=[k158,k160,k162,k164,k75]++B1
theorem Zgr:ZaE Tryz.prog B2:=⟨ZvH,⟨ZuL,⟨ZvD,⟨ZuD,⟨ZxV,Zlq⟩⟩⟩⟩⟩
end Go.Proofs.YtkeoeooghhjibaaGreatDoor
/- Paths of functions, printed by the explorer (Gx). No condition. -/
namespace Go.Proofs.YtkeoeooghhjibaaGreatDoor
set_option maxRecDepth 100000
set_option linter.unusedVariables false
def ZsT(ms ks rs:List AV)(i k:Int):AFrame:={ fn:=163,N:=16,env:=[(0,AV.int .i64 i),(1,AV.eptr (AV.fn 158 []) 0),(2,AV.eptr (AV.agg (Row.gen [.list (Row.big .str ms), .list (Row.big (.agg [.str, .int .i64]) ks), .list (Row.big (.agg [.str, .int .i64, .int .i64, .int .i64, .int .i64]) rs)])) 0),(3,AV.eptr (AV.int .i64 k) 0)],todo:=[.code a163.code],defs:=[],rnd:=none,ret:=false,res:=[ARes.tmp 5] }
def ZCy(ms ks rs:List AV)(i k:Int):List AFrame:=[(ZsT ms ks rs i k)]
theorem ZqH(ms ks rs:List AV)(i k:Int):Zat tab 163 [AV.int .i64 i,AV.eptr (AV.fn 158 []) 0,AV.eptr (AV.agg (Row.gen [.list (Row.big .str ms), .list (Row.big (.agg [.str, .int .i64]) ks), .list (Row.big (.agg [.str, .int .i64, .int .i64, .int .i64, .int .i64]) rs)])) 0,AV.eptr (AV.int .i64 k) 0]=some (ZsT ms ks rs i k):=rfl
theorem ZBT(A:Ar)(ms ks rs:List AV)(i k:Int):ZaX A tab B2 8 [] 163 (ZCy ms ks rs i k) []=
 some (tr [3,3,5] [decide (-1000000≤k∧k≤1000000),Zah (Zah (A.le 0 i) (Nat.blt (A.nat i) (A.lenA ks))) true],
  AV.int .i64 (Zaa (Zhm ((A.nthA ks (A.nat i)).cellAt 1).toI k) 6),none):=by kernel_rfl
def Zsh(ms ks rs:List AV)(i n m:Int):AFrame:={ fn:=165,N:=48,env:=[(0,AV.int .i64 i),(1,AV.eptr (AV.agg (Row.gen [.list (Row.big .str ms), .list (Row.big (.agg [.str, .int .i64]) ks), .list (Row.big (.agg [.str, .int .i64, .int .i64, .int .i64, .int .i64]) rs)])) 0),(2,AV.eptr (AV.int .i64 n) 0),(3,AV.eptr (AV.fn 158 []) 0),(4,AV.eptr (AV.int .i64 m) 0)],todo:=[.code a165.code],defs:=[],rnd:=none,ret:=false,res:=[ARes.tmp 6] }
def ZmO(ms ks rs:List AV)(i n m:Int):List AFrame:=[(Zsh ms ks rs i n m)]
theorem ZqA(ms ks rs:List AV)(i n m:Int):Zat tab 165 [AV.int .i64 i,AV.eptr (AV.agg (Row.gen [.list (Row.big .str ms), .list (Row.big (.agg [.str, .int .i64]) ks), .list (Row.big (.agg [.str, .int .i64, .int .i64, .int .i64, .int .i64]) rs)])) 0,AV.eptr (AV.int .i64 n) 0,AV.eptr (AV.fn 158 []) 0,AV.eptr (AV.int .i64 m) 0]=some (Zsh ms ks rs i n m):=rfl
theorem ZAe(A:Ar)(ms ks rs:List AV)(i n m:Int):ZaX A tab B2 18 [true,true,true] 165 (ZmO ms ks rs i n m) []=
 some (tr [2,0,5,10,4,2,4,2,6,4] [decide (List.length [Zaa (Zhm ((A.nthA rs (A.nat i)).cellAt 3).toI n) 6,Zaa (Zab ((A.nthA rs (A.nat i)).cellAt 4).toI 1 1000000) 2,0]≤1000000),List.all [AV.int .i64 (Zaa (Zhm ((A.nthA rs (A.nat i)).cellAt 3).toI n) 6),AV.int .i64 (Zaa (Zab ((A.nthA rs (A.nat i)).cellAt 4).toI 1 1000000) 2),AV.int .i64 0] fun x=>AV.bx x&&Nat.beq (Zad A x) 1,A.not (A.eq ((A.nthA rs (A.nat i)).cellAt 3).toI (-1)),decide (-1000000≤n∧n≤1000000),Zhm ((A.nthA rs (A.nat i)).cellAt 2).toI m,decide (-1000000≤m∧m≤1000000),Zab ((A.nthA rs (A.nat i)).cellAt 1).toI 0 (A.sub n 1),A.inR .i64 (A.sub n 1),Zah (Zah (A.le 0 i) (Nat.blt (A.nat i) (A.lenA rs))) true],
  AV.int .i64 (Zaf [Zaa (Zhm ((A.nthA rs (A.nat i)).cellAt 3).toI n) 6,Zaa (Zab ((A.nthA rs (A.nat i)).cellAt 4).toI 1 1000000) 2,0]),none):=by kernel_rfl
theorem ZBC(A:Ar)(ms ks rs:List AV)(i n m:Int):ZaX A tab B2 18 [true,true,false] 165 (ZmO ms ks rs i n m) []=
 some (tr [2,0,5,10,4,2,4,2,6,4] [decide (List.length [Zaa (Zhm ((A.nthA rs (A.nat i)).cellAt 3).toI n) 6,Zaa (Zab ((A.nthA rs (A.nat i)).cellAt 4).toI 1 1000000) 2,Zaa (A.eq ((A.nthA rs (A.nat i)).cellAt 4).toI 1) 3]≤1000000),List.all [AV.int .i64 (Zaa (Zhm ((A.nthA rs (A.nat i)).cellAt 3).toI n) 6),AV.int .i64 (Zaa (Zab ((A.nthA rs (A.nat i)).cellAt 4).toI 1 1000000) 2),AV.int .i64 (Zaa (A.eq ((A.nthA rs (A.nat i)).cellAt 4).toI 1) 3)] fun x=>AV.bx x&&Nat.beq (Zad A x) 1,!A.not (A.eq ((A.nthA rs (A.nat i)).cellAt 3).toI (-1)),decide (-1000000≤n∧n≤1000000),Zhm ((A.nthA rs (A.nat i)).cellAt 2).toI m,decide (-1000000≤m∧m≤1000000),Zab ((A.nthA rs (A.nat i)).cellAt 1).toI 0 (A.sub n 1),A.inR .i64 (A.sub n 1),Zah (Zah (A.le 0 i) (Nat.blt (A.nat i) (A.lenA rs))) true],
  AV.int .i64 (Zaf [Zaa (Zhm ((A.nthA rs (A.nat i)).cellAt 3).toI n) 6,Zaa (Zab ((A.nthA rs (A.nat i)).cellAt 4).toI 1 1000000) 2,Zaa (A.eq ((A.nthA rs (A.nat i)).cellAt 4).toI 1) 3]),none):=by kernel_rfl
theorem ZAQ(A:Ar)(ms ks rs:List AV)(i n m:Int):ZaX A tab B2 18 [true,false,true] 165 (ZmO ms ks rs i n m) []=
 some (tr [2,0,5,15,2,4,2,6,4] [decide (List.length [6,Zaa (Zab ((A.nthA rs (A.nat i)).cellAt 4).toI 1 1000000) 2,0]≤1000000),List.all [AV.int .i64 6,AV.int .i64 (Zaa (Zab ((A.nthA rs (A.nat i)).cellAt 4).toI 1 1000000) 2),AV.int .i64 0] fun x=>AV.bx x&&Nat.beq (Zad A x) 1,A.not (A.eq ((A.nthA rs (A.nat i)).cellAt 3).toI (-1)),!Zhm ((A.nthA rs (A.nat i)).cellAt 2).toI m,decide (-1000000≤m∧m≤1000000),Zab ((A.nthA rs (A.nat i)).cellAt 1).toI 0 (A.sub n 1),A.inR .i64 (A.sub n 1),Zah (Zah (A.le 0 i) (Nat.blt (A.nat i) (A.lenA rs))) true],
  AV.int .i64 (Zaf [6,Zaa (Zab ((A.nthA rs (A.nat i)).cellAt 4).toI 1 1000000) 2,0]),none):=by kernel_rfl
theorem ZAh(A:Ar)(ms ks rs:List AV)(i n m:Int):ZaX A tab B2 18 [true,false,false] 165 (ZmO ms ks rs i n m) []=
 some (tr [2,0,5,15,2,4,2,6,4] [decide (List.length [6,Zaa (Zab ((A.nthA rs (A.nat i)).cellAt 4).toI 1 1000000) 2,Zaa (A.eq ((A.nthA rs (A.nat i)).cellAt 4).toI 1) 3]≤1000000),List.all [AV.int .i64 6,AV.int .i64 (Zaa (Zab ((A.nthA rs (A.nat i)).cellAt 4).toI 1 1000000) 2),AV.int .i64 (Zaa (A.eq ((A.nthA rs (A.nat i)).cellAt 4).toI 1) 3)] fun x=>AV.bx x&&Nat.beq (Zad A x) 1,!A.not (A.eq ((A.nthA rs (A.nat i)).cellAt 3).toI (-1)),!Zhm ((A.nthA rs (A.nat i)).cellAt 2).toI m,decide (-1000000≤m∧m≤1000000),Zab ((A.nthA rs (A.nat i)).cellAt 1).toI 0 (A.sub n 1),A.inR .i64 (A.sub n 1),Zah (Zah (A.le 0 i) (Nat.blt (A.nat i) (A.lenA rs))) true],
  AV.int .i64 (Zaf [6,Zaa (Zab ((A.nthA rs (A.nat i)).cellAt 4).toI 1 1000000) 2,Zaa (A.eq ((A.nthA rs (A.nat i)).cellAt 4).toI 1) 3]),none):=by kernel_rfl
theorem Zxj(A:Ar)(ms ks rs:List AV)(i n m:Int):ZaX A tab B2 18 [false,false,true] 165 (ZmO ms ks rs i n m) []=
 some (tr [2,0,5,23,2,6,4] [decide (List.length [6,Zaa (Zab ((A.nthA rs (A.nat i)).cellAt 4).toI 1 1000000) 2,0]≤1000000),List.all [AV.int .i64 6,AV.int .i64 (Zaa (Zab ((A.nthA rs (A.nat i)).cellAt 4).toI 1 1000000) 2),AV.int .i64 0] fun x=>AV.bx x&&Nat.beq (Zad A x) 1,A.not (A.eq ((A.nthA rs (A.nat i)).cellAt 3).toI (-1)),!Zab ((A.nthA rs (A.nat i)).cellAt 1).toI 0 (A.sub n 1),A.inR .i64 (A.sub n 1),Zah (Zah (A.le 0 i) (Nat.blt (A.nat i) (A.lenA rs))) true],
  AV.int .i64 (Zaf [6,Zaa (Zab ((A.nthA rs (A.nat i)).cellAt 4).toI 1 1000000) 2,0]),none):=by kernel_rfl
theorem ZAI(A:Ar)(ms ks rs:List AV)(i n m:Int):ZaX A tab B2 18 [false,false,false] 165 (ZmO ms ks rs i n m) []=
 some (tr [2,0,5,23,2,6,4] [decide (List.length [6,Zaa (Zab ((A.nthA rs (A.nat i)).cellAt 4).toI 1 1000000) 2,Zaa (A.eq ((A.nthA rs (A.nat i)).cellAt 4).toI 1) 3]≤1000000),List.all [AV.int .i64 6,AV.int .i64 (Zaa (Zab ((A.nthA rs (A.nat i)).cellAt 4).toI 1 1000000) 2),AV.int .i64 (Zaa (A.eq ((A.nthA rs (A.nat i)).cellAt 4).toI 1) 3)] fun x=>AV.bx x&&Nat.beq (Zad A x) 1,!A.not (A.eq ((A.nthA rs (A.nat i)).cellAt 3).toI (-1)),!Zab ((A.nthA rs (A.nat i)).cellAt 1).toI 0 (A.sub n 1),A.inR .i64 (A.sub n 1),Zah (Zah (A.le 0 i) (Nat.blt (A.nat i) (A.lenA rs))) true],
  AV.int .i64 (Zaf [6,Zaa (Zab ((A.nthA rs (A.nat i)).cellAt 4).toI 1 1000000) 2,Zaa (A.eq ((A.nthA rs (A.nat i)).cellAt 4).toI 1) 3]),none):=by kernel_rfl
def ZAu(ms ks rs:List AV):AFrame:={ fn:=25,N:=15,env:=[(0,AV.agg (Row.gen [.list (Row.big .str ms), .list (Row.big (.agg [.str, .int .i64]) ks), .list (Row.big (.agg [.str, .int .i64, .int .i64, .int .i64, .int .i64]) rs)]))],todo:=[.code a25.code],defs:=[],rnd:=none,ret:=false,res:=[ARes.cell 2 true 3] }
def ZHM(ms ks rs:List AV):List AFrame:=[(ZAu ms ks rs)]
theorem Zw5(ms ks rs:List AV):Zat tab 25 [AV.agg (Row.gen [.list (Row.big .str ms), .list (Row.big (.agg [.str, .int .i64]) ks), .list (Row.big (.agg [.str, .int .i64, .int .i64, .int .i64, .int .i64]) rs)])]=some (ZAu ms ks rs):=rfl
theorem ZCL(A:Ar)(ms ks rs:List AV):ZaX A tab B2 9 [] 25 (ZHM ms ks rs) []=
 some (tr [3,3,3,4] [Nat.ble (A.lenA rs) 4294967296,Nat.ble (A.lenA ks) 4294967296,decide (List.length ms≤1000000)],
  AV.agg (Row.gen [.list (Row.big .str ms), .list (Row.big (.agg [.str, .int .i64]) ks), .list (Row.big (.agg [.str, .int .i64, .int .i64, .int .i64, .int .i64]) rs)]),none):=by kernel_rfl
def Zx6(l:List AV):AFrame:={ fn:=26,N:=6,env:=[(0,AV.list (Row.big (.agg [.int .i64, .int .i64, .int .i64]) l))],todo:=[.code a26.code],defs:=[],rnd:=none,ret:=false,res:=[ARes.tmp 2] }
def ZHv(l:List AV):List AFrame:=[(Zx6 l)]
theorem Zti(l:List AV):Zat tab 26 [AV.list (Row.big (.agg [.int .i64, .int .i64, .int .i64]) l)]=some (Zx6 l):=rfl
theorem ZDP(A:Ar)(l:List AV):ZaX A tab B2 12 [] 26 (ZHv l) []=
 some (tr [2,3] [Nat.ble (A.lenA l) 4294967296],
  AV.list (Row.big (.agg [.int .i64, .int .i64, .int .i64]) l),none):=by kernel_rfl
def ZBb(a b:Int)(xs:List Int):AFrame:={ fn:=43,N:=8,env:=[(0,AV.agg (Row.gen [.int .i64 a, .int .i64 b, .list (.ints .i64 xs)]))],todo:=[.code a43.code],defs:=[],rnd:=none,ret:=false,res:=[ARes.cell 2 true 3] }
def ZEV(a b:Int)(xs:List Int):List AFrame:=[(ZBb a b xs)]
theorem ZpP(a b:Int)(xs:List Int):Zat tab 43 [AV.agg (Row.gen [.int .i64 a, .int .i64 b, .list (.ints .i64 xs)])]=some (ZBb a b xs):=rfl
theorem ZDv(A:Ar)(a b:Int)(xs:List Int):ZaX A tab B2 32 [] 43 (ZEV a b xs) []=
 some (tr [7,1,5] [Nat.ble (0+A.len xs) 4294967296,List.all [] fun x=>AV.bx x&&Nat.beq (Zad A x) 1],
  AV.agg (Row.gen [.int .i64 a, .int .i64 b, .list (.ints .i64 xs)]),none):=by kernel_rfl
end Go.Proofs.YtkeoeooghhjibaaGreatDoor
/- Contracts as a list. No condition. -/
namespace Go.Proofs.YtkeoeooghhjibaaGreatDoor
def Zak(xs:List AV)(i:Int)(j:Nat):Int:=((xs.getD i.toNat .top).cellAt j).toI
def ZcA(ks:List AV)(i k:Int):Int:=Zaa (Zhm (Zak ks i 1) k) 6
def ZbO(rs:List AV)(i n m:Int):Int:=Zaf [Zaa (Zab (Zak rs i 1) 0 (n-1)&&Zhm (Zak rs i 2) m&&Zhm (Zak rs i 3) n) 6,Zaa (Zab (Zak rs i 4) 1 1000000) 2,Zaa (decide (Zak rs i 3≠ -1∨Zak rs i 4=1)) 3]
theorem ZoK(ms ks rs:List AV)(i k:Int)(h:(0≤i∧i<ks.length)∧ -1000000≤k∧k≤1000000):Zap Tryz.prog 163 [.int .i64 i, .eptr (.fn 158 []) 0, .eptr (.agg (.gen [.list (.big .str ms), .list (.big (.agg [.str, .int .i64]) ks), .list (.big (.agg [.str, .int .i64, .int .i64, .int .i64, .int .i64]) rs)])) 0, .eptr (.int .i64 k) 0] (.int .i64 (ZcA ks i k)) none:=
 start (ZqH ms ks rs i k) fun C hC=>fin hC Zgr (ZBT std ms ks rs i k) (by simp;omega) rfl rfl
theorem Zo7(ms ks rs:List AV)(i n m:Int)(h:(0≤i∧i<rs.length)∧(-1000000≤n∧n≤1000000)∧ -1000000≤m∧m≤1000000):Zap Tryz.prog 165 [.int .i64 i, .eptr (.agg (.gen [.list (.big .str ms), .list (.big (.agg [.str, .int .i64]) ks), .list (.big (.agg [.str, .int .i64, .int .i64, .int .i64, .int .i64]) rs)])) 0, .eptr (.int .i64 n) 0, .eptr (.fn 158 []) 0, .eptr (.int .i64 m) 0] (.int .i64 (ZbO rs i n m)) none:=
 start (ZqA ms ks rs i n m) fun C hC=>by
  have hb:∀x y z:Int,([AV.int .i64 x,AV.int .i64 y,AV.int .i64 z].all fun x=>AV.bx x&&Nat.beq (Zad std x) 1)=true:=fun _ _ _=>rfl
  have e1:((rs.getD i.toNat .top).cellAt 1).toI=Zak rs i 1:=rfl
  have e2:((rs.getD i.toNat .top).cellAt 2).toI=Zak rs i 2:=rfl
  have e3:((rs.getD i.toNat .top).cellAt 3).toI=Zak rs i 3:=rfl
  have e4:((rs.getD i.toNat .top).cellAt 4).toI=Zak rs i 4:=rfl
  have hi:i.toNat<rs.length:=by omega
  by_cases h1:Zab (Zak rs i 1) 0 (n-1)=true
  ·by_cases h2:Zhm (Zak rs i 2) m=true
   ·by_cases h3:Zak rs i 3= -1
    ·exact fin hC Zgr (ZBC std ms ks rs i n m) (by simp only[hb];simp[-List.getD_eq_getElem?_getD,e1,e2,e3,e4,h1,h2,h3];omega) (by simp[-List.getD_eq_getElem?_getD,ZbO,e1,e2,e3,e4,h1,h2,h3]) rfl
    ·exact fin hC Zgr (ZAe std ms ks rs i n m) (by simp only[hb];simp[-List.getD_eq_getElem?_getD,e1,e2,e3,e4,h1,h2,h3];omega) (by simp[-List.getD_eq_getElem?_getD,ZbO,e1,e2,e3,e4,h1,h2,h3,Zaa]) rfl
   ·by_cases h3:Zak rs i 3= -1
    ·exact fin hC Zgr (ZAh std ms ks rs i n m) (by simp only[hb];simp[-List.getD_eq_getElem?_getD,e1,e2,e3,e4,h1,h2,h3];omega) (by simp[-List.getD_eq_getElem?_getD,ZbO,e1,e2,e3,e4,h1,h2,h3,Zaa]) rfl
    ·exact fin hC Zgr (ZAQ std ms ks rs i n m) (by simp only[hb];simp[-List.getD_eq_getElem?_getD,e1,e2,e3,e4,h1,h2,h3];omega) (by simp[-List.getD_eq_getElem?_getD,ZbO,e1,e2,e3,e4,h1,h2,h3,Zaa]) rfl
  ·by_cases h3:Zak rs i 3= -1
   ·exact fin hC Zgr (ZAI std ms ks rs i n m) (by simp only[hb];simp[-List.getD_eq_getElem?_getD,e1,e2,e3,e4,h1,h3];omega) (by simp[-List.getD_eq_getElem?_getD,ZbO,e1,e2,e3,e4,h1,h3,Zaa]) rfl
   ·exact fin hC Zgr (Zxj std ms ks rs i n m) (by simp only[hb];simp[-List.getD_eq_getElem?_getD,e1,e2,e3,e4,h1,h3];omega) (by simp[-List.getD_eq_getElem?_getD,ZbO,e1,e2,e3,e4,h1,h3,Zaa]) rfl
theorem Zqj(ms ks rs:List AV)(h:ms.length≤1000000∧ks.length≤1000000∧rs.length≤1000000):Zap Tryz.prog 25 [.agg (.gen [.list (.big .str ms), .list (.big (.agg [.str, .int .i64]) ks), .list (.big (.agg [.str, .int .i64, .int .i64, .int .i64, .int .i64]) rs)])] (.agg (.gen [.list (.big .str ms), .list (.big (.agg [.str, .int .i64]) ks), .list (.big (.agg [.str, .int .i64, .int .i64, .int .i64, .int .i64]) rs)])) none:=
 start (Zw5 ms ks rs) fun C hC=>fin hC Zgr (ZCL std ms ks rs) (by simp;omega) rfl rfl
theorem ZoD(l:List AV)(h:l.length≤1000000):Zap Tryz.prog 26 [.list (.big (.agg [.int .i64, .int .i64, .int .i64]) l)] (.list (.big (.agg [.int .i64, .int .i64, .int .i64]) l)) none:=
 start (Zti l) fun C hC=>fin hC Zgr (ZDP std l) (by simp;omega) rfl rfl
theorem Zpg(a b:Int)(xs:List Int)(h:xs.length≤1000000):Zap Tryz.prog 43 [.agg (.gen [.int .i64 a, .int .i64 b, .list (.ints .i64 xs)])] (.agg (.gen [.int .i64 a, .int .i64 b, .list (.ints .i64 xs)])) none:=
 start (ZpP a b xs) fun C hC=>fin hC Zgr (ZDv std a b xs) (by simp;omega) rfl rfl
def k163:Ctr:=⟨163,0,fun _ a=>match a with |[.int .i64 i, .eptr (.fn 158 []) 0, .eptr (.agg (.gen [.list (.big .str ms), .list (.big (.agg [.str, .int .i64]) ks), .list (.big (.agg [.str, .int .i64, .int .i64, .int .i64, .int .i64]) rs)])) 0, .eptr (.int .i64 k) 0]=>some (decide ((0≤i∧i<ks.length)∧ -1000000≤k∧k≤1000000), .int .i64 (ZcA ks i k),none) |_=>none⟩
theorem ZuE:k163.OK Tryz.prog:=fun pa args r fr h=>by
 simp only[k163]at h
 split at h
 ·simp only[Option.some.injEq,Prod.mk.injEq,decide_eq_true_eq]at h
  obtain⟨h0,rfl,rfl⟩:=h
  exact ZoK _ _ _ _ _ h0
 ·cases h
def k165:Ctr:=⟨165,0,fun _ a=>match a with |[.int .i64 i, .eptr (.agg (.gen [.list (.big .str ms), .list (.big (.agg [.str, .int .i64]) ks), .list (.big (.agg [.str, .int .i64, .int .i64, .int .i64, .int .i64]) rs)])) 0, .eptr (.int .i64 n) 0, .eptr (.fn 158 []) 0, .eptr (.int .i64 m) 0]=>some (decide ((0≤i∧i<rs.length)∧(-1000000≤n∧n≤1000000)∧ -1000000≤m∧m≤1000000), .int .i64 (ZbO rs i n m),none) |_=>none⟩
theorem ZtX:k165.OK Tryz.prog:=fun pa args r fr h=>by
 simp only[k165]at h
 split at h
 ·simp only[Option.some.injEq,Prod.mk.injEq,decide_eq_true_eq]at h
  obtain⟨h0,rfl,rfl⟩:=h
  exact Zo7 _ _ _ _ _ _ h0
 ·cases h
def k25:Ctr:=⟨25,0,fun _ a=>match a with |[.agg (.gen [.list (.big .str ms), .list (.big (.agg [.str, .int .i64]) ks), .list (.big (.agg [.str, .int .i64, .int .i64, .int .i64, .int .i64]) rs)])]=>some (decide (ms.length≤1000000∧ks.length≤1000000∧rs.length≤1000000), .agg (.gen [.list (.big .str ms), .list (.big (.agg [.str, .int .i64]) ks), .list (.big (.agg [.str, .int .i64, .int .i64, .int .i64, .int .i64]) rs)]),none) |_=>none⟩
theorem ZzO:k25.OK Tryz.prog:=fun pa args r fr h=>by
 simp only[k25]at h
 split at h
 ·simp only[Option.some.injEq,Prod.mk.injEq,decide_eq_true_eq]at h
  obtain⟨h0,rfl,rfl⟩:=h
  exact Zqj _ _ _ h0
 ·cases h
def k26:Ctr:=⟨26,0,fun _ a=>match a with |[.list (.big (.agg [.int .i64, .int .i64, .int .i64]) l)]=>some (decide (l.length≤1000000), .list (.big (.agg [.int .i64, .int .i64, .int .i64]) l),none) |_=>none⟩
theorem Zzt:k26.OK Tryz.prog:=fun pa args r fr h=>by
 simp only[k26]at h
 split at h
 ·simp only[Option.some.injEq,Prod.mk.injEq,decide_eq_true_eq]at h
  obtain⟨h0,rfl,rfl⟩:=h
  exact ZoD _ h0
 ·cases h
def k43:Ctr:=⟨43,0,fun _ a=>match a with |[.agg (.gen [.int .i64 a, .int .i64 b, .list (.ints .i64 xs)])]=>some (decide (xs.length≤1000000), .agg (.gen [.int .i64 a, .int .i64 b, .list (.ints .i64 xs)]),none) |_=>none⟩
theorem ZAN:k43.OK Tryz.prog:=fun pa args r fr h=>by
 simp only[k43]at h
 split at h
 ·simp only[Option.some.injEq,Prod.mk.injEq,decide_eq_true_eq]at h
  obtain⟨h0,rfl,rfl⟩:=h
  exact Zpg _ _ _ h0
 ·cases h
def B3:List Ctr:=[k163,k165,k25,k26,k43]++B2
theorem Za8:ZaE Tryz.prog B3:=⟨ZuE,⟨ZtX,⟨ZzO,⟨Zzt,⟨ZAN,Zgr⟩⟩⟩⟩⟩
end Go.Proofs.YtkeoeooghhjibaaGreatDoor
/- Paths of functions, printed by the explorer (Gx). No condition. -/
namespace Go.Proofs.YtkeoeooghhjibaaGreatDoor
set_option maxRecDepth 100000
set_option linter.unusedVariables false
def ZpG(s:List UInt8):AFrame:={ fn:=151,N:=18,env:=[(0,AV.nils),(1,AV.str s)],todo:=[.code a151.code],defs:=[],rnd:=none,ret:=false,res:=[ARes.tmp 4] }
def Zzn(s:List UInt8):List AFrame:=[(ZpG s)]
theorem ZpR(s:List UInt8):Zat tab 151 [AV.nils,AV.str s]=some (ZpG s):=rfl
def ZfQ(s:List UInt8):List AFrame:=[{ fn:=151,N:=18,env:=[(0,AV.nils),(1,AV.str s),(5,AV.int .i64 0)],todo:=.code (ACode.gh [] Zor)::Zse,defs:=[],rnd:=none,ret:=false,res:=[ARes.tmp 4] }]
def Zeu(s:List UInt8):Zac:=[]
abbrev Zi9(s:List UInt8):List AFrame×Zac:=(ZfQ s,Zeu s)
theorem Zvc(A:Ar)(s:List UInt8):ZaC A tab B3 12 [] (Zzn s) []=
 some (tr [2] [],
  Zi9 (s)):=by kernel_rfl
theorem ZtP(A:Ar)(s:List UInt8):ZaX A tab B3 16 [false] 151 (ZfQ s) (Zeu s)=
 some (tr [2,4] [!A.lt 0 (A.int 0)],
  AV.bool false,none):=by kernel_rfl
end Go.Proofs.YtkeoeooghhjibaaGreatDoor
