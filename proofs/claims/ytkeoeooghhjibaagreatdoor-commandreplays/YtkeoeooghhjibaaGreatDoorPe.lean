/- The cells of chapter 08's types, as they are read; the start that the door's own run leaves. No condition. -/
import Derived.Test.YtkeoeooghhjibaaGreatDoorW4
import Derived.LaidMore
import Derived.Stop.Joined
import Derived.KernelRfl
namespace Go.Proofs.YtkeoeooghhjibaaGreatDoor
open Go.ChangeShapes Go.WideShapes
theorem ZpY{us:List AV}(h:Cfs [.big .str, .big (.agg [.str, .int .i64]), .big (.agg [.str, .int .i64, .int .i64, .int .i64, .int .i64]), .big (.agg [.int .i64, .int .i64, .int .i64]), .int .i64, .int .i64] us):∃ms ks rs l wn fl,us=[.list (.big .str ms), .list (.big (.agg [.str, .int .i64]) ks), .list (.big (.agg [.str, .int .i64, .int .i64, .int .i64, .int .i64]) rs), .list (.big (.agg [.int .i64, .int .i64, .int .i64]) l), .int .i64 wn, .int .i64 fl]:=by
 obtain⟨u0,r,rfl,h0,h⟩:=ZdQ h
 obtain⟨u1,r,rfl,h1,h⟩:=ZdQ h
 obtain⟨u2,r,rfl,h2,h⟩:=ZdQ h
 obtain⟨u3,r,rfl,h3,h⟩:=ZdQ h
 obtain⟨u4,r,rfl,h4,h⟩:=ZdQ h
 obtain⟨u5,r,rfl,h5,h⟩:=ZdQ h
 obtain rfl:=Zxj h
 obtain⟨x0,rfl⟩:=Zj5 h0
 obtain⟨x1,rfl⟩:=Zj5 h1
 obtain⟨x2,rfl⟩:=Zj5 h2
 obtain⟨x3,rfl⟩:=Zj5 h3
 obtain⟨x4,rfl,_⟩:=Ztb h4
 obtain⟨x5,rfl,_⟩:=Ztb h5
 exact⟨x0,x1,x2,x3,x4,x5,rfl⟩
end Go.Proofs.YtkeoeooghhjibaaGreatDoor
/- Paths of functions, printed by the explorer (Gx). No condition. -/
namespace Go.Proofs.YtkeoeooghhjibaaGreatDoor
set_option maxRecDepth 100000
set_option linter.unusedVariables false
def ZBR(n a b:Int):AFrame:={ fn:=41,N:=15,env:=[(0,AV.int .i64 n),(1,AV.int .i64 a),(2,AV.int .i64 b)],todo:=[.code a41.code],defs:=[],rnd:=none,ret:=false,res:=[ARes.tmp 6] }
def ZGJ(n a b:Int):List AFrame:=[(ZBR n a b)]
theorem Zvh(n a b:Int):Zar tab 41 [AV.int .i64 n,AV.int .i64 a,AV.int .i64 b]=some (ZBR n a b):=rfl
theorem ZD3(A:Ar)(n a b:Int):Za0 A tab E0 18 [true,true,true,true] 41 (ZGJ n a b) []=
 some (tr [9,5] [A.le a n],
  AV.bool (A.le n b),none):=by kernel_rfl
theorem ZDU(A:Ar)(n a b:Int):Za0 A tab E0 18 [false,false,false,false] 41 (ZGJ n a b) []=
 some (tr [9,5] [!A.le a n],
  AV.bool false,none):=by kernel_rfl
def ZA5(n a b:Int):AFrame:={ fn:=82,N:=15,env:=[(0,AV.int .i64 n),(1,AV.int .i64 a),(2,AV.int .i64 b)],todo:=[.code a82.code],defs:=[],rnd:=none,ret:=false,res:=[ARes.tmp 6] }
def ZF8(n a b:Int):List AFrame:=[(ZA5 n a b)]
theorem ZwQ(n a b:Int):Zar tab 82 [AV.int .i64 n,AV.int .i64 a,AV.int .i64 b]=some (ZA5 n a b):=rfl
theorem ZFz(A:Ar)(n a b:Int):Za0 A tab E0 18 [true,true,true,true] 82 (ZF8 n a b) []=
 some (tr [9,5] [A.le a n],
  AV.bool (A.le n b),none):=by kernel_rfl
theorem ZDv(A:Ar)(n a b:Int):Za0 A tab E0 18 [false,false,false,false] 82 (ZF8 n a b) []=
 some (tr [9,5] [!A.le a n],
  AV.bool false,none):=by kernel_rfl
def ZBi(b:Bool)(e:Int):AFrame:={ fn:=68,N:=7,env:=[(0,AV.bool b),(1,AV.int .i64 e)],todo:=[.code a68.code],defs:=[],rnd:=none,ret:=false,res:=[ARes.tmp 4] }
def ZGp(b:Bool)(e:Int):List AFrame:=[(ZBi b e)]
theorem Zwv(b:Bool)(e:Int):Zar tab 68 [AV.bool b,AV.int .i64 e]=some (ZBi b e):=rfl
theorem Zzw(A:Ar)(b:Bool)(e:Int):Za0 A tab E0 15 [true] 68 (ZGp b e) []=
 some (tr [2,2] [b],
  AV.int .i64 0,none):=by kernel_rfl
theorem ZBu(A:Ar)(b:Bool)(e:Int):Za0 A tab E0 17 [false] 68 (ZGp b e) []=
 some (tr [3,2] [!b],
  AV.int .i64 e,none):=by kernel_rfl
def ZBV(xs:List Int):AFrame:={ fn:=67,N:=15,env:=[(0,AV.list (.ints .i64 xs))],todo:=[.code a67.code],defs:=[],rnd:=none,ret:=false,res:=[ARes.tmp 2] }
def ZIC(xs:List Int):List AFrame:=[(ZBV xs)]
theorem Ztu(xs:List Int):Zar tab 67 [AV.list (.ints .i64 xs)]=some (ZBV xs):=rfl
def Zdw(xs:List Int)(n0 n1:Int):List AFrame:=[{ fn:=67,N:=15,env:=[(5,AV.list (.ints .i64 xs)),(6,AV.int .i64 n0),(7,AV.int .i64 n1)],todo:=.code (ACode.gh [] ZBP)::ZEs,defs:=[],rnd:=none,ret:=false,res:=[ARes.tmp 2] }]
def ZcM(xs:List Int)(n0 n1:Int):Zac:=[]
abbrev ZiL(xs:List Int)(n0 n1:Int):List AFrame×Zac:=(Zdw xs n0 n1,ZcM xs n0 n1)
theorem ZEC(A:Ar)(xs:List Int):ZaC A tab E0 14 [] (ZIC xs) []=
 some (tr [4] [],
  ZiL (xs) (A.int (A.len xs)) (0)):=by kernel_rfl
theorem ZEa(A:Ar)(xs:List Int)(n0 n1:Int):Za0 A tab E0 28 [true,true] 67 (Zdw xs n0 n1) (ZcM xs n0 n1)=
 some (tr [3,4,0,1] [A.not (A.eq (A.nth xs (A.nat n1)) 0),Zag (Zag (A.le 0 n1) (Nat.blt (A.nat n1) (A.len xs))) true,A.lt n1 n0],
  AV.int .i64 (A.nth xs (A.nat n1)),none):=by kernel_rfl
theorem ZEE(A:Ar)(xs:List Int)(n0 n1:Int):ZaC A tab E0 30 [true,false] (Zdw xs n0 n1) (ZcM xs n0 n1)=
 some (tr [1,0,4,0,1] [A.inR .i64 (A.add n1 1),!A.not (A.eq (A.nth xs (A.nat n1)) 0),Zag (Zag (A.le 0 n1) (Nat.blt (A.nat n1) (A.len xs))) true,A.lt n1 n0],
  ZiL (xs) (n0) (A.add n1 1)):=by kernel_rfl
theorem ZFt(A:Ar)(xs:List Int)(n0 n1:Int):Za0 A tab E0 13 [false] 67 (Zdw xs n0 n1) (ZcM xs n0 n1)=
 some (tr [2,1] [!A.lt n1 n0],
  AV.int .i64 0,none):=by kernel_rfl
def ZsX(xs:List AV)(s:List UInt8):AFrame:={ fn:=151,N:=18,env:=[(0,AV.list (Row.big .str xs)),(1,AV.str s)],todo:=[.code a151.code],defs:=[],rnd:=none,ret:=false,res:=[ARes.tmp 4] }
def ZE1(xs:List AV)(s:List UInt8):List AFrame:=[(ZsX xs s)]
theorem ZqP(xs:List AV)(s:List UInt8):Zar tab 151 [AV.list (Row.big .str xs),AV.str s]=some (ZsX xs s):=rfl
def Zca(xs:List AV)(s:List UInt8)(n0:Int):List AFrame:=[{ fn:=151,N:=18,env:=[(0,AV.list (Row.big .str xs)),(1,AV.str s),(5,AV.int .i64 n0)],todo:=.code (ACode.gh [] Zor)::Zs7,defs:=[],rnd:=none,ret:=false,res:=[ARes.tmp 4] }]
def ZbR(xs:List AV)(s:List UInt8)(n0:Int):Zac:=[]
abbrev Zf3(xs:List AV)(s:List UInt8)(n0:Int):List AFrame×Zac:=(Zca xs s n0,ZbR xs s n0)
theorem Zzo(A:Ar)(xs:List AV)(s:List UInt8):ZaC A tab E0 12 [] (ZE1 xs s) []=
 some (tr [2] [],
  Zf3 (xs) (s) (0)):=by kernel_rfl
theorem Zym(A:Ar)(xs:List AV)(s:List UInt8)(n0:Int):Za0 A tab E0 28 [true,true] 151 (Zca xs s n0) (ZbR xs s n0)=
 some (tr [2,3,2,4] [A.eqS (AV.toS (A.nthA xs (A.nat n0))) s,Zag (Zag (A.le 0 n0) (Nat.blt (A.nat n0) (A.lenA xs))) true,A.lt n0 (A.int (A.lenA xs))],
  AV.bool true,none):=by kernel_rfl
theorem ZAw(A:Ar)(xs:List AV)(s:List UInt8)(n0:Int):ZaC A tab E0 32 [true,false] (Zca xs s n0) (ZbR xs s n0)=
 some (tr [1,1,3,2,4] [A.inR .i64 (A.add n0 1),!A.eqS (AV.toS (A.nthA xs (A.nat n0))) s,Zag (Zag (A.le 0 n0) (Nat.blt (A.nat n0) (A.lenA xs))) true,A.lt n0 (A.int (A.lenA xs))],
  Zf3 (xs) (s) (A.add n0 1)):=by kernel_rfl
theorem ZCh(A:Ar)(xs:List AV)(s:List UInt8)(n0:Int):Za0 A tab E0 16 [false] 151 (Zca xs s n0) (ZbR xs s n0)=
 some (tr [2,4] [!A.lt n0 (A.int (A.lenA xs))],
  AV.bool false,none):=by kernel_rfl
def Zsn(s:List UInt8):AFrame:={ fn:=150,N:=55,env:=[(0,AV.str s)],todo:=[.code a150.code],defs:=[],rnd:=none,ret:=false,res:=[ARes.tmp 2] }
def ZuO(s:List UInt8):List AFrame:=[(Zsn s)]
theorem Zr3(s:List UInt8):Zar tab 150 [AV.str s]=some (Zsn s):=rfl
def Zat(s:List UInt8)(n0:Int):List AFrame:=[{ fn:=150,N:=55,env:=[(0,AV.str s),(3,AV.int .i64 n0)],todo:=.code (ACode.gh [] Zs6)::ZzW,defs:=[],rnd:=none,ret:=false,res:=[ARes.tmp 2] }]
def Zan(s:List UInt8)(n0:Int):Zac:=[]
abbrev ZaP(s:List UInt8)(n0:Int):List AFrame×Zac:=(Zat s n0,Zan s n0)
theorem Zy6(A:Ar)(s:List UInt8):Za0 A tab E0 23 [true,true,true,true,true] 150 (ZuO s) []=
 some (tr [10,5] [A.lt (A.int (A.lenS s)) 1],
  AV.bool false,none):=by kernel_rfl
theorem Zy8(A:Ar)(s:List UInt8):Za0 A tab E0 23 [false,false,false,false,true] 150 (ZuO s) []=
 some (tr [2,7,5] [A.lt 12 (A.int (A.lenS s)),!A.lt (A.int (A.lenS s)) 1],
  AV.bool false,none):=by kernel_rfl
theorem ZCB(A:Ar)(s:List UInt8):ZaC A tab E0 27 [false,false,false,false,false] (ZuO s) []=
 some (tr [1,7,5] [!A.lt 12 (A.int (A.lenS s)),!A.lt (A.int (A.lenS s)) 1],
  ZaP (s) (0)):=by kernel_rfl
theorem Zyn(A:Ar)(s:List UInt8)(n0:Int):ZaC A tab E0 71 [true,true,true,true,true,true,true,true,true,false,false,false,false,false,false] (Zat s n0) (Zan s n0)=
 some (tr [1,21,15,6,4,2,4] [A.inR .i64 (A.add n0 1),!A.not true,A.le (A.nthS s (A.nat n0)) 122,A.le 97 (A.nthS s (A.nat n0)),Zag (A.le 0 n0) (Nat.blt (A.nat n0) (A.lenS s)),A.lt n0 (A.int (A.lenS s))],
  ZaP (s) (A.add n0 1)):=by kernel_rfl
theorem Zzq(A:Ar)(s:List UInt8)(n0:Int):Za0 A tab E0 67 [true,true,true,true,false,false,false,true,true,false,true,false,true,true,true,true,true,true,true,true,true,true,true] 150 (Zat s n0) (Zan s n0)=
 some (tr [21,5,12,5,6,4,2,4] [A.eq n0 0,A.not (A.le (A.nthS s (A.nat n0)) 90),A.le 65 (A.nthS s (A.nat n0)),!A.le (A.nthS s (A.nat n0)) 122,A.le 97 (A.nthS s (A.nat n0)),Zag (A.le 0 n0) (Nat.blt (A.nat n0) (A.lenS s)),A.lt n0 (A.int (A.lenS s))],
  AV.bool false,none):=by kernel_rfl
theorem ZBw(A:Ar)(s:List UInt8)(n0:Int):Za0 A tab E0 67 [true,true,true,true,false,false,false,true,true,false,true,false,true,true,true,false,false,false,true,true,true,true,true,true,true,false,true,true,false,true,true] 150 (Zat s n0) (Zan s n0)=
 some (tr [17,5,5,5,12,5,6,4,2,4] [A.lt (A.nthS s (A.nat n0)) 48,A.not (A.eq (A.nthS s (A.nat n0)) 45),!A.eq n0 0,A.not (A.le (A.nthS s (A.nat n0)) 90),A.le 65 (A.nthS s (A.nat n0)),!A.le (A.nthS s (A.nat n0)) 122,A.le 97 (A.nthS s (A.nat n0)),Zag (A.le 0 n0) (Nat.blt (A.nat n0) (A.lenS s)),A.lt n0 (A.int (A.lenS s))],
  AV.bool false,none):=by kernel_rfl
theorem ZCn(A:Ar)(s:List UInt8)(n0:Int):Za0 A tab E0 67 [true,true,true,true,false,false,false,true,true,false,true,false,true,true,true,false,false,false,true,true,true,false,false,true,false,false,true,true,false,true,true] 150 (Zat s n0) (Zan s n0)=
 some (tr [2,14,5,5,5,12,5,6,4,2,4] [A.lt 57 (A.nthS s (A.nat n0)),!A.lt (A.nthS s (A.nat n0)) 48,A.not (A.eq (A.nthS s (A.nat n0)) 45),!A.eq n0 0,A.not (A.le (A.nthS s (A.nat n0)) 90),A.le 65 (A.nthS s (A.nat n0)),!A.le (A.nthS s (A.nat n0)) 122,A.le 97 (A.nthS s (A.nat n0)),Zag (A.le 0 n0) (Nat.blt (A.nat n0) (A.lenS s)),A.lt n0 (A.int (A.lenS s))],
  AV.bool false,none):=by kernel_rfl
theorem Zy4(A:Ar)(s:List UInt8)(n0:Int):ZaC A tab E0 71 [true,true,true,true,false,false,false,true,true,false,true,false,true,true,true,false,false,false,true,true,true,false,false,true,false,false,true,true,false,true,false] (Zat s n0) (Zan s n0)=
 some (tr [1,1,14,5,5,5,12,5,6,4,2,4] [A.inR .i64 (A.add n0 1),!A.lt 57 (A.nthS s (A.nat n0)),!A.lt (A.nthS s (A.nat n0)) 48,A.not (A.eq (A.nthS s (A.nat n0)) 45),!A.eq n0 0,A.not (A.le (A.nthS s (A.nat n0)) 90),A.le 65 (A.nthS s (A.nat n0)),!A.le (A.nthS s (A.nat n0)) 122,A.le 97 (A.nthS s (A.nat n0)),Zag (A.le 0 n0) (Nat.blt (A.nat n0) (A.lenS s)),A.lt n0 (A.int (A.lenS s))],
  ZaP (s) (A.add n0 1)):=by kernel_rfl
theorem ZAd(A:Ar)(s:List UInt8)(n0:Int):ZaC A tab E0 71 [true,true,true,true,false,false,false,true,true,false,true,false,true,true,true,false,false,false,false,false,false,false,false,false,true,false,true,false] (Zat s n0) (Zan s n0)=
 some (tr [1,19,5,5,12,5,6,4,2,4] [A.inR .i64 (A.add n0 1),!A.not (A.eq (A.nthS s (A.nat n0)) 45),!A.eq n0 0,A.not (A.le (A.nthS s (A.nat n0)) 90),A.le 65 (A.nthS s (A.nat n0)),!A.le (A.nthS s (A.nat n0)) 122,A.le 97 (A.nthS s (A.nat n0)),Zag (A.le 0 n0) (Nat.blt (A.nat n0) (A.lenS s)),A.lt n0 (A.int (A.lenS s))],
  ZaP (s) (A.add n0 1)):=by kernel_rfl
theorem ZAL(A:Ar)(s:List UInt8)(n0:Int):ZaC A tab E0 71 [true,true,true,true,false,false,false,true,true,false,true,false,false,false,false,false,false,false] (Zat s n0) (Zan s n0)=
 some (tr [1,21,12,5,6,4,2,4] [A.inR .i64 (A.add n0 1),!A.not (A.le (A.nthS s (A.nat n0)) 90),A.le 65 (A.nthS s (A.nat n0)),!A.le (A.nthS s (A.nat n0)) 122,A.le 97 (A.nthS s (A.nat n0)),Zag (A.le 0 n0) (Nat.blt (A.nat n0) (A.lenS s)),A.lt n0 (A.int (A.lenS s))],
  ZaP (s) (A.add n0 1)):=by kernel_rfl
theorem Zv3(A:Ar)(s:List UInt8)(n0:Int):Za0 A tab E0 67 [true,true,true,true,false,false,false,false,false,false,false,false,true,true,true,true,true,true,true,true,true,true,true] 150 (Zat s n0) (Zan s n0)=
 some (tr [21,5,12,5,6,4,2,4] [A.eq n0 0,A.not false,!A.le 65 (A.nthS s (A.nat n0)),!A.le (A.nthS s (A.nat n0)) 122,A.le 97 (A.nthS s (A.nat n0)),Zag (A.le 0 n0) (Nat.blt (A.nat n0) (A.lenS s)),A.lt n0 (A.int (A.lenS s))],
  AV.bool false,none):=by kernel_rfl
theorem Zxf(A:Ar)(s:List UInt8)(n0:Int):Za0 A tab E0 67 [true,true,true,true,false,false,false,false,false,false,false,false,true,true,true,false,false,false,true,true,true,true,true,true,true,false,true,true,false,true,true] 150 (Zat s n0) (Zan s n0)=
 some (tr [17,5,5,5,12,5,6,4,2,4] [A.lt (A.nthS s (A.nat n0)) 48,A.not (A.eq (A.nthS s (A.nat n0)) 45),!A.eq n0 0,A.not false,!A.le 65 (A.nthS s (A.nat n0)),!A.le (A.nthS s (A.nat n0)) 122,A.le 97 (A.nthS s (A.nat n0)),Zag (A.le 0 n0) (Nat.blt (A.nat n0) (A.lenS s)),A.lt n0 (A.int (A.lenS s))],
  AV.bool false,none):=by kernel_rfl
theorem Zxg(A:Ar)(s:List UInt8)(n0:Int):Za0 A tab E0 67 [true,true,true,true,false,false,false,false,false,false,false,false,true,true,true,false,false,false,true,true,true,false,false,true,false,false,true,true,false,true,true] 150 (Zat s n0) (Zan s n0)=
 some (tr [2,14,5,5,5,12,5,6,4,2,4] [A.lt 57 (A.nthS s (A.nat n0)),!A.lt (A.nthS s (A.nat n0)) 48,A.not (A.eq (A.nthS s (A.nat n0)) 45),!A.eq n0 0,A.not false,!A.le 65 (A.nthS s (A.nat n0)),!A.le (A.nthS s (A.nat n0)) 122,A.le 97 (A.nthS s (A.nat n0)),Zag (A.le 0 n0) (Nat.blt (A.nat n0) (A.lenS s)),A.lt n0 (A.int (A.lenS s))],
  AV.bool false,none):=by kernel_rfl
theorem Ztz(A:Ar)(s:List UInt8)(n0:Int):ZaC A tab E0 71 [true,true,true,true,false,false,false,false,false,false,false,false,true,true,true,false,false,false,true,true,true,false,false,true,false,false,true,true,false,true,false] (Zat s n0) (Zan s n0)=
 some (tr [1,1,14,5,5,5,12,5,6,4,2,4] [A.inR .i64 (A.add n0 1),!A.lt 57 (A.nthS s (A.nat n0)),!A.lt (A.nthS s (A.nat n0)) 48,A.not (A.eq (A.nthS s (A.nat n0)) 45),!A.eq n0 0,A.not false,!A.le 65 (A.nthS s (A.nat n0)),!A.le (A.nthS s (A.nat n0)) 122,A.le 97 (A.nthS s (A.nat n0)),Zag (A.le 0 n0) (Nat.blt (A.nat n0) (A.lenS s)),A.lt n0 (A.int (A.lenS s))],
  ZaP (s) (A.add n0 1)):=by kernel_rfl
theorem ZtM(A:Ar)(s:List UInt8)(n0:Int):ZaC A tab E0 71 [true,true,true,true,false,false,false,false,false,false,false,false,true,true,true,false,false,false,false,false,false,false,false,false,true,false,true,false] (Zat s n0) (Zan s n0)=
 some (tr [1,19,5,5,12,5,6,4,2,4] [A.inR .i64 (A.add n0 1),!A.not (A.eq (A.nthS s (A.nat n0)) 45),!A.eq n0 0,A.not false,!A.le 65 (A.nthS s (A.nat n0)),!A.le (A.nthS s (A.nat n0)) 122,A.le 97 (A.nthS s (A.nat n0)),Zag (A.le 0 n0) (Nat.blt (A.nat n0) (A.lenS s)),A.lt n0 (A.int (A.lenS s))],
  ZaP (s) (A.add n0 1)):=by kernel_rfl
theorem ZvV(A:Ar)(s:List UInt8)(n0:Int):Za0 A tab E0 67 [true,false,false,false,false,false,false,true,true,false,true,false,true,true,true,true,true,true,true,true,true,true,true] 150 (Zat s n0) (Zan s n0)=
 some (tr [21,5,12,12,4,2,4] [A.eq n0 0,A.not (A.le (A.nthS s (A.nat n0)) 90),A.le 65 (A.nthS s (A.nat n0)),!A.le 97 (A.nthS s (A.nat n0)),Zag (A.le 0 n0) (Nat.blt (A.nat n0) (A.lenS s)),A.lt n0 (A.int (A.lenS s))],
  AV.bool false,none):=by kernel_rfl
theorem Zvo(A:Ar)(s:List UInt8)(n0:Int):Za0 A tab E0 67 [true,false,false,false,false,false,false,true,true,false,true,false,true,true,true,false,false,false,true,true,true,true,true,true,true,false,true,true,false,true,true] 150 (Zat s n0) (Zan s n0)=
 some (tr [17,5,5,5,12,12,4,2,4] [A.lt (A.nthS s (A.nat n0)) 48,A.not (A.eq (A.nthS s (A.nat n0)) 45),!A.eq n0 0,A.not (A.le (A.nthS s (A.nat n0)) 90),A.le 65 (A.nthS s (A.nat n0)),!A.le 97 (A.nthS s (A.nat n0)),Zag (A.le 0 n0) (Nat.blt (A.nat n0) (A.lenS s)),A.lt n0 (A.int (A.lenS s))],
  AV.bool false,none):=by kernel_rfl
theorem Zxb(A:Ar)(s:List UInt8)(n0:Int):Za0 A tab E0 67 [true,false,false,false,false,false,false,true,true,false,true,false,true,true,true,false,false,false,true,true,true,false,false,true,false,false,true,true,false,true,true] 150 (Zat s n0) (Zan s n0)=
 some (tr [2,14,5,5,5,12,12,4,2,4] [A.lt 57 (A.nthS s (A.nat n0)),!A.lt (A.nthS s (A.nat n0)) 48,A.not (A.eq (A.nthS s (A.nat n0)) 45),!A.eq n0 0,A.not (A.le (A.nthS s (A.nat n0)) 90),A.le 65 (A.nthS s (A.nat n0)),!A.le 97 (A.nthS s (A.nat n0)),Zag (A.le 0 n0) (Nat.blt (A.nat n0) (A.lenS s)),A.lt n0 (A.int (A.lenS s))],
  AV.bool false,none):=by kernel_rfl
theorem Ztw(A:Ar)(s:List UInt8)(n0:Int):ZaC A tab E0 71 [true,false,false,false,false,false,false,true,true,false,true,false,true,true,true,false,false,false,true,true,true,false,false,true,false,false,true,true,false,true,false] (Zat s n0) (Zan s n0)=
 some (tr [1,1,14,5,5,5,12,12,4,2,4] [A.inR .i64 (A.add n0 1),!A.lt 57 (A.nthS s (A.nat n0)),!A.lt (A.nthS s (A.nat n0)) 48,A.not (A.eq (A.nthS s (A.nat n0)) 45),!A.eq n0 0,A.not (A.le (A.nthS s (A.nat n0)) 90),A.le 65 (A.nthS s (A.nat n0)),!A.le 97 (A.nthS s (A.nat n0)),Zag (A.le 0 n0) (Nat.blt (A.nat n0) (A.lenS s)),A.lt n0 (A.int (A.lenS s))],
  ZaP (s) (A.add n0 1)):=by kernel_rfl
theorem Zu7(A:Ar)(s:List UInt8)(n0:Int):ZaC A tab E0 71 [true,false,false,false,false,false,false,true,true,false,true,false,true,true,true,false,false,false,false,false,false,false,false,false,true,false,true,false] (Zat s n0) (Zan s n0)=
 some (tr [1,19,5,5,12,12,4,2,4] [A.inR .i64 (A.add n0 1),!A.not (A.eq (A.nthS s (A.nat n0)) 45),!A.eq n0 0,A.not (A.le (A.nthS s (A.nat n0)) 90),A.le 65 (A.nthS s (A.nat n0)),!A.le 97 (A.nthS s (A.nat n0)),Zag (A.le 0 n0) (Nat.blt (A.nat n0) (A.lenS s)),A.lt n0 (A.int (A.lenS s))],
  ZaP (s) (A.add n0 1)):=by kernel_rfl
theorem ZtD(A:Ar)(s:List UInt8)(n0:Int):ZaC A tab E0 71 [true,false,false,false,false,false,false,true,true,false,true,false,false,false,false,false,false,false] (Zat s n0) (Zan s n0)=
 some (tr [1,21,12,12,4,2,4] [A.inR .i64 (A.add n0 1),!A.not (A.le (A.nthS s (A.nat n0)) 90),A.le 65 (A.nthS s (A.nat n0)),!A.le 97 (A.nthS s (A.nat n0)),Zag (A.le 0 n0) (Nat.blt (A.nat n0) (A.lenS s)),A.lt n0 (A.int (A.lenS s))],
  ZaP (s) (A.add n0 1)):=by kernel_rfl
theorem ZtW(A:Ar)(s:List UInt8)(n0:Int):Za0 A tab E0 67 [true,false,false,false,false,false,false,false,false,false,false,false,true,true,true,true,true,true,true,true,true,true,true] 150 (Zat s n0) (Zan s n0)=
 some (tr [21,5,12,12,4,2,4] [A.eq n0 0,A.not false,!A.le 65 (A.nthS s (A.nat n0)),!A.le 97 (A.nthS s (A.nat n0)),Zag (A.le 0 n0) (Nat.blt (A.nat n0) (A.lenS s)),A.lt n0 (A.int (A.lenS s))],
  AV.bool false,none):=by kernel_rfl
theorem Zv5(A:Ar)(s:List UInt8)(n0:Int):Za0 A tab E0 67 [true,false,false,false,false,false,false,false,false,false,false,false,true,true,true,false,false,false,true,true,true,true,true,true,true,false,true,true,false,true,true] 150 (Zat s n0) (Zan s n0)=
 some (tr [17,5,5,5,12,12,4,2,4] [A.lt (A.nthS s (A.nat n0)) 48,A.not (A.eq (A.nthS s (A.nat n0)) 45),!A.eq n0 0,A.not false,!A.le 65 (A.nthS s (A.nat n0)),!A.le 97 (A.nthS s (A.nat n0)),Zag (A.le 0 n0) (Nat.blt (A.nat n0) (A.lenS s)),A.lt n0 (A.int (A.lenS s))],
  AV.bool false,none):=by kernel_rfl
theorem Zw0(A:Ar)(s:List UInt8)(n0:Int):Za0 A tab E0 67 [true,false,false,false,false,false,false,false,false,false,false,false,true,true,true,false,false,false,true,true,true,false,false,true,false,false,true,true,false,true,true] 150 (Zat s n0) (Zan s n0)=
 some (tr [2,14,5,5,5,12,12,4,2,4] [A.lt 57 (A.nthS s (A.nat n0)),!A.lt (A.nthS s (A.nat n0)) 48,A.not (A.eq (A.nthS s (A.nat n0)) 45),!A.eq n0 0,A.not false,!A.le 65 (A.nthS s (A.nat n0)),!A.le 97 (A.nthS s (A.nat n0)),Zag (A.le 0 n0) (Nat.blt (A.nat n0) (A.lenS s)),A.lt n0 (A.int (A.lenS s))],
  AV.bool false,none):=by kernel_rfl
theorem Zvx(A:Ar)(s:List UInt8)(n0:Int):ZaC A tab E0 71 [true,false,false,false,false,false,false,false,false,false,false,false,true,true,true,false,false,false,true,true,true,false,false,true,false,false,true,true,false,true,false] (Zat s n0) (Zan s n0)=
 some (tr [1,1,14,5,5,5,12,12,4,2,4] [A.inR .i64 (A.add n0 1),!A.lt 57 (A.nthS s (A.nat n0)),!A.lt (A.nthS s (A.nat n0)) 48,A.not (A.eq (A.nthS s (A.nat n0)) 45),!A.eq n0 0,A.not false,!A.le 65 (A.nthS s (A.nat n0)),!A.le 97 (A.nthS s (A.nat n0)),Zag (A.le 0 n0) (Nat.blt (A.nat n0) (A.lenS s)),A.lt n0 (A.int (A.lenS s))],
  ZaP (s) (A.add n0 1)):=by kernel_rfl
theorem Zut(A:Ar)(s:List UInt8)(n0:Int):ZaC A tab E0 71 [true,false,false,false,false,false,false,false,false,false,false,false,true,true,true,false,false,false,false,false,false,false,false,false,true,false,true,false] (Zat s n0) (Zan s n0)=
 some (tr [1,19,5,5,12,12,4,2,4] [A.inR .i64 (A.add n0 1),!A.not (A.eq (A.nthS s (A.nat n0)) 45),!A.eq n0 0,A.not false,!A.le 65 (A.nthS s (A.nat n0)),!A.le 97 (A.nthS s (A.nat n0)),Zag (A.le 0 n0) (Nat.blt (A.nat n0) (A.lenS s)),A.lt n0 (A.int (A.lenS s))],
  ZaP (s) (A.add n0 1)):=by kernel_rfl
theorem Zub(A:Ar)(s:List UInt8)(n0:Int):Za0 A tab E0 16 [false] 150 (Zat s n0) (Zan s n0)=
 some (tr [2,4] [!A.lt n0 (A.int (A.lenS s))],
  AV.bool true,none):=by kernel_rfl
def ZsM(s:List UInt8):AFrame:={ fn:=182,N:=54,env:=[(0,AV.str s)],todo:=[.code a182.code],defs:=[],rnd:=none,ret:=false,res:=[ARes.tmp 2] }
def ZFn(s:List UInt8):List AFrame:=[(ZsM s)]
theorem Zsb(s:List UInt8):Zar tab 182 [AV.str s]=some (ZsM s):=rfl
def Zaq(s:List UInt8)(l0:List Int)(n1 n2:Int):List AFrame:=[{ fn:=182,N:=54,env:=[(0,AV.str s),(7,AV.list (.ints .u8 l0)),(8,AV.int .i64 n1),(9,AV.int .i64 n2)],todo:=.code (ACode.gh [] Ztd)::ZyA,defs:=[],rnd:=none,ret:=false,res:=[ARes.tmp 2] }]
def Zal(s:List UInt8)(l0:List Int)(n1 n2:Int):Zac:=[]
abbrev ZaO(s:List UInt8)(l0:List Int)(n1 n2:Int):List AFrame×Zac:=(Zaq s l0 n1 n2,Zal s l0 n1 n2)
theorem Zzp(A:Ar)(s:List UInt8):ZaC A tab E0 15 [] (ZFn s) []=
 some (tr [2,2] [Nat.ble (A.lenS s) 4294967296],
  ZaO (s) (A.byt s) (A.int (A.len (A.byt s))) (0)):=by kernel_rfl
theorem ZAk(A:Ar)(s:List UInt8)(l0:List Int)(n1 n2:Int):ZaC A tab E0 68 [true,true,true,true,true,true,true,true,true,false,false,false,false,false,false] (Zaq s l0 n1 n2) (Zal s l0 n1 n2)=
 some (tr [1,20,15,6,6,1,1] [A.inR .i64 (A.add n2 1),!A.not true,A.le (A.nth l0 (A.nat n2)) 122,A.le 97 (A.nth l0 (A.nat n2)),Zag (Zag (A.le 0 n2) (Nat.blt (A.nat n2) (A.len l0))) true,A.lt n2 n1],
  ZaO (s) (l0) (n1) (A.add n2 1)):=by kernel_rfl
theorem Zzg(A:Ar)(s:List UInt8)(l0:List Int)(n1 n2:Int):Za0 A tab E0 65 [true,true,true,true,false,false,false,true,true,false,true,false,true,true,true,true,true,true,true,true,true,true,true] 182 (Zaq s l0 n1 n2) (Zal s l0 n1 n2)=
 some (tr [21,5,12,5,6,6,1,1] [A.eq n2 0,A.not (A.le (A.nth l0 (A.nat n2)) 90),A.le 65 (A.nth l0 (A.nat n2)),!A.le (A.nth l0 (A.nat n2)) 122,A.le 97 (A.nth l0 (A.nat n2)),Zag (Zag (A.le 0 n2) (Nat.blt (A.nat n2) (A.len l0))) true,A.lt n2 n1],
  AV.bool false,none):=by kernel_rfl
theorem Zzm(A:Ar)(s:List UInt8)(l0:List Int)(n1 n2:Int):Za0 A tab E0 65 [true,true,true,true,false,false,false,true,true,false,true,false,true,true,true,false,false,false,true,true,true,true,true,true,true,false,true,true,false,true,true] 182 (Zaq s l0 n1 n2) (Zal s l0 n1 n2)=
 some (tr [17,5,5,5,12,5,6,6,1,1] [A.lt (A.nth l0 (A.nat n2)) 48,A.not (A.eq (A.nth l0 (A.nat n2)) 45),!A.eq n2 0,A.not (A.le (A.nth l0 (A.nat n2)) 90),A.le 65 (A.nth l0 (A.nat n2)),!A.le (A.nth l0 (A.nat n2)) 122,A.le 97 (A.nth l0 (A.nat n2)),Zag (Zag (A.le 0 n2) (Nat.blt (A.nat n2) (A.len l0))) true,A.lt n2 n1],
  AV.bool false,none):=by kernel_rfl
theorem ZBd(A:Ar)(s:List UInt8)(l0:List Int)(n1 n2:Int):Za0 A tab E0 65 [true,true,true,true,false,false,false,true,true,false,true,false,true,true,true,false,false,false,true,true,true,false,false,true,false,false,true,true,false,true,true] 182 (Zaq s l0 n1 n2) (Zal s l0 n1 n2)=
 some (tr [2,14,5,5,5,12,5,6,6,1,1] [A.lt 57 (A.nth l0 (A.nat n2)),!A.lt (A.nth l0 (A.nat n2)) 48,A.not (A.eq (A.nth l0 (A.nat n2)) 45),!A.eq n2 0,A.not (A.le (A.nth l0 (A.nat n2)) 90),A.le 65 (A.nth l0 (A.nat n2)),!A.le (A.nth l0 (A.nat n2)) 122,A.le 97 (A.nth l0 (A.nat n2)),Zag (Zag (A.le 0 n2) (Nat.blt (A.nat n2) (A.len l0))) true,A.lt n2 n1],
  AV.bool false,none):=by kernel_rfl
theorem ZyS(A:Ar)(s:List UInt8)(l0:List Int)(n1 n2:Int):ZaC A tab E0 68 [true,true,true,true,false,false,false,true,true,false,true,false,true,true,true,false,false,false,true,true,true,false,false,true,false,false,true,true,false,true,false] (Zaq s l0 n1 n2) (Zal s l0 n1 n2)=
 some (tr [1,0,14,5,5,5,12,5,6,6,1,1] [A.inR .i64 (A.add n2 1),!A.lt 57 (A.nth l0 (A.nat n2)),!A.lt (A.nth l0 (A.nat n2)) 48,A.not (A.eq (A.nth l0 (A.nat n2)) 45),!A.eq n2 0,A.not (A.le (A.nth l0 (A.nat n2)) 90),A.le 65 (A.nth l0 (A.nat n2)),!A.le (A.nth l0 (A.nat n2)) 122,A.le 97 (A.nth l0 (A.nat n2)),Zag (Zag (A.le 0 n2) (Nat.blt (A.nat n2) (A.len l0))) true,A.lt n2 n1],
  ZaO (s) (l0) (n1) (A.add n2 1)):=by kernel_rfl
theorem Zx5(A:Ar)(s:List UInt8)(l0:List Int)(n1 n2:Int):ZaC A tab E0 68 [true,true,true,true,false,false,false,true,true,false,true,false,true,true,true,false,false,false,false,false,false,false,false,false,true,false,true,false] (Zaq s l0 n1 n2) (Zal s l0 n1 n2)=
 some (tr [1,18,5,5,12,5,6,6,1,1] [A.inR .i64 (A.add n2 1),!A.not (A.eq (A.nth l0 (A.nat n2)) 45),!A.eq n2 0,A.not (A.le (A.nth l0 (A.nat n2)) 90),A.le 65 (A.nth l0 (A.nat n2)),!A.le (A.nth l0 (A.nat n2)) 122,A.le 97 (A.nth l0 (A.nat n2)),Zag (Zag (A.le 0 n2) (Nat.blt (A.nat n2) (A.len l0))) true,A.lt n2 n1],
  ZaO (s) (l0) (n1) (A.add n2 1)):=by kernel_rfl
theorem ZyG(A:Ar)(s:List UInt8)(l0:List Int)(n1 n2:Int):ZaC A tab E0 68 [true,true,true,true,false,false,false,true,true,false,true,false,false,false,false,false,false,false] (Zaq s l0 n1 n2) (Zal s l0 n1 n2)=
 some (tr [1,20,12,5,6,6,1,1] [A.inR .i64 (A.add n2 1),!A.not (A.le (A.nth l0 (A.nat n2)) 90),A.le 65 (A.nth l0 (A.nat n2)),!A.le (A.nth l0 (A.nat n2)) 122,A.le 97 (A.nth l0 (A.nat n2)),Zag (Zag (A.le 0 n2) (Nat.blt (A.nat n2) (A.len l0))) true,A.lt n2 n1],
  ZaO (s) (l0) (n1) (A.add n2 1)):=by kernel_rfl
theorem ZxV(A:Ar)(s:List UInt8)(l0:List Int)(n1 n2:Int):Za0 A tab E0 65 [true,true,true,true,false,false,false,false,false,false,false,false,true,true,true,true,true,true,true,true,true,true,true] 182 (Zaq s l0 n1 n2) (Zal s l0 n1 n2)=
 some (tr [21,5,12,5,6,6,1,1] [A.eq n2 0,A.not false,!A.le 65 (A.nth l0 (A.nat n2)),!A.le (A.nth l0 (A.nat n2)) 122,A.le 97 (A.nth l0 (A.nat n2)),Zag (Zag (A.le 0 n2) (Nat.blt (A.nat n2) (A.len l0))) true,A.lt n2 n1],
  AV.bool false,none):=by kernel_rfl
theorem ZyL(A:Ar)(s:List UInt8)(l0:List Int)(n1 n2:Int):Za0 A tab E0 65 [true,true,true,true,false,false,false,false,false,false,false,false,true,true,true,false,false,false,true,true,true,true,true,true,true,false,true,true,false,true,true] 182 (Zaq s l0 n1 n2) (Zal s l0 n1 n2)=
 some (tr [17,5,5,5,12,5,6,6,1,1] [A.lt (A.nth l0 (A.nat n2)) 48,A.not (A.eq (A.nth l0 (A.nat n2)) 45),!A.eq n2 0,A.not false,!A.le 65 (A.nth l0 (A.nat n2)),!A.le (A.nth l0 (A.nat n2)) 122,A.le 97 (A.nth l0 (A.nat n2)),Zag (Zag (A.le 0 n2) (Nat.blt (A.nat n2) (A.len l0))) true,A.lt n2 n1],
  AV.bool false,none):=by kernel_rfl
theorem ZvO(A:Ar)(s:List UInt8)(l0:List Int)(n1 n2:Int):Za0 A tab E0 65 [true,true,true,true,false,false,false,false,false,false,false,false,true,true,true,false,false,false,true,true,true,false,false,true,false,false,true,true,false,true,true] 182 (Zaq s l0 n1 n2) (Zal s l0 n1 n2)=
 some (tr [2,14,5,5,5,12,5,6,6,1,1] [A.lt 57 (A.nth l0 (A.nat n2)),!A.lt (A.nth l0 (A.nat n2)) 48,A.not (A.eq (A.nth l0 (A.nat n2)) 45),!A.eq n2 0,A.not false,!A.le 65 (A.nth l0 (A.nat n2)),!A.le (A.nth l0 (A.nat n2)) 122,A.le 97 (A.nth l0 (A.nat n2)),Zag (Zag (A.le 0 n2) (Nat.blt (A.nat n2) (A.len l0))) true,A.lt n2 n1],
  AV.bool false,none):=by kernel_rfl
theorem Zvy(A:Ar)(s:List UInt8)(l0:List Int)(n1 n2:Int):ZaC A tab E0 68 [true,true,true,true,false,false,false,false,false,false,false,false,true,true,true,false,false,false,true,true,true,false,false,true,false,false,true,true,false,true,false] (Zaq s l0 n1 n2) (Zal s l0 n1 n2)=
 some (tr [1,0,14,5,5,5,12,5,6,6,1,1] [A.inR .i64 (A.add n2 1),!A.lt 57 (A.nth l0 (A.nat n2)),!A.lt (A.nth l0 (A.nat n2)) 48,A.not (A.eq (A.nth l0 (A.nat n2)) 45),!A.eq n2 0,A.not false,!A.le 65 (A.nth l0 (A.nat n2)),!A.le (A.nth l0 (A.nat n2)) 122,A.le 97 (A.nth l0 (A.nat n2)),Zag (Zag (A.le 0 n2) (Nat.blt (A.nat n2) (A.len l0))) true,A.lt n2 n1],
  ZaO (s) (l0) (n1) (A.add n2 1)):=by kernel_rfl
theorem ZvU(A:Ar)(s:List UInt8)(l0:List Int)(n1 n2:Int):ZaC A tab E0 68 [true,true,true,true,false,false,false,false,false,false,false,false,true,true,true,false,false,false,false,false,false,false,false,false,true,false,true,false] (Zaq s l0 n1 n2) (Zal s l0 n1 n2)=
 some (tr [1,18,5,5,12,5,6,6,1,1] [A.inR .i64 (A.add n2 1),!A.not (A.eq (A.nth l0 (A.nat n2)) 45),!A.eq n2 0,A.not false,!A.le 65 (A.nth l0 (A.nat n2)),!A.le (A.nth l0 (A.nat n2)) 122,A.le 97 (A.nth l0 (A.nat n2)),Zag (Zag (A.le 0 n2) (Nat.blt (A.nat n2) (A.len l0))) true,A.lt n2 n1],
  ZaO (s) (l0) (n1) (A.add n2 1)):=by kernel_rfl
theorem ZwN(A:Ar)(s:List UInt8)(l0:List Int)(n1 n2:Int):Za0 A tab E0 65 [true,false,false,false,false,false,false,true,true,false,true,false,true,true,true,true,true,true,true,true,true,true,true] 182 (Zaq s l0 n1 n2) (Zal s l0 n1 n2)=
 some (tr [21,5,12,12,6,1,1] [A.eq n2 0,A.not (A.le (A.nth l0 (A.nat n2)) 90),A.le 65 (A.nth l0 (A.nat n2)),!A.le 97 (A.nth l0 (A.nat n2)),Zag (Zag (A.le 0 n2) (Nat.blt (A.nat n2) (A.len l0))) true,A.lt n2 n1],
  AV.bool false,none):=by kernel_rfl
theorem Zwh(A:Ar)(s:List UInt8)(l0:List Int)(n1 n2:Int):Za0 A tab E0 65 [true,false,false,false,false,false,false,true,true,false,true,false,true,true,true,false,false,false,true,true,true,true,true,true,true,false,true,true,false,true,true] 182 (Zaq s l0 n1 n2) (Zal s l0 n1 n2)=
 some (tr [17,5,5,5,12,12,6,1,1] [A.lt (A.nth l0 (A.nat n2)) 48,A.not (A.eq (A.nth l0 (A.nat n2)) 45),!A.eq n2 0,A.not (A.le (A.nth l0 (A.nat n2)) 90),A.le 65 (A.nth l0 (A.nat n2)),!A.le 97 (A.nth l0 (A.nat n2)),Zag (Zag (A.le 0 n2) (Nat.blt (A.nat n2) (A.len l0))) true,A.lt n2 n1],
  AV.bool false,none):=by kernel_rfl
theorem Zvu(A:Ar)(s:List UInt8)(l0:List Int)(n1 n2:Int):Za0 A tab E0 65 [true,false,false,false,false,false,false,true,true,false,true,false,true,true,true,false,false,false,true,true,true,false,false,true,false,false,true,true,false,true,true] 182 (Zaq s l0 n1 n2) (Zal s l0 n1 n2)=
 some (tr [2,14,5,5,5,12,12,6,1,1] [A.lt 57 (A.nth l0 (A.nat n2)),!A.lt (A.nth l0 (A.nat n2)) 48,A.not (A.eq (A.nth l0 (A.nat n2)) 45),!A.eq n2 0,A.not (A.le (A.nth l0 (A.nat n2)) 90),A.le 65 (A.nth l0 (A.nat n2)),!A.le 97 (A.nth l0 (A.nat n2)),Zag (Zag (A.le 0 n2) (Nat.blt (A.nat n2) (A.len l0))) true,A.lt n2 n1],
  AV.bool false,none):=by kernel_rfl
theorem ZtZ(A:Ar)(s:List UInt8)(l0:List Int)(n1 n2:Int):ZaC A tab E0 68 [true,false,false,false,false,false,false,true,true,false,true,false,true,true,true,false,false,false,true,true,true,false,false,true,false,false,true,true,false,true,false] (Zaq s l0 n1 n2) (Zal s l0 n1 n2)=
 some (tr [1,0,14,5,5,5,12,12,6,1,1] [A.inR .i64 (A.add n2 1),!A.lt 57 (A.nth l0 (A.nat n2)),!A.lt (A.nth l0 (A.nat n2)) 48,A.not (A.eq (A.nth l0 (A.nat n2)) 45),!A.eq n2 0,A.not (A.le (A.nth l0 (A.nat n2)) 90),A.le 65 (A.nth l0 (A.nat n2)),!A.le 97 (A.nth l0 (A.nat n2)),Zag (Zag (A.le 0 n2) (Nat.blt (A.nat n2) (A.len l0))) true,A.lt n2 n1],
  ZaO (s) (l0) (n1) (A.add n2 1)):=by kernel_rfl
theorem ZwL(A:Ar)(s:List UInt8)(l0:List Int)(n1 n2:Int):ZaC A tab E0 68 [true,false,false,false,false,false,false,true,true,false,true,false,true,true,true,false,false,false,false,false,false,false,false,false,true,false,true,false] (Zaq s l0 n1 n2) (Zal s l0 n1 n2)=
 some (tr [1,18,5,5,12,12,6,1,1] [A.inR .i64 (A.add n2 1),!A.not (A.eq (A.nth l0 (A.nat n2)) 45),!A.eq n2 0,A.not (A.le (A.nth l0 (A.nat n2)) 90),A.le 65 (A.nth l0 (A.nat n2)),!A.le 97 (A.nth l0 (A.nat n2)),Zag (Zag (A.le 0 n2) (Nat.blt (A.nat n2) (A.len l0))) true,A.lt n2 n1],
  ZaO (s) (l0) (n1) (A.add n2 1)):=by kernel_rfl
theorem Zwc(A:Ar)(s:List UInt8)(l0:List Int)(n1 n2:Int):ZaC A tab E0 68 [true,false,false,false,false,false,false,true,true,false,true,false,false,false,false,false,false,false] (Zaq s l0 n1 n2) (Zal s l0 n1 n2)=
 some (tr [1,20,12,12,6,1,1] [A.inR .i64 (A.add n2 1),!A.not (A.le (A.nth l0 (A.nat n2)) 90),A.le 65 (A.nth l0 (A.nat n2)),!A.le 97 (A.nth l0 (A.nat n2)),Zag (Zag (A.le 0 n2) (Nat.blt (A.nat n2) (A.len l0))) true,A.lt n2 n1],
  ZaO (s) (l0) (n1) (A.add n2 1)):=by kernel_rfl
theorem Ztj(A:Ar)(s:List UInt8)(l0:List Int)(n1 n2:Int):Za0 A tab E0 65 [true,false,false,false,false,false,false,false,false,false,false,false,true,true,true,true,true,true,true,true,true,true,true] 182 (Zaq s l0 n1 n2) (Zal s l0 n1 n2)=
 some (tr [21,5,12,12,6,1,1] [A.eq n2 0,A.not false,!A.le 65 (A.nth l0 (A.nat n2)),!A.le 97 (A.nth l0 (A.nat n2)),Zag (Zag (A.le 0 n2) (Nat.blt (A.nat n2) (A.len l0))) true,A.lt n2 n1],
  AV.bool false,none):=by kernel_rfl
theorem Zu4(A:Ar)(s:List UInt8)(l0:List Int)(n1 n2:Int):Za0 A tab E0 65 [true,false,false,false,false,false,false,false,false,false,false,false,true,true,true,false,false,false,true,true,true,true,true,true,true,false,true,true,false,true,true] 182 (Zaq s l0 n1 n2) (Zal s l0 n1 n2)=
 some (tr [17,5,5,5,12,12,6,1,1] [A.lt (A.nth l0 (A.nat n2)) 48,A.not (A.eq (A.nth l0 (A.nat n2)) 45),!A.eq n2 0,A.not false,!A.le 65 (A.nth l0 (A.nat n2)),!A.le 97 (A.nth l0 (A.nat n2)),Zag (Zag (A.le 0 n2) (Nat.blt (A.nat n2) (A.len l0))) true,A.lt n2 n1],
  AV.bool false,none):=by kernel_rfl
theorem Zvr(A:Ar)(s:List UInt8)(l0:List Int)(n1 n2:Int):Za0 A tab E0 65 [true,false,false,false,false,false,false,false,false,false,false,false,true,true,true,false,false,false,true,true,true,false,false,true,false,false,true,true,false,true,true] 182 (Zaq s l0 n1 n2) (Zal s l0 n1 n2)=
 some (tr [2,14,5,5,5,12,12,6,1,1] [A.lt 57 (A.nth l0 (A.nat n2)),!A.lt (A.nth l0 (A.nat n2)) 48,A.not (A.eq (A.nth l0 (A.nat n2)) 45),!A.eq n2 0,A.not false,!A.le 65 (A.nth l0 (A.nat n2)),!A.le 97 (A.nth l0 (A.nat n2)),Zag (Zag (A.le 0 n2) (Nat.blt (A.nat n2) (A.len l0))) true,A.lt n2 n1],
  AV.bool false,none):=by kernel_rfl
theorem Zux(A:Ar)(s:List UInt8)(l0:List Int)(n1 n2:Int):ZaC A tab E0 68 [true,false,false,false,false,false,false,false,false,false,false,false,true,true,true,false,false,false,true,true,true,false,false,true,false,false,true,true,false,true,false] (Zaq s l0 n1 n2) (Zal s l0 n1 n2)=
 some (tr [1,0,14,5,5,5,12,12,6,1,1] [A.inR .i64 (A.add n2 1),!A.lt 57 (A.nth l0 (A.nat n2)),!A.lt (A.nth l0 (A.nat n2)) 48,A.not (A.eq (A.nth l0 (A.nat n2)) 45),!A.eq n2 0,A.not false,!A.le 65 (A.nth l0 (A.nat n2)),!A.le 97 (A.nth l0 (A.nat n2)),Zag (Zag (A.le 0 n2) (Nat.blt (A.nat n2) (A.len l0))) true,A.lt n2 n1],
  ZaO (s) (l0) (n1) (A.add n2 1)):=by kernel_rfl
theorem Zwp(A:Ar)(s:List UInt8)(l0:List Int)(n1 n2:Int):ZaC A tab E0 68 [true,false,false,false,false,false,false,false,false,false,false,false,true,true,true,false,false,false,false,false,false,false,false,false,true,false,true,false] (Zaq s l0 n1 n2) (Zal s l0 n1 n2)=
 some (tr [1,18,5,5,12,12,6,1,1] [A.inR .i64 (A.add n2 1),!A.not (A.eq (A.nth l0 (A.nat n2)) 45),!A.eq n2 0,A.not false,!A.le 65 (A.nth l0 (A.nat n2)),!A.le 97 (A.nth l0 (A.nat n2)),Zag (Zag (A.le 0 n2) (Nat.blt (A.nat n2) (A.len l0))) true,A.lt n2 n1],
  ZaO (s) (l0) (n1) (A.add n2 1)):=by kernel_rfl
theorem ZtY(A:Ar)(s:List UInt8)(l0:List Int)(n1 n2:Int):Za0 A tab E0 21 [false,true,true,true,true] 182 (Zaq s l0 n1 n2) (Zal s l0 n1 n2)=
 some (tr [9,3,1] [A.not (A.eqS s []),!A.lt n2 n1],
  AV.bool (A.le (A.int (A.lenS s)) 12),none):=by kernel_rfl
theorem ZuT(A:Ar)(s:List UInt8)(l0:List Int)(n1 n2:Int):Za0 A tab E0 21 [false,false,false,false,false] 182 (Zaq s l0 n1 n2) (Zal s l0 n1 n2)=
 some (tr [9,3,1] [!A.not (A.eqS s []),!A.lt n2 n1],
  AV.bool false,none):=by kernel_rfl
def ZsC(n:Int):AFrame:={ fn:=161,N:=3,env:=[(0,AV.int .i64 n)],todo:=[.code a161.code],defs:=[],rnd:=none,ret:=false,res:=[ARes.tmp 2] }
def ZFK(n:Int):List AFrame:=[(ZsC n)]
theorem ZqQ(n:Int):Zar tab 161 [AV.int .i64 n]=some (ZsC n):=rfl
theorem ZyY(A:Ar)(n:Int):Za0 A tab E0 9 [] 161 (ZFK n) []=
 some (tr [3] [],
  AV.int .i64 0,none):=by kernel_rfl
end Go.Proofs.YtkeoeooghhjibaaGreatDoor
/- Names, ranges, first errors. No condition. -/
namespace Go.Proofs.YtkeoeooghhjibaaGreatDoor
def Zab(n a b:Int):Bool:=decide (a≤n∧n≤b)
def Zaa(b:Bool)(e:Int):Int:=if b=true then 0 else e
def Zzy(k:Nat)(c:Int):Bool:=decide ((97≤c∧c≤122)∨(65≤c∧c≤90)∨(k≠0∧(c=45∨(48≤c∧c≤57))))
def nmR(f:Nat→Int):Nat→Nat→Bool
 |0,_=>true
 |m+1,k=>Zzy k (f k)&&nmR f m (k+1)
def ZaU(s:List UInt8):Bool:=decide (1≤s.length∧s.length≤12)&&nmR (fun k=>((s.getD k 0).toNat:Int)) s.length 0
def Zai:List Int→Int
 |[]=>0
 |x::xs=>if x=0 then Zai xs else x
def Zhz(xs:List AV)(s:List UInt8):Bool:=xs.any fun x=>x.toS==s
theorem Zll(n a b:Int):Zao Tryz.prog 41 [.int .i64 n, .int .i64 a, .int .i64 b] (.bool (Zab n a b)) none:=
 start (Zvh n a b) fun C hC=>by
  by_cases h:a≤n
  ·exact fin hC ZaG (ZD3 std n a b) (by simp[h]) (by simp[Zab,h]) rfl
  ·exact fin hC ZaG (ZDU std n a b) (by simp;omega) (by simp[Zab,h]) rfl
theorem ZlD(n a b:Int):Zao Tryz.prog 82 [.int .i64 n, .int .i64 a, .int .i64 b] (.bool (Zab n a b)) none:=
 start (ZwQ n a b) fun C hC=>by
  by_cases h:a≤n
  ·exact fin hC ZaG (ZFz std n a b) (by simp[h]) (by simp[Zab,h]) rfl
  ·exact fin hC ZaG (ZDv std n a b) (by simp;omega) (by simp[Zab,h]) rfl
theorem ZkN(b:Bool)(e:Int):Zao Tryz.prog 68 [.bool b, .int .i64 e] (.int .i64 (Zaa b e)) none:=
 start (Zwv b e) fun C hC=>by
  cases b
  ·first
   |exact fin hC ZaG (Zzw std false e) (by simp) rfl rfl
   |exact fin hC ZaG (ZBu std false e) (by simp) rfl rfl
  ·first
   |exact fin hC ZaG (Zzw std true e) (by simp) rfl rfl
   |exact fin hC ZaG (ZBu std true e) (by simp) rfl rfl
theorem Zoh(n:Int):Zao Tryz.prog 161 [.int .i64 n] (.int .i64 0) none:=start (ZqQ n) fun C hC=>fin hC ZaG (ZyY std n) (by simp) rfl rfl
theorem ZgA{C:Ctx}(hC:C.P=Tryz.prog)(s:List UInt8)(hl:s.length≤1000000):∀(m k:Nat),k+m=s.length→Ev C (Zat s (k:Int)) (Zan s (k:Int)) (ZcD 150 (.bool (nmR (fun k=>((s.getD k 0).toNat:Int)) m k)) none)
 |0,k,hk=>fin hC ZaG (Zub std s k) (by simp;omega) rfl rfl
 |m+1,k,hk=>by
  have nx:Zzy k (((s.getD k 0).toNat:Int))=true→Ev C (Zat s ((k:Int)+1)) (Zan s ((k:Int)+1)) (ZcD 150 (.bool (nmR (fun k=>((s.getD k 0).toNat:Int)) (m+1) k)) none):=fun h=>by
   have:=ZgA hC s hl m (k+1) (by omega)
   simp only[nmR,h,Bool.true_and]
   exact this
  have fx:Zzy k (((s.getD k 0).toNat:Int))=false→AV.bool false=AV.bool (nmR (fun k=>((s.getD k 0).toNat:Int)) (m+1) k):=fun h=>by simp only[nmR,h,Bool.false_and]
  by_cases h1:((k:Int)<((s.length:Nat):Int))
  ·by_cases h2:(97≤((s.getD k 0).toNat:Int))
   ·by_cases h3:(((s.getD k 0).toNat:Int)≤122)
    ·exact go hC ZaG (Zyn std s (k:Int)) (by simp[-List.getD_eq_getElem?_getD]<;>omega) (nx (decide_eq_true (by omega)))
    ·by_cases h4:(65≤((s.getD k 0).toNat:Int))
     ·by_cases h5:(((s.getD k 0).toNat:Int)≤90)
      ·exact go hC ZaG (ZAL std s (k:Int)) (by simp[-List.getD_eq_getElem?_getD]<;>omega) (nx (decide_eq_true (by omega)))
      ·by_cases h6:((k:Int)=0)
       ·exact fin hC ZaG (Zzq std s (k:Int)) (by simp[-List.getD_eq_getElem?_getD]<;>omega) (fx (decide_eq_false (by omega))) rfl
       ·by_cases h7:(((s.getD k 0).toNat:Int)=45)
        ·exact go hC ZaG (ZAd std s (k:Int)) (by simp[-List.getD_eq_getElem?_getD]<;>omega) (nx (decide_eq_true (by omega)))
        ·by_cases h8:(((s.getD k 0).toNat:Int)<48)
         ·exact fin hC ZaG (ZBw std s (k:Int)) (by simp[-List.getD_eq_getElem?_getD]<;>omega) (fx (decide_eq_false (by omega))) rfl
         ·by_cases h9:(57<((s.getD k 0).toNat:Int))
          ·exact fin hC ZaG (ZCn std s (k:Int)) (by simp[-List.getD_eq_getElem?_getD]<;>omega) (fx (decide_eq_false (by omega))) rfl
          ·exact go hC ZaG (Zy4 std s (k:Int)) (by simp[-List.getD_eq_getElem?_getD]<;>omega) (nx (decide_eq_true (by omega)))
     ·by_cases h5:((k:Int)=0)
      ·exact fin hC ZaG (Zv3 std s (k:Int)) (by simp[-List.getD_eq_getElem?_getD]<;>omega) (fx (decide_eq_false (by omega))) rfl
      ·by_cases h6:(((s.getD k 0).toNat:Int)=45)
       ·exact go hC ZaG (ZtM std s (k:Int)) (by simp[-List.getD_eq_getElem?_getD]<;>omega) (nx (decide_eq_true (by omega)))
       ·by_cases h7:(((s.getD k 0).toNat:Int)<48)
        ·exact fin hC ZaG (Zxf std s (k:Int)) (by simp[-List.getD_eq_getElem?_getD]<;>omega) (fx (decide_eq_false (by omega))) rfl
        ·by_cases h8:(57<((s.getD k 0).toNat:Int))
         ·exact fin hC ZaG (Zxg std s (k:Int)) (by simp[-List.getD_eq_getElem?_getD]<;>omega) (fx (decide_eq_false (by omega))) rfl
         ·exact go hC ZaG (Ztz std s (k:Int)) (by simp[-List.getD_eq_getElem?_getD]<;>omega) (nx (decide_eq_true (by omega)))
   ·by_cases h3:(65≤((s.getD k 0).toNat:Int))
    ·by_cases h4:(((s.getD k 0).toNat:Int)≤90)
     ·exact go hC ZaG (ZtD std s (k:Int)) (by simp[-List.getD_eq_getElem?_getD]<;>omega) (nx (decide_eq_true (by omega)))
     ·by_cases h5:((k:Int)=0)
      ·exact fin hC ZaG (ZvV std s (k:Int)) (by simp[-List.getD_eq_getElem?_getD]<;>omega) (fx (decide_eq_false (by omega))) rfl
      ·by_cases h6:(((s.getD k 0).toNat:Int)=45)
       ·exact go hC ZaG (Zu7 std s (k:Int)) (by simp[-List.getD_eq_getElem?_getD]<;>omega) (nx (decide_eq_true (by omega)))
       ·by_cases h7:(((s.getD k 0).toNat:Int)<48)
        ·exact fin hC ZaG (Zvo std s (k:Int)) (by simp[-List.getD_eq_getElem?_getD]<;>omega) (fx (decide_eq_false (by omega))) rfl
        ·by_cases h8:(57<((s.getD k 0).toNat:Int))
         ·exact fin hC ZaG (Zxb std s (k:Int)) (by simp[-List.getD_eq_getElem?_getD]<;>omega) (fx (decide_eq_false (by omega))) rfl
         ·exact go hC ZaG (Ztw std s (k:Int)) (by simp[-List.getD_eq_getElem?_getD]<;>omega) (nx (decide_eq_true (by omega)))
    ·by_cases h4:((k:Int)=0)
     ·exact fin hC ZaG (ZtW std s (k:Int)) (by simp[-List.getD_eq_getElem?_getD]<;>omega) (fx (decide_eq_false (by omega))) rfl
     ·by_cases h5:(((s.getD k 0).toNat:Int)=45)
      ·exact go hC ZaG (Zut std s (k:Int)) (by simp[-List.getD_eq_getElem?_getD]<;>omega) (nx (decide_eq_true (by omega)))
      ·by_cases h6:(((s.getD k 0).toNat:Int)<48)
       ·exact fin hC ZaG (Zv5 std s (k:Int)) (by simp[-List.getD_eq_getElem?_getD]<;>omega) (fx (decide_eq_false (by omega))) rfl
       ·by_cases h7:(57<((s.getD k 0).toNat:Int))
        ·exact fin hC ZaG (Zw0 std s (k:Int)) (by simp[-List.getD_eq_getElem?_getD]<;>omega) (fx (decide_eq_false (by omega))) rfl
        ·exact go hC ZaG (Zvx std s (k:Int)) (by simp[-List.getD_eq_getElem?_getD]<;>omega) (nx (decide_eq_true (by omega)))
  ·omega
theorem Zod(s:List UInt8)(hl:s.length≤1000000):Zao Tryz.prog 150 [.str s] (.bool (ZaU s)) none:=
 start (Zr3 s) fun C hC=>by
  by_cases h1:((s.length:Int)<1)
  ·exact fin hC ZaG (Zy6 std s) (by simp;omega) (by simp[ZaU];omega) rfl
  ·by_cases h2:(12<(s.length:Int))
   ·exact fin hC ZaG (Zy8 std s) (by simp;omega) (by simp[ZaU];omega) rfl
   ·refine go hC ZaG (ZCB std s) (by simp;omega) ?_
    have:=ZgA hC s hl s.length 0 (by omega)
    have e:decide (1≤s.length∧s.length≤12)=true:=by simp;omega
    simp only[ZaU,e,Bool.true_and]
    exact this
theorem ZgB{C:Ctx}(hC:C.P=Tryz.prog)(s:List UInt8)(l0:List Int)(hl:l0.length≤4294967296):∀(m k:Nat),k+m=l0.length→Ev C (Zaq s l0 (l0.length:Int) (k:Int)) (Zal s l0 (l0.length:Int) (k:Int)) (ZcD 182 (.bool (decide (1≤s.length∧s.length≤12)&&nmR (fun k=>l0.getD k 0) m k)) none)
 |0,k,hk=>by
  by_cases h2:s=[]
  ·exact fin hC ZaG (ZuT std s l0 l0.length k) (by simp[h2];omega) (by simp[h2]) rfl
  ·have h3:0<s.length:=List.length_pos_iff.2 h2
   exact fin hC ZaG (ZtY std s l0 l0.length k) (by simp[h2];omega) (by simp only[nmR,Bool.and_true];congr 1;rw[Bool.eq_iff_iff];simp;omega) rfl
 |m+1,k,hk=>by
  have nx:Zzy k (l0.getD k 0)=true→Ev C (Zaq s l0 (l0.length:Int) ((k:Int)+1)) (Zal s l0 (l0.length:Int) ((k:Int)+1)) (ZcD 182 (.bool (decide (1≤s.length∧s.length≤12)&&nmR (fun k=>l0.getD k 0) (m+1) k)) none):=fun h=>by
   have:=ZgB hC s l0 hl m (k+1) (by omega)
   simp only[nmR,h,Bool.true_and]
   exact this
  have fx:Zzy k (l0.getD k 0)=false→AV.bool false=AV.bool (decide (1≤s.length∧s.length≤12)&&nmR (fun k=>l0.getD k 0) (m+1) k):=fun h=>by simp only[nmR,h,Bool.false_and,Bool.and_false]
  by_cases h1:((k:Int)<(l0.length:Int))
  ·by_cases h2:(97≤(l0.getD k 0))
   ·by_cases h3:((l0.getD k 0)≤122)
    ·exact go hC ZaG (ZAk std s l0 (l0.length:Int) (k:Int)) (by simp[-List.getD_eq_getElem?_getD]<;>omega) (nx (decide_eq_true (by omega)))
    ·by_cases h4:(65≤(l0.getD k 0))
     ·by_cases h5:((l0.getD k 0)≤90)
      ·exact go hC ZaG (ZyG std s l0 (l0.length:Int) (k:Int)) (by simp[-List.getD_eq_getElem?_getD]<;>omega) (nx (decide_eq_true (by omega)))
      ·by_cases h6:((k:Int)=0)
       ·exact fin hC ZaG (Zzg std s l0 (l0.length:Int) (k:Int)) (by simp[-List.getD_eq_getElem?_getD]<;>omega) (fx (decide_eq_false (by omega))) rfl
       ·by_cases h7:((l0.getD k 0)=45)
        ·exact go hC ZaG (Zx5 std s l0 (l0.length:Int) (k:Int)) (by simp[-List.getD_eq_getElem?_getD]<;>omega) (nx (decide_eq_true (by omega)))
        ·by_cases h8:((l0.getD k 0)<48)
         ·exact fin hC ZaG (Zzm std s l0 (l0.length:Int) (k:Int)) (by simp[-List.getD_eq_getElem?_getD]<;>omega) (fx (decide_eq_false (by omega))) rfl
         ·by_cases h9:(57<(l0.getD k 0))
          ·exact fin hC ZaG (ZBd std s l0 (l0.length:Int) (k:Int)) (by simp[-List.getD_eq_getElem?_getD]<;>omega) (fx (decide_eq_false (by omega))) rfl
          ·exact go hC ZaG (ZyS std s l0 (l0.length:Int) (k:Int)) (by simp[-List.getD_eq_getElem?_getD]<;>omega) (nx (decide_eq_true (by omega)))
     ·by_cases h5:((k:Int)=0)
      ·exact fin hC ZaG (ZxV std s l0 (l0.length:Int) (k:Int)) (by simp[-List.getD_eq_getElem?_getD]<;>omega) (fx (decide_eq_false (by omega))) rfl
      ·by_cases h6:((l0.getD k 0)=45)
       ·exact go hC ZaG (ZvU std s l0 (l0.length:Int) (k:Int)) (by simp[-List.getD_eq_getElem?_getD]<;>omega) (nx (decide_eq_true (by omega)))
       ·by_cases h7:((l0.getD k 0)<48)
        ·exact fin hC ZaG (ZyL std s l0 (l0.length:Int) (k:Int)) (by simp[-List.getD_eq_getElem?_getD]<;>omega) (fx (decide_eq_false (by omega))) rfl
        ·by_cases h8:(57<(l0.getD k 0))
         ·exact fin hC ZaG (ZvO std s l0 (l0.length:Int) (k:Int)) (by simp[-List.getD_eq_getElem?_getD]<;>omega) (fx (decide_eq_false (by omega))) rfl
         ·exact go hC ZaG (Zvy std s l0 (l0.length:Int) (k:Int)) (by simp[-List.getD_eq_getElem?_getD]<;>omega) (nx (decide_eq_true (by omega)))
   ·by_cases h3:(65≤(l0.getD k 0))
    ·by_cases h4:((l0.getD k 0)≤90)
     ·exact go hC ZaG (Zwc std s l0 (l0.length:Int) (k:Int)) (by simp[-List.getD_eq_getElem?_getD]<;>omega) (nx (decide_eq_true (by omega)))
     ·by_cases h5:((k:Int)=0)
      ·exact fin hC ZaG (ZwN std s l0 (l0.length:Int) (k:Int)) (by simp[-List.getD_eq_getElem?_getD]<;>omega) (fx (decide_eq_false (by omega))) rfl
      ·by_cases h6:((l0.getD k 0)=45)
       ·exact go hC ZaG (ZwL std s l0 (l0.length:Int) (k:Int)) (by simp[-List.getD_eq_getElem?_getD]<;>omega) (nx (decide_eq_true (by omega)))
       ·by_cases h7:((l0.getD k 0)<48)
        ·exact fin hC ZaG (Zwh std s l0 (l0.length:Int) (k:Int)) (by simp[-List.getD_eq_getElem?_getD]<;>omega) (fx (decide_eq_false (by omega))) rfl
        ·by_cases h8:(57<(l0.getD k 0))
         ·exact fin hC ZaG (Zvu std s l0 (l0.length:Int) (k:Int)) (by simp[-List.getD_eq_getElem?_getD]<;>omega) (fx (decide_eq_false (by omega))) rfl
         ·exact go hC ZaG (ZtZ std s l0 (l0.length:Int) (k:Int)) (by simp[-List.getD_eq_getElem?_getD]<;>omega) (nx (decide_eq_true (by omega)))
    ·by_cases h4:((k:Int)=0)
     ·exact fin hC ZaG (Ztj std s l0 (l0.length:Int) (k:Int)) (by simp[-List.getD_eq_getElem?_getD]<;>omega) (fx (decide_eq_false (by omega))) rfl
     ·by_cases h5:((l0.getD k 0)=45)
      ·exact go hC ZaG (Zwp std s l0 (l0.length:Int) (k:Int)) (by simp[-List.getD_eq_getElem?_getD]<;>omega) (nx (decide_eq_true (by omega)))
      ·by_cases h6:((l0.getD k 0)<48)
       ·exact fin hC ZaG (Zu4 std s l0 (l0.length:Int) (k:Int)) (by simp[-List.getD_eq_getElem?_getD]<;>omega) (fx (decide_eq_false (by omega))) rfl
       ·by_cases h7:(57<(l0.getD k 0))
        ·exact fin hC ZaG (Zvr std s l0 (l0.length:Int) (k:Int)) (by simp[-List.getD_eq_getElem?_getD]<;>omega) (fx (decide_eq_false (by omega))) rfl
        ·exact go hC ZaG (Zux std s l0 (l0.length:Int) (k:Int)) (by simp[-List.getD_eq_getElem?_getD]<;>omega) (nx (decide_eq_true (by omega)))
  ·by_cases h2:(s=[])
   ·omega
   ·omega
theorem Zo7(s:List UInt8)(hl:s.length≤1000000):Zao Tryz.prog 182 [.str s] (.bool (ZaU s)) none:=
 start (Zsb s) fun C hC=>by
  refine go hC ZaG (Zzp std s) (by simp;omega) ?_
  have:=ZgB hC s (s.map fun b=>(b.toNat:Int)) (by simp;omega) (s.map fun b=>(b.toNat:Int)).length 0 (by simp)
  have e:(fun k=>(s.map fun b=>(b.toNat:Int)).getD k 0)=fun k=>((s.getD k 0).toNat:Int):=by
   funext k
   simp only[List.getD_eq_getElem?_getD,List.getElem?_map]
   cases s[k]?<;>rfl
  have q:(decide (1≤s.length∧s.length≤12)&&nmR (fun k=>(s.map fun b=>(b.toNat:Int)).getD k 0) (s.map fun b=>(b.toNat:Int)).length 0)=ZaU s:=by rw[e,List.length_map];rfl
  rw[q]at this
  exact this
@[simp] theorem ZcR (l:List AV):std.lenA l=l.length:=rfl
@[simp] theorem ZGN (l:List AV) (j:Nat):std.nthA l j=l.getD j .top:=rfl
theorem Zh4{C:Ctx}(hC:C.P=Tryz.prog)(xs:List AV)(s:List UInt8)(hl:xs.length≤1000000):∀(m k:Nat),k+m=xs.length→Ev C (Zca xs s (k:Int)) (ZbR xs s (k:Int)) (ZcD 151 (.bool (Zhz (xs.drop k) s)) none)
 |0,k,hk=>fin hC ZaG (ZCh std xs s k) (by simp;omega) (by rw[List.drop_of_length_le (by omega)];rfl) rfl
 |m+1,k,hk=>by
  have hd:xs.drop k=xs[k]'(by omega)::xs.drop (k+1):=List.drop_eq_getElem_cons (by omega)
  have hg:xs.getD k .top=xs[k]'(by omega):=by simp[List.getD_eq_getElem?_getD,List.getElem?_eq_getElem (show k<xs.length by omega)]
  by_cases h:(xs.getD k .top).toS=s
  ·exact fin hC ZaG (Zym std xs s k) (by simp[-List.getD_eq_getElem?_getD,h]<;>omega) (by rw[hd,←hg];simp[-List.getD_eq_getElem?_getD,Zhz,h]) rfl
  ·refine go hC ZaG (ZAw std xs s k) (by simp[-List.getD_eq_getElem?_getD,h]<;>omega) ?_
   have:=Zh4 hC xs s hl m (k+1) (by omega)
   rw[hd,←hg]
   have e:Zhz (xs.getD k .top::xs.drop (k+1)) s=Zhz (xs.drop (k+1)) s:=by simp[-List.getD_eq_getElem?_getD,Zhz,h]
   rw[e]
   exact this
theorem Zqx(xs:List AV)(s:List UInt8)(hl:xs.length≤1000000):Zao Tryz.prog 151 [.list (.big .str xs), .str s] (.bool (Zhz xs s)) none:=
 start (ZqP xs s) fun C hC=>go hC ZaG (Zzo std xs s) (by simp) (Zh4 hC xs s hl xs.length 0 (by omega))
theorem Zgh{C:Ctx}(hC:C.P=Tryz.prog)(xs:List Int)(hl:xs.length≤1000000):∀(m k:Nat),k+m=xs.length→Ev C (Zdw xs (xs.length:Int) (k:Int)) (ZcM xs (xs.length:Int) (k:Int)) (ZcD 67 (.int .i64 (Zai (xs.drop k))) none)
 |0,k,hk=>fin hC ZaG (ZFt std xs xs.length k) (by simp;omega) (by rw[List.drop_of_length_le (by omega)];rfl) rfl
 |m+1,k,hk=>by
  have hd:xs.drop k=xs[k]'(by omega)::xs.drop (k+1):=List.drop_eq_getElem_cons (by omega)
  have hg:xs.getD k 0=xs[k]'(by omega):=by simp[List.getD_eq_getElem?_getD,List.getElem?_eq_getElem (show k<xs.length by omega)]
  by_cases h:xs.getD k 0=0
  ·refine go hC ZaG (ZEE std xs xs.length k) (by simp[-List.getD_eq_getElem?_getD,h]<;>omega) ?_
   have:=Zgh hC xs hl m (k+1) (by omega)
   rw[hd,←hg,Zai,if_pos h]
   exact this
  ·exact fin hC ZaG (ZEa std xs xs.length k) (by simp[-List.getD_eq_getElem?_getD,h]<;>omega) (by rw[hd,←hg,Zai,if_neg h];rfl) rfl
theorem Znv(xs:List Int)(hl:xs.length≤1000000):Zao Tryz.prog 67 [.list (.ints .i64 xs)] (.int .i64 (Zai xs)) none:=
 start (Ztu xs) fun C hC=>go hC ZaG (ZEC std xs) (by simp) (Zgh hC xs hl xs.length 0 (by omega))
end Go.Proofs.YtkeoeooghhjibaaGreatDoor
/- Contracts as a list. No condition. -/
namespace Go.Proofs.YtkeoeooghhjibaaGreatDoor
def k41:Ctr:=⟨41,0,fun _ a=>match a with |[.int .i64 n, .int .i64 a, .int .i64 b]=>some (true, .bool (Zab n a b),none) |_=>none⟩
theorem ZAo:k41.OK Tryz.prog:=fun pa args r fr h=>by
 simp only[k41]at h
 split at h
 ·cases h
  exact Zll _ _ _
 ·cases h
def k82:Ctr:=⟨82,0,fun _ a=>match a with |[.int .i64 n, .int .i64 a, .int .i64 b]=>some (true, .bool (Zab n a b),none) |_=>none⟩
theorem Zz7:k82.OK Tryz.prog:=fun pa args r fr h=>by
 simp only[k82]at h
 split at h
 ·cases h
  exact ZlD _ _ _
 ·cases h
def k68:Ctr:=⟨68,0,fun _ a=>match a with |[.bool b, .int .i64 e]=>some (true, .int .i64 (Zaa b e),none) |_=>none⟩
theorem ZBa:k68.OK Tryz.prog:=fun pa args r fr h=>by
 simp only[k68]at h
 split at h
 ·cases h
  exact ZkN _ _
 ·cases h
def k161:Ctr:=⟨161,0,fun _ a=>match a with |[.int .i64 _]=>some (true, .int .i64 0,none) |_=>none⟩
theorem Zu9:k161.OK Tryz.prog:=fun pa args r fr h=>by
 simp only[k161]at h
 split at h
 ·cases h
  exact Zoh _
 ·cases h
def k150:Ctr:=⟨150,0,fun _ a=>match a with |[.str s]=>some (decide (s.length≤1000000), .bool (ZaU s),none) |_=>none⟩
theorem Zuy:k150.OK Tryz.prog:=fun pa args r fr h=>by
 simp only[k150]at h
 split at h
 ·simp only[Option.some.injEq,Prod.mk.injEq,decide_eq_true_eq]at h
  obtain⟨h0,rfl,rfl⟩:=h
  exact Zod _ h0
 ·cases h
def k182:Ctr:=⟨182,0,fun _ a=>match a with |[.str s]=>some (decide (s.length≤1000000), .bool (ZaU s),none) |_=>none⟩
theorem ZtP:k182.OK Tryz.prog:=fun pa args r fr h=>by
 simp only[k182]at h
 split at h
 ·simp only[Option.some.injEq,Prod.mk.injEq,decide_eq_true_eq]at h
  obtain⟨h0,rfl,rfl⟩:=h
  exact Zo7 _ h0
 ·cases h
def k151:Ctr:=⟨151,0,fun _ a=>match a with |[.list (.big .str xs), .str s]=>some (decide (xs.length≤1000000), .bool (Zhz xs s),none) |_=>none⟩
theorem ZwI:k151.OK Tryz.prog:=fun pa args r fr h=>by
 simp only[k151]at h
 split at h
 ·simp only[Option.some.injEq,Prod.mk.injEq,decide_eq_true_eq]at h
  obtain⟨h0,rfl,rfl⟩:=h
  exact Zqx _ _ h0
 ·cases h
def k67:Ctr:=⟨67,0,fun _ a=>match a with |[.list (.ints .i64 xs)]=>some (decide (xs.length≤1000000), .int .i64 (Zai xs),none) |_=>none⟩
theorem ZAy:k67.OK Tryz.prog:=fun pa args r fr h=>by
 simp only[k67]at h
 split at h
 ·simp only[Option.some.injEq,Prod.mk.injEq,decide_eq_true_eq]at h
  obtain⟨h0,rfl,rfl⟩:=h
  exact Znv _ h0
 ·cases h
def B1:List Ctr:=[k41,k82,k68,k161,k150,k182,k151,k67]
theorem Zlw:ZaD Tryz.prog B1:=⟨ZAo,⟨Zz7,⟨ZBa,⟨Zu9,⟨Zuy,⟨ZtP,⟨ZwI,⟨ZAy,trivial⟩⟩⟩⟩⟩⟩⟩⟩
end Go.Proofs.YtkeoeooghhjibaaGreatDoor
/- Paths of functions, printed by the explorer (Gx). No condition. -/
namespace Go.Proofs.YtkeoeooghhjibaaGreatDoor
set_option maxRecDepth 100000
set_option linter.unusedVariables false
def ZsV(n m:Int):AFrame:={ fn:=158,N:=13,env:=[(0,AV.int .i64 n),(1,AV.int .i64 m)],todo:=[.code a158.code],defs:=[],rnd:=none,ret:=false,res:=[ARes.tmp 4] }
def ZAP(n m:Int):List AFrame:=[(ZsV n m)]
theorem ZqC(n m:Int):Zar tab 158 [AV.int .i64 n,AV.int .i64 m]=some (ZsV n m):=rfl
theorem ZAT(A:Ar)(n m:Int):Za0 A tab B1 18 [true,true,true,true,true] 158 (ZAP n m) []=
 some (tr [11,4] [A.eq n (-1)],
  AV.bool true,none):=by kernel_rfl
theorem ZAH(A:Ar)(n m:Int):Za0 A tab B1 18 [false,false,false,false,false] 158 (ZAP n m) []=
 some (tr [6,4,4] [A.inR .i64 (A.sub m 1),!A.eq n (-1)],
  AV.bool (Zab n 0 (A.sub m 1)),none):=by kernel_rfl
def Ztg(ms ks rs:List AV)(i:Int):AFrame:={ fn:=160,N:=9,env:=[(0,AV.int .i64 i),(1,AV.eptr (AV.agg (Row.gen [.list (Row.big .str ms), .list (Row.big (.agg [.str, .int .i64]) ks), .list (Row.big (.agg [.str, .int .i64, .int .i64, .int .i64, .int .i64]) rs)])) 0)],todo:=[.code a160.code],defs:=[],rnd:=none,ret:=false,res:=[ARes.tmp 3] }
def ZFU(ms ks rs:List AV)(i:Int):List AFrame:=[(Ztg ms ks rs i)]
theorem Zsh(ms ks rs:List AV)(i:Int):Zar tab 160 [AV.int .i64 i,AV.eptr (AV.agg (Row.gen [.list (Row.big .str ms), .list (Row.big (.agg [.str, .int .i64]) ks), .list (Row.big (.agg [.str, .int .i64, .int .i64, .int .i64, .int .i64]) rs)])) 0]=some (Ztg ms ks rs i):=rfl
theorem ZAq(A:Ar)(ms ks rs:List AV)(i:Int):Za0 A tab B1 14 [] 160 (ZFU ms ks rs i) []=
 some (tr [3,4] [Zag (Zag (A.le 0 i) (Nat.blt (A.nat i) (A.lenA ms))) true],
  AV.str (AV.toS (A.nthA ms (A.nat i))),none):=by kernel_rfl
def Zsz(ms ks rs:List AV)(i:Int):AFrame:={ fn:=162,N:=10,env:=[(0,AV.int .i64 i),(1,AV.eptr (AV.agg (Row.gen [.list (Row.big .str ms), .list (Row.big (.agg [.str, .int .i64]) ks), .list (Row.big (.agg [.str, .int .i64, .int .i64, .int .i64, .int .i64]) rs)])) 0)],todo:=[.code a162.code],defs:=[],rnd:=none,ret:=false,res:=[ARes.tmp 3] }
def ZDi(ms ks rs:List AV)(i:Int):List AFrame:=[(Zsz ms ks rs i)]
theorem Zrf(ms ks rs:List AV)(i:Int):Zar tab 162 [AV.int .i64 i,AV.eptr (AV.agg (Row.gen [.list (Row.big .str ms), .list (Row.big (.agg [.str, .int .i64]) ks), .list (Row.big (.agg [.str, .int .i64, .int .i64, .int .i64, .int .i64]) rs)])) 0]=some (Zsz ms ks rs i):=rfl
theorem ZCU(A:Ar)(ms ks rs:List AV)(i:Int):Za0 A tab B1 16 [] 162 (ZDi ms ks rs i) []=
 some (tr [4,4] [Zag (Zag (A.le 0 i) (Nat.blt (A.nat i) (A.lenA ks))) true],
  AV.str ((A.nthA ks (A.nat i)).cellAt 0).toS,none):=by kernel_rfl
def Zsw(ms ks rs:List AV)(i:Int):AFrame:={ fn:=164,N:=10,env:=[(0,AV.int .i64 i),(1,AV.eptr (AV.agg (Row.gen [.list (Row.big .str ms), .list (Row.big (.agg [.str, .int .i64]) ks), .list (Row.big (.agg [.str, .int .i64, .int .i64, .int .i64, .int .i64]) rs)])) 0)],todo:=[.code a164.code],defs:=[],rnd:=none,ret:=false,res:=[ARes.tmp 3] }
def ZEZ(ms ks rs:List AV)(i:Int):List AFrame:=[(Zsw ms ks rs i)]
theorem ZqY(ms ks rs:List AV)(i:Int):Zar tab 164 [AV.int .i64 i,AV.eptr (AV.agg (Row.gen [.list (Row.big .str ms), .list (Row.big (.agg [.str, .int .i64]) ks), .list (Row.big (.agg [.str, .int .i64, .int .i64, .int .i64, .int .i64]) rs)])) 0]=some (Zsw ms ks rs i):=rfl
theorem Zy2(A:Ar)(ms ks rs:List AV)(i:Int):Za0 A tab B1 16 [] 164 (ZEZ ms ks rs i) []=
 some (tr [4,4] [Zag (Zag (A.le 0 i) (Nat.blt (A.nat i) (A.lenA rs))) true],
  AV.str ((A.nthA rs (A.nat i)).cellAt 0).toS,none):=by kernel_rfl
def ZxW(xs:List AV):AFrame:={ fn:=75,N:=6,env:=[(0,AV.list (Row.big .str xs))],todo:=[.code a75.code],defs:=[],rnd:=none,ret:=false,res:=[ARes.tmp 2] }
def ZIh(xs:List AV):List AFrame:=[(ZxW xs)]
theorem Zv0(xs:List AV):Zar tab 75 [AV.list (Row.big .str xs)]=some (ZxW xs):=rfl
theorem ZEQ(A:Ar)(xs:List AV):Za0 A tab B1 12 [] 75 (ZIh xs) []=
 some (tr [2,3] [Nat.ble (A.lenA xs) 4294967296],
  AV.list (Row.big .str xs),none):=by kernel_rfl
end Go.Proofs.YtkeoeooghhjibaaGreatDoor
/- Contracts as a list. No condition. -/
namespace Go.Proofs.YtkeoeooghhjibaaGreatDoor
def ZhD(n m:Int):Bool:=if n= -1 then true else Zab n 0 (m-1)
def Za8(ms:List AV)(i:Int):List UInt8:=(ms.getD i.toNat .top).toS
def Zay(ks:List AV)(i:Int):List UInt8:=((ks.getD i.toNat .top).cellAt 0).toS
theorem Zrd(n m:Int)(h: -1000000≤m∧m≤1000000):Zao Tryz.prog 158 [.int .i64 n, .int .i64 m] (.bool (ZhD n m)) none:=
 start (ZqC n m) fun C hC=>by
  by_cases h1:n= -1
  ·exact fin hC Zlw (ZAT std n m) (by simp[h1]) (by simp[ZhD,h1]) rfl
  ·exact fin hC Zlw (ZAH std n m) (by simp[h1];omega) (by simp[ZhD,h1]) rfl
theorem Zp7(ms ks rs:List AV)(i:Int)(h:0≤i∧i<ms.length):Zao Tryz.prog 160 [.int .i64 i, .eptr (.agg (.gen [.list (.big .str ms), .list (.big (.agg [.str, .int .i64]) ks), .list (.big (.agg [.str, .int .i64, .int .i64, .int .i64, .int .i64]) rs)])) 0] (.str (Za8 ms i)) none:=
 start (Zsh ms ks rs i) fun C hC=>fin hC Zlw (ZAq std ms ks rs i) (by simp;omega) rfl rfl
theorem Zol(ms ks rs:List AV)(i:Int)(h:0≤i∧i<ks.length):Zao Tryz.prog 162 [.int .i64 i, .eptr (.agg (.gen [.list (.big .str ms), .list (.big (.agg [.str, .int .i64]) ks), .list (.big (.agg [.str, .int .i64, .int .i64, .int .i64, .int .i64]) rs)])) 0] (.str (Zay ks i)) none:=
 start (Zrf ms ks rs i) fun C hC=>fin hC Zlw (ZCU std ms ks rs i) (by simp;omega) rfl rfl
theorem Zpy(ms ks rs:List AV)(i:Int)(h:0≤i∧i<rs.length):Zao Tryz.prog 164 [.int .i64 i, .eptr (.agg (.gen [.list (.big .str ms), .list (.big (.agg [.str, .int .i64]) ks), .list (.big (.agg [.str, .int .i64, .int .i64, .int .i64, .int .i64]) rs)])) 0] (.str (Zay rs i)) none:=
 start (ZqY ms ks rs i) fun C hC=>fin hC Zlw (Zy2 std ms ks rs i) (by simp;omega) rfl rfl
theorem Zov(xs:List AV)(h:xs.length≤1000000):Zao Tryz.prog 75 [.list (.big .str xs)] (.list (.big .str xs)) none:=
 start (Zv0 xs) fun C hC=>fin hC Zlw (ZEQ std xs) (by simp;omega) rfl rfl
def k158:Ctr:=⟨158,0,fun _ a=>match a with |[.int .i64 n, .int .i64 m]=>some (decide (-1000000≤m∧m≤1000000), .bool (ZhD n m),none) |_=>none⟩
theorem Ztl:k158.OK Tryz.prog:=fun pa args r fr h=>by
 simp only[k158]at h
 split at h
 ·simp only[Option.some.injEq,Prod.mk.injEq,decide_eq_true_eq]at h
  obtain⟨h0,rfl,rfl⟩:=h
  exact Zrd _ _ h0
 ·cases h
def k160:Ctr:=⟨160,0,fun _ a=>match a with |[.int .i64 i, .eptr (.agg (.gen [.list (.big .str ms), .list (.big (.agg [.str, .int .i64]) ks), .list (.big (.agg [.str, .int .i64, .int .i64, .int .i64, .int .i64]) rs)])) 0]=>some (decide (0≤i∧i<ms.length), .str (Za8 ms i),none) |_=>none⟩
theorem ZwP:k160.OK Tryz.prog:=fun pa args r fr h=>by
 simp only[k160]at h
 split at h
 ·simp only[Option.some.injEq,Prod.mk.injEq,decide_eq_true_eq]at h
  obtain⟨h0,rfl,rfl⟩:=h
  exact Zp7 _ _ _ _ h0
 ·cases h
def k162:Ctr:=⟨162,0,fun _ a=>match a with |[.int .i64 i, .eptr (.agg (.gen [.list (.big .str ms), .list (.big (.agg [.str, .int .i64]) ks), .list (.big (.agg [.str, .int .i64, .int .i64, .int .i64, .int .i64]) rs)])) 0]=>some (decide (0≤i∧i<ks.length), .str (Zay ks i),none) |_=>none⟩
theorem Zvv:k162.OK Tryz.prog:=fun pa args r fr h=>by
 simp only[k162]at h
 split at h
 ·simp only[Option.some.injEq,Prod.mk.injEq,decide_eq_true_eq]at h
  obtain⟨h0,rfl,rfl⟩:=h
  exact Zol _ _ _ _ h0
 ·cases h
def k164:Ctr:=⟨164,0,fun _ a=>match a with |[.int .i64 i, .eptr (.agg (.gen [.list (.big .str ms), .list (.big (.agg [.str, .int .i64]) ks), .list (.big (.agg [.str, .int .i64, .int .i64, .int .i64, .int .i64]) rs)])) 0]=>some (decide (0≤i∧i<rs.length), .str (Zay rs i),none) |_=>none⟩
theorem Zwu:k164.OK Tryz.prog:=fun pa args r fr h=>by
 simp only[k164]at h
 split at h
 ·simp only[Option.some.injEq,Prod.mk.injEq,decide_eq_true_eq]at h
  obtain⟨h0,rfl,rfl⟩:=h
  exact Zpy _ _ _ _ h0
 ·cases h
def k75:Ctr:=⟨75,0,fun _ a=>match a with |[.list (.big .str xs)]=>some (decide (xs.length≤1000000), .list (.big .str xs),none) |_=>none⟩
theorem ZCv:k75.OK Tryz.prog:=fun pa args r fr h=>by
 simp only[k75]at h
 split at h
 ·simp only[Option.some.injEq,Prod.mk.injEq,decide_eq_true_eq]at h
  obtain⟨h0,rfl,rfl⟩:=h
  exact Zov _ h0
 ·cases h
def B2:List Ctr:=[k158,k160,k162,k164,k75]++B1
theorem ZhI:ZaD Tryz.prog B2:=⟨Ztl,⟨ZwP,⟨Zvv,⟨Zwu,⟨ZCv,Zlw⟩⟩⟩⟩⟩
end Go.Proofs.YtkeoeooghhjibaaGreatDoor
/- Paths of functions, printed by the explorer (Gx). No condition. -/
namespace Go.Proofs.YtkeoeooghhjibaaGreatDoor
set_option maxRecDepth 100000
set_option linter.unusedVariables false
def ZsE(ms ks rs:List AV)(i k:Int):AFrame:={ fn:=163,N:=16,env:=[(0,AV.int .i64 i),(1,AV.eptr (AV.fn 158 []) 0),(2,AV.eptr (AV.agg (Row.gen [.list (Row.big .str ms), .list (Row.big (.agg [.str, .int .i64]) ks), .list (Row.big (.agg [.str, .int .i64, .int .i64, .int .i64, .int .i64]) rs)])) 0),(3,AV.eptr (AV.int .i64 k) 0)],todo:=[.code a163.code],defs:=[],rnd:=none,ret:=false,res:=[ARes.tmp 5] }
def ZDS(ms ks rs:List AV)(i k:Int):List AFrame:=[(ZsE ms ks rs i k)]
theorem Zrq(ms ks rs:List AV)(i k:Int):Zar tab 163 [AV.int .i64 i,AV.eptr (AV.fn 158 []) 0,AV.eptr (AV.agg (Row.gen [.list (Row.big .str ms), .list (Row.big (.agg [.str, .int .i64]) ks), .list (Row.big (.agg [.str, .int .i64, .int .i64, .int .i64, .int .i64]) rs)])) 0,AV.eptr (AV.int .i64 k) 0]=some (ZsE ms ks rs i k):=rfl
theorem ZCO(A:Ar)(ms ks rs:List AV)(i k:Int):Za0 A tab B2 8 [] 163 (ZDS ms ks rs i k) []=
 some (tr [3,3,5] [decide (-1000000≤k∧k≤1000000),Zag (Zag (A.le 0 i) (Nat.blt (A.nat i) (A.lenA ks))) true],
  AV.int .i64 (Zaa (ZhD ((A.nthA ks (A.nat i)).cellAt 1).toI k) 6),none):=by kernel_rfl
def ZsB(ms ks rs:List AV)(i n m:Int):AFrame:={ fn:=165,N:=48,env:=[(0,AV.int .i64 i),(1,AV.eptr (AV.agg (Row.gen [.list (Row.big .str ms), .list (Row.big (.agg [.str, .int .i64]) ks), .list (Row.big (.agg [.str, .int .i64, .int .i64, .int .i64, .int .i64]) rs)])) 0),(2,AV.eptr (AV.int .i64 n) 0),(3,AV.eptr (AV.fn 158 []) 0),(4,AV.eptr (AV.int .i64 m) 0)],todo:=[.code a165.code],defs:=[],rnd:=none,ret:=false,res:=[ARes.tmp 6] }
def ZmX(ms ks rs:List AV)(i n m:Int):List AFrame:=[(ZsB ms ks rs i n m)]
theorem Zrl(ms ks rs:List AV)(i n m:Int):Zar tab 165 [AV.int .i64 i,AV.eptr (AV.agg (Row.gen [.list (Row.big .str ms), .list (Row.big (.agg [.str, .int .i64]) ks), .list (Row.big (.agg [.str, .int .i64, .int .i64, .int .i64, .int .i64]) rs)])) 0,AV.eptr (AV.int .i64 n) 0,AV.eptr (AV.fn 158 []) 0,AV.eptr (AV.int .i64 m) 0]=some (ZsB ms ks rs i n m):=rfl
theorem ZAh(A:Ar)(ms ks rs:List AV)(i n m:Int):Za0 A tab B2 18 [true,true,true] 165 (ZmX ms ks rs i n m) []=
 some (tr [2,0,5,10,4,2,4,2,6,4] [decide (List.length [Zaa (ZhD ((A.nthA rs (A.nat i)).cellAt 3).toI n) 6,Zaa (Zab ((A.nthA rs (A.nat i)).cellAt 4).toI 1 1000000) 2,0]≤1000000),List.all [AV.int .i64 (Zaa (ZhD ((A.nthA rs (A.nat i)).cellAt 3).toI n) 6),AV.int .i64 (Zaa (Zab ((A.nthA rs (A.nat i)).cellAt 4).toI 1 1000000) 2),AV.int .i64 0] fun x=>AV.bx x&&Nat.beq (Zae A x) 1,A.not (A.eq ((A.nthA rs (A.nat i)).cellAt 3).toI (-1)),decide (-1000000≤n∧n≤1000000),ZhD ((A.nthA rs (A.nat i)).cellAt 2).toI m,decide (-1000000≤m∧m≤1000000),Zab ((A.nthA rs (A.nat i)).cellAt 1).toI 0 (A.sub n 1),A.inR .i64 (A.sub n 1),Zag (Zag (A.le 0 i) (Nat.blt (A.nat i) (A.lenA rs))) true],
  AV.int .i64 (Zai [Zaa (ZhD ((A.nthA rs (A.nat i)).cellAt 3).toI n) 6,Zaa (Zab ((A.nthA rs (A.nat i)).cellAt 4).toI 1 1000000) 2,0]),none):=by kernel_rfl
theorem ZB6(A:Ar)(ms ks rs:List AV)(i n m:Int):Za0 A tab B2 18 [true,true,false] 165 (ZmX ms ks rs i n m) []=
 some (tr [2,0,5,10,4,2,4,2,6,4] [decide (List.length [Zaa (ZhD ((A.nthA rs (A.nat i)).cellAt 3).toI n) 6,Zaa (Zab ((A.nthA rs (A.nat i)).cellAt 4).toI 1 1000000) 2,Zaa (A.eq ((A.nthA rs (A.nat i)).cellAt 4).toI 1) 3]≤1000000),List.all [AV.int .i64 (Zaa (ZhD ((A.nthA rs (A.nat i)).cellAt 3).toI n) 6),AV.int .i64 (Zaa (Zab ((A.nthA rs (A.nat i)).cellAt 4).toI 1 1000000) 2),AV.int .i64 (Zaa (A.eq ((A.nthA rs (A.nat i)).cellAt 4).toI 1) 3)] fun x=>AV.bx x&&Nat.beq (Zae A x) 1,!A.not (A.eq ((A.nthA rs (A.nat i)).cellAt 3).toI (-1)),decide (-1000000≤n∧n≤1000000),ZhD ((A.nthA rs (A.nat i)).cellAt 2).toI m,decide (-1000000≤m∧m≤1000000),Zab ((A.nthA rs (A.nat i)).cellAt 1).toI 0 (A.sub n 1),A.inR .i64 (A.sub n 1),Zag (Zag (A.le 0 i) (Nat.blt (A.nat i) (A.lenA rs))) true],
  AV.int .i64 (Zai [Zaa (ZhD ((A.nthA rs (A.nat i)).cellAt 3).toI n) 6,Zaa (Zab ((A.nthA rs (A.nat i)).cellAt 4).toI 1 1000000) 2,Zaa (A.eq ((A.nthA rs (A.nat i)).cellAt 4).toI 1) 3]),none):=by kernel_rfl
theorem ZAs(A:Ar)(ms ks rs:List AV)(i n m:Int):Za0 A tab B2 18 [true,false,true] 165 (ZmX ms ks rs i n m) []=
 some (tr [2,0,5,15,2,4,2,6,4] [decide (List.length [6,Zaa (Zab ((A.nthA rs (A.nat i)).cellAt 4).toI 1 1000000) 2,0]≤1000000),List.all [AV.int .i64 6,AV.int .i64 (Zaa (Zab ((A.nthA rs (A.nat i)).cellAt 4).toI 1 1000000) 2),AV.int .i64 0] fun x=>AV.bx x&&Nat.beq (Zae A x) 1,A.not (A.eq ((A.nthA rs (A.nat i)).cellAt 3).toI (-1)),!ZhD ((A.nthA rs (A.nat i)).cellAt 2).toI m,decide (-1000000≤m∧m≤1000000),Zab ((A.nthA rs (A.nat i)).cellAt 1).toI 0 (A.sub n 1),A.inR .i64 (A.sub n 1),Zag (Zag (A.le 0 i) (Nat.blt (A.nat i) (A.lenA rs))) true],
  AV.int .i64 (Zai [6,Zaa (Zab ((A.nthA rs (A.nat i)).cellAt 4).toI 1 1000000) 2,0]),none):=by kernel_rfl
theorem ZyT(A:Ar)(ms ks rs:List AV)(i n m:Int):Za0 A tab B2 18 [true,false,false] 165 (ZmX ms ks rs i n m) []=
 some (tr [2,0,5,15,2,4,2,6,4] [decide (List.length [6,Zaa (Zab ((A.nthA rs (A.nat i)).cellAt 4).toI 1 1000000) 2,Zaa (A.eq ((A.nthA rs (A.nat i)).cellAt 4).toI 1) 3]≤1000000),List.all [AV.int .i64 6,AV.int .i64 (Zaa (Zab ((A.nthA rs (A.nat i)).cellAt 4).toI 1 1000000) 2),AV.int .i64 (Zaa (A.eq ((A.nthA rs (A.nat i)).cellAt 4).toI 1) 3)] fun x=>AV.bx x&&Nat.beq (Zae A x) 1,!A.not (A.eq ((A.nthA rs (A.nat i)).cellAt 3).toI (-1)),!ZhD ((A.nthA rs (A.nat i)).cellAt 2).toI m,decide (-1000000≤m∧m≤1000000),Zab ((A.nthA rs (A.nat i)).cellAt 1).toI 0 (A.sub n 1),A.inR .i64 (A.sub n 1),Zag (Zag (A.le 0 i) (Nat.blt (A.nat i) (A.lenA rs))) true],
  AV.int .i64 (Zai [6,Zaa (Zab ((A.nthA rs (A.nat i)).cellAt 4).toI 1 1000000) 2,Zaa (A.eq ((A.nthA rs (A.nat i)).cellAt 4).toI 1) 3]),none):=by kernel_rfl
theorem ZAS(A:Ar)(ms ks rs:List AV)(i n m:Int):Za0 A tab B2 18 [false,false,true] 165 (ZmX ms ks rs i n m) []=
 some (tr [2,0,5,23,2,6,4] [decide (List.length [6,Zaa (Zab ((A.nthA rs (A.nat i)).cellAt 4).toI 1 1000000) 2,0]≤1000000),List.all [AV.int .i64 6,AV.int .i64 (Zaa (Zab ((A.nthA rs (A.nat i)).cellAt 4).toI 1 1000000) 2),AV.int .i64 0] fun x=>AV.bx x&&Nat.beq (Zae A x) 1,A.not (A.eq ((A.nthA rs (A.nat i)).cellAt 3).toI (-1)),!Zab ((A.nthA rs (A.nat i)).cellAt 1).toI 0 (A.sub n 1),A.inR .i64 (A.sub n 1),Zag (Zag (A.le 0 i) (Nat.blt (A.nat i) (A.lenA rs))) true],
  AV.int .i64 (Zai [6,Zaa (Zab ((A.nthA rs (A.nat i)).cellAt 4).toI 1 1000000) 2,0]),none):=by kernel_rfl
theorem Zx4(A:Ar)(ms ks rs:List AV)(i n m:Int):Za0 A tab B2 18 [false,false,false] 165 (ZmX ms ks rs i n m) []=
 some (tr [2,0,5,23,2,6,4] [decide (List.length [6,Zaa (Zab ((A.nthA rs (A.nat i)).cellAt 4).toI 1 1000000) 2,Zaa (A.eq ((A.nthA rs (A.nat i)).cellAt 4).toI 1) 3]≤1000000),List.all [AV.int .i64 6,AV.int .i64 (Zaa (Zab ((A.nthA rs (A.nat i)).cellAt 4).toI 1 1000000) 2),AV.int .i64 (Zaa (A.eq ((A.nthA rs (A.nat i)).cellAt 4).toI 1) 3)] fun x=>AV.bx x&&Nat.beq (Zae A x) 1,!A.not (A.eq ((A.nthA rs (A.nat i)).cellAt 3).toI (-1)),!Zab ((A.nthA rs (A.nat i)).cellAt 1).toI 0 (A.sub n 1),A.inR .i64 (A.sub n 1),Zag (Zag (A.le 0 i) (Nat.blt (A.nat i) (A.lenA rs))) true],
  AV.int .i64 (Zai [6,Zaa (Zab ((A.nthA rs (A.nat i)).cellAt 4).toI 1 1000000) 2,Zaa (A.eq ((A.nthA rs (A.nat i)).cellAt 4).toI 1) 3]),none):=by kernel_rfl
def ZxQ(ms ks rs:List AV):AFrame:={ fn:=25,N:=15,env:=[(0,AV.agg (Row.gen [.list (Row.big .str ms), .list (Row.big (.agg [.str, .int .i64]) ks), .list (Row.big (.agg [.str, .int .i64, .int .i64, .int .i64, .int .i64]) rs)]))],todo:=[.code a25.code],defs:=[],rnd:=none,ret:=false,res:=[ARes.cell 2 true 3] }
def ZIz(ms ks rs:List AV):List AFrame:=[(ZxQ ms ks rs)]
theorem Zv1(ms ks rs:List AV):Zar tab 25 [AV.agg (Row.gen [.list (Row.big .str ms), .list (Row.big (.agg [.str, .int .i64]) ks), .list (Row.big (.agg [.str, .int .i64, .int .i64, .int .i64, .int .i64]) rs)])]=some (ZxQ ms ks rs):=rfl
theorem ZEF(A:Ar)(ms ks rs:List AV):Za0 A tab B2 9 [] 25 (ZIz ms ks rs) []=
 some (tr [3,3,3,4] [Nat.ble (A.lenA rs) 4294967296,Nat.ble (A.lenA ks) 4294967296,decide (List.length ms≤1000000)],
  AV.agg (Row.gen [.list (Row.big .str ms), .list (Row.big (.agg [.str, .int .i64]) ks), .list (Row.big (.agg [.str, .int .i64, .int .i64, .int .i64, .int .i64]) rs)]),none):=by kernel_rfl
def ZyJ(l:List AV):AFrame:={ fn:=26,N:=6,env:=[(0,AV.list (Row.big (.agg [.int .i64, .int .i64, .int .i64]) l))],todo:=[.code a26.code],defs:=[],rnd:=none,ret:=false,res:=[ARes.tmp 2] }
def ZIr(l:List AV):List AFrame:=[(ZyJ l)]
theorem Zxp(l:List AV):Zar tab 26 [AV.list (Row.big (.agg [.int .i64, .int .i64, .int .i64]) l)]=some (ZyJ l):=rfl
theorem ZFB(A:Ar)(l:List AV):Za0 A tab B2 12 [] 26 (ZIr l) []=
 some (tr [2,3] [Nat.ble (A.lenA l) 4294967296],
  AV.list (Row.big (.agg [.int .i64, .int .i64, .int .i64]) l),none):=by kernel_rfl
end Go.Proofs.YtkeoeooghhjibaaGreatDoor
/- Contracts as a list. No condition. -/
namespace Go.Proofs.YtkeoeooghhjibaaGreatDoor
def Zaj(xs:List AV)(i:Int)(j:Nat):Int:=((xs.getD i.toNat .top).cellAt j).toI
def Zc0(ks:List AV)(i k:Int):Int:=Zaa (ZhD (Zaj ks i 1) k) 6
def ZbT(rs:List AV)(i n m:Int):Int:=Zai [Zaa (Zab (Zaj rs i 1) 0 (n-1)&&ZhD (Zaj rs i 2) m&&ZhD (Zaj rs i 3) n) 6,Zaa (Zab (Zaj rs i 4) 1 1000000) 2,Zaa (decide (Zaj rs i 3≠ -1∨Zaj rs i 4=1)) 3]
theorem Zp6(ms ks rs:List AV)(i k:Int)(h:(0≤i∧i<ks.length)∧ -1000000≤k∧k≤1000000):Zao Tryz.prog 163 [.int .i64 i, .eptr (.fn 158 []) 0, .eptr (.agg (.gen [.list (.big .str ms), .list (.big (.agg [.str, .int .i64]) ks), .list (.big (.agg [.str, .int .i64, .int .i64, .int .i64, .int .i64]) rs)])) 0, .eptr (.int .i64 k) 0] (.int .i64 (Zc0 ks i k)) none:=
 start (Zrq ms ks rs i k) fun C hC=>fin hC ZhI (ZCO std ms ks rs i k) (by simp;omega) rfl rfl
theorem ZoQ(ms ks rs:List AV)(i n m:Int)(h:(0≤i∧i<rs.length)∧(-1000000≤n∧n≤1000000)∧ -1000000≤m∧m≤1000000):Zao Tryz.prog 165 [.int .i64 i, .eptr (.agg (.gen [.list (.big .str ms), .list (.big (.agg [.str, .int .i64]) ks), .list (.big (.agg [.str, .int .i64, .int .i64, .int .i64, .int .i64]) rs)])) 0, .eptr (.int .i64 n) 0, .eptr (.fn 158 []) 0, .eptr (.int .i64 m) 0] (.int .i64 (ZbT rs i n m)) none:=
 start (Zrl ms ks rs i n m) fun C hC=>by
  have hb:∀x y z:Int,([AV.int .i64 x,AV.int .i64 y,AV.int .i64 z].all fun x=>AV.bx x&&Nat.beq (Zae std x) 1)=true:=fun _ _ _=>rfl
  have e1:((rs.getD i.toNat .top).cellAt 1).toI=Zaj rs i 1:=rfl
  have e2:((rs.getD i.toNat .top).cellAt 2).toI=Zaj rs i 2:=rfl
  have e3:((rs.getD i.toNat .top).cellAt 3).toI=Zaj rs i 3:=rfl
  have e4:((rs.getD i.toNat .top).cellAt 4).toI=Zaj rs i 4:=rfl
  have hi:i.toNat<rs.length:=by omega
  by_cases h1:Zab (Zaj rs i 1) 0 (n-1)=true
  ·by_cases h2:ZhD (Zaj rs i 2) m=true
   ·by_cases h3:Zaj rs i 3= -1
    ·exact fin hC ZhI (ZB6 std ms ks rs i n m) (by simp only[hb];simp[-List.getD_eq_getElem?_getD,e1,e2,e3,e4,h1,h2,h3];omega) (by simp[-List.getD_eq_getElem?_getD,ZbT,e1,e2,e3,e4,h1,h2,h3]) rfl
    ·exact fin hC ZhI (ZAh std ms ks rs i n m) (by simp only[hb];simp[-List.getD_eq_getElem?_getD,e1,e2,e3,e4,h1,h2,h3];omega) (by simp[-List.getD_eq_getElem?_getD,ZbT,e1,e2,e3,e4,h1,h2,h3,Zaa]) rfl
   ·by_cases h3:Zaj rs i 3= -1
    ·exact fin hC ZhI (ZyT std ms ks rs i n m) (by simp only[hb];simp[-List.getD_eq_getElem?_getD,e1,e2,e3,e4,h1,h2,h3];omega) (by simp[-List.getD_eq_getElem?_getD,ZbT,e1,e2,e3,e4,h1,h2,h3,Zaa]) rfl
    ·exact fin hC ZhI (ZAs std ms ks rs i n m) (by simp only[hb];simp[-List.getD_eq_getElem?_getD,e1,e2,e3,e4,h1,h2,h3];omega) (by simp[-List.getD_eq_getElem?_getD,ZbT,e1,e2,e3,e4,h1,h2,h3,Zaa]) rfl
  ·by_cases h3:Zaj rs i 3= -1
   ·exact fin hC ZhI (Zx4 std ms ks rs i n m) (by simp only[hb];simp[-List.getD_eq_getElem?_getD,e1,e2,e3,e4,h1,h3];omega) (by simp[-List.getD_eq_getElem?_getD,ZbT,e1,e2,e3,e4,h1,h3,Zaa]) rfl
   ·exact fin hC ZhI (ZAS std ms ks rs i n m) (by simp only[hb];simp[-List.getD_eq_getElem?_getD,e1,e2,e3,e4,h1,h3];omega) (by simp[-List.getD_eq_getElem?_getD,ZbT,e1,e2,e3,e4,h1,h3,Zaa]) rfl
theorem ZrL(ms ks rs:List AV)(h:ms.length≤1000000∧ks.length≤1000000∧rs.length≤1000000):Zao Tryz.prog 25 [.agg (.gen [.list (.big .str ms), .list (.big (.agg [.str, .int .i64]) ks), .list (.big (.agg [.str, .int .i64, .int .i64, .int .i64, .int .i64]) rs)])] (.agg (.gen [.list (.big .str ms), .list (.big (.agg [.str, .int .i64]) ks), .list (.big (.agg [.str, .int .i64, .int .i64, .int .i64, .int .i64]) rs)])) none:=
 start (Zv1 ms ks rs) fun C hC=>fin hC ZhI (ZEF std ms ks rs) (by simp;omega) rfl rfl
theorem Zql(l:List AV)(h:l.length≤1000000):Zao Tryz.prog 26 [.list (.big (.agg [.int .i64, .int .i64, .int .i64]) l)] (.list (.big (.agg [.int .i64, .int .i64, .int .i64]) l)) none:=
 start (Zxp l) fun C hC=>fin hC ZhI (ZFB std l) (by simp;omega) rfl rfl
def k163:Ctr:=⟨163,0,fun _ a=>match a with |[.int .i64 i, .eptr (.fn 158 []) 0, .eptr (.agg (.gen [.list (.big .str ms), .list (.big (.agg [.str, .int .i64]) ks), .list (.big (.agg [.str, .int .i64, .int .i64, .int .i64, .int .i64]) rs)])) 0, .eptr (.int .i64 k) 0]=>some (decide ((0≤i∧i<ks.length)∧ -1000000≤k∧k≤1000000), .int .i64 (Zc0 ks i k),none) |_=>none⟩
theorem ZvL:k163.OK Tryz.prog:=fun pa args r fr h=>by
 simp only[k163]at h
 split at h
 ·simp only[Option.some.injEq,Prod.mk.injEq,decide_eq_true_eq]at h
  obtain⟨h0,rfl,rfl⟩:=h
  exact Zp6 _ _ _ _ _ h0
 ·cases h
def k165:Ctr:=⟨165,0,fun _ a=>match a with |[.int .i64 i, .eptr (.agg (.gen [.list (.big .str ms), .list (.big (.agg [.str, .int .i64]) ks), .list (.big (.agg [.str, .int .i64, .int .i64, .int .i64, .int .i64]) rs)])) 0, .eptr (.int .i64 n) 0, .eptr (.fn 158 []) 0, .eptr (.int .i64 m) 0]=>some (decide ((0≤i∧i<rs.length)∧(-1000000≤n∧n≤1000000)∧ -1000000≤m∧m≤1000000), .int .i64 (ZbT rs i n m),none) |_=>none⟩
theorem ZuU:k165.OK Tryz.prog:=fun pa args r fr h=>by
 simp only[k165]at h
 split at h
 ·simp only[Option.some.injEq,Prod.mk.injEq,decide_eq_true_eq]at h
  obtain⟨h0,rfl,rfl⟩:=h
  exact ZoQ _ _ _ _ _ _ h0
 ·cases h
def k25:Ctr:=⟨25,0,fun _ a=>match a with |[.agg (.gen [.list (.big .str ms), .list (.big (.agg [.str, .int .i64]) ks), .list (.big (.agg [.str, .int .i64, .int .i64, .int .i64, .int .i64]) rs)])]=>some (decide (ms.length≤1000000∧ks.length≤1000000∧rs.length≤1000000), .agg (.gen [.list (.big .str ms), .list (.big (.agg [.str, .int .i64]) ks), .list (.big (.agg [.str, .int .i64, .int .i64, .int .i64, .int .i64]) rs)]),none) |_=>none⟩
theorem Zy9:k25.OK Tryz.prog:=fun pa args r fr h=>by
 simp only[k25]at h
 split at h
 ·simp only[Option.some.injEq,Prod.mk.injEq,decide_eq_true_eq]at h
  obtain⟨h0,rfl,rfl⟩:=h
  exact ZrL _ _ _ h0
 ·cases h
def k26:Ctr:=⟨26,0,fun _ a=>match a with |[.list (.big (.agg [.int .i64, .int .i64, .int .i64]) l)]=>some (decide (l.length≤1000000), .list (.big (.agg [.int .i64, .int .i64, .int .i64]) l),none) |_=>none⟩
theorem ZzR:k26.OK Tryz.prog:=fun pa args r fr h=>by
 simp only[k26]at h
 split at h
 ·simp only[Option.some.injEq,Prod.mk.injEq,decide_eq_true_eq]at h
  obtain⟨h0,rfl,rfl⟩:=h
  exact Zql _ h0
 ·cases h
def B3:List Ctr:=[k163,k165,k25,k26]++B2
theorem Za6:ZaD Tryz.prog B3:=⟨ZvL,⟨ZuU,⟨Zy9,⟨ZzR,ZhI⟩⟩⟩⟩
end Go.Proofs.YtkeoeooghhjibaaGreatDoor
/- Paths of functions, printed by the explorer (Gx). No condition. -/
namespace Go.Proofs.YtkeoeooghhjibaaGreatDoor
set_option maxRecDepth 100000
set_option linter.unusedVariables false
def Zpk(s:List UInt8):AFrame:={ fn:=151,N:=18,env:=[(0,AV.nils),(1,AV.str s)],todo:=[.code a151.code],defs:=[],rnd:=none,ret:=false,res:=[ARes.tmp 4] }
def ZzP(s:List UInt8):List AFrame:=[(Zpk s)]
theorem Zp0(s:List UInt8):Zar tab 151 [AV.nils,AV.str s]=some (Zpk s):=rfl
def Zf0(s:List UInt8):List AFrame:=[{ fn:=151,N:=18,env:=[(0,AV.nils),(1,AV.str s),(5,AV.int .i64 0)],todo:=.code (ACode.gh [] Zor)::Zs7,defs:=[],rnd:=none,ret:=false,res:=[ARes.tmp 4] }]
def ZeP(s:List UInt8):Zac:=[]
abbrev Zi6(s:List UInt8):List AFrame×Zac:=(Zf0 s,ZeP s)
theorem Zxo(A:Ar)(s:List UInt8):ZaC A tab B3 12 [] (ZzP s) []=
 some (tr [2] [],
  Zi6 (s)):=by kernel_rfl
theorem ZvQ(A:Ar)(s:List UInt8):Za0 A tab B3 16 [false] 151 (Zf0 s) (ZeP s)=
 some (tr [2,4] [!A.lt 0 (A.int 0)],
  AV.bool false,none):=by kernel_rfl
end Go.Proofs.YtkeoeooghhjibaaGreatDoor
