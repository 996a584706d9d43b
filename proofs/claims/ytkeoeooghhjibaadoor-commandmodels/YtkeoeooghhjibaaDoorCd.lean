/- Paths of functions, printed by the explorer (Gx). No condition. -/
import Derived.Test.YtkeoeooghhjibaaDoorTi
import Derived.KernelRfl
namespace Go.Proofs.YtkeoeooghhjibaaDoor
set_option maxRecDepth 100000
set_option linter.unusedVariables false
def Zr0(n:Int)(a:Int)(b:Int):AFrame:={ fn:=17,N:=15,env:=[(0,AV.int .i64 n),(1,AV.int .i64 a),(2,AV.int .i64 b)],todo:=[.code a17.code],defs:=[],rnd:=none,ret:=false,res:=[ARes.tmp 6] }
def Zwz(n:Int)(a:Int)(b:Int):List AFrame:=[(Zr0 n a b)]
theorem Zpz(n:Int)(a:Int)(b:Int):ZaD tab 17 [AV.int .i64 n,AV.int .i64 a,AV.int .i64 b]=some (Zr0 n a b):=rfl
theorem Zt0(A:Ar)(n a b:Int):ZaQ A tab E0 18 [true,true,true,true] 17 (Zwz n a b) []=
 some (tr [9,5] [A.le a n],
  AV.bool (A.le n b),none):=by kernel_rfl
theorem Zuz(A:Ar)(n a b:Int):ZaQ A tab E0 18 [false,false,false,false] 17 (Zwz n a b) []=
 some (tr [9,5] [!A.le a n],
  AV.bool false,none):=by kernel_rfl
def ZqW(n:Int)(a:Int)(b:Int):AFrame:={ fn:=26,N:=15,env:=[(0,AV.int .i64 n),(1,AV.int .i64 a),(2,AV.int .i64 b)],todo:=[.code a26.code],defs:=[],rnd:=none,ret:=false,res:=[ARes.tmp 6] }
def Zwk(n:Int)(a:Int)(b:Int):List AFrame:=[(ZqW n a b)]
theorem Zo5(n:Int)(a:Int)(b:Int):ZaD tab 26 [AV.int .i64 n,AV.int .i64 a,AV.int .i64 b]=some (ZqW n a b):=rfl
theorem Zur(A:Ar)(n a b:Int):ZaQ A tab E0 18 [true,true,true,true] 26 (Zwk n a b) []=
 some (tr [9,5] [A.le a n],
  AV.bool (A.le n b),none):=by kernel_rfl
theorem Zug(A:Ar)(n a b:Int):ZaQ A tab E0 18 [false,false,false,false] 26 (Zwk n a b) []=
 some (tr [9,5] [!A.le a n],
  AV.bool false,none):=by kernel_rfl
def Zr1(b:Bool)(e:Int):AFrame:={ fn:=32,N:=7,env:=[(0,AV.bool b),(1,AV.int .i64 e)],todo:=[.code a32.code],defs:=[],rnd:=none,ret:=false,res:=[ARes.tmp 4] }
def Zv6(b:Bool)(e:Int):List AFrame:=[(Zr1 b e)]
theorem Zoy(b:Bool)(e:Int):ZaD tab 32 [AV.bool b,AV.int .i64 e]=some (Zr1 b e):=rfl
theorem Zso(A:Ar)(b:Bool)(e:Int):ZaQ A tab E0 15 [true] 32 (Zv6 b e) []=
 some (tr [2,2] [b],
  AV.int .i64 0,none):=by kernel_rfl
theorem ZsQ(A:Ar)(b:Bool)(e:Int):ZaQ A tab E0 17 [false] 32 (Zv6 b e) []=
 some (tr [3,2] [!b],
  AV.int .i64 e,none):=by kernel_rfl
def Zr7(xs:List Int):AFrame:={ fn:=35,N:=15,env:=[(0,AV.list (.ints .i64 xs))],todo:=[.code a35.code],defs:=[],rnd:=none,ret:=false,res:=[ARes.tmp 2] }
def Zxj(xs:List Int):List AFrame:=[(Zr7 xs)]
theorem Zps(xs:List Int):ZaD tab 35 [AV.list (.ints .i64 xs)]=some (Zr7 xs):=rfl
def Zcs(xs:List Int)(n0 n1:Int):List AFrame:=[{ fn:=35,N:=15,env:=[(5,AV.list (.ints .i64 xs)),(6,AV.int .i64 n0),(7,AV.int .i64 n1)],todo:=.code (ACode.gh [] ZqB)::ZvR,defs:=[],rnd:=none,ret:=false,res:=[ARes.tmp 2] }]
def ZbX(xs:List Int)(n0:Int)(n1:Int):Zab:=[]
abbrev Zgw(xs:List Int)(n0:Int)(n1:Int):List AFrame×Zab:=(Zcs xs n0 n1,ZbX xs n0 n1)
theorem ZtC(A:Ar)(xs:List Int):Zau A tab E0 14 [] (Zxj xs) []=
 some (tr [4] [],
  Zgw (xs) (A.int (A.len xs)) (0)):=by kernel_rfl
theorem ZvC(A:Ar)(xs:List Int)(n0 n1:Int):ZaQ A tab E0 28 [true,true] 35 (Zcs xs n0 n1) (ZbX xs n0 n1)=
 some (tr [3,4,0,1] [A.not (A.eq (A.nth xs (A.nat n1)) 0),Zag (Zag (A.le 0 n1) (Nat.blt (A.nat n1) (A.len xs))) true,A.lt n1 n0],
  AV.int .i64 (A.nth xs (A.nat n1)),none):=by kernel_rfl
theorem Zvb(A:Ar)(xs:List Int)(n0 n1:Int):Zau A tab E0 30 [true,false] (Zcs xs n0 n1) (ZbX xs n0 n1)=
 some (tr [1,0,4,0,1] [A.inR .i64 (A.add n1 1),!A.not (A.eq (A.nth xs (A.nat n1)) 0),Zag (Zag (A.le 0 n1) (Nat.blt (A.nat n1) (A.len xs))) true,A.lt n1 n0],
  Zgw (xs) (n0) (A.add n1 1)):=by kernel_rfl
theorem Zvt(A:Ar)(xs:List Int)(n0 n1:Int):ZaQ A tab E0 13 [false] 35 (Zcs xs n0 n1) (ZbX xs n0 n1)=
 some (tr [2,1] [!A.lt n1 n0],
  AV.int .i64 0,none):=by kernel_rfl
def ZqY(xs:List AV)(s:List UInt8):AFrame:={ fn:=41,N:=18,env:=[(0,AV.list (Row.big .str xs)),(1,AV.str s)],todo:=[.code a41.code],defs:=[],rnd:=none,ret:=false,res:=[ARes.tmp 4] }
def ZxO(xs:List AV)(s:List UInt8):List AFrame:=[(ZqY xs s)]
theorem ZoE(xs:List AV)(s:List UInt8):ZaD tab 41 [AV.list (Row.big .str xs),AV.str s]=some (ZqY xs s):=rfl
def Zcv(xs:List AV)(s:List UInt8)(n0:Int):List AFrame:=[{ fn:=41,N:=18,env:=[(0,AV.list (Row.big .str xs)),(1,AV.str s),(5,AV.int .i64 n0)],todo:=.code (ACode.gh [] ZoK)::ZsG,defs:=[],rnd:=none,ret:=false,res:=[ARes.tmp 4] }]
def Zb0(xs:List AV)(s:List UInt8)(n0:Int):Zab:=[]
abbrev ZgA(xs:List AV)(s:List UInt8)(n0:Int):List AFrame×Zab:=(Zcv xs s n0,Zb0 xs s n0)
theorem Zvg(A:Ar)(xs:List AV)(s:List UInt8):Zau A tab E0 12 [] (ZxO xs s) []=
 some (tr [2] [],
  ZgA (xs) (s) (0)):=by kernel_rfl
theorem ZtV(A:Ar)(xs:List AV)(s:List UInt8)(n0:Int):ZaQ A tab E0 28 [true,true] 41 (Zcv xs s n0) (Zb0 xs s n0)=
 some (tr [2,3,2,4] [A.eqS (AV.toS (A.nthA xs (A.nat n0))) s,Zag (Zag (A.le 0 n0) (Nat.blt (A.nat n0) (A.lenA xs))) true,A.lt n0 (A.int (A.lenA xs))],
  AV.bool true,none):=by kernel_rfl
theorem Zuq(A:Ar)(xs:List AV)(s:List UInt8)(n0:Int):Zau A tab E0 32 [true,false] (Zcv xs s n0) (Zb0 xs s n0)=
 some (tr [1,1,3,2,4] [A.inR .i64 (A.add n0 1),!A.eqS (AV.toS (A.nthA xs (A.nat n0))) s,Zag (Zag (A.le 0 n0) (Nat.blt (A.nat n0) (A.lenA xs))) true,A.lt n0 (A.int (A.lenA xs))],
  ZgA (xs) (s) (A.add n0 1)):=by kernel_rfl
theorem ZuZ(A:Ar)(xs:List AV)(s:List UInt8)(n0:Int):ZaQ A tab E0 16 [false] 41 (Zcv xs s n0) (Zb0 xs s n0)=
 some (tr [2,4] [!A.lt n0 (A.int (A.lenA xs))],
  AV.bool false,none):=by kernel_rfl
def Zqz(s:List UInt8):AFrame:={ fn:=40,N:=55,env:=[(0,AV.str s)],todo:=[.code a40.code],defs:=[],rnd:=none,ret:=false,res:=[ARes.tmp 2] }
def Zuv(s:List UInt8):List AFrame:=[(Zqz s)]
theorem Zpx(s:List UInt8):ZaD tab 40 [AV.str s]=some (Zqz s):=rfl
def Zaq(s:List UInt8)(n0:Int):List AFrame:=[{ fn:=40,N:=55,env:=[(0,AV.str s),(3,AV.int .i64 n0)],todo:=.code (ACode.gh [] Zq5)::Zvr,defs:=[],rnd:=none,ret:=false,res:=[ARes.tmp 2] }]
def Zam(s:List UInt8)(n0:Int):Zab:=[]
abbrev ZaJ(s:List UInt8)(n0:Int):List AFrame×Zab:=(Zaq s n0,Zam s n0)
theorem Zt1(A:Ar)(s:List UInt8):ZaQ A tab E0 23 [true,true,true,true,true] 40 (Zuv s) []=
 some (tr [10,5] [A.lt (A.int (A.lenS s)) 1],
  AV.bool false,none):=by kernel_rfl
theorem ZtD(A:Ar)(s:List UInt8):ZaQ A tab E0 23 [false,false,false,false,true] 40 (Zuv s) []=
 some (tr [2,7,5] [A.lt 12 (A.int (A.lenS s)),!A.lt (A.int (A.lenS s)) 1],
  AV.bool false,none):=by kernel_rfl
theorem Zvn(A:Ar)(s:List UInt8):Zau A tab E0 27 [false,false,false,false,false] (Zuv s) []=
 some (tr [1,7,5] [!A.lt 12 (A.int (A.lenS s)),!A.lt (A.int (A.lenS s)) 1],
  ZaJ (s) (0)):=by kernel_rfl
theorem Zus(A:Ar)(s:List UInt8)(n0:Int):Zau A tab E0 71 [true,true,true,true,true,true,true,true,true,false,false,false,false,false,false] (Zaq s n0) (Zam s n0)=
 some (tr [1,21,15,6,4,2,4] [A.inR .i64 (A.add n0 1),!A.not true,A.le (A.nthS s (A.nat n0)) 122,A.le 97 (A.nthS s (A.nat n0)),Zag (A.le 0 n0) (Nat.blt (A.nat n0) (A.lenS s)),A.lt n0 (A.int (A.lenS s))],
  ZaJ (s) (A.add n0 1)):=by kernel_rfl
theorem ZuU(A:Ar)(s:List UInt8)(n0:Int):ZaQ A tab E0 67 [true,true,true,true,false,false,false,true,true,false,true,false,true,true,true,true,true,true,true,true,true,true,true] 40 (Zaq s n0) (Zam s n0)=
 some (tr [21,5,12,5,6,4,2,4] [A.eq n0 0,A.not (A.le (A.nthS s (A.nat n0)) 90),A.le 65 (A.nthS s (A.nat n0)),!A.le (A.nthS s (A.nat n0)) 122,A.le 97 (A.nthS s (A.nat n0)),Zag (A.le 0 n0) (Nat.blt (A.nat n0) (A.lenS s)),A.lt n0 (A.int (A.lenS s))],
  AV.bool false,none):=by kernel_rfl
theorem ZtQ(A:Ar)(s:List UInt8)(n0:Int):ZaQ A tab E0 67 [true,true,true,true,false,false,false,true,true,false,true,false,true,true,true,false,false,false,true,true,true,true,true,true,true,false,true,true,false,true,true] 40 (Zaq s n0) (Zam s n0)=
 some (tr [17,5,5,5,12,5,6,4,2,4] [A.lt (A.nthS s (A.nat n0)) 48,A.not (A.eq (A.nthS s (A.nat n0)) 45),!A.eq n0 0,A.not (A.le (A.nthS s (A.nat n0)) 90),A.le 65 (A.nthS s (A.nat n0)),!A.le (A.nthS s (A.nat n0)) 122,A.le 97 (A.nthS s (A.nat n0)),Zag (A.le 0 n0) (Nat.blt (A.nat n0) (A.lenS s)),A.lt n0 (A.int (A.lenS s))],
  AV.bool false,none):=by kernel_rfl
theorem Zvz(A:Ar)(s:List UInt8)(n0:Int):ZaQ A tab E0 67 [true,true,true,true,false,false,false,true,true,false,true,false,true,true,true,false,false,false,true,true,true,false,false,true,false,false,true,true,false,true,true] 40 (Zaq s n0) (Zam s n0)=
 some (tr [2,14,5,5,5,12,5,6,4,2,4] [A.lt 57 (A.nthS s (A.nat n0)),!A.lt (A.nthS s (A.nat n0)) 48,A.not (A.eq (A.nthS s (A.nat n0)) 45),!A.eq n0 0,A.not (A.le (A.nthS s (A.nat n0)) 90),A.le 65 (A.nthS s (A.nat n0)),!A.le (A.nthS s (A.nat n0)) 122,A.le 97 (A.nthS s (A.nat n0)),Zag (A.le 0 n0) (Nat.blt (A.nat n0) (A.lenS s)),A.lt n0 (A.int (A.lenS s))],
  AV.bool false,none):=by kernel_rfl
theorem Zu4(A:Ar)(s:List UInt8)(n0:Int):Zau A tab E0 71 [true,true,true,true,false,false,false,true,true,false,true,false,true,true,true,false,false,false,true,true,true,false,false,true,false,false,true,true,false,true,false] (Zaq s n0) (Zam s n0)=
 some (tr [1,1,14,5,5,5,12,5,6,4,2,4] [A.inR .i64 (A.add n0 1),!A.lt 57 (A.nthS s (A.nat n0)),!A.lt (A.nthS s (A.nat n0)) 48,A.not (A.eq (A.nthS s (A.nat n0)) 45),!A.eq n0 0,A.not (A.le (A.nthS s (A.nat n0)) 90),A.le 65 (A.nthS s (A.nat n0)),!A.le (A.nthS s (A.nat n0)) 122,A.le 97 (A.nthS s (A.nat n0)),Zag (A.le 0 n0) (Nat.blt (A.nat n0) (A.lenS s)),A.lt n0 (A.int (A.lenS s))],
  ZaJ (s) (A.add n0 1)):=by kernel_rfl
theorem Zty(A:Ar)(s:List UInt8)(n0:Int):Zau A tab E0 71 [true,true,true,true,false,false,false,true,true,false,true,false,true,true,true,false,false,false,false,false,false,false,false,false,true,false,true,false] (Zaq s n0) (Zam s n0)=
 some (tr [1,19,5,5,12,5,6,4,2,4] [A.inR .i64 (A.add n0 1),!A.not (A.eq (A.nthS s (A.nat n0)) 45),!A.eq n0 0,A.not (A.le (A.nthS s (A.nat n0)) 90),A.le 65 (A.nthS s (A.nat n0)),!A.le (A.nthS s (A.nat n0)) 122,A.le 97 (A.nthS s (A.nat n0)),Zag (A.le 0 n0) (Nat.blt (A.nat n0) (A.lenS s)),A.lt n0 (A.int (A.lenS s))],
  ZaJ (s) (A.add n0 1)):=by kernel_rfl
theorem Zvp(A:Ar)(s:List UInt8)(n0:Int):Zau A tab E0 71 [true,true,true,true,false,false,false,true,true,false,true,false,false,false,false,false,false,false] (Zaq s n0) (Zam s n0)=
 some (tr [1,21,12,5,6,4,2,4] [A.inR .i64 (A.add n0 1),!A.not (A.le (A.nthS s (A.nat n0)) 90),A.le 65 (A.nthS s (A.nat n0)),!A.le (A.nthS s (A.nat n0)) 122,A.le 97 (A.nthS s (A.nat n0)),Zag (A.le 0 n0) (Nat.blt (A.nat n0) (A.lenS s)),A.lt n0 (A.int (A.lenS s))],
  ZaJ (s) (A.add n0 1)):=by kernel_rfl
theorem Zsd(A:Ar)(s:List UInt8)(n0:Int):ZaQ A tab E0 67 [true,true,true,true,false,false,false,false,false,false,false,false,true,true,true,true,true,true,true,true,true,true,true] 40 (Zaq s n0) (Zam s n0)=
 some (tr [21,5,12,5,6,4,2,4] [A.eq n0 0,A.not false,!A.le 65 (A.nthS s (A.nat n0)),!A.le (A.nthS s (A.nat n0)) 122,A.le 97 (A.nthS s (A.nat n0)),Zag (A.le 0 n0) (Nat.blt (A.nat n0) (A.lenS s)),A.lt n0 (A.int (A.lenS s))],
  AV.bool false,none):=by kernel_rfl
theorem ZrK(A:Ar)(s:List UInt8)(n0:Int):ZaQ A tab E0 67 [true,true,true,true,false,false,false,false,false,false,false,false,true,true,true,false,false,false,true,true,true,true,true,true,true,false,true,true,false,true,true] 40 (Zaq s n0) (Zam s n0)=
 some (tr [17,5,5,5,12,5,6,4,2,4] [A.lt (A.nthS s (A.nat n0)) 48,A.not (A.eq (A.nthS s (A.nat n0)) 45),!A.eq n0 0,A.not false,!A.le 65 (A.nthS s (A.nat n0)),!A.le (A.nthS s (A.nat n0)) 122,A.le 97 (A.nthS s (A.nat n0)),Zag (A.le 0 n0) (Nat.blt (A.nat n0) (A.lenS s)),A.lt n0 (A.int (A.lenS s))],
  AV.bool false,none):=by kernel_rfl
theorem Zs9(A:Ar)(s:List UInt8)(n0:Int):ZaQ A tab E0 67 [true,true,true,true,false,false,false,false,false,false,false,false,true,true,true,false,false,false,true,true,true,false,false,true,false,false,true,true,false,true,true] 40 (Zaq s n0) (Zam s n0)=
 some (tr [2,14,5,5,5,12,5,6,4,2,4] [A.lt 57 (A.nthS s (A.nat n0)),!A.lt (A.nthS s (A.nat n0)) 48,A.not (A.eq (A.nthS s (A.nat n0)) 45),!A.eq n0 0,A.not false,!A.le 65 (A.nthS s (A.nat n0)),!A.le (A.nthS s (A.nat n0)) 122,A.le 97 (A.nthS s (A.nat n0)),Zag (A.le 0 n0) (Nat.blt (A.nat n0) (A.lenS s)),A.lt n0 (A.int (A.lenS s))],
  AV.bool false,none):=by kernel_rfl
theorem Zrg(A:Ar)(s:List UInt8)(n0:Int):Zau A tab E0 71 [true,true,true,true,false,false,false,false,false,false,false,false,true,true,true,false,false,false,true,true,true,false,false,true,false,false,true,true,false,true,false] (Zaq s n0) (Zam s n0)=
 some (tr [1,1,14,5,5,5,12,5,6,4,2,4] [A.inR .i64 (A.add n0 1),!A.lt 57 (A.nthS s (A.nat n0)),!A.lt (A.nthS s (A.nat n0)) 48,A.not (A.eq (A.nthS s (A.nat n0)) 45),!A.eq n0 0,A.not false,!A.le 65 (A.nthS s (A.nat n0)),!A.le (A.nthS s (A.nat n0)) 122,A.le 97 (A.nthS s (A.nat n0)),Zag (A.le 0 n0) (Nat.blt (A.nat n0) (A.lenS s)),A.lt n0 (A.int (A.lenS s))],
  ZaJ (s) (A.add n0 1)):=by kernel_rfl
theorem ZsL(A:Ar)(s:List UInt8)(n0:Int):Zau A tab E0 71 [true,true,true,true,false,false,false,false,false,false,false,false,true,true,true,false,false,false,false,false,false,false,false,false,true,false,true,false] (Zaq s n0) (Zam s n0)=
 some (tr [1,19,5,5,12,5,6,4,2,4] [A.inR .i64 (A.add n0 1),!A.not (A.eq (A.nthS s (A.nat n0)) 45),!A.eq n0 0,A.not false,!A.le 65 (A.nthS s (A.nat n0)),!A.le (A.nthS s (A.nat n0)) 122,A.le 97 (A.nthS s (A.nat n0)),Zag (A.le 0 n0) (Nat.blt (A.nat n0) (A.lenS s)),A.lt n0 (A.int (A.lenS s))],
  ZaJ (s) (A.add n0 1)):=by kernel_rfl
theorem Zrp(A:Ar)(s:List UInt8)(n0:Int):ZaQ A tab E0 67 [true,false,false,false,false,false,false,true,true,false,true,false,true,true,true,true,true,true,true,true,true,true,true] 40 (Zaq s n0) (Zam s n0)=
 some (tr [21,5,12,12,4,2,4] [A.eq n0 0,A.not (A.le (A.nthS s (A.nat n0)) 90),A.le 65 (A.nthS s (A.nat n0)),!A.le 97 (A.nthS s (A.nat n0)),Zag (A.le 0 n0) (Nat.blt (A.nat n0) (A.lenS s)),A.lt n0 (A.int (A.lenS s))],
  AV.bool false,none):=by kernel_rfl
theorem Zrc(A:Ar)(s:List UInt8)(n0:Int):ZaQ A tab E0 67 [true,false,false,false,false,false,false,true,true,false,true,false,true,true,true,false,false,false,true,true,true,true,true,true,true,false,true,true,false,true,true] 40 (Zaq s n0) (Zam s n0)=
 some (tr [17,5,5,5,12,12,4,2,4] [A.lt (A.nthS s (A.nat n0)) 48,A.not (A.eq (A.nthS s (A.nat n0)) 45),!A.eq n0 0,A.not (A.le (A.nthS s (A.nat n0)) 90),A.le 65 (A.nthS s (A.nat n0)),!A.le 97 (A.nthS s (A.nat n0)),Zag (A.le 0 n0) (Nat.blt (A.nat n0) (A.lenS s)),A.lt n0 (A.int (A.lenS s))],
  AV.bool false,none):=by kernel_rfl
theorem Zsc(A:Ar)(s:List UInt8)(n0:Int):ZaQ A tab E0 67 [true,false,false,false,false,false,false,true,true,false,true,false,true,true,true,false,false,false,true,true,true,false,false,true,false,false,true,true,false,true,true] 40 (Zaq s n0) (Zam s n0)=
 some (tr [2,14,5,5,5,12,12,4,2,4] [A.lt 57 (A.nthS s (A.nat n0)),!A.lt (A.nthS s (A.nat n0)) 48,A.not (A.eq (A.nthS s (A.nat n0)) 45),!A.eq n0 0,A.not (A.le (A.nthS s (A.nat n0)) 90),A.le 65 (A.nthS s (A.nat n0)),!A.le 97 (A.nthS s (A.nat n0)),Zag (A.le 0 n0) (Nat.blt (A.nat n0) (A.lenS s)),A.lt n0 (A.int (A.lenS s))],
  AV.bool false,none):=by kernel_rfl
theorem Zrv(A:Ar)(s:List UInt8)(n0:Int):Zau A tab E0 71 [true,false,false,false,false,false,false,true,true,false,true,false,true,true,true,false,false,false,true,true,true,false,false,true,false,false,true,true,false,true,false] (Zaq s n0) (Zam s n0)=
 some (tr [1,1,14,5,5,5,12,12,4,2,4] [A.inR .i64 (A.add n0 1),!A.lt 57 (A.nthS s (A.nat n0)),!A.lt (A.nthS s (A.nat n0)) 48,A.not (A.eq (A.nthS s (A.nat n0)) 45),!A.eq n0 0,A.not (A.le (A.nthS s (A.nat n0)) 90),A.le 65 (A.nthS s (A.nat n0)),!A.le 97 (A.nthS s (A.nat n0)),Zag (A.le 0 n0) (Nat.blt (A.nat n0) (A.lenS s)),A.lt n0 (A.int (A.lenS s))],
  ZaJ (s) (A.add n0 1)):=by kernel_rfl
theorem ZsR(A:Ar)(s:List UInt8)(n0:Int):Zau A tab E0 71 [true,false,false,false,false,false,false,true,true,false,true,false,true,true,true,false,false,false,false,false,false,false,false,false,true,false,true,false] (Zaq s n0) (Zam s n0)=
 some (tr [1,19,5,5,12,12,4,2,4] [A.inR .i64 (A.add n0 1),!A.not (A.eq (A.nthS s (A.nat n0)) 45),!A.eq n0 0,A.not (A.le (A.nthS s (A.nat n0)) 90),A.le 65 (A.nthS s (A.nat n0)),!A.le 97 (A.nthS s (A.nat n0)),Zag (A.le 0 n0) (Nat.blt (A.nat n0) (A.lenS s)),A.lt n0 (A.int (A.lenS s))],
  ZaJ (s) (A.add n0 1)):=by kernel_rfl
theorem ZrG(A:Ar)(s:List UInt8)(n0:Int):Zau A tab E0 71 [true,false,false,false,false,false,false,true,true,false,true,false,false,false,false,false,false,false] (Zaq s n0) (Zam s n0)=
 some (tr [1,21,12,12,4,2,4] [A.inR .i64 (A.add n0 1),!A.not (A.le (A.nthS s (A.nat n0)) 90),A.le 65 (A.nthS s (A.nat n0)),!A.le 97 (A.nthS s (A.nat n0)),Zag (A.le 0 n0) (Nat.blt (A.nat n0) (A.lenS s)),A.lt n0 (A.int (A.lenS s))],
  ZaJ (s) (A.add n0 1)):=by kernel_rfl
theorem ZrA(A:Ar)(s:List UInt8)(n0:Int):ZaQ A tab E0 67 [true,false,false,false,false,false,false,false,false,false,false,false,true,true,true,true,true,true,true,true,true,true,true] 40 (Zaq s n0) (Zam s n0)=
 some (tr [21,5,12,12,4,2,4] [A.eq n0 0,A.not false,!A.le 65 (A.nthS s (A.nat n0)),!A.le 97 (A.nthS s (A.nat n0)),Zag (A.le 0 n0) (Nat.blt (A.nat n0) (A.lenS s)),A.lt n0 (A.int (A.lenS s))],
  AV.bool false,none):=by kernel_rfl
theorem Zr2(A:Ar)(s:List UInt8)(n0:Int):ZaQ A tab E0 67 [true,false,false,false,false,false,false,false,false,false,false,false,true,true,true,false,false,false,true,true,true,true,true,true,true,false,true,true,false,true,true] 40 (Zaq s n0) (Zam s n0)=
 some (tr [17,5,5,5,12,12,4,2,4] [A.lt (A.nthS s (A.nat n0)) 48,A.not (A.eq (A.nthS s (A.nat n0)) 45),!A.eq n0 0,A.not false,!A.le 65 (A.nthS s (A.nat n0)),!A.le 97 (A.nthS s (A.nat n0)),Zag (A.le 0 n0) (Nat.blt (A.nat n0) (A.lenS s)),A.lt n0 (A.int (A.lenS s))],
  AV.bool false,none):=by kernel_rfl
theorem Ztc(A:Ar)(s:List UInt8)(n0:Int):ZaQ A tab E0 67 [true,false,false,false,false,false,false,false,false,false,false,false,true,true,true,false,false,false,true,true,true,false,false,true,false,false,true,true,false,true,true] 40 (Zaq s n0) (Zam s n0)=
 some (tr [2,14,5,5,5,12,12,4,2,4] [A.lt 57 (A.nthS s (A.nat n0)),!A.lt (A.nthS s (A.nat n0)) 48,A.not (A.eq (A.nthS s (A.nat n0)) 45),!A.eq n0 0,A.not false,!A.le 65 (A.nthS s (A.nat n0)),!A.le 97 (A.nthS s (A.nat n0)),Zag (A.le 0 n0) (Nat.blt (A.nat n0) (A.lenS s)),A.lt n0 (A.int (A.lenS s))],
  AV.bool false,none):=by kernel_rfl
theorem Zqt(A:Ar)(s:List UInt8)(n0:Int):Zau A tab E0 71 [true,false,false,false,false,false,false,false,false,false,false,false,true,true,true,false,false,false,true,true,true,false,false,true,false,false,true,true,false,true,false] (Zaq s n0) (Zam s n0)=
 some (tr [1,1,14,5,5,5,12,12,4,2,4] [A.inR .i64 (A.add n0 1),!A.lt 57 (A.nthS s (A.nat n0)),!A.lt (A.nthS s (A.nat n0)) 48,A.not (A.eq (A.nthS s (A.nat n0)) 45),!A.eq n0 0,A.not false,!A.le 65 (A.nthS s (A.nat n0)),!A.le 97 (A.nthS s (A.nat n0)),Zag (A.le 0 n0) (Nat.blt (A.nat n0) (A.lenS s)),A.lt n0 (A.int (A.lenS s))],
  ZaJ (s) (A.add n0 1)):=by kernel_rfl
theorem Zru(A:Ar)(s:List UInt8)(n0:Int):Zau A tab E0 71 [true,false,false,false,false,false,false,false,false,false,false,false,true,true,true,false,false,false,false,false,false,false,false,false,true,false,true,false] (Zaq s n0) (Zam s n0)=
 some (tr [1,19,5,5,12,12,4,2,4] [A.inR .i64 (A.add n0 1),!A.not (A.eq (A.nthS s (A.nat n0)) 45),!A.eq n0 0,A.not false,!A.le 65 (A.nthS s (A.nat n0)),!A.le 97 (A.nthS s (A.nat n0)),Zag (A.le 0 n0) (Nat.blt (A.nat n0) (A.lenS s)),A.lt n0 (A.int (A.lenS s))],
  ZaJ (s) (A.add n0 1)):=by kernel_rfl
theorem ZqF(A:Ar)(s:List UInt8)(n0:Int):ZaQ A tab E0 16 [false] 40 (Zaq s n0) (Zam s n0)=
 some (tr [2,4] [!A.lt n0 (A.int (A.lenS s))],
  AV.bool true,none):=by kernel_rfl
def Zsr(s:List UInt8):AFrame:={ fn:=56,N:=54,env:=[(0,AV.str s)],todo:=[.code a56.code],defs:=[],rnd:=none,ret:=false,res:=[ARes.tmp 2] }
def Zxl(s:List UInt8):List AFrame:=[(Zsr s)]
theorem Zo3(s:List UInt8):ZaD tab 56 [AV.str s]=some (Zsr s):=rfl
def Zao(s:List UInt8)(l0:List Int)(n1 n2:Int):List AFrame:=[{ fn:=56,N:=54,env:=[(0,AV.str s),(7,AV.list (.ints .u8 l0)),(8,AV.int .i64 n1),(9,AV.int .i64 n2)],todo:=.code (ACode.gh [] ZrI)::ZvF,defs:=[],rnd:=none,ret:=false,res:=[ARes.tmp 2] }]
def Zaj(s:List UInt8)(l0:List Int)(n1:Int)(n2:Int):Zab:=[]
abbrev ZaI(s:List UInt8)(l0:List Int)(n1:Int)(n2:Int):List AFrame×Zab:=(Zao s l0 n1 n2,Zaj s l0 n1 n2)
theorem Zuw(A:Ar)(s:List UInt8):Zau A tab E0 15 [] (Zxl s) []=
 some (tr [2,2] [Nat.ble (A.lenS s) 4294967296],
  ZaI (s) (A.byt s) (A.int (A.len (A.byt s))) (0)):=by kernel_rfl
theorem Zvs(A:Ar)(s:List UInt8)(l0:List Int)(n1 n2:Int):Zau A tab E0 68 [true,true,true,true,true,true,true,true,true,false,false,false,false,false,false] (Zao s l0 n1 n2) (Zaj s l0 n1 n2)=
 some (tr [1,20,15,6,6,1,1] [A.inR .i64 (A.add n2 1),!A.not true,A.le (A.nth l0 (A.nat n2)) 122,A.le 97 (A.nth l0 (A.nat n2)),Zag (Zag (A.le 0 n2) (Nat.blt (A.nat n2) (A.len l0))) true,A.lt n2 n1],
  ZaI (s) (l0) (n1) (A.add n2 1)):=by kernel_rfl
theorem ZtS(A:Ar)(s:List UInt8)(l0:List Int)(n1 n2:Int):ZaQ A tab E0 65 [true,true,true,true,false,false,false,true,true,false,true,false,true,true,true,true,true,true,true,true,true,true,true] 56 (Zao s l0 n1 n2) (Zaj s l0 n1 n2)=
 some (tr [21,5,12,5,6,6,1,1] [A.eq n2 0,A.not (A.le (A.nth l0 (A.nat n2)) 90),A.le 65 (A.nth l0 (A.nat n2)),!A.le (A.nth l0 (A.nat n2)) 122,A.le 97 (A.nth l0 (A.nat n2)),Zag (Zag (A.le 0 n2) (Nat.blt (A.nat n2) (A.len l0))) true,A.lt n2 n1],
  AV.bool false,none):=by kernel_rfl
theorem ZuM(A:Ar)(s:List UInt8)(l0:List Int)(n1 n2:Int):ZaQ A tab E0 65 [true,true,true,true,false,false,false,true,true,false,true,false,true,true,true,false,false,false,true,true,true,true,true,true,true,false,true,true,false,true,true] 56 (Zao s l0 n1 n2) (Zaj s l0 n1 n2)=
 some (tr [17,5,5,5,12,5,6,6,1,1] [A.lt (A.nth l0 (A.nat n2)) 48,A.not (A.eq (A.nth l0 (A.nat n2)) 45),!A.eq n2 0,A.not (A.le (A.nth l0 (A.nat n2)) 90),A.le 65 (A.nth l0 (A.nat n2)),!A.le (A.nth l0 (A.nat n2)) 122,A.le 97 (A.nth l0 (A.nat n2)),Zag (Zag (A.le 0 n2) (Nat.blt (A.nat n2) (A.len l0))) true,A.lt n2 n1],
  AV.bool false,none):=by kernel_rfl
theorem ZuG(A:Ar)(s:List UInt8)(l0:List Int)(n1 n2:Int):ZaQ A tab E0 65 [true,true,true,true,false,false,false,true,true,false,true,false,true,true,true,false,false,false,true,true,true,false,false,true,false,false,true,true,false,true,true] 56 (Zao s l0 n1 n2) (Zaj s l0 n1 n2)=
 some (tr [2,14,5,5,5,12,5,6,6,1,1] [A.lt 57 (A.nth l0 (A.nat n2)),!A.lt (A.nth l0 (A.nat n2)) 48,A.not (A.eq (A.nth l0 (A.nat n2)) 45),!A.eq n2 0,A.not (A.le (A.nth l0 (A.nat n2)) 90),A.le 65 (A.nth l0 (A.nat n2)),!A.le (A.nth l0 (A.nat n2)) 122,A.le 97 (A.nth l0 (A.nat n2)),Zag (Zag (A.le 0 n2) (Nat.blt (A.nat n2) (A.len l0))) true,A.lt n2 n1],
  AV.bool false,none):=by kernel_rfl
theorem ZvA(A:Ar)(s:List UInt8)(l0:List Int)(n1 n2:Int):Zau A tab E0 68 [true,true,true,true,false,false,false,true,true,false,true,false,true,true,true,false,false,false,true,true,true,false,false,true,false,false,true,true,false,true,false] (Zao s l0 n1 n2) (Zaj s l0 n1 n2)=
 some (tr [1,0,14,5,5,5,12,5,6,6,1,1] [A.inR .i64 (A.add n2 1),!A.lt 57 (A.nth l0 (A.nat n2)),!A.lt (A.nth l0 (A.nat n2)) 48,A.not (A.eq (A.nth l0 (A.nat n2)) 45),!A.eq n2 0,A.not (A.le (A.nth l0 (A.nat n2)) 90),A.le 65 (A.nth l0 (A.nat n2)),!A.le (A.nth l0 (A.nat n2)) 122,A.le 97 (A.nth l0 (A.nat n2)),Zag (Zag (A.le 0 n2) (Nat.blt (A.nat n2) (A.len l0))) true,A.lt n2 n1],
  ZaI (s) (l0) (n1) (A.add n2 1)):=by kernel_rfl
theorem Zuo(A:Ar)(s:List UInt8)(l0:List Int)(n1 n2:Int):Zau A tab E0 68 [true,true,true,true,false,false,false,true,true,false,true,false,true,true,true,false,false,false,false,false,false,false,false,false,true,false,true,false] (Zao s l0 n1 n2) (Zaj s l0 n1 n2)=
 some (tr [1,18,5,5,12,5,6,6,1,1] [A.inR .i64 (A.add n2 1),!A.not (A.eq (A.nth l0 (A.nat n2)) 45),!A.eq n2 0,A.not (A.le (A.nth l0 (A.nat n2)) 90),A.le 65 (A.nth l0 (A.nat n2)),!A.le (A.nth l0 (A.nat n2)) 122,A.le 97 (A.nth l0 (A.nat n2)),Zag (Zag (A.le 0 n2) (Nat.blt (A.nat n2) (A.len l0))) true,A.lt n2 n1],
  ZaI (s) (l0) (n1) (A.add n2 1)):=by kernel_rfl
theorem ZvJ(A:Ar)(s:List UInt8)(l0:List Int)(n1 n2:Int):Zau A tab E0 68 [true,true,true,true,false,false,false,true,true,false,true,false,false,false,false,false,false,false] (Zao s l0 n1 n2) (Zaj s l0 n1 n2)=
 some (tr [1,20,12,5,6,6,1,1] [A.inR .i64 (A.add n2 1),!A.not (A.le (A.nth l0 (A.nat n2)) 90),A.le 65 (A.nth l0 (A.nat n2)),!A.le (A.nth l0 (A.nat n2)) 122,A.le 97 (A.nth l0 (A.nat n2)),Zag (Zag (A.le 0 n2) (Nat.blt (A.nat n2) (A.len l0))) true,A.lt n2 n1],
  ZaI (s) (l0) (n1) (A.add n2 1)):=by kernel_rfl
theorem Zu6(A:Ar)(s:List UInt8)(l0:List Int)(n1 n2:Int):ZaQ A tab E0 65 [true,true,true,true,false,false,false,false,false,false,false,false,true,true,true,true,true,true,true,true,true,true,true] 56 (Zao s l0 n1 n2) (Zaj s l0 n1 n2)=
 some (tr [21,5,12,5,6,6,1,1] [A.eq n2 0,A.not false,!A.le 65 (A.nth l0 (A.nat n2)),!A.le (A.nth l0 (A.nat n2)) 122,A.le 97 (A.nth l0 (A.nat n2)),Zag (Zag (A.le 0 n2) (Nat.blt (A.nat n2) (A.len l0))) true,A.lt n2 n1],
  AV.bool false,none):=by kernel_rfl
theorem ZuW(A:Ar)(s:List UInt8)(l0:List Int)(n1 n2:Int):ZaQ A tab E0 65 [true,true,true,true,false,false,false,false,false,false,false,false,true,true,true,false,false,false,true,true,true,true,true,true,true,false,true,true,false,true,true] 56 (Zao s l0 n1 n2) (Zaj s l0 n1 n2)=
 some (tr [17,5,5,5,12,5,6,6,1,1] [A.lt (A.nth l0 (A.nat n2)) 48,A.not (A.eq (A.nth l0 (A.nat n2)) 45),!A.eq n2 0,A.not false,!A.le 65 (A.nth l0 (A.nat n2)),!A.le (A.nth l0 (A.nat n2)) 122,A.le 97 (A.nth l0 (A.nat n2)),Zag (Zag (A.le 0 n2) (Nat.blt (A.nat n2) (A.len l0))) true,A.lt n2 n1],
  AV.bool false,none):=by kernel_rfl
theorem Zsl(A:Ar)(s:List UInt8)(l0:List Int)(n1 n2:Int):ZaQ A tab E0 65 [true,true,true,true,false,false,false,false,false,false,false,false,true,true,true,false,false,false,true,true,true,false,false,true,false,false,true,true,false,true,true] 56 (Zao s l0 n1 n2) (Zaj s l0 n1 n2)=
 some (tr [2,14,5,5,5,12,5,6,6,1,1] [A.lt 57 (A.nth l0 (A.nat n2)),!A.lt (A.nth l0 (A.nat n2)) 48,A.not (A.eq (A.nth l0 (A.nat n2)) 45),!A.eq n2 0,A.not false,!A.le 65 (A.nth l0 (A.nat n2)),!A.le (A.nth l0 (A.nat n2)) 122,A.le 97 (A.nth l0 (A.nat n2)),Zag (Zag (A.le 0 n2) (Nat.blt (A.nat n2) (A.len l0))) true,A.lt n2 n1],
  AV.bool false,none):=by kernel_rfl
theorem ZsZ(A:Ar)(s:List UInt8)(l0:List Int)(n1 n2:Int):Zau A tab E0 68 [true,true,true,true,false,false,false,false,false,false,false,false,true,true,true,false,false,false,true,true,true,false,false,true,false,false,true,true,false,true,false] (Zao s l0 n1 n2) (Zaj s l0 n1 n2)=
 some (tr [1,0,14,5,5,5,12,5,6,6,1,1] [A.inR .i64 (A.add n2 1),!A.lt 57 (A.nth l0 (A.nat n2)),!A.lt (A.nth l0 (A.nat n2)) 48,A.not (A.eq (A.nth l0 (A.nat n2)) 45),!A.eq n2 0,A.not false,!A.le 65 (A.nth l0 (A.nat n2)),!A.le (A.nth l0 (A.nat n2)) 122,A.le 97 (A.nth l0 (A.nat n2)),Zag (Zag (A.le 0 n2) (Nat.blt (A.nat n2) (A.len l0))) true,A.lt n2 n1],
  ZaI (s) (l0) (n1) (A.add n2 1)):=by kernel_rfl
theorem Zr3(A:Ar)(s:List UInt8)(l0:List Int)(n1 n2:Int):Zau A tab E0 68 [true,true,true,true,false,false,false,false,false,false,false,false,true,true,true,false,false,false,false,false,false,false,false,false,true,false,true,false] (Zao s l0 n1 n2) (Zaj s l0 n1 n2)=
 some (tr [1,18,5,5,12,5,6,6,1,1] [A.inR .i64 (A.add n2 1),!A.not (A.eq (A.nth l0 (A.nat n2)) 45),!A.eq n2 0,A.not false,!A.le 65 (A.nth l0 (A.nat n2)),!A.le (A.nth l0 (A.nat n2)) 122,A.le 97 (A.nth l0 (A.nat n2)),Zag (Zag (A.le 0 n2) (Nat.blt (A.nat n2) (A.len l0))) true,A.lt n2 n1],
  ZaI (s) (l0) (n1) (A.add n2 1)):=by kernel_rfl
theorem Zry(A:Ar)(s:List UInt8)(l0:List Int)(n1 n2:Int):ZaQ A tab E0 65 [true,false,false,false,false,false,false,true,true,false,true,false,true,true,true,true,true,true,true,true,true,true,true] 56 (Zao s l0 n1 n2) (Zaj s l0 n1 n2)=
 some (tr [21,5,12,12,6,1,1] [A.eq n2 0,A.not (A.le (A.nth l0 (A.nat n2)) 90),A.le 65 (A.nth l0 (A.nat n2)),!A.le 97 (A.nth l0 (A.nat n2)),Zag (Zag (A.le 0 n2) (Nat.blt (A.nat n2) (A.len l0))) true,A.lt n2 n1],
  AV.bool false,none):=by kernel_rfl
theorem ZrL(A:Ar)(s:List UInt8)(l0:List Int)(n1 n2:Int):ZaQ A tab E0 65 [true,false,false,false,false,false,false,true,true,false,true,false,true,true,true,false,false,false,true,true,true,true,true,true,true,false,true,true,false,true,true] 56 (Zao s l0 n1 n2) (Zaj s l0 n1 n2)=
 some (tr [17,5,5,5,12,12,6,1,1] [A.lt (A.nth l0 (A.nat n2)) 48,A.not (A.eq (A.nth l0 (A.nat n2)) 45),!A.eq n2 0,A.not (A.le (A.nth l0 (A.nat n2)) 90),A.le 65 (A.nth l0 (A.nat n2)),!A.le 97 (A.nth l0 (A.nat n2)),Zag (Zag (A.le 0 n2) (Nat.blt (A.nat n2) (A.len l0))) true,A.lt n2 n1],
  AV.bool false,none):=by kernel_rfl
theorem Zr9(A:Ar)(s:List UInt8)(l0:List Int)(n1 n2:Int):ZaQ A tab E0 65 [true,false,false,false,false,false,false,true,true,false,true,false,true,true,true,false,false,false,true,true,true,false,false,true,false,false,true,true,false,true,true] 56 (Zao s l0 n1 n2) (Zaj s l0 n1 n2)=
 some (tr [2,14,5,5,5,12,12,6,1,1] [A.lt 57 (A.nth l0 (A.nat n2)),!A.lt (A.nth l0 (A.nat n2)) 48,A.not (A.eq (A.nth l0 (A.nat n2)) 45),!A.eq n2 0,A.not (A.le (A.nth l0 (A.nat n2)) 90),A.le 65 (A.nth l0 (A.nat n2)),!A.le 97 (A.nth l0 (A.nat n2)),Zag (Zag (A.le 0 n2) (Nat.blt (A.nat n2) (A.len l0))) true,A.lt n2 n1],
  AV.bool false,none):=by kernel_rfl
theorem ZsK(A:Ar)(s:List UInt8)(l0:List Int)(n1 n2:Int):Zau A tab E0 68 [true,false,false,false,false,false,false,true,true,false,true,false,true,true,true,false,false,false,true,true,true,false,false,true,false,false,true,true,false,true,false] (Zao s l0 n1 n2) (Zaj s l0 n1 n2)=
 some (tr [1,0,14,5,5,5,12,12,6,1,1] [A.inR .i64 (A.add n2 1),!A.lt 57 (A.nth l0 (A.nat n2)),!A.lt (A.nth l0 (A.nat n2)) 48,A.not (A.eq (A.nth l0 (A.nat n2)) 45),!A.eq n2 0,A.not (A.le (A.nth l0 (A.nat n2)) 90),A.le 65 (A.nth l0 (A.nat n2)),!A.le 97 (A.nth l0 (A.nat n2)),Zag (Zag (A.le 0 n2) (Nat.blt (A.nat n2) (A.len l0))) true,A.lt n2 n1],
  ZaI (s) (l0) (n1) (A.add n2 1)):=by kernel_rfl
theorem Zro(A:Ar)(s:List UInt8)(l0:List Int)(n1 n2:Int):Zau A tab E0 68 [true,false,false,false,false,false,false,true,true,false,true,false,true,true,true,false,false,false,false,false,false,false,false,false,true,false,true,false] (Zao s l0 n1 n2) (Zaj s l0 n1 n2)=
 some (tr [1,18,5,5,12,12,6,1,1] [A.inR .i64 (A.add n2 1),!A.not (A.eq (A.nth l0 (A.nat n2)) 45),!A.eq n2 0,A.not (A.le (A.nth l0 (A.nat n2)) 90),A.le 65 (A.nth l0 (A.nat n2)),!A.le 97 (A.nth l0 (A.nat n2)),Zag (Zag (A.le 0 n2) (Nat.blt (A.nat n2) (A.len l0))) true,A.lt n2 n1],
  ZaI (s) (l0) (n1) (A.add n2 1)):=by kernel_rfl
theorem ZrS(A:Ar)(s:List UInt8)(l0:List Int)(n1 n2:Int):Zau A tab E0 68 [true,false,false,false,false,false,false,true,true,false,true,false,false,false,false,false,false,false] (Zao s l0 n1 n2) (Zaj s l0 n1 n2)=
 some (tr [1,20,12,12,6,1,1] [A.inR .i64 (A.add n2 1),!A.not (A.le (A.nth l0 (A.nat n2)) 90),A.le 65 (A.nth l0 (A.nat n2)),!A.le 97 (A.nth l0 (A.nat n2)),Zag (Zag (A.le 0 n2) (Nat.blt (A.nat n2) (A.len l0))) true,A.lt n2 n1],
  ZaI (s) (l0) (n1) (A.add n2 1)):=by kernel_rfl
theorem Zrs(A:Ar)(s:List UInt8)(l0:List Int)(n1 n2:Int):ZaQ A tab E0 65 [true,false,false,false,false,false,false,false,false,false,false,false,true,true,true,true,true,true,true,true,true,true,true] 56 (Zao s l0 n1 n2) (Zaj s l0 n1 n2)=
 some (tr [21,5,12,12,6,1,1] [A.eq n2 0,A.not false,!A.le 65 (A.nth l0 (A.nat n2)),!A.le 97 (A.nth l0 (A.nat n2)),Zag (Zag (A.le 0 n2) (Nat.blt (A.nat n2) (A.len l0))) true,A.lt n2 n1],
  AV.bool false,none):=by kernel_rfl
theorem Zrb(A:Ar)(s:List UInt8)(l0:List Int)(n1 n2:Int):ZaQ A tab E0 65 [true,false,false,false,false,false,false,false,false,false,false,false,true,true,true,false,false,false,true,true,true,true,true,true,true,false,true,true,false,true,true] 56 (Zao s l0 n1 n2) (Zaj s l0 n1 n2)=
 some (tr [17,5,5,5,12,12,6,1,1] [A.lt (A.nth l0 (A.nat n2)) 48,A.not (A.eq (A.nth l0 (A.nat n2)) 45),!A.eq n2 0,A.not false,!A.le 65 (A.nth l0 (A.nat n2)),!A.le 97 (A.nth l0 (A.nat n2)),Zag (Zag (A.le 0 n2) (Nat.blt (A.nat n2) (A.len l0))) true,A.lt n2 n1],
  AV.bool false,none):=by kernel_rfl
theorem Zq4(A:Ar)(s:List UInt8)(l0:List Int)(n1 n2:Int):ZaQ A tab E0 65 [true,false,false,false,false,false,false,false,false,false,false,false,true,true,true,false,false,false,true,true,true,false,false,true,false,false,true,true,false,true,true] 56 (Zao s l0 n1 n2) (Zaj s l0 n1 n2)=
 some (tr [2,14,5,5,5,12,12,6,1,1] [A.lt 57 (A.nth l0 (A.nat n2)),!A.lt (A.nth l0 (A.nat n2)) 48,A.not (A.eq (A.nth l0 (A.nat n2)) 45),!A.eq n2 0,A.not false,!A.le 65 (A.nth l0 (A.nat n2)),!A.le 97 (A.nth l0 (A.nat n2)),Zag (Zag (A.le 0 n2) (Nat.blt (A.nat n2) (A.len l0))) true,A.lt n2 n1],
  AV.bool false,none):=by kernel_rfl
theorem ZqL(A:Ar)(s:List UInt8)(l0:List Int)(n1 n2:Int):Zau A tab E0 68 [true,false,false,false,false,false,false,false,false,false,false,false,true,true,true,false,false,false,true,true,true,false,false,true,false,false,true,true,false,true,false] (Zao s l0 n1 n2) (Zaj s l0 n1 n2)=
 some (tr [1,0,14,5,5,5,12,12,6,1,1] [A.inR .i64 (A.add n2 1),!A.lt 57 (A.nth l0 (A.nat n2)),!A.lt (A.nth l0 (A.nat n2)) 48,A.not (A.eq (A.nth l0 (A.nat n2)) 45),!A.eq n2 0,A.not false,!A.le 65 (A.nth l0 (A.nat n2)),!A.le 97 (A.nth l0 (A.nat n2)),Zag (Zag (A.le 0 n2) (Nat.blt (A.nat n2) (A.len l0))) true,A.lt n2 n1],
  ZaI (s) (l0) (n1) (A.add n2 1)):=by kernel_rfl
theorem ZrM(A:Ar)(s:List UInt8)(l0:List Int)(n1 n2:Int):Zau A tab E0 68 [true,false,false,false,false,false,false,false,false,false,false,false,true,true,true,false,false,false,false,false,false,false,false,false,true,false,true,false] (Zao s l0 n1 n2) (Zaj s l0 n1 n2)=
 some (tr [1,18,5,5,12,12,6,1,1] [A.inR .i64 (A.add n2 1),!A.not (A.eq (A.nth l0 (A.nat n2)) 45),!A.eq n2 0,A.not false,!A.le 65 (A.nth l0 (A.nat n2)),!A.le 97 (A.nth l0 (A.nat n2)),Zag (Zag (A.le 0 n2) (Nat.blt (A.nat n2) (A.len l0))) true,A.lt n2 n1],
  ZaI (s) (l0) (n1) (A.add n2 1)):=by kernel_rfl
theorem Zrd(A:Ar)(s:List UInt8)(l0:List Int)(n1 n2:Int):ZaQ A tab E0 21 [false,true,true,true,true] 56 (Zao s l0 n1 n2) (Zaj s l0 n1 n2)=
 some (tr [9,3,1] [A.not (A.eqS s []),!A.lt n2 n1],
  AV.bool (A.le (A.int (A.lenS s)) 12),none):=by kernel_rfl
theorem Zs2(A:Ar)(s:List UInt8)(l0:List Int)(n1 n2:Int):ZaQ A tab E0 21 [false,false,false,false,false] 56 (Zao s l0 n1 n2) (Zaj s l0 n1 n2)=
 some (tr [9,3,1] [!A.not (A.eqS s []),!A.lt n2 n1],
  AV.bool false,none):=by kernel_rfl
def Zs3(n:Int):AFrame:={ fn:=29,N:=3,env:=[(0,AV.int .i64 n)],todo:=[.code a29.code],defs:=[],rnd:=none,ret:=false,res:=[ARes.tmp 2] }
def Zxk(n:Int):List AFrame:=[(Zs3 n)]
theorem ZpL(n:Int):ZaD tab 29 [AV.int .i64 n]=some (Zs3 n):=rfl
theorem Zvd(A:Ar)(n:Int):ZaQ A tab E0 9 [] 29 (Zxk n) []=
 some (tr [3] [],
  AV.int .i64 0,none):=by kernel_rfl
end Go.Proofs.YtkeoeooghhjibaaDoor
/- Names, ranges, first errors. No condition. -/
namespace Go.Proofs.YtkeoeooghhjibaaDoor
def Zaf(n a b:Int):Bool:=decide (a≤n∧n≤b)
def Zaa(b:Bool)(e:Int):Int:=if b=true then 0 else e
def ZsH(k:Nat)(c:Int):Bool:=decide ((97≤c∧c≤122)∨(65≤c∧c≤90)∨(k≠0∧(c=45∨(48≤c∧c≤57))))
def nmR(f:Nat→Int):Nat→Nat→Bool
 |0,_=>true
 |m+1,k=>ZsH k (f k)&&nmR f m (k+1)
def ZaP(s:List UInt8):Bool:=decide (1≤s.length∧s.length≤12)&&nmR (fun k=>((s.getD k 0).toNat:Int)) s.length 0
def Zan:List Int→Int
 |[]=>0
 |x::xs=>if x=0 then Zan xs else x
def ZfM(xs:List AV)(s:List UInt8):Bool:=xs.any fun x=>x.toS==s
theorem ZiA(n a b:Int):Zas Tryd.prog 17 [.int .i64 n, .int .i64 a, .int .i64 b] (.bool (Zaf n a b)) none:=
 start (Zpz n a b) fun C hC=>by
  by_cases h:a≤n
  ·exact fin hC Zax (Zt0 std n a b) (by simp[h]) (by simp[Zaf,h]) rfl
  ·exact fin hC Zax (Zuz std n a b) (by simp;omega) (by simp[Zaf,h]) rfl
theorem ZiH(n a b:Int):Zas Tryd.prog 26 [.int .i64 n, .int .i64 a, .int .i64 b] (.bool (Zaf n a b)) none:=
 start (Zo5 n a b) fun C hC=>by
  by_cases h:a≤n
  ·exact fin hC Zax (Zur std n a b) (by simp[h]) (by simp[Zaf,h]) rfl
  ·exact fin hC Zax (Zug std n a b) (by simp;omega) (by simp[Zaf,h]) rfl
theorem Zim(b:Bool)(e:Int):Zas Tryd.prog 32 [.bool b, .int .i64 e] (.int .i64 (Zaa b e)) none:=
 start (Zoy b e) fun C hC=>by
  cases b
  ·first
   |exact fin hC Zax (Zso std false e) (by simp) rfl rfl
   |exact fin hC Zax (ZsQ std false e) (by simp) rfl rfl
  ·first
   |exact fin hC Zax (Zso std true e) (by simp) rfl rfl
   |exact fin hC Zax (ZsQ std true e) (by simp) rfl rfl
theorem Zl7(n:Int):Zas Tryd.prog 29 [.int .i64 n] (.int .i64 0) none:=start (ZpL n) fun C hC=>fin hC Zax (Zvd std n) (by simp) rfl rfl
theorem Zfr{C:Ctx}(hC:C.P=Tryd.prog)(s:List UInt8)(hl:s.length≤1000000):∀(m k:Nat),k+m=s.length→Ev C (Zaq s (k:Int)) (Zam s (k:Int)) (ZcP 40 (.bool (nmR (fun k=>((s.getD k 0).toNat:Int)) m k)) none)
 |0,k,hk=>fin hC Zax (ZqF std s k) (by simp;omega) rfl rfl
 |m+1,k,hk=>by
  have nx:ZsH k (((s.getD k 0).toNat:Int))=true→Ev C (Zaq s ((k:Int)+1)) (Zam s ((k:Int)+1)) (ZcP 40 (.bool (nmR (fun k=>((s.getD k 0).toNat:Int)) (m+1) k)) none):=fun h=>by
   have:=Zfr hC s hl m (k+1) (by omega)
   simp only[nmR,h,Bool.true_and]
   exact this
  have fx:ZsH k (((s.getD k 0).toNat:Int))=false→AV.bool false=AV.bool (nmR (fun k=>((s.getD k 0).toNat:Int)) (m+1) k):=fun h=>by simp only[nmR,h,Bool.false_and]
  by_cases h1:((k:Int)<((s.length:Nat):Int))
  ·by_cases h2:(97≤((s.getD k 0).toNat:Int))
   ·by_cases h3:(((s.getD k 0).toNat:Int)≤122)
    ·exact go hC Zax (Zus std s (k:Int)) (by simp[-List.getD_eq_getElem?_getD]<;>omega) (nx (decide_eq_true (by omega)))
    ·by_cases h4:(65≤((s.getD k 0).toNat:Int))
     ·by_cases h5:(((s.getD k 0).toNat:Int)≤90)
      ·exact go hC Zax (Zvp std s (k:Int)) (by simp[-List.getD_eq_getElem?_getD]<;>omega) (nx (decide_eq_true (by omega)))
      ·by_cases h6:((k:Int)=0)
       ·exact fin hC Zax (ZuU std s (k:Int)) (by simp[-List.getD_eq_getElem?_getD]<;>omega) (fx (decide_eq_false (by omega))) rfl
       ·by_cases h7:(((s.getD k 0).toNat:Int)=45)
        ·exact go hC Zax (Zty std s (k:Int)) (by simp[-List.getD_eq_getElem?_getD]<;>omega) (nx (decide_eq_true (by omega)))
        ·by_cases h8:(((s.getD k 0).toNat:Int)<48)
         ·exact fin hC Zax (ZtQ std s (k:Int)) (by simp[-List.getD_eq_getElem?_getD]<;>omega) (fx (decide_eq_false (by omega))) rfl
         ·by_cases h9:(57<((s.getD k 0).toNat:Int))
          ·exact fin hC Zax (Zvz std s (k:Int)) (by simp[-List.getD_eq_getElem?_getD]<;>omega) (fx (decide_eq_false (by omega))) rfl
          ·exact go hC Zax (Zu4 std s (k:Int)) (by simp[-List.getD_eq_getElem?_getD]<;>omega) (nx (decide_eq_true (by omega)))
     ·by_cases h5:((k:Int)=0)
      ·exact fin hC Zax (Zsd std s (k:Int)) (by simp[-List.getD_eq_getElem?_getD]<;>omega) (fx (decide_eq_false (by omega))) rfl
      ·by_cases h6:(((s.getD k 0).toNat:Int)=45)
       ·exact go hC Zax (ZsL std s (k:Int)) (by simp[-List.getD_eq_getElem?_getD]<;>omega) (nx (decide_eq_true (by omega)))
       ·by_cases h7:(((s.getD k 0).toNat:Int)<48)
        ·exact fin hC Zax (ZrK std s (k:Int)) (by simp[-List.getD_eq_getElem?_getD]<;>omega) (fx (decide_eq_false (by omega))) rfl
        ·by_cases h8:(57<((s.getD k 0).toNat:Int))
         ·exact fin hC Zax (Zs9 std s (k:Int)) (by simp[-List.getD_eq_getElem?_getD]<;>omega) (fx (decide_eq_false (by omega))) rfl
         ·exact go hC Zax (Zrg std s (k:Int)) (by simp[-List.getD_eq_getElem?_getD]<;>omega) (nx (decide_eq_true (by omega)))
   ·by_cases h3:(65≤((s.getD k 0).toNat:Int))
    ·by_cases h4:(((s.getD k 0).toNat:Int)≤90)
     ·exact go hC Zax (ZrG std s (k:Int)) (by simp[-List.getD_eq_getElem?_getD]<;>omega) (nx (decide_eq_true (by omega)))
     ·by_cases h5:((k:Int)=0)
      ·exact fin hC Zax (Zrp std s (k:Int)) (by simp[-List.getD_eq_getElem?_getD]<;>omega) (fx (decide_eq_false (by omega))) rfl
      ·by_cases h6:(((s.getD k 0).toNat:Int)=45)
       ·exact go hC Zax (ZsR std s (k:Int)) (by simp[-List.getD_eq_getElem?_getD]<;>omega) (nx (decide_eq_true (by omega)))
       ·by_cases h7:(((s.getD k 0).toNat:Int)<48)
        ·exact fin hC Zax (Zrc std s (k:Int)) (by simp[-List.getD_eq_getElem?_getD]<;>omega) (fx (decide_eq_false (by omega))) rfl
        ·by_cases h8:(57<((s.getD k 0).toNat:Int))
         ·exact fin hC Zax (Zsc std s (k:Int)) (by simp[-List.getD_eq_getElem?_getD]<;>omega) (fx (decide_eq_false (by omega))) rfl
         ·exact go hC Zax (Zrv std s (k:Int)) (by simp[-List.getD_eq_getElem?_getD]<;>omega) (nx (decide_eq_true (by omega)))
    ·by_cases h4:((k:Int)=0)
     ·exact fin hC Zax (ZrA std s (k:Int)) (by simp[-List.getD_eq_getElem?_getD]<;>omega) (fx (decide_eq_false (by omega))) rfl
     ·by_cases h5:(((s.getD k 0).toNat:Int)=45)
      ·exact go hC Zax (Zru std s (k:Int)) (by simp[-List.getD_eq_getElem?_getD]<;>omega) (nx (decide_eq_true (by omega)))
      ·by_cases h6:(((s.getD k 0).toNat:Int)<48)
       ·exact fin hC Zax (Zr2 std s (k:Int)) (by simp[-List.getD_eq_getElem?_getD]<;>omega) (fx (decide_eq_false (by omega))) rfl
       ·by_cases h7:(57<((s.getD k 0).toNat:Int))
        ·exact fin hC Zax (Ztc std s (k:Int)) (by simp[-List.getD_eq_getElem?_getD]<;>omega) (fx (decide_eq_false (by omega))) rfl
        ·exact go hC Zax (Zqt std s (k:Int)) (by simp[-List.getD_eq_getElem?_getD]<;>omega) (nx (decide_eq_true (by omega)))
  ·omega
theorem Zls(s:List UInt8)(hl:s.length≤1000000):Zas Tryd.prog 40 [.str s] (.bool (ZaP s)) none:=
 start (Zpx s) fun C hC=>by
  by_cases h1:((s.length:Int)<1)
  ·exact fin hC Zax (Zt1 std s) (by simp;omega) (by simp[ZaP];omega) rfl
  ·by_cases h2:(12<(s.length:Int))
   ·exact fin hC Zax (ZtD std s) (by simp;omega) (by simp[ZaP];omega) rfl
   ·refine go hC Zax (Zvn std s) (by simp;omega) ?_
    have:=Zfr hC s hl s.length 0 (by omega)
    have e:decide (1≤s.length∧s.length≤12)=true:=by simp;omega
    simp only[ZaP,e,Bool.true_and]
    exact this
theorem Ze7{C:Ctx}(hC:C.P=Tryd.prog)(s:List UInt8)(l0:List Int)(hl:l0.length≤4294967296):∀(m k:Nat),k+m=l0.length→Ev C (Zao s l0 (l0.length:Int) (k:Int)) (Zaj s l0 (l0.length:Int) (k:Int)) (ZcP 56 (.bool (decide (1≤s.length∧s.length≤12)&&nmR (fun k=>l0.getD k 0) m k)) none)
 |0,k,hk=>by
  by_cases h2:s=[]
  ·exact fin hC Zax (Zs2 std s l0 l0.length k) (by simp[h2];omega) (by simp[h2]) rfl
  ·have h3:0<s.length:=List.length_pos_iff.2 h2
   exact fin hC Zax (Zrd std s l0 l0.length k) (by simp[h2];omega) (by simp only[nmR,Bool.and_true];congr 1;rw[Bool.eq_iff_iff];simp;omega) rfl
 |m+1,k,hk=>by
  have nx:ZsH k (l0.getD k 0)=true→Ev C (Zao s l0 (l0.length:Int) ((k:Int)+1)) (Zaj s l0 (l0.length:Int) ((k:Int)+1)) (ZcP 56 (.bool (decide (1≤s.length∧s.length≤12)&&nmR (fun k=>l0.getD k 0) (m+1) k)) none):=fun h=>by
   have:=Ze7 hC s l0 hl m (k+1) (by omega)
   simp only[nmR,h,Bool.true_and]
   exact this
  have fx:ZsH k (l0.getD k 0)=false→AV.bool false=AV.bool (decide (1≤s.length∧s.length≤12)&&nmR (fun k=>l0.getD k 0) (m+1) k):=fun h=>by simp only[nmR,h,Bool.false_and,Bool.and_false]
  by_cases h1:((k:Int)<(l0.length:Int))
  ·by_cases h2:(97≤(l0.getD k 0))
   ·by_cases h3:((l0.getD k 0)≤122)
    ·exact go hC Zax (Zvs std s l0 (l0.length:Int) (k:Int)) (by simp[-List.getD_eq_getElem?_getD]<;>omega) (nx (decide_eq_true (by omega)))
    ·by_cases h4:(65≤(l0.getD k 0))
     ·by_cases h5:((l0.getD k 0)≤90)
      ·exact go hC Zax (ZvJ std s l0 (l0.length:Int) (k:Int)) (by simp[-List.getD_eq_getElem?_getD]<;>omega) (nx (decide_eq_true (by omega)))
      ·by_cases h6:((k:Int)=0)
       ·exact fin hC Zax (ZtS std s l0 (l0.length:Int) (k:Int)) (by simp[-List.getD_eq_getElem?_getD]<;>omega) (fx (decide_eq_false (by omega))) rfl
       ·by_cases h7:((l0.getD k 0)=45)
        ·exact go hC Zax (Zuo std s l0 (l0.length:Int) (k:Int)) (by simp[-List.getD_eq_getElem?_getD]<;>omega) (nx (decide_eq_true (by omega)))
        ·by_cases h8:((l0.getD k 0)<48)
         ·exact fin hC Zax (ZuM std s l0 (l0.length:Int) (k:Int)) (by simp[-List.getD_eq_getElem?_getD]<;>omega) (fx (decide_eq_false (by omega))) rfl
         ·by_cases h9:(57<(l0.getD k 0))
          ·exact fin hC Zax (ZuG std s l0 (l0.length:Int) (k:Int)) (by simp[-List.getD_eq_getElem?_getD]<;>omega) (fx (decide_eq_false (by omega))) rfl
          ·exact go hC Zax (ZvA std s l0 (l0.length:Int) (k:Int)) (by simp[-List.getD_eq_getElem?_getD]<;>omega) (nx (decide_eq_true (by omega)))
     ·by_cases h5:((k:Int)=0)
      ·exact fin hC Zax (Zu6 std s l0 (l0.length:Int) (k:Int)) (by simp[-List.getD_eq_getElem?_getD]<;>omega) (fx (decide_eq_false (by omega))) rfl
      ·by_cases h6:((l0.getD k 0)=45)
       ·exact go hC Zax (Zr3 std s l0 (l0.length:Int) (k:Int)) (by simp[-List.getD_eq_getElem?_getD]<;>omega) (nx (decide_eq_true (by omega)))
       ·by_cases h7:((l0.getD k 0)<48)
        ·exact fin hC Zax (ZuW std s l0 (l0.length:Int) (k:Int)) (by simp[-List.getD_eq_getElem?_getD]<;>omega) (fx (decide_eq_false (by omega))) rfl
        ·by_cases h8:(57<(l0.getD k 0))
         ·exact fin hC Zax (Zsl std s l0 (l0.length:Int) (k:Int)) (by simp[-List.getD_eq_getElem?_getD]<;>omega) (fx (decide_eq_false (by omega))) rfl
         ·exact go hC Zax (ZsZ std s l0 (l0.length:Int) (k:Int)) (by simp[-List.getD_eq_getElem?_getD]<;>omega) (nx (decide_eq_true (by omega)))
   ·by_cases h3:(65≤(l0.getD k 0))
    ·by_cases h4:((l0.getD k 0)≤90)
     ·exact go hC Zax (ZrS std s l0 (l0.length:Int) (k:Int)) (by simp[-List.getD_eq_getElem?_getD]<;>omega) (nx (decide_eq_true (by omega)))
     ·by_cases h5:((k:Int)=0)
      ·exact fin hC Zax (Zry std s l0 (l0.length:Int) (k:Int)) (by simp[-List.getD_eq_getElem?_getD]<;>omega) (fx (decide_eq_false (by omega))) rfl
      ·by_cases h6:((l0.getD k 0)=45)
       ·exact go hC Zax (Zro std s l0 (l0.length:Int) (k:Int)) (by simp[-List.getD_eq_getElem?_getD]<;>omega) (nx (decide_eq_true (by omega)))
       ·by_cases h7:((l0.getD k 0)<48)
        ·exact fin hC Zax (ZrL std s l0 (l0.length:Int) (k:Int)) (by simp[-List.getD_eq_getElem?_getD]<;>omega) (fx (decide_eq_false (by omega))) rfl
        ·by_cases h8:(57<(l0.getD k 0))
         ·exact fin hC Zax (Zr9 std s l0 (l0.length:Int) (k:Int)) (by simp[-List.getD_eq_getElem?_getD]<;>omega) (fx (decide_eq_false (by omega))) rfl
         ·exact go hC Zax (ZsK std s l0 (l0.length:Int) (k:Int)) (by simp[-List.getD_eq_getElem?_getD]<;>omega) (nx (decide_eq_true (by omega)))
    ·by_cases h4:((k:Int)=0)
     ·exact fin hC Zax (Zrs std s l0 (l0.length:Int) (k:Int)) (by simp[-List.getD_eq_getElem?_getD]<;>omega) (fx (decide_eq_false (by omega))) rfl
     ·by_cases h5:((l0.getD k 0)=45)
      ·exact go hC Zax (ZrM std s l0 (l0.length:Int) (k:Int)) (by simp[-List.getD_eq_getElem?_getD]<;>omega) (nx (decide_eq_true (by omega)))
      ·by_cases h6:((l0.getD k 0)<48)
       ·exact fin hC Zax (Zrb std s l0 (l0.length:Int) (k:Int)) (by simp[-List.getD_eq_getElem?_getD]<;>omega) (fx (decide_eq_false (by omega))) rfl
       ·by_cases h7:(57<(l0.getD k 0))
        ·exact fin hC Zax (Zq4 std s l0 (l0.length:Int) (k:Int)) (by simp[-List.getD_eq_getElem?_getD]<;>omega) (fx (decide_eq_false (by omega))) rfl
        ·exact go hC Zax (ZqL std s l0 (l0.length:Int) (k:Int)) (by simp[-List.getD_eq_getElem?_getD]<;>omega) (nx (decide_eq_true (by omega)))
  ·by_cases h2:(s=[])
   ·omega
   ·omega
theorem Zlk(s:List UInt8)(hl:s.length≤1000000):Zas Tryd.prog 56 [.str s] (.bool (ZaP s)) none:=
 start (Zo3 s) fun C hC=>by
  refine go hC Zax (Zuw std s) (by simp;omega) ?_
  have:=Ze7 hC s (s.map fun b=>(b.toNat:Int)) (by simp;omega) (s.map fun b=>(b.toNat:Int)).length 0 (by simp)
  have e:(fun k=>(s.map fun b=>(b.toNat:Int)).getD k 0)=fun k=>((s.getD k 0).toNat:Int):=by
   funext k
   simp only[List.getD_eq_getElem?_getD,List.getElem?_map]
   cases s[k]?<;>rfl
  have q:(decide (1≤s.length∧s.length≤12)&&nmR (fun k=>(s.map fun b=>(b.toNat:Int)).getD k 0) (s.map fun b=>(b.toNat:Int)).length 0)=ZaP s:=by rw[e,List.length_map];rfl
  rw[q]at this
  exact this
@[simp] theorem Zem (l:List AV):std.lenA l=l.length:=rfl
@[simp] theorem Zwd (l:List AV) (j:Nat):std.nthA l j=l.getD j .top:=rfl
theorem ZfX{C:Ctx}(hC:C.P=Tryd.prog)(xs:List AV)(s:List UInt8)(hl:xs.length≤1000000):∀(m k:Nat),k+m=xs.length→Ev C (Zcv xs s (k:Int)) (Zb0 xs s (k:Int)) (ZcP 41 (.bool (ZfM (xs.drop k) s)) none)
 |0,k,hk=>fin hC Zax (ZuZ std xs s k) (by simp;omega) (by rw[List.drop_of_length_le (by omega)];rfl) rfl
 |m+1,k,hk=>by
  have hd:xs.drop k=xs[k]'(by omega)::xs.drop (k+1):=List.drop_eq_getElem_cons (by omega)
  have hg:xs.getD k .top=xs[k]'(by omega):=by simp[List.getD_eq_getElem?_getD,List.getElem?_eq_getElem (show k<xs.length by omega)]
  by_cases h:(xs.getD k .top).toS=s
  ·exact fin hC Zax (ZtV std xs s k) (by simp[-List.getD_eq_getElem?_getD,h]<;>omega) (by rw[hd,←hg];simp[-List.getD_eq_getElem?_getD,ZfM,h]) rfl
  ·refine go hC Zax (Zuq std xs s k) (by simp[-List.getD_eq_getElem?_getD,h]<;>omega) ?_
   have:=ZfX hC xs s hl m (k+1) (by omega)
   rw[hd,←hg]
   have e:ZfM (xs.getD k .top::xs.drop (k+1)) s=ZfM (xs.drop (k+1)) s:=by simp[-List.getD_eq_getElem?_getD,ZfM,h]
   rw[e]
   exact this
theorem Znv(xs:List AV)(s:List UInt8)(hl:xs.length≤1000000):Zas Tryd.prog 41 [.list (.big .str xs), .str s] (.bool (ZfM xs s)) none:=
 start (ZoE xs s) fun C hC=>go hC Zax (Zvg std xs s) (by simp) (ZfX hC xs s hl xs.length 0 (by omega))
theorem Zet{C:Ctx}(hC:C.P=Tryd.prog)(xs:List Int)(hl:xs.length≤1000000):∀(m k:Nat),k+m=xs.length→Ev C (Zcs xs (xs.length:Int) (k:Int)) (ZbX xs (xs.length:Int) (k:Int)) (ZcP 35 (.int .i64 (Zan (xs.drop k))) none)
 |0,k,hk=>fin hC Zax (Zvt std xs xs.length k) (by simp;omega) (by rw[List.drop_of_length_le (by omega)];rfl) rfl
 |m+1,k,hk=>by
  have hd:xs.drop k=xs[k]'(by omega)::xs.drop (k+1):=List.drop_eq_getElem_cons (by omega)
  have hg:xs.getD k 0=xs[k]'(by omega):=by simp[List.getD_eq_getElem?_getD,List.getElem?_eq_getElem (show k<xs.length by omega)]
  by_cases h:xs.getD k 0=0
  ·refine go hC Zax (Zvb std xs xs.length k) (by simp[-List.getD_eq_getElem?_getD,h]<;>omega) ?_
   have:=Zet hC xs hl m (k+1) (by omega)
   rw[hd,←hg,Zan,if_pos h]
   exact this
  ·exact fin hC Zax (ZvC std xs xs.length k) (by simp[-List.getD_eq_getElem?_getD,h]<;>omega) (by rw[hd,←hg,Zan,if_neg h];rfl) rfl
theorem ZkA(xs:List Int)(hl:xs.length≤1000000):Zas Tryd.prog 35 [.list (.ints .i64 xs)] (.int .i64 (Zan xs)) none:=
 start (Zps xs) fun C hC=>go hC Zax (ZtC std xs) (by simp) (Zet hC xs hl xs.length 0 (by omega))
end Go.Proofs.YtkeoeooghhjibaaDoor
/- Contracts as a list. No condition. -/
namespace Go.Proofs.YtkeoeooghhjibaaDoor
def k17:Ctr:=⟨17,0,fun _ a=>match a with |[.int .i64 n, .int .i64 a, .int .i64 b]=>some (true, .bool (Zaf n a b),none) |_=>none⟩
theorem Zs4:k17.OK Tryd.prog:=fun pa args r fr h=>by
 simp only[k17]at h
 split at h
 ·cases h
  exact ZiA _ _ _
 ·cases h
def k26:Ctr:=⟨26,0,fun _ a=>match a with |[.int .i64 n, .int .i64 a, .int .i64 b]=>some (true, .bool (Zaf n a b),none) |_=>none⟩
theorem Zs6:k26.OK Tryd.prog:=fun pa args r fr h=>by
 simp only[k26]at h
 split at h
 ·cases h
  exact ZiH _ _ _
 ·cases h
def k32:Ctr:=⟨32,0,fun _ a=>match a with |[.bool b, .int .i64 e]=>some (true, .int .i64 (Zaa b e),none) |_=>none⟩
theorem Zq8:k32.OK Tryd.prog:=fun pa args r fr h=>by
 simp only[k32]at h
 split at h
 ·cases h
  exact Zim _ _
 ·cases h
def k29:Ctr:=⟨29,0,fun _ a=>match a with |[.int .i64 _]=>some (true, .int .i64 0,none) |_=>none⟩
theorem Zrt:k29.OK Tryd.prog:=fun pa args r fr h=>by
 simp only[k29]at h
 split at h
 ·cases h
  exact Zl7 _
 ·cases h
def k40:Ctr:=⟨40,0,fun _ a=>match a with |[.str s]=>some (decide (s.length≤1000000), .bool (ZaP s),none) |_=>none⟩
theorem Zrr:k40.OK Tryd.prog:=fun pa args r fr h=>by
 simp only[k40]at h
 split at h
 ·simp only[Option.some.injEq,Prod.mk.injEq,decide_eq_true_eq]at h
  obtain⟨h0,rfl,rfl⟩:=h
  exact Zls _ h0
 ·cases h
def k56:Ctr:=⟨56,0,fun _ a=>match a with |[.str s]=>some (decide (s.length≤1000000), .bool (ZaP s),none) |_=>none⟩
theorem Zsz:k56.OK Tryd.prog:=fun pa args r fr h=>by
 simp only[k56]at h
 split at h
 ·simp only[Option.some.injEq,Prod.mk.injEq,decide_eq_true_eq]at h
  obtain⟨h0,rfl,rfl⟩:=h
  exact Zlk _ h0
 ·cases h
def k41:Ctr:=⟨41,0,fun _ a=>match a with |[.list (.big .str xs), .str s]=>some (decide (xs.length≤1000000), .bool (ZfM xs s),none) |_=>none⟩
theorem Zsj:k41.OK Tryd.prog:=fun pa args r fr h=>by
 simp only[k41]at h
 split at h
 ·simp only[Option.some.injEq,Prod.mk.injEq,decide_eq_true_eq]at h
  obtain⟨h0,rfl,rfl⟩:=h
  exact Znv _ _ h0
 ·cases h
def k35:Ctr:=⟨35,0,fun _ a=>match a with |[.list (.ints .i64 xs)]=>some (decide (xs.length≤1000000), .int .i64 (Zan xs),none) |_=>none⟩
theorem ZsS:k35.OK Tryd.prog:=fun pa args r fr h=>by
 simp only[k35]at h
 split at h
 ·simp only[Option.some.injEq,Prod.mk.injEq,decide_eq_true_eq]at h
  obtain⟨h0,rfl,rfl⟩:=h
  exact ZkA _ h0
 ·cases h
def B1:List Ctr:=[k17,k26,k32,k29,k40,k56,k41,k35]
theorem Ziw:Za2 Tryd.prog B1:=⟨Zs4,⟨Zs6,⟨Zq8,⟨Zrt,⟨Zrr,⟨Zsz,⟨Zsj,⟨ZsS,trivial⟩⟩⟩⟩⟩⟩⟩⟩
end Go.Proofs.YtkeoeooghhjibaaDoor
/- Paths of functions, printed by the explorer (Gx). No condition. -/
namespace Go.Proofs.YtkeoeooghhjibaaDoor
set_option maxRecDepth 100000
set_option linter.unusedVariables false
def ZqD(n:Int)(m:Int):AFrame:={ fn:=25,N:=13,env:=[(0,AV.int .i64 n),(1,AV.int .i64 m)],todo:=[.code a25.code],defs:=[],rnd:=none,ret:=false,res:=[ARes.tmp 4] }
def ZvU(n:Int)(m:Int):List AFrame:=[(ZqD n m)]
theorem ZoF(n:Int)(m:Int):ZaD tab 25 [AV.int .i64 n,AV.int .i64 m]=some (ZqD n m):=rfl
theorem ZtE(A:Ar)(n m:Int):ZaQ A tab B1 18 [true,true,true,true,true] 25 (ZvU n m) []=
 some (tr [11,4] [A.eq n (-1)],
  AV.bool true,none):=by kernel_rfl
theorem ZvL(A:Ar)(n m:Int):ZaQ A tab B1 18 [false,false,false,false,false] 25 (ZvU n m) []=
 some (tr [6,4,4] [A.inR .i64 (A.sub m 1),!A.eq n (-1)],
  AV.bool (Zaf n 0 (A.sub m 1)),none):=by kernel_rfl
def ZsD(ms:List AV)(ks:List AV)(rs:List AV)(i:Int):AFrame:={ fn:=28,N:=9,env:=[(0,AV.int .i64 i),(1,AV.eptr (AV.agg (Row.gen [.list (Row.big .str ms), .list (Row.big (.agg [.str, .int .i64]) ks), .list (Row.big (.agg [.str, .int .i64, .int .i64, .int .i64, .int .i64]) rs)])) 0)],todo:=[.code a28.code],defs:=[],rnd:=none,ret:=false,res:=[ARes.tmp 3] }
def ZwC(ms:List AV)(ks:List AV)(rs:List AV)(i:Int):List AFrame:=[(ZsD ms ks rs i)]
theorem Zpf(ms:List AV)(ks:List AV)(rs:List AV)(i:Int):ZaD tab 28 [AV.int .i64 i,AV.eptr (AV.agg (Row.gen [.list (Row.big .str ms), .list (Row.big (.agg [.str, .int .i64]) ks), .list (Row.big (.agg [.str, .int .i64, .int .i64, .int .i64, .int .i64]) rs)])) 0]=some (ZsD ms ks rs i):=rfl
theorem ZvE(A:Ar)(ms ks rs:List AV)(i:Int):ZaQ A tab B1 14 [] 28 (ZwC ms ks rs i) []=
 some (tr [3,4] [Zag (Zag (A.le 0 i) (Nat.blt (A.nat i) (A.lenA ms))) true],
  AV.str (AV.toS (A.nthA ms (A.nat i))),none):=by kernel_rfl
def ZqQ(ms:List AV)(ks:List AV)(rs:List AV)(i:Int):AFrame:={ fn:=30,N:=10,env:=[(0,AV.int .i64 i),(1,AV.eptr (AV.agg (Row.gen [.list (Row.big .str ms), .list (Row.big (.agg [.str, .int .i64]) ks), .list (Row.big (.agg [.str, .int .i64, .int .i64, .int .i64, .int .i64]) rs)])) 0)],todo:=[.code a30.code],defs:=[],rnd:=none,ret:=false,res:=[ARes.tmp 3] }
def Zxm(ms:List AV)(ks:List AV)(rs:List AV)(i:Int):List AFrame:=[(ZqQ ms ks rs i)]
theorem Zn5(ms:List AV)(ks:List AV)(rs:List AV)(i:Int):ZaD tab 30 [AV.int .i64 i,AV.eptr (AV.agg (Row.gen [.list (Row.big .str ms), .list (Row.big (.agg [.str, .int .i64]) ks), .list (Row.big (.agg [.str, .int .i64, .int .i64, .int .i64, .int .i64]) rs)])) 0]=some (ZqQ ms ks rs i):=rfl
theorem Zu5(A:Ar)(ms ks rs:List AV)(i:Int):ZaQ A tab B1 16 [] 30 (Zxm ms ks rs i) []=
 some (tr [4,4] [Zag (Zag (A.le 0 i) (Nat.blt (A.nat i) (A.lenA ks))) true],
  AV.str ((A.nthA ks (A.nat i)).cellAt 0).toS,none):=by kernel_rfl
def Zte(ms:List AV)(ks:List AV)(rs:List AV)(i:Int):AFrame:={ fn:=33,N:=10,env:=[(0,AV.int .i64 i),(1,AV.eptr (AV.agg (Row.gen [.list (Row.big .str ms), .list (Row.big (.agg [.str, .int .i64]) ks), .list (Row.big (.agg [.str, .int .i64, .int .i64, .int .i64, .int .i64]) rs)])) 0)],todo:=[.code a33.code],defs:=[],rnd:=none,ret:=false,res:=[ARes.tmp 3] }
def ZwU(ms:List AV)(ks:List AV)(rs:List AV)(i:Int):List AFrame:=[(Zte ms ks rs i)]
theorem Zn8(ms:List AV)(ks:List AV)(rs:List AV)(i:Int):ZaD tab 33 [AV.int .i64 i,AV.eptr (AV.agg (Row.gen [.list (Row.big .str ms), .list (Row.big (.agg [.str, .int .i64]) ks), .list (Row.big (.agg [.str, .int .i64, .int .i64, .int .i64, .int .i64]) rs)])) 0]=some (Zte ms ks rs i):=rfl
theorem ZtI(A:Ar)(ms ks rs:List AV)(i:Int):ZaQ A tab B1 16 [] 33 (ZwU ms ks rs i) []=
 some (tr [4,4] [Zag (Zag (A.le 0 i) (Nat.blt (A.nat i) (A.lenA rs))) true],
  AV.str ((A.nthA rs (A.nat i)).cellAt 0).toS,none):=by kernel_rfl
def ZsA(xs:List AV):AFrame:={ fn:=36,N:=6,env:=[(0,AV.list (Row.big .str xs))],todo:=[.code a36.code],defs:=[],rnd:=none,ret:=false,res:=[ARes.tmp 2] }
def ZxF(xs:List AV):List AFrame:=[(ZsA xs)]
theorem Zqa(xs:List AV):ZaD tab 36 [AV.list (Row.big .str xs)]=some (ZsA xs):=rfl
theorem Zt7(A:Ar)(xs:List AV):ZaQ A tab B1 12 [] 36 (ZxF xs) []=
 some (tr [2,3] [Nat.ble (A.lenA xs) 4294967296],
  AV.list (Row.big .str xs),none):=by kernel_rfl
end Go.Proofs.YtkeoeooghhjibaaDoor
/- Contracts as a list. No condition. -/
namespace Go.Proofs.YtkeoeooghhjibaaDoor
def ZfS(n m:Int):Bool:=if n= -1 then true else Zaf n 0 (m-1)
def ZaV(ms:List AV)(i:Int):List UInt8:=(ms.getD i.toNat .top).toS
def Zav(ks:List AV)(i:Int):List UInt8:=((ks.getD i.toNat .top).cellAt 0).toS
theorem Znu(n m:Int)(h: -1000000≤m∧m≤1000000):Zas Tryd.prog 25 [.int .i64 n, .int .i64 m] (.bool (ZfS n m)) none:=
 start (ZoF n m) fun C hC=>by
  by_cases h1:n= -1
  ·exact fin hC Ziw (ZtE std n m) (by simp[h1]) (by simp[ZfS,h1]) rfl
  ·exact fin hC Ziw (ZvL std n m) (by simp[h1];omega) (by simp[ZfS,h1]) rfl
theorem Zlt(ms ks rs:List AV)(i:Int)(h:0≤i∧i<ms.length):Zas Tryd.prog 28 [.int .i64 i, .eptr (.agg (.gen [.list (.big .str ms), .list (.big (.agg [.str, .int .i64]) ks), .list (.big (.agg [.str, .int .i64, .int .i64, .int .i64, .int .i64]) rs)])) 0] (.str (ZaV ms i)) none:=
 start (Zpf ms ks rs i) fun C hC=>fin hC Ziw (ZvE std ms ks rs i) (by simp;omega) rfl rfl
theorem Zk0(ms ks rs:List AV)(i:Int)(h:0≤i∧i<ks.length):Zas Tryd.prog 30 [.int .i64 i, .eptr (.agg (.gen [.list (.big .str ms), .list (.big (.agg [.str, .int .i64]) ks), .list (.big (.agg [.str, .int .i64, .int .i64, .int .i64, .int .i64]) rs)])) 0] (.str (Zav ks i)) none:=
 start (Zn5 ms ks rs i) fun C hC=>fin hC Ziw (Zu5 std ms ks rs i) (by simp;omega) rfl rfl
theorem Zk5(ms ks rs:List AV)(i:Int)(h:0≤i∧i<rs.length):Zas Tryd.prog 33 [.int .i64 i, .eptr (.agg (.gen [.list (.big .str ms), .list (.big (.agg [.str, .int .i64]) ks), .list (.big (.agg [.str, .int .i64, .int .i64, .int .i64, .int .i64]) rs)])) 0] (.str (Zav rs i)) none:=
 start (Zn8 ms ks rs i) fun C hC=>fin hC Ziw (ZtI std ms ks rs i) (by simp;omega) rfl rfl
theorem Zmo(xs:List AV)(h:xs.length≤1000000):Zas Tryd.prog 36 [.list (.big .str xs)] (.list (.big .str xs)) none:=
 start (Zqa xs) fun C hC=>fin hC Ziw (Zt7 std xs) (by simp;omega) rfl rfl
def k25:Ctr:=⟨25,0,fun _ a=>match a with |[.int .i64 n, .int .i64 m]=>some (decide (-1000000≤m∧m≤1000000), .bool (ZfS n m),none) |_=>none⟩
theorem Zrz:k25.OK Tryd.prog:=fun pa args r fr h=>by
 simp only[k25]at h
 split at h
 ·simp only[Option.some.injEq,Prod.mk.injEq,decide_eq_true_eq]at h
  obtain⟨h0,rfl,rfl⟩:=h
  exact Znu _ _ h0
 ·cases h
def k28:Ctr:=⟨28,0,fun _ a=>match a with |[.int .i64 i, .eptr (.agg (.gen [.list (.big .str ms), .list (.big (.agg [.str, .int .i64]) ks), .list (.big (.agg [.str, .int .i64, .int .i64, .int .i64, .int .i64]) rs)])) 0]=>some (decide (0≤i∧i<ms.length), .str (ZaV ms i),none) |_=>none⟩
theorem ZrZ:k28.OK Tryd.prog:=fun pa args r fr h=>by
 simp only[k28]at h
 split at h
 ·simp only[Option.some.injEq,Prod.mk.injEq,decide_eq_true_eq]at h
  obtain⟨h0,rfl,rfl⟩:=h
  exact Zlt _ _ _ _ h0
 ·cases h
def k30:Ctr:=⟨30,0,fun _ a=>match a with |[.int .i64 i, .eptr (.agg (.gen [.list (.big .str ms), .list (.big (.agg [.str, .int .i64]) ks), .list (.big (.agg [.str, .int .i64, .int .i64, .int .i64, .int .i64]) rs)])) 0]=>some (decide (0≤i∧i<ks.length), .str (Zav ks i),none) |_=>none⟩
theorem ZqP:k30.OK Tryd.prog:=fun pa args r fr h=>by
 simp only[k30]at h
 split at h
 ·simp only[Option.some.injEq,Prod.mk.injEq,decide_eq_true_eq]at h
  obtain⟨h0,rfl,rfl⟩:=h
  exact Zk0 _ _ _ _ h0
 ·cases h
def k33:Ctr:=⟨33,0,fun _ a=>match a with |[.int .i64 i, .eptr (.agg (.gen [.list (.big .str ms), .list (.big (.agg [.str, .int .i64]) ks), .list (.big (.agg [.str, .int .i64, .int .i64, .int .i64, .int .i64]) rs)])) 0]=>some (decide (0≤i∧i<rs.length), .str (Zav rs i),none) |_=>none⟩
theorem Zsb:k33.OK Tryd.prog:=fun pa args r fr h=>by
 simp only[k33]at h
 split at h
 ·simp only[Option.some.injEq,Prod.mk.injEq,decide_eq_true_eq]at h
  obtain⟨h0,rfl,rfl⟩:=h
  exact Zk5 _ _ _ _ h0
 ·cases h
def k36:Ctr:=⟨36,0,fun _ a=>match a with |[.list (.big .str xs)]=>some (decide (xs.length≤1000000), .list (.big .str xs),none) |_=>none⟩
theorem ZqU:k36.OK Tryd.prog:=fun pa args r fr h=>by
 simp only[k36]at h
 split at h
 ·simp only[Option.some.injEq,Prod.mk.injEq,decide_eq_true_eq]at h
  obtain⟨h0,rfl,rfl⟩:=h
  exact Zmo _ h0
 ·cases h
def B2:List Ctr:=[k25,k28,k30,k33,k36]++B1
theorem ZfV:Za2 Tryd.prog B2:=⟨Zrz,⟨ZrZ,⟨ZqP,⟨Zsb,⟨ZqU,Ziw⟩⟩⟩⟩⟩
end Go.Proofs.YtkeoeooghhjibaaDoor
/- Paths of functions, printed by the explorer (Gx). No condition. -/
namespace Go.Proofs.YtkeoeooghhjibaaDoor
set_option maxRecDepth 100000
set_option linter.unusedVariables false
def Zsi(ms:List AV)(ks:List AV)(rs:List AV)(i:Int)(k:Int):AFrame:={ fn:=31,N:=16,env:=[(0,AV.int .i64 i),(1,AV.eptr (AV.fn 25 []) 0),(2,AV.eptr (AV.agg (Row.gen [.list (Row.big .str ms), .list (Row.big (.agg [.str, .int .i64]) ks), .list (Row.big (.agg [.str, .int .i64, .int .i64, .int .i64, .int .i64]) rs)])) 0),(3,AV.eptr (AV.int .i64 k) 0)],todo:=[.code a31.code],defs:=[],rnd:=none,ret:=false,res:=[ARes.tmp 5] }
def Zw3(ms:List AV)(ks:List AV)(rs:List AV)(i:Int)(k:Int):List AFrame:=[(Zsi ms ks rs i k)]
theorem ZpV(ms:List AV)(ks:List AV)(rs:List AV)(i:Int)(k:Int):ZaD tab 31 [AV.int .i64 i,AV.eptr (AV.fn 25 []) 0,AV.eptr (AV.agg (Row.gen [.list (Row.big .str ms), .list (Row.big (.agg [.str, .int .i64]) ks), .list (Row.big (.agg [.str, .int .i64, .int .i64, .int .i64, .int .i64]) rs)])) 0,AV.eptr (AV.int .i64 k) 0]=some (Zsi ms ks rs i k):=rfl
theorem Zua(A:Ar)(ms ks rs:List AV)(i k:Int):ZaQ A tab B2 8 [] 31 (Zw3 ms ks rs i k) []=
 some (tr [3,3,5] [decide (-1000000≤k∧k≤1000000),Zag (Zag (A.le 0 i) (Nat.blt (A.nat i) (A.lenA ks))) true],
  AV.int .i64 (Zaa (ZfS ((A.nthA ks (A.nat i)).cellAt 1).toI k) 6),none):=by kernel_rfl
def Zqq(ms:List AV)(ks:List AV)(rs:List AV)(i:Int)(n:Int)(m:Int):AFrame:={ fn:=34,N:=48,env:=[(0,AV.int .i64 i),(1,AV.eptr (AV.agg (Row.gen [.list (Row.big .str ms), .list (Row.big (.agg [.str, .int .i64]) ks), .list (Row.big (.agg [.str, .int .i64, .int .i64, .int .i64, .int .i64]) rs)])) 0),(2,AV.eptr (AV.int .i64 n) 0),(3,AV.eptr (AV.fn 25 []) 0),(4,AV.eptr (AV.int .i64 m) 0)],todo:=[.code a34.code],defs:=[],rnd:=none,ret:=false,res:=[ARes.tmp 6] }
def Zqn(ms:List AV)(ks:List AV)(rs:List AV)(i:Int)(n:Int)(m:Int):List AFrame:=[(Zqq ms ks rs i n m)]
theorem ZoA(ms:List AV)(ks:List AV)(rs:List AV)(i:Int)(n:Int)(m:Int):ZaD tab 34 [AV.int .i64 i,AV.eptr (AV.agg (Row.gen [.list (Row.big .str ms), .list (Row.big (.agg [.str, .int .i64]) ks), .list (Row.big (.agg [.str, .int .i64, .int .i64, .int .i64, .int .i64]) rs)])) 0,AV.eptr (AV.int .i64 n) 0,AV.eptr (AV.fn 25 []) 0,AV.eptr (AV.int .i64 m) 0]=some (Zqq ms ks rs i n m):=rfl
theorem Zut(A:Ar)(ms ks rs:List AV)(i n m:Int):ZaQ A tab B2 18 [true,true,true] 34 (Zqn ms ks rs i n m) []=
 some (tr [2,0,5,10,4,2,4,2,6,4] [decide (List.length [Zaa (ZfS ((A.nthA rs (A.nat i)).cellAt 3).toI n) 6,Zaa (Zaf ((A.nthA rs (A.nat i)).cellAt 4).toI 1 1000000) 2,0]≤1000000),List.all [AV.int .i64 (Zaa (ZfS ((A.nthA rs (A.nat i)).cellAt 3).toI n) 6),AV.int .i64 (Zaa (Zaf ((A.nthA rs (A.nat i)).cellAt 4).toI 1 1000000) 2),AV.int .i64 0] fun x=>AV.bx x&&Nat.beq (Zai A x) 1,A.not (A.eq ((A.nthA rs (A.nat i)).cellAt 3).toI (-1)),decide (-1000000≤n∧n≤1000000),ZfS ((A.nthA rs (A.nat i)).cellAt 2).toI m,decide (-1000000≤m∧m≤1000000),Zaf ((A.nthA rs (A.nat i)).cellAt 1).toI 0 (A.sub n 1),A.inR .i64 (A.sub n 1),Zag (Zag (A.le 0 i) (Nat.blt (A.nat i) (A.lenA rs))) true],
  AV.int .i64 (Zan [Zaa (ZfS ((A.nthA rs (A.nat i)).cellAt 3).toI n) 6,Zaa (Zaf ((A.nthA rs (A.nat i)).cellAt 4).toI 1 1000000) 2,0]),none):=by kernel_rfl
theorem ZvP(A:Ar)(ms ks rs:List AV)(i n m:Int):ZaQ A tab B2 18 [true,true,false] 34 (Zqn ms ks rs i n m) []=
 some (tr [2,0,5,10,4,2,4,2,6,4] [decide (List.length [Zaa (ZfS ((A.nthA rs (A.nat i)).cellAt 3).toI n) 6,Zaa (Zaf ((A.nthA rs (A.nat i)).cellAt 4).toI 1 1000000) 2,Zaa (A.eq ((A.nthA rs (A.nat i)).cellAt 4).toI 1) 3]≤1000000),List.all [AV.int .i64 (Zaa (ZfS ((A.nthA rs (A.nat i)).cellAt 3).toI n) 6),AV.int .i64 (Zaa (Zaf ((A.nthA rs (A.nat i)).cellAt 4).toI 1 1000000) 2),AV.int .i64 (Zaa (A.eq ((A.nthA rs (A.nat i)).cellAt 4).toI 1) 3)] fun x=>AV.bx x&&Nat.beq (Zai A x) 1,!A.not (A.eq ((A.nthA rs (A.nat i)).cellAt 3).toI (-1)),decide (-1000000≤n∧n≤1000000),ZfS ((A.nthA rs (A.nat i)).cellAt 2).toI m,decide (-1000000≤m∧m≤1000000),Zaf ((A.nthA rs (A.nat i)).cellAt 1).toI 0 (A.sub n 1),A.inR .i64 (A.sub n 1),Zag (Zag (A.le 0 i) (Nat.blt (A.nat i) (A.lenA rs))) true],
  AV.int .i64 (Zan [Zaa (ZfS ((A.nthA rs (A.nat i)).cellAt 3).toI n) 6,Zaa (Zaf ((A.nthA rs (A.nat i)).cellAt 4).toI 1 1000000) 2,Zaa (A.eq ((A.nthA rs (A.nat i)).cellAt 4).toI 1) 3]),none):=by kernel_rfl
theorem Zt9(A:Ar)(ms ks rs:List AV)(i n m:Int):ZaQ A tab B2 18 [true,false,true] 34 (Zqn ms ks rs i n m) []=
 some (tr [2,0,5,15,2,4,2,6,4] [decide (List.length [6,Zaa (Zaf ((A.nthA rs (A.nat i)).cellAt 4).toI 1 1000000) 2,0]≤1000000),List.all [AV.int .i64 6,AV.int .i64 (Zaa (Zaf ((A.nthA rs (A.nat i)).cellAt 4).toI 1 1000000) 2),AV.int .i64 0] fun x=>AV.bx x&&Nat.beq (Zai A x) 1,A.not (A.eq ((A.nthA rs (A.nat i)).cellAt 3).toI (-1)),!ZfS ((A.nthA rs (A.nat i)).cellAt 2).toI m,decide (-1000000≤m∧m≤1000000),Zaf ((A.nthA rs (A.nat i)).cellAt 1).toI 0 (A.sub n 1),A.inR .i64 (A.sub n 1),Zag (Zag (A.le 0 i) (Nat.blt (A.nat i) (A.lenA rs))) true],
  AV.int .i64 (Zan [6,Zaa (Zaf ((A.nthA rs (A.nat i)).cellAt 4).toI 1 1000000) 2,0]),none):=by kernel_rfl
theorem ZvM(A:Ar)(ms ks rs:List AV)(i n m:Int):ZaQ A tab B2 18 [true,false,false] 34 (Zqn ms ks rs i n m) []=
 some (tr [2,0,5,15,2,4,2,6,4] [decide (List.length [6,Zaa (Zaf ((A.nthA rs (A.nat i)).cellAt 4).toI 1 1000000) 2,Zaa (A.eq ((A.nthA rs (A.nat i)).cellAt 4).toI 1) 3]≤1000000),List.all [AV.int .i64 6,AV.int .i64 (Zaa (Zaf ((A.nthA rs (A.nat i)).cellAt 4).toI 1 1000000) 2),AV.int .i64 (Zaa (A.eq ((A.nthA rs (A.nat i)).cellAt 4).toI 1) 3)] fun x=>AV.bx x&&Nat.beq (Zai A x) 1,!A.not (A.eq ((A.nthA rs (A.nat i)).cellAt 3).toI (-1)),!ZfS ((A.nthA rs (A.nat i)).cellAt 2).toI m,decide (-1000000≤m∧m≤1000000),Zaf ((A.nthA rs (A.nat i)).cellAt 1).toI 0 (A.sub n 1),A.inR .i64 (A.sub n 1),Zag (Zag (A.le 0 i) (Nat.blt (A.nat i) (A.lenA rs))) true],
  AV.int .i64 (Zan [6,Zaa (Zaf ((A.nthA rs (A.nat i)).cellAt 4).toI 1 1000000) 2,Zaa (A.eq ((A.nthA rs (A.nat i)).cellAt 4).toI 1) 3]),none):=by kernel_rfl
theorem Zud(A:Ar)(ms ks rs:List AV)(i n m:Int):ZaQ A tab B2 18 [false,false,true] 34 (Zqn ms ks rs i n m) []=
 some (tr [2,0,5,23,2,6,4] [decide (List.length [6,Zaa (Zaf ((A.nthA rs (A.nat i)).cellAt 4).toI 1 1000000) 2,0]≤1000000),List.all [AV.int .i64 6,AV.int .i64 (Zaa (Zaf ((A.nthA rs (A.nat i)).cellAt 4).toI 1 1000000) 2),AV.int .i64 0] fun x=>AV.bx x&&Nat.beq (Zai A x) 1,A.not (A.eq ((A.nthA rs (A.nat i)).cellAt 3).toI (-1)),!Zaf ((A.nthA rs (A.nat i)).cellAt 1).toI 0 (A.sub n 1),A.inR .i64 (A.sub n 1),Zag (Zag (A.le 0 i) (Nat.blt (A.nat i) (A.lenA rs))) true],
  AV.int .i64 (Zan [6,Zaa (Zaf ((A.nthA rs (A.nat i)).cellAt 4).toI 1 1000000) 2,0]),none):=by kernel_rfl
theorem Zu8(A:Ar)(ms ks rs:List AV)(i n m:Int):ZaQ A tab B2 18 [false,false,false] 34 (Zqn ms ks rs i n m) []=
 some (tr [2,0,5,23,2,6,4] [decide (List.length [6,Zaa (Zaf ((A.nthA rs (A.nat i)).cellAt 4).toI 1 1000000) 2,Zaa (A.eq ((A.nthA rs (A.nat i)).cellAt 4).toI 1) 3]≤1000000),List.all [AV.int .i64 6,AV.int .i64 (Zaa (Zaf ((A.nthA rs (A.nat i)).cellAt 4).toI 1 1000000) 2),AV.int .i64 (Zaa (A.eq ((A.nthA rs (A.nat i)).cellAt 4).toI 1) 3)] fun x=>AV.bx x&&Nat.beq (Zai A x) 1,!A.not (A.eq ((A.nthA rs (A.nat i)).cellAt 3).toI (-1)),!Zaf ((A.nthA rs (A.nat i)).cellAt 1).toI 0 (A.sub n 1),A.inR .i64 (A.sub n 1),Zag (Zag (A.le 0 i) (Nat.blt (A.nat i) (A.lenA rs))) true],
  AV.int .i64 (Zan [6,Zaa (Zaf ((A.nthA rs (A.nat i)).cellAt 4).toI 1 1000000) 2,Zaa (A.eq ((A.nthA rs (A.nat i)).cellAt 4).toI 1) 3]),none):=by kernel_rfl
def Zv5(ms:List AV)(ks:List AV)(rs:List AV):AFrame:={ fn:=8,N:=15,env:=[(0,AV.agg (Row.gen [.list (Row.big .str ms), .list (Row.big (.agg [.str, .int .i64]) ks), .list (Row.big (.agg [.str, .int .i64, .int .i64, .int .i64, .int .i64]) rs)]))],todo:=[.code a8.code],defs:=[],rnd:=none,ret:=false,res:=[ARes.cell 2 true 3] }
def f8e(ms:List AV)(ks:List AV)(rs:List AV):List AFrame:=[(Zv5 ms ks rs)]
theorem Zss(ms:List AV)(ks:List AV)(rs:List AV):ZaD tab 8 [AV.agg (Row.gen [.list (Row.big .str ms), .list (Row.big (.agg [.str, .int .i64]) ks), .list (Row.big (.agg [.str, .int .i64, .int .i64, .int .i64, .int .i64]) rs)])]=some (Zv5 ms ks rs):=rfl
theorem Zxv(A:Ar)(ms ks rs:List AV):ZaQ A tab B2 9 [] 8 (f8e ms ks rs) []=
 some (tr [3,3,3,4] [Nat.ble (A.lenA rs) 4294967296,Nat.ble (A.lenA ks) 4294967296,decide (List.length ms≤1000000)],
  AV.agg (Row.gen [.list (Row.big .str ms), .list (Row.big (.agg [.str, .int .i64]) ks), .list (Row.big (.agg [.str, .int .i64, .int .i64, .int .i64, .int .i64]) rs)]),none):=by kernel_rfl
def ZrX(l:List AV):AFrame:={ fn:=10,N:=6,env:=[(0,AV.list (Row.big (.agg [.int .i64, .int .i64, .int .i64]) l))],todo:=[.code a10.code],defs:=[],rnd:=none,ret:=false,res:=[ARes.tmp 2] }
def ZxC(l:List AV):List AFrame:=[(ZrX l)]
theorem Zpa(l:List AV):ZaD tab 10 [AV.list (Row.big (.agg [.int .i64, .int .i64, .int .i64]) l)]=some (ZrX l):=rfl
theorem Zvy(A:Ar)(l:List AV):ZaQ A tab B2 12 [] 10 (ZxC l) []=
 some (tr [2,3] [Nat.ble (A.lenA l) 4294967296],
  AV.list (Row.big (.agg [.int .i64, .int .i64, .int .i64]) l),none):=by kernel_rfl
end Go.Proofs.YtkeoeooghhjibaaDoor
/- Contracts as a list. No condition. -/
namespace Go.Proofs.YtkeoeooghhjibaaDoor
def Zbd(xs:List AV)(i:Int)(j:Nat):Int:=((xs.getD i.toNat .top).cellAt j).toI
def Zb8(ks:List AV)(i k:Int):Int:=Zaa (ZfS (Zbd ks i 1) k) 6
def Zbw(rs:List AV)(i n m:Int):Int:=Zan [Zaa (Zaf (Zbd rs i 1) 0 (n-1)&&ZfS (Zbd rs i 2) m&&ZfS (Zbd rs i 3) n) 6,Zaa (Zaf (Zbd rs i 4) 1 1000000) 2,Zaa (decide (Zbd rs i 3≠ -1∨Zbd rs i 4=1)) 3]
theorem ZlV(ms ks rs:List AV)(i k:Int)(h:(0≤i∧i<ks.length)∧ -1000000≤k∧k≤1000000):Zas Tryd.prog 31 [.int .i64 i, .eptr (.fn 25 []) 0, .eptr (.agg (.gen [.list (.big .str ms), .list (.big (.agg [.str, .int .i64]) ks), .list (.big (.agg [.str, .int .i64, .int .i64, .int .i64, .int .i64]) rs)])) 0, .eptr (.int .i64 k) 0] (.int .i64 (Zb8 ks i k)) none:=
 start (ZpV ms ks rs i k) fun C hC=>fin hC ZfV (Zua std ms ks rs i k) (by simp;omega) rfl rfl
theorem Zmt(ms ks rs:List AV)(i n m:Int)(h:(0≤i∧i<rs.length)∧(-1000000≤n∧n≤1000000)∧ -1000000≤m∧m≤1000000):Zas Tryd.prog 34 [.int .i64 i, .eptr (.agg (.gen [.list (.big .str ms), .list (.big (.agg [.str, .int .i64]) ks), .list (.big (.agg [.str, .int .i64, .int .i64, .int .i64, .int .i64]) rs)])) 0, .eptr (.int .i64 n) 0, .eptr (.fn 25 []) 0, .eptr (.int .i64 m) 0] (.int .i64 (Zbw rs i n m)) none:=
 start (ZoA ms ks rs i n m) fun C hC=>by
  have hb:∀x y z:Int,([AV.int .i64 x,AV.int .i64 y,AV.int .i64 z].all fun x=>AV.bx x&&Nat.beq (Zai std x) 1)=true:=fun _ _ _=>rfl
  have e1:((rs.getD i.toNat .top).cellAt 1).toI=Zbd rs i 1:=rfl
  have e2:((rs.getD i.toNat .top).cellAt 2).toI=Zbd rs i 2:=rfl
  have e3:((rs.getD i.toNat .top).cellAt 3).toI=Zbd rs i 3:=rfl
  have e4:((rs.getD i.toNat .top).cellAt 4).toI=Zbd rs i 4:=rfl
  have hi:i.toNat<rs.length:=by omega
  by_cases h1:Zaf (Zbd rs i 1) 0 (n-1)=true
  ·by_cases h2:ZfS (Zbd rs i 2) m=true
   ·by_cases h3:Zbd rs i 3= -1
    ·exact fin hC ZfV (ZvP std ms ks rs i n m) (by simp only[hb];simp[-List.getD_eq_getElem?_getD,e1,e2,e3,e4,h1,h2,h3];omega) (by simp[-List.getD_eq_getElem?_getD,Zbw,e1,e2,e3,e4,h1,h2,h3]) rfl
    ·exact fin hC ZfV (Zut std ms ks rs i n m) (by simp only[hb];simp[-List.getD_eq_getElem?_getD,e1,e2,e3,e4,h1,h2,h3];omega) (by simp[-List.getD_eq_getElem?_getD,Zbw,e1,e2,e3,e4,h1,h2,h3,Zaa]) rfl
   ·by_cases h3:Zbd rs i 3= -1
    ·exact fin hC ZfV (ZvM std ms ks rs i n m) (by simp only[hb];simp[-List.getD_eq_getElem?_getD,e1,e2,e3,e4,h1,h2,h3];omega) (by simp[-List.getD_eq_getElem?_getD,Zbw,e1,e2,e3,e4,h1,h2,h3,Zaa]) rfl
    ·exact fin hC ZfV (Zt9 std ms ks rs i n m) (by simp only[hb];simp[-List.getD_eq_getElem?_getD,e1,e2,e3,e4,h1,h2,h3];omega) (by simp[-List.getD_eq_getElem?_getD,Zbw,e1,e2,e3,e4,h1,h2,h3,Zaa]) rfl
  ·by_cases h3:Zbd rs i 3= -1
   ·exact fin hC ZfV (Zu8 std ms ks rs i n m) (by simp only[hb];simp[-List.getD_eq_getElem?_getD,e1,e2,e3,e4,h1,h3];omega) (by simp[-List.getD_eq_getElem?_getD,Zbw,e1,e2,e3,e4,h1,h3,Zaa]) rfl
   ·exact fin hC ZfV (Zud std ms ks rs i n m) (by simp only[hb];simp[-List.getD_eq_getElem?_getD,e1,e2,e3,e4,h1,h3];omega) (by simp[-List.getD_eq_getElem?_getD,Zbw,e1,e2,e3,e4,h1,h3,Zaa]) rfl
theorem ZmH(ms ks rs:List AV)(h:ms.length≤1000000∧ks.length≤1000000∧rs.length≤1000000):Zas Tryd.prog 8 [.agg (.gen [.list (.big .str ms), .list (.big (.agg [.str, .int .i64]) ks), .list (.big (.agg [.str, .int .i64, .int .i64, .int .i64, .int .i64]) rs)])] (.agg (.gen [.list (.big .str ms), .list (.big (.agg [.str, .int .i64]) ks), .list (.big (.agg [.str, .int .i64, .int .i64, .int .i64, .int .i64]) rs)])) none:=
 start (Zss ms ks rs) fun C hC=>fin hC ZfV (Zxv std ms ks rs) (by simp;omega) rfl rfl
theorem Zk4(l:List AV)(h:l.length≤1000000):Zas Tryd.prog 10 [.list (.big (.agg [.int .i64, .int .i64, .int .i64]) l)] (.list (.big (.agg [.int .i64, .int .i64, .int .i64]) l)) none:=
 start (Zpa l) fun C hC=>fin hC ZfV (Zvy std l) (by simp;omega) rfl rfl
def k31:Ctr:=⟨31,0,fun _ a=>match a with |[.int .i64 i, .eptr (.fn 25 []) 0, .eptr (.agg (.gen [.list (.big .str ms), .list (.big (.agg [.str, .int .i64]) ks), .list (.big (.agg [.str, .int .i64, .int .i64, .int .i64, .int .i64]) rs)])) 0, .eptr (.int .i64 k) 0]=>some (decide ((0≤i∧i<ks.length)∧ -1000000≤k∧k≤1000000), .int .i64 (Zb8 ks i k),none) |_=>none⟩
theorem ZsB:k31.OK Tryd.prog:=fun pa args r fr h=>by
 simp only[k31]at h
 split at h
 ·simp only[Option.some.injEq,Prod.mk.injEq,decide_eq_true_eq]at h
  obtain⟨h0,rfl,rfl⟩:=h
  exact ZlV _ _ _ _ _ h0
 ·cases h
def k34:Ctr:=⟨34,0,fun _ a=>match a with |[.int .i64 i, .eptr (.agg (.gen [.list (.big .str ms), .list (.big (.agg [.str, .int .i64]) ks), .list (.big (.agg [.str, .int .i64, .int .i64, .int .i64, .int .i64]) rs)])) 0, .eptr (.int .i64 n) 0, .eptr (.fn 25 []) 0, .eptr (.int .i64 m) 0]=>some (decide ((0≤i∧i<rs.length)∧(-1000000≤n∧n≤1000000)∧ -1000000≤m∧m≤1000000), .int .i64 (Zbw rs i n m),none) |_=>none⟩
theorem Ztb:k34.OK Tryd.prog:=fun pa args r fr h=>by
 simp only[k34]at h
 split at h
 ·simp only[Option.some.injEq,Prod.mk.injEq,decide_eq_true_eq]at h
  obtain⟨h0,rfl,rfl⟩:=h
  exact Zmt _ _ _ _ _ _ h0
 ·cases h
def k8:Ctr:=⟨8,0,fun _ a=>match a with |[.agg (.gen [.list (.big .str ms), .list (.big (.agg [.str, .int .i64]) ks), .list (.big (.agg [.str, .int .i64, .int .i64, .int .i64, .int .i64]) rs)])]=>some (decide (ms.length≤1000000∧ks.length≤1000000∧rs.length≤1000000), .agg (.gen [.list (.big .str ms), .list (.big (.agg [.str, .int .i64]) ks), .list (.big (.agg [.str, .int .i64, .int .i64, .int .i64, .int .i64]) rs)]),none) |_=>none⟩
theorem ZvB:k8.OK Tryd.prog:=fun pa args r fr h=>by
 simp only[k8]at h
 split at h
 ·simp only[Option.some.injEq,Prod.mk.injEq,decide_eq_true_eq]at h
  obtain⟨h0,rfl,rfl⟩:=h
  exact ZmH _ _ _ h0
 ·cases h
def k10:Ctr:=⟨10,0,fun _ a=>match a with |[.list (.big (.agg [.int .i64, .int .i64, .int .i64]) l)]=>some (decide (l.length≤1000000), .list (.big (.agg [.int .i64, .int .i64, .int .i64]) l),none) |_=>none⟩
theorem Zs5:k10.OK Tryd.prog:=fun pa args r fr h=>by
 simp only[k10]at h
 split at h
 ·simp only[Option.some.injEq,Prod.mk.injEq,decide_eq_true_eq]at h
  obtain⟨h0,rfl,rfl⟩:=h
  exact Zk4 _ h0
 ·cases h
def B3:List Ctr:=[k31,k34,k8,k10]++B2
theorem ZaU:Za2 Tryd.prog B3:=⟨ZsB,⟨Ztb,⟨ZvB,⟨Zs5,ZfV⟩⟩⟩⟩
end Go.Proofs.YtkeoeooghhjibaaDoor
