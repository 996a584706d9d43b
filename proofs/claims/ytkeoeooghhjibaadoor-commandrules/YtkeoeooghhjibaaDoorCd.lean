/- Paths of functions, printed by the explorer (Gx). No condition. -/
import Derived.Test.YtkeoeooghhjibaaDoorTi
import Derived.KernelRfl
namespace Go.Proofs.YtkeoeooghhjibaaDoor
set_option maxRecDepth 100000
set_option linter.unusedVariables false
def ZqZ(n:Int)(a:Int)(b:Int):AFrame:={ fn:=17,N:=15,env:=[(0,AV.int .i64 n),(1,AV.int .i64 a),(2,AV.int .i64 b)],todo:=[.code a17.code],defs:=[],rnd:=none,ret:=false,res:=[ARes.tmp 6] }
def ZwO(n:Int)(a:Int)(b:Int):List AFrame:=[(ZqZ n a b)]
theorem ZpU(n:Int)(a:Int)(b:Int):ZaC tab 17 [AV.int .i64 n,AV.int .i64 a,AV.int .i64 b]=some (ZqZ n a b):=rfl
theorem Zvp(A:Ar)(n a b:Int):ZaT A tab E0 18 [true,true,true,true] 17 (ZwO n a b) []=
 some (tr [9,5] [A.le a n],
  AV.bool (A.le n b),none):=by kernel_rfl
theorem ZvC(A:Ar)(n a b:Int):ZaT A tab E0 18 [false,false,false,false] 17 (ZwO n a b) []=
 some (tr [9,5] [!A.le a n],
  AV.bool false,none):=by kernel_rfl
def Zrc(n:Int)(a:Int)(b:Int):AFrame:={ fn:=26,N:=15,env:=[(0,AV.int .i64 n),(1,AV.int .i64 a),(2,AV.int .i64 b)],todo:=[.code a26.code],defs:=[],rnd:=none,ret:=false,res:=[ARes.tmp 6] }
def ZwT(n:Int)(a:Int)(b:Int):List AFrame:=[(Zrc n a b)]
theorem Zo4(n:Int)(a:Int)(b:Int):ZaC tab 26 [AV.int .i64 n,AV.int .i64 a,AV.int .i64 b]=some (Zrc n a b):=rfl
theorem Zun(A:Ar)(n a b:Int):ZaT A tab E0 18 [true,true,true,true] 26 (ZwT n a b) []=
 some (tr [9,5] [A.le a n],
  AV.bool (A.le n b),none):=by kernel_rfl
theorem Zwd(A:Ar)(n a b:Int):ZaT A tab E0 18 [false,false,false,false] 26 (ZwT n a b) []=
 some (tr [9,5] [!A.le a n],
  AV.bool false,none):=by kernel_rfl
def ZtU(b:Bool)(e:Int):AFrame:={ fn:=32,N:=7,env:=[(0,AV.bool b),(1,AV.int .i64 e)],todo:=[.code a32.code],defs:=[],rnd:=none,ret:=false,res:=[ARes.tmp 4] }
def Zxc(b:Bool)(e:Int):List AFrame:=[(ZtU b e)]
theorem ZpG(b:Bool)(e:Int):ZaC tab 32 [AV.bool b,AV.int .i64 e]=some (ZtU b e):=rfl
theorem ZrX(A:Ar)(b:Bool)(e:Int):ZaT A tab E0 15 [true] 32 (Zxc b e) []=
 some (tr [2,2] [b],
  AV.int .i64 0,none):=by kernel_rfl
theorem Zr6(A:Ar)(b:Bool)(e:Int):ZaT A tab E0 17 [false] 32 (Zxc b e) []=
 some (tr [3,2] [!b],
  AV.int .i64 e,none):=by kernel_rfl
def Zr9(xs:List Int):AFrame:={ fn:=35,N:=15,env:=[(0,AV.list (.ints .i64 xs))],todo:=[.code a35.code],defs:=[],rnd:=none,ret:=false,res:=[ARes.tmp 2] }
def Zxo(xs:List Int):List AFrame:=[(Zr9 xs)]
theorem Zql(xs:List Int):ZaC tab 35 [AV.list (.ints .i64 xs)]=some (Zr9 xs):=rfl
def Zcv(xs:List Int)(n0 n1:Int):List AFrame:=[{ fn:=35,N:=15,env:=[(5,AV.list (.ints .i64 xs)),(6,AV.int .i64 n0),(7,AV.int .i64 n1)],todo:=.code (ACode.gh [] ZqT)::Zt9,defs:=[],rnd:=none,ret:=false,res:=[ARes.tmp 2] }]
def Zb1(xs:List Int)(n0:Int)(n1:Int):Zab:=[]
abbrev ZgJ(xs:List Int)(n0:Int)(n1:Int):List AFrame×Zab:=(Zcv xs n0 n1,Zb1 xs n0 n1)
theorem Zvo(A:Ar)(xs:List Int):Zav A tab E0 14 [] (Zxo xs) []=
 some (tr [4] [],
  ZgJ (xs) (A.int (A.len xs)) (0)):=by kernel_rfl
theorem Zu2(A:Ar)(xs:List Int)(n0 n1:Int):ZaT A tab E0 28 [true,true] 35 (Zcv xs n0 n1) (Zb1 xs n0 n1)=
 some (tr [3,4,0,1] [A.not (A.eq (A.nth xs (A.nat n1)) 0),Zag (Zag (A.le 0 n1) (Nat.blt (A.nat n1) (A.len xs))) true,A.lt n1 n0],
  AV.int .i64 (A.nth xs (A.nat n1)),none):=by kernel_rfl
theorem Zvq(A:Ar)(xs:List Int)(n0 n1:Int):Zav A tab E0 30 [true,false] (Zcv xs n0 n1) (Zb1 xs n0 n1)=
 some (tr [1,0,4,0,1] [A.inR .i64 (A.add n1 1),!A.not (A.eq (A.nth xs (A.nat n1)) 0),Zag (Zag (A.le 0 n1) (Nat.blt (A.nat n1) (A.len xs))) true,A.lt n1 n0],
  ZgJ (xs) (n0) (A.add n1 1)):=by kernel_rfl
theorem Zvl(A:Ar)(xs:List Int)(n0 n1:Int):ZaT A tab E0 13 [false] 35 (Zcv xs n0 n1) (Zb1 xs n0 n1)=
 some (tr [2,1] [!A.lt n1 n0],
  AV.int .i64 0,none):=by kernel_rfl
def Zq2(xs:List AV)(s:List UInt8):AFrame:={ fn:=41,N:=18,env:=[(0,AV.list (Row.big .str xs)),(1,AV.str s)],todo:=[.code a41.code],defs:=[],rnd:=none,ret:=false,res:=[ARes.tmp 4] }
def ZxU(xs:List AV)(s:List UInt8):List AFrame:=[(Zq2 xs s)]
theorem ZoD(xs:List AV)(s:List UInt8):ZaC tab 41 [AV.list (Row.big .str xs),AV.str s]=some (Zq2 xs s):=rfl
def ZcB(xs:List AV)(s:List UInt8)(n0:Int):List AFrame:=[{ fn:=41,N:=18,env:=[(0,AV.list (Row.big .str xs)),(1,AV.str s),(5,AV.int .i64 n0)],todo:=.code (ACode.gh [] ZoG)::Zro,defs:=[],rnd:=none,ret:=false,res:=[ARes.tmp 4] }]
def Zb9(xs:List AV)(s:List UInt8)(n0:Int):Zab:=[]
abbrev ZgA(xs:List AV)(s:List UInt8)(n0:Int):List AFrame×Zab:=(ZcB xs s n0,Zb9 xs s n0)
theorem ZuL(A:Ar)(xs:List AV)(s:List UInt8):Zav A tab E0 12 [] (ZxU xs s) []=
 some (tr [2] [],
  ZgA (xs) (s) (0)):=by kernel_rfl
theorem Zup(A:Ar)(xs:List AV)(s:List UInt8)(n0:Int):ZaT A tab E0 28 [true,true] 41 (ZcB xs s n0) (Zb9 xs s n0)=
 some (tr [2,3,2,4] [A.eqS (AV.toS (A.nthA xs (A.nat n0))) s,Zag (Zag (A.le 0 n0) (Nat.blt (A.nat n0) (A.lenA xs))) true,A.lt n0 (A.int (A.lenA xs))],
  AV.bool true,none):=by kernel_rfl
theorem ZvV(A:Ar)(xs:List AV)(s:List UInt8)(n0:Int):Zav A tab E0 32 [true,false] (ZcB xs s n0) (Zb9 xs s n0)=
 some (tr [1,1,3,2,4] [A.inR .i64 (A.add n0 1),!A.eqS (AV.toS (A.nthA xs (A.nat n0))) s,Zag (Zag (A.le 0 n0) (Nat.blt (A.nat n0) (A.lenA xs))) true,A.lt n0 (A.int (A.lenA xs))],
  ZgA (xs) (s) (A.add n0 1)):=by kernel_rfl
theorem Zwt(A:Ar)(xs:List AV)(s:List UInt8)(n0:Int):ZaT A tab E0 16 [false] 41 (ZcB xs s n0) (Zb9 xs s n0)=
 some (tr [2,4] [!A.lt n0 (A.int (A.lenA xs))],
  AV.bool false,none):=by kernel_rfl
def Zst(s:List UInt8):AFrame:={ fn:=40,N:=55,env:=[(0,AV.str s)],todo:=[.code a40.code],defs:=[],rnd:=none,ret:=false,res:=[ARes.tmp 2] }
def ZuK(s:List UInt8):List AFrame:=[(Zst s)]
theorem ZoE(s:List UInt8):ZaC tab 40 [AV.str s]=some (Zst s):=rfl
def Zaq(s:List UInt8)(n0:Int):List AFrame:=[{ fn:=40,N:=55,env:=[(0,AV.str s),(3,AV.int .i64 n0)],todo:=.code (ACode.gh [] ZqU)::ZvP,defs:=[],rnd:=none,ret:=false,res:=[ARes.tmp 2] }]
def Zal(s:List UInt8)(n0:Int):Zab:=[]
abbrev ZaL(s:List UInt8)(n0:Int):List AFrame×Zab:=(Zaq s n0,Zal s n0)
theorem ZuJ(A:Ar)(s:List UInt8):ZaT A tab E0 23 [true,true,true,true,true] 40 (ZuK s) []=
 some (tr [10,5] [A.lt (A.int (A.lenS s)) 1],
  AV.bool false,none):=by kernel_rfl
theorem ZuP(A:Ar)(s:List UInt8):ZaT A tab E0 23 [false,false,false,false,true] 40 (ZuK s) []=
 some (tr [2,7,5] [A.lt 12 (A.int (A.lenS s)),!A.lt (A.int (A.lenS s)) 1],
  AV.bool false,none):=by kernel_rfl
theorem ZvU(A:Ar)(s:List UInt8):Zav A tab E0 27 [false,false,false,false,false] (ZuK s) []=
 some (tr [1,7,5] [!A.lt 12 (A.int (A.lenS s)),!A.lt (A.int (A.lenS s)) 1],
  ZaL (s) (0)):=by kernel_rfl
theorem Zu0(A:Ar)(s:List UInt8)(n0:Int):Zav A tab E0 71 [true,true,true,true,true,true,true,true,true,false,false,false,false,false,false] (Zaq s n0) (Zal s n0)=
 some (tr [1,21,15,6,4,2,4] [A.inR .i64 (A.add n0 1),!A.not true,A.le (A.nthS s (A.nat n0)) 122,A.le 97 (A.nthS s (A.nat n0)),Zag (A.le 0 n0) (Nat.blt (A.nat n0) (A.lenS s)),A.lt n0 (A.int (A.lenS s))],
  ZaL (s) (A.add n0 1)):=by kernel_rfl
theorem Zvv(A:Ar)(s:List UInt8)(n0:Int):ZaT A tab E0 67 [true,true,true,true,false,false,false,true,true,false,true,false,true,true,true,true,true,true,true,true,true,true,true] 40 (Zaq s n0) (Zal s n0)=
 some (tr [21,5,12,5,6,4,2,4] [A.eq n0 0,A.not (A.le (A.nthS s (A.nat n0)) 90),A.le 65 (A.nthS s (A.nat n0)),!A.le (A.nthS s (A.nat n0)) 122,A.le 97 (A.nthS s (A.nat n0)),Zag (A.le 0 n0) (Nat.blt (A.nat n0) (A.lenS s)),A.lt n0 (A.int (A.lenS s))],
  AV.bool false,none):=by kernel_rfl
theorem Zu3(A:Ar)(s:List UInt8)(n0:Int):ZaT A tab E0 67 [true,true,true,true,false,false,false,true,true,false,true,false,true,true,true,false,false,false,true,true,true,true,true,true,true,false,true,true,false,true,true] 40 (Zaq s n0) (Zal s n0)=
 some (tr [17,5,5,5,12,5,6,4,2,4] [A.lt (A.nthS s (A.nat n0)) 48,A.not (A.eq (A.nthS s (A.nat n0)) 45),!A.eq n0 0,A.not (A.le (A.nthS s (A.nat n0)) 90),A.le 65 (A.nthS s (A.nat n0)),!A.le (A.nthS s (A.nat n0)) 122,A.le 97 (A.nthS s (A.nat n0)),Zag (A.le 0 n0) (Nat.blt (A.nat n0) (A.lenS s)),A.lt n0 (A.int (A.lenS s))],
  AV.bool false,none):=by kernel_rfl
theorem ZuW(A:Ar)(s:List UInt8)(n0:Int):ZaT A tab E0 67 [true,true,true,true,false,false,false,true,true,false,true,false,true,true,true,false,false,false,true,true,true,false,false,true,false,false,true,true,false,true,true] 40 (Zaq s n0) (Zal s n0)=
 some (tr [2,14,5,5,5,12,5,6,4,2,4] [A.lt 57 (A.nthS s (A.nat n0)),!A.lt (A.nthS s (A.nat n0)) 48,A.not (A.eq (A.nthS s (A.nat n0)) 45),!A.eq n0 0,A.not (A.le (A.nthS s (A.nat n0)) 90),A.le 65 (A.nthS s (A.nat n0)),!A.le (A.nthS s (A.nat n0)) 122,A.le 97 (A.nthS s (A.nat n0)),Zag (A.le 0 n0) (Nat.blt (A.nat n0) (A.lenS s)),A.lt n0 (A.int (A.lenS s))],
  AV.bool false,none):=by kernel_rfl
theorem Zv0(A:Ar)(s:List UInt8)(n0:Int):Zav A tab E0 71 [true,true,true,true,false,false,false,true,true,false,true,false,true,true,true,false,false,false,true,true,true,false,false,true,false,false,true,true,false,true,false] (Zaq s n0) (Zal s n0)=
 some (tr [1,1,14,5,5,5,12,5,6,4,2,4] [A.inR .i64 (A.add n0 1),!A.lt 57 (A.nthS s (A.nat n0)),!A.lt (A.nthS s (A.nat n0)) 48,A.not (A.eq (A.nthS s (A.nat n0)) 45),!A.eq n0 0,A.not (A.le (A.nthS s (A.nat n0)) 90),A.le 65 (A.nthS s (A.nat n0)),!A.le (A.nthS s (A.nat n0)) 122,A.le 97 (A.nthS s (A.nat n0)),Zag (A.le 0 n0) (Nat.blt (A.nat n0) (A.lenS s)),A.lt n0 (A.int (A.lenS s))],
  ZaL (s) (A.add n0 1)):=by kernel_rfl
theorem ZvR(A:Ar)(s:List UInt8)(n0:Int):Zav A tab E0 71 [true,true,true,true,false,false,false,true,true,false,true,false,true,true,true,false,false,false,false,false,false,false,false,false,true,false,true,false] (Zaq s n0) (Zal s n0)=
 some (tr [1,19,5,5,12,5,6,4,2,4] [A.inR .i64 (A.add n0 1),!A.not (A.eq (A.nthS s (A.nat n0)) 45),!A.eq n0 0,A.not (A.le (A.nthS s (A.nat n0)) 90),A.le 65 (A.nthS s (A.nat n0)),!A.le (A.nthS s (A.nat n0)) 122,A.le 97 (A.nthS s (A.nat n0)),Zag (A.le 0 n0) (Nat.blt (A.nat n0) (A.lenS s)),A.lt n0 (A.int (A.lenS s))],
  ZaL (s) (A.add n0 1)):=by kernel_rfl
theorem Zwe(A:Ar)(s:List UInt8)(n0:Int):Zav A tab E0 71 [true,true,true,true,false,false,false,true,true,false,true,false,false,false,false,false,false,false] (Zaq s n0) (Zal s n0)=
 some (tr [1,21,12,5,6,4,2,4] [A.inR .i64 (A.add n0 1),!A.not (A.le (A.nthS s (A.nat n0)) 90),A.le 65 (A.nthS s (A.nat n0)),!A.le (A.nthS s (A.nat n0)) 122,A.le 97 (A.nthS s (A.nat n0)),Zag (A.le 0 n0) (Nat.blt (A.nat n0) (A.lenS s)),A.lt n0 (A.int (A.lenS s))],
  ZaL (s) (A.add n0 1)):=by kernel_rfl
theorem ZtT(A:Ar)(s:List UInt8)(n0:Int):ZaT A tab E0 67 [true,true,true,true,false,false,false,false,false,false,false,false,true,true,true,true,true,true,true,true,true,true,true] 40 (Zaq s n0) (Zal s n0)=
 some (tr [21,5,12,5,6,4,2,4] [A.eq n0 0,A.not false,!A.le 65 (A.nthS s (A.nat n0)),!A.le (A.nthS s (A.nat n0)) 122,A.le 97 (A.nthS s (A.nat n0)),Zag (A.le 0 n0) (Nat.blt (A.nat n0) (A.lenS s)),A.lt n0 (A.int (A.lenS s))],
  AV.bool false,none):=by kernel_rfl
theorem Zti(A:Ar)(s:List UInt8)(n0:Int):ZaT A tab E0 67 [true,true,true,true,false,false,false,false,false,false,false,false,true,true,true,false,false,false,true,true,true,true,true,true,true,false,true,true,false,true,true] 40 (Zaq s n0) (Zal s n0)=
 some (tr [17,5,5,5,12,5,6,4,2,4] [A.lt (A.nthS s (A.nat n0)) 48,A.not (A.eq (A.nthS s (A.nat n0)) 45),!A.eq n0 0,A.not false,!A.le 65 (A.nthS s (A.nat n0)),!A.le (A.nthS s (A.nat n0)) 122,A.le 97 (A.nthS s (A.nat n0)),Zag (A.le 0 n0) (Nat.blt (A.nat n0) (A.lenS s)),A.lt n0 (A.int (A.lenS s))],
  AV.bool false,none):=by kernel_rfl
theorem ZqY(A:Ar)(s:List UInt8)(n0:Int):ZaT A tab E0 67 [true,true,true,true,false,false,false,false,false,false,false,false,true,true,true,false,false,false,true,true,true,false,false,true,false,false,true,true,false,true,true] 40 (Zaq s n0) (Zal s n0)=
 some (tr [2,14,5,5,5,12,5,6,4,2,4] [A.lt 57 (A.nthS s (A.nat n0)),!A.lt (A.nthS s (A.nat n0)) 48,A.not (A.eq (A.nthS s (A.nat n0)) 45),!A.eq n0 0,A.not false,!A.le 65 (A.nthS s (A.nat n0)),!A.le (A.nthS s (A.nat n0)) 122,A.le 97 (A.nthS s (A.nat n0)),Zag (A.le 0 n0) (Nat.blt (A.nat n0) (A.lenS s)),A.lt n0 (A.int (A.lenS s))],
  AV.bool false,none):=by kernel_rfl
theorem ZqQ(A:Ar)(s:List UInt8)(n0:Int):Zav A tab E0 71 [true,true,true,true,false,false,false,false,false,false,false,false,true,true,true,false,false,false,true,true,true,false,false,true,false,false,true,true,false,true,false] (Zaq s n0) (Zal s n0)=
 some (tr [1,1,14,5,5,5,12,5,6,4,2,4] [A.inR .i64 (A.add n0 1),!A.lt 57 (A.nthS s (A.nat n0)),!A.lt (A.nthS s (A.nat n0)) 48,A.not (A.eq (A.nthS s (A.nat n0)) 45),!A.eq n0 0,A.not false,!A.le 65 (A.nthS s (A.nat n0)),!A.le (A.nthS s (A.nat n0)) 122,A.le 97 (A.nthS s (A.nat n0)),Zag (A.le 0 n0) (Nat.blt (A.nat n0) (A.lenS s)),A.lt n0 (A.int (A.lenS s))],
  ZaL (s) (A.add n0 1)):=by kernel_rfl
theorem Zts(A:Ar)(s:List UInt8)(n0:Int):Zav A tab E0 71 [true,true,true,true,false,false,false,false,false,false,false,false,true,true,true,false,false,false,false,false,false,false,false,false,true,false,true,false] (Zaq s n0) (Zal s n0)=
 some (tr [1,19,5,5,12,5,6,4,2,4] [A.inR .i64 (A.add n0 1),!A.not (A.eq (A.nthS s (A.nat n0)) 45),!A.eq n0 0,A.not false,!A.le 65 (A.nthS s (A.nat n0)),!A.le (A.nthS s (A.nat n0)) 122,A.le 97 (A.nthS s (A.nat n0)),Zag (A.le 0 n0) (Nat.blt (A.nat n0) (A.lenS s)),A.lt n0 (A.int (A.lenS s))],
  ZaL (s) (A.add n0 1)):=by kernel_rfl
theorem Zr2(A:Ar)(s:List UInt8)(n0:Int):ZaT A tab E0 67 [true,false,false,false,false,false,false,true,true,false,true,false,true,true,true,true,true,true,true,true,true,true,true] 40 (Zaq s n0) (Zal s n0)=
 some (tr [21,5,12,12,4,2,4] [A.eq n0 0,A.not (A.le (A.nthS s (A.nat n0)) 90),A.le 65 (A.nthS s (A.nat n0)),!A.le 97 (A.nthS s (A.nat n0)),Zag (A.le 0 n0) (Nat.blt (A.nat n0) (A.lenS s)),A.lt n0 (A.int (A.lenS s))],
  AV.bool false,none):=by kernel_rfl
theorem ZsW(A:Ar)(s:List UInt8)(n0:Int):ZaT A tab E0 67 [true,false,false,false,false,false,false,true,true,false,true,false,true,true,true,false,false,false,true,true,true,true,true,true,true,false,true,true,false,true,true] 40 (Zaq s n0) (Zal s n0)=
 some (tr [17,5,5,5,12,12,4,2,4] [A.lt (A.nthS s (A.nat n0)) 48,A.not (A.eq (A.nthS s (A.nat n0)) 45),!A.eq n0 0,A.not (A.le (A.nthS s (A.nat n0)) 90),A.le 65 (A.nthS s (A.nat n0)),!A.le 97 (A.nthS s (A.nat n0)),Zag (A.le 0 n0) (Nat.blt (A.nat n0) (A.lenS s)),A.lt n0 (A.int (A.lenS s))],
  AV.bool false,none):=by kernel_rfl
theorem ZrY(A:Ar)(s:List UInt8)(n0:Int):ZaT A tab E0 67 [true,false,false,false,false,false,false,true,true,false,true,false,true,true,true,false,false,false,true,true,true,false,false,true,false,false,true,true,false,true,true] 40 (Zaq s n0) (Zal s n0)=
 some (tr [2,14,5,5,5,12,12,4,2,4] [A.lt 57 (A.nthS s (A.nat n0)),!A.lt (A.nthS s (A.nat n0)) 48,A.not (A.eq (A.nthS s (A.nat n0)) 45),!A.eq n0 0,A.not (A.le (A.nthS s (A.nat n0)) 90),A.le 65 (A.nthS s (A.nat n0)),!A.le 97 (A.nthS s (A.nat n0)),Zag (A.le 0 n0) (Nat.blt (A.nat n0) (A.lenS s)),A.lt n0 (A.int (A.lenS s))],
  AV.bool false,none):=by kernel_rfl
theorem Zr3(A:Ar)(s:List UInt8)(n0:Int):Zav A tab E0 71 [true,false,false,false,false,false,false,true,true,false,true,false,true,true,true,false,false,false,true,true,true,false,false,true,false,false,true,true,false,true,false] (Zaq s n0) (Zal s n0)=
 some (tr [1,1,14,5,5,5,12,12,4,2,4] [A.inR .i64 (A.add n0 1),!A.lt 57 (A.nthS s (A.nat n0)),!A.lt (A.nthS s (A.nat n0)) 48,A.not (A.eq (A.nthS s (A.nat n0)) 45),!A.eq n0 0,A.not (A.le (A.nthS s (A.nat n0)) 90),A.le 65 (A.nthS s (A.nat n0)),!A.le 97 (A.nthS s (A.nat n0)),Zag (A.le 0 n0) (Nat.blt (A.nat n0) (A.lenS s)),A.lt n0 (A.int (A.lenS s))],
  ZaL (s) (A.add n0 1)):=by kernel_rfl
theorem ZsP(A:Ar)(s:List UInt8)(n0:Int):Zav A tab E0 71 [true,false,false,false,false,false,false,true,true,false,true,false,true,true,true,false,false,false,false,false,false,false,false,false,true,false,true,false] (Zaq s n0) (Zal s n0)=
 some (tr [1,19,5,5,12,12,4,2,4] [A.inR .i64 (A.add n0 1),!A.not (A.eq (A.nthS s (A.nat n0)) 45),!A.eq n0 0,A.not (A.le (A.nthS s (A.nat n0)) 90),A.le 65 (A.nthS s (A.nat n0)),!A.le 97 (A.nthS s (A.nat n0)),Zag (A.le 0 n0) (Nat.blt (A.nat n0) (A.lenS s)),A.lt n0 (A.int (A.lenS s))],
  ZaL (s) (A.add n0 1)):=by kernel_rfl
theorem ZsB(A:Ar)(s:List UInt8)(n0:Int):Zav A tab E0 71 [true,false,false,false,false,false,false,true,true,false,true,false,false,false,false,false,false,false] (Zaq s n0) (Zal s n0)=
 some (tr [1,21,12,12,4,2,4] [A.inR .i64 (A.add n0 1),!A.not (A.le (A.nthS s (A.nat n0)) 90),A.le 65 (A.nthS s (A.nat n0)),!A.le 97 (A.nthS s (A.nat n0)),Zag (A.le 0 n0) (Nat.blt (A.nat n0) (A.lenS s)),A.lt n0 (A.int (A.lenS s))],
  ZaL (s) (A.add n0 1)):=by kernel_rfl
theorem Ztc(A:Ar)(s:List UInt8)(n0:Int):ZaT A tab E0 67 [true,false,false,false,false,false,false,false,false,false,false,false,true,true,true,true,true,true,true,true,true,true,true] 40 (Zaq s n0) (Zal s n0)=
 some (tr [21,5,12,12,4,2,4] [A.eq n0 0,A.not false,!A.le 65 (A.nthS s (A.nat n0)),!A.le 97 (A.nthS s (A.nat n0)),Zag (A.le 0 n0) (Nat.blt (A.nat n0) (A.lenS s)),A.lt n0 (A.int (A.lenS s))],
  AV.bool false,none):=by kernel_rfl
theorem ZsD(A:Ar)(s:List UInt8)(n0:Int):ZaT A tab E0 67 [true,false,false,false,false,false,false,false,false,false,false,false,true,true,true,false,false,false,true,true,true,true,true,true,true,false,true,true,false,true,true] 40 (Zaq s n0) (Zal s n0)=
 some (tr [17,5,5,5,12,12,4,2,4] [A.lt (A.nthS s (A.nat n0)) 48,A.not (A.eq (A.nthS s (A.nat n0)) 45),!A.eq n0 0,A.not false,!A.le 65 (A.nthS s (A.nat n0)),!A.le 97 (A.nthS s (A.nat n0)),Zag (A.le 0 n0) (Nat.blt (A.nat n0) (A.lenS s)),A.lt n0 (A.int (A.lenS s))],
  AV.bool false,none):=by kernel_rfl
theorem Ztr(A:Ar)(s:List UInt8)(n0:Int):ZaT A tab E0 67 [true,false,false,false,false,false,false,false,false,false,false,false,true,true,true,false,false,false,true,true,true,false,false,true,false,false,true,true,false,true,true] 40 (Zaq s n0) (Zal s n0)=
 some (tr [2,14,5,5,5,12,12,4,2,4] [A.lt 57 (A.nthS s (A.nat n0)),!A.lt (A.nthS s (A.nat n0)) 48,A.not (A.eq (A.nthS s (A.nat n0)) 45),!A.eq n0 0,A.not false,!A.le 65 (A.nthS s (A.nat n0)),!A.le 97 (A.nthS s (A.nat n0)),Zag (A.le 0 n0) (Nat.blt (A.nat n0) (A.lenS s)),A.lt n0 (A.int (A.lenS s))],
  AV.bool false,none):=by kernel_rfl
theorem Zsb(A:Ar)(s:List UInt8)(n0:Int):Zav A tab E0 71 [true,false,false,false,false,false,false,false,false,false,false,false,true,true,true,false,false,false,true,true,true,false,false,true,false,false,true,true,false,true,false] (Zaq s n0) (Zal s n0)=
 some (tr [1,1,14,5,5,5,12,12,4,2,4] [A.inR .i64 (A.add n0 1),!A.lt 57 (A.nthS s (A.nat n0)),!A.lt (A.nthS s (A.nat n0)) 48,A.not (A.eq (A.nthS s (A.nat n0)) 45),!A.eq n0 0,A.not false,!A.le 65 (A.nthS s (A.nat n0)),!A.le 97 (A.nthS s (A.nat n0)),Zag (A.le 0 n0) (Nat.blt (A.nat n0) (A.lenS s)),A.lt n0 (A.int (A.lenS s))],
  ZaL (s) (A.add n0 1)):=by kernel_rfl
theorem Ztg(A:Ar)(s:List UInt8)(n0:Int):Zav A tab E0 71 [true,false,false,false,false,false,false,false,false,false,false,false,true,true,true,false,false,false,false,false,false,false,false,false,true,false,true,false] (Zaq s n0) (Zal s n0)=
 some (tr [1,19,5,5,12,12,4,2,4] [A.inR .i64 (A.add n0 1),!A.not (A.eq (A.nthS s (A.nat n0)) 45),!A.eq n0 0,A.not false,!A.le 65 (A.nthS s (A.nat n0)),!A.le 97 (A.nthS s (A.nat n0)),Zag (A.le 0 n0) (Nat.blt (A.nat n0) (A.lenS s)),A.lt n0 (A.int (A.lenS s))],
  ZaL (s) (A.add n0 1)):=by kernel_rfl
theorem Zs6(A:Ar)(s:List UInt8)(n0:Int):ZaT A tab E0 16 [false] 40 (Zaq s n0) (Zal s n0)=
 some (tr [2,4] [!A.lt n0 (A.int (A.lenS s))],
  AV.bool true,none):=by kernel_rfl
def ZrL(s:List UInt8):AFrame:={ fn:=56,N:=54,env:=[(0,AV.str s)],todo:=[.code a56.code],defs:=[],rnd:=none,ret:=false,res:=[ARes.tmp 2] }
def Zyb(s:List UInt8):List AFrame:=[(ZrL s)]
theorem ZpD(s:List UInt8):ZaC tab 56 [AV.str s]=some (ZrL s):=rfl
def Zao(s:List UInt8)(l0:List Int)(n1 n2:Int):List AFrame:=[{ fn:=56,N:=54,env:=[(0,AV.str s),(7,AV.list (.ints .u8 l0)),(8,AV.int .i64 n1),(9,AV.int .i64 n2)],todo:=.code (ACode.gh [] ZtR)::Zv5,defs:=[],rnd:=none,ret:=false,res:=[ARes.tmp 2] }]
def Zai(s:List UInt8)(l0:List Int)(n1:Int)(n2:Int):Zab:=[]
abbrev ZaK(s:List UInt8)(l0:List Int)(n1:Int)(n2:Int):List AFrame×Zab:=(Zao s l0 n1 n2,Zai s l0 n1 n2)
theorem Zuf(A:Ar)(s:List UInt8):Zav A tab E0 15 [] (Zyb s) []=
 some (tr [2,2] [Nat.ble (A.lenS s) 4294967296],
  ZaK (s) (A.byt s) (A.int (A.len (A.byt s))) (0)):=by kernel_rfl
theorem Zvz(A:Ar)(s:List UInt8)(l0:List Int)(n1 n2:Int):Zav A tab E0 68 [true,true,true,true,true,true,true,true,true,false,false,false,false,false,false] (Zao s l0 n1 n2) (Zai s l0 n1 n2)=
 some (tr [1,20,15,6,6,1,1] [A.inR .i64 (A.add n2 1),!A.not true,A.le (A.nth l0 (A.nat n2)) 122,A.le 97 (A.nth l0 (A.nat n2)),Zag (Zag (A.le 0 n2) (Nat.blt (A.nat n2) (A.len l0))) true,A.lt n2 n1],
  ZaK (s) (l0) (n1) (A.add n2 1)):=by kernel_rfl
theorem Zwj(A:Ar)(s:List UInt8)(l0:List Int)(n1 n2:Int):ZaT A tab E0 65 [true,true,true,true,false,false,false,true,true,false,true,false,true,true,true,true,true,true,true,true,true,true,true] 56 (Zao s l0 n1 n2) (Zai s l0 n1 n2)=
 some (tr [21,5,12,5,6,6,1,1] [A.eq n2 0,A.not (A.le (A.nth l0 (A.nat n2)) 90),A.le 65 (A.nth l0 (A.nat n2)),!A.le (A.nth l0 (A.nat n2)) 122,A.le 97 (A.nth l0 (A.nat n2)),Zag (Zag (A.le 0 n2) (Nat.blt (A.nat n2) (A.len l0))) true,A.lt n2 n1],
  AV.bool false,none):=by kernel_rfl
theorem ZuD(A:Ar)(s:List UInt8)(l0:List Int)(n1 n2:Int):ZaT A tab E0 65 [true,true,true,true,false,false,false,true,true,false,true,false,true,true,true,false,false,false,true,true,true,true,true,true,true,false,true,true,false,true,true] 56 (Zao s l0 n1 n2) (Zai s l0 n1 n2)=
 some (tr [17,5,5,5,12,5,6,6,1,1] [A.lt (A.nth l0 (A.nat n2)) 48,A.not (A.eq (A.nth l0 (A.nat n2)) 45),!A.eq n2 0,A.not (A.le (A.nth l0 (A.nat n2)) 90),A.le 65 (A.nth l0 (A.nat n2)),!A.le (A.nth l0 (A.nat n2)) 122,A.le 97 (A.nth l0 (A.nat n2)),Zag (Zag (A.le 0 n2) (Nat.blt (A.nat n2) (A.len l0))) true,A.lt n2 n1],
  AV.bool false,none):=by kernel_rfl
theorem Zvs(A:Ar)(s:List UInt8)(l0:List Int)(n1 n2:Int):ZaT A tab E0 65 [true,true,true,true,false,false,false,true,true,false,true,false,true,true,true,false,false,false,true,true,true,false,false,true,false,false,true,true,false,true,true] 56 (Zao s l0 n1 n2) (Zai s l0 n1 n2)=
 some (tr [2,14,5,5,5,12,5,6,6,1,1] [A.lt 57 (A.nth l0 (A.nat n2)),!A.lt (A.nth l0 (A.nat n2)) 48,A.not (A.eq (A.nth l0 (A.nat n2)) 45),!A.eq n2 0,A.not (A.le (A.nth l0 (A.nat n2)) 90),A.le 65 (A.nth l0 (A.nat n2)),!A.le (A.nth l0 (A.nat n2)) 122,A.le 97 (A.nth l0 (A.nat n2)),Zag (Zag (A.le 0 n2) (Nat.blt (A.nat n2) (A.len l0))) true,A.lt n2 n1],
  AV.bool false,none):=by kernel_rfl
theorem Zuu(A:Ar)(s:List UInt8)(l0:List Int)(n1 n2:Int):Zav A tab E0 68 [true,true,true,true,false,false,false,true,true,false,true,false,true,true,true,false,false,false,true,true,true,false,false,true,false,false,true,true,false,true,false] (Zao s l0 n1 n2) (Zai s l0 n1 n2)=
 some (tr [1,0,14,5,5,5,12,5,6,6,1,1] [A.inR .i64 (A.add n2 1),!A.lt 57 (A.nth l0 (A.nat n2)),!A.lt (A.nth l0 (A.nat n2)) 48,A.not (A.eq (A.nth l0 (A.nat n2)) 45),!A.eq n2 0,A.not (A.le (A.nth l0 (A.nat n2)) 90),A.le 65 (A.nth l0 (A.nat n2)),!A.le (A.nth l0 (A.nat n2)) 122,A.le 97 (A.nth l0 (A.nat n2)),Zag (Zag (A.le 0 n2) (Nat.blt (A.nat n2) (A.len l0))) true,A.lt n2 n1],
  ZaK (s) (l0) (n1) (A.add n2 1)):=by kernel_rfl
theorem Zvy(A:Ar)(s:List UInt8)(l0:List Int)(n1 n2:Int):Zav A tab E0 68 [true,true,true,true,false,false,false,true,true,false,true,false,true,true,true,false,false,false,false,false,false,false,false,false,true,false,true,false] (Zao s l0 n1 n2) (Zai s l0 n1 n2)=
 some (tr [1,18,5,5,12,5,6,6,1,1] [A.inR .i64 (A.add n2 1),!A.not (A.eq (A.nth l0 (A.nat n2)) 45),!A.eq n2 0,A.not (A.le (A.nth l0 (A.nat n2)) 90),A.le 65 (A.nth l0 (A.nat n2)),!A.le (A.nth l0 (A.nat n2)) 122,A.le 97 (A.nth l0 (A.nat n2)),Zag (Zag (A.le 0 n2) (Nat.blt (A.nat n2) (A.len l0))) true,A.lt n2 n1],
  ZaK (s) (l0) (n1) (A.add n2 1)):=by kernel_rfl
theorem Zuo(A:Ar)(s:List UInt8)(l0:List Int)(n1 n2:Int):Zav A tab E0 68 [true,true,true,true,false,false,false,true,true,false,true,false,false,false,false,false,false,false] (Zao s l0 n1 n2) (Zai s l0 n1 n2)=
 some (tr [1,20,12,5,6,6,1,1] [A.inR .i64 (A.add n2 1),!A.not (A.le (A.nth l0 (A.nat n2)) 90),A.le 65 (A.nth l0 (A.nat n2)),!A.le (A.nth l0 (A.nat n2)) 122,A.le 97 (A.nth l0 (A.nat n2)),Zag (Zag (A.le 0 n2) (Nat.blt (A.nat n2) (A.len l0))) true,A.lt n2 n1],
  ZaK (s) (l0) (n1) (A.add n2 1)):=by kernel_rfl
theorem Zuj(A:Ar)(s:List UInt8)(l0:List Int)(n1 n2:Int):ZaT A tab E0 65 [true,true,true,true,false,false,false,false,false,false,false,false,true,true,true,true,true,true,true,true,true,true,true] 56 (Zao s l0 n1 n2) (Zai s l0 n1 n2)=
 some (tr [21,5,12,5,6,6,1,1] [A.eq n2 0,A.not false,!A.le 65 (A.nth l0 (A.nat n2)),!A.le (A.nth l0 (A.nat n2)) 122,A.le 97 (A.nth l0 (A.nat n2)),Zag (Zag (A.le 0 n2) (Nat.blt (A.nat n2) (A.len l0))) true,A.lt n2 n1],
  AV.bool false,none):=by kernel_rfl
theorem Zwx(A:Ar)(s:List UInt8)(l0:List Int)(n1 n2:Int):ZaT A tab E0 65 [true,true,true,true,false,false,false,false,false,false,false,false,true,true,true,false,false,false,true,true,true,true,true,true,true,false,true,true,false,true,true] 56 (Zao s l0 n1 n2) (Zai s l0 n1 n2)=
 some (tr [17,5,5,5,12,5,6,6,1,1] [A.lt (A.nth l0 (A.nat n2)) 48,A.not (A.eq (A.nth l0 (A.nat n2)) 45),!A.eq n2 0,A.not false,!A.le 65 (A.nth l0 (A.nat n2)),!A.le (A.nth l0 (A.nat n2)) 122,A.le 97 (A.nth l0 (A.nat n2)),Zag (Zag (A.le 0 n2) (Nat.blt (A.nat n2) (A.len l0))) true,A.lt n2 n1],
  AV.bool false,none):=by kernel_rfl
theorem Zrt(A:Ar)(s:List UInt8)(l0:List Int)(n1 n2:Int):ZaT A tab E0 65 [true,true,true,true,false,false,false,false,false,false,false,false,true,true,true,false,false,false,true,true,true,false,false,true,false,false,true,true,false,true,true] 56 (Zao s l0 n1 n2) (Zai s l0 n1 n2)=
 some (tr [2,14,5,5,5,12,5,6,6,1,1] [A.lt 57 (A.nth l0 (A.nat n2)),!A.lt (A.nth l0 (A.nat n2)) 48,A.not (A.eq (A.nth l0 (A.nat n2)) 45),!A.eq n2 0,A.not false,!A.le 65 (A.nth l0 (A.nat n2)),!A.le (A.nth l0 (A.nat n2)) 122,A.le 97 (A.nth l0 (A.nat n2)),Zag (Zag (A.le 0 n2) (Nat.blt (A.nat n2) (A.len l0))) true,A.lt n2 n1],
  AV.bool false,none):=by kernel_rfl
theorem ZqW(A:Ar)(s:List UInt8)(l0:List Int)(n1 n2:Int):Zav A tab E0 68 [true,true,true,true,false,false,false,false,false,false,false,false,true,true,true,false,false,false,true,true,true,false,false,true,false,false,true,true,false,true,false] (Zao s l0 n1 n2) (Zai s l0 n1 n2)=
 some (tr [1,0,14,5,5,5,12,5,6,6,1,1] [A.inR .i64 (A.add n2 1),!A.lt 57 (A.nth l0 (A.nat n2)),!A.lt (A.nth l0 (A.nat n2)) 48,A.not (A.eq (A.nth l0 (A.nat n2)) 45),!A.eq n2 0,A.not false,!A.le 65 (A.nth l0 (A.nat n2)),!A.le (A.nth l0 (A.nat n2)) 122,A.le 97 (A.nth l0 (A.nat n2)),Zag (Zag (A.le 0 n2) (Nat.blt (A.nat n2) (A.len l0))) true,A.lt n2 n1],
  ZaK (s) (l0) (n1) (A.add n2 1)):=by kernel_rfl
theorem Zs1(A:Ar)(s:List UInt8)(l0:List Int)(n1 n2:Int):Zav A tab E0 68 [true,true,true,true,false,false,false,false,false,false,false,false,true,true,true,false,false,false,false,false,false,false,false,false,true,false,true,false] (Zao s l0 n1 n2) (Zai s l0 n1 n2)=
 some (tr [1,18,5,5,12,5,6,6,1,1] [A.inR .i64 (A.add n2 1),!A.not (A.eq (A.nth l0 (A.nat n2)) 45),!A.eq n2 0,A.not false,!A.le 65 (A.nth l0 (A.nat n2)),!A.le (A.nth l0 (A.nat n2)) 122,A.le 97 (A.nth l0 (A.nat n2)),Zag (Zag (A.le 0 n2) (Nat.blt (A.nat n2) (A.len l0))) true,A.lt n2 n1],
  ZaK (s) (l0) (n1) (A.add n2 1)):=by kernel_rfl
theorem Zsj(A:Ar)(s:List UInt8)(l0:List Int)(n1 n2:Int):ZaT A tab E0 65 [true,false,false,false,false,false,false,true,true,false,true,false,true,true,true,true,true,true,true,true,true,true,true] 56 (Zao s l0 n1 n2) (Zai s l0 n1 n2)=
 some (tr [21,5,12,12,6,1,1] [A.eq n2 0,A.not (A.le (A.nth l0 (A.nat n2)) 90),A.le 65 (A.nth l0 (A.nat n2)),!A.le 97 (A.nth l0 (A.nat n2)),Zag (Zag (A.le 0 n2) (Nat.blt (A.nat n2) (A.len l0))) true,A.lt n2 n1],
  AV.bool false,none):=by kernel_rfl
theorem Zsi(A:Ar)(s:List UInt8)(l0:List Int)(n1 n2:Int):ZaT A tab E0 65 [true,false,false,false,false,false,false,true,true,false,true,false,true,true,true,false,false,false,true,true,true,true,true,true,true,false,true,true,false,true,true] 56 (Zao s l0 n1 n2) (Zai s l0 n1 n2)=
 some (tr [17,5,5,5,12,12,6,1,1] [A.lt (A.nth l0 (A.nat n2)) 48,A.not (A.eq (A.nth l0 (A.nat n2)) 45),!A.eq n2 0,A.not (A.le (A.nth l0 (A.nat n2)) 90),A.le 65 (A.nth l0 (A.nat n2)),!A.le 97 (A.nth l0 (A.nat n2)),Zag (Zag (A.le 0 n2) (Nat.blt (A.nat n2) (A.len l0))) true,A.lt n2 n1],
  AV.bool false,none):=by kernel_rfl
theorem Zsn(A:Ar)(s:List UInt8)(l0:List Int)(n1 n2:Int):ZaT A tab E0 65 [true,false,false,false,false,false,false,true,true,false,true,false,true,true,true,false,false,false,true,true,true,false,false,true,false,false,true,true,false,true,true] 56 (Zao s l0 n1 n2) (Zai s l0 n1 n2)=
 some (tr [2,14,5,5,5,12,12,6,1,1] [A.lt 57 (A.nth l0 (A.nat n2)),!A.lt (A.nth l0 (A.nat n2)) 48,A.not (A.eq (A.nth l0 (A.nat n2)) 45),!A.eq n2 0,A.not (A.le (A.nth l0 (A.nat n2)) 90),A.le 65 (A.nth l0 (A.nat n2)),!A.le 97 (A.nth l0 (A.nat n2)),Zag (Zag (A.le 0 n2) (Nat.blt (A.nat n2) (A.len l0))) true,A.lt n2 n1],
  AV.bool false,none):=by kernel_rfl
theorem ZsX(A:Ar)(s:List UInt8)(l0:List Int)(n1 n2:Int):Zav A tab E0 68 [true,false,false,false,false,false,false,true,true,false,true,false,true,true,true,false,false,false,true,true,true,false,false,true,false,false,true,true,false,true,false] (Zao s l0 n1 n2) (Zai s l0 n1 n2)=
 some (tr [1,0,14,5,5,5,12,12,6,1,1] [A.inR .i64 (A.add n2 1),!A.lt 57 (A.nth l0 (A.nat n2)),!A.lt (A.nth l0 (A.nat n2)) 48,A.not (A.eq (A.nth l0 (A.nat n2)) 45),!A.eq n2 0,A.not (A.le (A.nth l0 (A.nat n2)) 90),A.le 65 (A.nth l0 (A.nat n2)),!A.le 97 (A.nth l0 (A.nat n2)),Zag (Zag (A.le 0 n2) (Nat.blt (A.nat n2) (A.len l0))) true,A.lt n2 n1],
  ZaK (s) (l0) (n1) (A.add n2 1)):=by kernel_rfl
theorem Zth(A:Ar)(s:List UInt8)(l0:List Int)(n1 n2:Int):Zav A tab E0 68 [true,false,false,false,false,false,false,true,true,false,true,false,true,true,true,false,false,false,false,false,false,false,false,false,true,false,true,false] (Zao s l0 n1 n2) (Zai s l0 n1 n2)=
 some (tr [1,18,5,5,12,12,6,1,1] [A.inR .i64 (A.add n2 1),!A.not (A.eq (A.nth l0 (A.nat n2)) 45),!A.eq n2 0,A.not (A.le (A.nth l0 (A.nat n2)) 90),A.le 65 (A.nth l0 (A.nat n2)),!A.le 97 (A.nth l0 (A.nat n2)),Zag (Zag (A.le 0 n2) (Nat.blt (A.nat n2) (A.len l0))) true,A.lt n2 n1],
  ZaK (s) (l0) (n1) (A.add n2 1)):=by kernel_rfl
theorem Ztm(A:Ar)(s:List UInt8)(l0:List Int)(n1 n2:Int):Zav A tab E0 68 [true,false,false,false,false,false,false,true,true,false,true,false,false,false,false,false,false,false] (Zao s l0 n1 n2) (Zai s l0 n1 n2)=
 some (tr [1,20,12,12,6,1,1] [A.inR .i64 (A.add n2 1),!A.not (A.le (A.nth l0 (A.nat n2)) 90),A.le 65 (A.nth l0 (A.nat n2)),!A.le 97 (A.nth l0 (A.nat n2)),Zag (Zag (A.le 0 n2) (Nat.blt (A.nat n2) (A.len l0))) true,A.lt n2 n1],
  ZaK (s) (l0) (n1) (A.add n2 1)):=by kernel_rfl
theorem Zsw(A:Ar)(s:List UInt8)(l0:List Int)(n1 n2:Int):ZaT A tab E0 65 [true,false,false,false,false,false,false,false,false,false,false,false,true,true,true,true,true,true,true,true,true,true,true] 56 (Zao s l0 n1 n2) (Zai s l0 n1 n2)=
 some (tr [21,5,12,12,6,1,1] [A.eq n2 0,A.not false,!A.le 65 (A.nth l0 (A.nat n2)),!A.le 97 (A.nth l0 (A.nat n2)),Zag (Zag (A.le 0 n2) (Nat.blt (A.nat n2) (A.len l0))) true,A.lt n2 n1],
  AV.bool false,none):=by kernel_rfl
theorem ZtM(A:Ar)(s:List UInt8)(l0:List Int)(n1 n2:Int):ZaT A tab E0 65 [true,false,false,false,false,false,false,false,false,false,false,false,true,true,true,false,false,false,true,true,true,true,true,true,true,false,true,true,false,true,true] 56 (Zao s l0 n1 n2) (Zai s l0 n1 n2)=
 some (tr [17,5,5,5,12,12,6,1,1] [A.lt (A.nth l0 (A.nat n2)) 48,A.not (A.eq (A.nth l0 (A.nat n2)) 45),!A.eq n2 0,A.not false,!A.le 65 (A.nth l0 (A.nat n2)),!A.le 97 (A.nth l0 (A.nat n2)),Zag (Zag (A.le 0 n2) (Nat.blt (A.nat n2) (A.len l0))) true,A.lt n2 n1],
  AV.bool false,none):=by kernel_rfl
theorem Zq9(A:Ar)(s:List UInt8)(l0:List Int)(n1 n2:Int):ZaT A tab E0 65 [true,false,false,false,false,false,false,false,false,false,false,false,true,true,true,false,false,false,true,true,true,false,false,true,false,false,true,true,false,true,true] 56 (Zao s l0 n1 n2) (Zai s l0 n1 n2)=
 some (tr [2,14,5,5,5,12,12,6,1,1] [A.lt 57 (A.nth l0 (A.nat n2)),!A.lt (A.nth l0 (A.nat n2)) 48,A.not (A.eq (A.nth l0 (A.nat n2)) 45),!A.eq n2 0,A.not false,!A.le 65 (A.nth l0 (A.nat n2)),!A.le 97 (A.nth l0 (A.nat n2)),Zag (Zag (A.le 0 n2) (Nat.blt (A.nat n2) (A.len l0))) true,A.lt n2 n1],
  AV.bool false,none):=by kernel_rfl
theorem Zso(A:Ar)(s:List UInt8)(l0:List Int)(n1 n2:Int):Zav A tab E0 68 [true,false,false,false,false,false,false,false,false,false,false,false,true,true,true,false,false,false,true,true,true,false,false,true,false,false,true,true,false,true,false] (Zao s l0 n1 n2) (Zai s l0 n1 n2)=
 some (tr [1,0,14,5,5,5,12,12,6,1,1] [A.inR .i64 (A.add n2 1),!A.lt 57 (A.nth l0 (A.nat n2)),!A.lt (A.nth l0 (A.nat n2)) 48,A.not (A.eq (A.nth l0 (A.nat n2)) 45),!A.eq n2 0,A.not false,!A.le 65 (A.nth l0 (A.nat n2)),!A.le 97 (A.nth l0 (A.nat n2)),Zag (Zag (A.le 0 n2) (Nat.blt (A.nat n2) (A.len l0))) true,A.lt n2 n1],
  ZaK (s) (l0) (n1) (A.add n2 1)):=by kernel_rfl
theorem Zry(A:Ar)(s:List UInt8)(l0:List Int)(n1 n2:Int):Zav A tab E0 68 [true,false,false,false,false,false,false,false,false,false,false,false,true,true,true,false,false,false,false,false,false,false,false,false,true,false,true,false] (Zao s l0 n1 n2) (Zai s l0 n1 n2)=
 some (tr [1,18,5,5,12,12,6,1,1] [A.inR .i64 (A.add n2 1),!A.not (A.eq (A.nth l0 (A.nat n2)) 45),!A.eq n2 0,A.not false,!A.le 65 (A.nth l0 (A.nat n2)),!A.le 97 (A.nth l0 (A.nat n2)),Zag (Zag (A.le 0 n2) (Nat.blt (A.nat n2) (A.len l0))) true,A.lt n2 n1],
  ZaK (s) (l0) (n1) (A.add n2 1)):=by kernel_rfl
theorem Zrn(A:Ar)(s:List UInt8)(l0:List Int)(n1 n2:Int):ZaT A tab E0 21 [false,true,true,true,true] 56 (Zao s l0 n1 n2) (Zai s l0 n1 n2)=
 some (tr [9,3,1] [A.not (A.eqS s []),!A.lt n2 n1],
  AV.bool (A.le (A.int (A.lenS s)) 12),none):=by kernel_rfl
theorem Ztq(A:Ar)(s:List UInt8)(l0:List Int)(n1 n2:Int):ZaT A tab E0 21 [false,false,false,false,false] 56 (Zao s l0 n1 n2) (Zai s l0 n1 n2)=
 some (tr [9,3,1] [!A.not (A.eqS s []),!A.lt n2 n1],
  AV.bool false,none):=by kernel_rfl
def Zrl(n:Int):AFrame:={ fn:=29,N:=3,env:=[(0,AV.int .i64 n)],todo:=[.code a29.code],defs:=[],rnd:=none,ret:=false,res:=[ARes.tmp 2] }
def Zx4(n:Int):List AFrame:=[(Zrl n)]
theorem Zog(n:Int):ZaC tab 29 [AV.int .i64 n]=some (Zrl n):=rfl
theorem Zut(A:Ar)(n:Int):ZaT A tab E0 9 [] 29 (Zx4 n) []=
 some (tr [3] [],
  AV.int .i64 0,none):=by kernel_rfl
end Go.Proofs.YtkeoeooghhjibaaDoor
/- Names, ranges, first errors. No condition. -/
namespace Go.Proofs.YtkeoeooghhjibaaDoor
def Zad(n a b:Int):Bool:=decide (a≤n∧n≤b)
def Zaa(b:Bool)(e:Int):Int:=if b=true then 0 else e
def ZtF(k:Nat)(c:Int):Bool:=decide ((97≤c∧c≤122)∨(65≤c∧c≤90)∨(k≠0∧(c=45∨(48≤c∧c≤57))))
def nmR(f:Nat→Int):Nat→Nat→Bool
 |0,_=>true
 |m+1,k=>ZtF k (f k)&&nmR f m (k+1)
def ZaH(s:List UInt8):Bool:=decide (1≤s.length∧s.length≤12)&&nmR (fun k=>((s.getD k 0).toNat:Int)) s.length 0
def Zan:List Int→Int
 |[]=>0
 |x::xs=>if x=0 then Zan xs else x
def ZfX(xs:List AV)(s:List UInt8):Bool:=xs.any fun x=>x.toS==s
theorem ZiU(n a b:Int):Zat Tryd.prog 17 [.int .i64 n, .int .i64 a, .int .i64 b] (.bool (Zad n a b)) none:=
 start (ZpU n a b) fun C hC=>by
  by_cases h:a≤n
  ·exact fin hC Zax (Zvp std n a b) (by simp[h]) (by simp[Zad,h]) rfl
  ·exact fin hC Zax (ZvC std n a b) (by simp;omega) (by simp[Zad,h]) rfl
theorem Zjb(n a b:Int):Zat Tryd.prog 26 [.int .i64 n, .int .i64 a, .int .i64 b] (.bool (Zad n a b)) none:=
 start (Zo4 n a b) fun C hC=>by
  by_cases h:a≤n
  ·exact fin hC Zax (Zun std n a b) (by simp[h]) (by simp[Zad,h]) rfl
  ·exact fin hC Zax (Zwd std n a b) (by simp;omega) (by simp[Zad,h]) rfl
theorem ZiR(b:Bool)(e:Int):Zat Tryd.prog 32 [.bool b, .int .i64 e] (.int .i64 (Zaa b e)) none:=
 start (ZpG b e) fun C hC=>by
  cases b
  ·first
   |exact fin hC Zax (ZrX std false e) (by simp) rfl rfl
   |exact fin hC Zax (Zr6 std false e) (by simp) rfl rfl
  ·first
   |exact fin hC Zax (ZrX std true e) (by simp) rfl rfl
   |exact fin hC Zax (Zr6 std true e) (by simp) rfl rfl
theorem ZmE(n:Int):Zat Tryd.prog 29 [.int .i64 n] (.int .i64 0) none:=start (Zog n) fun C hC=>fin hC Zax (Zut std n) (by simp) rfl rfl
theorem Zff{C:Ctx}(hC:C.P=Tryd.prog)(s:List UInt8)(hl:s.length≤1000000):∀(m k:Nat),k+m=s.length→Ev C (Zaq s (k:Int)) (Zal s (k:Int)) (Zcp 40 (.bool (nmR (fun k=>((s.getD k 0).toNat:Int)) m k)) none)
 |0,k,hk=>fin hC Zax (Zs6 std s k) (by simp;omega) rfl rfl
 |m+1,k,hk=>by
  have nx:ZtF k (((s.getD k 0).toNat:Int))=true→Ev C (Zaq s ((k:Int)+1)) (Zal s ((k:Int)+1)) (Zcp 40 (.bool (nmR (fun k=>((s.getD k 0).toNat:Int)) (m+1) k)) none):=fun h=>by
   have:=Zff hC s hl m (k+1) (by omega)
   simp only[nmR,h,Bool.true_and]
   exact this
  have fx:ZtF k (((s.getD k 0).toNat:Int))=false→AV.bool false=AV.bool (nmR (fun k=>((s.getD k 0).toNat:Int)) (m+1) k):=fun h=>by simp only[nmR,h,Bool.false_and]
  by_cases h1:((k:Int)<((s.length:Nat):Int))
  ·by_cases h2:(97≤((s.getD k 0).toNat:Int))
   ·by_cases h3:(((s.getD k 0).toNat:Int)≤122)
    ·exact go hC Zax (Zu0 std s (k:Int)) (by simp[-List.getD_eq_getElem?_getD]<;>omega) (nx (decide_eq_true (by omega)))
    ·by_cases h4:(65≤((s.getD k 0).toNat:Int))
     ·by_cases h5:(((s.getD k 0).toNat:Int)≤90)
      ·exact go hC Zax (Zwe std s (k:Int)) (by simp[-List.getD_eq_getElem?_getD]<;>omega) (nx (decide_eq_true (by omega)))
      ·by_cases h6:((k:Int)=0)
       ·exact fin hC Zax (Zvv std s (k:Int)) (by simp[-List.getD_eq_getElem?_getD]<;>omega) (fx (decide_eq_false (by omega))) rfl
       ·by_cases h7:(((s.getD k 0).toNat:Int)=45)
        ·exact go hC Zax (ZvR std s (k:Int)) (by simp[-List.getD_eq_getElem?_getD]<;>omega) (nx (decide_eq_true (by omega)))
        ·by_cases h8:(((s.getD k 0).toNat:Int)<48)
         ·exact fin hC Zax (Zu3 std s (k:Int)) (by simp[-List.getD_eq_getElem?_getD]<;>omega) (fx (decide_eq_false (by omega))) rfl
         ·by_cases h9:(57<((s.getD k 0).toNat:Int))
          ·exact fin hC Zax (ZuW std s (k:Int)) (by simp[-List.getD_eq_getElem?_getD]<;>omega) (fx (decide_eq_false (by omega))) rfl
          ·exact go hC Zax (Zv0 std s (k:Int)) (by simp[-List.getD_eq_getElem?_getD]<;>omega) (nx (decide_eq_true (by omega)))
     ·by_cases h5:((k:Int)=0)
      ·exact fin hC Zax (ZtT std s (k:Int)) (by simp[-List.getD_eq_getElem?_getD]<;>omega) (fx (decide_eq_false (by omega))) rfl
      ·by_cases h6:(((s.getD k 0).toNat:Int)=45)
       ·exact go hC Zax (Zts std s (k:Int)) (by simp[-List.getD_eq_getElem?_getD]<;>omega) (nx (decide_eq_true (by omega)))
       ·by_cases h7:(((s.getD k 0).toNat:Int)<48)
        ·exact fin hC Zax (Zti std s (k:Int)) (by simp[-List.getD_eq_getElem?_getD]<;>omega) (fx (decide_eq_false (by omega))) rfl
        ·by_cases h8:(57<((s.getD k 0).toNat:Int))
         ·exact fin hC Zax (ZqY std s (k:Int)) (by simp[-List.getD_eq_getElem?_getD]<;>omega) (fx (decide_eq_false (by omega))) rfl
         ·exact go hC Zax (ZqQ std s (k:Int)) (by simp[-List.getD_eq_getElem?_getD]<;>omega) (nx (decide_eq_true (by omega)))
   ·by_cases h3:(65≤((s.getD k 0).toNat:Int))
    ·by_cases h4:(((s.getD k 0).toNat:Int)≤90)
     ·exact go hC Zax (ZsB std s (k:Int)) (by simp[-List.getD_eq_getElem?_getD]<;>omega) (nx (decide_eq_true (by omega)))
     ·by_cases h5:((k:Int)=0)
      ·exact fin hC Zax (Zr2 std s (k:Int)) (by simp[-List.getD_eq_getElem?_getD]<;>omega) (fx (decide_eq_false (by omega))) rfl
      ·by_cases h6:(((s.getD k 0).toNat:Int)=45)
       ·exact go hC Zax (ZsP std s (k:Int)) (by simp[-List.getD_eq_getElem?_getD]<;>omega) (nx (decide_eq_true (by omega)))
       ·by_cases h7:(((s.getD k 0).toNat:Int)<48)
        ·exact fin hC Zax (ZsW std s (k:Int)) (by simp[-List.getD_eq_getElem?_getD]<;>omega) (fx (decide_eq_false (by omega))) rfl
        ·by_cases h8:(57<((s.getD k 0).toNat:Int))
         ·exact fin hC Zax (ZrY std s (k:Int)) (by simp[-List.getD_eq_getElem?_getD]<;>omega) (fx (decide_eq_false (by omega))) rfl
         ·exact go hC Zax (Zr3 std s (k:Int)) (by simp[-List.getD_eq_getElem?_getD]<;>omega) (nx (decide_eq_true (by omega)))
    ·by_cases h4:((k:Int)=0)
     ·exact fin hC Zax (Ztc std s (k:Int)) (by simp[-List.getD_eq_getElem?_getD]<;>omega) (fx (decide_eq_false (by omega))) rfl
     ·by_cases h5:(((s.getD k 0).toNat:Int)=45)
      ·exact go hC Zax (Ztg std s (k:Int)) (by simp[-List.getD_eq_getElem?_getD]<;>omega) (nx (decide_eq_true (by omega)))
      ·by_cases h6:(((s.getD k 0).toNat:Int)<48)
       ·exact fin hC Zax (ZsD std s (k:Int)) (by simp[-List.getD_eq_getElem?_getD]<;>omega) (fx (decide_eq_false (by omega))) rfl
       ·by_cases h7:(57<((s.getD k 0).toNat:Int))
        ·exact fin hC Zax (Ztr std s (k:Int)) (by simp[-List.getD_eq_getElem?_getD]<;>omega) (fx (decide_eq_false (by omega))) rfl
        ·exact go hC Zax (Zsb std s (k:Int)) (by simp[-List.getD_eq_getElem?_getD]<;>omega) (nx (decide_eq_true (by omega)))
  ·omega
theorem Zl2(s:List UInt8)(hl:s.length≤1000000):Zat Tryd.prog 40 [.str s] (.bool (ZaH s)) none:=
 start (ZoE s) fun C hC=>by
  by_cases h1:((s.length:Int)<1)
  ·exact fin hC Zax (ZuJ std s) (by simp;omega) (by simp[ZaH];omega) rfl
  ·by_cases h2:(12<(s.length:Int))
   ·exact fin hC Zax (ZuP std s) (by simp;omega) (by simp[ZaH];omega) rfl
   ·refine go hC Zax (ZvU std s) (by simp;omega) ?_
    have:=Zff hC s hl s.length 0 (by omega)
    have e:decide (1≤s.length∧s.length≤12)=true:=by simp;omega
    simp only[ZaH,e,Bool.true_and]
    exact this
theorem ZfR{C:Ctx}(hC:C.P=Tryd.prog)(s:List UInt8)(l0:List Int)(hl:l0.length≤4294967296):∀(m k:Nat),k+m=l0.length→Ev C (Zao s l0 (l0.length:Int) (k:Int)) (Zai s l0 (l0.length:Int) (k:Int)) (Zcp 56 (.bool (decide (1≤s.length∧s.length≤12)&&nmR (fun k=>l0.getD k 0) m k)) none)
 |0,k,hk=>by
  by_cases h2:s=[]
  ·exact fin hC Zax (Ztq std s l0 l0.length k) (by simp[h2];omega) (by simp[h2]) rfl
  ·have h3:0<s.length:=List.length_pos_iff.2 h2
   exact fin hC Zax (Zrn std s l0 l0.length k) (by simp[h2];omega) (by simp only[nmR,Bool.and_true];congr 1;rw[Bool.eq_iff_iff];simp;omega) rfl
 |m+1,k,hk=>by
  have nx:ZtF k (l0.getD k 0)=true→Ev C (Zao s l0 (l0.length:Int) ((k:Int)+1)) (Zai s l0 (l0.length:Int) ((k:Int)+1)) (Zcp 56 (.bool (decide (1≤s.length∧s.length≤12)&&nmR (fun k=>l0.getD k 0) (m+1) k)) none):=fun h=>by
   have:=ZfR hC s l0 hl m (k+1) (by omega)
   simp only[nmR,h,Bool.true_and]
   exact this
  have fx:ZtF k (l0.getD k 0)=false→AV.bool false=AV.bool (decide (1≤s.length∧s.length≤12)&&nmR (fun k=>l0.getD k 0) (m+1) k):=fun h=>by simp only[nmR,h,Bool.false_and,Bool.and_false]
  by_cases h1:((k:Int)<(l0.length:Int))
  ·by_cases h2:(97≤(l0.getD k 0))
   ·by_cases h3:((l0.getD k 0)≤122)
    ·exact go hC Zax (Zvz std s l0 (l0.length:Int) (k:Int)) (by simp[-List.getD_eq_getElem?_getD]<;>omega) (nx (decide_eq_true (by omega)))
    ·by_cases h4:(65≤(l0.getD k 0))
     ·by_cases h5:((l0.getD k 0)≤90)
      ·exact go hC Zax (Zuo std s l0 (l0.length:Int) (k:Int)) (by simp[-List.getD_eq_getElem?_getD]<;>omega) (nx (decide_eq_true (by omega)))
      ·by_cases h6:((k:Int)=0)
       ·exact fin hC Zax (Zwj std s l0 (l0.length:Int) (k:Int)) (by simp[-List.getD_eq_getElem?_getD]<;>omega) (fx (decide_eq_false (by omega))) rfl
       ·by_cases h7:((l0.getD k 0)=45)
        ·exact go hC Zax (Zvy std s l0 (l0.length:Int) (k:Int)) (by simp[-List.getD_eq_getElem?_getD]<;>omega) (nx (decide_eq_true (by omega)))
        ·by_cases h8:((l0.getD k 0)<48)
         ·exact fin hC Zax (ZuD std s l0 (l0.length:Int) (k:Int)) (by simp[-List.getD_eq_getElem?_getD]<;>omega) (fx (decide_eq_false (by omega))) rfl
         ·by_cases h9:(57<(l0.getD k 0))
          ·exact fin hC Zax (Zvs std s l0 (l0.length:Int) (k:Int)) (by simp[-List.getD_eq_getElem?_getD]<;>omega) (fx (decide_eq_false (by omega))) rfl
          ·exact go hC Zax (Zuu std s l0 (l0.length:Int) (k:Int)) (by simp[-List.getD_eq_getElem?_getD]<;>omega) (nx (decide_eq_true (by omega)))
     ·by_cases h5:((k:Int)=0)
      ·exact fin hC Zax (Zuj std s l0 (l0.length:Int) (k:Int)) (by simp[-List.getD_eq_getElem?_getD]<;>omega) (fx (decide_eq_false (by omega))) rfl
      ·by_cases h6:((l0.getD k 0)=45)
       ·exact go hC Zax (Zs1 std s l0 (l0.length:Int) (k:Int)) (by simp[-List.getD_eq_getElem?_getD]<;>omega) (nx (decide_eq_true (by omega)))
       ·by_cases h7:((l0.getD k 0)<48)
        ·exact fin hC Zax (Zwx std s l0 (l0.length:Int) (k:Int)) (by simp[-List.getD_eq_getElem?_getD]<;>omega) (fx (decide_eq_false (by omega))) rfl
        ·by_cases h8:(57<(l0.getD k 0))
         ·exact fin hC Zax (Zrt std s l0 (l0.length:Int) (k:Int)) (by simp[-List.getD_eq_getElem?_getD]<;>omega) (fx (decide_eq_false (by omega))) rfl
         ·exact go hC Zax (ZqW std s l0 (l0.length:Int) (k:Int)) (by simp[-List.getD_eq_getElem?_getD]<;>omega) (nx (decide_eq_true (by omega)))
   ·by_cases h3:(65≤(l0.getD k 0))
    ·by_cases h4:((l0.getD k 0)≤90)
     ·exact go hC Zax (Ztm std s l0 (l0.length:Int) (k:Int)) (by simp[-List.getD_eq_getElem?_getD]<;>omega) (nx (decide_eq_true (by omega)))
     ·by_cases h5:((k:Int)=0)
      ·exact fin hC Zax (Zsj std s l0 (l0.length:Int) (k:Int)) (by simp[-List.getD_eq_getElem?_getD]<;>omega) (fx (decide_eq_false (by omega))) rfl
      ·by_cases h6:((l0.getD k 0)=45)
       ·exact go hC Zax (Zth std s l0 (l0.length:Int) (k:Int)) (by simp[-List.getD_eq_getElem?_getD]<;>omega) (nx (decide_eq_true (by omega)))
       ·by_cases h7:((l0.getD k 0)<48)
        ·exact fin hC Zax (Zsi std s l0 (l0.length:Int) (k:Int)) (by simp[-List.getD_eq_getElem?_getD]<;>omega) (fx (decide_eq_false (by omega))) rfl
        ·by_cases h8:(57<(l0.getD k 0))
         ·exact fin hC Zax (Zsn std s l0 (l0.length:Int) (k:Int)) (by simp[-List.getD_eq_getElem?_getD]<;>omega) (fx (decide_eq_false (by omega))) rfl
         ·exact go hC Zax (ZsX std s l0 (l0.length:Int) (k:Int)) (by simp[-List.getD_eq_getElem?_getD]<;>omega) (nx (decide_eq_true (by omega)))
    ·by_cases h4:((k:Int)=0)
     ·exact fin hC Zax (Zsw std s l0 (l0.length:Int) (k:Int)) (by simp[-List.getD_eq_getElem?_getD]<;>omega) (fx (decide_eq_false (by omega))) rfl
     ·by_cases h5:((l0.getD k 0)=45)
      ·exact go hC Zax (Zry std s l0 (l0.length:Int) (k:Int)) (by simp[-List.getD_eq_getElem?_getD]<;>omega) (nx (decide_eq_true (by omega)))
      ·by_cases h6:((l0.getD k 0)<48)
       ·exact fin hC Zax (ZtM std s l0 (l0.length:Int) (k:Int)) (by simp[-List.getD_eq_getElem?_getD]<;>omega) (fx (decide_eq_false (by omega))) rfl
       ·by_cases h7:(57<(l0.getD k 0))
        ·exact fin hC Zax (Zq9 std s l0 (l0.length:Int) (k:Int)) (by simp[-List.getD_eq_getElem?_getD]<;>omega) (fx (decide_eq_false (by omega))) rfl
        ·exact go hC Zax (Zso std s l0 (l0.length:Int) (k:Int)) (by simp[-List.getD_eq_getElem?_getD]<;>omega) (nx (decide_eq_true (by omega)))
  ·by_cases h2:(s=[])
   ·omega
   ·omega
theorem ZlE(s:List UInt8)(hl:s.length≤1000000):Zat Tryd.prog 56 [.str s] (.bool (ZaH s)) none:=
 start (ZpD s) fun C hC=>by
  refine go hC Zax (Zuf std s) (by simp;omega) ?_
  have:=ZfR hC s (s.map fun b=>(b.toNat:Int)) (by simp;omega) (s.map fun b=>(b.toNat:Int)).length 0 (by simp)
  have e:(fun k=>(s.map fun b=>(b.toNat:Int)).getD k 0)=fun k=>((s.getD k 0).toNat:Int):=by
   funext k
   simp only[List.getD_eq_getElem?_getD,List.getElem?_map]
   cases s[k]?<;>rfl
  have q:(decide (1≤s.length∧s.length≤12)&&nmR (fun k=>(s.map fun b=>(b.toNat:Int)).getD k 0) (s.map fun b=>(b.toNat:Int)).length 0)=ZaH s:=by rw[e,List.length_map];rfl
  rw[q]at this
  exact this
@[simp] theorem Ze9 (l:List AV):std.lenA l=l.length:=rfl
@[simp] theorem ZwJ (l:List AV) (j:Nat):std.nthA l j=l.getD j .top:=rfl
theorem ZgS{C:Ctx}(hC:C.P=Tryd.prog)(xs:List AV)(s:List UInt8)(hl:xs.length≤1000000):∀(m k:Nat),k+m=xs.length→Ev C (ZcB xs s (k:Int)) (Zb9 xs s (k:Int)) (Zcp 41 (.bool (ZfX (xs.drop k) s)) none)
 |0,k,hk=>fin hC Zax (Zwt std xs s k) (by simp;omega) (by rw[List.drop_of_length_le (by omega)];rfl) rfl
 |m+1,k,hk=>by
  have hd:xs.drop k=xs[k]'(by omega)::xs.drop (k+1):=List.drop_eq_getElem_cons (by omega)
  have hg:xs.getD k .top=xs[k]'(by omega):=by simp[List.getD_eq_getElem?_getD,List.getElem?_eq_getElem (show k<xs.length by omega)]
  by_cases h:(xs.getD k .top).toS=s
  ·exact fin hC Zax (Zup std xs s k) (by simp[-List.getD_eq_getElem?_getD,h]<;>omega) (by rw[hd,←hg];simp[-List.getD_eq_getElem?_getD,ZfX,h]) rfl
  ·refine go hC Zax (ZvV std xs s k) (by simp[-List.getD_eq_getElem?_getD,h]<;>omega) ?_
   have:=ZgS hC xs s hl m (k+1) (by omega)
   rw[hd,←hg]
   have e:ZfX (xs.getD k .top::xs.drop (k+1)) s=ZfX (xs.drop (k+1)) s:=by simp[-List.getD_eq_getElem?_getD,ZfX,h]
   rw[e]
   exact this
theorem Znw(xs:List AV)(s:List UInt8)(hl:xs.length≤1000000):Zat Tryd.prog 41 [.list (.big .str xs), .str s] (.bool (ZfX xs s)) none:=
 start (ZoD xs s) fun C hC=>go hC Zax (ZuL std xs s) (by simp) (ZgS hC xs s hl xs.length 0 (by omega))
theorem ZeH{C:Ctx}(hC:C.P=Tryd.prog)(xs:List Int)(hl:xs.length≤1000000):∀(m k:Nat),k+m=xs.length→Ev C (Zcv xs (xs.length:Int) (k:Int)) (Zb1 xs (xs.length:Int) (k:Int)) (Zcp 35 (.int .i64 (Zan (xs.drop k))) none)
 |0,k,hk=>fin hC Zax (Zvl std xs xs.length k) (by simp;omega) (by rw[List.drop_of_length_le (by omega)];rfl) rfl
 |m+1,k,hk=>by
  have hd:xs.drop k=xs[k]'(by omega)::xs.drop (k+1):=List.drop_eq_getElem_cons (by omega)
  have hg:xs.getD k 0=xs[k]'(by omega):=by simp[List.getD_eq_getElem?_getD,List.getElem?_eq_getElem (show k<xs.length by omega)]
  by_cases h:xs.getD k 0=0
  ·refine go hC Zax (Zvq std xs xs.length k) (by simp[-List.getD_eq_getElem?_getD,h]<;>omega) ?_
   have:=ZeH hC xs hl m (k+1) (by omega)
   rw[hd,←hg,Zan,if_pos h]
   exact this
  ·exact fin hC Zax (Zu2 std xs xs.length k) (by simp[-List.getD_eq_getElem?_getD,h]<;>omega) (by rw[hd,←hg,Zan,if_neg h];rfl) rfl
theorem Zkn(xs:List Int)(hl:xs.length≤1000000):Zat Tryd.prog 35 [.list (.ints .i64 xs)] (.int .i64 (Zan xs)) none:=
 start (Zql xs) fun C hC=>go hC Zax (Zvo std xs) (by simp) (ZeH hC xs hl xs.length 0 (by omega))
end Go.Proofs.YtkeoeooghhjibaaDoor
/- Contracts as a list. No condition. -/
namespace Go.Proofs.YtkeoeooghhjibaaDoor
def k17:Ctr:=⟨17,0,fun _ a=>match a with |[.int .i64 n, .int .i64 a, .int .i64 b]=>some (true, .bool (Zad n a b),none) |_=>none⟩
theorem Zrj:k17.OK Tryd.prog:=fun pa args r fr h=>by
 simp only[k17]at h
 split at h
 ·cases h
  exact ZiU _ _ _
 ·cases h
def k26:Ctr:=⟨26,0,fun _ a=>match a with |[.int .i64 n, .int .i64 a, .int .i64 b]=>some (true, .bool (Zad n a b),none) |_=>none⟩
theorem Zsd:k26.OK Tryd.prog:=fun pa args r fr h=>by
 simp only[k26]at h
 split at h
 ·cases h
  exact Zjb _ _ _
 ·cases h
def k32:Ctr:=⟨32,0,fun _ a=>match a with |[.bool b, .int .i64 e]=>some (true, .int .i64 (Zaa b e),none) |_=>none⟩
theorem ZqN:k32.OK Tryd.prog:=fun pa args r fr h=>by
 simp only[k32]at h
 split at h
 ·cases h
  exact ZiR _ _
 ·cases h
def k29:Ctr:=⟨29,0,fun _ a=>match a with |[.int .i64 _]=>some (true, .int .i64 0,none) |_=>none⟩
theorem Ztk:k29.OK Tryd.prog:=fun pa args r fr h=>by
 simp only[k29]at h
 split at h
 ·cases h
  exact ZmE _
 ·cases h
def k40:Ctr:=⟨40,0,fun _ a=>match a with |[.str s]=>some (decide (s.length≤1000000), .bool (ZaH s),none) |_=>none⟩
theorem Zs7:k40.OK Tryd.prog:=fun pa args r fr h=>by
 simp only[k40]at h
 split at h
 ·simp only[Option.some.injEq,Prod.mk.injEq,decide_eq_true_eq]at h
  obtain⟨h0,rfl,rfl⟩:=h
  exact Zl2 _ h0
 ·cases h
def k56:Ctr:=⟨56,0,fun _ a=>match a with |[.str s]=>some (decide (s.length≤1000000), .bool (ZaH s),none) |_=>none⟩
theorem ZsO:k56.OK Tryd.prog:=fun pa args r fr h=>by
 simp only[k56]at h
 split at h
 ·simp only[Option.some.injEq,Prod.mk.injEq,decide_eq_true_eq]at h
  obtain⟨h0,rfl,rfl⟩:=h
  exact ZlE _ h0
 ·cases h
def k41:Ctr:=⟨41,0,fun _ a=>match a with |[.list (.big .str xs), .str s]=>some (decide (xs.length≤1000000), .bool (ZfX xs s),none) |_=>none⟩
theorem Zq7:k41.OK Tryd.prog:=fun pa args r fr h=>by
 simp only[k41]at h
 split at h
 ·simp only[Option.some.injEq,Prod.mk.injEq,decide_eq_true_eq]at h
  obtain⟨h0,rfl,rfl⟩:=h
  exact Znw _ _ h0
 ·cases h
def k35:Ctr:=⟨35,0,fun _ a=>match a with |[.list (.ints .i64 xs)]=>some (decide (xs.length≤1000000), .int .i64 (Zan xs),none) |_=>none⟩
theorem ZsT:k35.OK Tryd.prog:=fun pa args r fr h=>by
 simp only[k35]at h
 split at h
 ·simp only[Option.some.injEq,Prod.mk.injEq,decide_eq_true_eq]at h
  obtain⟨h0,rfl,rfl⟩:=h
  exact Zkn _ h0
 ·cases h
def B1:List Ctr:=[k17,k26,k32,k29,k40,k56,k41,k35]
theorem ZiH:Za3 Tryd.prog B1:=⟨Zrj,⟨Zsd,⟨ZqN,⟨Ztk,⟨Zs7,⟨ZsO,⟨Zq7,⟨ZsT,trivial⟩⟩⟩⟩⟩⟩⟩⟩
end Go.Proofs.YtkeoeooghhjibaaDoor
/- Paths of functions, printed by the explorer (Gx). No condition. -/
namespace Go.Proofs.YtkeoeooghhjibaaDoor
set_option maxRecDepth 100000
set_option linter.unusedVariables false
def Zs3(n:Int)(m:Int):AFrame:={ fn:=25,N:=13,env:=[(0,AV.int .i64 n),(1,AV.int .i64 m)],todo:=[.code a25.code],defs:=[],rnd:=none,ret:=false,res:=[ARes.tmp 4] }
def ZwH(n:Int)(m:Int):List AFrame:=[(Zs3 n m)]
theorem Zpu(n:Int)(m:Int):ZaC tab 25 [AV.int .i64 n,AV.int .i64 m]=some (Zs3 n m):=rfl
theorem Zwk(A:Ar)(n m:Int):ZaT A tab B1 18 [true,true,true,true,true] 25 (ZwH n m) []=
 some (tr [11,4] [A.eq n (-1)],
  AV.bool true,none):=by kernel_rfl
theorem Zws(A:Ar)(n m:Int):ZaT A tab B1 18 [false,false,false,false,false] 25 (ZwH n m) []=
 some (tr [6,4,4] [A.inR .i64 (A.sub m 1),!A.eq n (-1)],
  AV.bool (Zad n 0 (A.sub m 1)),none):=by kernel_rfl
def Zr1(ms:List AV)(ks:List AV)(rs:List AV)(i:Int):AFrame:={ fn:=28,N:=9,env:=[(0,AV.int .i64 i),(1,AV.eptr (AV.agg (Row.gen [.list (Row.big .str ms), .list (Row.big (.agg [.str, .int .i64]) ks), .list (Row.big (.agg [.str, .int .i64, .int .i64, .int .i64, .int .i64]) rs)])) 0)],todo:=[.code a28.code],defs:=[],rnd:=none,ret:=false,res:=[ARes.tmp 3] }
def Zye(ms:List AV)(ks:List AV)(rs:List AV)(i:Int):List AFrame:=[(Zr1 ms ks rs i)]
theorem ZpK(ms:List AV)(ks:List AV)(rs:List AV)(i:Int):ZaC tab 28 [AV.int .i64 i,AV.eptr (AV.agg (Row.gen [.list (Row.big .str ms), .list (Row.big (.agg [.str, .int .i64]) ks), .list (Row.big (.agg [.str, .int .i64, .int .i64, .int .i64, .int .i64]) rs)])) 0]=some (Zr1 ms ks rs i):=rfl
theorem Zwu(A:Ar)(ms ks rs:List AV)(i:Int):ZaT A tab B1 14 [] 28 (Zye ms ks rs i) []=
 some (tr [3,4] [Zag (Zag (A.le 0 i) (Nat.blt (A.nat i) (A.lenA ms))) true],
  AV.str (AV.toS (A.nthA ms (A.nat i))),none):=by kernel_rfl
def Zs5(ms:List AV)(ks:List AV)(rs:List AV)(i:Int):AFrame:={ fn:=30,N:=10,env:=[(0,AV.int .i64 i),(1,AV.eptr (AV.agg (Row.gen [.list (Row.big .str ms), .list (Row.big (.agg [.str, .int .i64]) ks), .list (Row.big (.agg [.str, .int .i64, .int .i64, .int .i64, .int .i64]) rs)])) 0)],todo:=[.code a30.code],defs:=[],rnd:=none,ret:=false,res:=[ARes.tmp 3] }
def Zyi(ms:List AV)(ks:List AV)(rs:List AV)(i:Int):List AFrame:=[(Zs5 ms ks rs i)]
theorem ZoH(ms:List AV)(ks:List AV)(rs:List AV)(i:Int):ZaC tab 30 [AV.int .i64 i,AV.eptr (AV.agg (Row.gen [.list (Row.big .str ms), .list (Row.big (.agg [.str, .int .i64]) ks), .list (Row.big (.agg [.str, .int .i64, .int .i64, .int .i64, .int .i64]) rs)])) 0]=some (Zs5 ms ks rs i):=rfl
theorem Zwc(A:Ar)(ms ks rs:List AV)(i:Int):ZaT A tab B1 16 [] 30 (Zyi ms ks rs i) []=
 some (tr [4,4] [Zag (Zag (A.le 0 i) (Nat.blt (A.nat i) (A.lenA ks))) true],
  AV.str ((A.nthA ks (A.nat i)).cellAt 0).toS,none):=by kernel_rfl
def Zrs(ms:List AV)(ks:List AV)(rs:List AV)(i:Int):AFrame:={ fn:=33,N:=10,env:=[(0,AV.int .i64 i),(1,AV.eptr (AV.agg (Row.gen [.list (Row.big .str ms), .list (Row.big (.agg [.str, .int .i64]) ks), .list (Row.big (.agg [.str, .int .i64, .int .i64, .int .i64, .int .i64]) rs)])) 0)],todo:=[.code a33.code],defs:=[],rnd:=none,ret:=false,res:=[ARes.tmp 3] }
def Zxd(ms:List AV)(ks:List AV)(rs:List AV)(i:Int):List AFrame:=[(Zrs ms ks rs i)]
theorem ZpI(ms:List AV)(ks:List AV)(rs:List AV)(i:Int):ZaC tab 33 [AV.int .i64 i,AV.eptr (AV.agg (Row.gen [.list (Row.big .str ms), .list (Row.big (.agg [.str, .int .i64]) ks), .list (Row.big (.agg [.str, .int .i64, .int .i64, .int .i64, .int .i64]) rs)])) 0]=some (Zrs ms ks rs i):=rfl
theorem Zva(A:Ar)(ms ks rs:List AV)(i:Int):ZaT A tab B1 16 [] 33 (Zxd ms ks rs i) []=
 some (tr [4,4] [Zag (Zag (A.le 0 i) (Nat.blt (A.nat i) (A.lenA rs))) true],
  AV.str ((A.nthA rs (A.nat i)).cellAt 0).toS,none):=by kernel_rfl
def Zto(xs:List AV):AFrame:={ fn:=36,N:=6,env:=[(0,AV.list (Row.big .str xs))],todo:=[.code a36.code],defs:=[],rnd:=none,ret:=false,res:=[ARes.tmp 2] }
def Zxk(xs:List AV):List AFrame:=[(Zto xs)]
theorem Zol(xs:List AV):ZaC tab 36 [AV.list (Row.big .str xs)]=some (Zto xs):=rfl
theorem ZvX(A:Ar)(xs:List AV):ZaT A tab B1 12 [] 36 (Zxk xs) []=
 some (tr [2,3] [Nat.ble (A.lenA xs) 4294967296],
  AV.list (Row.big .str xs),none):=by kernel_rfl
end Go.Proofs.YtkeoeooghhjibaaDoor
/- Contracts as a list. No condition. -/
namespace Go.Proofs.YtkeoeooghhjibaaDoor
def Zf0(n m:Int):Bool:=if n= -1 then true else Zad n 0 (m-1)
def ZaV(ms:List AV)(i:Int):List UInt8:=(ms.getD i.toNat .top).toS
def Zau(ks:List AV)(i:Int):List UInt8:=((ks.getD i.toNat .top).cellAt 0).toS
theorem ZnV(n m:Int)(h: -1000000≤m∧m≤1000000):Zat Tryd.prog 25 [.int .i64 n, .int .i64 m] (.bool (Zf0 n m)) none:=
 start (Zpu n m) fun C hC=>by
  by_cases h1:n= -1
  ·exact fin hC ZiH (Zwk std n m) (by simp[h1]) (by simp[Zf0,h1]) rfl
  ·exact fin hC ZiH (Zws std n m) (by simp[h1];omega) (by simp[Zf0,h1]) rfl
theorem Zlt(ms ks rs:List AV)(i:Int)(h:0≤i∧i<ms.length):Zat Tryd.prog 28 [.int .i64 i, .eptr (.agg (.gen [.list (.big .str ms), .list (.big (.agg [.str, .int .i64]) ks), .list (.big (.agg [.str, .int .i64, .int .i64, .int .i64, .int .i64]) rs)])) 0] (.str (ZaV ms i)) none:=
 start (ZpK ms ks rs i) fun C hC=>fin hC ZiH (Zwu std ms ks rs i) (by simp;omega) rfl rfl
theorem ZlQ(ms ks rs:List AV)(i:Int)(h:0≤i∧i<ks.length):Zat Tryd.prog 30 [.int .i64 i, .eptr (.agg (.gen [.list (.big .str ms), .list (.big (.agg [.str, .int .i64]) ks), .list (.big (.agg [.str, .int .i64, .int .i64, .int .i64, .int .i64]) rs)])) 0] (.str (Zau ks i)) none:=
 start (ZoH ms ks rs i) fun C hC=>fin hC ZiH (Zwc std ms ks rs i) (by simp;omega) rfl rfl
theorem Zlp(ms ks rs:List AV)(i:Int)(h:0≤i∧i<rs.length):Zat Tryd.prog 33 [.int .i64 i, .eptr (.agg (.gen [.list (.big .str ms), .list (.big (.agg [.str, .int .i64]) ks), .list (.big (.agg [.str, .int .i64, .int .i64, .int .i64, .int .i64]) rs)])) 0] (.str (Zau rs i)) none:=
 start (ZpI ms ks rs i) fun C hC=>fin hC ZiH (Zva std ms ks rs i) (by simp;omega) rfl rfl
theorem Zly(xs:List AV)(h:xs.length≤1000000):Zat Tryd.prog 36 [.list (.big .str xs)] (.list (.big .str xs)) none:=
 start (Zol xs) fun C hC=>fin hC ZiH (ZvX std xs) (by simp;omega) rfl rfl
def k25:Ctr:=⟨25,0,fun _ a=>match a with |[.int .i64 n, .int .i64 m]=>some (decide (-1000000≤m∧m≤1000000), .bool (Zf0 n m),none) |_=>none⟩
theorem ZsR:k25.OK Tryd.prog:=fun pa args r fr h=>by
 simp only[k25]at h
 split at h
 ·simp only[Option.some.injEq,Prod.mk.injEq,decide_eq_true_eq]at h
  obtain⟨h0,rfl,rfl⟩:=h
  exact ZnV _ _ h0
 ·cases h
def k28:Ctr:=⟨28,0,fun _ a=>match a with |[.int .i64 i, .eptr (.agg (.gen [.list (.big .str ms), .list (.big (.agg [.str, .int .i64]) ks), .list (.big (.agg [.str, .int .i64, .int .i64, .int .i64, .int .i64]) rs)])) 0]=>some (decide (0≤i∧i<ms.length), .str (ZaV ms i),none) |_=>none⟩
theorem ZrP:k28.OK Tryd.prog:=fun pa args r fr h=>by
 simp only[k28]at h
 split at h
 ·simp only[Option.some.injEq,Prod.mk.injEq,decide_eq_true_eq]at h
  obtain⟨h0,rfl,rfl⟩:=h
  exact Zlt _ _ _ _ h0
 ·cases h
def k30:Ctr:=⟨30,0,fun _ a=>match a with |[.int .i64 i, .eptr (.agg (.gen [.list (.big .str ms), .list (.big (.agg [.str, .int .i64]) ks), .list (.big (.agg [.str, .int .i64, .int .i64, .int .i64, .int .i64]) rs)])) 0]=>some (decide (0≤i∧i<ks.length), .str (Zau ks i),none) |_=>none⟩
theorem Zsm:k30.OK Tryd.prog:=fun pa args r fr h=>by
 simp only[k30]at h
 split at h
 ·simp only[Option.some.injEq,Prod.mk.injEq,decide_eq_true_eq]at h
  obtain⟨h0,rfl,rfl⟩:=h
  exact ZlQ _ _ _ _ h0
 ·cases h
def k33:Ctr:=⟨33,0,fun _ a=>match a with |[.int .i64 i, .eptr (.agg (.gen [.list (.big .str ms), .list (.big (.agg [.str, .int .i64]) ks), .list (.big (.agg [.str, .int .i64, .int .i64, .int .i64, .int .i64]) rs)])) 0]=>some (decide (0≤i∧i<rs.length), .str (Zau rs i),none) |_=>none⟩
theorem Zq5:k33.OK Tryd.prog:=fun pa args r fr h=>by
 simp only[k33]at h
 split at h
 ·simp only[Option.some.injEq,Prod.mk.injEq,decide_eq_true_eq]at h
  obtain⟨h0,rfl,rfl⟩:=h
  exact Zlp _ _ _ _ h0
 ·cases h
def k36:Ctr:=⟨36,0,fun _ a=>match a with |[.list (.big .str xs)]=>some (decide (xs.length≤1000000), .list (.big .str xs),none) |_=>none⟩
theorem ZrH:k36.OK Tryd.prog:=fun pa args r fr h=>by
 simp only[k36]at h
 split at h
 ·simp only[Option.some.injEq,Prod.mk.injEq,decide_eq_true_eq]at h
  obtain⟨h0,rfl,rfl⟩:=h
  exact Zly _ h0
 ·cases h
def B2:List Ctr:=[k25,k28,k30,k33,k36]++B1
theorem Zf4:Za3 Tryd.prog B2:=⟨ZsR,⟨ZrP,⟨Zsm,⟨Zq5,⟨ZrH,ZiH⟩⟩⟩⟩⟩
end Go.Proofs.YtkeoeooghhjibaaDoor
/- Paths of functions, printed by the explorer (Gx). No condition. -/
namespace Go.Proofs.YtkeoeooghhjibaaDoor
set_option maxRecDepth 100000
set_option linter.unusedVariables false
def Zra(ms:List AV)(ks:List AV)(rs:List AV)(i:Int)(k:Int):AFrame:={ fn:=31,N:=16,env:=[(0,AV.int .i64 i),(1,AV.eptr (AV.fn 25 []) 0),(2,AV.eptr (AV.agg (Row.gen [.list (Row.big .str ms), .list (Row.big (.agg [.str, .int .i64]) ks), .list (Row.big (.agg [.str, .int .i64, .int .i64, .int .i64, .int .i64]) rs)])) 0),(3,AV.eptr (AV.int .i64 k) 0)],todo:=[.code a31.code],defs:=[],rnd:=none,ret:=false,res:=[ARes.tmp 5] }
def ZxM(ms:List AV)(ks:List AV)(rs:List AV)(i:Int)(k:Int):List AFrame:=[(Zra ms ks rs i k)]
theorem Zoh(ms:List AV)(ks:List AV)(rs:List AV)(i:Int)(k:Int):ZaC tab 31 [AV.int .i64 i,AV.eptr (AV.fn 25 []) 0,AV.eptr (AV.agg (Row.gen [.list (Row.big .str ms), .list (Row.big (.agg [.str, .int .i64]) ks), .list (Row.big (.agg [.str, .int .i64, .int .i64, .int .i64, .int .i64]) rs)])) 0,AV.eptr (AV.int .i64 k) 0]=some (Zra ms ks rs i k):=rfl
theorem ZvO(A:Ar)(ms ks rs:List AV)(i k:Int):ZaT A tab B2 8 [] 31 (ZxM ms ks rs i k) []=
 some (tr [3,3,5] [decide (-1000000≤k∧k≤1000000),Zag (Zag (A.le 0 i) (Nat.blt (A.nat i) (A.lenA ks))) true],
  AV.int .i64 (Zaa (Zf0 ((A.nthA ks (A.nat i)).cellAt 1).toI k) 6),none):=by kernel_rfl
def ZtD(ms:List AV)(ks:List AV)(rs:List AV)(i:Int)(n:Int)(m:Int):AFrame:={ fn:=34,N:=48,env:=[(0,AV.int .i64 i),(1,AV.eptr (AV.agg (Row.gen [.list (Row.big .str ms), .list (Row.big (.agg [.str, .int .i64]) ks), .list (Row.big (.agg [.str, .int .i64, .int .i64, .int .i64, .int .i64]) rs)])) 0),(2,AV.eptr (AV.int .i64 n) 0),(3,AV.eptr (AV.fn 25 []) 0),(4,AV.eptr (AV.int .i64 m) 0)],todo:=[.code a34.code],defs:=[],rnd:=none,ret:=false,res:=[ARes.tmp 6] }
def ZqH(ms:List AV)(ks:List AV)(rs:List AV)(i:Int)(n:Int)(m:Int):List AFrame:=[(ZtD ms ks rs i n m)]
theorem Zpq(ms:List AV)(ks:List AV)(rs:List AV)(i:Int)(n:Int)(m:Int):ZaC tab 34 [AV.int .i64 i,AV.eptr (AV.agg (Row.gen [.list (Row.big .str ms), .list (Row.big (.agg [.str, .int .i64]) ks), .list (Row.big (.agg [.str, .int .i64, .int .i64, .int .i64, .int .i64]) rs)])) 0,AV.eptr (AV.int .i64 n) 0,AV.eptr (AV.fn 25 []) 0,AV.eptr (AV.int .i64 m) 0]=some (ZtD ms ks rs i n m):=rfl
theorem Zv6(A:Ar)(ms ks rs:List AV)(i n m:Int):ZaT A tab B2 18 [true,true,true] 34 (ZqH ms ks rs i n m) []=
 some (tr [2,0,5,10,4,2,4,2,6,4] [decide (List.length [Zaa (Zf0 ((A.nthA rs (A.nat i)).cellAt 3).toI n) 6,Zaa (Zad ((A.nthA rs (A.nat i)).cellAt 4).toI 1 1000000) 2,0]≤1000000),List.all [AV.int .i64 (Zaa (Zf0 ((A.nthA rs (A.nat i)).cellAt 3).toI n) 6),AV.int .i64 (Zaa (Zad ((A.nthA rs (A.nat i)).cellAt 4).toI 1 1000000) 2),AV.int .i64 0] fun x=>AV.bx x&&Nat.beq (Zam A x) 1,A.not (A.eq ((A.nthA rs (A.nat i)).cellAt 3).toI (-1)),decide (-1000000≤n∧n≤1000000),Zf0 ((A.nthA rs (A.nat i)).cellAt 2).toI m,decide (-1000000≤m∧m≤1000000),Zad ((A.nthA rs (A.nat i)).cellAt 1).toI 0 (A.sub n 1),A.inR .i64 (A.sub n 1),Zag (Zag (A.le 0 i) (Nat.blt (A.nat i) (A.lenA rs))) true],
  AV.int .i64 (Zan [Zaa (Zf0 ((A.nthA rs (A.nat i)).cellAt 3).toI n) 6,Zaa (Zad ((A.nthA rs (A.nat i)).cellAt 4).toI 1 1000000) 2,0]),none):=by kernel_rfl
theorem ZvJ(A:Ar)(ms ks rs:List AV)(i n m:Int):ZaT A tab B2 18 [true,true,false] 34 (ZqH ms ks rs i n m) []=
 some (tr [2,0,5,10,4,2,4,2,6,4] [decide (List.length [Zaa (Zf0 ((A.nthA rs (A.nat i)).cellAt 3).toI n) 6,Zaa (Zad ((A.nthA rs (A.nat i)).cellAt 4).toI 1 1000000) 2,Zaa (A.eq ((A.nthA rs (A.nat i)).cellAt 4).toI 1) 3]≤1000000),List.all [AV.int .i64 (Zaa (Zf0 ((A.nthA rs (A.nat i)).cellAt 3).toI n) 6),AV.int .i64 (Zaa (Zad ((A.nthA rs (A.nat i)).cellAt 4).toI 1 1000000) 2),AV.int .i64 (Zaa (A.eq ((A.nthA rs (A.nat i)).cellAt 4).toI 1) 3)] fun x=>AV.bx x&&Nat.beq (Zam A x) 1,!A.not (A.eq ((A.nthA rs (A.nat i)).cellAt 3).toI (-1)),decide (-1000000≤n∧n≤1000000),Zf0 ((A.nthA rs (A.nat i)).cellAt 2).toI m,decide (-1000000≤m∧m≤1000000),Zad ((A.nthA rs (A.nat i)).cellAt 1).toI 0 (A.sub n 1),A.inR .i64 (A.sub n 1),Zag (Zag (A.le 0 i) (Nat.blt (A.nat i) (A.lenA rs))) true],
  AV.int .i64 (Zan [Zaa (Zf0 ((A.nthA rs (A.nat i)).cellAt 3).toI n) 6,Zaa (Zad ((A.nthA rs (A.nat i)).cellAt 4).toI 1 1000000) 2,Zaa (A.eq ((A.nthA rs (A.nat i)).cellAt 4).toI 1) 3]),none):=by kernel_rfl
theorem Zub(A:Ar)(ms ks rs:List AV)(i n m:Int):ZaT A tab B2 18 [true,false,true] 34 (ZqH ms ks rs i n m) []=
 some (tr [2,0,5,15,2,4,2,6,4] [decide (List.length [6,Zaa (Zad ((A.nthA rs (A.nat i)).cellAt 4).toI 1 1000000) 2,0]≤1000000),List.all [AV.int .i64 6,AV.int .i64 (Zaa (Zad ((A.nthA rs (A.nat i)).cellAt 4).toI 1 1000000) 2),AV.int .i64 0] fun x=>AV.bx x&&Nat.beq (Zam A x) 1,A.not (A.eq ((A.nthA rs (A.nat i)).cellAt 3).toI (-1)),!Zf0 ((A.nthA rs (A.nat i)).cellAt 2).toI m,decide (-1000000≤m∧m≤1000000),Zad ((A.nthA rs (A.nat i)).cellAt 1).toI 0 (A.sub n 1),A.inR .i64 (A.sub n 1),Zag (Zag (A.le 0 i) (Nat.blt (A.nat i) (A.lenA rs))) true],
  AV.int .i64 (Zan [6,Zaa (Zad ((A.nthA rs (A.nat i)).cellAt 4).toI 1 1000000) 2,0]),none):=by kernel_rfl
theorem ZuU(A:Ar)(ms ks rs:List AV)(i n m:Int):ZaT A tab B2 18 [true,false,false] 34 (ZqH ms ks rs i n m) []=
 some (tr [2,0,5,15,2,4,2,6,4] [decide (List.length [6,Zaa (Zad ((A.nthA rs (A.nat i)).cellAt 4).toI 1 1000000) 2,Zaa (A.eq ((A.nthA rs (A.nat i)).cellAt 4).toI 1) 3]≤1000000),List.all [AV.int .i64 6,AV.int .i64 (Zaa (Zad ((A.nthA rs (A.nat i)).cellAt 4).toI 1 1000000) 2),AV.int .i64 (Zaa (A.eq ((A.nthA rs (A.nat i)).cellAt 4).toI 1) 3)] fun x=>AV.bx x&&Nat.beq (Zam A x) 1,!A.not (A.eq ((A.nthA rs (A.nat i)).cellAt 3).toI (-1)),!Zf0 ((A.nthA rs (A.nat i)).cellAt 2).toI m,decide (-1000000≤m∧m≤1000000),Zad ((A.nthA rs (A.nat i)).cellAt 1).toI 0 (A.sub n 1),A.inR .i64 (A.sub n 1),Zag (Zag (A.le 0 i) (Nat.blt (A.nat i) (A.lenA rs))) true],
  AV.int .i64 (Zan [6,Zaa (Zad ((A.nthA rs (A.nat i)).cellAt 4).toI 1 1000000) 2,Zaa (A.eq ((A.nthA rs (A.nat i)).cellAt 4).toI 1) 3]),none):=by kernel_rfl
theorem ZuT(A:Ar)(ms ks rs:List AV)(i n m:Int):ZaT A tab B2 18 [false,false,true] 34 (ZqH ms ks rs i n m) []=
 some (tr [2,0,5,23,2,6,4] [decide (List.length [6,Zaa (Zad ((A.nthA rs (A.nat i)).cellAt 4).toI 1 1000000) 2,0]≤1000000),List.all [AV.int .i64 6,AV.int .i64 (Zaa (Zad ((A.nthA rs (A.nat i)).cellAt 4).toI 1 1000000) 2),AV.int .i64 0] fun x=>AV.bx x&&Nat.beq (Zam A x) 1,A.not (A.eq ((A.nthA rs (A.nat i)).cellAt 3).toI (-1)),!Zad ((A.nthA rs (A.nat i)).cellAt 1).toI 0 (A.sub n 1),A.inR .i64 (A.sub n 1),Zag (Zag (A.le 0 i) (Nat.blt (A.nat i) (A.lenA rs))) true],
  AV.int .i64 (Zan [6,Zaa (Zad ((A.nthA rs (A.nat i)).cellAt 4).toI 1 1000000) 2,0]),none):=by kernel_rfl
theorem Zwg(A:Ar)(ms ks rs:List AV)(i n m:Int):ZaT A tab B2 18 [false,false,false] 34 (ZqH ms ks rs i n m) []=
 some (tr [2,0,5,23,2,6,4] [decide (List.length [6,Zaa (Zad ((A.nthA rs (A.nat i)).cellAt 4).toI 1 1000000) 2,Zaa (A.eq ((A.nthA rs (A.nat i)).cellAt 4).toI 1) 3]≤1000000),List.all [AV.int .i64 6,AV.int .i64 (Zaa (Zad ((A.nthA rs (A.nat i)).cellAt 4).toI 1 1000000) 2),AV.int .i64 (Zaa (A.eq ((A.nthA rs (A.nat i)).cellAt 4).toI 1) 3)] fun x=>AV.bx x&&Nat.beq (Zam A x) 1,!A.not (A.eq ((A.nthA rs (A.nat i)).cellAt 3).toI (-1)),!Zad ((A.nthA rs (A.nat i)).cellAt 1).toI 0 (A.sub n 1),A.inR .i64 (A.sub n 1),Zag (Zag (A.le 0 i) (Nat.blt (A.nat i) (A.lenA rs))) true],
  AV.int .i64 (Zan [6,Zaa (Zad ((A.nthA rs (A.nat i)).cellAt 4).toI 1 1000000) 2,Zaa (A.eq ((A.nthA rs (A.nat i)).cellAt 4).toI 1) 3]),none):=by kernel_rfl
def Zw3(ms:List AV)(ks:List AV)(rs:List AV):AFrame:={ fn:=8,N:=15,env:=[(0,AV.agg (Row.gen [.list (Row.big .str ms), .list (Row.big (.agg [.str, .int .i64]) ks), .list (Row.big (.agg [.str, .int .i64, .int .i64, .int .i64, .int .i64]) rs)]))],todo:=[.code a8.code],defs:=[],rnd:=none,ret:=false,res:=[ARes.cell 2 true 3] }
def f8e(ms:List AV)(ks:List AV)(rs:List AV):List AFrame:=[(Zw3 ms ks rs)]
theorem Zrp(ms:List AV)(ks:List AV)(rs:List AV):ZaC tab 8 [AV.agg (Row.gen [.list (Row.big .str ms), .list (Row.big (.agg [.str, .int .i64]) ks), .list (Row.big (.agg [.str, .int .i64, .int .i64, .int .i64, .int .i64]) rs)])]=some (Zw3 ms ks rs):=rfl
theorem Zxj(A:Ar)(ms ks rs:List AV):ZaT A tab B2 9 [] 8 (f8e ms ks rs) []=
 some (tr [3,3,3,4] [Nat.ble (A.lenA rs) 4294967296,Nat.ble (A.lenA ks) 4294967296,decide (List.length ms≤1000000)],
  AV.agg (Row.gen [.list (Row.big .str ms), .list (Row.big (.agg [.str, .int .i64]) ks), .list (Row.big (.agg [.str, .int .i64, .int .i64, .int .i64, .int .i64]) rs)]),none):=by kernel_rfl
def ZsU(a:Int)(b:Int)(xs:List Int):AFrame:={ fn:=14,N:=8,env:=[(0,AV.agg (Row.gen [.int .i64 a, .int .i64 b, .list (.ints .i64 xs)]))],todo:=[.code a14.code],defs:=[],rnd:=none,ret:=false,res:=[ARes.cell 2 true 3] }
def Zxm(a:Int)(b:Int)(xs:List Int):List AFrame:=[(ZsU a b xs)]
theorem Zp8(a:Int)(b:Int)(xs:List Int):ZaC tab 14 [AV.agg (Row.gen [.int .i64 a, .int .i64 b, .list (.ints .i64 xs)])]=some (ZsU a b xs):=rfl
theorem Zuv(A:Ar)(a b:Int)(xs:List Int):ZaT A tab B2 32 [] 14 (Zxm a b xs) []=
 some (tr [7,7] [Nat.ble (A.len xs) 4294967296],
  AV.agg (Row.gen [.int .i64 a, .int .i64 b, .list (.ints .i64 xs)]),none):=by kernel_rfl
end Go.Proofs.YtkeoeooghhjibaaDoor
/- Contracts as a list. No condition. -/
namespace Go.Proofs.YtkeoeooghhjibaaDoor
def ZaJ(xs:List AV)(i:Int)(j:Nat):Int:=((xs.getD i.toNat .top).cellAt j).toI
def ZbY(ks:List AV)(i k:Int):Int:=Zaa (Zf0 (ZaJ ks i 1) k) 6
def Zbs(rs:List AV)(i n m:Int):Int:=Zan [Zaa (Zad (ZaJ rs i 1) 0 (n-1)&&Zf0 (ZaJ rs i 2) m&&Zf0 (ZaJ rs i 3) n) 6,Zaa (Zad (ZaJ rs i 4) 1 1000000) 2,Zaa (decide (ZaJ rs i 3≠ -1∨ZaJ rs i 4=1)) 3]
theorem Zlr(ms ks rs:List AV)(i k:Int)(h:(0≤i∧i<ks.length)∧ -1000000≤k∧k≤1000000):Zat Tryd.prog 31 [.int .i64 i, .eptr (.fn 25 []) 0, .eptr (.agg (.gen [.list (.big .str ms), .list (.big (.agg [.str, .int .i64]) ks), .list (.big (.agg [.str, .int .i64, .int .i64, .int .i64, .int .i64]) rs)])) 0, .eptr (.int .i64 k) 0] (.int .i64 (ZbY ks i k)) none:=
 start (Zoh ms ks rs i k) fun C hC=>fin hC Zf4 (ZvO std ms ks rs i k) (by simp;omega) rfl rfl
theorem ZlL(ms ks rs:List AV)(i n m:Int)(h:(0≤i∧i<rs.length)∧(-1000000≤n∧n≤1000000)∧ -1000000≤m∧m≤1000000):Zat Tryd.prog 34 [.int .i64 i, .eptr (.agg (.gen [.list (.big .str ms), .list (.big (.agg [.str, .int .i64]) ks), .list (.big (.agg [.str, .int .i64, .int .i64, .int .i64, .int .i64]) rs)])) 0, .eptr (.int .i64 n) 0, .eptr (.fn 25 []) 0, .eptr (.int .i64 m) 0] (.int .i64 (Zbs rs i n m)) none:=
 start (Zpq ms ks rs i n m) fun C hC=>by
  have hb:∀x y z:Int,([AV.int .i64 x,AV.int .i64 y,AV.int .i64 z].all fun x=>AV.bx x&&Nat.beq (Zam std x) 1)=true:=fun _ _ _=>rfl
  have e1:((rs.getD i.toNat .top).cellAt 1).toI=ZaJ rs i 1:=rfl
  have e2:((rs.getD i.toNat .top).cellAt 2).toI=ZaJ rs i 2:=rfl
  have e3:((rs.getD i.toNat .top).cellAt 3).toI=ZaJ rs i 3:=rfl
  have e4:((rs.getD i.toNat .top).cellAt 4).toI=ZaJ rs i 4:=rfl
  have hi:i.toNat<rs.length:=by omega
  by_cases h1:Zad (ZaJ rs i 1) 0 (n-1)=true
  ·by_cases h2:Zf0 (ZaJ rs i 2) m=true
   ·by_cases h3:ZaJ rs i 3= -1
    ·exact fin hC Zf4 (ZvJ std ms ks rs i n m) (by simp only[hb];simp[-List.getD_eq_getElem?_getD,e1,e2,e3,e4,h1,h2,h3];omega) (by simp[-List.getD_eq_getElem?_getD,Zbs,e1,e2,e3,e4,h1,h2,h3]) rfl
    ·exact fin hC Zf4 (Zv6 std ms ks rs i n m) (by simp only[hb];simp[-List.getD_eq_getElem?_getD,e1,e2,e3,e4,h1,h2,h3];omega) (by simp[-List.getD_eq_getElem?_getD,Zbs,e1,e2,e3,e4,h1,h2,h3,Zaa]) rfl
   ·by_cases h3:ZaJ rs i 3= -1
    ·exact fin hC Zf4 (ZuU std ms ks rs i n m) (by simp only[hb];simp[-List.getD_eq_getElem?_getD,e1,e2,e3,e4,h1,h2,h3];omega) (by simp[-List.getD_eq_getElem?_getD,Zbs,e1,e2,e3,e4,h1,h2,h3,Zaa]) rfl
    ·exact fin hC Zf4 (Zub std ms ks rs i n m) (by simp only[hb];simp[-List.getD_eq_getElem?_getD,e1,e2,e3,e4,h1,h2,h3];omega) (by simp[-List.getD_eq_getElem?_getD,Zbs,e1,e2,e3,e4,h1,h2,h3,Zaa]) rfl
  ·by_cases h3:ZaJ rs i 3= -1
   ·exact fin hC Zf4 (Zwg std ms ks rs i n m) (by simp only[hb];simp[-List.getD_eq_getElem?_getD,e1,e2,e3,e4,h1,h3];omega) (by simp[-List.getD_eq_getElem?_getD,Zbs,e1,e2,e3,e4,h1,h3,Zaa]) rfl
   ·exact fin hC Zf4 (ZuT std ms ks rs i n m) (by simp only[hb];simp[-List.getD_eq_getElem?_getD,e1,e2,e3,e4,h1,h3];omega) (by simp[-List.getD_eq_getElem?_getD,Zbs,e1,e2,e3,e4,h1,h3,Zaa]) rfl
theorem ZmT(ms ks rs:List AV)(h:ms.length≤1000000∧ks.length≤1000000∧rs.length≤1000000):Zat Tryd.prog 8 [.agg (.gen [.list (.big .str ms), .list (.big (.agg [.str, .int .i64]) ks), .list (.big (.agg [.str, .int .i64, .int .i64, .int .i64, .int .i64]) rs)])] (.agg (.gen [.list (.big .str ms), .list (.big (.agg [.str, .int .i64]) ks), .list (.big (.agg [.str, .int .i64, .int .i64, .int .i64, .int .i64]) rs)])) none:=
 start (Zrp ms ks rs) fun C hC=>fin hC Zf4 (Zxj std ms ks rs) (by simp;omega) rfl rfl
theorem Zls(a b:Int)(xs:List Int)(h:xs.length≤1000000):Zat Tryd.prog 14 [.agg (.gen [.int .i64 a, .int .i64 b, .list (.ints .i64 xs)])] (.agg (.gen [.int .i64 a, .int .i64 b, .list (.ints .i64 xs)])) none:=
 start (Zp8 a b xs) fun C hC=>fin hC Zf4 (Zuv std a b xs) (by simp;omega) rfl rfl
def k31:Ctr:=⟨31,0,fun _ a=>match a with |[.int .i64 i, .eptr (.fn 25 []) 0, .eptr (.agg (.gen [.list (.big .str ms), .list (.big (.agg [.str, .int .i64]) ks), .list (.big (.agg [.str, .int .i64, .int .i64, .int .i64, .int .i64]) rs)])) 0, .eptr (.int .i64 k) 0]=>some (decide ((0≤i∧i<ks.length)∧ -1000000≤k∧k≤1000000), .int .i64 (ZbY ks i k),none) |_=>none⟩
theorem ZrN:k31.OK Tryd.prog:=fun pa args r fr h=>by
 simp only[k31]at h
 split at h
 ·simp only[Option.some.injEq,Prod.mk.injEq,decide_eq_true_eq]at h
  obtain⟨h0,rfl,rfl⟩:=h
  exact Zlr _ _ _ _ _ h0
 ·cases h
def k34:Ctr:=⟨34,0,fun _ a=>match a with |[.int .i64 i, .eptr (.agg (.gen [.list (.big .str ms), .list (.big (.agg [.str, .int .i64]) ks), .list (.big (.agg [.str, .int .i64, .int .i64, .int .i64, .int .i64]) rs)])) 0, .eptr (.int .i64 n) 0, .eptr (.fn 25 []) 0, .eptr (.int .i64 m) 0]=>some (decide ((0≤i∧i<rs.length)∧(-1000000≤n∧n≤1000000)∧ -1000000≤m∧m≤1000000), .int .i64 (Zbs rs i n m),none) |_=>none⟩
theorem Zrb:k34.OK Tryd.prog:=fun pa args r fr h=>by
 simp only[k34]at h
 split at h
 ·simp only[Option.some.injEq,Prod.mk.injEq,decide_eq_true_eq]at h
  obtain⟨h0,rfl,rfl⟩:=h
  exact ZlL _ _ _ _ _ _ h0
 ·cases h
def k8:Ctr:=⟨8,0,fun _ a=>match a with |[.agg (.gen [.list (.big .str ms), .list (.big (.agg [.str, .int .i64]) ks), .list (.big (.agg [.str, .int .i64, .int .i64, .int .i64, .int .i64]) rs)])]=>some (decide (ms.length≤1000000∧ks.length≤1000000∧rs.length≤1000000), .agg (.gen [.list (.big .str ms), .list (.big (.agg [.str, .int .i64]) ks), .list (.big (.agg [.str, .int .i64, .int .i64, .int .i64, .int .i64]) rs)]),none) |_=>none⟩
theorem Zvm:k8.OK Tryd.prog:=fun pa args r fr h=>by
 simp only[k8]at h
 split at h
 ·simp only[Option.some.injEq,Prod.mk.injEq,decide_eq_true_eq]at h
  obtain⟨h0,rfl,rfl⟩:=h
  exact ZmT _ _ _ h0
 ·cases h
def k14:Ctr:=⟨14,0,fun _ a=>match a with |[.agg (.gen [.int .i64 a, .int .i64 b, .list (.ints .i64 xs)])]=>some (decide (xs.length≤1000000), .agg (.gen [.int .i64 a, .int .i64 b, .list (.ints .i64 xs)]),none) |_=>none⟩
theorem Zsk:k14.OK Tryd.prog:=fun pa args r fr h=>by
 simp only[k14]at h
 split at h
 ·simp only[Option.some.injEq,Prod.mk.injEq,decide_eq_true_eq]at h
  obtain⟨h0,rfl,rfl⟩:=h
  exact Zls _ _ _ h0
 ·cases h
def B3:List Ctr:=[k31,k34,k8,k14]++B2
theorem ZaX:Za3 Tryd.prog B3:=⟨ZrN,⟨Zrb,⟨Zvm,⟨Zsk,Zf4⟩⟩⟩⟩
end Go.Proofs.YtkeoeooghhjibaaDoor
