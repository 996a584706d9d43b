/- Paths of functions, printed by the explorer (Gx). No condition. -/
import Derived.Test.YtkeoeooghhjibaaGreatDoorTj
import Derived.KernelRfl
namespace Go.Proofs.YtkeoeooghhjibaaGreatDoor
set_option maxRecDepth 100000
set_option linter.unusedVariables false
def ZyU(n a b:Int):AFrame:={ fn:=41,N:=15,env:=[(0,AV.int .i64 n),(1,AV.int .i64 a),(2,AV.int .i64 b)],todo:=[.code a41.code],defs:=[],rnd:=none,ret:=false,res:=[ARes.tmp 6] }
def ZFa(n a b:Int):List AFrame:=[(ZyU n a b)]
theorem Zs1(n a b:Int):Zaq tab 41 [AV.int .i64 n,AV.int .i64 a,AV.int .i64 b]=some (ZyU n a b):=rfl
theorem ZEp(A:Ar)(n a b:Int):ZaT A tab E0 18 [true,true,true,true] 41 (ZFa n a b) []=
 some (tr [9,5] [A.le a n],
  AV.bool (A.le n b),none):=by kernel_rfl
theorem ZDe(A:Ar)(n a b:Int):ZaT A tab E0 18 [false,false,false,false] 41 (ZFa n a b) []=
 some (tr [9,5] [!A.le a n],
  AV.bool false,none):=by kernel_rfl
def Zxw(n a b:Int):AFrame:={ fn:=82,N:=15,env:=[(0,AV.int .i64 n),(1,AV.int .i64 a),(2,AV.int .i64 b)],todo:=[.code a82.code],defs:=[],rnd:=none,ret:=false,res:=[ARes.tmp 6] }
def ZFk(n a b:Int):List AFrame:=[(Zxw n a b)]
theorem ZtE(n a b:Int):Zaq tab 82 [AV.int .i64 n,AV.int .i64 a,AV.int .i64 b]=some (Zxw n a b):=rfl
theorem ZCN(A:Ar)(n a b:Int):ZaT A tab E0 18 [true,true,true,true] 82 (ZFk n a b) []=
 some (tr [9,5] [A.le a n],
  AV.bool (A.le n b),none):=by kernel_rfl
theorem ZEq(A:Ar)(n a b:Int):ZaT A tab E0 18 [false,false,false,false] 82 (ZFk n a b) []=
 some (tr [9,5] [!A.le a n],
  AV.bool false,none):=by kernel_rfl
def ZA1(b:Bool)(e:Int):AFrame:={ fn:=68,N:=7,env:=[(0,AV.bool b),(1,AV.int .i64 e)],todo:=[.code a68.code],defs:=[],rnd:=none,ret:=false,res:=[ARes.tmp 4] }
def ZFe(b:Bool)(e:Int):List AFrame:=[(ZA1 b e)]
theorem Zs6(b:Bool)(e:Int):Zaq tab 68 [AV.bool b,AV.int .i64 e]=some (ZA1 b e):=rfl
theorem ZBz(A:Ar)(b:Bool)(e:Int):ZaT A tab E0 15 [true] 68 (ZFe b e) []=
 some (tr [2,2] [b],
  AV.int .i64 0,none):=by kernel_rfl
theorem Zzr(A:Ar)(b:Bool)(e:Int):ZaT A tab E0 17 [false] 68 (ZFe b e) []=
 some (tr [3,2] [!b],
  AV.int .i64 e,none):=by kernel_rfl
def ZBn(xs:List Int):AFrame:={ fn:=67,N:=15,env:=[(0,AV.list (.ints .i64 xs))],todo:=[.code a67.code],defs:=[],rnd:=none,ret:=false,res:=[ARes.tmp 2] }
def ZIe(xs:List Int):List AFrame:=[(ZBn xs)]
theorem Zv7(xs:List Int):Zaq tab 67 [AV.list (.ints .i64 xs)]=some (ZBn xs):=rfl
def Zc2(xs:List Int)(n0 n1:Int):List AFrame:=[{ fn:=67,N:=15,env:=[(5,AV.list (.ints .i64 xs)),(6,AV.int .i64 n0),(7,AV.int .i64 n1)],todo:=.code (ACode.gh [] Zyl)::ZEz,defs:=[],rnd:=none,ret:=false,res:=[ARes.tmp 2] }]
def Zcv(xs:List Int)(n0 n1:Int):Zac:=[]
abbrev Zh8(xs:List Int)(n0 n1:Int):List AFrame×Zac:=(Zc2 xs n0 n1,Zcv xs n0 n1)
theorem ZCA(A:Ar)(xs:List Int):Zaz A tab E0 14 [] (ZIe xs) []=
 some (tr [4] [],
  Zh8 (xs) (A.int (A.len xs)) (0)):=by kernel_rfl
theorem ZC7(A:Ar)(xs:List Int)(n0 n1:Int):ZaT A tab E0 28 [true,true] 67 (Zc2 xs n0 n1) (Zcv xs n0 n1)=
 some (tr [3,4,0,1] [A.not (A.eq (A.nth xs (A.nat n1)) 0),Zaf (Zaf (A.le 0 n1) (Nat.blt (A.nat n1) (A.len xs))) true,A.lt n1 n0],
  AV.int .i64 (A.nth xs (A.nat n1)),none):=by kernel_rfl
theorem ZDS(A:Ar)(xs:List Int)(n0 n1:Int):Zaz A tab E0 30 [true,false] (Zc2 xs n0 n1) (Zcv xs n0 n1)=
 some (tr [1,0,4,0,1] [A.inR .i64 (A.add n1 1),!A.not (A.eq (A.nth xs (A.nat n1)) 0),Zaf (Zaf (A.le 0 n1) (Nat.blt (A.nat n1) (A.len xs))) true,A.lt n1 n0],
  Zh8 (xs) (n0) (A.add n1 1)):=by kernel_rfl
theorem ZEa(A:Ar)(xs:List Int)(n0 n1:Int):ZaT A tab E0 13 [false] 67 (Zc2 xs n0 n1) (Zcv xs n0 n1)=
 some (tr [2,1] [!A.lt n1 n0],
  AV.int .i64 0,none):=by kernel_rfl
def Zsg(xs:List AV)(s:List UInt8):AFrame:={ fn:=151,N:=18,env:=[(0,AV.list (Row.big .str xs)),(1,AV.str s)],todo:=[.code a151.code],defs:=[],rnd:=none,ret:=false,res:=[ARes.tmp 4] }
def ZDJ(xs:List AV)(s:List UInt8):List AFrame:=[(Zsg xs s)]
theorem Zqw(xs:List AV)(s:List UInt8):Zaq tab 151 [AV.list (Row.big .str xs),AV.str s]=some (Zsg xs s):=rfl
def Zca(xs:List AV)(s:List UInt8)(n0:Int):List AFrame:=[{ fn:=151,N:=18,env:=[(0,AV.list (Row.big .str xs)),(1,AV.str s),(5,AV.int .i64 n0)],todo:=.code (ACode.gh [] ZnH)::Zsb,defs:=[],rnd:=none,ret:=false,res:=[ARes.tmp 4] }]
def ZbK(xs:List AV)(s:List UInt8)(n0:Int):Zac:=[]
abbrev ZfN(xs:List AV)(s:List UInt8)(n0:Int):List AFrame×Zac:=(Zca xs s n0,ZbK xs s n0)
theorem Zyb(A:Ar)(xs:List AV)(s:List UInt8):Zaz A tab E0 12 [] (ZDJ xs s) []=
 some (tr [2] [],
  ZfN (xs) (s) (0)):=by kernel_rfl
theorem ZAJ(A:Ar)(xs:List AV)(s:List UInt8)(n0:Int):ZaT A tab E0 28 [true,true] 151 (Zca xs s n0) (ZbK xs s n0)=
 some (tr [2,3,2,4] [A.eqS (AV.toS (A.nthA xs (A.nat n0))) s,Zaf (Zaf (A.le 0 n0) (Nat.blt (A.nat n0) (A.lenA xs))) true,A.lt n0 (A.int (A.lenA xs))],
  AV.bool true,none):=by kernel_rfl
theorem ZzX(A:Ar)(xs:List AV)(s:List UInt8)(n0:Int):Zaz A tab E0 32 [true,false] (Zca xs s n0) (ZbK xs s n0)=
 some (tr [1,1,3,2,4] [A.inR .i64 (A.add n0 1),!A.eqS (AV.toS (A.nthA xs (A.nat n0))) s,Zaf (Zaf (A.le 0 n0) (Nat.blt (A.nat n0) (A.lenA xs))) true,A.lt n0 (A.int (A.lenA xs))],
  ZfN (xs) (s) (A.add n0 1)):=by kernel_rfl
theorem ZBI(A:Ar)(xs:List AV)(s:List UInt8)(n0:Int):ZaT A tab E0 16 [false] 151 (Zca xs s n0) (ZbK xs s n0)=
 some (tr [2,4] [!A.lt n0 (A.int (A.lenA xs))],
  AV.bool false,none):=by kernel_rfl
def ZrD(s:List UInt8):AFrame:={ fn:=150,N:=55,env:=[(0,AV.str s)],todo:=[.code a150.code],defs:=[],rnd:=none,ret:=false,res:=[ARes.tmp 2] }
def ZvN(s:List UInt8):List AFrame:=[(ZrD s)]
theorem ZpX(s:List UInt8):Zaq tab 150 [AV.str s]=some (ZrD s):=rfl
def Zar(s:List UInt8)(n0:Int):List AFrame:=[{ fn:=150,N:=55,env:=[(0,AV.str s),(3,AV.int .i64 n0)],todo:=.code (ACode.gh [] ZrJ)::ZAf,defs:=[],rnd:=none,ret:=false,res:=[ARes.tmp 2] }]
def Zam(s:List UInt8)(n0:Int):Zac:=[]
abbrev ZaK(s:List UInt8)(n0:Int):List AFrame×Zac:=(Zar s n0,Zam s n0)
theorem Zxj(A:Ar)(s:List UInt8):ZaT A tab E0 23 [true,true,true,true,true] 150 (ZvN s) []=
 some (tr [10,5] [A.lt (A.int (A.lenS s)) 1],
  AV.bool false,none):=by kernel_rfl
theorem Zyh(A:Ar)(s:List UInt8):ZaT A tab E0 23 [false,false,false,false,true] 150 (ZvN s) []=
 some (tr [2,7,5] [A.lt 12 (A.int (A.lenS s)),!A.lt (A.int (A.lenS s)) 1],
  AV.bool false,none):=by kernel_rfl
theorem ZxF(A:Ar)(s:List UInt8):Zaz A tab E0 27 [false,false,false,false,false] (ZvN s) []=
 some (tr [1,7,5] [!A.lt 12 (A.int (A.lenS s)),!A.lt (A.int (A.lenS s)) 1],
  ZaK (s) (0)):=by kernel_rfl
theorem ZA2(A:Ar)(s:List UInt8)(n0:Int):Zaz A tab E0 71 [true,true,true,true,true,true,true,true,true,false,false,false,false,false,false] (Zar s n0) (Zam s n0)=
 some (tr [1,21,15,6,4,2,4] [A.inR .i64 (A.add n0 1),!A.not true,A.le (A.nthS s (A.nat n0)) 122,A.le 97 (A.nthS s (A.nat n0)),Zaf (A.le 0 n0) (Nat.blt (A.nat n0) (A.lenS s)),A.lt n0 (A.int (A.lenS s))],
  ZaK (s) (A.add n0 1)):=by kernel_rfl
theorem ZAr(A:Ar)(s:List UInt8)(n0:Int):ZaT A tab E0 67 [true,true,true,true,false,false,false,true,true,false,true,false,true,true,true,true,true,true,true,true,true,true,true] 150 (Zar s n0) (Zam s n0)=
 some (tr [21,5,12,5,6,4,2,4] [A.eq n0 0,A.not (A.le (A.nthS s (A.nat n0)) 90),A.le 65 (A.nthS s (A.nat n0)),!A.le (A.nthS s (A.nat n0)) 122,A.le 97 (A.nthS s (A.nat n0)),Zaf (A.le 0 n0) (Nat.blt (A.nat n0) (A.lenS s)),A.lt n0 (A.int (A.lenS s))],
  AV.bool false,none):=by kernel_rfl
theorem ZBG(A:Ar)(s:List UInt8)(n0:Int):ZaT A tab E0 67 [true,true,true,true,false,false,false,true,true,false,true,false,true,true,true,false,false,false,true,true,true,true,true,true,true,false,true,true,false,true,true] 150 (Zar s n0) (Zam s n0)=
 some (tr [17,5,5,5,12,5,6,4,2,4] [A.lt (A.nthS s (A.nat n0)) 48,A.not (A.eq (A.nthS s (A.nat n0)) 45),!A.eq n0 0,A.not (A.le (A.nthS s (A.nat n0)) 90),A.le 65 (A.nthS s (A.nat n0)),!A.le (A.nthS s (A.nat n0)) 122,A.le 97 (A.nthS s (A.nat n0)),Zaf (A.le 0 n0) (Nat.blt (A.nat n0) (A.lenS s)),A.lt n0 (A.int (A.lenS s))],
  AV.bool false,none):=by kernel_rfl
theorem Zzi(A:Ar)(s:List UInt8)(n0:Int):ZaT A tab E0 67 [true,true,true,true,false,false,false,true,true,false,true,false,true,true,true,false,false,false,true,true,true,false,false,true,false,false,true,true,false,true,true] 150 (Zar s n0) (Zam s n0)=
 some (tr [2,14,5,5,5,12,5,6,4,2,4] [A.lt 57 (A.nthS s (A.nat n0)),!A.lt (A.nthS s (A.nat n0)) 48,A.not (A.eq (A.nthS s (A.nat n0)) 45),!A.eq n0 0,A.not (A.le (A.nthS s (A.nat n0)) 90),A.le 65 (A.nthS s (A.nat n0)),!A.le (A.nthS s (A.nat n0)) 122,A.le 97 (A.nthS s (A.nat n0)),Zaf (A.le 0 n0) (Nat.blt (A.nat n0) (A.lenS s)),A.lt n0 (A.int (A.lenS s))],
  AV.bool false,none):=by kernel_rfl
theorem ZzB(A:Ar)(s:List UInt8)(n0:Int):Zaz A tab E0 71 [true,true,true,true,false,false,false,true,true,false,true,false,true,true,true,false,false,false,true,true,true,false,false,true,false,false,true,true,false,true,false] (Zar s n0) (Zam s n0)=
 some (tr [1,1,14,5,5,5,12,5,6,4,2,4] [A.inR .i64 (A.add n0 1),!A.lt 57 (A.nthS s (A.nat n0)),!A.lt (A.nthS s (A.nat n0)) 48,A.not (A.eq (A.nthS s (A.nat n0)) 45),!A.eq n0 0,A.not (A.le (A.nthS s (A.nat n0)) 90),A.le 65 (A.nthS s (A.nat n0)),!A.le (A.nthS s (A.nat n0)) 122,A.le 97 (A.nthS s (A.nat n0)),Zaf (A.le 0 n0) (Nat.blt (A.nat n0) (A.lenS s)),A.lt n0 (A.int (A.lenS s))],
  ZaK (s) (A.add n0 1)):=by kernel_rfl
theorem ZAa(A:Ar)(s:List UInt8)(n0:Int):Zaz A tab E0 71 [true,true,true,true,false,false,false,true,true,false,true,false,true,true,true,false,false,false,false,false,false,false,false,false,true,false,true,false] (Zar s n0) (Zam s n0)=
 some (tr [1,19,5,5,12,5,6,4,2,4] [A.inR .i64 (A.add n0 1),!A.not (A.eq (A.nthS s (A.nat n0)) 45),!A.eq n0 0,A.not (A.le (A.nthS s (A.nat n0)) 90),A.le 65 (A.nthS s (A.nat n0)),!A.le (A.nthS s (A.nat n0)) 122,A.le 97 (A.nthS s (A.nat n0)),Zaf (A.le 0 n0) (Nat.blt (A.nat n0) (A.lenS s)),A.lt n0 (A.int (A.lenS s))],
  ZaK (s) (A.add n0 1)):=by kernel_rfl
theorem Zze(A:Ar)(s:List UInt8)(n0:Int):Zaz A tab E0 71 [true,true,true,true,false,false,false,true,true,false,true,false,false,false,false,false,false,false] (Zar s n0) (Zam s n0)=
 some (tr [1,21,12,5,6,4,2,4] [A.inR .i64 (A.add n0 1),!A.not (A.le (A.nthS s (A.nat n0)) 90),A.le 65 (A.nthS s (A.nat n0)),!A.le (A.nthS s (A.nat n0)) 122,A.le 97 (A.nthS s (A.nat n0)),Zaf (A.le 0 n0) (Nat.blt (A.nat n0) (A.lenS s)),A.lt n0 (A.int (A.lenS s))],
  ZaK (s) (A.add n0 1)):=by kernel_rfl
theorem Ztn(A:Ar)(s:List UInt8)(n0:Int):ZaT A tab E0 67 [true,true,true,true,false,false,false,false,false,false,false,false,true,true,true,true,true,true,true,true,true,true,true] 150 (Zar s n0) (Zam s n0)=
 some (tr [21,5,12,5,6,4,2,4] [A.eq n0 0,A.not false,!A.le 65 (A.nthS s (A.nat n0)),!A.le (A.nthS s (A.nat n0)) 122,A.le 97 (A.nthS s (A.nat n0)),Zaf (A.le 0 n0) (Nat.blt (A.nat n0) (A.lenS s)),A.lt n0 (A.int (A.lenS s))],
  AV.bool false,none):=by kernel_rfl
theorem ZuE(A:Ar)(s:List UInt8)(n0:Int):ZaT A tab E0 67 [true,true,true,true,false,false,false,false,false,false,false,false,true,true,true,false,false,false,true,true,true,true,true,true,true,false,true,true,false,true,true] 150 (Zar s n0) (Zam s n0)=
 some (tr [17,5,5,5,12,5,6,4,2,4] [A.lt (A.nthS s (A.nat n0)) 48,A.not (A.eq (A.nthS s (A.nat n0)) 45),!A.eq n0 0,A.not false,!A.le 65 (A.nthS s (A.nat n0)),!A.le (A.nthS s (A.nat n0)) 122,A.le 97 (A.nthS s (A.nat n0)),Zaf (A.le 0 n0) (Nat.blt (A.nat n0) (A.lenS s)),A.lt n0 (A.int (A.lenS s))],
  AV.bool false,none):=by kernel_rfl
theorem Ztb(A:Ar)(s:List UInt8)(n0:Int):ZaT A tab E0 67 [true,true,true,true,false,false,false,false,false,false,false,false,true,true,true,false,false,false,true,true,true,false,false,true,false,false,true,true,false,true,true] 150 (Zar s n0) (Zam s n0)=
 some (tr [2,14,5,5,5,12,5,6,4,2,4] [A.lt 57 (A.nthS s (A.nat n0)),!A.lt (A.nthS s (A.nat n0)) 48,A.not (A.eq (A.nthS s (A.nat n0)) 45),!A.eq n0 0,A.not false,!A.le 65 (A.nthS s (A.nat n0)),!A.le (A.nthS s (A.nat n0)) 122,A.le 97 (A.nthS s (A.nat n0)),Zaf (A.le 0 n0) (Nat.blt (A.nat n0) (A.lenS s)),A.lt n0 (A.int (A.lenS s))],
  AV.bool false,none):=by kernel_rfl
theorem ZvF(A:Ar)(s:List UInt8)(n0:Int):Zaz A tab E0 71 [true,true,true,true,false,false,false,false,false,false,false,false,true,true,true,false,false,false,true,true,true,false,false,true,false,false,true,true,false,true,false] (Zar s n0) (Zam s n0)=
 some (tr [1,1,14,5,5,5,12,5,6,4,2,4] [A.inR .i64 (A.add n0 1),!A.lt 57 (A.nthS s (A.nat n0)),!A.lt (A.nthS s (A.nat n0)) 48,A.not (A.eq (A.nthS s (A.nat n0)) 45),!A.eq n0 0,A.not false,!A.le 65 (A.nthS s (A.nat n0)),!A.le (A.nthS s (A.nat n0)) 122,A.le 97 (A.nthS s (A.nat n0)),Zaf (A.le 0 n0) (Nat.blt (A.nat n0) (A.lenS s)),A.lt n0 (A.int (A.lenS s))],
  ZaK (s) (A.add n0 1)):=by kernel_rfl
theorem ZtK(A:Ar)(s:List UInt8)(n0:Int):Zaz A tab E0 71 [true,true,true,true,false,false,false,false,false,false,false,false,true,true,true,false,false,false,false,false,false,false,false,false,true,false,true,false] (Zar s n0) (Zam s n0)=
 some (tr [1,19,5,5,12,5,6,4,2,4] [A.inR .i64 (A.add n0 1),!A.not (A.eq (A.nthS s (A.nat n0)) 45),!A.eq n0 0,A.not false,!A.le 65 (A.nthS s (A.nat n0)),!A.le (A.nthS s (A.nat n0)) 122,A.le 97 (A.nthS s (A.nat n0)),Zaf (A.le 0 n0) (Nat.blt (A.nat n0) (A.lenS s)),A.lt n0 (A.int (A.lenS s))],
  ZaK (s) (A.add n0 1)):=by kernel_rfl
theorem Ztm(A:Ar)(s:List UInt8)(n0:Int):ZaT A tab E0 67 [true,false,false,false,false,false,false,true,true,false,true,false,true,true,true,true,true,true,true,true,true,true,true] 150 (Zar s n0) (Zam s n0)=
 some (tr [21,5,12,12,4,2,4] [A.eq n0 0,A.not (A.le (A.nthS s (A.nat n0)) 90),A.le 65 (A.nthS s (A.nat n0)),!A.le 97 (A.nthS s (A.nat n0)),Zaf (A.le 0 n0) (Nat.blt (A.nat n0) (A.lenS s)),A.lt n0 (A.int (A.lenS s))],
  AV.bool false,none):=by kernel_rfl
theorem Zs9(A:Ar)(s:List UInt8)(n0:Int):ZaT A tab E0 67 [true,false,false,false,false,false,false,true,true,false,true,false,true,true,true,false,false,false,true,true,true,true,true,true,true,false,true,true,false,true,true] 150 (Zar s n0) (Zam s n0)=
 some (tr [17,5,5,5,12,12,4,2,4] [A.lt (A.nthS s (A.nat n0)) 48,A.not (A.eq (A.nthS s (A.nat n0)) 45),!A.eq n0 0,A.not (A.le (A.nthS s (A.nat n0)) 90),A.le 65 (A.nthS s (A.nat n0)),!A.le 97 (A.nthS s (A.nat n0)),Zaf (A.le 0 n0) (Nat.blt (A.nat n0) (A.lenS s)),A.lt n0 (A.int (A.lenS s))],
  AV.bool false,none):=by kernel_rfl
theorem Zum(A:Ar)(s:List UInt8)(n0:Int):ZaT A tab E0 67 [true,false,false,false,false,false,false,true,true,false,true,false,true,true,true,false,false,false,true,true,true,false,false,true,false,false,true,true,false,true,true] 150 (Zar s n0) (Zam s n0)=
 some (tr [2,14,5,5,5,12,12,4,2,4] [A.lt 57 (A.nthS s (A.nat n0)),!A.lt (A.nthS s (A.nat n0)) 48,A.not (A.eq (A.nthS s (A.nat n0)) 45),!A.eq n0 0,A.not (A.le (A.nthS s (A.nat n0)) 90),A.le 65 (A.nthS s (A.nat n0)),!A.le 97 (A.nthS s (A.nat n0)),Zaf (A.le 0 n0) (Nat.blt (A.nat n0) (A.lenS s)),A.lt n0 (A.int (A.lenS s))],
  AV.bool false,none):=by kernel_rfl
theorem Zue(A:Ar)(s:List UInt8)(n0:Int):Zaz A tab E0 71 [true,false,false,false,false,false,false,true,true,false,true,false,true,true,true,false,false,false,true,true,true,false,false,true,false,false,true,true,false,true,false] (Zar s n0) (Zam s n0)=
 some (tr [1,1,14,5,5,5,12,12,4,2,4] [A.inR .i64 (A.add n0 1),!A.lt 57 (A.nthS s (A.nat n0)),!A.lt (A.nthS s (A.nat n0)) 48,A.not (A.eq (A.nthS s (A.nat n0)) 45),!A.eq n0 0,A.not (A.le (A.nthS s (A.nat n0)) 90),A.le 65 (A.nthS s (A.nat n0)),!A.le 97 (A.nthS s (A.nat n0)),Zaf (A.le 0 n0) (Nat.blt (A.nat n0) (A.lenS s)),A.lt n0 (A.int (A.lenS s))],
  ZaK (s) (A.add n0 1)):=by kernel_rfl
theorem Ztw(A:Ar)(s:List UInt8)(n0:Int):Zaz A tab E0 71 [true,false,false,false,false,false,false,true,true,false,true,false,true,true,true,false,false,false,false,false,false,false,false,false,true,false,true,false] (Zar s n0) (Zam s n0)=
 some (tr [1,19,5,5,12,12,4,2,4] [A.inR .i64 (A.add n0 1),!A.not (A.eq (A.nthS s (A.nat n0)) 45),!A.eq n0 0,A.not (A.le (A.nthS s (A.nat n0)) 90),A.le 65 (A.nthS s (A.nat n0)),!A.le 97 (A.nthS s (A.nat n0)),Zaf (A.le 0 n0) (Nat.blt (A.nat n0) (A.lenS s)),A.lt n0 (A.int (A.lenS s))],
  ZaK (s) (A.add n0 1)):=by kernel_rfl
theorem ZuX(A:Ar)(s:List UInt8)(n0:Int):Zaz A tab E0 71 [true,false,false,false,false,false,false,true,true,false,true,false,false,false,false,false,false,false] (Zar s n0) (Zam s n0)=
 some (tr [1,21,12,12,4,2,4] [A.inR .i64 (A.add n0 1),!A.not (A.le (A.nthS s (A.nat n0)) 90),A.le 65 (A.nthS s (A.nat n0)),!A.le 97 (A.nthS s (A.nat n0)),Zaf (A.le 0 n0) (Nat.blt (A.nat n0) (A.lenS s)),A.lt n0 (A.int (A.lenS s))],
  ZaK (s) (A.add n0 1)):=by kernel_rfl
theorem Zvw(A:Ar)(s:List UInt8)(n0:Int):ZaT A tab E0 67 [true,false,false,false,false,false,false,false,false,false,false,false,true,true,true,true,true,true,true,true,true,true,true] 150 (Zar s n0) (Zam s n0)=
 some (tr [21,5,12,12,4,2,4] [A.eq n0 0,A.not false,!A.le 65 (A.nthS s (A.nat n0)),!A.le 97 (A.nthS s (A.nat n0)),Zaf (A.le 0 n0) (Nat.blt (A.nat n0) (A.lenS s)),A.lt n0 (A.int (A.lenS s))],
  AV.bool false,none):=by kernel_rfl
theorem Zti(A:Ar)(s:List UInt8)(n0:Int):ZaT A tab E0 67 [true,false,false,false,false,false,false,false,false,false,false,false,true,true,true,false,false,false,true,true,true,true,true,true,true,false,true,true,false,true,true] 150 (Zar s n0) (Zam s n0)=
 some (tr [17,5,5,5,12,12,4,2,4] [A.lt (A.nthS s (A.nat n0)) 48,A.not (A.eq (A.nthS s (A.nat n0)) 45),!A.eq n0 0,A.not false,!A.le 65 (A.nthS s (A.nat n0)),!A.le 97 (A.nthS s (A.nat n0)),Zaf (A.le 0 n0) (Nat.blt (A.nat n0) (A.lenS s)),A.lt n0 (A.int (A.lenS s))],
  AV.bool false,none):=by kernel_rfl
theorem Zv1(A:Ar)(s:List UInt8)(n0:Int):ZaT A tab E0 67 [true,false,false,false,false,false,false,false,false,false,false,false,true,true,true,false,false,false,true,true,true,false,false,true,false,false,true,true,false,true,true] 150 (Zar s n0) (Zam s n0)=
 some (tr [2,14,5,5,5,12,12,4,2,4] [A.lt 57 (A.nthS s (A.nat n0)),!A.lt (A.nthS s (A.nat n0)) 48,A.not (A.eq (A.nthS s (A.nat n0)) 45),!A.eq n0 0,A.not false,!A.le 65 (A.nthS s (A.nat n0)),!A.le 97 (A.nthS s (A.nat n0)),Zaf (A.le 0 n0) (Nat.blt (A.nat n0) (A.lenS s)),A.lt n0 (A.int (A.lenS s))],
  AV.bool false,none):=by kernel_rfl
theorem ZsW(A:Ar)(s:List UInt8)(n0:Int):Zaz A tab E0 71 [true,false,false,false,false,false,false,false,false,false,false,false,true,true,true,false,false,false,true,true,true,false,false,true,false,false,true,true,false,true,false] (Zar s n0) (Zam s n0)=
 some (tr [1,1,14,5,5,5,12,12,4,2,4] [A.inR .i64 (A.add n0 1),!A.lt 57 (A.nthS s (A.nat n0)),!A.lt (A.nthS s (A.nat n0)) 48,A.not (A.eq (A.nthS s (A.nat n0)) 45),!A.eq n0 0,A.not false,!A.le 65 (A.nthS s (A.nat n0)),!A.le 97 (A.nthS s (A.nat n0)),Zaf (A.le 0 n0) (Nat.blt (A.nat n0) (A.lenS s)),A.lt n0 (A.int (A.lenS s))],
  ZaK (s) (A.add n0 1)):=by kernel_rfl
theorem Zui(A:Ar)(s:List UInt8)(n0:Int):Zaz A tab E0 71 [true,false,false,false,false,false,false,false,false,false,false,false,true,true,true,false,false,false,false,false,false,false,false,false,true,false,true,false] (Zar s n0) (Zam s n0)=
 some (tr [1,19,5,5,12,12,4,2,4] [A.inR .i64 (A.add n0 1),!A.not (A.eq (A.nthS s (A.nat n0)) 45),!A.eq n0 0,A.not false,!A.le 65 (A.nthS s (A.nat n0)),!A.le 97 (A.nthS s (A.nat n0)),Zaf (A.le 0 n0) (Nat.blt (A.nat n0) (A.lenS s)),A.lt n0 (A.int (A.lenS s))],
  ZaK (s) (A.add n0 1)):=by kernel_rfl
theorem ZwE(A:Ar)(s:List UInt8)(n0:Int):ZaT A tab E0 16 [false] 150 (Zar s n0) (Zam s n0)=
 some (tr [2,4] [!A.lt n0 (A.int (A.lenS s))],
  AV.bool true,none):=by kernel_rfl
def Zsq(s:List UInt8):AFrame:={ fn:=182,N:=54,env:=[(0,AV.str s)],todo:=[.code a182.code],defs:=[],rnd:=none,ret:=false,res:=[ARes.tmp 2] }
def ZC1(s:List UInt8):List AFrame:=[(Zsq s)]
theorem Zqn(s:List UInt8):Zaq tab 182 [AV.str s]=some (Zsq s):=rfl
def Zao(s:List UInt8)(l0:List Int)(n1 n2:Int):List AFrame:=[{ fn:=182,N:=54,env:=[(0,AV.str s),(7,AV.list (.ints .u8 l0)),(8,AV.int .i64 n1),(9,AV.int .i64 n2)],todo:=.code (ACode.gh [] Zse)::Zxa,defs:=[],rnd:=none,ret:=false,res:=[ARes.tmp 2] }]
def Zak(s:List UInt8)(l0:List Int)(n1 n2:Int):Zac:=[]
abbrev ZaL(s:List UInt8)(l0:List Int)(n1 n2:Int):List AFrame×Zac:=(Zao s l0 n1 n2,Zak s l0 n1 n2)
theorem ZBA(A:Ar)(s:List UInt8):Zaz A tab E0 15 [] (ZC1 s) []=
 some (tr [2,2] [Nat.ble (A.lenS s) 4294967296],
  ZaL (s) (A.byt s) (A.int (A.len (A.byt s))) (0)):=by kernel_rfl
theorem ZA5(A:Ar)(s:List UInt8)(l0:List Int)(n1 n2:Int):Zaz A tab E0 68 [true,true,true,true,true,true,true,true,true,false,false,false,false,false,false] (Zao s l0 n1 n2) (Zak s l0 n1 n2)=
 some (tr [1,20,15,6,6,1,1] [A.inR .i64 (A.add n2 1),!A.not true,A.le (A.nth l0 (A.nat n2)) 122,A.le 97 (A.nth l0 (A.nat n2)),Zaf (Zaf (A.le 0 n2) (Nat.blt (A.nat n2) (A.len l0))) true,A.lt n2 n1],
  ZaL (s) (l0) (n1) (A.add n2 1)):=by kernel_rfl
theorem Zzh(A:Ar)(s:List UInt8)(l0:List Int)(n1 n2:Int):ZaT A tab E0 65 [true,true,true,true,false,false,false,true,true,false,true,false,true,true,true,true,true,true,true,true,true,true,true] 182 (Zao s l0 n1 n2) (Zak s l0 n1 n2)=
 some (tr [21,5,12,5,6,6,1,1] [A.eq n2 0,A.not (A.le (A.nth l0 (A.nat n2)) 90),A.le 65 (A.nth l0 (A.nat n2)),!A.le (A.nth l0 (A.nat n2)) 122,A.le 97 (A.nth l0 (A.nat n2)),Zaf (Zaf (A.le 0 n2) (Nat.blt (A.nat n2) (A.len l0))) true,A.lt n2 n1],
  AV.bool false,none):=by kernel_rfl
theorem ZzI(A:Ar)(s:List UInt8)(l0:List Int)(n1 n2:Int):ZaT A tab E0 65 [true,true,true,true,false,false,false,true,true,false,true,false,true,true,true,false,false,false,true,true,true,true,true,true,true,false,true,true,false,true,true] 182 (Zao s l0 n1 n2) (Zak s l0 n1 n2)=
 some (tr [17,5,5,5,12,5,6,6,1,1] [A.lt (A.nth l0 (A.nat n2)) 48,A.not (A.eq (A.nth l0 (A.nat n2)) 45),!A.eq n2 0,A.not (A.le (A.nth l0 (A.nat n2)) 90),A.le 65 (A.nth l0 (A.nat n2)),!A.le (A.nth l0 (A.nat n2)) 122,A.le 97 (A.nth l0 (A.nat n2)),Zaf (Zaf (A.le 0 n2) (Nat.blt (A.nat n2) (A.len l0))) true,A.lt n2 n1],
  AV.bool false,none):=by kernel_rfl
theorem Zyv(A:Ar)(s:List UInt8)(l0:List Int)(n1 n2:Int):ZaT A tab E0 65 [true,true,true,true,false,false,false,true,true,false,true,false,true,true,true,false,false,false,true,true,true,false,false,true,false,false,true,true,false,true,true] 182 (Zao s l0 n1 n2) (Zak s l0 n1 n2)=
 some (tr [2,14,5,5,5,12,5,6,6,1,1] [A.lt 57 (A.nth l0 (A.nat n2)),!A.lt (A.nth l0 (A.nat n2)) 48,A.not (A.eq (A.nth l0 (A.nat n2)) 45),!A.eq n2 0,A.not (A.le (A.nth l0 (A.nat n2)) 90),A.le 65 (A.nth l0 (A.nat n2)),!A.le (A.nth l0 (A.nat n2)) 122,A.le 97 (A.nth l0 (A.nat n2)),Zaf (Zaf (A.le 0 n2) (Nat.blt (A.nat n2) (A.len l0))) true,A.lt n2 n1],
  AV.bool false,none):=by kernel_rfl
theorem ZBv(A:Ar)(s:List UInt8)(l0:List Int)(n1 n2:Int):Zaz A tab E0 68 [true,true,true,true,false,false,false,true,true,false,true,false,true,true,true,false,false,false,true,true,true,false,false,true,false,false,true,true,false,true,false] (Zao s l0 n1 n2) (Zak s l0 n1 n2)=
 some (tr [1,0,14,5,5,5,12,5,6,6,1,1] [A.inR .i64 (A.add n2 1),!A.lt 57 (A.nth l0 (A.nat n2)),!A.lt (A.nth l0 (A.nat n2)) 48,A.not (A.eq (A.nth l0 (A.nat n2)) 45),!A.eq n2 0,A.not (A.le (A.nth l0 (A.nat n2)) 90),A.le 65 (A.nth l0 (A.nat n2)),!A.le (A.nth l0 (A.nat n2)) 122,A.le 97 (A.nth l0 (A.nat n2)),Zaf (Zaf (A.le 0 n2) (Nat.blt (A.nat n2) (A.len l0))) true,A.lt n2 n1],
  ZaL (s) (l0) (n1) (A.add n2 1)):=by kernel_rfl
theorem Zz7(A:Ar)(s:List UInt8)(l0:List Int)(n1 n2:Int):Zaz A tab E0 68 [true,true,true,true,false,false,false,true,true,false,true,false,true,true,true,false,false,false,false,false,false,false,false,false,true,false,true,false] (Zao s l0 n1 n2) (Zak s l0 n1 n2)=
 some (tr [1,18,5,5,12,5,6,6,1,1] [A.inR .i64 (A.add n2 1),!A.not (A.eq (A.nth l0 (A.nat n2)) 45),!A.eq n2 0,A.not (A.le (A.nth l0 (A.nat n2)) 90),A.le 65 (A.nth l0 (A.nat n2)),!A.le (A.nth l0 (A.nat n2)) 122,A.le 97 (A.nth l0 (A.nat n2)),Zaf (Zaf (A.le 0 n2) (Nat.blt (A.nat n2) (A.len l0))) true,A.lt n2 n1],
  ZaL (s) (l0) (n1) (A.add n2 1)):=by kernel_rfl
theorem Zyg(A:Ar)(s:List UInt8)(l0:List Int)(n1 n2:Int):Zaz A tab E0 68 [true,true,true,true,false,false,false,true,true,false,true,false,false,false,false,false,false,false] (Zao s l0 n1 n2) (Zak s l0 n1 n2)=
 some (tr [1,20,12,5,6,6,1,1] [A.inR .i64 (A.add n2 1),!A.not (A.le (A.nth l0 (A.nat n2)) 90),A.le 65 (A.nth l0 (A.nat n2)),!A.le (A.nth l0 (A.nat n2)) 122,A.le 97 (A.nth l0 (A.nat n2)),Zaf (Zaf (A.le 0 n2) (Nat.blt (A.nat n2) (A.len l0))) true,A.lt n2 n1],
  ZaL (s) (l0) (n1) (A.add n2 1)):=by kernel_rfl
theorem Zyo(A:Ar)(s:List UInt8)(l0:List Int)(n1 n2:Int):ZaT A tab E0 65 [true,true,true,true,false,false,false,false,false,false,false,false,true,true,true,true,true,true,true,true,true,true,true] 182 (Zao s l0 n1 n2) (Zak s l0 n1 n2)=
 some (tr [21,5,12,5,6,6,1,1] [A.eq n2 0,A.not false,!A.le 65 (A.nth l0 (A.nat n2)),!A.le (A.nth l0 (A.nat n2)) 122,A.le 97 (A.nth l0 (A.nat n2)),Zaf (Zaf (A.le 0 n2) (Nat.blt (A.nat n2) (A.len l0))) true,A.lt n2 n1],
  AV.bool false,none):=by kernel_rfl
theorem ZBy(A:Ar)(s:List UInt8)(l0:List Int)(n1 n2:Int):ZaT A tab E0 65 [true,true,true,true,false,false,false,false,false,false,false,false,true,true,true,false,false,false,true,true,true,true,true,true,true,false,true,true,false,true,true] 182 (Zao s l0 n1 n2) (Zak s l0 n1 n2)=
 some (tr [17,5,5,5,12,5,6,6,1,1] [A.lt (A.nth l0 (A.nat n2)) 48,A.not (A.eq (A.nth l0 (A.nat n2)) 45),!A.eq n2 0,A.not false,!A.le 65 (A.nth l0 (A.nat n2)),!A.le (A.nth l0 (A.nat n2)) 122,A.le 97 (A.nth l0 (A.nat n2)),Zaf (Zaf (A.le 0 n2) (Nat.blt (A.nat n2) (A.len l0))) true,A.lt n2 n1],
  AV.bool false,none):=by kernel_rfl
theorem Zul(A:Ar)(s:List UInt8)(l0:List Int)(n1 n2:Int):ZaT A tab E0 65 [true,true,true,true,false,false,false,false,false,false,false,false,true,true,true,false,false,false,true,true,true,false,false,true,false,false,true,true,false,true,true] 182 (Zao s l0 n1 n2) (Zak s l0 n1 n2)=
 some (tr [2,14,5,5,5,12,5,6,6,1,1] [A.lt 57 (A.nth l0 (A.nat n2)),!A.lt (A.nth l0 (A.nat n2)) 48,A.not (A.eq (A.nth l0 (A.nat n2)) 45),!A.eq n2 0,A.not false,!A.le 65 (A.nth l0 (A.nat n2)),!A.le (A.nth l0 (A.nat n2)) 122,A.le 97 (A.nth l0 (A.nat n2)),Zaf (Zaf (A.le 0 n2) (Nat.blt (A.nat n2) (A.len l0))) true,A.lt n2 n1],
  AV.bool false,none):=by kernel_rfl
theorem Zto(A:Ar)(s:List UInt8)(l0:List Int)(n1 n2:Int):Zaz A tab E0 68 [true,true,true,true,false,false,false,false,false,false,false,false,true,true,true,false,false,false,true,true,true,false,false,true,false,false,true,true,false,true,false] (Zao s l0 n1 n2) (Zak s l0 n1 n2)=
 some (tr [1,0,14,5,5,5,12,5,6,6,1,1] [A.inR .i64 (A.add n2 1),!A.lt 57 (A.nth l0 (A.nat n2)),!A.lt (A.nth l0 (A.nat n2)) 48,A.not (A.eq (A.nth l0 (A.nat n2)) 45),!A.eq n2 0,A.not false,!A.le 65 (A.nth l0 (A.nat n2)),!A.le (A.nth l0 (A.nat n2)) 122,A.le 97 (A.nth l0 (A.nat n2)),Zaf (Zaf (A.le 0 n2) (Nat.blt (A.nat n2) (A.len l0))) true,A.lt n2 n1],
  ZaL (s) (l0) (n1) (A.add n2 1)):=by kernel_rfl
theorem Zud(A:Ar)(s:List UInt8)(l0:List Int)(n1 n2:Int):Zaz A tab E0 68 [true,true,true,true,false,false,false,false,false,false,false,false,true,true,true,false,false,false,false,false,false,false,false,false,true,false,true,false] (Zao s l0 n1 n2) (Zak s l0 n1 n2)=
 some (tr [1,18,5,5,12,5,6,6,1,1] [A.inR .i64 (A.add n2 1),!A.not (A.eq (A.nth l0 (A.nat n2)) 45),!A.eq n2 0,A.not false,!A.le 65 (A.nth l0 (A.nat n2)),!A.le (A.nth l0 (A.nat n2)) 122,A.le 97 (A.nth l0 (A.nat n2)),Zaf (Zaf (A.le 0 n2) (Nat.blt (A.nat n2) (A.len l0))) true,A.lt n2 n1],
  ZaL (s) (l0) (n1) (A.add n2 1)):=by kernel_rfl
theorem Zu5(A:Ar)(s:List UInt8)(l0:List Int)(n1 n2:Int):ZaT A tab E0 65 [true,false,false,false,false,false,false,true,true,false,true,false,true,true,true,true,true,true,true,true,true,true,true] 182 (Zao s l0 n1 n2) (Zak s l0 n1 n2)=
 some (tr [21,5,12,12,6,1,1] [A.eq n2 0,A.not (A.le (A.nth l0 (A.nat n2)) 90),A.le 65 (A.nth l0 (A.nat n2)),!A.le 97 (A.nth l0 (A.nat n2)),Zaf (Zaf (A.le 0 n2) (Nat.blt (A.nat n2) (A.len l0))) true,A.lt n2 n1],
  AV.bool false,none):=by kernel_rfl
theorem Zvx(A:Ar)(s:List UInt8)(l0:List Int)(n1 n2:Int):ZaT A tab E0 65 [true,false,false,false,false,false,false,true,true,false,true,false,true,true,true,false,false,false,true,true,true,true,true,true,true,false,true,true,false,true,true] 182 (Zao s l0 n1 n2) (Zak s l0 n1 n2)=
 some (tr [17,5,5,5,12,12,6,1,1] [A.lt (A.nth l0 (A.nat n2)) 48,A.not (A.eq (A.nth l0 (A.nat n2)) 45),!A.eq n2 0,A.not (A.le (A.nth l0 (A.nat n2)) 90),A.le 65 (A.nth l0 (A.nat n2)),!A.le 97 (A.nth l0 (A.nat n2)),Zaf (Zaf (A.le 0 n2) (Nat.blt (A.nat n2) (A.len l0))) true,A.lt n2 n1],
  AV.bool false,none):=by kernel_rfl
theorem ZsV(A:Ar)(s:List UInt8)(l0:List Int)(n1 n2:Int):ZaT A tab E0 65 [true,false,false,false,false,false,false,true,true,false,true,false,true,true,true,false,false,false,true,true,true,false,false,true,false,false,true,true,false,true,true] 182 (Zao s l0 n1 n2) (Zak s l0 n1 n2)=
 some (tr [2,14,5,5,5,12,12,6,1,1] [A.lt 57 (A.nth l0 (A.nat n2)),!A.lt (A.nth l0 (A.nat n2)) 48,A.not (A.eq (A.nth l0 (A.nat n2)) 45),!A.eq n2 0,A.not (A.le (A.nth l0 (A.nat n2)) 90),A.le 65 (A.nth l0 (A.nat n2)),!A.le 97 (A.nth l0 (A.nat n2)),Zaf (Zaf (A.le 0 n2) (Nat.blt (A.nat n2) (A.len l0))) true,A.lt n2 n1],
  AV.bool false,none):=by kernel_rfl
theorem ZvC(A:Ar)(s:List UInt8)(l0:List Int)(n1 n2:Int):Zaz A tab E0 68 [true,false,false,false,false,false,false,true,true,false,true,false,true,true,true,false,false,false,true,true,true,false,false,true,false,false,true,true,false,true,false] (Zao s l0 n1 n2) (Zak s l0 n1 n2)=
 some (tr [1,0,14,5,5,5,12,12,6,1,1] [A.inR .i64 (A.add n2 1),!A.lt 57 (A.nth l0 (A.nat n2)),!A.lt (A.nth l0 (A.nat n2)) 48,A.not (A.eq (A.nth l0 (A.nat n2)) 45),!A.eq n2 0,A.not (A.le (A.nth l0 (A.nat n2)) 90),A.le 65 (A.nth l0 (A.nat n2)),!A.le 97 (A.nth l0 (A.nat n2)),Zaf (Zaf (A.le 0 n2) (Nat.blt (A.nat n2) (A.len l0))) true,A.lt n2 n1],
  ZaL (s) (l0) (n1) (A.add n2 1)):=by kernel_rfl
theorem ZuY(A:Ar)(s:List UInt8)(l0:List Int)(n1 n2:Int):Zaz A tab E0 68 [true,false,false,false,false,false,false,true,true,false,true,false,true,true,true,false,false,false,false,false,false,false,false,false,true,false,true,false] (Zao s l0 n1 n2) (Zak s l0 n1 n2)=
 some (tr [1,18,5,5,12,12,6,1,1] [A.inR .i64 (A.add n2 1),!A.not (A.eq (A.nth l0 (A.nat n2)) 45),!A.eq n2 0,A.not (A.le (A.nth l0 (A.nat n2)) 90),A.le 65 (A.nth l0 (A.nat n2)),!A.le 97 (A.nth l0 (A.nat n2)),Zaf (Zaf (A.le 0 n2) (Nat.blt (A.nat n2) (A.len l0))) true,A.lt n2 n1],
  ZaL (s) (l0) (n1) (A.add n2 1)):=by kernel_rfl
theorem ZsU(A:Ar)(s:List UInt8)(l0:List Int)(n1 n2:Int):Zaz A tab E0 68 [true,false,false,false,false,false,false,true,true,false,true,false,false,false,false,false,false,false] (Zao s l0 n1 n2) (Zak s l0 n1 n2)=
 some (tr [1,20,12,12,6,1,1] [A.inR .i64 (A.add n2 1),!A.not (A.le (A.nth l0 (A.nat n2)) 90),A.le 65 (A.nth l0 (A.nat n2)),!A.le 97 (A.nth l0 (A.nat n2)),Zaf (Zaf (A.le 0 n2) (Nat.blt (A.nat n2) (A.len l0))) true,A.lt n2 n1],
  ZaL (s) (l0) (n1) (A.add n2 1)):=by kernel_rfl
theorem Zvd(A:Ar)(s:List UInt8)(l0:List Int)(n1 n2:Int):ZaT A tab E0 65 [true,false,false,false,false,false,false,false,false,false,false,false,true,true,true,true,true,true,true,true,true,true,true] 182 (Zao s l0 n1 n2) (Zak s l0 n1 n2)=
 some (tr [21,5,12,12,6,1,1] [A.eq n2 0,A.not false,!A.le 65 (A.nth l0 (A.nat n2)),!A.le 97 (A.nth l0 (A.nat n2)),Zaf (Zaf (A.le 0 n2) (Nat.blt (A.nat n2) (A.len l0))) true,A.lt n2 n1],
  AV.bool false,none):=by kernel_rfl
theorem Zt2(A:Ar)(s:List UInt8)(l0:List Int)(n1 n2:Int):ZaT A tab E0 65 [true,false,false,false,false,false,false,false,false,false,false,false,true,true,true,false,false,false,true,true,true,true,true,true,true,false,true,true,false,true,true] 182 (Zao s l0 n1 n2) (Zak s l0 n1 n2)=
 some (tr [17,5,5,5,12,12,6,1,1] [A.lt (A.nth l0 (A.nat n2)) 48,A.not (A.eq (A.nth l0 (A.nat n2)) 45),!A.eq n2 0,A.not false,!A.le 65 (A.nth l0 (A.nat n2)),!A.le 97 (A.nth l0 (A.nat n2)),Zaf (Zaf (A.le 0 n2) (Nat.blt (A.nat n2) (A.len l0))) true,A.lt n2 n1],
  AV.bool false,none):=by kernel_rfl
theorem ZvP(A:Ar)(s:List UInt8)(l0:List Int)(n1 n2:Int):ZaT A tab E0 65 [true,false,false,false,false,false,false,false,false,false,false,false,true,true,true,false,false,false,true,true,true,false,false,true,false,false,true,true,false,true,true] 182 (Zao s l0 n1 n2) (Zak s l0 n1 n2)=
 some (tr [2,14,5,5,5,12,12,6,1,1] [A.lt 57 (A.nth l0 (A.nat n2)),!A.lt (A.nth l0 (A.nat n2)) 48,A.not (A.eq (A.nth l0 (A.nat n2)) 45),!A.eq n2 0,A.not false,!A.le 65 (A.nth l0 (A.nat n2)),!A.le 97 (A.nth l0 (A.nat n2)),Zaf (Zaf (A.le 0 n2) (Nat.blt (A.nat n2) (A.len l0))) true,A.lt n2 n1],
  AV.bool false,none):=by kernel_rfl
theorem Zu0(A:Ar)(s:List UInt8)(l0:List Int)(n1 n2:Int):Zaz A tab E0 68 [true,false,false,false,false,false,false,false,false,false,false,false,true,true,true,false,false,false,true,true,true,false,false,true,false,false,true,true,false,true,false] (Zao s l0 n1 n2) (Zak s l0 n1 n2)=
 some (tr [1,0,14,5,5,5,12,12,6,1,1] [A.inR .i64 (A.add n2 1),!A.lt 57 (A.nth l0 (A.nat n2)),!A.lt (A.nth l0 (A.nat n2)) 48,A.not (A.eq (A.nth l0 (A.nat n2)) 45),!A.eq n2 0,A.not false,!A.le 65 (A.nth l0 (A.nat n2)),!A.le 97 (A.nth l0 (A.nat n2)),Zaf (Zaf (A.le 0 n2) (Nat.blt (A.nat n2) (A.len l0))) true,A.lt n2 n1],
  ZaL (s) (l0) (n1) (A.add n2 1)):=by kernel_rfl
theorem ZtM(A:Ar)(s:List UInt8)(l0:List Int)(n1 n2:Int):Zaz A tab E0 68 [true,false,false,false,false,false,false,false,false,false,false,false,true,true,true,false,false,false,false,false,false,false,false,false,true,false,true,false] (Zao s l0 n1 n2) (Zak s l0 n1 n2)=
 some (tr [1,18,5,5,12,12,6,1,1] [A.inR .i64 (A.add n2 1),!A.not (A.eq (A.nth l0 (A.nat n2)) 45),!A.eq n2 0,A.not false,!A.le 65 (A.nth l0 (A.nat n2)),!A.le 97 (A.nth l0 (A.nat n2)),Zaf (Zaf (A.le 0 n2) (Nat.blt (A.nat n2) (A.len l0))) true,A.lt n2 n1],
  ZaL (s) (l0) (n1) (A.add n2 1)):=by kernel_rfl
theorem Zuv(A:Ar)(s:List UInt8)(l0:List Int)(n1 n2:Int):ZaT A tab E0 21 [false,true,true,true,true] 182 (Zao s l0 n1 n2) (Zak s l0 n1 n2)=
 some (tr [9,3,1] [A.not (A.eqS s []),!A.lt n2 n1],
  AV.bool (A.le (A.int (A.lenS s)) 12),none):=by kernel_rfl
theorem Zww(A:Ar)(s:List UInt8)(l0:List Int)(n1 n2:Int):ZaT A tab E0 21 [false,false,false,false,false] 182 (Zao s l0 n1 n2) (Zak s l0 n1 n2)=
 some (tr [9,3,1] [!A.not (A.eqS s []),!A.lt n2 n1],
  AV.bool false,none):=by kernel_rfl
def Zsz(n:Int):AFrame:={ fn:=161,N:=3,env:=[(0,AV.int .i64 n)],todo:=[.code a161.code],defs:=[],rnd:=none,ret:=false,res:=[ARes.tmp 2] }
def ZDO(n:Int):List AFrame:=[(Zsz n)]
theorem ZrA(n:Int):Zaq tab 161 [AV.int .i64 n]=some (Zsz n):=rfl
theorem Zzj(A:Ar)(n:Int):ZaT A tab E0 9 [] 161 (ZDO n) []=
 some (tr [3] [],
  AV.int .i64 0,none):=by kernel_rfl
end Go.Proofs.YtkeoeooghhjibaaGreatDoor
/- Names, ranges, first errors. No condition. -/
namespace Go.Proofs.YtkeoeooghhjibaaGreatDoor
def Zab(n a b:Int):Bool:=decide (a≤n∧n≤b)
def Zaa(b:Bool)(e:Int):Int:=if b=true then 0 else e
def Zxx(k:Nat)(c:Int):Bool:=decide ((97≤c∧c≤122)∨(65≤c∧c≤90)∨(k≠0∧(c=45∨(48≤c∧c≤57))))
def nmR(f:Nat→Int):Nat→Nat→Bool
 |0,_=>true
 |m+1,k=>Zxx k (f k)&&nmR f m (k+1)
def ZaQ(s:List UInt8):Bool:=decide (1≤s.length∧s.length≤12)&&nmR (fun k=>((s.getD k 0).toNat:Int)) s.length 0
def Zai:List Int→Int
 |[]=>0
 |x::xs=>if x=0 then Zai xs else x
def Zhg(xs:List AV)(s:List UInt8):Bool:=xs.any fun x=>x.toS==s
theorem Zk9(n a b:Int):Zan Tryz.prog 41 [.int .i64 n, .int .i64 a, .int .i64 b] (.bool (Zab n a b)) none:=
 start (Zs1 n a b) fun C hC=>by
  by_cases h:a≤n
  ·exact fin hC ZaC (ZEp std n a b) (by simp[h]) (by simp[Zab,h]) rfl
  ·exact fin hC ZaC (ZDe std n a b) (by simp;omega) (by simp[Zab,h]) rfl
theorem ZkP(n a b:Int):Zan Tryz.prog 82 [.int .i64 n, .int .i64 a, .int .i64 b] (.bool (Zab n a b)) none:=
 start (ZtE n a b) fun C hC=>by
  by_cases h:a≤n
  ·exact fin hC ZaC (ZCN std n a b) (by simp[h]) (by simp[Zab,h]) rfl
  ·exact fin hC ZaC (ZEq std n a b) (by simp;omega) (by simp[Zab,h]) rfl
theorem Zk5(b:Bool)(e:Int):Zan Tryz.prog 68 [.bool b, .int .i64 e] (.int .i64 (Zaa b e)) none:=
 start (Zs6 b e) fun C hC=>by
  cases b
  ·first
   |exact fin hC ZaC (ZBz std false e) (by simp) rfl rfl
   |exact fin hC ZaC (Zzr std false e) (by simp) rfl rfl
  ·first
   |exact fin hC ZaC (ZBz std true e) (by simp) rfl rfl
   |exact fin hC ZaC (Zzr std true e) (by simp) rfl rfl
theorem Zn9(n:Int):Zan Tryz.prog 161 [.int .i64 n] (.int .i64 0) none:=start (ZrA n) fun C hC=>fin hC ZaC (Zzj std n) (by simp) rfl rfl
theorem ZgO{C:Ctx}(hC:C.P=Tryz.prog)(s:List UInt8)(hl:s.length≤1000000):∀(m k:Nat),k+m=s.length→Ev C (Zar s (k:Int)) (Zam s (k:Int)) (ZbT 150 (.bool (nmR (fun k=>((s.getD k 0).toNat:Int)) m k)) none)
 |0,k,hk=>fin hC ZaC (ZwE std s k) (by simp;omega) rfl rfl
 |m+1,k,hk=>by
  have nx:Zxx k (((s.getD k 0).toNat:Int))=true→Ev C (Zar s ((k:Int)+1)) (Zam s ((k:Int)+1)) (ZbT 150 (.bool (nmR (fun k=>((s.getD k 0).toNat:Int)) (m+1) k)) none):=fun h=>by
   have:=ZgO hC s hl m (k+1) (by omega)
   simp only[nmR,h,Bool.true_and]
   exact this
  have fx:Zxx k (((s.getD k 0).toNat:Int))=false→AV.bool false=AV.bool (nmR (fun k=>((s.getD k 0).toNat:Int)) (m+1) k):=fun h=>by simp only[nmR,h,Bool.false_and]
  by_cases h1:((k:Int)<((s.length:Nat):Int))
  ·by_cases h2:(97≤((s.getD k 0).toNat:Int))
   ·by_cases h3:(((s.getD k 0).toNat:Int)≤122)
    ·exact go hC ZaC (ZA2 std s (k:Int)) (by simp[-List.getD_eq_getElem?_getD]<;>omega) (nx (decide_eq_true (by omega)))
    ·by_cases h4:(65≤((s.getD k 0).toNat:Int))
     ·by_cases h5:(((s.getD k 0).toNat:Int)≤90)
      ·exact go hC ZaC (Zze std s (k:Int)) (by simp[-List.getD_eq_getElem?_getD]<;>omega) (nx (decide_eq_true (by omega)))
      ·by_cases h6:((k:Int)=0)
       ·exact fin hC ZaC (ZAr std s (k:Int)) (by simp[-List.getD_eq_getElem?_getD]<;>omega) (fx (decide_eq_false (by omega))) rfl
       ·by_cases h7:(((s.getD k 0).toNat:Int)=45)
        ·exact go hC ZaC (ZAa std s (k:Int)) (by simp[-List.getD_eq_getElem?_getD]<;>omega) (nx (decide_eq_true (by omega)))
        ·by_cases h8:(((s.getD k 0).toNat:Int)<48)
         ·exact fin hC ZaC (ZBG std s (k:Int)) (by simp[-List.getD_eq_getElem?_getD]<;>omega) (fx (decide_eq_false (by omega))) rfl
         ·by_cases h9:(57<((s.getD k 0).toNat:Int))
          ·exact fin hC ZaC (Zzi std s (k:Int)) (by simp[-List.getD_eq_getElem?_getD]<;>omega) (fx (decide_eq_false (by omega))) rfl
          ·exact go hC ZaC (ZzB std s (k:Int)) (by simp[-List.getD_eq_getElem?_getD]<;>omega) (nx (decide_eq_true (by omega)))
     ·by_cases h5:((k:Int)=0)
      ·exact fin hC ZaC (Ztn std s (k:Int)) (by simp[-List.getD_eq_getElem?_getD]<;>omega) (fx (decide_eq_false (by omega))) rfl
      ·by_cases h6:(((s.getD k 0).toNat:Int)=45)
       ·exact go hC ZaC (ZtK std s (k:Int)) (by simp[-List.getD_eq_getElem?_getD]<;>omega) (nx (decide_eq_true (by omega)))
       ·by_cases h7:(((s.getD k 0).toNat:Int)<48)
        ·exact fin hC ZaC (ZuE std s (k:Int)) (by simp[-List.getD_eq_getElem?_getD]<;>omega) (fx (decide_eq_false (by omega))) rfl
        ·by_cases h8:(57<((s.getD k 0).toNat:Int))
         ·exact fin hC ZaC (Ztb std s (k:Int)) (by simp[-List.getD_eq_getElem?_getD]<;>omega) (fx (decide_eq_false (by omega))) rfl
         ·exact go hC ZaC (ZvF std s (k:Int)) (by simp[-List.getD_eq_getElem?_getD]<;>omega) (nx (decide_eq_true (by omega)))
   ·by_cases h3:(65≤((s.getD k 0).toNat:Int))
    ·by_cases h4:(((s.getD k 0).toNat:Int)≤90)
     ·exact go hC ZaC (ZuX std s (k:Int)) (by simp[-List.getD_eq_getElem?_getD]<;>omega) (nx (decide_eq_true (by omega)))
     ·by_cases h5:((k:Int)=0)
      ·exact fin hC ZaC (Ztm std s (k:Int)) (by simp[-List.getD_eq_getElem?_getD]<;>omega) (fx (decide_eq_false (by omega))) rfl
      ·by_cases h6:(((s.getD k 0).toNat:Int)=45)
       ·exact go hC ZaC (Ztw std s (k:Int)) (by simp[-List.getD_eq_getElem?_getD]<;>omega) (nx (decide_eq_true (by omega)))
       ·by_cases h7:(((s.getD k 0).toNat:Int)<48)
        ·exact fin hC ZaC (Zs9 std s (k:Int)) (by simp[-List.getD_eq_getElem?_getD]<;>omega) (fx (decide_eq_false (by omega))) rfl
        ·by_cases h8:(57<((s.getD k 0).toNat:Int))
         ·exact fin hC ZaC (Zum std s (k:Int)) (by simp[-List.getD_eq_getElem?_getD]<;>omega) (fx (decide_eq_false (by omega))) rfl
         ·exact go hC ZaC (Zue std s (k:Int)) (by simp[-List.getD_eq_getElem?_getD]<;>omega) (nx (decide_eq_true (by omega)))
    ·by_cases h4:((k:Int)=0)
     ·exact fin hC ZaC (Zvw std s (k:Int)) (by simp[-List.getD_eq_getElem?_getD]<;>omega) (fx (decide_eq_false (by omega))) rfl
     ·by_cases h5:(((s.getD k 0).toNat:Int)=45)
      ·exact go hC ZaC (Zui std s (k:Int)) (by simp[-List.getD_eq_getElem?_getD]<;>omega) (nx (decide_eq_true (by omega)))
      ·by_cases h6:(((s.getD k 0).toNat:Int)<48)
       ·exact fin hC ZaC (Zti std s (k:Int)) (by simp[-List.getD_eq_getElem?_getD]<;>omega) (fx (decide_eq_false (by omega))) rfl
       ·by_cases h7:(57<((s.getD k 0).toNat:Int))
        ·exact fin hC ZaC (Zv1 std s (k:Int)) (by simp[-List.getD_eq_getElem?_getD]<;>omega) (fx (decide_eq_false (by omega))) rfl
        ·exact go hC ZaC (ZsW std s (k:Int)) (by simp[-List.getD_eq_getElem?_getD]<;>omega) (nx (decide_eq_true (by omega)))
  ·omega
theorem Zpr(s:List UInt8)(hl:s.length≤1000000):Zan Tryz.prog 150 [.str s] (.bool (ZaQ s)) none:=
 start (ZpX s) fun C hC=>by
  by_cases h1:((s.length:Int)<1)
  ·exact fin hC ZaC (Zxj std s) (by simp;omega) (by simp[ZaQ];omega) rfl
  ·by_cases h2:(12<(s.length:Int))
   ·exact fin hC ZaC (Zyh std s) (by simp;omega) (by simp[ZaQ];omega) rfl
   ·refine go hC ZaC (ZxF std s) (by simp;omega) ?_
    have:=ZgO hC s hl s.length 0 (by omega)
    have e:decide (1≤s.length∧s.length≤12)=true:=by simp;omega
    simp only[ZaQ,e,Bool.true_and]
    exact this
theorem Zgf{C:Ctx}(hC:C.P=Tryz.prog)(s:List UInt8)(l0:List Int)(hl:l0.length≤4294967296):∀(m k:Nat),k+m=l0.length→Ev C (Zao s l0 (l0.length:Int) (k:Int)) (Zak s l0 (l0.length:Int) (k:Int)) (ZbT 182 (.bool (decide (1≤s.length∧s.length≤12)&&nmR (fun k=>l0.getD k 0) m k)) none)
 |0,k,hk=>by
  by_cases h2:s=[]
  ·exact fin hC ZaC (Zww std s l0 l0.length k) (by simp[h2];omega) (by simp[h2]) rfl
  ·have h3:0<s.length:=List.length_pos_iff.2 h2
   exact fin hC ZaC (Zuv std s l0 l0.length k) (by simp[h2];omega) (by simp only[nmR,Bool.and_true];congr 1;rw[Bool.eq_iff_iff];simp;omega) rfl
 |m+1,k,hk=>by
  have nx:Zxx k (l0.getD k 0)=true→Ev C (Zao s l0 (l0.length:Int) ((k:Int)+1)) (Zak s l0 (l0.length:Int) ((k:Int)+1)) (ZbT 182 (.bool (decide (1≤s.length∧s.length≤12)&&nmR (fun k=>l0.getD k 0) (m+1) k)) none):=fun h=>by
   have:=Zgf hC s l0 hl m (k+1) (by omega)
   simp only[nmR,h,Bool.true_and]
   exact this
  have fx:Zxx k (l0.getD k 0)=false→AV.bool false=AV.bool (decide (1≤s.length∧s.length≤12)&&nmR (fun k=>l0.getD k 0) (m+1) k):=fun h=>by simp only[nmR,h,Bool.false_and,Bool.and_false]
  by_cases h1:((k:Int)<(l0.length:Int))
  ·by_cases h2:(97≤(l0.getD k 0))
   ·by_cases h3:((l0.getD k 0)≤122)
    ·exact go hC ZaC (ZA5 std s l0 (l0.length:Int) (k:Int)) (by simp[-List.getD_eq_getElem?_getD]<;>omega) (nx (decide_eq_true (by omega)))
    ·by_cases h4:(65≤(l0.getD k 0))
     ·by_cases h5:((l0.getD k 0)≤90)
      ·exact go hC ZaC (Zyg std s l0 (l0.length:Int) (k:Int)) (by simp[-List.getD_eq_getElem?_getD]<;>omega) (nx (decide_eq_true (by omega)))
      ·by_cases h6:((k:Int)=0)
       ·exact fin hC ZaC (Zzh std s l0 (l0.length:Int) (k:Int)) (by simp[-List.getD_eq_getElem?_getD]<;>omega) (fx (decide_eq_false (by omega))) rfl
       ·by_cases h7:((l0.getD k 0)=45)
        ·exact go hC ZaC (Zz7 std s l0 (l0.length:Int) (k:Int)) (by simp[-List.getD_eq_getElem?_getD]<;>omega) (nx (decide_eq_true (by omega)))
        ·by_cases h8:((l0.getD k 0)<48)
         ·exact fin hC ZaC (ZzI std s l0 (l0.length:Int) (k:Int)) (by simp[-List.getD_eq_getElem?_getD]<;>omega) (fx (decide_eq_false (by omega))) rfl
         ·by_cases h9:(57<(l0.getD k 0))
          ·exact fin hC ZaC (Zyv std s l0 (l0.length:Int) (k:Int)) (by simp[-List.getD_eq_getElem?_getD]<;>omega) (fx (decide_eq_false (by omega))) rfl
          ·exact go hC ZaC (ZBv std s l0 (l0.length:Int) (k:Int)) (by simp[-List.getD_eq_getElem?_getD]<;>omega) (nx (decide_eq_true (by omega)))
     ·by_cases h5:((k:Int)=0)
      ·exact fin hC ZaC (Zyo std s l0 (l0.length:Int) (k:Int)) (by simp[-List.getD_eq_getElem?_getD]<;>omega) (fx (decide_eq_false (by omega))) rfl
      ·by_cases h6:((l0.getD k 0)=45)
       ·exact go hC ZaC (Zud std s l0 (l0.length:Int) (k:Int)) (by simp[-List.getD_eq_getElem?_getD]<;>omega) (nx (decide_eq_true (by omega)))
       ·by_cases h7:((l0.getD k 0)<48)
        ·exact fin hC ZaC (ZBy std s l0 (l0.length:Int) (k:Int)) (by simp[-List.getD_eq_getElem?_getD]<;>omega) (fx (decide_eq_false (by omega))) rfl
        ·by_cases h8:(57<(l0.getD k 0))
         ·exact fin hC ZaC (Zul std s l0 (l0.length:Int) (k:Int)) (by simp[-List.getD_eq_getElem?_getD]<;>omega) (fx (decide_eq_false (by omega))) rfl
         ·exact go hC ZaC (Zto std s l0 (l0.length:Int) (k:Int)) (by simp[-List.getD_eq_getElem?_getD]<;>omega) (nx (decide_eq_true (by omega)))
   ·by_cases h3:(65≤(l0.getD k 0))
    ·by_cases h4:((l0.getD k 0)≤90)
     ·exact go hC ZaC (ZsU std s l0 (l0.length:Int) (k:Int)) (by simp[-List.getD_eq_getElem?_getD]<;>omega) (nx (decide_eq_true (by omega)))
     ·by_cases h5:((k:Int)=0)
      ·exact fin hC ZaC (Zu5 std s l0 (l0.length:Int) (k:Int)) (by simp[-List.getD_eq_getElem?_getD]<;>omega) (fx (decide_eq_false (by omega))) rfl
      ·by_cases h6:((l0.getD k 0)=45)
       ·exact go hC ZaC (ZuY std s l0 (l0.length:Int) (k:Int)) (by simp[-List.getD_eq_getElem?_getD]<;>omega) (nx (decide_eq_true (by omega)))
       ·by_cases h7:((l0.getD k 0)<48)
        ·exact fin hC ZaC (Zvx std s l0 (l0.length:Int) (k:Int)) (by simp[-List.getD_eq_getElem?_getD]<;>omega) (fx (decide_eq_false (by omega))) rfl
        ·by_cases h8:(57<(l0.getD k 0))
         ·exact fin hC ZaC (ZsV std s l0 (l0.length:Int) (k:Int)) (by simp[-List.getD_eq_getElem?_getD]<;>omega) (fx (decide_eq_false (by omega))) rfl
         ·exact go hC ZaC (ZvC std s l0 (l0.length:Int) (k:Int)) (by simp[-List.getD_eq_getElem?_getD]<;>omega) (nx (decide_eq_true (by omega)))
    ·by_cases h4:((k:Int)=0)
     ·exact fin hC ZaC (Zvd std s l0 (l0.length:Int) (k:Int)) (by simp[-List.getD_eq_getElem?_getD]<;>omega) (fx (decide_eq_false (by omega))) rfl
     ·by_cases h5:((l0.getD k 0)=45)
      ·exact go hC ZaC (ZtM std s l0 (l0.length:Int) (k:Int)) (by simp[-List.getD_eq_getElem?_getD]<;>omega) (nx (decide_eq_true (by omega)))
      ·by_cases h6:((l0.getD k 0)<48)
       ·exact fin hC ZaC (Zt2 std s l0 (l0.length:Int) (k:Int)) (by simp[-List.getD_eq_getElem?_getD]<;>omega) (fx (decide_eq_false (by omega))) rfl
       ·by_cases h7:(57<(l0.getD k 0))
        ·exact fin hC ZaC (ZvP std s l0 (l0.length:Int) (k:Int)) (by simp[-List.getD_eq_getElem?_getD]<;>omega) (fx (decide_eq_false (by omega))) rfl
        ·exact go hC ZaC (Zu0 std s l0 (l0.length:Int) (k:Int)) (by simp[-List.getD_eq_getElem?_getD]<;>omega) (nx (decide_eq_true (by omega)))
  ·by_cases h2:(s=[])
   ·omega
   ·omega
theorem Zob(s:List UInt8)(hl:s.length≤1000000):Zan Tryz.prog 182 [.str s] (.bool (ZaQ s)) none:=
 start (Zqn s) fun C hC=>by
  refine go hC ZaC (ZBA std s) (by simp;omega) ?_
  have:=Zgf hC s (s.map fun b=>(b.toNat:Int)) (by simp;omega) (s.map fun b=>(b.toNat:Int)).length 0 (by simp)
  have e:(fun k=>(s.map fun b=>(b.toNat:Int)).getD k 0)=fun k=>((s.getD k 0).toNat:Int):=by
   funext k
   simp only[List.getD_eq_getElem?_getD,List.getElem?_map]
   cases s[k]?<;>rfl
  have q:(decide (1≤s.length∧s.length≤12)&&nmR (fun k=>(s.map fun b=>(b.toNat:Int)).getD k 0) (s.map fun b=>(b.toNat:Int)).length 0)=ZaQ s:=by rw[e,List.length_map];rfl
  rw[q]at this
  exact this
@[simp] theorem Zfz (l:List AV):std.lenA l=l.length:=rfl
@[simp] theorem ZEJ (l:List AV) (j:Nat):std.nthA l j=l.getD j .top:=rfl
theorem Zio{C:Ctx}(hC:C.P=Tryz.prog)(xs:List AV)(s:List UInt8)(hl:xs.length≤1000000):∀(m k:Nat),k+m=xs.length→Ev C (Zca xs s (k:Int)) (ZbK xs s (k:Int)) (ZbT 151 (.bool (Zhg (xs.drop k) s)) none)
 |0,k,hk=>fin hC ZaC (ZBI std xs s k) (by simp;omega) (by rw[List.drop_of_length_le (by omega)];rfl) rfl
 |m+1,k,hk=>by
  have hd:xs.drop k=xs[k]'(by omega)::xs.drop (k+1):=List.drop_eq_getElem_cons (by omega)
  have hg:xs.getD k .top=xs[k]'(by omega):=by simp[List.getD_eq_getElem?_getD,List.getElem?_eq_getElem (show k<xs.length by omega)]
  by_cases h:(xs.getD k .top).toS=s
  ·exact fin hC ZaC (ZAJ std xs s k) (by simp[-List.getD_eq_getElem?_getD,h]<;>omega) (by rw[hd,←hg];simp[-List.getD_eq_getElem?_getD,Zhg,h]) rfl
  ·refine go hC ZaC (ZzX std xs s k) (by simp[-List.getD_eq_getElem?_getD,h]<;>omega) ?_
   have:=Zio hC xs s hl m (k+1) (by omega)
   rw[hd,←hg]
   have e:Zhg (xs.getD k .top::xs.drop (k+1)) s=Zhg (xs.drop (k+1)) s:=by simp[-List.getD_eq_getElem?_getD,Zhg,h]
   rw[e]
   exact this
theorem Zrz(xs:List AV)(s:List UInt8)(hl:xs.length≤1000000):Zan Tryz.prog 151 [.list (.big .str xs), .str s] (.bool (Zhg xs s)) none:=
 start (Zqw xs s) fun C hC=>go hC ZaC (Zyb std xs s) (by simp) (Zio hC xs s hl xs.length 0 (by omega))
theorem ZfP{C:Ctx}(hC:C.P=Tryz.prog)(xs:List Int)(hl:xs.length≤1000000):∀(m k:Nat),k+m=xs.length→Ev C (Zc2 xs (xs.length:Int) (k:Int)) (Zcv xs (xs.length:Int) (k:Int)) (ZbT 67 (.int .i64 (Zai (xs.drop k))) none)
 |0,k,hk=>fin hC ZaC (ZEa std xs xs.length k) (by simp;omega) (by rw[List.drop_of_length_le (by omega)];rfl) rfl
 |m+1,k,hk=>by
  have hd:xs.drop k=xs[k]'(by omega)::xs.drop (k+1):=List.drop_eq_getElem_cons (by omega)
  have hg:xs.getD k 0=xs[k]'(by omega):=by simp[List.getD_eq_getElem?_getD,List.getElem?_eq_getElem (show k<xs.length by omega)]
  by_cases h:xs.getD k 0=0
  ·refine go hC ZaC (ZDS std xs xs.length k) (by simp[-List.getD_eq_getElem?_getD,h]<;>omega) ?_
   have:=ZfP hC xs hl m (k+1) (by omega)
   rw[hd,←hg,Zai,if_pos h]
   exact this
  ·exact fin hC ZaC (ZC7 std xs xs.length k) (by simp[-List.getD_eq_getElem?_getD,h]<;>omega) (by rw[hd,←hg,Zai,if_neg h];rfl) rfl
theorem Zm8(xs:List Int)(hl:xs.length≤1000000):Zan Tryz.prog 67 [.list (.ints .i64 xs)] (.int .i64 (Zai xs)) none:=
 start (Zv7 xs) fun C hC=>go hC ZaC (ZCA std xs) (by simp) (ZfP hC xs hl xs.length 0 (by omega))
end Go.Proofs.YtkeoeooghhjibaaGreatDoor
/- Contracts as a list. No condition. -/
namespace Go.Proofs.YtkeoeooghhjibaaGreatDoor
def k41:Ctr:=⟨41,0,fun _ a=>match a with |[.int .i64 n, .int .i64 a, .int .i64 b]=>some (true, .bool (Zab n a b),none) |_=>none⟩
theorem ZzV:k41.OK Tryz.prog:=fun pa args r fr h=>by
 simp only[k41]at h
 split at h
 ·cases h
  exact Zk9 _ _ _
 ·cases h
def k82:Ctr:=⟨82,0,fun _ a=>match a with |[.int .i64 n, .int .i64 a, .int .i64 b]=>some (true, .bool (Zab n a b),none) |_=>none⟩
theorem ZAV:k82.OK Tryz.prog:=fun pa args r fr h=>by
 simp only[k82]at h
 split at h
 ·cases h
  exact ZkP _ _ _
 ·cases h
def k68:Ctr:=⟨68,0,fun _ a=>match a with |[.bool b, .int .i64 e]=>some (true, .int .i64 (Zaa b e),none) |_=>none⟩
theorem Zy0:k68.OK Tryz.prog:=fun pa args r fr h=>by
 simp only[k68]at h
 split at h
 ·cases h
  exact Zk5 _ _
 ·cases h
def k161:Ctr:=⟨161,0,fun _ a=>match a with |[.int .i64 _]=>some (true, .int .i64 0,none) |_=>none⟩
theorem ZtA:k161.OK Tryz.prog:=fun pa args r fr h=>by
 simp only[k161]at h
 split at h
 ·cases h
  exact Zn9 _
 ·cases h
def k150:Ctr:=⟨150,0,fun _ a=>match a with |[.str s]=>some (decide (s.length≤1000000), .bool (ZaQ s),none) |_=>none⟩
theorem ZsY:k150.OK Tryz.prog:=fun pa args r fr h=>by
 simp only[k150]at h
 split at h
 ·simp only[Option.some.injEq,Prod.mk.injEq,decide_eq_true_eq]at h
  obtain⟨h0,rfl,rfl⟩:=h
  exact Zpr _ h0
 ·cases h
def k182:Ctr:=⟨182,0,fun _ a=>match a with |[.str s]=>some (decide (s.length≤1000000), .bool (ZaQ s),none) |_=>none⟩
theorem Zuz:k182.OK Tryz.prog:=fun pa args r fr h=>by
 simp only[k182]at h
 split at h
 ·simp only[Option.some.injEq,Prod.mk.injEq,decide_eq_true_eq]at h
  obtain⟨h0,rfl,rfl⟩:=h
  exact Zob _ h0
 ·cases h
def k151:Ctr:=⟨151,0,fun _ a=>match a with |[.list (.big .str xs), .str s]=>some (decide (xs.length≤1000000), .bool (Zhg xs s),none) |_=>none⟩
theorem Zuk:k151.OK Tryz.prog:=fun pa args r fr h=>by
 simp only[k151]at h
 split at h
 ·simp only[Option.some.injEq,Prod.mk.injEq,decide_eq_true_eq]at h
  obtain⟨h0,rfl,rfl⟩:=h
  exact Zrz _ _ h0
 ·cases h
def k67:Ctr:=⟨67,0,fun _ a=>match a with |[.list (.ints .i64 xs)]=>some (decide (xs.length≤1000000), .int .i64 (Zai xs),none) |_=>none⟩
theorem Zyt:k67.OK Tryz.prog:=fun pa args r fr h=>by
 simp only[k67]at h
 split at h
 ·simp only[Option.some.injEq,Prod.mk.injEq,decide_eq_true_eq]at h
  obtain⟨h0,rfl,rfl⟩:=h
  exact Zm8 _ h0
 ·cases h
def B1:List Ctr:=[k41,k82,k68,k161,k150,k182,k151,k67]
theorem Zlk:ZaI Tryz.prog B1:=⟨ZzV,⟨ZAV,⟨Zy0,⟨ZtA,⟨ZsY,⟨Zuz,⟨Zuk,⟨Zyt,trivial⟩⟩⟩⟩⟩⟩⟩⟩
end Go.Proofs.YtkeoeooghhjibaaGreatDoor
/- Paths of functions, printed by the explorer (Gx). No condition. -/
namespace Go.Proofs.YtkeoeooghhjibaaGreatDoor
set_option maxRecDepth 100000
set_option linter.unusedVariables false
def Zsc(n m:Int):AFrame:={ fn:=158,N:=13,env:=[(0,AV.int .i64 n),(1,AV.int .i64 m)],todo:=[.code a158.code],defs:=[],rnd:=none,ret:=false,res:=[ARes.tmp 4] }
def ZBi(n m:Int):List AFrame:=[(Zsc n m)]
theorem ZqV(n m:Int):Zaq tab 158 [AV.int .i64 n,AV.int .i64 m]=some (Zsc n m):=rfl
theorem ZAI(A:Ar)(n m:Int):ZaT A tab B1 18 [true,true,true,true,true] 158 (ZBi n m) []=
 some (tr [11,4] [A.eq n (-1)],
  AV.bool true,none):=by kernel_rfl
theorem Zx5(A:Ar)(n m:Int):ZaT A tab B1 18 [false,false,false,false,false] 158 (ZBi n m) []=
 some (tr [6,4,4] [A.inR .i64 (A.sub m 1),!A.eq n (-1)],
  AV.bool (Zab n 0 (A.sub m 1)),none):=by kernel_rfl
def Zsu(ms ks rs:List AV)(i:Int):AFrame:={ fn:=160,N:=9,env:=[(0,AV.int .i64 i),(1,AV.eptr (AV.agg (Row.gen [.list (Row.big .str ms), .list (Row.big (.agg [.str, .int .i64]) ks), .list (Row.big (.agg [.str, .int .i64, .int .i64, .int .i64, .int .i64]) rs)])) 0)],todo:=[.code a160.code],defs:=[],rnd:=none,ret:=false,res:=[ARes.tmp 3] }
def ZDt(ms ks rs:List AV)(i:Int):List AFrame:=[(Zsu ms ks rs i)]
theorem ZpW(ms ks rs:List AV)(i:Int):Zaq tab 160 [AV.int .i64 i,AV.eptr (AV.agg (Row.gen [.list (Row.big .str ms), .list (Row.big (.agg [.str, .int .i64]) ks), .list (Row.big (.agg [.str, .int .i64, .int .i64, .int .i64, .int .i64]) rs)])) 0]=some (Zsu ms ks rs i):=rfl
theorem ZzZ(A:Ar)(ms ks rs:List AV)(i:Int):ZaT A tab B1 14 [] 160 (ZDt ms ks rs i) []=
 some (tr [3,4] [Zaf (Zaf (A.le 0 i) (Nat.blt (A.nat i) (A.lenA ms))) true],
  AV.str (AV.toS (A.nthA ms (A.nat i))),none):=by kernel_rfl
def Zsk(ms ks rs:List AV)(i:Int):AFrame:={ fn:=162,N:=10,env:=[(0,AV.int .i64 i),(1,AV.eptr (AV.agg (Row.gen [.list (Row.big .str ms), .list (Row.big (.agg [.str, .int .i64]) ks), .list (Row.big (.agg [.str, .int .i64, .int .i64, .int .i64, .int .i64]) rs)])) 0)],todo:=[.code a162.code],defs:=[],rnd:=none,ret:=false,res:=[ARes.tmp 3] }
def ZEo(ms ks rs:List AV)(i:Int):List AFrame:=[(Zsk ms ks rs i)]
theorem Zrl(ms ks rs:List AV)(i:Int):Zaq tab 162 [AV.int .i64 i,AV.eptr (AV.agg (Row.gen [.list (Row.big .str ms), .list (Row.big (.agg [.str, .int .i64]) ks), .list (Row.big (.agg [.str, .int .i64, .int .i64, .int .i64, .int .i64]) rs)])) 0]=some (Zsk ms ks rs i):=rfl
theorem ZzL(A:Ar)(ms ks rs:List AV)(i:Int):ZaT A tab B1 16 [] 162 (ZEo ms ks rs i) []=
 some (tr [4,4] [Zaf (Zaf (A.le 0 i) (Nat.blt (A.nat i) (A.lenA ks))) true],
  AV.str ((A.nthA ks (A.nat i)).cellAt 0).toS,none):=by kernel_rfl
def Zsy(ms ks rs:List AV)(i:Int):AFrame:={ fn:=164,N:=10,env:=[(0,AV.int .i64 i),(1,AV.eptr (AV.agg (Row.gen [.list (Row.big .str ms), .list (Row.big (.agg [.str, .int .i64]) ks), .list (Row.big (.agg [.str, .int .i64, .int .i64, .int .i64, .int .i64]) rs)])) 0)],todo:=[.code a164.code],defs:=[],rnd:=none,ret:=false,res:=[ARes.tmp 3] }
def ZCg(ms ks rs:List AV)(i:Int):List AFrame:=[(Zsy ms ks rs i)]
theorem Zrx(ms ks rs:List AV)(i:Int):Zaq tab 164 [AV.int .i64 i,AV.eptr (AV.agg (Row.gen [.list (Row.big .str ms), .list (Row.big (.agg [.str, .int .i64]) ks), .list (Row.big (.agg [.str, .int .i64, .int .i64, .int .i64, .int .i64]) rs)])) 0]=some (Zsy ms ks rs i):=rfl
theorem ZBp(A:Ar)(ms ks rs:List AV)(i:Int):ZaT A tab B1 16 [] 164 (ZCg ms ks rs i) []=
 some (tr [4,4] [Zaf (Zaf (A.le 0 i) (Nat.blt (A.nat i) (A.lenA rs))) true],
  AV.str ((A.nthA rs (A.nat i)).cellAt 0).toS,none):=by kernel_rfl
def ZxJ(xs:List AV):AFrame:={ fn:=75,N:=6,env:=[(0,AV.list (Row.big .str xs))],todo:=[.code a75.code],defs:=[],rnd:=none,ret:=false,res:=[ARes.tmp 2] }
def ZGh(xs:List AV):List AFrame:=[(ZxJ xs)]
theorem Zvo(xs:List AV):Zaq tab 75 [AV.list (Row.big .str xs)]=some (ZxJ xs):=rfl
theorem ZC0(A:Ar)(xs:List AV):ZaT A tab B1 12 [] 75 (ZGh xs) []=
 some (tr [2,3] [Nat.ble (A.lenA xs) 4294967296],
  AV.list (Row.big .str xs),none):=by kernel_rfl
end Go.Proofs.YtkeoeooghhjibaaGreatDoor
/- Contracts as a list. No condition. -/
namespace Go.Proofs.YtkeoeooghhjibaaGreatDoor
def Zhp(n m:Int):Bool:=if n= -1 then true else Zab n 0 (m-1)
def Za3(ms:List AV)(i:Int):List UInt8:=(ms.getD i.toNat .top).toS
def Zaw(ks:List AV)(i:Int):List UInt8:=((ks.getD i.toNat .top).cellAt 0).toS
theorem ZpN(n m:Int)(h: -1000000≤m∧m≤1000000):Zan Tryz.prog 158 [.int .i64 n, .int .i64 m] (.bool (Zhp n m)) none:=
 start (ZqV n m) fun C hC=>by
  by_cases h1:n= -1
  ·exact fin hC Zlk (ZAI std n m) (by simp[h1]) (by simp[Zhp,h1]) rfl
  ·exact fin hC Zlk (Zx5 std n m) (by simp[h1];omega) (by simp[Zhp,h1]) rfl
theorem Zpm(ms ks rs:List AV)(i:Int)(h:0≤i∧i<ms.length):Zan Tryz.prog 160 [.int .i64 i, .eptr (.agg (.gen [.list (.big .str ms), .list (.big (.agg [.str, .int .i64]) ks), .list (.big (.agg [.str, .int .i64, .int .i64, .int .i64, .int .i64]) rs)])) 0] (.str (Za3 ms i)) none:=
 start (ZpW ms ks rs i) fun C hC=>fin hC Zlk (ZzZ std ms ks rs i) (by simp;omega) rfl rfl
theorem Zoz(ms ks rs:List AV)(i:Int)(h:0≤i∧i<ks.length):Zan Tryz.prog 162 [.int .i64 i, .eptr (.agg (.gen [.list (.big .str ms), .list (.big (.agg [.str, .int .i64]) ks), .list (.big (.agg [.str, .int .i64, .int .i64, .int .i64, .int .i64]) rs)])) 0] (.str (Zaw ks i)) none:=
 start (Zrl ms ks rs i) fun C hC=>fin hC Zlk (ZzL std ms ks rs i) (by simp;omega) rfl rfl
theorem Zo6(ms ks rs:List AV)(i:Int)(h:0≤i∧i<rs.length):Zan Tryz.prog 164 [.int .i64 i, .eptr (.agg (.gen [.list (.big .str ms), .list (.big (.agg [.str, .int .i64]) ks), .list (.big (.agg [.str, .int .i64, .int .i64, .int .i64, .int .i64]) rs)])) 0] (.str (Zaw rs i)) none:=
 start (Zrx ms ks rs i) fun C hC=>fin hC Zlk (ZBp std ms ks rs i) (by simp;omega) rfl rfl
theorem Zpt(xs:List AV)(h:xs.length≤1000000):Zan Tryz.prog 75 [.list (.big .str xs)] (.list (.big .str xs)) none:=
 start (Zvo xs) fun C hC=>fin hC Zlk (ZC0 std xs) (by simp;omega) rfl rfl
def k158:Ctr:=⟨158,0,fun _ a=>match a with |[.int .i64 n, .int .i64 m]=>some (decide (-1000000≤m∧m≤1000000), .bool (Zhp n m),none) |_=>none⟩
theorem ZtG:k158.OK Tryz.prog:=fun pa args r fr h=>by
 simp only[k158]at h
 split at h
 ·simp only[Option.some.injEq,Prod.mk.injEq,decide_eq_true_eq]at h
  obtain⟨h0,rfl,rfl⟩:=h
  exact ZpN _ _ h0
 ·cases h
def k160:Ctr:=⟨160,0,fun _ a=>match a with |[.int .i64 i, .eptr (.agg (.gen [.list (.big .str ms), .list (.big (.agg [.str, .int .i64]) ks), .list (.big (.agg [.str, .int .i64, .int .i64, .int .i64, .int .i64]) rs)])) 0]=>some (decide (0≤i∧i<ms.length), .str (Za3 ms i),none) |_=>none⟩
theorem Zu9:k160.OK Tryz.prog:=fun pa args r fr h=>by
 simp only[k160]at h
 split at h
 ·simp only[Option.some.injEq,Prod.mk.injEq,decide_eq_true_eq]at h
  obtain⟨h0,rfl,rfl⟩:=h
  exact Zpm _ _ _ _ h0
 ·cases h
def k162:Ctr:=⟨162,0,fun _ a=>match a with |[.int .i64 i, .eptr (.agg (.gen [.list (.big .str ms), .list (.big (.agg [.str, .int .i64]) ks), .list (.big (.agg [.str, .int .i64, .int .i64, .int .i64, .int .i64]) rs)])) 0]=>some (decide (0≤i∧i<ks.length), .str (Zaw ks i),none) |_=>none⟩
theorem Zs5:k162.OK Tryz.prog:=fun pa args r fr h=>by
 simp only[k162]at h
 split at h
 ·simp only[Option.some.injEq,Prod.mk.injEq,decide_eq_true_eq]at h
  obtain⟨h0,rfl,rfl⟩:=h
  exact Zoz _ _ _ _ h0
 ·cases h
def k164:Ctr:=⟨164,0,fun _ a=>match a with |[.int .i64 i, .eptr (.agg (.gen [.list (.big .str ms), .list (.big (.agg [.str, .int .i64]) ks), .list (.big (.agg [.str, .int .i64, .int .i64, .int .i64, .int .i64]) rs)])) 0]=>some (decide (0≤i∧i<rs.length), .str (Zaw rs i),none) |_=>none⟩
theorem ZuF:k164.OK Tryz.prog:=fun pa args r fr h=>by
 simp only[k164]at h
 split at h
 ·simp only[Option.some.injEq,Prod.mk.injEq,decide_eq_true_eq]at h
  obtain⟨h0,rfl,rfl⟩:=h
  exact Zo6 _ _ _ _ h0
 ·cases h
def k75:Ctr:=⟨75,0,fun _ a=>match a with |[.list (.big .str xs)]=>some (decide (xs.length≤1000000), .list (.big .str xs),none) |_=>none⟩
theorem Zw3:k75.OK Tryz.prog:=fun pa args r fr h=>by
 simp only[k75]at h
 split at h
 ·simp only[Option.some.injEq,Prod.mk.injEq,decide_eq_true_eq]at h
  obtain⟨h0,rfl,rfl⟩:=h
  exact Zpt _ h0
 ·cases h
def B2:List Ctr:=[k158,k160,k162,k164,k75]++B1
theorem Zhq:ZaI Tryz.prog B2:=⟨ZtG,⟨Zu9,⟨Zs5,⟨ZuF,⟨Zw3,Zlk⟩⟩⟩⟩⟩
end Go.Proofs.YtkeoeooghhjibaaGreatDoor
/- Paths of functions, printed by the explorer (Gx). No condition. -/
namespace Go.Proofs.YtkeoeooghhjibaaGreatDoor
set_option maxRecDepth 100000
set_option linter.unusedVariables false
def Zr9(ms ks rs:List AV)(i k:Int):AFrame:={ fn:=163,N:=16,env:=[(0,AV.int .i64 i),(1,AV.eptr (AV.fn 158 []) 0),(2,AV.eptr (AV.agg (Row.gen [.list (Row.big .str ms), .list (Row.big (.agg [.str, .int .i64]) ks), .list (Row.big (.agg [.str, .int .i64, .int .i64, .int .i64, .int .i64]) rs)])) 0),(3,AV.eptr (AV.int .i64 k) 0)],todo:=[.code a163.code],defs:=[],rnd:=none,ret:=false,res:=[ARes.tmp 5] }
def ZCL(ms ks rs:List AV)(i k:Int):List AFrame:=[(Zr9 ms ks rs i k)]
theorem ZqM(ms ks rs:List AV)(i k:Int):Zaq tab 163 [AV.int .i64 i,AV.eptr (AV.fn 158 []) 0,AV.eptr (AV.agg (Row.gen [.list (Row.big .str ms), .list (Row.big (.agg [.str, .int .i64]) ks), .list (Row.big (.agg [.str, .int .i64, .int .i64, .int .i64, .int .i64]) rs)])) 0,AV.eptr (AV.int .i64 k) 0]=some (Zr9 ms ks rs i k):=rfl
theorem ZxL(A:Ar)(ms ks rs:List AV)(i k:Int):ZaT A tab B2 8 [] 163 (ZCL ms ks rs i k) []=
 some (tr [3,3,5] [decide (-1000000≤k∧k≤1000000),Zaf (Zaf (A.le 0 i) (Nat.blt (A.nat i) (A.lenA ks))) true],
  AV.int .i64 (Zaa (Zhp ((A.nthA ks (A.nat i)).cellAt 1).toI k) 6),none):=by kernel_rfl
def ZrU(ms ks rs:List AV)(i n m:Int):AFrame:={ fn:=165,N:=48,env:=[(0,AV.int .i64 i),(1,AV.eptr (AV.agg (Row.gen [.list (Row.big .str ms), .list (Row.big (.agg [.str, .int .i64]) ks), .list (Row.big (.agg [.str, .int .i64, .int .i64, .int .i64, .int .i64]) rs)])) 0),(2,AV.eptr (AV.int .i64 n) 0),(3,AV.eptr (AV.fn 158 []) 0),(4,AV.eptr (AV.int .i64 m) 0)],todo:=[.code a165.code],defs:=[],rnd:=none,ret:=false,res:=[ARes.tmp 6] }
def Zm6(ms ks rs:List AV)(i n m:Int):List AFrame:=[(ZrU ms ks rs i n m)]
theorem Zqg(ms ks rs:List AV)(i n m:Int):Zaq tab 165 [AV.int .i64 i,AV.eptr (AV.agg (Row.gen [.list (Row.big .str ms), .list (Row.big (.agg [.str, .int .i64]) ks), .list (Row.big (.agg [.str, .int .i64, .int .i64, .int .i64, .int .i64]) rs)])) 0,AV.eptr (AV.int .i64 n) 0,AV.eptr (AV.fn 158 []) 0,AV.eptr (AV.int .i64 m) 0]=some (ZrU ms ks rs i n m):=rfl
theorem ZBC(A:Ar)(ms ks rs:List AV)(i n m:Int):ZaT A tab B2 18 [true,true,true] 165 (Zm6 ms ks rs i n m) []=
 some (tr [2,0,5,10,4,2,4,2,6,4] [decide (List.length [Zaa (Zhp ((A.nthA rs (A.nat i)).cellAt 3).toI n) 6,Zaa (Zab ((A.nthA rs (A.nat i)).cellAt 4).toI 1 1000000) 2,0]≤1000000),List.all [AV.int .i64 (Zaa (Zhp ((A.nthA rs (A.nat i)).cellAt 3).toI n) 6),AV.int .i64 (Zaa (Zab ((A.nthA rs (A.nat i)).cellAt 4).toI 1 1000000) 2),AV.int .i64 0] fun x=>AV.bx x&&Nat.beq (Zah A x) 1,A.not (A.eq ((A.nthA rs (A.nat i)).cellAt 3).toI (-1)),decide (-1000000≤n∧n≤1000000),Zhp ((A.nthA rs (A.nat i)).cellAt 2).toI m,decide (-1000000≤m∧m≤1000000),Zab ((A.nthA rs (A.nat i)).cellAt 1).toI 0 (A.sub n 1),A.inR .i64 (A.sub n 1),Zaf (Zaf (A.le 0 i) (Nat.blt (A.nat i) (A.lenA rs))) true],
  AV.int .i64 (Zai [Zaa (Zhp ((A.nthA rs (A.nat i)).cellAt 3).toI n) 6,Zaa (Zab ((A.nthA rs (A.nat i)).cellAt 4).toI 1 1000000) 2,0]),none):=by kernel_rfl
theorem ZAl(A:Ar)(ms ks rs:List AV)(i n m:Int):ZaT A tab B2 18 [true,true,false] 165 (Zm6 ms ks rs i n m) []=
 some (tr [2,0,5,10,4,2,4,2,6,4] [decide (List.length [Zaa (Zhp ((A.nthA rs (A.nat i)).cellAt 3).toI n) 6,Zaa (Zab ((A.nthA rs (A.nat i)).cellAt 4).toI 1 1000000) 2,Zaa (A.eq ((A.nthA rs (A.nat i)).cellAt 4).toI 1) 3]≤1000000),List.all [AV.int .i64 (Zaa (Zhp ((A.nthA rs (A.nat i)).cellAt 3).toI n) 6),AV.int .i64 (Zaa (Zab ((A.nthA rs (A.nat i)).cellAt 4).toI 1 1000000) 2),AV.int .i64 (Zaa (A.eq ((A.nthA rs (A.nat i)).cellAt 4).toI 1) 3)] fun x=>AV.bx x&&Nat.beq (Zah A x) 1,!A.not (A.eq ((A.nthA rs (A.nat i)).cellAt 3).toI (-1)),decide (-1000000≤n∧n≤1000000),Zhp ((A.nthA rs (A.nat i)).cellAt 2).toI m,decide (-1000000≤m∧m≤1000000),Zab ((A.nthA rs (A.nat i)).cellAt 1).toI 0 (A.sub n 1),A.inR .i64 (A.sub n 1),Zaf (Zaf (A.le 0 i) (Nat.blt (A.nat i) (A.lenA rs))) true],
  AV.int .i64 (Zai [Zaa (Zhp ((A.nthA rs (A.nat i)).cellAt 3).toI n) 6,Zaa (Zab ((A.nthA rs (A.nat i)).cellAt 4).toI 1 1000000) 2,Zaa (A.eq ((A.nthA rs (A.nat i)).cellAt 4).toI 1) 3]),none):=by kernel_rfl
theorem ZBh(A:Ar)(ms ks rs:List AV)(i n m:Int):ZaT A tab B2 18 [true,false,true] 165 (Zm6 ms ks rs i n m) []=
 some (tr [2,0,5,15,2,4,2,6,4] [decide (List.length [6,Zaa (Zab ((A.nthA rs (A.nat i)).cellAt 4).toI 1 1000000) 2,0]≤1000000),List.all [AV.int .i64 6,AV.int .i64 (Zaa (Zab ((A.nthA rs (A.nat i)).cellAt 4).toI 1 1000000) 2),AV.int .i64 0] fun x=>AV.bx x&&Nat.beq (Zah A x) 1,A.not (A.eq ((A.nthA rs (A.nat i)).cellAt 3).toI (-1)),!Zhp ((A.nthA rs (A.nat i)).cellAt 2).toI m,decide (-1000000≤m∧m≤1000000),Zab ((A.nthA rs (A.nat i)).cellAt 1).toI 0 (A.sub n 1),A.inR .i64 (A.sub n 1),Zaf (Zaf (A.le 0 i) (Nat.blt (A.nat i) (A.lenA rs))) true],
  AV.int .i64 (Zai [6,Zaa (Zab ((A.nthA rs (A.nat i)).cellAt 4).toI 1 1000000) 2,0]),none):=by kernel_rfl
theorem Zx2(A:Ar)(ms ks rs:List AV)(i n m:Int):ZaT A tab B2 18 [true,false,false] 165 (Zm6 ms ks rs i n m) []=
 some (tr [2,0,5,15,2,4,2,6,4] [decide (List.length [6,Zaa (Zab ((A.nthA rs (A.nat i)).cellAt 4).toI 1 1000000) 2,Zaa (A.eq ((A.nthA rs (A.nat i)).cellAt 4).toI 1) 3]≤1000000),List.all [AV.int .i64 6,AV.int .i64 (Zaa (Zab ((A.nthA rs (A.nat i)).cellAt 4).toI 1 1000000) 2),AV.int .i64 (Zaa (A.eq ((A.nthA rs (A.nat i)).cellAt 4).toI 1) 3)] fun x=>AV.bx x&&Nat.beq (Zah A x) 1,!A.not (A.eq ((A.nthA rs (A.nat i)).cellAt 3).toI (-1)),!Zhp ((A.nthA rs (A.nat i)).cellAt 2).toI m,decide (-1000000≤m∧m≤1000000),Zab ((A.nthA rs (A.nat i)).cellAt 1).toI 0 (A.sub n 1),A.inR .i64 (A.sub n 1),Zaf (Zaf (A.le 0 i) (Nat.blt (A.nat i) (A.lenA rs))) true],
  AV.int .i64 (Zai [6,Zaa (Zab ((A.nthA rs (A.nat i)).cellAt 4).toI 1 1000000) 2,Zaa (A.eq ((A.nthA rs (A.nat i)).cellAt 4).toI 1) 3]),none):=by kernel_rfl
theorem Zxc(A:Ar)(ms ks rs:List AV)(i n m:Int):ZaT A tab B2 18 [false,false,true] 165 (Zm6 ms ks rs i n m) []=
 some (tr [2,0,5,23,2,6,4] [decide (List.length [6,Zaa (Zab ((A.nthA rs (A.nat i)).cellAt 4).toI 1 1000000) 2,0]≤1000000),List.all [AV.int .i64 6,AV.int .i64 (Zaa (Zab ((A.nthA rs (A.nat i)).cellAt 4).toI 1 1000000) 2),AV.int .i64 0] fun x=>AV.bx x&&Nat.beq (Zah A x) 1,A.not (A.eq ((A.nthA rs (A.nat i)).cellAt 3).toI (-1)),!Zab ((A.nthA rs (A.nat i)).cellAt 1).toI 0 (A.sub n 1),A.inR .i64 (A.sub n 1),Zaf (Zaf (A.le 0 i) (Nat.blt (A.nat i) (A.lenA rs))) true],
  AV.int .i64 (Zai [6,Zaa (Zab ((A.nthA rs (A.nat i)).cellAt 4).toI 1 1000000) 2,0]),none):=by kernel_rfl
theorem Zya(A:Ar)(ms ks rs:List AV)(i n m:Int):ZaT A tab B2 18 [false,false,false] 165 (Zm6 ms ks rs i n m) []=
 some (tr [2,0,5,23,2,6,4] [decide (List.length [6,Zaa (Zab ((A.nthA rs (A.nat i)).cellAt 4).toI 1 1000000) 2,Zaa (A.eq ((A.nthA rs (A.nat i)).cellAt 4).toI 1) 3]≤1000000),List.all [AV.int .i64 6,AV.int .i64 (Zaa (Zab ((A.nthA rs (A.nat i)).cellAt 4).toI 1 1000000) 2),AV.int .i64 (Zaa (A.eq ((A.nthA rs (A.nat i)).cellAt 4).toI 1) 3)] fun x=>AV.bx x&&Nat.beq (Zah A x) 1,!A.not (A.eq ((A.nthA rs (A.nat i)).cellAt 3).toI (-1)),!Zab ((A.nthA rs (A.nat i)).cellAt 1).toI 0 (A.sub n 1),A.inR .i64 (A.sub n 1),Zaf (Zaf (A.le 0 i) (Nat.blt (A.nat i) (A.lenA rs))) true],
  AV.int .i64 (Zai [6,Zaa (Zab ((A.nthA rs (A.nat i)).cellAt 4).toI 1 1000000) 2,Zaa (A.eq ((A.nthA rs (A.nat i)).cellAt 4).toI 1) 3]),none):=by kernel_rfl
def Zy2(ms ks rs:List AV):AFrame:={ fn:=25,N:=15,env:=[(0,AV.agg (Row.gen [.list (Row.big .str ms), .list (Row.big (.agg [.str, .int .i64]) ks), .list (Row.big (.agg [.str, .int .i64, .int .i64, .int .i64, .int .i64]) rs)]))],todo:=[.code a25.code],defs:=[],rnd:=none,ret:=false,res:=[ARes.cell 2 true 3] }
def ZIw(ms ks rs:List AV):List AFrame:=[(Zy2 ms ks rs)]
theorem Zwx(ms ks rs:List AV):Zaq tab 25 [AV.agg (Row.gen [.list (Row.big .str ms), .list (Row.big (.agg [.str, .int .i64]) ks), .list (Row.big (.agg [.str, .int .i64, .int .i64, .int .i64, .int .i64]) rs)])]=some (Zy2 ms ks rs):=rfl
theorem ZC5(A:Ar)(ms ks rs:List AV):ZaT A tab B2 9 [] 25 (ZIw ms ks rs) []=
 some (tr [3,3,3,4] [Nat.ble (A.lenA rs) 4294967296,Nat.ble (A.lenA ks) 4294967296,decide (List.length ms≤1000000)],
  AV.agg (Row.gen [.list (Row.big .str ms), .list (Row.big (.agg [.str, .int .i64]) ks), .list (Row.big (.agg [.str, .int .i64, .int .i64, .int .i64, .int .i64]) rs)]),none):=by kernel_rfl
def ZAR(l:List AV):AFrame:={ fn:=26,N:=6,env:=[(0,AV.list (Row.big (.agg [.int .i64, .int .i64, .int .i64]) l))],todo:=[.code a26.code],defs:=[],rnd:=none,ret:=false,res:=[ARes.tmp 2] }
def ZHv(l:List AV):List AFrame:=[(ZAR l)]
theorem ZuD(l:List AV):Zaq tab 26 [AV.list (Row.big (.agg [.int .i64, .int .i64, .int .i64]) l)]=some (ZAR l):=rfl
theorem ZDG(A:Ar)(l:List AV):ZaT A tab B2 12 [] 26 (ZHv l) []=
 some (tr [2,3] [Nat.ble (A.lenA l) 4294967296],
  AV.list (Row.big (.agg [.int .i64, .int .i64, .int .i64]) l),none):=by kernel_rfl
end Go.Proofs.YtkeoeooghhjibaaGreatDoor
/- Contracts as a list. No condition. -/
namespace Go.Proofs.YtkeoeooghhjibaaGreatDoor
def Zal(xs:List AV)(i:Int)(j:Nat):Int:=((xs.getD i.toNat .top).cellAt j).toI
def Zcx(ks:List AV)(i k:Int):Int:=Zaa (Zhp (Zal ks i 1) k) 6
def ZbJ(rs:List AV)(i n m:Int):Int:=Zai [Zaa (Zab (Zal rs i 1) 0 (n-1)&&Zhp (Zal rs i 2) m&&Zhp (Zal rs i 3) n) 6,Zaa (Zab (Zal rs i 4) 1 1000000) 2,Zaa (decide (Zal rs i 3≠ -1∨Zal rs i 4=1)) 3]
theorem ZnR(ms ks rs:List AV)(i k:Int)(h:(0≤i∧i<ks.length)∧ -1000000≤k∧k≤1000000):Zan Tryz.prog 163 [.int .i64 i, .eptr (.fn 158 []) 0, .eptr (.agg (.gen [.list (.big .str ms), .list (.big (.agg [.str, .int .i64]) ks), .list (.big (.agg [.str, .int .i64, .int .i64, .int .i64, .int .i64]) rs)])) 0, .eptr (.int .i64 k) 0] (.int .i64 (Zcx ks i k)) none:=
 start (ZqM ms ks rs i k) fun C hC=>fin hC Zhq (ZxL std ms ks rs i k) (by simp;omega) rfl rfl
theorem Zpg(ms ks rs:List AV)(i n m:Int)(h:(0≤i∧i<rs.length)∧(-1000000≤n∧n≤1000000)∧ -1000000≤m∧m≤1000000):Zan Tryz.prog 165 [.int .i64 i, .eptr (.agg (.gen [.list (.big .str ms), .list (.big (.agg [.str, .int .i64]) ks), .list (.big (.agg [.str, .int .i64, .int .i64, .int .i64, .int .i64]) rs)])) 0, .eptr (.int .i64 n) 0, .eptr (.fn 158 []) 0, .eptr (.int .i64 m) 0] (.int .i64 (ZbJ rs i n m)) none:=
 start (Zqg ms ks rs i n m) fun C hC=>by
  have hb:∀x y z:Int,([AV.int .i64 x,AV.int .i64 y,AV.int .i64 z].all fun x=>AV.bx x&&Nat.beq (Zah std x) 1)=true:=fun _ _ _=>rfl
  have e1:((rs.getD i.toNat .top).cellAt 1).toI=Zal rs i 1:=rfl
  have e2:((rs.getD i.toNat .top).cellAt 2).toI=Zal rs i 2:=rfl
  have e3:((rs.getD i.toNat .top).cellAt 3).toI=Zal rs i 3:=rfl
  have e4:((rs.getD i.toNat .top).cellAt 4).toI=Zal rs i 4:=rfl
  have hi:i.toNat<rs.length:=by omega
  by_cases h1:Zab (Zal rs i 1) 0 (n-1)=true
  ·by_cases h2:Zhp (Zal rs i 2) m=true
   ·by_cases h3:Zal rs i 3= -1
    ·exact fin hC Zhq (ZAl std ms ks rs i n m) (by simp only[hb];simp[-List.getD_eq_getElem?_getD,e1,e2,e3,e4,h1,h2,h3];omega) (by simp[-List.getD_eq_getElem?_getD,ZbJ,e1,e2,e3,e4,h1,h2,h3]) rfl
    ·exact fin hC Zhq (ZBC std ms ks rs i n m) (by simp only[hb];simp[-List.getD_eq_getElem?_getD,e1,e2,e3,e4,h1,h2,h3];omega) (by simp[-List.getD_eq_getElem?_getD,ZbJ,e1,e2,e3,e4,h1,h2,h3,Zaa]) rfl
   ·by_cases h3:Zal rs i 3= -1
    ·exact fin hC Zhq (Zx2 std ms ks rs i n m) (by simp only[hb];simp[-List.getD_eq_getElem?_getD,e1,e2,e3,e4,h1,h2,h3];omega) (by simp[-List.getD_eq_getElem?_getD,ZbJ,e1,e2,e3,e4,h1,h2,h3,Zaa]) rfl
    ·exact fin hC Zhq (ZBh std ms ks rs i n m) (by simp only[hb];simp[-List.getD_eq_getElem?_getD,e1,e2,e3,e4,h1,h2,h3];omega) (by simp[-List.getD_eq_getElem?_getD,ZbJ,e1,e2,e3,e4,h1,h2,h3,Zaa]) rfl
  ·by_cases h3:Zal rs i 3= -1
   ·exact fin hC Zhq (Zya std ms ks rs i n m) (by simp only[hb];simp[-List.getD_eq_getElem?_getD,e1,e2,e3,e4,h1,h3];omega) (by simp[-List.getD_eq_getElem?_getD,ZbJ,e1,e2,e3,e4,h1,h3,Zaa]) rfl
   ·exact fin hC Zhq (Zxc std ms ks rs i n m) (by simp only[hb];simp[-List.getD_eq_getElem?_getD,e1,e2,e3,e4,h1,h3];omega) (by simp[-List.getD_eq_getElem?_getD,ZbJ,e1,e2,e3,e4,h1,h3,Zaa]) rfl
theorem Zqp(ms ks rs:List AV)(h:ms.length≤1000000∧ks.length≤1000000∧rs.length≤1000000):Zan Tryz.prog 25 [.agg (.gen [.list (.big .str ms), .list (.big (.agg [.str, .int .i64]) ks), .list (.big (.agg [.str, .int .i64, .int .i64, .int .i64, .int .i64]) rs)])] (.agg (.gen [.list (.big .str ms), .list (.big (.agg [.str, .int .i64]) ks), .list (.big (.agg [.str, .int .i64, .int .i64, .int .i64, .int .i64]) rs)])) none:=
 start (Zwx ms ks rs) fun C hC=>fin hC Zhq (ZC5 std ms ks rs) (by simp;omega) rfl rfl
theorem ZpG(l:List AV)(h:l.length≤1000000):Zan Tryz.prog 26 [.list (.big (.agg [.int .i64, .int .i64, .int .i64]) l)] (.list (.big (.agg [.int .i64, .int .i64, .int .i64]) l)) none:=
 start (ZuD l) fun C hC=>fin hC Zhq (ZDG std l) (by simp;omega) rfl rfl
def k163:Ctr:=⟨163,0,fun _ a=>match a with |[.int .i64 i, .eptr (.fn 158 []) 0, .eptr (.agg (.gen [.list (.big .str ms), .list (.big (.agg [.str, .int .i64]) ks), .list (.big (.agg [.str, .int .i64, .int .i64, .int .i64, .int .i64]) rs)])) 0, .eptr (.int .i64 k) 0]=>some (decide ((0≤i∧i<ks.length)∧ -1000000≤k∧k≤1000000), .int .i64 (Zcx ks i k),none) |_=>none⟩
theorem Zvs:k163.OK Tryz.prog:=fun pa args r fr h=>by
 simp only[k163]at h
 split at h
 ·simp only[Option.some.injEq,Prod.mk.injEq,decide_eq_true_eq]at h
  obtain⟨h0,rfl,rfl⟩:=h
  exact ZnR _ _ _ _ _ h0
 ·cases h
def k165:Ctr:=⟨165,0,fun _ a=>match a with |[.int .i64 i, .eptr (.agg (.gen [.list (.big .str ms), .list (.big (.agg [.str, .int .i64]) ks), .list (.big (.agg [.str, .int .i64, .int .i64, .int .i64, .int .i64]) rs)])) 0, .eptr (.int .i64 n) 0, .eptr (.fn 158 []) 0, .eptr (.int .i64 m) 0]=>some (decide ((0≤i∧i<rs.length)∧(-1000000≤n∧n≤1000000)∧ -1000000≤m∧m≤1000000), .int .i64 (ZbJ rs i n m),none) |_=>none⟩
theorem Zth:k165.OK Tryz.prog:=fun pa args r fr h=>by
 simp only[k165]at h
 split at h
 ·simp only[Option.some.injEq,Prod.mk.injEq,decide_eq_true_eq]at h
  obtain⟨h0,rfl,rfl⟩:=h
  exact Zpg _ _ _ _ _ _ h0
 ·cases h
def k25:Ctr:=⟨25,0,fun _ a=>match a with |[.agg (.gen [.list (.big .str ms), .list (.big (.agg [.str, .int .i64]) ks), .list (.big (.agg [.str, .int .i64, .int .i64, .int .i64, .int .i64]) rs)])]=>some (decide (ms.length≤1000000∧ks.length≤1000000∧rs.length≤1000000), .agg (.gen [.list (.big .str ms), .list (.big (.agg [.str, .int .i64]) ks), .list (.big (.agg [.str, .int .i64, .int .i64, .int .i64, .int .i64]) rs)]),none) |_=>none⟩
theorem Zxd:k25.OK Tryz.prog:=fun pa args r fr h=>by
 simp only[k25]at h
 split at h
 ·simp only[Option.some.injEq,Prod.mk.injEq,decide_eq_true_eq]at h
  obtain⟨h0,rfl,rfl⟩:=h
  exact Zqp _ _ _ h0
 ·cases h
def k26:Ctr:=⟨26,0,fun _ a=>match a with |[.list (.big (.agg [.int .i64, .int .i64, .int .i64]) l)]=>some (decide (l.length≤1000000), .list (.big (.agg [.int .i64, .int .i64, .int .i64]) l),none) |_=>none⟩
theorem Zyk:k26.OK Tryz.prog:=fun pa args r fr h=>by
 simp only[k26]at h
 split at h
 ·simp only[Option.some.injEq,Prod.mk.injEq,decide_eq_true_eq]at h
  obtain⟨h0,rfl,rfl⟩:=h
  exact ZpG _ h0
 ·cases h
def B3:List Ctr:=[k163,k165,k25,k26]++B2
theorem Za2:ZaI Tryz.prog B3:=⟨Zvs,⟨Zth,⟨Zxd,⟨Zyk,Zhq⟩⟩⟩⟩
end Go.Proofs.YtkeoeooghhjibaaGreatDoor
