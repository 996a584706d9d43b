/- Paths of functions, printed by the explorer (Gx). No condition. -/
import Derived.Test.YtjhdnpmojhkbjaaM5
import Derived.KernelRfl
namespace Go.Proofs.Ytjhdnpmojhkbjaa
set_option maxRecDepth 100000
set_option linter.unusedVariables false
def ZvF(xs:List AV)(a:Int)(m:Int)(b:Int):AFrame:={ fn:=140,N:=220,env:=[(0,AV.row 0 0),(1,AV.int .i64 a),(2,AV.int .i64 m),(3,AV.int .i64 b),(4,AV.fn 119 [])],todo:=[.code a140.code],defs:=[],rnd:=none,ret:=false,res:=[] }
def Zth(xs:List AV)(a:Int)(m:Int)(b:Int):List AFrame:=[(ZvF xs a m b)]
theorem Ztt(xs:List AV)(a:Int)(m:Int)(b:Int):Zak tab 140 [AV.row 0 0,AV.int .i64 a,AV.int .i64 m,AV.int .i64 b,AV.fn 119 []]=some (ZvF xs a m b):=rfl
def ZnF(xs:List AV)(a:Int)(m:Int)(b:Int):Zaa:=[(0,{ base:=0,blks:=[Blk.row 140 5 (Row.big (Sh.agg [Sh.int .i64,Sh.int .i64,Sh.int .i64,Sh.ints .i64,Sh.int .i64]) xs)] })]
def Zb5(xs:List AV)(a n0 n1:Int):List AFrame:=[{ fn:=140,N:=220,env:=[(0,AV.row 0 0),(1,AV.int .i64 a),(4,AV.fn 119 []),(10,AV.int .i64 n0),(11,AV.int .i64 n1)],todo:=.code (ACode.gh [] ZwH)::ZFf,defs:=[],rnd:=none,ret:=false,res:=[] }]
def ZbS(xs:List AV)(a:Int)(n0:Int)(n1:Int):Zaa:=[(0,{ base:=0,blks:=[Blk.row 140 5 (Row.big (Sh.agg [Sh.int .i64,Sh.int .i64,Sh.int .i64,Sh.ints .i64,Sh.int .i64]) xs)] })]
abbrev ZeH(xs:List AV)(a:Int)(n0:Int)(n1:Int):List AFrame×Zaa:=(Zb5 xs a n0 n1,ZbS xs a n0 n1)
def Zb8(xs:List AV)(m n2 n3:Int):List AFrame:=[{ fn:=140,N:=220,env:=[(0,AV.row 0 0),(2,AV.int .i64 m),(4,AV.fn 119 []),(14,AV.int .i64 n2),(15,AV.int .i64 n3)],todo:=.code (ACode.gh [] Zu4)::ZF4,defs:=[],rnd:=none,ret:=false,res:=[] }]
def ZbL(xs:List AV)(m:Int)(n2:Int)(n3:Int):Zaa:=[(0,{ base:=0,blks:=[Blk.row 140 5 (Row.big (Sh.agg [Sh.int .i64,Sh.int .i64,Sh.int .i64,Sh.ints .i64,Sh.int .i64]) xs)] })]
abbrev ZeM(xs:List AV)(m:Int)(n2:Int)(n3:Int):List AFrame×Zaa:=(Zb8 xs m n2 n3,ZbL xs m n2 n3)
def Zai(xs:List AV)(a m b n4 n5 n6 n7 n8:Int):List AFrame:=[{ fn:=140,N:=220,env:=[(0,AV.row 0 0),(1,AV.int .i64 a),(2,AV.int .i64 m),(3,AV.int .i64 b),(4,AV.fn 119 []),(18,AV.int .i64 n4),(19,AV.int .i64 n5),(20,AV.int .i64 n6),(21,AV.int .i64 n7),(22,AV.int .i64 n8)],todo:=.code (ACode.gh [] Zxc)::ZJm,defs:=[],rnd:=none,ret:=false,res:=[] }]
def Zaf(xs:List AV)(a:Int)(m:Int)(b:Int)(n4:Int)(n5:Int)(n6:Int)(n7:Int)(n8:Int):Zaa:=[(0,{ base:=0,blks:=[Blk.row 140 5 (Row.big (Sh.agg [Sh.int .i64,Sh.int .i64,Sh.int .i64,Sh.ints .i64,Sh.int .i64]) xs)] })]
abbrev Zdn(xs:List AV)(a:Int)(m:Int)(b:Int)(n4:Int)(n5:Int)(n6:Int)(n7:Int)(n8:Int):List AFrame×Zaa:=(Zai xs a m b n4 n5 n6 n7 n8,Zaf xs a m b n4 n5 n6 n7 n8)
def Zc7(n0 n9:Int)(x10:List AV):List AFrame:=[{ fn:=140,N:=220,env:=[(0,AV.row 0 0),(10,AV.int .i64 n0),(13,AV.int .i64 n9)],todo:=.code (ACode.gh [] ZwP)::ZFH,defs:=[],rnd:=none,ret:=false,res:=[] }]
def Zcq(n0:Int)(n9:Int)(x10:List AV):Zaa:=[(0,{ base:=0,blks:=[Blk.row 140 5 (Row.big (Sh.agg [Sh.int .i64,Sh.int .i64,Sh.int .i64,Sh.ints .i64,Sh.int .i64]) x10)] })]
abbrev Zg0(n0:Int)(n9:Int)(x10:List AV):List AFrame×Zaa:=(Zc7 n0 n9 x10,Zcq n0 n9 x10)
def Zc1(n2 n11:Int)(x12:List AV):List AFrame:=[{ fn:=140,N:=220,env:=[(0,AV.row 0 0),(14,AV.int .i64 n2),(17,AV.int .i64 n11)],todo:=.code (ACode.gh [] ZvE)::ZJv,defs:=[],rnd:=none,ret:=false,res:=[] }]
def Zcv(n2:Int)(n11:Int)(x12:List AV):Zaa:=[(0,{ base:=0,blks:=[Blk.row 140 5 (Row.big (Sh.agg [Sh.int .i64,Sh.int .i64,Sh.int .i64,Sh.ints .i64,Sh.int .i64]) x12)] })]
abbrev Zg9(n2:Int)(n11:Int)(x12:List AV):List AFrame×Zaa:=(Zc1 n2 n11 x12,Zcv n2 n11 x12)
theorem ZCo(A:Ar)(N:Nat)(xs:List AV)(a m b:Int):Zad A tab (BO5 N) 23 [true] (Zth xs a m b) (ZnF xs a m b)=
 some (tr [4,1,2] [A.eq (A.sub m a) 1,A.inR .i64 (A.sub m a)],
  ZeH (xs) (a) (m) (b)):=by kernel_rfl
theorem ZFn(A:Ar)(N:Nat)(xs:List AV)(a m b:Int):Zad A tab (BO5 N) 33 [false,true] (Zth xs a m b) (ZnF xs a m b)=
 some (tr [4,1,2,1,2] [A.eq (A.sub b m) 1,A.inR .i64 (A.sub b m),!A.eq (A.sub m a) 1,A.inR .i64 (A.sub m a)],
  ZeM (xs) (m) (a) (m)):=by kernel_rfl
theorem ZC0(A:Ar)(N:Nat)(xs:List AV)(a m b:Int):Zad A tab (BO5 N) 72 [false,false,true] (Zth xs a m b) (ZnF xs a m b)=
 some (tr [1,4,2,6,3,0,0,0,2,1,2,1,2] [A.inR .i64 (A.sub (A.add (A.shr (A.add a b) 1) m) 1),A.inR .i64 (A.sub (A.add (A.shr (A.add a b) 1) m) b),A.lt (A.shr (A.add a b) 1) m,A.inR .i64 (A.add (A.shr (A.add a b) 1) m),A.inR .i64 (A.shr (A.add a b) 1),Zab (A.le 0 1) (Nat.blt (A.nat 1) 64),A.inR .u64 (A.add a b),A.inR .i64 (A.add a b),!A.eq (A.sub b m) 1,A.inR .i64 (A.sub b m),!A.eq (A.sub m a) 1,A.inR .i64 (A.sub m a)],
  Zdn (xs) (a) (m) (b) (A.shr (A.add a b) 1) (A.add (A.shr (A.add a b) 1) m) (A.sub (A.add (A.shr (A.add a b) 1) m) b) (A.shr (A.add a b) 1) (A.sub (A.add (A.shr (A.add a b) 1) m) 1)):=by kernel_rfl
theorem ZEX(A:Ar)(N:Nat)(xs:List AV)(a m b:Int):Zad A tab (BO5 N) 70 [false,false,false] (Zth xs a m b) (ZnF xs a m b)=
 some (tr [1,5,6,3,0,0,0,2,1,2,1,2] [A.inR .i64 (A.sub (A.add (A.shr (A.add a b) 1) m) 1),!A.lt (A.shr (A.add a b) 1) m,A.inR .i64 (A.add (A.shr (A.add a b) 1) m),A.inR .i64 (A.shr (A.add a b) 1),Zab (A.le 0 1) (Nat.blt (A.nat 1) 64),A.inR .u64 (A.add a b),A.inR .i64 (A.add a b),!A.eq (A.sub b m) 1,A.inR .i64 (A.sub b m),!A.eq (A.sub m a) 1,A.inR .i64 (A.sub m a)],
  Zdn (xs) (a) (m) (b) (A.shr (A.add a b) 1) (A.add (A.shr (A.add a b) 1) m) (a) (m) (A.sub (A.add (A.shr (A.add a b) 1) m) 1)):=by kernel_rfl
theorem ZDR(A:Ar)(N:Nat)(xs:List AV)(a n0 n1:Int):Zad A tab (BO5 N) 34 [true,true] (Zb5 xs a n0 n1) (ZbS xs a n0 n1)=
 some (tr [1,1,2,0,2,0,4,0,0,0,2,3] [A.inR .i64 (A.add (A.shr (A.add n0 n1) 1) 1),A.lt (ZhN ((A.nthA xs (A.nat (A.shr (A.add n0 n1) 1))).cellAt 4).toI ((A.nthA xs (A.nat a)).cellAt 4).toI) 0,Zab (Nat.blt (A.nat a) (A.lenA xs)) true,Zab (A.le 0 a) (Nat.blt (A.nat a) (A.lenA xs)),Zab (Nat.blt (A.nat (A.shr (A.add n0 n1) 1)) (A.lenA xs)) true,Zab (A.le 0 (A.shr (A.add n0 n1) 1)) (Nat.blt (A.nat (A.shr (A.add n0 n1) 1)) (A.lenA xs)),A.inR .i64 (A.shr (A.add n0 n1) 1),Zab (A.le 0 1) (Nat.blt (A.nat 1) 64),A.inR .u64 (A.add n0 n1),A.inR .i64 (A.add n0 n1),A.lt n0 n1],
  ZeH (xs) (a) (A.add (A.shr (A.add n0 n1) 1) 1) (n1)):=by kernel_rfl
theorem ZEb(A:Ar)(N:Nat)(xs:List AV)(a n0 n1:Int):Zad A tab (BO5 N) 33 [true,false] (Zb5 xs a n0 n1) (ZbS xs a n0 n1)=
 some (tr [2,2,0,2,0,4,0,0,0,2,3] [!A.lt (ZhN ((A.nthA xs (A.nat (A.shr (A.add n0 n1) 1))).cellAt 4).toI ((A.nthA xs (A.nat a)).cellAt 4).toI) 0,Zab (Nat.blt (A.nat a) (A.lenA xs)) true,Zab (A.le 0 a) (Nat.blt (A.nat a) (A.lenA xs)),Zab (Nat.blt (A.nat (A.shr (A.add n0 n1) 1)) (A.lenA xs)) true,Zab (A.le 0 (A.shr (A.add n0 n1) 1)) (Nat.blt (A.nat (A.shr (A.add n0 n1) 1)) (A.lenA xs)),A.inR .i64 (A.shr (A.add n0 n1) 1),Zab (A.le 0 1) (Nat.blt (A.nat 1) 64),A.inR .u64 (A.add n0 n1),A.inR .i64 (A.add n0 n1),A.lt n0 n1],
  ZeH (xs) (a) (n0) (A.shr (A.add n0 n1) 1)):=by kernel_rfl
theorem ZCx(A:Ar)(N:Nat)(xs:List AV)(a n0 n1:Int):Zad A tab (BO5 N) 19 [false] (Zb5 xs a n0 n1) (ZbS xs a n0 n1)=
 some (tr [2,3] [!A.lt n0 n1],
  Zg0 (n0) (a) (xs)):=by kernel_rfl
theorem ZIP(A:Ar)(N:Nat)(xs:List AV)(m n2 n3:Int):Zad A tab (BO5 N) 34 [true,true] (Zb8 xs m n2 n3) (ZbL xs m n2 n3)=
 some (tr [1,1,3,0,2,0,4,0,0,0,2,3] [A.inR .i64 (A.add (A.shr (A.add n2 n3) 1) 1),A.not (A.lt (ZhN ((A.nthA xs (A.nat m)).cellAt 4).toI ((A.nthA xs (A.nat (A.shr (A.add n2 n3) 1))).cellAt 4).toI) 0),Zab (Nat.blt (A.nat (A.shr (A.add n2 n3) 1)) (A.lenA xs)) true,Zab (A.le 0 (A.shr (A.add n2 n3) 1)) (Nat.blt (A.nat (A.shr (A.add n2 n3) 1)) (A.lenA xs)),Zab (Nat.blt (A.nat m) (A.lenA xs)) true,Zab (A.le 0 m) (Nat.blt (A.nat m) (A.lenA xs)),A.inR .i64 (A.shr (A.add n2 n3) 1),Zab (A.le 0 1) (Nat.blt (A.nat 1) 64),A.inR .u64 (A.add n2 n3),A.inR .i64 (A.add n2 n3),A.lt n2 n3],
  ZeM (xs) (m) (A.add (A.shr (A.add n2 n3) 1) 1) (n3)):=by kernel_rfl
theorem ZHP(A:Ar)(N:Nat)(xs:List AV)(m n2 n3:Int):Zad A tab (BO5 N) 33 [true,false] (Zb8 xs m n2 n3) (ZbL xs m n2 n3)=
 some (tr [2,3,0,2,0,4,0,0,0,2,3] [!A.not (A.lt (ZhN ((A.nthA xs (A.nat m)).cellAt 4).toI ((A.nthA xs (A.nat (A.shr (A.add n2 n3) 1))).cellAt 4).toI) 0),Zab (Nat.blt (A.nat (A.shr (A.add n2 n3) 1)) (A.lenA xs)) true,Zab (A.le 0 (A.shr (A.add n2 n3) 1)) (Nat.blt (A.nat (A.shr (A.add n2 n3) 1)) (A.lenA xs)),Zab (Nat.blt (A.nat m) (A.lenA xs)) true,Zab (A.le 0 m) (Nat.blt (A.nat m) (A.lenA xs)),A.inR .i64 (A.shr (A.add n2 n3) 1),Zab (A.le 0 1) (Nat.blt (A.nat 1) 64),A.inR .u64 (A.add n2 n3),A.inR .i64 (A.add n2 n3),A.lt n2 n3],
  ZeM (xs) (m) (n2) (A.shr (A.add n2 n3) 1)):=by kernel_rfl
theorem ZEV(A:Ar)(N:Nat)(xs:List AV)(m n2 n3:Int):Zad A tab (BO5 N) 19 [false] (Zb8 xs m n2 n3) (ZbL xs m n2 n3)=
 some (tr [2,3] [!A.lt n2 n3],
  Zg9 (n2) (m) (xs)):=by kernel_rfl
theorem ZyP(A:Ar)(N:Nat)(xs:List AV)(a m b n4 n5 n6 n7 n8:Int):Zad A tab (BO5 N) 34 [true,true] (Zai xs a m b n4 n5 n6 n7 n8) (Zaf xs a m b n4 n5 n6 n7 n8)=
 some (tr [1,1,3,0,2,0,0,5,0,0,0,2,3] [A.inR .i64 (A.add (A.shr (A.add n6 n7) 1) 1),A.not (A.lt (ZhN ((A.nthA xs (A.nat (A.sub n8 (A.shr (A.add n6 n7) 1)))).cellAt 4).toI ((A.nthA xs (A.nat (A.shr (A.add n6 n7) 1))).cellAt 4).toI) 0),Zab (Nat.blt (A.nat (A.shr (A.add n6 n7) 1)) (A.lenA xs)) true,Zab (A.le 0 (A.shr (A.add n6 n7) 1)) (Nat.blt (A.nat (A.shr (A.add n6 n7) 1)) (A.lenA xs)),Zab (Nat.blt (A.nat (A.sub n8 (A.shr (A.add n6 n7) 1))) (A.lenA xs)) true,Zab (A.le 0 (A.sub n8 (A.shr (A.add n6 n7) 1))) (Nat.blt (A.nat (A.sub n8 (A.shr (A.add n6 n7) 1))) (A.lenA xs)),A.inR .i64 (A.sub n8 (A.shr (A.add n6 n7) 1)),A.inR .i64 (A.shr (A.add n6 n7) 1),Zab (A.le 0 1) (Nat.blt (A.nat 1) 64),A.inR .u64 (A.add n6 n7),A.inR .i64 (A.add n6 n7),A.lt n6 n7],
  Zdn (xs) (a) (m) (b) (n4) (n5) (A.add (A.shr (A.add n6 n7) 1) 1) (n7) (n8)):=by kernel_rfl
theorem ZyE(A:Ar)(N:Nat)(xs:List AV)(a m b n4 n5 n6 n7 n8:Int):Zad A tab (BO5 N) 33 [true,false] (Zai xs a m b n4 n5 n6 n7 n8) (Zaf xs a m b n4 n5 n6 n7 n8)=
 some (tr [2,3,0,2,0,0,5,0,0,0,2,3] [!A.not (A.lt (ZhN ((A.nthA xs (A.nat (A.sub n8 (A.shr (A.add n6 n7) 1)))).cellAt 4).toI ((A.nthA xs (A.nat (A.shr (A.add n6 n7) 1))).cellAt 4).toI) 0),Zab (Nat.blt (A.nat (A.shr (A.add n6 n7) 1)) (A.lenA xs)) true,Zab (A.le 0 (A.shr (A.add n6 n7) 1)) (Nat.blt (A.nat (A.shr (A.add n6 n7) 1)) (A.lenA xs)),Zab (Nat.blt (A.nat (A.sub n8 (A.shr (A.add n6 n7) 1))) (A.lenA xs)) true,Zab (A.le 0 (A.sub n8 (A.shr (A.add n6 n7) 1))) (Nat.blt (A.nat (A.sub n8 (A.shr (A.add n6 n7) 1))) (A.lenA xs)),A.inR .i64 (A.sub n8 (A.shr (A.add n6 n7) 1)),A.inR .i64 (A.shr (A.add n6 n7) 1),Zab (A.le 0 1) (Nat.blt (A.nat 1) 64),A.inR .u64 (A.add n6 n7),A.inR .i64 (A.add n6 n7),A.lt n6 n7],
  Zdn (xs) (a) (m) (b) (n4) (n5) (n6) (A.shr (A.add n6 n7) 1) (n8)):=by kernel_rfl
theorem ZxO(A:Ar)(N:Nat)(xs:List AV)(a m b n4 n5 n6 n7 n8:Int):ZaY A tab (BO5 N) 83 [false,true,true,true,true,true,true,true,true,true,true,true,true,true,true,true] 140 (Zai xs a m b n4 n5 n6 n7 n8) (Zaf xs a m b n4 n5 n6 n7 n8)=
 some (tr [1,5,7,4,5,7,4,5,7,5,2,3] [Zab (decide (smB N (Zbr (Int.toNat a) (Int.toNat n4) (ZiM (Int.toNat n6) (Int.toNat m) (Int.toNat (A.sub n5 n6)) xs)) n4 (A.sub n5 n6) b=true)) true,A.lt (A.sub n5 n6) b,A.lt n4 (A.sub n5 n6),Zab (decide (smB N (ZiM (Int.toNat n6) (Int.toNat m) (Int.toNat (A.sub n5 n6)) xs) a n6 n4=true)) true,A.lt n6 n4,A.lt a n6,Zab (decide (ZnL xs n6 m (A.sub n5 n6)=true)) true,A.lt m (A.sub n5 n6),A.lt n6 m,A.inR .i64 (A.sub n5 n6),!A.lt n6 n7],
  AV.tup [],140,5,Row.big (.agg [.int .i64, .int .i64, .int .i64, .ints .i64, .int .i64]) (Zbr (Int.toNat n4) (Int.toNat b) (Zbr (Int.toNat a) (Int.toNat n4) (ZiM (Int.toNat n6) (Int.toNat m) (Int.toNat (A.sub n5 n6)) xs)))):=by kernel_rfl
theorem ZzF(A:Ar)(N:Nat)(xs:List AV)(a m b n4 n5 n6 n7 n8:Int):ZaY A tab (BO5 N) 76 [false,true,true,true,true,true,true,true,true,true,true,true,true,true,true,false] 140 (Zai xs a m b n4 n5 n6 n7 n8) (Zaf xs a m b n4 n5 n6 n7 n8)=
 some (tr [1,7,4,5,7,4,5,7,5,2,3] [!A.lt (A.sub n5 n6) b,A.lt n4 (A.sub n5 n6),Zab (decide (smB N (ZiM (Int.toNat n6) (Int.toNat m) (Int.toNat (A.sub n5 n6)) xs) a n6 n4=true)) true,A.lt n6 n4,A.lt a n6,Zab (decide (ZnL xs n6 m (A.sub n5 n6)=true)) true,A.lt m (A.sub n5 n6),A.lt n6 m,A.inR .i64 (A.sub n5 n6),!A.lt n6 n7],
  AV.tup [],140,5,Row.big (.agg [.int .i64, .int .i64, .int .i64, .ints .i64, .int .i64]) (Zbr (Int.toNat a) (Int.toNat n4) (ZiM (Int.toNat n6) (Int.toNat m) (Int.toNat (A.sub n5 n6)) xs))):=by kernel_rfl
theorem ZBm(A:Ar)(N:Nat)(xs:List AV)(a m b n4 n5 n6 n7 n8:Int):ZaY A tab (BO5 N) 76 [false,true,true,true,true,true,true,true,true,true,true,false,false,false,false,false] 140 (Zai xs a m b n4 n5 n6 n7 n8) (Zaf xs a m b n4 n5 n6 n7 n8)=
 some (tr [9,4,5,7,4,5,7,5,2,3] [!A.lt n4 (A.sub n5 n6),Zab (decide (smB N (ZiM (Int.toNat n6) (Int.toNat m) (Int.toNat (A.sub n5 n6)) xs) a n6 n4=true)) true,A.lt n6 n4,A.lt a n6,Zab (decide (ZnL xs n6 m (A.sub n5 n6)=true)) true,A.lt m (A.sub n5 n6),A.lt n6 m,A.inR .i64 (A.sub n5 n6),!A.lt n6 n7],
  AV.tup [],140,5,Row.big (.agg [.int .i64, .int .i64, .int .i64, .ints .i64, .int .i64]) (Zbr (Int.toNat a) (Int.toNat n4) (ZiM (Int.toNat n6) (Int.toNat m) (Int.toNat (A.sub n5 n6)) xs))):=by kernel_rfl
theorem ZzN(A:Ar)(N:Nat)(xs:List AV)(a m b n4 n5 n6 n7 n8:Int):ZaY A tab (BO5 N) 76 [false,true,true,true,true,true,true,true,true,true,false,true,true,true,true,true] 140 (Zai xs a m b n4 n5 n6 n7 n8) (Zaf xs a m b n4 n5 n6 n7 n8)=
 some (tr [1,5,7,4,7,4,5,7,5,2,3] [Zab (decide (smB N (ZiM (Int.toNat n6) (Int.toNat m) (Int.toNat (A.sub n5 n6)) xs) n4 (A.sub n5 n6) b=true)) true,A.lt (A.sub n5 n6) b,A.lt n4 (A.sub n5 n6),!A.lt n6 n4,A.lt a n6,Zab (decide (ZnL xs n6 m (A.sub n5 n6)=true)) true,A.lt m (A.sub n5 n6),A.lt n6 m,A.inR .i64 (A.sub n5 n6),!A.lt n6 n7],
  AV.tup [],140,5,Row.big (.agg [.int .i64, .int .i64, .int .i64, .ints .i64, .int .i64]) (Zbr (Int.toNat n4) (Int.toNat b) (ZiM (Int.toNat n6) (Int.toNat m) (Int.toNat (A.sub n5 n6)) xs))):=by kernel_rfl
theorem Zxm(A:Ar)(N:Nat)(xs:List AV)(a m b n4 n5 n6 n7 n8:Int):ZaY A tab (BO5 N) 69 [false,true,true,true,true,true,true,true,true,true,false,true,true,true,true,false] 140 (Zai xs a m b n4 n5 n6 n7 n8) (Zaf xs a m b n4 n5 n6 n7 n8)=
 some (tr [1,7,4,7,4,5,7,5,2,3] [!A.lt (A.sub n5 n6) b,A.lt n4 (A.sub n5 n6),!A.lt n6 n4,A.lt a n6,Zab (decide (ZnL xs n6 m (A.sub n5 n6)=true)) true,A.lt m (A.sub n5 n6),A.lt n6 m,A.inR .i64 (A.sub n5 n6),!A.lt n6 n7],
  AV.tup [],140,5,Row.big (.agg [.int .i64, .int .i64, .int .i64, .ints .i64, .int .i64]) (ZiM (Int.toNat n6) (Int.toNat m) (Int.toNat (A.sub n5 n6)) xs)):=by kernel_rfl
theorem ZAU(A:Ar)(N:Nat)(xs:List AV)(a m b n4 n5 n6 n7 n8:Int):ZaY A tab (BO5 N) 69 [false,true,true,true,true,true,true,true,true,true,false,false,false,false,false,false] 140 (Zai xs a m b n4 n5 n6 n7 n8) (Zaf xs a m b n4 n5 n6 n7 n8)=
 some (tr [9,4,7,4,5,7,5,2,3] [!A.lt n4 (A.sub n5 n6),!A.lt n6 n4,A.lt a n6,Zab (decide (ZnL xs n6 m (A.sub n5 n6)=true)) true,A.lt m (A.sub n5 n6),A.lt n6 m,A.inR .i64 (A.sub n5 n6),!A.lt n6 n7],
  AV.tup [],140,5,Row.big (.agg [.int .i64, .int .i64, .int .i64, .ints .i64, .int .i64]) (ZiM (Int.toNat n6) (Int.toNat m) (Int.toNat (A.sub n5 n6)) xs)):=by kernel_rfl
theorem Zxi(A:Ar)(N:Nat)(xs:List AV)(a m b n4 n5 n6 n7 n8:Int):ZaY A tab (BO5 N) 76 [false,true,true,true,true,true,false,false,false,false,false,true,true,true,true,true] 140 (Zai xs a m b n4 n5 n6 n7 n8) (Zaf xs a m b n4 n5 n6 n7 n8)=
 some (tr [1,5,7,12,4,5,7,5,2,3] [Zab (decide (smB N (ZiM (Int.toNat n6) (Int.toNat m) (Int.toNat (A.sub n5 n6)) xs) n4 (A.sub n5 n6) b=true)) true,A.lt (A.sub n5 n6) b,A.lt n4 (A.sub n5 n6),!A.lt a n6,Zab (decide (ZnL xs n6 m (A.sub n5 n6)=true)) true,A.lt m (A.sub n5 n6),A.lt n6 m,A.inR .i64 (A.sub n5 n6),!A.lt n6 n7],
  AV.tup [],140,5,Row.big (.agg [.int .i64, .int .i64, .int .i64, .ints .i64, .int .i64]) (Zbr (Int.toNat n4) (Int.toNat b) (ZiM (Int.toNat n6) (Int.toNat m) (Int.toNat (A.sub n5 n6)) xs))):=by kernel_rfl
theorem ZzB(A:Ar)(N:Nat)(xs:List AV)(a m b n4 n5 n6 n7 n8:Int):ZaY A tab (BO5 N) 69 [false,true,true,true,true,true,false,false,false,false,false,true,true,true,true,false] 140 (Zai xs a m b n4 n5 n6 n7 n8) (Zaf xs a m b n4 n5 n6 n7 n8)=
 some (tr [1,7,12,4,5,7,5,2,3] [!A.lt (A.sub n5 n6) b,A.lt n4 (A.sub n5 n6),!A.lt a n6,Zab (decide (ZnL xs n6 m (A.sub n5 n6)=true)) true,A.lt m (A.sub n5 n6),A.lt n6 m,A.inR .i64 (A.sub n5 n6),!A.lt n6 n7],
  AV.tup [],140,5,Row.big (.agg [.int .i64, .int .i64, .int .i64, .ints .i64, .int .i64]) (ZiM (Int.toNat n6) (Int.toNat m) (Int.toNat (A.sub n5 n6)) xs)):=by kernel_rfl
theorem ZBQ(A:Ar)(N:Nat)(xs:List AV)(a m b n4 n5 n6 n7 n8:Int):ZaY A tab (BO5 N) 69 [false,true,true,true,true,true,false,false,false,false,false,false,false,false,false,false] 140 (Zai xs a m b n4 n5 n6 n7 n8) (Zaf xs a m b n4 n5 n6 n7 n8)=
 some (tr [9,12,4,5,7,5,2,3] [!A.lt n4 (A.sub n5 n6),!A.lt a n6,Zab (decide (ZnL xs n6 m (A.sub n5 n6)=true)) true,A.lt m (A.sub n5 n6),A.lt n6 m,A.inR .i64 (A.sub n5 n6),!A.lt n6 n7],
  AV.tup [],140,5,Row.big (.agg [.int .i64, .int .i64, .int .i64, .ints .i64, .int .i64]) (ZiM (Int.toNat n6) (Int.toNat m) (Int.toNat (A.sub n5 n6)) xs)):=by kernel_rfl
theorem Zzo(A:Ar)(N:Nat)(xs:List AV)(a m b n4 n5 n6 n7 n8:Int):ZaY A tab (BO5 N) 76 [false,true,true,true,true,false,true,true,true,true,true,true,true,true,true,true] 140 (Zai xs a m b n4 n5 n6 n7 n8) (Zaf xs a m b n4 n5 n6 n7 n8)=
 some (tr [1,5,7,4,5,7,4,7,5,2,3] [Zab (decide (smB N (Zbr (Int.toNat a) (Int.toNat n4) xs) n4 (A.sub n5 n6) b=true)) true,A.lt (A.sub n5 n6) b,A.lt n4 (A.sub n5 n6),Zab (decide (smB N xs a n6 n4=true)) true,A.lt n6 n4,A.lt a n6,!A.lt m (A.sub n5 n6),A.lt n6 m,A.inR .i64 (A.sub n5 n6),!A.lt n6 n7],
  AV.tup [],140,5,Row.big (.agg [.int .i64, .int .i64, .int .i64, .ints .i64, .int .i64]) (Zbr (Int.toNat n4) (Int.toNat b) (Zbr (Int.toNat a) (Int.toNat n4) xs))):=by kernel_rfl
theorem ZzH(A:Ar)(N:Nat)(xs:List AV)(a m b n4 n5 n6 n7 n8:Int):ZaY A tab (BO5 N) 69 [false,true,true,true,true,false,true,true,true,true,true,true,true,true,true,false] 140 (Zai xs a m b n4 n5 n6 n7 n8) (Zaf xs a m b n4 n5 n6 n7 n8)=
 some (tr [1,7,4,5,7,4,7,5,2,3] [!A.lt (A.sub n5 n6) b,A.lt n4 (A.sub n5 n6),Zab (decide (smB N xs a n6 n4=true)) true,A.lt n6 n4,A.lt a n6,!A.lt m (A.sub n5 n6),A.lt n6 m,A.inR .i64 (A.sub n5 n6),!A.lt n6 n7],
  AV.tup [],140,5,Row.big (.agg [.int .i64, .int .i64, .int .i64, .ints .i64, .int .i64]) (Zbr (Int.toNat a) (Int.toNat n4) xs)):=by kernel_rfl
theorem Zxh(A:Ar)(N:Nat)(xs:List AV)(a m b n4 n5 n6 n7 n8:Int):ZaY A tab (BO5 N) 69 [false,true,true,true,true,false,true,true,true,true,true,false,false,false,false,false] 140 (Zai xs a m b n4 n5 n6 n7 n8) (Zaf xs a m b n4 n5 n6 n7 n8)=
 some (tr [9,4,5,7,4,7,5,2,3] [!A.lt n4 (A.sub n5 n6),Zab (decide (smB N xs a n6 n4=true)) true,A.lt n6 n4,A.lt a n6,!A.lt m (A.sub n5 n6),A.lt n6 m,A.inR .i64 (A.sub n5 n6),!A.lt n6 n7],
  AV.tup [],140,5,Row.big (.agg [.int .i64, .int .i64, .int .i64, .ints .i64, .int .i64]) (Zbr (Int.toNat a) (Int.toNat n4) xs)):=by kernel_rfl
theorem ZAO(A:Ar)(N:Nat)(xs:List AV)(a m b n4 n5 n6 n7 n8:Int):ZaY A tab (BO5 N) 69 [false,true,true,true,true,false,true,true,true,true,false,true,true,true,true,true] 140 (Zai xs a m b n4 n5 n6 n7 n8) (Zaf xs a m b n4 n5 n6 n7 n8)=
 some (tr [1,5,7,4,7,4,7,5,2,3] [Zab (decide (smB N xs n4 (A.sub n5 n6) b=true)) true,A.lt (A.sub n5 n6) b,A.lt n4 (A.sub n5 n6),!A.lt n6 n4,A.lt a n6,!A.lt m (A.sub n5 n6),A.lt n6 m,A.inR .i64 (A.sub n5 n6),!A.lt n6 n7],
  AV.tup [],140,5,Row.big (.agg [.int .i64, .int .i64, .int .i64, .ints .i64, .int .i64]) (Zbr (Int.toNat n4) (Int.toNat b) xs)):=by kernel_rfl
theorem ZAu(A:Ar)(N:Nat)(xs:List AV)(a m b n4 n5 n6 n7 n8:Int):ZaY A tab (BO5 N) 62 [false,true,true,true,true,false,true,true,true,true,false,true,true,true,true,false] 140 (Zai xs a m b n4 n5 n6 n7 n8) (Zaf xs a m b n4 n5 n6 n7 n8)=
 some (tr [1,7,4,7,4,7,5,2,3] [!A.lt (A.sub n5 n6) b,A.lt n4 (A.sub n5 n6),!A.lt n6 n4,A.lt a n6,!A.lt m (A.sub n5 n6),A.lt n6 m,A.inR .i64 (A.sub n5 n6),!A.lt n6 n7],
  AV.tup [],140,5,Row.big (.agg [.int .i64, .int .i64, .int .i64, .ints .i64, .int .i64]) xs):=by kernel_rfl
theorem ZxY(A:Ar)(N:Nat)(xs:List AV)(a m b n4 n5 n6 n7 n8:Int):ZaY A tab (BO5 N) 62 [false,true,true,true,true,false,true,true,true,true,false,false,false,false,false,false] 140 (Zai xs a m b n4 n5 n6 n7 n8) (Zaf xs a m b n4 n5 n6 n7 n8)=
 some (tr [9,4,7,4,7,5,2,3] [!A.lt n4 (A.sub n5 n6),!A.lt n6 n4,A.lt a n6,!A.lt m (A.sub n5 n6),A.lt n6 m,A.inR .i64 (A.sub n5 n6),!A.lt n6 n7],
  AV.tup [],140,5,Row.big (.agg [.int .i64, .int .i64, .int .i64, .ints .i64, .int .i64]) xs):=by kernel_rfl
theorem Zxf(A:Ar)(N:Nat)(xs:List AV)(a m b n4 n5 n6 n7 n8:Int):ZaY A tab (BO5 N) 69 [false,true,true,true,true,false,false,false,false,false,false,true,true,true,true,true] 140 (Zai xs a m b n4 n5 n6 n7 n8) (Zaf xs a m b n4 n5 n6 n7 n8)=
 some (tr [1,5,7,12,4,7,5,2,3] [Zab (decide (smB N xs n4 (A.sub n5 n6) b=true)) true,A.lt (A.sub n5 n6) b,A.lt n4 (A.sub n5 n6),!A.lt a n6,!A.lt m (A.sub n5 n6),A.lt n6 m,A.inR .i64 (A.sub n5 n6),!A.lt n6 n7],
  AV.tup [],140,5,Row.big (.agg [.int .i64, .int .i64, .int .i64, .ints .i64, .int .i64]) (Zbr (Int.toNat n4) (Int.toNat b) xs)):=by kernel_rfl
theorem ZAs(A:Ar)(N:Nat)(xs:List AV)(a m b n4 n5 n6 n7 n8:Int):ZaY A tab (BO5 N) 62 [false,true,true,true,true,false,false,false,false,false,false,true,true,true,true,false] 140 (Zai xs a m b n4 n5 n6 n7 n8) (Zaf xs a m b n4 n5 n6 n7 n8)=
 some (tr [1,7,12,4,7,5,2,3] [!A.lt (A.sub n5 n6) b,A.lt n4 (A.sub n5 n6),!A.lt a n6,!A.lt m (A.sub n5 n6),A.lt n6 m,A.inR .i64 (A.sub n5 n6),!A.lt n6 n7],
  AV.tup [],140,5,Row.big (.agg [.int .i64, .int .i64, .int .i64, .ints .i64, .int .i64]) xs):=by kernel_rfl
theorem Zzb(A:Ar)(N:Nat)(xs:List AV)(a m b n4 n5 n6 n7 n8:Int):ZaY A tab (BO5 N) 62 [false,true,true,true,true,false,false,false,false,false,false,false,false,false,false,false] 140 (Zai xs a m b n4 n5 n6 n7 n8) (Zaf xs a m b n4 n5 n6 n7 n8)=
 some (tr [9,12,4,7,5,2,3] [!A.lt n4 (A.sub n5 n6),!A.lt a n6,!A.lt m (A.sub n5 n6),A.lt n6 m,A.inR .i64 (A.sub n5 n6),!A.lt n6 n7],
  AV.tup [],140,5,Row.big (.agg [.int .i64, .int .i64, .int .i64, .ints .i64, .int .i64]) xs):=by kernel_rfl
theorem ZBW(A:Ar)(N:Nat)(xs:List AV)(a m b n4 n5 n6 n7 n8:Int):ZaY A tab (BO5 N) 76 [false,false,false,false,false,false,true,true,true,true,true,true,true,true,true,true] 140 (Zai xs a m b n4 n5 n6 n7 n8) (Zaf xs a m b n4 n5 n6 n7 n8)=
 some (tr [1,5,7,4,5,7,12,5,2,3] [Zab (decide (smB N (Zbr (Int.toNat a) (Int.toNat n4) xs) n4 (A.sub n5 n6) b=true)) true,A.lt (A.sub n5 n6) b,A.lt n4 (A.sub n5 n6),Zab (decide (smB N xs a n6 n4=true)) true,A.lt n6 n4,A.lt a n6,!A.lt n6 m,A.inR .i64 (A.sub n5 n6),!A.lt n6 n7],
  AV.tup [],140,5,Row.big (.agg [.int .i64, .int .i64, .int .i64, .ints .i64, .int .i64]) (Zbr (Int.toNat n4) (Int.toNat b) (Zbr (Int.toNat a) (Int.toNat n4) xs))):=by kernel_rfl
theorem ZBz(A:Ar)(N:Nat)(xs:List AV)(a m b n4 n5 n6 n7 n8:Int):ZaY A tab (BO5 N) 69 [false,false,false,false,false,false,true,true,true,true,true,true,true,true,true,false] 140 (Zai xs a m b n4 n5 n6 n7 n8) (Zaf xs a m b n4 n5 n6 n7 n8)=
 some (tr [1,7,4,5,7,12,5,2,3] [!A.lt (A.sub n5 n6) b,A.lt n4 (A.sub n5 n6),Zab (decide (smB N xs a n6 n4=true)) true,A.lt n6 n4,A.lt a n6,!A.lt n6 m,A.inR .i64 (A.sub n5 n6),!A.lt n6 n7],
  AV.tup [],140,5,Row.big (.agg [.int .i64, .int .i64, .int .i64, .ints .i64, .int .i64]) (Zbr (Int.toNat a) (Int.toNat n4) xs)):=by kernel_rfl
theorem Zyz(A:Ar)(N:Nat)(xs:List AV)(a m b n4 n5 n6 n7 n8:Int):ZaY A tab (BO5 N) 69 [false,false,false,false,false,false,true,true,true,true,true,false,false,false,false,false] 140 (Zai xs a m b n4 n5 n6 n7 n8) (Zaf xs a m b n4 n5 n6 n7 n8)=
 some (tr [9,4,5,7,12,5,2,3] [!A.lt n4 (A.sub n5 n6),Zab (decide (smB N xs a n6 n4=true)) true,A.lt n6 n4,A.lt a n6,!A.lt n6 m,A.inR .i64 (A.sub n5 n6),!A.lt n6 n7],
  AV.tup [],140,5,Row.big (.agg [.int .i64, .int .i64, .int .i64, .ints .i64, .int .i64]) (Zbr (Int.toNat a) (Int.toNat n4) xs)):=by kernel_rfl
theorem ZyW(A:Ar)(N:Nat)(xs:List AV)(a m b n4 n5 n6 n7 n8:Int):ZaY A tab (BO5 N) 69 [false,false,false,false,false,false,true,true,true,true,false,true,true,true,true,true] 140 (Zai xs a m b n4 n5 n6 n7 n8) (Zaf xs a m b n4 n5 n6 n7 n8)=
 some (tr [1,5,7,4,7,12,5,2,3] [Zab (decide (smB N xs n4 (A.sub n5 n6) b=true)) true,A.lt (A.sub n5 n6) b,A.lt n4 (A.sub n5 n6),!A.lt n6 n4,A.lt a n6,!A.lt n6 m,A.inR .i64 (A.sub n5 n6),!A.lt n6 n7],
  AV.tup [],140,5,Row.big (.agg [.int .i64, .int .i64, .int .i64, .ints .i64, .int .i64]) (Zbr (Int.toNat n4) (Int.toNat b) xs)):=by kernel_rfl
theorem Zz0(A:Ar)(N:Nat)(xs:List AV)(a m b n4 n5 n6 n7 n8:Int):ZaY A tab (BO5 N) 62 [false,false,false,false,false,false,true,true,true,true,false,true,true,true,true,false] 140 (Zai xs a m b n4 n5 n6 n7 n8) (Zaf xs a m b n4 n5 n6 n7 n8)=
 some (tr [1,7,4,7,12,5,2,3] [!A.lt (A.sub n5 n6) b,A.lt n4 (A.sub n5 n6),!A.lt n6 n4,A.lt a n6,!A.lt n6 m,A.inR .i64 (A.sub n5 n6),!A.lt n6 n7],
  AV.tup [],140,5,Row.big (.agg [.int .i64, .int .i64, .int .i64, .ints .i64, .int .i64]) xs):=by kernel_rfl
theorem Zza(A:Ar)(N:Nat)(xs:List AV)(a m b n4 n5 n6 n7 n8:Int):ZaY A tab (BO5 N) 62 [false,false,false,false,false,false,true,true,true,true,false,false,false,false,false,false] 140 (Zai xs a m b n4 n5 n6 n7 n8) (Zaf xs a m b n4 n5 n6 n7 n8)=
 some (tr [9,4,7,12,5,2,3] [!A.lt n4 (A.sub n5 n6),!A.lt n6 n4,A.lt a n6,!A.lt n6 m,A.inR .i64 (A.sub n5 n6),!A.lt n6 n7],
  AV.tup [],140,5,Row.big (.agg [.int .i64, .int .i64, .int .i64, .ints .i64, .int .i64]) xs):=by kernel_rfl
theorem ZA7(A:Ar)(N:Nat)(xs:List AV)(a m b n4 n5 n6 n7 n8:Int):ZaY A tab (BO5 N) 69 [false,false,false,false,false,false,false,false,false,false,false,true,true,true,true,true] 140 (Zai xs a m b n4 n5 n6 n7 n8) (Zaf xs a m b n4 n5 n6 n7 n8)=
 some (tr [1,5,7,12,12,5,2,3] [Zab (decide (smB N xs n4 (A.sub n5 n6) b=true)) true,A.lt (A.sub n5 n6) b,A.lt n4 (A.sub n5 n6),!A.lt a n6,!A.lt n6 m,A.inR .i64 (A.sub n5 n6),!A.lt n6 n7],
  AV.tup [],140,5,Row.big (.agg [.int .i64, .int .i64, .int .i64, .ints .i64, .int .i64]) (Zbr (Int.toNat n4) (Int.toNat b) xs)):=by kernel_rfl
theorem ZzA(A:Ar)(N:Nat)(xs:List AV)(a m b n4 n5 n6 n7 n8:Int):ZaY A tab (BO5 N) 62 [false,false,false,false,false,false,false,false,false,false,false,true,true,true,true,false] 140 (Zai xs a m b n4 n5 n6 n7 n8) (Zaf xs a m b n4 n5 n6 n7 n8)=
 some (tr [1,7,12,12,5,2,3] [!A.lt (A.sub n5 n6) b,A.lt n4 (A.sub n5 n6),!A.lt a n6,!A.lt n6 m,A.inR .i64 (A.sub n5 n6),!A.lt n6 n7],
  AV.tup [],140,5,Row.big (.agg [.int .i64, .int .i64, .int .i64, .ints .i64, .int .i64]) xs):=by kernel_rfl
theorem ZzV(A:Ar)(N:Nat)(xs:List AV)(a m b n4 n5 n6 n7 n8:Int):ZaY A tab (BO5 N) 62 [false,false,false,false,false,false,false,false,false,false,false,false,false,false,false,false] 140 (Zai xs a m b n4 n5 n6 n7 n8) (Zaf xs a m b n4 n5 n6 n7 n8)=
 some (tr [9,12,12,5,2,3] [!A.lt n4 (A.sub n5 n6),!A.lt a n6,!A.lt n6 m,A.inR .i64 (A.sub n5 n6),!A.lt n6 n7],
  AV.tup [],140,5,Row.big (.agg [.int .i64, .int .i64, .int .i64, .ints .i64, .int .i64]) xs):=by kernel_rfl
theorem ZAb(A:Ar)(N:Nat)(n0 n9:Int)(x10:List AV):Zad A tab (BO5 N) 22 [true] (Zc7 n0 n9 x10) (Zcq n0 n9 x10)=
 some (tr [1,1,0,0,0,0,0,2,0,0,2,4,1,2] [A.inR .i64 (A.add n9 1),Zab (Nat.blt (A.nat (A.add n9 1)) (A.lenA (A.setA x10 (A.nat n9) (AV.agg (Row.gen [.int .i64 ((A.nthA x10 (A.nat (A.add n9 1))).cellAt 0).toI, .int .i64 ((A.nthA x10 (A.nat (A.add n9 1))).cellAt 1).toI, .int .i64 ((A.nthA x10 (A.nat (A.add n9 1))).cellAt 2).toI, .list (.ints .i64 ((A.nthA x10 (A.nat (A.add n9 1))).cellAt 3).toIs), .int .i64 ((A.nthA x10 (A.nat (A.add n9 1))).cellAt 4).toI]))))) true,Zab (A.le 0 (A.add n9 1)) (Nat.blt (A.nat (A.add n9 1)) (A.lenA (A.setA x10 (A.nat n9) (AV.agg (Row.gen [.int .i64 ((A.nthA x10 (A.nat (A.add n9 1))).cellAt 0).toI, .int .i64 ((A.nthA x10 (A.nat (A.add n9 1))).cellAt 1).toI, .int .i64 ((A.nthA x10 (A.nat (A.add n9 1))).cellAt 2).toI, .list (.ints .i64 ((A.nthA x10 (A.nat (A.add n9 1))).cellAt 3).toIs), .int .i64 ((A.nthA x10 (A.nat (A.add n9 1))).cellAt 4).toI]))))),Zab (Nat.blt (A.nat n9) (A.lenA x10)) true,Zab (A.le 0 n9) (Nat.blt (A.nat n9) (A.lenA x10)),Zab (Nat.blt (A.nat n9) (A.lenA x10)) true,Zab (A.le 0 n9) (Nat.blt (A.nat n9) (A.lenA x10)),Zab (Nat.blt (A.nat (A.add n9 1)) (A.lenA x10)) true,Zab (A.le 0 (A.add n9 1)) (Nat.blt (A.nat (A.add n9 1)) (A.lenA x10)),A.inR .i64 (A.add n9 1),A.inR .i64 (A.add n9 1),A.lt n9 (A.sub n0 1),A.inR .i64 (A.sub n0 1)],
  Zg0 (n0) (A.add n9 1) (A.setA (A.setA x10 (A.nat n9) (AV.agg (Row.gen [.int .i64 ((A.nthA x10 (A.nat (A.add n9 1))).cellAt 0).toI, .int .i64 ((A.nthA x10 (A.nat (A.add n9 1))).cellAt 1).toI, .int .i64 ((A.nthA x10 (A.nat (A.add n9 1))).cellAt 2).toI, .list (.ints .i64 ((A.nthA x10 (A.nat (A.add n9 1))).cellAt 3).toIs), .int .i64 ((A.nthA x10 (A.nat (A.add n9 1))).cellAt 4).toI]))) (A.nat (A.add n9 1)) (AV.agg (Row.gen [.int .i64 ((A.nthA x10 (A.nat n9)).cellAt 0).toI, .int .i64 ((A.nthA x10 (A.nat n9)).cellAt 1).toI, .int .i64 ((A.nthA x10 (A.nat n9)).cellAt 2).toI, .list (.ints .i64 ((A.nthA x10 (A.nat n9)).cellAt 3).toIs), .int .i64 ((A.nthA x10 (A.nat n9)).cellAt 4).toI])))):=by kernel_rfl
theorem ZzE(A:Ar)(N:Nat)(n0 n9:Int)(x10:List AV):ZaY A tab (BO5 N) 12 [false] 140 (Zc7 n0 n9 x10) (Zcq n0 n9 x10)=
 some (tr [1,1,2] [!A.lt n9 (A.sub n0 1),A.inR .i64 (A.sub n0 1)],
  AV.tup [],140,5,Row.big (.agg [.int .i64, .int .i64, .int .i64, .ints .i64, .int .i64]) x10):=by kernel_rfl
theorem ZAP(A:Ar)(N:Nat)(n2 n11:Int)(x12:List AV):Zad A tab (BO5 N) 21 [true] (Zc1 n2 n11 x12) (Zcv n2 n11 x12)=
 some (tr [1,1,0,0,0,0,0,2,0,0,2,4,3] [A.inR .i64 (A.sub n11 1),Zab (Nat.blt (A.nat (A.sub n11 1)) (A.lenA (A.setA x12 (A.nat n11) (AV.agg (Row.gen [.int .i64 ((A.nthA x12 (A.nat (A.sub n11 1))).cellAt 0).toI, .int .i64 ((A.nthA x12 (A.nat (A.sub n11 1))).cellAt 1).toI, .int .i64 ((A.nthA x12 (A.nat (A.sub n11 1))).cellAt 2).toI, .list (.ints .i64 ((A.nthA x12 (A.nat (A.sub n11 1))).cellAt 3).toIs), .int .i64 ((A.nthA x12 (A.nat (A.sub n11 1))).cellAt 4).toI]))))) true,Zab (A.le 0 (A.sub n11 1)) (Nat.blt (A.nat (A.sub n11 1)) (A.lenA (A.setA x12 (A.nat n11) (AV.agg (Row.gen [.int .i64 ((A.nthA x12 (A.nat (A.sub n11 1))).cellAt 0).toI, .int .i64 ((A.nthA x12 (A.nat (A.sub n11 1))).cellAt 1).toI, .int .i64 ((A.nthA x12 (A.nat (A.sub n11 1))).cellAt 2).toI, .list (.ints .i64 ((A.nthA x12 (A.nat (A.sub n11 1))).cellAt 3).toIs), .int .i64 ((A.nthA x12 (A.nat (A.sub n11 1))).cellAt 4).toI]))))),Zab (Nat.blt (A.nat n11) (A.lenA x12)) true,Zab (A.le 0 n11) (Nat.blt (A.nat n11) (A.lenA x12)),Zab (Nat.blt (A.nat n11) (A.lenA x12)) true,Zab (A.le 0 n11) (Nat.blt (A.nat n11) (A.lenA x12)),Zab (Nat.blt (A.nat (A.sub n11 1)) (A.lenA x12)) true,Zab (A.le 0 (A.sub n11 1)) (Nat.blt (A.nat (A.sub n11 1)) (A.lenA x12)),A.inR .i64 (A.sub n11 1),A.inR .i64 (A.sub n11 1),A.lt n2 n11],
  Zg9 (n2) (A.sub n11 1) (A.setA (A.setA x12 (A.nat n11) (AV.agg (Row.gen [.int .i64 ((A.nthA x12 (A.nat (A.sub n11 1))).cellAt 0).toI, .int .i64 ((A.nthA x12 (A.nat (A.sub n11 1))).cellAt 1).toI, .int .i64 ((A.nthA x12 (A.nat (A.sub n11 1))).cellAt 2).toI, .list (.ints .i64 ((A.nthA x12 (A.nat (A.sub n11 1))).cellAt 3).toIs), .int .i64 ((A.nthA x12 (A.nat (A.sub n11 1))).cellAt 4).toI]))) (A.nat (A.sub n11 1)) (AV.agg (Row.gen [.int .i64 ((A.nthA x12 (A.nat n11)).cellAt 0).toI, .int .i64 ((A.nthA x12 (A.nat n11)).cellAt 1).toI, .int .i64 ((A.nthA x12 (A.nat n11)).cellAt 2).toI, .list (.ints .i64 ((A.nthA x12 (A.nat n11)).cellAt 3).toIs), .int .i64 ((A.nthA x12 (A.nat n11)).cellAt 4).toI])))):=by kernel_rfl
theorem Zy4(A:Ar)(N:Nat)(n2 n11:Int)(x12:List AV):ZaY A tab (BO5 N) 11 [false] 140 (Zc1 n2 n11 x12) (Zcv n2 n11 x12)=
 some (tr [1,3] [!A.lt n2 n11],
  AV.tup [],140,5,Row.big (.agg [.int .i64, .int .i64, .int .i64, .ints .i64, .int .i64]) x12):=by kernel_rfl
end Go.Proofs.Ytjhdnpmojhkbjaa
/- The end of a merge: the two halves. No condition. -/
namespace Go.Proofs.Ytjhdnpmojhkbjaa
theorem ZCq{C:Ctx}(hC:C.P=Try.prog){N:Nat}(hK:Zap Try.prog (BO5 N))(xs Z1 Z2 Z3:List AV)(a m b mid n st r p:Int)(hst:¬st<r)(hin: -1000000≤n-st∧n-st≤1000000)
 (hrot:if st<m∧m<n-st then ZnL xs st m (n-st)=true∧ZiM st.toNat m.toNat (n-st).toNat xs=Z1 else xs=Z1)
 (hle:if a<st∧st<mid then smB N Z1 a st mid=true∧Zbr a.toNat mid.toNat Z1=Z2 else Z1=Z2)
 (hri:if mid<n-st∧n-st<b then smB N Z2 mid (n-st) b=true∧Zbr mid.toNat b.toNat Z2=Z3 else Z2=Z3):
 Ev C (Zai xs a m b mid n st r p) (Zaf xs a m b mid n st r p) (Zh1 140 140 5 (.big shN Z3) (.tup [])):=by
 have hi:std.inR .i64 (std.sub n st)=true:=by
  simp;omega
 have hi':std.inR .i64 (n-st)=true:=hi
 by_cases h1:st<m
 ·by_cases h2:m<n-st
  ·rw[if_pos ⟨h1,h2⟩]at hrot
   obtain⟨g1,e1⟩:=hrot
   subst e1
   by_cases h3:a<st
   ·by_cases h4:st<mid
    ·rw[if_pos ⟨h3,h4⟩]at hle
     obtain⟨g2,e2⟩:=hle
     subst e2
     by_cases h5:mid<n-st
     ·by_cases h6:n-st<b
      ·rw[if_pos ⟨h5,h6⟩]at hri
       obtain⟨g3,e3⟩:=hri
       subst e3
       exact Zd7 hC hK (ZxO std N xs a m b mid n st r p) (by simp only[ZaW,Zfj,g1,g2,g3,h1,h2,h3,h4,h5,h6,hst,hi'];simp) rfl rfl rfl rfl
      ·rw[if_neg (fun h=>h6 h.2)]at hri
       subst hri
       exact Zd7 hC hK (ZzF std N xs a m b mid n st r p) (by simp only[ZaW,Zfj,g1,g2,h1,h2,h3,h4,h5,h6,hst,hi'];simp) rfl rfl rfl rfl
     ·rw[if_neg (fun h=>h5 h.1)]at hri
      subst hri
      exact Zd7 hC hK (ZBm std N xs a m b mid n st r p) (by simp only[ZaW,Zfj,g1,g2,h1,h2,h3,h4,h5,hst,hi'];simp) rfl rfl rfl rfl
    ·rw[if_neg (fun h=>h4 h.2)]at hle
     subst hle
     by_cases h5:mid<n-st
     ·by_cases h6:n-st<b
      ·rw[if_pos ⟨h5,h6⟩]at hri
       obtain⟨g3,e3⟩:=hri
       subst e3
       exact Zd7 hC hK (ZzN std N xs a m b mid n st r p) (by simp only[ZaW,Zfj,g1,g3,h1,h2,h3,h4,h5,h6,hst,hi'];simp) rfl rfl rfl rfl
      ·rw[if_neg (fun h=>h6 h.2)]at hri
       subst hri
       exact Zd7 hC hK (Zxm std N xs a m b mid n st r p) (by simp only[ZaW,Zfj,g1,h1,h2,h3,h4,h5,h6,hst,hi'];simp) rfl rfl rfl rfl
     ·rw[if_neg (fun h=>h5 h.1)]at hri
      subst hri
      exact Zd7 hC hK (ZAU std N xs a m b mid n st r p) (by simp only[ZaW,Zfj,g1,h1,h2,h3,h4,h5,hst,hi'];simp) rfl rfl rfl rfl
   ·rw[if_neg (fun h=>h3 h.1)]at hle
    subst hle
    by_cases h5:mid<n-st
    ·by_cases h6:n-st<b
     ·rw[if_pos ⟨h5,h6⟩]at hri
      obtain⟨g3,e3⟩:=hri
      subst e3
      exact Zd7 hC hK (Zxi std N xs a m b mid n st r p) (by simp only[ZaW,Zfj,g1,g3,h1,h2,h3,h5,h6,hst,hi'];simp) rfl rfl rfl rfl
     ·rw[if_neg (fun h=>h6 h.2)]at hri
      subst hri
      exact Zd7 hC hK (ZzB std N xs a m b mid n st r p) (by simp only[ZaW,Zfj,g1,h1,h2,h3,h5,h6,hst,hi'];simp) rfl rfl rfl rfl
    ·rw[if_neg (fun h=>h5 h.1)]at hri
     subst hri
     exact Zd7 hC hK (ZBQ std N xs a m b mid n st r p) (by simp only[ZaW,Zfj,g1,h1,h2,h3,h5,hst,hi'];simp) rfl rfl rfl rfl
  ·rw[if_neg (fun h=>h2 h.2)]at hrot
   subst hrot
   by_cases h3:a<st
   ·by_cases h4:st<mid
    ·rw[if_pos ⟨h3,h4⟩]at hle
     obtain⟨g2,e2⟩:=hle
     subst e2
     by_cases h5:mid<n-st
     ·by_cases h6:n-st<b
      ·rw[if_pos ⟨h5,h6⟩]at hri
       obtain⟨g3,e3⟩:=hri
       subst e3
       exact Zd7 hC hK (Zzo std N xs a m b mid n st r p) (by simp only[ZaW,Zfj,g2,g3,h1,h2,h3,h4,h5,h6,hst,hi'];simp) rfl rfl rfl rfl
      ·rw[if_neg (fun h=>h6 h.2)]at hri
       subst hri
       exact Zd7 hC hK (ZzH std N xs a m b mid n st r p) (by simp only[ZaW,Zfj,g2,h1,h2,h3,h4,h5,h6,hst,hi'];simp) rfl rfl rfl rfl
     ·rw[if_neg (fun h=>h5 h.1)]at hri
      subst hri
      exact Zd7 hC hK (Zxh std N xs a m b mid n st r p) (by simp only[ZaW,Zfj,g2,h1,h2,h3,h4,h5,hst,hi'];simp) rfl rfl rfl rfl
    ·rw[if_neg (fun h=>h4 h.2)]at hle
     subst hle
     by_cases h5:mid<n-st
     ·by_cases h6:n-st<b
      ·rw[if_pos ⟨h5,h6⟩]at hri
       obtain⟨g3,e3⟩:=hri
       subst e3
       exact Zd7 hC hK (ZAO std N xs a m b mid n st r p) (by simp only[ZaW,Zfj,g3,h1,h2,h3,h4,h5,h6,hst,hi'];simp) rfl rfl rfl rfl
      ·rw[if_neg (fun h=>h6 h.2)]at hri
       subst hri
       exact Zd7 hC hK (ZAu std N xs a m b mid n st r p) (by simp only[ZaW,Zfj,h1,h2,h3,h4,h5,h6,hst,hi'];simp) rfl rfl rfl rfl
     ·rw[if_neg (fun h=>h5 h.1)]at hri
      subst hri
      exact Zd7 hC hK (ZxY std N xs a m b mid n st r p) (by simp only[ZaW,Zfj,h1,h2,h3,h4,h5,hst,hi'];simp) rfl rfl rfl rfl
   ·rw[if_neg (fun h=>h3 h.1)]at hle
    subst hle
    by_cases h5:mid<n-st
    ·by_cases h6:n-st<b
     ·rw[if_pos ⟨h5,h6⟩]at hri
      obtain⟨g3,e3⟩:=hri
      subst e3
      exact Zd7 hC hK (Zxf std N xs a m b mid n st r p) (by simp only[ZaW,Zfj,g3,h1,h2,h3,h5,h6,hst,hi'];simp) rfl rfl rfl rfl
     ·rw[if_neg (fun h=>h6 h.2)]at hri
      subst hri
      exact Zd7 hC hK (ZAs std N xs a m b mid n st r p) (by simp only[ZaW,Zfj,h1,h2,h3,h5,h6,hst,hi'];simp) rfl rfl rfl rfl
    ·rw[if_neg (fun h=>h5 h.1)]at hri
     subst hri
     exact Zd7 hC hK (Zzb std N xs a m b mid n st r p) (by simp only[ZaW,Zfj,h1,h2,h3,h5,hst,hi'];simp) rfl rfl rfl rfl
 ·rw[if_neg (fun h=>h1 h.1)]at hrot
  subst hrot
  by_cases h3:a<st
  ·by_cases h4:st<mid
   ·rw[if_pos ⟨h3,h4⟩]at hle
    obtain⟨g2,e2⟩:=hle
    subst e2
    by_cases h5:mid<n-st
    ·by_cases h6:n-st<b
     ·rw[if_pos ⟨h5,h6⟩]at hri
      obtain⟨g3,e3⟩:=hri
      subst e3
      exact Zd7 hC hK (ZBW std N xs a m b mid n st r p) (by simp only[ZaW,Zfj,g2,g3,h1,h3,h4,h5,h6,hst,hi'];simp) rfl rfl rfl rfl
     ·rw[if_neg (fun h=>h6 h.2)]at hri
      subst hri
      exact Zd7 hC hK (ZBz std N xs a m b mid n st r p) (by simp only[ZaW,Zfj,g2,h1,h3,h4,h5,h6,hst,hi'];simp) rfl rfl rfl rfl
    ·rw[if_neg (fun h=>h5 h.1)]at hri
     subst hri
     exact Zd7 hC hK (Zyz std N xs a m b mid n st r p) (by simp only[ZaW,Zfj,g2,h1,h3,h4,h5,hst,hi'];simp) rfl rfl rfl rfl
   ·rw[if_neg (fun h=>h4 h.2)]at hle
    subst hle
    by_cases h5:mid<n-st
    ·by_cases h6:n-st<b
     ·rw[if_pos ⟨h5,h6⟩]at hri
      obtain⟨g3,e3⟩:=hri
      subst e3
      exact Zd7 hC hK (ZyW std N xs a m b mid n st r p) (by simp only[ZaW,Zfj,g3,h1,h3,h4,h5,h6,hst,hi'];simp) rfl rfl rfl rfl
     ·rw[if_neg (fun h=>h6 h.2)]at hri
      subst hri
      exact Zd7 hC hK (Zz0 std N xs a m b mid n st r p) (by simp only[ZaW,Zfj,h1,h3,h4,h5,h6,hst,hi'];simp) rfl rfl rfl rfl
    ·rw[if_neg (fun h=>h5 h.1)]at hri
     subst hri
     exact Zd7 hC hK (Zza std N xs a m b mid n st r p) (by simp only[ZaW,Zfj,h1,h3,h4,h5,hst,hi'];simp) rfl rfl rfl rfl
  ·rw[if_neg (fun h=>h3 h.1)]at hle
   subst hle
   by_cases h5:mid<n-st
   ·by_cases h6:n-st<b
    ·rw[if_pos ⟨h5,h6⟩]at hri
     obtain⟨g3,e3⟩:=hri
     subst e3
     exact Zd7 hC hK (ZA7 std N xs a m b mid n st r p) (by simp only[ZaW,Zfj,g3,h1,h3,h5,h6,hst,hi'];simp) rfl rfl rfl rfl
    ·rw[if_neg (fun h=>h6 h.2)]at hri
     subst hri
     exact Zd7 hC hK (ZzA std N xs a m b mid n st r p) (by simp only[ZaW,Zfj,h1,h3,h5,h6,hst,hi'];simp) rfl rfl rfl rfl
   ·rw[if_neg (fun h=>h5 h.1)]at hri
    subst hri
    exact Zd7 hC hK (ZzV std N xs a m b mid n st r p) (by simp only[ZaW,Zfj,h1,h3,h5,hst,hi'];simp) rfl rfl rfl rfl
end Go.Proofs.Ytjhdnpmojhkbjaa
/- The search of a merge. No condition. -/
namespace Go.Proofs.Ytjhdnpmojhkbjaa
theorem ZJN(x:Int):std.shr x 1=x/2:=by
 rw[ZEu]
 show x.fdiv 2=x/2
 rw[Int.fdiv_eq_ediv_of_nonneg _ (by omega)]
def kAt(xs:List AV)(i:Int):Int:=Zav (xs.getD i.toNat .top)
theorem Zmn{C:Ctx}(hC:C.P=Try.prog){N:Nat}(hK:Zap Try.prog (BO5 N)){Q:List AFrame→Zaa→Prop}(xs:List AV)(a m b mid n p lo hi:Int)(hL:xs.length<1000000)(h0:0≤lo)(hhi:hi≤xs.length)(hp0:0≤p-hi+1)(hp1:p-lo<xs.length)
 (hq:∀st:Int,lo≤st→st≤hi→(lo<st→kAt xs (st-1)≤kAt xs (p-(st-1)))→(st<hi→kAt xs (p-st)<kAt xs st)→Ev C (Zai xs a m b mid n st st p) (Zaf xs a m b mid n st st p) Q):
 ∀(d:Nat) (s r:Int),(r-s).toNat≤d→lo≤s→s≤r→r≤hi→(lo<s→kAt xs (s-1)≤kAt xs (p-(s-1)))→(r<hi→kAt xs (p-r)<kAt xs r)→Ev C (Zai xs a m b mid n s r p) (Zaf xs a m b mid n s r p) Q:=by
 intro d
 induction d with
 |zero=>
  intro s r hd h1 h2 h3 h4 h5
  have:s=r:=by omega
  subst this
  exact hq s h1 h3 h4 h5
 |succ d ih=>
  intro s r hd h1 h2 h3 h4 h5
  by_cases he:s=r
  ·subst he
   exact hq s h1 h3 h4 h5
  ·have hc:std.shr (std.add s r) 1=(s+r)/2:=ZJN _
   obtain⟨c,hcd⟩:∃c,c=(s+r)/2:=⟨_,rfl⟩
   rw[←hcd]at hc
   have hc1:s≤c:=by omega
   have hc2:c<r:=by omega
   have u:std.inR .u64 (std.add s r)=true:=decide_eq_true ⟨show (0:Int)≤s+r by omega,show s+r≤18446744073709551615 by omega⟩
   have hk:decide (ZhN (AV.toI (AV.cellAt (xs.getD (p-c).toNat .top) 4)) (AV.toI (AV.cellAt (xs.getD c.toNat .top) 4))<0)=decide (kAt xs (p-c)<kAt xs c):=ZfN _ _
   by_cases hlt:kAt xs (p-c)<kAt xs c
   ·have hw:=ZyE std N xs a m b mid n s r p
    simp only[hc,ZaC,Zar,ZaW,Zfj,hk]at hw
    refine go hC hK hw ?_ (ih s c (by omega) h1 hc1 (by omega) h4 fun _=>hlt)
    simp only[u]
    simp[hlt]
    omega
   ·have hw:=ZyP std N xs a m b mid n s r p
    simp only[hc,ZaC,Zar,ZaW,Zfj,hk]at hw
    refine go hC hK hw ?_ (ih (c+1) r (by omega) (by omega) (by omega) h3 (fun _=>by rw[show c+1-1=c by omega];omega) h5)
    simp only[u]
    simp[hlt]
    omega
end Go.Proofs.Ytjhdnpmojhkbjaa
/- Segments by their indices. No condition. -/
namespace Go.Proofs.Ytjhdnpmojhkbjaa
theorem sortedB_iff:∀ {l:List AV},Zgx l=true↔Za5 l
 |[]=>by simp[Zgx,Za5]
 |x::l=>by
  unfold Zgx Za5
  rw[List.pairwise_cons,Bool.and_eq_true,sortedB_iff,List.all_eq_true]
  simp[Za5]
theorem ZJw(xs:List AV)(i j k:Nat)(h1:i+k<j)(h2:j≤xs.length):((xs.take j).drop i)[k]? =some (xs.getD (i+k) .top):=by
 rw[List.getElem?_drop,List.getElem?_take_of_lt h1,List.getD_eq_getElem?_getD,List.getElem?_eq_getElem (by omega)];rfl
theorem Zbu(xs:List AV)(i j:Nat)(h:j≤xs.length):((xs.take j).drop i).length=j-i:=by simp;omega
theorem Ziu(xs:List AV)(i j k:Nat)(h1:i+k<j)(h2:j≤xs.length)(h3:k<((xs.take j).drop i).length):Zav ((xs.take j).drop i)[k]=kAt xs ((i+k:Nat):Int):=by
 have:=ZJw xs i j k h1 h2
 rw[List.getElem?_eq_getElem h3]at this
 rw[Option.some.inj this,kAt,Int.toNat_natCast]
theorem ZaS{xs:List AV}{i j:Nat}(h2:j≤xs.length)(hs:Za5 ((xs.take j).drop i)){k l:Nat}(h3:i≤k)(h4:k≤l)(h5:l<j):kAt xs k≤kAt xs l:=by
 by_cases e:k=l
 ·subst e;exact Int.le_refl _
 ·have hl:=Zbu xs i j h2
  have:=List.pairwise_iff_getElem.mp hs (k-i) (l-i) (by omega) (by omega) (by omega)
  rw[Ziu xs i j (k-i) (by omega) h2,Ziu xs i j (l-i) (by omega) h2]at this
  rw[show i+(k-i)=k by omega,show i+(l-i)=l by omega]at this
  exact this
theorem Za9{xs:List AV}{i j:Nat}(h2:j≤xs.length)(h:∀k l:Nat,i≤k→k≤l→l<j→kAt xs k≤kAt xs l):Za5 ((xs.take j).drop i):=by
 have hl:=Zbu xs i j h2
 refine List.pairwise_iff_getElem.mpr fun p q hp hq hpq=>?_
 rw[Ziu xs i j p (by omega) h2,Ziu xs i j q (by omega) h2]
 exact h _ _ (by omega) (by omega) (by omega)
theorem ZeA{xs:List AV}{i j:Nat}(h2:j≤xs.length){y:AV}(hy:y∈(xs.take j).drop i):∃k:Nat,i≤k∧k<j∧Zav y=kAt xs k:=by
 have hl:=Zbu xs i j h2
 obtain⟨p,hp,rfl⟩:=List.mem_iff_getElem.mp hy
 exact⟨i+p,by omega,by omega,Ziu xs i j p (by omega) h2 hp⟩
theorem Zkd(xs:List AV)(a m b:Nat)(h1:a≤m)(h2:m≤b):(xs.take m).drop a++(xs.take b).drop m=(xs.take b).drop a:=by
 have e:(xs.take b).take m=xs.take m:=by rw[List.take_take,Nat.min_eq_left h2]
 have:=List.take_append_drop m (xs.take b)
 rw[e]at this
 conv=>rhs;rw[←this]
 by_cases hm:(xs.take m).length=m
 ·rw[List.drop_append_of_le_length (by omega)]
 ·have:xs.length<m:=by simp at hm;omega
  have e1:(xs.take b).drop m=[]:=by rw[List.drop_eq_nil_iff];simp;omega
  rw[e1];simp
theorem ZiH{xs P Z S:List AV}{a b:Nat}(h:xs=P++Z++S)(ha:P.length=a)(hb:P.length+Z.length=b):Zbr a b xs=P++Zax Z++S:=by
 subst h;subst ha;subst hb
 unfold Zbr
 rw[List.append_assoc P Z S,List.take_append_of_le_length (Nat.le_refl _),List.take_length,←List.append_assoc]
 have e1:(P++Z++S).take (P.length+Z.length)=P++Z:=by
  rw[List.take_append_of_le_length (by simp),←List.length_append,List.take_length]
 have e2:(P++Z++S).drop (P.length+Z.length)=S:=by
  rw[←List.length_append,List.drop_left]
 rw[e1,e2,List.drop_left]
theorem ZBG{xs P U V S:List AV}{a m b:Nat}(h:xs=P++U++V++S)(ha:P.length=a)(hm:P.length+U.length=m)(hb:P.length+U.length+V.length=b):ZiM a m b xs=P++V++U++S:=by
 subst h;subst ha;subst hm;subst hb
 unfold ZiM
 have e1:(P++U++V++S).take P.length=P:=by simp[List.append_assoc]
 have e2:(P++U++V++S).take (P.length+U.length)=P++U:=by
  rw[List.append_assoc (P++U),←List.length_append,List.take_left]
 have e3:(P++U++V++S).take (P.length+U.length+V.length)=P++U++V:=by
  rw[←List.length_append,←List.length_append,List.take_left]
 have e4:(P++U++V++S).drop (P.length+U.length+V.length)=S:=by
  rw[←List.length_append,←List.length_append,List.drop_left]
 have e5:(P++U++V).drop (P.length+U.length)=V:=by
  rw[←List.length_append,List.drop_left]
 rw[e1,e2,e3,e4,e5,List.drop_left]
end Go.Proofs.Ytjhdnpmojhkbjaa
/- A merge from the place that its search finds. No condition. -/
namespace Go.Proofs.Ytjhdnpmojhkbjaa
theorem ZrH{xs P Z S:List AV}{a b:Nat}(h:xs=P++Z++S)(ha:P.length=a)(hb:P.length+Z.length=b):(xs.take b).drop a=Z:=by
 subst h;subst ha;subst hb
 rw[←List.length_append,List.take_left,List.drop_left]
theorem Zw0{N:Nat}{xs P X V S:List AV}{a m b:Nat}(h:xs=P++X++V++S)(ha:P.length=a)(hm:P.length+X.length=m)(hb:P.length+X.length+V.length=b)(hX:0<X.length)(hV:0<V.length)(hL:xs.length<1000000)(hn:ZaK xs=true)(sX:Za5 X)(sV:Za5 V)(hN:b-a<N):smB N xs a m b=true:=by
 have hl:xs.length=P.length+X.length+V.length+S.length:=by rw[h];simp[Nat.add_assoc]
 unfold smB
 rw[hn,ZrH (xs:=xs) (P:=P) (Z:=X) (S:=V++S) (by rw[h];simp) (by simp;omega) (by simp;omega),ZrH (xs:=xs) (P:=P++X) (Z:=V) (S:=S) h (by simp;omega) (by simp;omega),sortedB_iff.mpr sX,sortedB_iff.mpr sV]
 simp only[Bool.and_true,decide_eq_true_eq]
 omega
theorem Zsx{C:Ctx}(hC:C.P=Try.prog){N:Nat}(hK:Zap Try.prog (BO5 N))(xs:List AV)(a m b mid s e:Nat)(p:Int)(h1:a≤s)(h2:s≤m)(h3:m≤e)(h4:e≤b)(h5:b≤xs.length)(hmid:mid+m=s+e)(ham:a<mid)(hmb:mid<b)(hL:xs.length<1000000)(hn:ZaK xs=true)(hs1:Za5 ((xs.take m).drop a))(hs2:Za5 ((xs.take b).drop m))(hN:b-a≤N)
 (q1:m<e→s<m→kAt xs ((e-1:Nat):Int)<kAt xs s) (q2:a<s→e<b→kAt xs ((s-1:Nat):Int)≤kAt xs e):
 Ev C (Zai xs a m b mid (mid+m) s s p) (Zaf xs a m b mid (mid+m) s s p) (Zh1 140 140 5 (.big shN (Zbr a b xs)) (.tup [])):=by
 obtain⟨P,hP⟩:∃P,P=xs.take a:=⟨_,rfl⟩
 obtain⟨X,hX⟩:∃X,X=(xs.take s).drop a:=⟨_,rfl⟩
 obtain⟨U,hU⟩:∃U,U=(xs.take m).drop s:=⟨_,rfl⟩
 obtain⟨V,hV⟩:∃V,V=(xs.take e).drop m:=⟨_,rfl⟩
 obtain⟨Y,hY⟩:∃Y,Y=(xs.take b).drop e:=⟨_,rfl⟩
 obtain⟨S,hS⟩:∃S,S=xs.drop b:=⟨_,rfl⟩
 have lP:P.length=a:=by rw[hP];simp;omega
 have lX:X.length=s-a:=by rw[hX];exact Zbu _ _ _ (by omega)
 have lU:U.length=m-s:=by rw[hU];exact Zbu _ _ _ (by omega)
 have lV:V.length=e-m:=by rw[hV];exact Zbu _ _ _ (by omega)
 have lY:Y.length=b-e:=by rw[hY];exact Zbu _ _ _ (by omega)
 have lS:S.length=xs.length-b:=by rw[hS];simp
 have eL:(xs.take m).drop a=X++U:=by rw[hX,hU];exact(Zkd xs a s m h1 h2).symm
 have eR:(xs.take b).drop m=V++Y:=by rw[hV,hY];exact(Zkd xs m e b h3 h4).symm
 have hxs:xs=P++(X++U)++(V++Y)++S:=by
  rw[←eL,←eR,hP,hS];exact(ZJ2 xs a m b (by omega) (by omega)).symm
 have sX:Za5 X:=by rw[hX];exact Za9 (by omega) fun k l r1 r2 r3=>ZaS (by omega) hs1 r1 r2 (by omega)
 have sU:Za5 U:=by rw[hU];exact Za9 (by omega) fun k l r1 r2 r3=>ZaS (by omega) hs1 (by omega) r2 (by omega)
 have sV:Za5 V:=by rw[hV];exact Za9 (by omega) fun k l r1 r2 r3=>ZaS (by omega) hs2 r1 r2 (by omega)
 have sY:Za5 Y:=by rw[hY];exact Za9 (by omega) fun k l r1 r2 r3=>ZaS (by omega) hs2 (by omega) r2 (by omega)
 have cVU:∀v∈V,∀u∈U,Zav v<Zav u:=by
  intro v hv u hu
  rw[hV]at hv;rw[hU]at hu
  obtain⟨k,k1,k2,k3⟩:=ZeA (by omega) hv
  obtain⟨l,l1,l2,l3⟩:=ZeA (by omega) hu
  have t1:=ZaS (by omega) hs2 k1 (show k≤e-1 by omega) (by omega)
  have t2:=ZaS (by omega) hs1 (show a≤s by omega) l1 l2
  have t3:=q1 (by omega) (by omega)
  omega
 have cXY:∀x∈X,∀y∈Y,Zav x≤Zav y:=by
  intro x hx y hy
  rw[hX]at hx;rw[hY]at hy
  obtain⟨k,k1,k2,k3⟩:=ZeA (by omega) hx
  obtain⟨l,l1,l2,l3⟩:=ZeA (by omega) hy
  have t1:=ZaS (by omega) hs1 k1 (show k≤s-1 by omega) (by omega)
  have t2:=ZaS (by omega) hs2 (show m≤e by omega) l1 l2
  have t3:=q2 (by omega) (by omega)
  omega
 have n4:ZaK P=true∧ZaK X=true∧ZaK U=true∧ZaK V=true∧ZaK Y=true∧ZaK S=true:=by
  rw[hxs]at hn
  simp only[Zbj,Bool.and_eq_true]at hn
  exact⟨hn.1.1.1,hn.1.1.2.1,hn.1.1.2.2,hn.1.2.1,hn.1.2.2,hn.2⟩
 have nS:∀ {l:List AV},ZaK l=true→ZaK (Zax l)=true:=fun hl=>numsB_mem.mpr fun x hx=>numsB_mem.mp hl x (mem_sort.mp hx)
 have e3:Zbr a b xs=P++Zax (X++V)++Zax (U++Y)++S:=by
  rw[ZiH (P:=P) (Z:=X++U++(V++Y)) (S:=S) (by rw[hxs];simp) lP (by simp;omega),ZfG X U V Y (by rw[←eL];exact hs1) (by rw[←eR];exact hs2) cVU cXY]
  simp
 have i1:((mid:Int)+m)-s=(e:Int):=by omega
 rw[e3]
 refine ZCq hC hK xs (P++X++V++U++Y++S) (P++Zax (X++V)++U++Y++S) _ a m b mid (mid+m) s s p (by omega) (by omega) ?_ ?_ ?_
 ·rw[i1]
  split
  ·rename_i hc
   refine⟨?_,?_⟩
   ·unfold ZnL
    rw[hn]
    simp only[Bool.and_true,decide_eq_true_eq]
    omega
   ·rw[Int.toNat_natCast,Int.toNat_natCast,Int.toNat_natCast,ZBG (P:=P++X) (U:=U) (V:=V) (S:=Y++S) (by rw[hxs];simp) (by simp;omega) (by simp;omega) (by simp;omega)]
    simp
  ·rename_i hc
   rcases Nat.lt_or_ge s m with hsm |hsm
   ·have:V=[]:=List.eq_nil_of_length_eq_zero (by omega)
    rw[hxs,this];simp
   ·have:U=[]:=List.eq_nil_of_length_eq_zero (by omega)
    rw[hxs,this];simp
 ·split
  ·rename_i hc
   refine⟨Zw0 (P:=P) (X:=X) (V:=V) (S:=U++Y++S) (by simp) lP (by omega) (by omega) (by omega) (by omega) (by simp;omega) ?_ sX sV (by omega),?_⟩
   ·simp only[Zbj,n4,Bool.and_self]
   ·rw[Int.toNat_natCast,Int.toNat_natCast,ZiH (P:=P) (Z:=X++V) (S:=U++Y++S) (by simp) lP (by simp;omega)]
    simp
  ·rename_i hc
   have:Zax (X++V)=X++V:=by
    rcases Nat.lt_or_ge a s with hsm |hsm
    ·have:V=[]:=List.eq_nil_of_length_eq_zero (by omega)
     rw[this,List.append_nil,Zbq sX]
    ·have:X=[]:=List.eq_nil_of_length_eq_zero (by omega)
     rw[this,List.nil_append,Zbq sV]
   rw[this];simp
 ·rw[i1]
  have lZ:(Zax (X++V)).length=X.length+V.length:=by rw[Zcu];simp
  split
  ·rename_i hc
   refine⟨Zw0 (P:=P++Zax (X++V)) (X:=U) (V:=Y) (S:=S) (by simp) (by simp;omega) (by simp;omega) (by simp;omega) (by omega) (by omega) (by simp;omega) ?_ sU sY (by omega),?_⟩
   ·have:=nS (l:=X++V) (by simp only[Zbj,n4,Bool.and_self])
    simp only[Zbj,n4,this,Bool.and_self]
   ·rw[Int.toNat_natCast,Int.toNat_natCast,ZiH (P:=P++Zax (X++V)) (Z:=U++Y) (S:=S) (by simp) (by simp;omega) (by simp;omega)]
  ·rename_i hc
   have:Zax (U++Y)=U++Y:=by
    rcases Nat.lt_or_ge mid e with hsm |hsm
    ·have:Y=[]:=List.eq_nil_of_length_eq_zero (by omega)
     rw[this,List.append_nil,Zbq sU]
    ·have:U=[]:=List.eq_nil_of_length_eq_zero (by omega)
     rw[this,List.nil_append,Zbq sY]
   rw[this];simp
end Go.Proofs.Ytjhdnpmojhkbjaa
/- A merge with one element on a side. No condition. -/
namespace Go.Proofs.Ytjhdnpmojhkbjaa
theorem Zrg{C:Ctx}(hC:C.P=Try.prog){N:Nat}(hK:Zap Try.prog (BO5 N)){Q:List AFrame→Zaa→Prop}(xs:List AV)(a lo hi:Int)(hL:xs.length<1000000)(h0:0≤lo)(hhi:hi≤xs.length)(ha:0≤a)(ha2:a<xs.length)
 (hq:∀st:Int,lo≤st→st≤hi→(lo<st→kAt xs (st-1)<kAt xs a)→(st<hi→kAt xs a≤kAt xs st)→Ev C (Zc7 st a []) (Zcq st a xs) Q):
 ∀(d:Nat) (s r:Int),(r-s).toNat≤d→lo≤s→s≤r→r≤hi→(lo<s→kAt xs (s-1)<kAt xs a)→(r<hi→kAt xs a≤kAt xs r)→Ev C (Zb5 xs a s r) (ZbS xs a s r) Q:=by
 intro d
 have hfin:∀s:Int,lo≤s→s≤hi→(lo<s→kAt xs (s-1)<kAt xs a)→(s<hi→kAt xs a≤kAt xs s)→Ev C (Zb5 xs a s s) (ZbS xs a s s) Q:=fun s h1 h3 h4 h5=>
  go hC hK (ZCx std N xs a s s) (by simp) (hq s h1 h3 h4 h5)
 induction d with
 |zero=>
  intro s r hd h1 h2 h3 h4 h5
  have:s=r:=by omega
  subst this
  exact hfin s h1 h3 h4 h5
 |succ d ih=>
  intro s r hd h1 h2 h3 h4 h5
  by_cases he:s=r
  ·subst he
   exact hfin s h1 h3 h4 h5
  ·have hc:std.shr (std.add s r) 1=(s+r)/2:=ZJN _
   obtain⟨c,hcd⟩:∃c,c=(s+r)/2:=⟨_,rfl⟩
   rw[←hcd]at hc
   have hc1:s≤c:=by omega
   have hc2:c<r:=by omega
   have u:std.inR .u64 (std.add s r)=true:=decide_eq_true ⟨show (0:Int)≤s+r by omega,show s+r≤18446744073709551615 by omega⟩
   have hk:decide (ZhN (AV.toI (AV.cellAt (xs.getD c.toNat .top) 4)) (AV.toI (AV.cellAt (xs.getD a.toNat .top) 4))<0)=decide (kAt xs c<kAt xs a):=ZfN _ _
   by_cases hlt:kAt xs c<kAt xs a
   ·have hw:=ZDR std N xs a s r
    simp only[hc,ZaC,Zar,Zfj,hk]at hw
    refine go hC hK hw ?_ (ih (c+1) r (by omega) (by omega) (by omega) h3 (fun _=>by rw[show c+1-1=c by omega];exact hlt) h5)
    simp only[u]
    simp[hlt]
    omega
   ·have hw:=ZEb std N xs a s r
    simp only[hc,ZaC,Zar,Zfj,hk]at hw
    refine go hC hK hw ?_ (ih s c (by omega) h1 hc1 (by omega) h4 fun _=>by omega)
    simp only[u]
    simp[hlt]
    omega
theorem ZrS{C:Ctx}(hC:C.P=Try.prog){N:Nat}(hK:Zap Try.prog (BO5 N)){Q:List AFrame→Zaa→Prop}(xs:List AV)(m lo hi:Int)(hL:xs.length<1000000)(h0:0≤lo)(hhi:hi≤xs.length)(ha:0≤m)(ha2:m<xs.length)
 (hq:∀st:Int,lo≤st→st≤hi→(lo<st→kAt xs (st-1)≤kAt xs m)→(st<hi→kAt xs m<kAt xs st)→Ev C (Zc1 st m []) (Zcv st m xs) Q):
 ∀(d:Nat) (s r:Int),(r-s).toNat≤d→lo≤s→s≤r→r≤hi→(lo<s→kAt xs (s-1)≤kAt xs m)→(r<hi→kAt xs m<kAt xs r)→Ev C (Zb8 xs m s r) (ZbL xs m s r) Q:=by
 intro d
 have hfin:∀s:Int,lo≤s→s≤hi→(lo<s→kAt xs (s-1)≤kAt xs m)→(s<hi→kAt xs m<kAt xs s)→Ev C (Zb8 xs m s s) (ZbL xs m s s) Q:=fun s h1 h3 h4 h5=>
  go hC hK (ZEV std N xs m s s) (by simp) (hq s h1 h3 h4 h5)
 induction d with
 |zero=>
  intro s r hd h1 h2 h3 h4 h5
  have:s=r:=by omega
  subst this
  exact hfin s h1 h3 h4 h5
 |succ d ih=>
  intro s r hd h1 h2 h3 h4 h5
  by_cases he:s=r
  ·subst he
   exact hfin s h1 h3 h4 h5
  ·have hc:std.shr (std.add s r) 1=(s+r)/2:=ZJN _
   obtain⟨c,hcd⟩:∃c,c=(s+r)/2:=⟨_,rfl⟩
   rw[←hcd]at hc
   have hc1:s≤c:=by omega
   have hc2:c<r:=by omega
   have u:std.inR .u64 (std.add s r)=true:=decide_eq_true ⟨show (0:Int)≤s+r by omega,show s+r≤18446744073709551615 by omega⟩
   have hk:decide (ZhN (AV.toI (AV.cellAt (xs.getD m.toNat .top) 4)) (AV.toI (AV.cellAt (xs.getD c.toNat .top) 4))<0)=decide (kAt xs m<kAt xs c):=ZfN _ _
   by_cases hlt:kAt xs m<kAt xs c
   ·have hw:=ZHP std N xs m s r
    simp only[hc,ZaC,Zar,Zfj,hk]at hw
    refine go hC hK hw ?_ (ih s c (by omega) h1 hc1 (by omega) h4 fun _=>hlt)
    simp only[u]
    simp[hlt]
    omega
   ·have hw:=ZIP std N xs m s r
    simp only[hc,ZaC,Zar,Zfj,hk]at hw
    refine go hC hK hw ?_ (ih (c+1) r (by omega) (by omega) (by omega) h3 (fun _=>by rw[show c+1-1=c by omega];omega) h5)
    simp only[u]
    simp[hlt]
    omega
theorem Zz8(T q:List AV)(x y:AV)(j:Nat)(hj:j=T.length):((T++x::y::q).set j y).set (j+1) x=T++y::x::q:=by
 subst hj
 rw[List.set_append_right _ _ (Nat.le_refl _),List.set_append_right _ _ (by omega),Nat.sub_self,Nat.add_sub_cancel_left];rfl
theorem ZtM(T q:List AV)(x y:AV)(j:Nat)(hj:j=T.length):((T++x::y::q).set (j+1) x).set j y=T++y::x::q:=by
 subst hj
 rw[List.set_append_right _ _ (by omega),List.set_append_right _ _ (by omega),Nat.sub_self,Nat.add_sub_cancel_left];rfl
theorem ZpR{C:Ctx}(hC:C.P=Try.prog){N:Nat}(hK:Zap Try.prog (BO5 N))(x:AV)(S R:List AV)(hx:Zmw x=x):∀(V P:List AV) (i:Int),i=(P.length:Int)+V.length+1→P.length+V.length+S.length+1<1000000→(∀y∈V,Zmw y=y)→P++V++[x]++S=R→
 Ev C (Zc7 i (P.length:Int) []) (Zcq i (P.length:Int) (P++[x]++V++S)) (Zh1 140 140 5 (.big shN R) (.tup [])):=by
 intro V
 induction V with
 |nil=>
  intro P i hi hl _ hR
  subst hi
  have hw:=ZzE std N ((P.length:Int)+([]:List AV).length+1) P.length (P++[x]++[]++S)
  rw[show P++[x]++[]++S=R by rw[←hR];simp]at hw⊢
  exact Zd7 hC hK hw (by simp;omega) rfl rfl rfl rfl
 |cons y V ih=>
  intro P i hi hl hv hR
  have hy:Zmw y=y:=hv y (by simp)
  have hw:=ZAb std N i P.length (P++[x]++(y::V)++S)
  have e0:P++[x]++(y::V)++S=P++x::y::(V++S):=by simp
  rw[e0]at hw⊢
  have g1:(P++x::y::(V++S)).getD P.length .top=x:=ZeV _ _ _ _ rfl
  have g2:(P++x::y::(V++S)).getD (P.length+1) .top=y:=by
   rw[show P++x::y::(V++S)=(P++[x])++y::(V++S) by simp]
   exact ZeV _ _ _ _ (by simp)
  have e1:((P.length:Int)+1).toNat=P.length+1:=by omega
  simp only[ZaC,Zar,ZjR,ZbT,e1,g1,g2,Int.toNat_natCast]at hw
  rw[show (AV.agg (Row.gen [AV.int .i64 (AV.toI (AV.cellAt x 0)),AV.int .i64 (AV.toI (AV.cellAt x 1)),AV.int .i64 (AV.toI (AV.cellAt x 2)),AV.list (.ints .i64 (AV.toIs (AV.cellAt x 3))),AV.int .i64 (AV.toI (AV.cellAt x 4))]))=x from hx,show(AV.agg (Row.gen [AV.int .i64 (AV.toI (AV.cellAt y 0)),AV.int .i64 (AV.toI (AV.cellAt y 1)),AV.int .i64 (AV.toI (AV.cellAt y 2)),AV.list (.ints .i64 (AV.toIs (AV.cellAt y 3))),AV.int .i64 (AV.toI (AV.cellAt y 4))]))=y from hy,Zz8 P (V++S) x y P.length rfl]at hw
  refine go hC hK hw ?_ ?_
  ·simp only[List.length_cons]at hi hl
   simp
   omega
  ·have:=ih (P++[y]) i (by rw[hi];simp;omega) (by simp at hl ⊢;omega) (fun z hz=>hv z (by simp[hz])) (by rw[←hR];simp)
   have e2:((P++[y]).length:Int)=(P.length:Int)+1:=by simp
   rw[e2,show P++[y]++[x]++V++S=P++y::x::(V++S) by simp]at this
   exact this
theorem Zri{C:Ctx}(hC:C.P=Try.prog){N:Nat}(hK:Zap Try.prog (BO5 N))(y:AV)(P R:List AV)(hy:Zmw y=y):∀(n:Nat) (U S:List AV) (k:Int),U.length=n→k=(P.length:Int)+U.length→P.length+U.length+S.length+1<1000000→(∀z∈U,Zmw z=z)→P++[y]++U++S=R→
 Ev C (Zc1 (P.length:Int) k []) (Zcv (P.length:Int) k (P++U++[y]++S)) (Zh1 140 140 5 (.big shN R) (.tup [])):=by
 intro n
 induction n with
 |zero=>
  intro U S k hU hk hl _ hR
  have:U=[]:=List.eq_nil_of_length_eq_zero hU
  subst this;subst hk
  have hw:=Zy4 std N P.length ((P.length:Int)+([]:List AV).length) (P++[]++[y]++S)
  rw[show P++[]++[y]++S=R by rw[←hR];simp]at hw⊢
  exact Zd7 hC hK hw (by simp) rfl rfl rfl rfl
 |succ n ih=>
  intro U S k hU hk hl hv hR
  rcases List.eq_nil_or_concat U with rfl |⟨T,x,rfl⟩
  ·simp at hU
  ·rw[List.concat_eq_append]at*
   have hx:Zmw x=x:=hv x (by simp)
   have hT:T.length=n:=by simpa using hU
   have e0:P++(T++[x])++[y]++S=(P++T)++x::y::S:=by simp
   have hk':k=((P++T).length:Int)+1:=by rw[hk];simp;omega
   subst hk'
   have hw:=ZAP std N P.length (((P++T).length:Int)+1) (P++(T++[x])++[y]++S)
   rw[e0]at hw⊢
   have g1:((P++T)++x::y::S).getD (P++T).length .top=x:=ZeV _ _ _ _ rfl
   have g2:((P++T)++x::y::S).getD ((P++T).length+1) .top=y:=by
    rw[show (P++T)++x::y::S=(P++T++[x])++y::S by simp]
    exact ZeV _ _ _ _ (by rw[List.length_append (bs:=[x])];rfl)
   have e1:(((P++T).length:Int)+1).toNat=(P++T).length+1:=by omega
   have e2:(((P++T).length:Int)+1)-1=(P++T).length:=by omega
   simp only[ZaC,Zar,ZjR,ZaW,e1,e2,g1,g2,Int.toNat_natCast]at hw
   rw[show (AV.agg (Row.gen [AV.int .i64 (AV.toI (AV.cellAt x 0)),AV.int .i64 (AV.toI (AV.cellAt x 1)),AV.int .i64 (AV.toI (AV.cellAt x 2)),AV.list (.ints .i64 (AV.toIs (AV.cellAt x 3))),AV.int .i64 (AV.toI (AV.cellAt x 4))]))=x from hx,show(AV.agg (Row.gen [AV.int .i64 (AV.toI (AV.cellAt y 0)),AV.int .i64 (AV.toI (AV.cellAt y 1)),AV.int .i64 (AV.toI (AV.cellAt y 2)),AV.list (.ints .i64 (AV.toIs (AV.cellAt y 3))),AV.int .i64 (AV.toI (AV.cellAt y 4))]))=y from hy,ZtM (P++T) S x y (P++T).length rfl]at hw
   refine go hC hK hw ?_ ?_
   ·simp at hl
    simp
    omega
   ·have:=ih T ([x]++S) ((P++T).length:Int) hT (by simp) (by simp at hl ⊢;omega) (fun z hz=>hv z (by simp[hz])) (by rw[←hR];simp)
    rw[show P++T++[y]++([x]++S)=(P++T)++y::x::S by simp]at this
    exact this
end Go.Proofs.Ytjhdnpmojhkbjaa
/- The merge proved by its size. No condition. -/
namespace Go.Proofs.Ytjhdnpmojhkbjaa
theorem ZrX(xs:List AV)(k:Nat)(h:k<xs.length):(xs.take (k+1)).drop k=[xs.getD k .top]:=by
 have:=ZkN xs k k (Nat.le_refl _) h
 rw[this];simp
theorem Zub{N:Nat}(hK:Zap Try.prog (BO5 N))(xs:List AV)(a m b:Nat)(h1:a<m)(h2:m<b)(h3:b≤xs.length)(hL:xs.length<1000000)(hN:b-a≤N)(hn:ZaK xs=true)(hs1:Za5 ((xs.take m).drop a))(hs2:Za5 ((xs.take b).drop m)):
 Zmo Try.prog 140 140 5 (.big shN xs) (.big shN (Zbr a b xs)) [.int .i64 a, .int .i64 m, .int .i64 b, .fn 119 []] (.tup []):=
 Zhm (Ztt xs a m b) fun C hC=>by
  have hv:∀y∈xs,Zmw y=y:=fun y hy=>ZmH (List.all_eq_true.mp hn y hy)
  have hsub:∀ {i j:Nat} {y:AV},y∈(xs.take j).drop i→y∈xs:=fun hy=>List.mem_of_mem_take (List.mem_of_mem_drop hy)
  have hcut:=ZJ2 xs a m b (by omega) (by omega)
  have lP:(xs.take a).length=a:=by simp;omega
  have lS:(xs.drop b).length=xs.length-b:=by simp
  by_cases c1:m-a=1
  ·have hm:m=a+1:=by omega
   subst hm
   refine go hC hK (ZCo std N xs a (a+1:Nat) b) (by simp;omega) ?_
   refine Zrg hC hK xs a ((a+1:Nat):Int) b hL (by omega) (by omega) (by omega) (by omega) (fun st q1 q2 q3 q4=>?_) _ ((a+1:Nat):Int) b (Nat.le_refl _) (Int.le_refl _) (by omega) (Int.le_refl _) (fun h=>absurd h (Int.lt_irrefl _)) (fun h=>absurd h (Int.lt_irrefl _))
   obtain⟨s,rfl⟩:=Int.eq_ofNat_of_zero_le (by omega:0≤st)
   have lV:=Zbu xs (a+1) s (by omega)
   have e1:=ZrX xs a (by omega)
   have e2:=Zkd xs (a+1) s b (by omega) (by omega)
   rw[e1,←e2]at hcut
   have hR:xs.take a++(xs.take s).drop (a+1)++[xs.getD a .top]++((xs.take b).drop s++xs.drop b)=Zbr a b xs:=by
    rw[ZiH (P:=xs.take a) (Z:=[]++[xs.getD a .top]++((xs.take s).drop (a+1)++(xs.take b).drop s)) (S:=xs.drop b) (by rw[List.nil_append,←List.append_assoc (xs.take a)];exact hcut.symm) lP (by simp only[List.length_append,lP,Zbu xs (a+1) s (by omega),Zbu xs s b (by omega)];simp;omega)]
    have sV:Za5 ((xs.take s).drop (a+1)):=Za9 (by omega) fun k l r1 r2 r3=>ZaS (by omega) hs2 r1 r2 (by omega)
    have sW:Za5 ((xs.take b).drop s):=Za9 (by omega) fun k l r1 r2 r3=>ZaS (by omega) hs2 (by omega) r2 (by omega)
    have hxW:∀w∈(xs.take b).drop s,Zav (xs.getD a .top)≤Zav w:=by
     intro w hw
     obtain⟨k,k1,k2,k3⟩:=ZeA (by omega) hw
     have t1:=ZaS (by omega) hs2 (show a+1≤s by omega) k1 k2
     have t2:=q4 (by omega)
     rw[k3]
     have:kAt xs (a:Int)=Zav (xs.getD a .top):=by rw[kAt,Int.toNat_natCast]
     omega
    have hVx:∀v∈(xs.take s).drop (a+1),∀u∈[xs.getD a .top],Zav v<Zav u:=by
     intro v hv u hu
     rw[List.mem_singleton]at hu
     subst hu
     obtain⟨k,k1,k2,k3⟩:=ZeA (by omega) hv
     have t1:=ZaS (by omega) hs2 k1 (show k≤s-1 by omega) (by omega)
     have t2:=q3 (by omega)
     rw[k3]
     have:kAt xs (a:Int)=Zav (xs.getD a .top):=by rw[kAt,Int.toNat_natCast]
     rw[show (s:Int)-1=((s-1:Nat):Int) by omega]at t2
     omega
    rw[ZfG [] [xs.getD a .top] _ _ (by simp[Za5]) (by rw[e2];exact hs2) hVx (by simp),List.nil_append,Zbq sV,Zbq (l:=[xs.getD a .top]++(xs.take b).drop s) (List.pairwise_cons.mpr ⟨hxW,sW⟩)]
    simp
   have:=ZpR hC hK (xs.getD a .top) ((xs.take b).drop s++xs.drop b) (Zbr a b xs) (ZdR hn (by omega)) ((xs.take s).drop (a+1)) (xs.take a) s (by rw[lP,lV];omega) (by rw[lP,lV,List.length_append,Zbu xs s b (by omega),lS];omega) (fun y hy=>hv y (hsub hy)) hR
   rw[lP,show xs.take a++[xs.getD a .top]++(xs.take s).drop (a+1)++((xs.take b).drop s++xs.drop b)=xs by rw[←List.append_assoc];rw[List.append_assoc (xs.take a++_)];exact hcut]at this
   exact this
  ·by_cases c2:b-m=1
   ·have hb:b=m+1:=by omega
    subst hb
    refine go hC hK (ZFn std N xs a m (m+1:Nat)) (by simp;omega) ?_
    refine ZrS hC hK xs m a m hL (by omega) (by omega) (by omega) (by omega) (fun st q1 q2 q3 q4=>?_) _ a m (Nat.le_refl _) (Int.le_refl _) (by omega) (Int.le_refl _) (fun h=>absurd h (Int.lt_irrefl _)) (fun h=>absurd h (Int.lt_irrefl _))
    obtain⟨s,rfl⟩:=Int.eq_ofNat_of_zero_le (by omega:0≤st)
    have lX:=Zbu xs a s (by omega)
    have lU:=Zbu xs s m (by omega)
    have e1:=ZrX xs m (by omega)
    have e2:=Zkd xs a s m (by omega) (by omega)
    rw[e1,←e2]at hcut
    have hR:(xs.take a++(xs.take s).drop a)++[xs.getD m .top]++(xs.take m).drop s++xs.drop (m+1)=Zbr a (m+1) xs:=by
     rw[ZiH (P:=xs.take a) (Z:=(xs.take s).drop a++(xs.take m).drop s++([xs.getD m .top]++[])) (S:=xs.drop (m+1)) (by rw[List.append_nil,←List.append_assoc (xs.take a)];exact hcut.symm) lP (by simp only[List.length_append,lP,lX,lU];simp;omega)]
     have sX:Za5 ((xs.take s).drop a):=Za9 (by omega) fun k l r1 r2 r3=>ZaS (by omega) hs1 r1 r2 (by omega)
     have sU:Za5 ((xs.take m).drop s):=Za9 (by omega) fun k l r1 r2 r3=>ZaS (by omega) hs1 (by omega) r2 (by omega)
     have hm':kAt xs (m:Int)=Zav (xs.getD m .top):=by rw[kAt,Int.toNat_natCast]
     have hXy:∀x∈(xs.take s).drop a,∀y∈[xs.getD m .top],Zav x≤Zav y:=by
      intro x hx y hy
      rw[List.mem_singleton]at hy
      subst hy
      obtain⟨k,k1,k2,k3⟩:=ZeA (by omega) hx
      have t1:=ZaS (by omega) hs1 k1 (show k≤s-1 by omega) (by omega)
      have t2:=q3 (by omega)
      rw[show (s:Int)-1=((s-1:Nat):Int) by omega]at t2
      omega
     have hyU:∀v∈[xs.getD m .top],∀u∈(xs.take m).drop s,Zav v<Zav u:=by
      intro v hv u hu
      rw[List.mem_singleton]at hv
      subst hv
      obtain⟨k,k1,k2,k3⟩:=ZeA (by omega) hu
      have t1:=ZaS (by omega) hs1 (show a≤s by omega) k1 k2
      have t2:=q4 (by omega)
      omega
     rw[ZfG _ _ [xs.getD m .top] [] (by rw[e2];exact hs1) (by simp[Za5]) hyU (by simp),List.append_nil,Zbq sU,Zbq (List.pairwise_append.mpr ⟨sX,by simp,hXy⟩)]
     simp
    have:=Zri hC hK (xs.getD m .top) (xs.take a++(xs.take s).drop a) (Zbr a (m+1) xs) (ZdR hn (by omega)) _ ((xs.take m).drop s) (xs.drop (m+1)) m rfl (by rw[List.length_append,lP,lX,lU];omega) (by rw[List.length_append,lP,lX,lU,lS];omega) (fun y hy=>hv y (hsub hy)) hR
    rw[List.length_append,lP,lX,show a+(s-a)=s by omega,show xs.take a++(xs.take s).drop a++(xs.take m).drop s++[xs.getD m .top]++xs.drop (m+1)=xs by rw[List.append_assoc (xs.take a)];exact hcut]at this
    exact this
   ·obtain⟨mid,hmid⟩:∃mid,mid=(a+b)/2:=⟨_,rfl⟩
    have hc:std.shr ((a:Int)+b) 1=(mid:Int):=by rw[ZJN];omega
    have u:std.inR .u64 ((a:Int)+b)=true:=decide_eq_true ⟨show (0:Int)≤(a:Int)+b by omega,show(a:Int)+b≤18446744073709551615 by omega⟩
    by_cases c3:mid<m
    ·have hw:=ZC0 std N xs a m b
     simp only[ZbT,ZaW,hc]at hw
     refine go hC hK hw (by simp only[u];simp;omega) ?_
     refine Zmn hC hK xs a m b mid ((mid:Int)+m) ((mid:Int)+m-1) ((mid:Int)+m-b) mid hL (by omega) (by omega) (by omega) (by omega) (fun st q1 q2 q3 q4=>?_) _ ((mid:Int)+m-b) mid (Nat.le_refl _) (Int.le_refl _) (by omega) (Int.le_refl _) (fun h=>absurd h (Int.lt_irrefl _)) (fun h=>absurd h (Int.lt_irrefl _))
     obtain⟨s,rfl⟩:=Int.eq_ofNat_of_zero_le (by omega:0≤st)
     refine Zsx hC hK xs a m b mid s (mid+m-s) _ (by omega) (by omega) (by omega) (by omega) h3 (by omega) (by omega) (by omega) hL hn hs1 hs2 hN (fun r1 r2=>?_) (fun r1 r2=>?_)
     ·have:=q4 (by omega)
      rw[show (mid:Int)+m-1-s=((mid+m-s-1:Nat):Int) by omega]at this
      exact this
     ·have:=q3 (by omega)
      rw[show (mid:Int)+m-1-((s:Int)-1)=((mid+m-s:Nat):Int) by omega,show(s:Int)-1=((s-1:Nat):Int) by omega]at this
      exact this
    ·have hw:=ZEX std N xs a m b
     simp only[ZbT,ZaW,hc]at hw
     refine go hC hK hw (by simp only[u];simp;omega) ?_
     refine Zmn hC hK xs a m b mid ((mid:Int)+m) ((mid:Int)+m-1) a m hL (by omega) (by omega) (by omega) (by omega) (fun st q1 q2 q3 q4=>?_) _ a m (Nat.le_refl _) (Int.le_refl _) (by omega) (Int.le_refl _) (fun h=>absurd h (Int.lt_irrefl _)) (fun h=>absurd h (Int.lt_irrefl _))
     obtain⟨s,rfl⟩:=Int.eq_ofNat_of_zero_le (by omega:0≤st)
     refine Zsx hC hK xs a m b mid s (mid+m-s) _ (by omega) (by omega) (by omega) (by omega) h3 (by omega) (by omega) (by omega) hL hn hs1 hs2 hN (fun r1 r2=>?_) (fun r1 r2=>?_)
     ·have:=q4 (by omega)
      rw[show (mid:Int)+m-1-s=((mid+m-s-1:Nat):Int) by omega]at this
      exact this
     ·have:=q3 (by omega)
      rw[show (mid:Int)+m-1-((s:Int)-1)=((mid+m-s:Nat):Int) by omega,show(s:Int)-1=((s-1:Nat):Int) by omega]at this
      exact this
theorem ZyR:∀N,(ZJD N).OK Try.prog:=by
 intro N
 induction N with
 |zero=>
  intro pa args r fr h
  simp only[ZJD]at h
  split at h
  ·simp only[Option.some.injEq,Prod.mk.injEq,decide_eq_true_eq]at h
   obtain⟨h0,_,_⟩:=h
   unfold smB at h0
   simp only[Bool.and_eq_true,decide_eq_true_eq]at h0
   omega
  ·cases h
 |succ N ih=>
  intro pa args r fr h
  simp only[ZJD]at h
  split at h
  ·rename_i xs a m b
   simp only[Option.some.injEq,Prod.mk.injEq,decide_eq_true_eq]at h
   obtain⟨h0,rfl,rfl⟩:=h
   unfold smB at h0
   simp only[Bool.and_eq_true,decide_eq_true_eq]at h0
   obtain⟨⟨⟨⟨g1,g2,g3,g4,g5,g6⟩,g7⟩,g8⟩,g9⟩:=h0
   obtain⟨a,rfl⟩:=Int.eq_ofNat_of_zero_le g1
   obtain⟨m,rfl⟩:=Int.eq_ofNat_of_zero_le (by omega:0≤m)
   obtain⟨b,rfl⟩:=Int.eq_ofNat_of_zero_le (by omega:0≤b)
   exact ZcX (f:=140) rfl (Zub (N:=N) ⟨ih,ZwO⟩ xs a m b (by omega) (by omega) (by omega) g5 (by omega) g7 (sortedB_iff.mp g8) (sortedB_iff.mp g9))
  ·cases h
end Go.Proofs.Ytjhdnpmojhkbjaa
/- The contracts of sorting so far. No condition. -/
namespace Go.Proofs.Ytjhdnpmojhkbjaa
def BO6:List Ctr:=BO5 1000000
theorem Zfm:Zap Try.prog BO6:=⟨ZyR _,ZwO⟩
end Go.Proofs.Ytjhdnpmojhkbjaa
/- Paths of functions, printed by the explorer (Gx). No condition. -/
namespace Go.Proofs.Ytjhdnpmojhkbjaa
set_option maxRecDepth 100000
set_option linter.unusedVariables false
def ZwX(xs:List AV)(n:Int):AFrame:={ fn:=137,N:=63,env:=[(0,AV.row 0 0),(1,AV.int .i64 n),(2,AV.fn 119 [])],todo:=[.code a137.code],defs:=[],rnd:=none,ret:=false,res:=[] }
def ZMb(xs:List AV)(n:Int):List AFrame:=[(ZwX xs n)]
theorem ZtP(xs:List AV)(n:Int):Zak tab 137 [AV.row 0 0,AV.int .i64 n,AV.fn 119 []]=some (ZwX xs n):=rfl
def ZHS(xs:List AV)(n:Int):Zaa:=[(0,{ base:=0,blks:=[Blk.row 140 5 (Row.big (Sh.agg [Sh.int .i64,Sh.int .i64,Sh.int .i64,Sh.ints .i64,Sh.int .i64]) xs)] })]
def Zc5(n n0 n1:Int)(x2:List AV):List AFrame:=[{ fn:=137,N:=63,env:=[(0,AV.row 0 0),(1,AV.int .i64 n),(2,AV.fn 119 []),(6,AV.int .i64 20),(7,AV.int .i64 n0),(8,AV.int .i64 n1)],todo:=.code (ACode.gh [] Zr2)::Zvc,defs:=[],rnd:=none,ret:=false,res:=[] }]
def Zcl(n:Int)(n0:Int)(n1:Int)(x2:List AV):Zaa:=[(0,{ base:=0,blks:=[Blk.row 140 5 (Row.big (Sh.agg [Sh.int .i64,Sh.int .i64,Sh.int .i64,Sh.ints .i64,Sh.int .i64]) x2)] })]
abbrev Zhg(n:Int)(n0:Int)(n1:Int)(x2:List AV):List AFrame×Zaa:=(Zc5 n n0 n1 x2,Zcl n n0 n1 x2)
def Zb4(n:Int)(x3:List AV)(n4:Int):List AFrame:=[{ fn:=137,N:=63,env:=[(0,AV.row 0 0),(1,AV.int .i64 n),(2,AV.fn 119 []),(6,AV.int .i64 n4)],todo:=.code (ACode.gh [] Zr1)::Zxd,defs:=[],rnd:=none,ret:=false,res:=[] }]
def ZbH(n:Int)(x3:List AV)(n4:Int):Zaa:=[(0,{ base:=0,blks:=[Blk.row 140 5 (Row.big (Sh.agg [Sh.int .i64,Sh.int .i64,Sh.int .i64,Sh.ints .i64,Sh.int .i64]) x3)] })]
abbrev ZeF(n:Int)(x3:List AV)(n4:Int):List AFrame×Zaa:=(Zb4 n x3 n4,ZbH n x3 n4)
def ZcT(n n4 n5 n6:Int)(x7:List AV):List AFrame:=[{ fn:=137,N:=63,env:=[(0,AV.row 0 0),(1,AV.int .i64 n),(2,AV.fn 119 []),(6,AV.int .i64 n4),(7,AV.int .i64 n6),(8,AV.int .i64 n5)],todo:=.code (ACode.gh [] ZwU)::ZDC,defs:=[],rnd:=none,ret:=false,res:=[] }]
def Zco(n:Int)(n4:Int)(n5:Int)(n6:Int)(x7:List AV):Zaa:=[(0,{ base:=0,blks:=[Blk.row 140 5 (Row.big (Sh.agg [Sh.int .i64,Sh.int .i64,Sh.int .i64,Sh.ints .i64,Sh.int .i64]) x7)] })]
abbrev Zhc(n:Int)(n4:Int)(n5:Int)(n6:Int)(x7:List AV):List AFrame×Zaa:=(ZcT n n4 n5 n6 x7,Zco n n4 n5 n6 x7)
theorem ZD0(A:Ar)(xs:List AV)(n:Int):Zad A tab BO6 14 [] (ZMb xs n) (ZHS xs n)=
 some (tr [4] [],
  Zhg (n) (0) (20) (xs)):=by kernel_rfl
theorem ZHO(A:Ar)(n n0 n1:Int)(x2:List AV):Zad A tab BO6 33 [true] (Zc5 n n0 n1 x2) (Zcl n n0 n1 x2)=
 some (tr [1,4,4,3] [A.inR .i64 (A.add n1 20),Zab (decide (sgB x2 n0 n1=true)) true,A.le n1 n],
  Zhg (n) (n1) (A.add n1 20) (Zbr (Int.toNat n0) (Int.toNat n1) x2)):=by kernel_rfl
theorem ZGu(A:Ar)(n n0 n1:Int)(x2:List AV):Zad A tab BO6 21 [false] (Zc5 n n0 n1 x2) (Zcl n n0 n1 x2)=
 some (tr [0,4,3] [Zab (decide (sgB x2 n0 n=true)) true,!A.le n1 n],
  ZeF (n) (Zbr (Int.toNat n0) (Int.toNat n) x2) (20)):=by kernel_rfl
theorem ZIf(A:Ar)(n:Int)(x3:List AV)(n4:Int):Zad A tab BO6 22 [true] (Zb4 n x3 n4) (ZbH n x3 n4)=
 some (tr [2,1,3] [A.inR .i64 (A.mul 2 n4),A.lt n4 n],
  Zhc (n) (n4) (A.mul 2 n4) (0) (x3)):=by kernel_rfl
theorem ZEM(A:Ar)(n:Int)(x3:List AV)(n4:Int):ZaY A tab BO6 11 [false] 137 (Zb4 n x3 n4) (ZbH n x3 n4)=
 some (tr [1,3] [!A.lt n4 n],
  AV.tup [],140,5,Row.big (.agg [.int .i64, .int .i64, .int .i64, .ints .i64, .int .i64]) x3):=by kernel_rfl
theorem ZFO(A:Ar)(n n4 n5 n6:Int)(x7:List AV):Zad A tab BO6 38 [true] (ZcT n n4 n5 n6 x7) (Zco n n4 n5 n6 x7)=
 some (tr [1,0,4,2,4,3] [A.inR .i64 (A.add n5 (A.mul 2 n4)),A.inR .i64 (A.mul 2 n4),Zab (decide (smB 1000000 x7 n6 (A.add n6 n4) n5=true)) true,A.inR .i64 (A.add n6 n4),A.le n5 n],
  Zhc (n) (n4) (A.add n5 (A.mul 2 n4)) (n5) (Zbr (Int.toNat n6) (Int.toNat n5) x7)):=by kernel_rfl
theorem ZFh(A:Ar)(n n4 n5 n6:Int)(x7:List AV):Zad A tab BO6 41 [false,true] (ZcT n n4 n5 n6 x7) (Zco n n4 n5 n6 x7)=
 some (tr [1,1,5,4,2,3] [A.inR .i64 (A.mul n4 2),Zab (decide (smB 1000000 x7 n6 (A.add n6 n4) n=true)) true,A.lt (A.add n6 n4) n,A.inR .i64 (A.add n6 n4),!A.le n5 n],
  ZeF (n) (Zbr (Int.toNat n6) (Int.toNat n) x7) (A.mul n4 2)):=by kernel_rfl
theorem Zw5(A:Ar)(n n4 n5 n6:Int)(x7:List AV):Zad A tab BO6 34 [false,false] (ZcT n n4 n5 n6 x7) (Zco n n4 n5 n6 x7)=
 some (tr [1,1,4,2,3] [A.inR .i64 (A.mul n4 2),!A.lt (A.add n6 n4) n,A.inR .i64 (A.add n6 n4),!A.le n5 n],
  ZeF (n) (x7) (A.mul n4 2)):=by kernel_rfl
end Go.Proofs.Ytjhdnpmojhkbjaa
/- Blocks that are sorted. No condition. -/
namespace Go.Proofs.Ytjhdnpmojhkbjaa
theorem ZLR(ys:List AV)(a b:Nat)(h:a≤b):ys.take a++(ys.take b).drop a++ys.drop b=ys:=by
 have:=List.take_append_drop a (ys.take b)
 rw[List.take_take,Nat.min_eq_left h]at this
 rw[this,List.take_append_drop]
theorem ZiR(a b:Nat)(ys:List AV):Zbr a b ys=ys.take a++Zax ((ys.take b).drop a)++ys.drop b:=by unfold Zbr;rfl
theorem ZIY(k:Int)(a b:Nat)(ys:List AV)(h:a≤b):fkN k (Zbr a b ys)=fkN k ys:=by
 conv=>rhs;rw[←ZLR ys a b h]
 rw[ZiR,Zcw,Zcw,Zcw,Zcw,(ZbC _).2]
theorem ZhJ(a b:Nat)(ys:List AV)(h:a≤b):Zax (Zbr a b ys)=Zax ys:=
 Zj9 (ZbC ys).1 fun k=>by rw[(ZbC ys).2,ZIY k a b ys h]
theorem ZcF(a b:Nat)(ys:List AV)(h:a≤b)(hb:b≤ys.length):(Zbr a b ys).length=ys.length:=by
 rw[ZiR];simp only[List.length_append,Zcu,Zbu ys a b hb,List.length_take,List.length_drop];omega
theorem ZhG(a b:Nat)(ys:List AV)(h:a≤b)(hn:ZaK ys=true):ZaK (Zbr a b ys)=true:=by
 rw[←ZLR ys a b h]at hn
 rw[ZiR]
 simp only[Zbj,Bool.and_eq_true]at hn⊢
 exact⟨⟨hn.1.1,numsB_mem.mpr fun x hx=>numsB_mem.mp hn.1.2 x (mem_sort.mp hx)⟩,hn.2⟩
theorem Zki(a b:Nat)(ys:List AV)(h:a≤b)(hb:b≤ys.length)(k:Nat)(hk:k<a∨b≤k):kAt (Zbr a b ys) (k:Int)=kAt ys (k:Int):=by
 unfold kAt
 rw[Int.toNat_natCast,List.getD_eq_getElem?_getD,List.getD_eq_getElem?_getD,ZiR]
 conv=>rhs;rw[←ZLR ys a b h]
 have l1:(ys.take a).length=a:=by simp;omega
 have l2:=Zbu ys a b hb
 have l3:(Zax ((ys.take b).drop a)).length=b-a:=by rw[Zcu,l2]
 rw[List.append_assoc,List.append_assoc]
 rcases hk with hk |hk
 ·rw[List.getElem?_append_left (by omega),List.getElem?_append_left (by omega)]
 ·rw[List.getElem?_append_right (by omega),List.getElem?_append_right (by omega),List.getElem?_append_right (by omega),List.getElem?_append_right (by omega),l3,l2]
theorem ZEg(a b:Nat)(ys:List AV)(h:a≤b)(hb:b≤ys.length):Za5 (((Zbr a b ys).take b).drop a):=by
 rw[ZrH (ZiR a b ys) (by simp;omega) (by simp only[Zcu,Zbu ys a b hb,List.length_take];omega)]
 exact(ZbC _).1
def Zwt(w:Nat)(ys:List AV)(a:Nat):Prop:=∀q k l:Nat,q*w≤k→k≤l→l<q*w+w→l<a→kAt ys k≤kAt ys l
def ZJI(w:Nat)(ys:List AV)(a:Nat):Prop:=∀q k l:Nat,q*w≤k→k≤l→l<q*w+w→a≤k→l<ys.length→kAt ys k≤kAt ys l
theorem Zvo{q p w l:Nat}(h1:q*w≤l)(h2:l<q*w+w)(h3:p*w≤l)(h4:l<p*w+w):q=p:=by
 rcases Nat.lt_trichotomy q p with h |h |h
 ·have:=Nat.mul_le_mul_right w (show q+1≤p from h)
  rw[Nat.succ_mul]at this;omega
 ·exact h
 ·have:=Nat.mul_le_mul_right w (show p+1≤q from h)
  rw[Nat.succ_mul]at this;omega
theorem ZhC{w:Nat}{ys:List AV}{a b p:Nat}(hB:Zwt w ys a)(ha:a=p*w)(h1:a≤b)(h2:b≤a+w)(h3:b≤ys.length):Zwt w (Zbr a b ys) b:=by
 intro q k l q1 q2 q3 q4
 by_cases hl:l<a
 ·rw[Zki a b ys h1 h3 k (.inl (by omega)),Zki a b ys h1 h3 l (.inl hl)]
  exact hB q k l q1 q2 q3 hl
 ·have:q=p:=Zvo (l:=l) (by omega) q3 (by omega) (by omega)
  subst this
  exact ZaS (by rw[ZcF a b ys h1 h3];exact h3) (ZEg a b ys h1 h3) (by omega) q2 q4
theorem ZtQ{w:Nat}{ys:List AV}{a b:Nat}(hR:ZJI w ys a)(h1:a≤b)(h3:b≤ys.length):ZJI w (Zbr a b ys) b:=by
 intro q k l q1 q2 q3 q4 q5
 rw[ZcF a b ys h1 h3]at q5
 rw[Zki a b ys h1 h3 k (.inr q4),Zki a b ys h1 h3 l (.inr (by omega))]
 exact hR q k l q1 q2 q3 (by omega) q5
theorem Zkl{w:Nat}{ys:List AV}{a i j p:Nat}(hR:ZJI w ys a)(hi:i=p*w)(h1:a≤i)(h2:j≤i+w)(h3:j≤ys.length):Za5 ((ys.take j).drop i):=
 Za9 h3 fun k l r1 r2 r3=>hR p k l (by omega) r2 (by omega) (by omega) (by omega)
end Go.Proofs.Ytjhdnpmojhkbjaa
