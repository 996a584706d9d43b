/- Paths of functions, printed by the explorer (Gx). No condition. -/
import Derived.Test.YtjhdnpmojhkbjaaM0
import Derived.KernelRfl
namespace Go.Proofs.Ytjhdnpmojhkbjaa
set_option maxRecDepth 100000
set_option linter.unusedVariables false
def Zvh(a:Int)(b:Int)(c:Int)(d:Int)(a2:Int)(b2:Int)(c2:Int)(e:Int)(xs:Row)(ys:Row):AFrame:={ fn:=119,N:=10,env:=[(0,AV.agg (Row.gen [AV.int .i64 a,AV.int .i64 b,AV.int .i64 c,AV.list xs,AV.int .i64 d])),(1,AV.agg (Row.gen [AV.int .i64 a2,AV.int .i64 b2,AV.int .i64 c2,AV.list ys,AV.int .i64 e]))],todo:=[.code a119.code],defs:=[],rnd:=none,ret:=false,res:=[ARes.tmp 4] }
def ZKw(a:Int)(b:Int)(c:Int)(d:Int)(a2:Int)(b2:Int)(c2:Int)(e:Int)(xs:Row)(ys:Row):List AFrame:=[(Zvh a b c d a2 b2 c2 e xs ys)]
theorem ZsE(a:Int)(b:Int)(c:Int)(d:Int)(a2:Int)(b2:Int)(c2:Int)(e:Int)(xs:Row)(ys:Row):Zam tab 119 [AV.agg (Row.gen [AV.int .i64 a,AV.int .i64 b,AV.int .i64 c,AV.list xs,AV.int .i64 d]),AV.agg (Row.gen [AV.int .i64 a2,AV.int .i64 b2,AV.int .i64 c2,AV.list ys,AV.int .i64 e])]=some (Zvh a b c d a2 b2 c2 e xs ys):=rfl
theorem ZAS(A:Ar)(a b c d a2 b2 c2 e:Int)(xs ys:Row):ZaE A tab BO0 16 [] 119 (ZKw a b c d a2 b2 c2 e xs ys) []=
 some (tr [10] [],
  AV.int .i64 (Zh9 d e),none):=by kernel_rfl
def ZtW(a:Int)(b:Int)(c:Int)(d:Int)(a2:Int)(b2:Int)(c2:Int)(e:Int)(xs:Row)(ys:Row):AFrame:={ fn:=122,N:=10,env:=[(0,AV.agg (Row.gen [AV.int .i64 a,AV.int .i64 b,AV.int .i64 c,AV.list xs,AV.int .i64 d])),(1,AV.agg (Row.gen [AV.int .i64 a2,AV.int .i64 b2,AV.int .i64 c2,AV.list ys,AV.int .i64 e]))],todo:=[.code a122.code],defs:=[],rnd:=none,ret:=false,res:=[ARes.tmp 4] }
def ZJr(a:Int)(b:Int)(c:Int)(d:Int)(a2:Int)(b2:Int)(c2:Int)(e:Int)(xs:Row)(ys:Row):List AFrame:=[(ZtW a b c d a2 b2 c2 e xs ys)]
theorem ZtQ(a:Int)(b:Int)(c:Int)(d:Int)(a2:Int)(b2:Int)(c2:Int)(e:Int)(xs:Row)(ys:Row):Zam tab 122 [AV.agg (Row.gen [AV.int .i64 a,AV.int .i64 b,AV.int .i64 c,AV.list xs,AV.int .i64 d]),AV.agg (Row.gen [AV.int .i64 a2,AV.int .i64 b2,AV.int .i64 c2,AV.list ys,AV.int .i64 e])]=some (ZtW a b c d a2 b2 c2 e xs ys):=rfl
theorem ZGf(A:Ar)(a b c d a2 b2 c2 e:Int)(xs ys:Row):ZaE A tab BO0 16 [] 122 (ZJr a b c d a2 b2 c2 e xs ys) []=
 some (tr [10] [],
  AV.bool (A.eq d e),none):=by kernel_rfl
end Go.Proofs.Ytjhdnpmojhkbjaa
/- Contracts as a list. No condition. -/
namespace Go.Proofs.Ytjhdnpmojhkbjaa
def Zf8(a b:Int):Bool:=decide (a=b)
theorem Zq9(a b c d a2 b2 c2 e:Int)(xs ys:Row):ZaK Try.prog 119 [.agg (.gen [.int .i64 a, .int .i64 b, .int .i64 c, .list xs, .int .i64 d]), .agg (.gen [.int .i64 a2, .int .i64 b2, .int .i64 c2, .list ys, .int .i64 e])] (.int .i64 (Zh9 d e)) none:=
 start (ZsE a b c d a2 b2 c2 e xs ys) fun C hC=>fin hC Zr9 (ZAS std a b c d a2 b2 c2 e xs ys) (by simp) rfl rfl
theorem Zoi(a b c d a2 b2 c2 e:Int)(xs ys:Row):ZaK Try.prog 122 [.agg (.gen [.int .i64 a, .int .i64 b, .int .i64 c, .list xs, .int .i64 d]), .agg (.gen [.int .i64 a2, .int .i64 b2, .int .i64 c2, .list ys, .int .i64 e])] (.bool (Zf8 d e)) none:=
 start (ZtQ a b c d a2 b2 c2 e xs ys) fun C hC=>fin hC Zr9 (ZGf std a b c d a2 b2 c2 e xs ys) (by simp) rfl rfl
def k119:Ctr:=⟨119,0,fun _ a=>match a with |[.agg (.gen [.int .i64 _, .int .i64 _, .int .i64 _, .list _, .int .i64 d]), .agg (.gen [.int .i64 _, .int .i64 _, .int .i64 _, .list _, .int .i64 e])]=>some (true, .int .i64 (Zh9 d e),none) |_=>none⟩
theorem ZAe:k119.OK Try.prog:=fun pa args r fr h=>by
 simp only[k119]at h
 split at h
 ·cases h
  exact Zq9 _ _ _ _ _ _ _ _ _ _
 ·cases h
def k122:Ctr:=⟨122,0,fun _ a=>match a with |[.agg (.gen [.int .i64 _, .int .i64 _, .int .i64 _, .list _, .int .i64 d]), .agg (.gen [.int .i64 _, .int .i64 _, .int .i64 _, .list _, .int .i64 e])]=>some (true, .bool (Zf8 d e),none) |_=>none⟩
theorem Zzs:k122.OK Try.prog:=fun pa args r fr h=>by
 simp only[k122]at h
 split at h
 ·cases h
  exact Zoi _ _ _ _ _ _ _ _ _ _
 ·cases h
def BO1:List Ctr:=[k119,k122]++BO0
theorem Zft:Zap Try.prog BO1:=⟨ZAe,⟨Zzs,Zr9⟩⟩
end Go.Proofs.Ytjhdnpmojhkbjaa
/- Paths of functions, printed by the explorer (Gx). No condition. -/
namespace Go.Proofs.Ytjhdnpmojhkbjaa
set_option maxRecDepth 100000
set_option linter.unusedVariables false
def ZuD(xs:List AV)(a:Int)(b:Int):AFrame:={ fn:=139,N:=53,env:=[(0,AV.row 0 0),(1,AV.int .i64 a),(2,AV.int .i64 b),(3,AV.fn 119 [])],todo:=[.code a139.code],defs:=[],rnd:=none,ret:=false,res:=[] }
def ZI6(xs:List AV)(a:Int)(b:Int):List AFrame:=[(ZuD xs a b)]
theorem Zsh(xs:List AV)(a:Int)(b:Int):Zam tab 139 [AV.row 0 0,AV.int .i64 a,AV.int .i64 b,AV.fn 119 []]=some (ZuD xs a b):=rfl
def ZDd(xs:List AV)(a:Int)(b:Int):Zaa:=[(0,{ base:=0,blks:=[Blk.row 140 5 (Row.big (Sh.agg [Sh.int .i64,Sh.int .i64,Sh.int .i64,Sh.ints .i64,Sh.int .i64]) xs)] })]
def ZbR(a b n0:Int)(x1:List AV):List AFrame:=[{ fn:=139,N:=53,env:=[(0,AV.row 0 0),(1,AV.int .i64 a),(2,AV.int .i64 b),(3,AV.fn 119 []),(8,AV.int .i64 n0)],todo:=.code (ACode.gh [] ZrB)::Zv1,defs:=[],rnd:=none,ret:=false,res:=[] }]
def ZbG(a:Int)(b:Int)(n0:Int)(x1:List AV):Zaa:=[(0,{ base:=0,blks:=[Blk.row 140 5 (Row.big (Sh.agg [Sh.int .i64,Sh.int .i64,Sh.int .i64,Sh.ints .i64,Sh.int .i64]) x1)] })]
abbrev Zd9(a:Int)(b:Int)(n0:Int)(x1:List AV):List AFrame×Zaa:=(ZbR a b n0 x1,ZbG a b n0 x1)
def Zbg(a b n0 n2:Int)(x3:List AV):List AFrame:=[{ fn:=139,N:=53,env:=[(0,AV.row 0 0),(1,AV.int .i64 a),(2,AV.int .i64 b),(3,AV.fn 119 []),(8,AV.int .i64 n0),(9,AV.int .i64 n2)],todo:=.code (ACode.gh [] Zvo)::ZBf,defs:=[],rnd:=none,ret:=false,res:=[] }]
def ZaY(a:Int)(b:Int)(n0:Int)(n2:Int)(x3:List AV):Zaa:=[(0,{ base:=0,blks:=[Blk.row 140 5 (Row.big (Sh.agg [Sh.int .i64,Sh.int .i64,Sh.int .i64,Sh.ints .i64,Sh.int .i64]) x3)] })]
abbrev Zgx(a:Int)(b:Int)(n0:Int)(n2:Int)(x3:List AV):List AFrame×Zaa:=(Zbg a b n0 n2 x3,ZaY a b n0 n2 x3)
theorem Zur(A:Ar)(xs:List AV)(a b:Int):Zad A tab BO1 9 [] (ZI6 xs a b) (ZDd xs a b)=
 some (tr [1,1] [A.inR .i64 (A.add a 1)],
  Zd9 (a) (b) (A.add a 1) (xs)):=by kernel_rfl
theorem ZFE(A:Ar)(a b n0:Int)(x1:List AV):Zad A tab BO1 20 [true] (ZbR a b n0 x1) (ZbG a b n0 x1)=
 some (tr [2,3] [A.lt n0 b],
  Zgx (a) (b) (n0) (n0) (x1)):=by kernel_rfl
theorem Zvl(A:Ar)(a b n0:Int)(x1:List AV):ZaX A tab BO1 11 [false] 139 (ZbR a b n0 x1) (ZbG a b n0 x1)=
 some (tr [1,3] [!A.lt n0 b],
  AV.tup [],140,5,Row.big (.agg [.int .i64, .int .i64, .int .i64, .ints .i64, .int .i64]) x1):=by kernel_rfl
theorem ZD9(A:Ar)(a b n0 n2:Int)(x3:List AV):Zad A tab BO1 18 [true,true] (Zbg a b n0 n2 x3) (ZaY a b n0 n2 x3)=
 some (tr [1,1,0,0,0,0,0,2,0,0,2,4,3,0,0,2,0,3,4] [A.inR .i64 (A.sub n2 1),Zab (Nat.blt (A.nat (A.sub n2 1)) (A.lenA (A.setA x3 (A.nat n2) (AV.agg (Row.gen [.int .i64 ((A.nthA x3 (A.nat (A.sub n2 1))).cellAt 0).toI, .int .i64 ((A.nthA x3 (A.nat (A.sub n2 1))).cellAt 1).toI, .int .i64 ((A.nthA x3 (A.nat (A.sub n2 1))).cellAt 2).toI, .list (.ints .i64 ((A.nthA x3 (A.nat (A.sub n2 1))).cellAt 3).toIs), .int .i64 ((A.nthA x3 (A.nat (A.sub n2 1))).cellAt 4).toI]))))) true,Zab (A.le 0 (A.sub n2 1)) (Nat.blt (A.nat (A.sub n2 1)) (A.lenA (A.setA x3 (A.nat n2) (AV.agg (Row.gen [.int .i64 ((A.nthA x3 (A.nat (A.sub n2 1))).cellAt 0).toI, .int .i64 ((A.nthA x3 (A.nat (A.sub n2 1))).cellAt 1).toI, .int .i64 ((A.nthA x3 (A.nat (A.sub n2 1))).cellAt 2).toI, .list (.ints .i64 ((A.nthA x3 (A.nat (A.sub n2 1))).cellAt 3).toIs), .int .i64 ((A.nthA x3 (A.nat (A.sub n2 1))).cellAt 4).toI]))))),Zab (Nat.blt (A.nat n2) (A.lenA x3)) true,Zab (A.le 0 n2) (Nat.blt (A.nat n2) (A.lenA x3)),Zab (Nat.blt (A.nat n2) (A.lenA x3)) true,Zab (A.le 0 n2) (Nat.blt (A.nat n2) (A.lenA x3)),Zab (Nat.blt (A.nat (A.sub n2 1)) (A.lenA x3)) true,Zab (A.le 0 (A.sub n2 1)) (Nat.blt (A.nat (A.sub n2 1)) (A.lenA x3)),A.inR .i64 (A.sub n2 1),A.inR .i64 (A.sub n2 1),A.lt (Zh9 ((A.nthA x3 (A.nat n2)).cellAt 4).toI ((A.nthA x3 (A.nat (A.sub n2 1))).cellAt 4).toI) 0,Zab (Nat.blt (A.nat (A.sub n2 1)) (A.lenA x3)) true,Zab (A.le 0 (A.sub n2 1)) (Nat.blt (A.nat (A.sub n2 1)) (A.lenA x3)),A.inR .i64 (A.sub n2 1),Zab (Nat.blt (A.nat n2) (A.lenA x3)) true,Zab (A.le 0 n2) (Nat.blt (A.nat n2) (A.lenA x3)),A.lt a n2],
  Zgx (a) (b) (n0) (A.sub n2 1) (A.setA (A.setA x3 (A.nat n2) (AV.agg (Row.gen [.int .i64 ((A.nthA x3 (A.nat (A.sub n2 1))).cellAt 0).toI, .int .i64 ((A.nthA x3 (A.nat (A.sub n2 1))).cellAt 1).toI, .int .i64 ((A.nthA x3 (A.nat (A.sub n2 1))).cellAt 2).toI, .list (.ints .i64 ((A.nthA x3 (A.nat (A.sub n2 1))).cellAt 3).toIs), .int .i64 ((A.nthA x3 (A.nat (A.sub n2 1))).cellAt 4).toI]))) (A.nat (A.sub n2 1)) (AV.agg (Row.gen [.int .i64 ((A.nthA x3 (A.nat n2)).cellAt 0).toI, .int .i64 ((A.nthA x3 (A.nat n2)).cellAt 1).toI, .int .i64 ((A.nthA x3 (A.nat n2)).cellAt 2).toI, .list (.ints .i64 ((A.nthA x3 (A.nat n2)).cellAt 3).toIs), .int .i64 ((A.nthA x3 (A.nat n2)).cellAt 4).toI])))):=by kernel_rfl
theorem ZFS(A:Ar)(a b n0 n2:Int)(x3:List AV):Zad A tab BO1 15 [true,false] (Zbg a b n0 n2 x3) (ZaY a b n0 n2 x3)=
 some (tr [1,1,3,0,0,2,0,3,4] [A.inR .i64 (A.add n0 1),!A.lt (Zh9 ((A.nthA x3 (A.nat n2)).cellAt 4).toI ((A.nthA x3 (A.nat (A.sub n2 1))).cellAt 4).toI) 0,Zab (Nat.blt (A.nat (A.sub n2 1)) (A.lenA x3)) true,Zab (A.le 0 (A.sub n2 1)) (Nat.blt (A.nat (A.sub n2 1)) (A.lenA x3)),A.inR .i64 (A.sub n2 1),Zab (Nat.blt (A.nat n2) (A.lenA x3)) true,Zab (A.le 0 n2) (Nat.blt (A.nat n2) (A.lenA x3)),A.lt a n2],
  Zd9 (a) (b) (A.add n0 1) (x3)):=by kernel_rfl
theorem ZBJ(A:Ar)(a b n0 n2:Int)(x3:List AV):Zad A tab BO1 15 [false,false] (Zbg a b n0 n2 x3) (ZaY a b n0 n2 x3)=
 some (tr [1,15,4] [A.inR .i64 (A.add n0 1),!A.lt a n2],
  Zd9 (a) (b) (A.add n0 1) (x3)):=by kernel_rfl
end Go.Proofs.Ytjhdnpmojhkbjaa
/- Contracts as a list. No condition. -/
namespace Go.Proofs.Ytjhdnpmojhkbjaa
def Zaw(x:AV):Int:=(AV.cellAt x 4).toI
abbrev shN:Sh:=.agg [.int .i64, .int .i64, .int .i64, .ints .i64, .int .i64]
def ZlS(x:AV):AV:=AV.agg (Row.gen [AV.int .i64 (AV.toI (AV.cellAt x 0)),AV.int .i64 (AV.toI (AV.cellAt x 1)),AV.int .i64 (AV.toI (AV.cellAt x 2)),AV.list (.ints .i64 (AV.toIs (AV.cellAt x 3))),AV.int .i64 (AV.toI (AV.cellAt x 4))])
def isN:AV→Bool
 | .agg (.gen [.int .i64 _, .int .i64 _, .int .i64 _, .list (.ints .i64 _), .int .i64 _])=>true
 |_=>false
theorem ZlL{x:AV}(h:isN x=true):ZlS x=x:=by
 unfold isN at h
 split at h
 ·rfl
 ·cases h
def ZaH(xs:List AV):Bool:=xs.all isN
theorem Zdw{xs:List AV}(h:ZaH xs=true){j:Nat}(hj:j<xs.length):ZlS (xs.getD j .top)=xs.getD j .top:=by
 have:isN (xs.getD j .top)=true:=by
  rw[List.getD_eq_getElem?_getD,List.getElem?_eq_getElem hj]
  exact List.all_eq_true.mp h _ (List.getElem_mem hj)
 exact ZlL this
def Zd0(x:AV):List AV→List AV
 |[]=>[x]
 |y::l=>if Zaw x<Zaw y then y::Zd0 x l else x::y::l
def ZgP(S:List AV)(x:AV):List AV:=(Zd0 x S.reverse).reverse
theorem Zk4(S:List AV)(y x:AV):ZgP (S++[y]) x=if Zaw x<Zaw y then ZgP S x++[y]else S++[y,x]:=by
 unfold ZgP
 rw[List.reverse_append]
 simp only[List.reverse_cons,List.reverse_nil,List.nil_append,List.singleton_append,Zd0]
 split
 ·simp
 ·simp
def Zay(l:List AV):List AV:=l.foldl ZgP []
theorem Zpm(l:List AV)(x:AV):Zay (l++[x])=ZgP (Zay l) x:=by simp[Zay,List.foldl_append]
theorem Zko(x:AV):∀l:List AV,(Zd0 x l).length=l.length+1
 |[]=>rfl
 |y::l=>by
  unfold Zd0
  split
  ·simp[Zko x l]
  ·simp
theorem ZsP(S:List AV)(x:AV):(ZgP S x).length=S.length+1:=by simp[ZgP,Zko]
theorem Zcd(l:List AV):(Zay l).length=l.length:=by
 have:∀(l acc:List AV),(l.foldl ZgP acc).length=acc.length+l.length:=by
  intro l
  induction l with
  |nil=>intro acc;simp
  |cons x l ih=>intro acc;rw[List.foldl_cons,ih,ZsP,List.length_cons];omega
 have h:=this l []
 simpa[Zay]using h
def Zbm(a b:Nat)(xs:List AV):List AV:=xs.take a++Zay ((xs.take b).drop a)++xs.drop b
theorem ZfE(a b:Int):decide (Zh9 a b<0)=decide (a<b):=by
 unfold Zh9
 split
 ·rename_i h;simp[h]
 ·split
  ·rename_i h _;simp[h]
  ·rename_i h _;simp[h]
theorem ZpU(p S q:List AV)(y x:AV)(j:Nat)(hj:j=p.length+S.length+1):((p++(S++[y]++[x])++q).set j y).set (j-1) x=p++(S++[x]++[y])++q:=by
 subst hj
 have e1:p++(S++[y]++[x])++q=(p++S)++(y::x::q):=by simp
 have e2:p++(S++[x]++[y])++q=(p++S)++(x::y::q):=by simp
 rw[e1,e2,List.set_append_right _ _ (by rw[List.length_append];omega),List.set_append_right _ _ (by rw[List.length_append];omega)]
 have h1:p.length+S.length+1-(p++S).length=1:=by rw[List.length_append];omega
 have h2:p.length+S.length+1-1-(p++S).length=0:=by simp
 rw[h1,h2];rfl
theorem Zex(T q:List AV)(x:AV)(j:Nat)(hj:j=T.length):(T++x::q).getD j .top=x:=by
 subst hj
 simp[List.getD_eq_getElem?_getD]
theorem ZtU{C:Ctx}(hC:C.P=Try.prog){Q:List AFrame→Zaa→Prop}(xs:List AV)(i a b:Int)(j:Nat){x y:AV}(g1:xs.getD (j+1) .top=x)(g2:xs.getD j .top=y)(hl:j+1<xs.length)(hL:xs.length<1000000)(hx:ZlS x=x)(hy:ZlS y=y)(haj:a≤j)(hk:Zaw x<Zaw y)
 (hq:Ev C (Zbg a b i (j:Int) []) (ZaY a b i (j:Int) ((xs.set (j+1) y).set j x)) Q):Ev C (Zbg a b i ((j:Int)+1) []) (ZaY a b i ((j:Int)+1) xs) Q:=by
 have e1:((j:Int)+1).toNat=j+1:=by omega
 have e2:(j:Int)+1-1=j:=by omega
 have hw:=ZD9 std a b i ((j:Int)+1) xs
 simp only[ZaB,Zau,Zk3,ZaD,e1,e2,g1,g2,Int.toNat_natCast]at hw
 rw[show (AV.agg (Row.gen [AV.int .i64 (AV.toI (AV.cellAt x 0)),AV.int .i64 (AV.toI (AV.cellAt x 1)),AV.int .i64 (AV.toI (AV.cellAt x 2)),AV.list (.ints .i64 (AV.toIs (AV.cellAt x 3))),AV.int .i64 (AV.toI (AV.cellAt x 4))]))=x from hx,show(AV.agg (Row.gen [AV.int .i64 (AV.toI (AV.cellAt y 0)),AV.int .i64 (AV.toI (AV.cellAt y 1)),AV.int .i64 (AV.toI (AV.cellAt y 2)),AV.list (.ints .i64 (AV.toIs (AV.cellAt y 3))),AV.int .i64 (AV.toI (AV.cellAt y 4))]))=y from hy]at hw
 have hk':Zh9 (AV.toI (AV.cellAt x 4)) (AV.toI (AV.cellAt y 4))<0:=by
  have:=ZfE (Zaw x) (Zaw y)
  rw[decide_eq_true hk]at this
  exact of_decide_eq_true this
 refine go hC Zft hw ?_ hq
 have r1:std.inR .i64 (j:Int)=true:=by simp;omega
 simp[hk',hl]
 omega
theorem Zsi{C:Ctx}(hC:C.P=Try.prog){Q:List AFrame→Zaa→Prop}(xs:List AV)(i a b:Int)(j:Nat){x y:AV}(g1:xs.getD (j+1) .top=x)(g2:xs.getD j .top=y)(hl:j+1<xs.length)(hL:xs.length<1000000)(haj:a≤j)(hi0:0≤i)(hi1:i<1000000)(hk:¬Zaw x<Zaw y)
 (hq:Ev C (ZbR a b (i+1) []) (ZbG a b (i+1) xs) Q):Ev C (Zbg a b i ((j:Int)+1) []) (ZaY a b i ((j:Int)+1) xs) Q:=by
 have e1:((j:Int)+1).toNat=j+1:=by omega
 have e2:(j:Int)+1-1=j:=by omega
 have hw:=ZFS std a b i ((j:Int)+1) xs
 simp only[ZaB,Zau,ZaD,e1,e2,g1,g2,Int.toNat_natCast]at hw
 have hk':¬Zh9 (AV.toI (AV.cellAt x 4)) (AV.toI (AV.cellAt y 4))<0:=by
  have:=ZfE (Zaw x) (Zaw y)
  rw[decide_eq_false hk]at this
  exact of_decide_eq_false this
 refine go hC Zft hw ?_ hq
 simp[hk',hl]
 omega
theorem ZsF{C:Ctx}(hC:C.P=Try.prog){Q:List AFrame→Zaa→Prop}(p q:List AV)(x:AV)(i b:Int)(a:Nat)(ha:p.length=a)(hx:ZlS x=x)(hi1:i<1000000)(hi0:0≤i):∀(n:Nat) (S S2:List AV),S.length=n→(∀y∈S,ZlS y=y)→p.length+S.length+S2.length+q.length+1<1000000→
 (∀R,R=ZgP S x→Ev C (ZbR a b (i+1) []) (ZbG a b (i+1) (p++R++(S2++q))) Q)→
 Ev C (Zbg a b i ((a+S.length:Nat):Int) []) (ZaY a b i ((a+S.length:Nat):Int) (p++(S++[x])++(S2++q))) Q:=by
 intro n
 induction n with
 |zero=>
  intro S S2 hn hS hl hq
  cases S with
  |cons y S=>simp at hn
  |nil=>
   refine go hC Zft (ZBJ std a b i _ _) (by simp;omega) ?_
   exact hq _ rfl
 |succ n ih=>
  intro S S2 hn hS hl hq
  rcases List.eq_nil_or_concat S with rfl |⟨T,y,rfl⟩
  ·simp at hn
  ·rw[List.concat_eq_append]at hn hS hl hq⊢
   have hy:ZlS y=y:=hS y (by simp)
   have hT:T.length=n:=by simpa using hn
   have hl':p.length+(T.length+1)+S2.length+q.length+1<1000000:=by simpa using hl
   have g1:(p++(T++[y]++[x])++(S2++q)).getD (a+T.length+1) .top=x:=by
    rw[show p++(T++[y]++[x])++(S2++q)=(p++T++[y])++x::(S2++q) by simp]
    exact Zex _ _ _ _ (by simp[ha];omega)
   have g2:(p++(T++[y]++[x])++(S2++q)).getD (a+T.length) .top=y:=by
    rw[show p++(T++[y]++[x])++(S2++q)=(p++T)++y::x::(S2++q) by simp]
    exact Zex _ _ _ _ (by simp[ha])
   have gl:(p++(T++[y]++[x])++(S2++q)).length=a+T.length+2+(S2.length+q.length):=by simp[ha];omega
   have e3:((a+(T++[y]).length:Nat):Int)=(a+T.length:Nat)+1:=by simp;omega
   rw[e3]
   by_cases hk:Zaw x<Zaw y
   ·refine ZtU hC _ i a b (a+T.length) g1 g2 (by rw[gl];omega) (by rw[gl];omega) hx hy (by omega) hk ?_
    have:=ZpU p T (S2++q) y x (a+T.length+1) (by omega)
    rw[Nat.add_sub_cancel]at this
    rw[this,show p++(T++[x]++[y])++(S2++q)=p++(T++[x])++((y::S2)++q) by simp]
    refine ih T (y::S2) hT (fun z hz=>hS z (by simp[hz])) (by simp;omega) fun R hR=>?_
    have:=hq (R++[y]) (by rw[Zk4,if_pos hk,hR])
    simpa using this
   ·refine Zsi hC _ i a b (a+T.length) g1 g2 (by rw[gl];omega) (by rw[gl];omega) (by omega) hi0 hi1 hk ?_
    have:=hq (T++[y]++[x]) (by rw[Zk4,if_neg hk];simp)
    exact this
theorem ZjE(xs:List AV)(a k:Nat)(ha:a≤k)(hk:k<xs.length):(xs.take (k+1)).drop a=(xs.take k).drop a++[xs.getD k .top]:=by
 rw[List.getD_eq_getElem?_getD,List.getElem?_eq_getElem hk,List.take_succ_eq_append_getElem hk,List.drop_append_of_le_length (by simp;omega)]
 rfl
theorem ZfA{l:List AV}{y:AV}(h:y∈Zay l):y∈l:=by
 have hb:∀(l:List AV) (x y:AV),y∈Zd0 x l→y=x∨y∈l:=by
  intro l
  induction l with
  |nil=>intro x y h;simp[Zd0]at h;exact .inl h
  |cons z l ih=>
   intro x y h
   unfold Zd0 at h
   split at h
   ·rcases List.mem_cons.mp h with h |h
    ·exact .inr (by simp[h])
    ·rcases ih x y h with h |h
     ·exact .inl h
     ·exact .inr (by simp[h])
   ·rcases List.mem_cons.mp h with h |h
    ·exact .inl h
    ·exact .inr h
 have hf:∀(l acc:List AV),y∈l.foldl ZgP acc→y∈acc∨y∈l:=by
  intro l
  induction l with
  |nil=>intro acc h;exact .inl h
  |cons x l ih=>
   intro acc h
   rcases ih _ h with h |h
   ·have h:y∈Zd0 x acc.reverse:=by simpa[ZgP]using h
    rcases hb _ _ _ h with h |h
    ·exact .inr (by simp[h])
    ·exact .inl (by simpa using h)
   ·exact .inr (by simp[h])
 simpa using hf l [] h
theorem ZqD{C:Ctx}(hC:C.P=Try.prog)(xs:List AV)(a b:Nat)(hab:a≤b)(hb:b≤xs.length)(hL:xs.length<1000000)(hn:ZaH xs=true):∀(d k:Nat),b-k=d→a≤k→k≤b→
 Ev C (ZbR a b (k:Int) []) (ZbG a b (k:Int) (Zbm a k xs)) (Zho 139 140 5 (.big shN (Zbm a b xs)) (.tup [])):=by
 intro d
 induction d with
 |zero=>
  intro k hd hak hkb
  have:k=b:=by omega
  subst this
  exact ZdB hC Zft (Zvl std a k k (Zbm a k xs)) (by simp) rfl rfl rfl rfl
 |succ d ih=>
  intro k hd hak hkb
  have hk:k<xs.length:=by omega
  refine go hC Zft (ZFE std a b k (Zbm a k xs)) (by simp;omega) ?_
  have hv:∀y∈xs,ZlS y=y:=fun y hy=>ZlL (List.all_eq_true.mp hn y hy)
  have e1:Zbm a k xs=xs.take a++(Zay ((xs.take k).drop a)++[xs.getD k .top])++([]++xs.drop (k+1)):=by
   unfold Zbm
   rw[List.drop_eq_getElem_cons hk,List.getD_eq_getElem?_getD,List.getElem?_eq_getElem hk]
   simp
  have e2:(k:Int)=((a+(Zay ((xs.take k).drop a)).length:Nat):Int):=by
   rw[Zcd];simp;omega
  have hlen:(xs.take a).length=a:=by simp;omega
  have key:=ZsF hC (Q:=Zho 139 140 5 (.big shN (Zbm a b xs)) (.tup [])) (xs.take a) (xs.drop (k+1)) (xs.getD k .top) k b a hlen (Zdw hn hk) (by omega) (by omega) _ (Zay ((xs.take k).drop a)) [] rfl
   (fun y hy=>hv y (List.mem_of_mem_take (List.mem_of_mem_drop (ZfA hy)))) (by rw[Zcd];simp;omega) (fun R hR=>by
     have:=ih (k+1) (by omega) (by omega) (by omega)
     have e3:Zbm a (k+1) xs=xs.take a++R++([]++xs.drop (k+1)):=by
      unfold Zbm
      rw[ZjE xs a k hak hk,Zpm,hR]
      simp
     rw[←e3]
     exact this)
  rw[←e1,←e2]at key
  exact key
theorem ZwS(xs:List AV)(a b:Nat)(h:a≤b∧b≤xs.length∧xs.length<1000000)(hn:ZaH xs=true):ZlH Try.prog 139 140 5 (.big shN xs) (.big shN (Zbm a b xs)) [.int .i64 a, .int .i64 b, .fn 119 []] (.tup []):=
 Zgq (Zsh xs a b) fun C hC=>by
  by_cases hab:a<b
  ·refine go hC Zft (Zur std xs a b) (by simp;omega) ?_
   have e:Zbm a (a+1) xs=xs:=by
    unfold Zbm
    rw[ZjE xs a a (Nat.le_refl _) (by omega)]
    have:(xs.take a).drop a=[]:=by simp
    rw[this]
    show xs.take a++[xs.getD a .top]++xs.drop (a+1)=xs
    rw[List.getD_eq_getElem?_getD,List.getElem?_eq_getElem (by omega:a<xs.length),List.append_assoc]
    show xs.take a++(xs[a]::xs.drop (a+1))=xs
    rw[←List.drop_eq_getElem_cons,List.take_append_drop]
   have:=ZqD hC xs a b h.1 h.2.1 h.2.2 hn _ (a+1) rfl (by omega) (by omega)
   rw[e]at this
   exact this
  ·have hab:a=b:=by omega
   subst hab
   have e:Zbm a a xs=xs:=by
    unfold Zbm
    have:(xs.take a).drop a=[]:=by simp
    rw[this]
    show xs.take a++[]++xs.drop a=xs
    simp
   refine go hC Zft (Zur std xs a a) (by simp;omega) ?_
   rw[e]
   exact ZdB hC Zft (Zvl std a a (a+1) xs) (by simp;omega) rfl rfl rfl rfl
theorem ZcT{P:Program}{F f e:Nat}{sz:Nat}{x y:Row}{rest:List AV}{r:AV}(he:F=f+1000000)(h:ZlH P f e sz x y rest r):Zhy P F (.list x::rest) r (some ⟨e,sz,y⟩):=by
 have hb:Nat.blt F 1000000=false:=Zb1 (by rw[he];exact Nat.le_add_left _ _)
 have hs:F-1000000=f:=by rw[he];exact Nat.add_sub_cancel _ _
 unfold Zhy
 rw[hb]
 intro x' rest' fs h1 h2
 cases h1;cases h2
 rw[hs]
 exact h
attribute [irreducible] Zbm
def sgB(xs:List AV)(a b:Int):Bool:=decide (0≤a∧a≤b∧b≤xs.length∧xs.length<1000000)&&ZaH xs
theorem ZxC(xs:List AV)(a b:Int)(h:sgB xs a b=true):Zhy Try.prog 1000139 [.list (.big shN xs), .int .i64 a, .int .i64 b, .fn 119 []] (.tup []) (some ⟨140,5, .big shN (Zbm a.toNat b.toNat xs)⟩):=by
 unfold sgB at h
 simp only[Bool.and_eq_true,decide_eq_true_eq]at h
 obtain⟨⟨h1,h2,h3,h4⟩,h5⟩:=h
 obtain⟨a,rfl⟩:=Int.eq_ofNat_of_zero_le h1
 obtain⟨b,rfl⟩:=Int.eq_ofNat_of_zero_le (Int.le_trans h1 h2)
 exact ZcT (f:=139) rfl (ZwS xs a b ⟨by omega,by omega,h4⟩ h5)
def k139:Ctr:=⟨1000139,0,fun _ a=>match a with |[.list (.big (.agg [.int .i64, .int .i64, .int .i64, .ints .i64, .int .i64]) xs), .int .i64 a, .int .i64 b, .fn 119 []]=>some (decide (sgB xs a b=true), .tup [],some ⟨140,5, .big shN (Zbm a.toNat b.toNat xs)⟩) |_=>none⟩
theorem Zz5:k139.OK Try.prog:=fun pa args r fr h=>by
 simp only[k139]at h
 split at h
 ·simp only[Option.some.injEq,Prod.mk.injEq,decide_eq_true_eq]at h
  obtain⟨h0,rfl,rfl⟩:=h
  exact ZxC _ _ _ h0
 ·cases h
def BO2:List Ctr:=[k139]++BO1
theorem Zm6:Zap Try.prog BO2:=⟨Zz5,Zft⟩
end Go.Proofs.Ytjhdnpmojhkbjaa
/- Paths of functions, printed by the explorer (Gx). No condition. -/
namespace Go.Proofs.Ytjhdnpmojhkbjaa
set_option maxRecDepth 100000
set_option linter.unusedVariables false
def ZuM(xs:List AV)(a:Int)(b:Int)(n:Int):AFrame:={ fn:=142,N:=38,env:=[(0,AV.row 0 0),(1,AV.int .i64 a),(2,AV.int .i64 b),(3,AV.int .i64 n),(4,AV.fn 119 [])],todo:=[.code a142.code],defs:=[],rnd:=none,ret:=false,res:=[] }
def ZKO(xs:List AV)(a:Int)(b:Int)(n:Int):List AFrame:=[(ZuM xs a b n)]
theorem ZtA(xs:List AV)(a:Int)(b:Int)(n:Int):Zam tab 142 [AV.row 0 0,AV.int .i64 a,AV.int .i64 b,AV.int .i64 n,AV.fn 119 []]=some (ZuM xs a b n):=rfl
def ZDs(xs:List AV)(a:Int)(b:Int)(n:Int):Zaa:=[(0,{ base:=0,blks:=[Blk.row 140 5 (Row.big (Sh.agg [Sh.int .i64,Sh.int .i64,Sh.int .i64,Sh.ints .i64,Sh.int .i64]) xs)] })]
def ZdF(a b n n0:Int)(x1:List AV):List AFrame:=[{ fn:=142,N:=38,env:=[(0,AV.row 0 0),(1,AV.int .i64 a),(2,AV.int .i64 b),(3,AV.int .i64 n),(10,AV.int .i64 n0)],todo:=.code (ACode.gh [] ZuJ)::ZDy,defs:=[],rnd:=none,ret:=false,res:=[] }]
def ZcZ(a:Int)(b:Int)(n:Int)(n0:Int)(x1:List AV):Zaa:=[(0,{ base:=0,blks:=[Blk.row 140 5 (Row.big (Sh.agg [Sh.int .i64,Sh.int .i64,Sh.int .i64,Sh.ints .i64,Sh.int .i64]) x1)] })]
abbrev Zgr(a:Int)(b:Int)(n:Int)(n0:Int)(x1:List AV):List AFrame×Zaa:=(ZdF a b n n0 x1,ZcZ a b n n0 x1)
theorem ZGY(A:Ar)(xs:List AV)(a b n:Int):Zad A tab BO2 7 [] (ZKO xs a b n) (ZDs xs a b n)=
 some (tr [1] [],
  Zgr (a) (b) (n) (0) (xs)):=by kernel_rfl
theorem ZGm(A:Ar)(a b n n0:Int)(x1:List AV):Zad A tab BO2 21 [true] (ZdF a b n n0 x1) (ZcZ a b n n0 x1)=
 some (tr [1,1,0,0,0,0,0,0,3,0,0,3,3,3,3] [A.inR .i64 (A.add n0 1),Zab (Nat.blt (A.nat (A.add b n0)) (A.lenA (A.setA x1 (A.nat (A.add a n0)) (AV.agg (Row.gen [.int .i64 ((A.nthA x1 (A.nat (A.add b n0))).cellAt 0).toI, .int .i64 ((A.nthA x1 (A.nat (A.add b n0))).cellAt 1).toI, .int .i64 ((A.nthA x1 (A.nat (A.add b n0))).cellAt 2).toI, .list (.ints .i64 ((A.nthA x1 (A.nat (A.add b n0))).cellAt 3).toIs), .int .i64 ((A.nthA x1 (A.nat (A.add b n0))).cellAt 4).toI]))))) true,Zab (A.le 0 (A.add b n0)) (Nat.blt (A.nat (A.add b n0)) (A.lenA (A.setA x1 (A.nat (A.add a n0)) (AV.agg (Row.gen [.int .i64 ((A.nthA x1 (A.nat (A.add b n0))).cellAt 0).toI, .int .i64 ((A.nthA x1 (A.nat (A.add b n0))).cellAt 1).toI, .int .i64 ((A.nthA x1 (A.nat (A.add b n0))).cellAt 2).toI, .list (.ints .i64 ((A.nthA x1 (A.nat (A.add b n0))).cellAt 3).toIs), .int .i64 ((A.nthA x1 (A.nat (A.add b n0))).cellAt 4).toI]))))),Zab (Nat.blt (A.nat (A.add a n0)) (A.lenA x1)) true,Zab (A.le 0 (A.add a n0)) (Nat.blt (A.nat (A.add a n0)) (A.lenA x1)),Zab (Nat.blt (A.nat (A.add a n0)) (A.lenA x1)) true,Zab (A.le 0 (A.add a n0)) (Nat.blt (A.nat (A.add a n0)) (A.lenA x1)),A.inR .i64 (A.add a n0),Zab (Nat.blt (A.nat (A.add b n0)) (A.lenA x1)) true,Zab (A.le 0 (A.add b n0)) (Nat.blt (A.nat (A.add b n0)) (A.lenA x1)),A.inR .i64 (A.add b n0),A.inR .i64 (A.add b n0),A.inR .i64 (A.add a n0),A.lt n0 n],
  Zgr (a) (b) (n) (A.add n0 1) (A.setA (A.setA x1 (A.nat (A.add a n0)) (AV.agg (Row.gen [.int .i64 ((A.nthA x1 (A.nat (A.add b n0))).cellAt 0).toI, .int .i64 ((A.nthA x1 (A.nat (A.add b n0))).cellAt 1).toI, .int .i64 ((A.nthA x1 (A.nat (A.add b n0))).cellAt 2).toI, .list (.ints .i64 ((A.nthA x1 (A.nat (A.add b n0))).cellAt 3).toIs), .int .i64 ((A.nthA x1 (A.nat (A.add b n0))).cellAt 4).toI]))) (A.nat (A.add b n0)) (AV.agg (Row.gen [.int .i64 ((A.nthA x1 (A.nat (A.add a n0))).cellAt 0).toI, .int .i64 ((A.nthA x1 (A.nat (A.add a n0))).cellAt 1).toI, .int .i64 ((A.nthA x1 (A.nat (A.add a n0))).cellAt 2).toI, .list (.ints .i64 ((A.nthA x1 (A.nat (A.add a n0))).cellAt 3).toIs), .int .i64 ((A.nthA x1 (A.nat (A.add a n0))).cellAt 4).toI])))):=by kernel_rfl
theorem ZGC(A:Ar)(a b n n0:Int)(x1:List AV):ZaX A tab BO2 11 [false] 142 (ZdF a b n n0 x1) (ZcZ a b n n0 x1)=
 some (tr [1,3] [!A.lt n0 n],
  AV.tup [],140,5,Row.big (.agg [.int .i64, .int .i64, .int .i64, .ints .i64, .int .i64]) x1):=by kernel_rfl
end Go.Proofs.Ytjhdnpmojhkbjaa
/- Contracts as a list. No condition. -/
namespace Go.Proofs.Ytjhdnpmojhkbjaa
def Zga(a b:Nat):Nat→List AV→List AV
 |0,xs=>xs
 |k+1,xs=>((Zga a b k xs).set (a+k) ((Zga a b k xs).getD (b+k) .top)).set (b+k) ((Zga a b k xs).getD (a+k) .top)
theorem Zkf(a b:Nat)(xs:List AV):∀k,(Zga a b k xs).length=xs.length
 |0=>rfl
 |k+1=>by simp[Zga,Zkf a b xs k]
theorem ZjP(a b:Nat)(xs:List AV):∀k,a+k≤b→b+k≤xs.length→∀i,(Zga a b k xs)[i]? =if a≤i∧i<a+k then xs[i+b-a]? else if b≤i∧i<b+k then xs[i+a-b]? else xs[i]?
 |0,_,_,i=>by
  rw[if_neg (by omega),if_neg (by omega)];rfl
 |k+1,h1,h2,i=>by
  have ih:=ZjP a b xs k (by omega) (by omega)
  have l:=Zkf a b xs k
  have gb:(Zga a b k xs)[b+k]? =xs[b+k]?:=by rw[ih,if_neg (by omega),if_neg (by omega)]
  have ga:(Zga a b k xs)[a+k]? =xs[a+k]?:=by rw[ih,if_neg (by omega),if_neg (by omega)]
  have hb:xs[b+k]? =some ((Zga a b k xs).getD (b+k) .top):=by
   rw[List.getD_eq_getElem?_getD,gb,List.getElem?_eq_getElem (by omega:b+k<xs.length)];rfl
  have ha:xs[a+k]? =some ((Zga a b k xs).getD (a+k) .top):=by
   rw[List.getD_eq_getElem?_getD,ga,List.getElem?_eq_getElem (by omega:a+k<xs.length)];rfl
  rw[Zga,List.getElem?_set,List.getElem?_set,List.length_set,l,ih]
  by_cases e1:b+k=i
  ·subst e1
   rw[if_pos rfl,if_pos (by omega),if_neg (by omega),if_pos (by omega),←ha]
   congr 1;omega
  ·rw[if_neg e1]
   by_cases e2:a+k=i
   ·subst e2
    rw[if_pos rfl,if_pos (by omega),if_pos (by omega),←hb]
    congr 1;omega
   ·rw[if_neg e2]
    by_cases c1:a≤i∧i<a+k
    ·rw[if_pos c1,if_pos (by omega)]
    ·rw[if_neg c1]
     by_cases c2:b≤i∧i<b+k
     ·rw[if_pos c2,if_neg (by omega),if_pos (by omega)]
     ·rw[if_neg c2,if_neg (by omega),if_neg (by omega)]
theorem Zgg(P U M V S:List AV)(h:U.length=V.length):Zga P.length (P.length+U.length+M.length) U.length (P++U++M++V++S)=P++V++M++U++S:=by
 apply List.ext_getElem?
 intro i
 rw[ZjP _ _ _ _ (by omega) (by simp;omega)]
 simp only[List.getElem?_append,List.length_append]
 repeat' split
 all_goals (try omega)
 all_goals (first |rfl |(congr 1;omega))
theorem numsB_mem{xs:List AV} :ZaH xs=true↔∀x∈xs,isN x=true:=by
 unfold ZaH;exact List.all_eq_true
theorem ZpT(a b:Nat)(xs:List AV)(h:ZaH xs=true)(k:Nat)(h1:a+k≤b)(h2:b+k≤xs.length):ZaH (Zga a b k xs)=true:=by
 rw[numsB_mem]at h⊢
 intro x hx
 obtain⟨i,hi⟩:=List.mem_iff_getElem?.mp hx
 rw[ZjP a b xs k h1 h2 i]at hi
 split at hi
 ·exact h x (List.mem_of_getElem? hi)
 ·split at hi
  ·exact h x (List.mem_of_getElem? hi)
  ·exact h x (List.mem_of_getElem? hi)
theorem ZsA{C:Ctx}(hC:C.P=Try.prog)(xs:List AV)(a b n:Nat)(h1:a+n≤b)(h2:b+n≤xs.length)(hL:xs.length<1000000)(hn:ZaH xs=true):∀(d k:Nat),n-k=d→k≤n→
 Ev C (ZdF a b n (k:Int) []) (ZcZ a b n (k:Int) (Zga a b k xs)) (Zho 142 140 5 (.big shN (Zga a b n xs)) (.tup [])):=by
 intro d
 induction d with
 |zero=>
  intro k hd hk
  have:k=n:=by omega
  subst this
  exact ZdB hC Zm6 (ZGC std a b k k (Zga a b k xs)) (by simp) rfl rfl rfl rfl
 |succ d ih=>
  intro k hd hk
  have hw:=ZGm std a b n k (Zga a b k xs)
  have e1:((a:Int)+k).toNat=a+k:=by omega
  have e2:((b:Int)+k).toNat=b+k:=by omega
  have l:=Zkf a b xs k
  have hv:=ZpT a b xs hn k (by omega) (by omega)
  have hx:=Zdw hv (j:=a+k) (by omega)
  have hy:=Zdw hv (j:=b+k) (by omega)
  have ih':=ih (k+1) (by omega) (by omega)
  rw[Zga]at ih'
  generalize hX:(Zga a b k xs).getD (a+k) .top=x at*
  generalize hY:(Zga a b k xs).getD (b+k) .top=y at*
  simp only[ZaB,Zau,Zk3,ZcE,e1,e2,hX,hY]at hw
  rw[show (AV.agg (Row.gen [AV.int .i64 (AV.toI (AV.cellAt x 0)),AV.int .i64 (AV.toI (AV.cellAt x 1)),AV.int .i64 (AV.toI (AV.cellAt x 2)),AV.list (.ints .i64 (AV.toIs (AV.cellAt x 3))),AV.int .i64 (AV.toI (AV.cellAt x 4))]))=x from hx,show(AV.agg (Row.gen [AV.int .i64 (AV.toI (AV.cellAt y 0)),AV.int .i64 (AV.toI (AV.cellAt y 1)),AV.int .i64 (AV.toI (AV.cellAt y 2)),AV.list (.ints .i64 (AV.toIs (AV.cellAt y 3))),AV.int .i64 (AV.toI (AV.cellAt y 4))]))=y from hy]at hw
  refine go hC Zm6 hw ?_ ih'
  simp[l]
  omega
theorem Zzd(xs:List AV)(a b n:Nat)(h:a+n≤b∧b+n≤xs.length∧xs.length<1000000)(hn:ZaH xs=true):ZlH Try.prog 142 140 5 (.big shN xs) (.big shN (Zga a b n xs)) [.int .i64 a, .int .i64 b, .int .i64 n, .fn 119 []] (.tup []):=
 Zgq (ZtA xs a b n) fun C hC=>go hC Zm6 (ZGY std xs a b n) (by simp) (ZsA hC xs a b n h.1 h.2.1 h.2.2 hn _ 0 rfl (by omega))
def swB(xs:List AV)(a b n:Int):Bool:=decide (0≤a∧0≤n∧a+n≤b∧b+n≤xs.length∧xs.length<1000000)&&ZaH xs
theorem ZwC(xs:List AV)(a b n:Int)(h:swB xs a b n=true):Zhy Try.prog 1000142 [.list (.big shN xs), .int .i64 a, .int .i64 b, .int .i64 n, .fn 119 []] (.tup []) (some ⟨140,5, .big shN (Zga a.toNat b.toNat n.toNat xs)⟩):=by
 unfold swB at h
 simp only[Bool.and_eq_true,decide_eq_true_eq]at h
 obtain⟨⟨h1,h2,h3,h4,h6⟩,h5⟩:=h
 obtain⟨a,rfl⟩:=Int.eq_ofNat_of_zero_le h1
 obtain⟨n,rfl⟩:=Int.eq_ofNat_of_zero_le h2
 obtain⟨b,rfl⟩:=Int.eq_ofNat_of_zero_le (by omega:0≤b)
 exact ZcT (f:=142) rfl (Zzd xs a b n ⟨by omega,by omega,h6⟩ h5)
def k142:Ctr:=⟨1000142,0,fun _ a=>match a with |[.list (.big (.agg [.int .i64, .int .i64, .int .i64, .ints .i64, .int .i64]) xs), .int .i64 a, .int .i64 b, .int .i64 n, .fn 119 []]=>some (decide (swB xs a b n=true), .tup [],some ⟨140,5, .big shN (Zga a.toNat b.toNat n.toNat xs)⟩) |_=>none⟩
theorem ZxV:k142.OK Try.prog:=fun pa args r fr h=>by
 simp only[k142]at h
 split at h
 ·simp only[Option.some.injEq,Prod.mk.injEq,decide_eq_true_eq]at h
  obtain⟨h0,rfl,rfl⟩:=h
  exact ZwC _ _ _ _ h0
 ·cases h
def BO3:List Ctr:=[k142]++BO2
theorem Zly:Zap Try.prog BO3:=⟨ZxV,Zm6⟩
end Go.Proofs.Ytjhdnpmojhkbjaa
/- Paths of functions, printed by the explorer (Gx). No condition. -/
namespace Go.Proofs.Ytjhdnpmojhkbjaa
set_option maxRecDepth 100000
set_option linter.unusedVariables false
def Zuv(xs:List AV)(a:Int)(m:Int)(b:Int):AFrame:={ fn:=141,N:=58,env:=[(0,AV.row 0 0),(1,AV.int .i64 a),(2,AV.int .i64 m),(3,AV.int .i64 b),(4,AV.fn 119 [])],todo:=[.code a141.code],defs:=[],rnd:=none,ret:=false,res:=[] }
def ZIr(xs:List AV)(a:Int)(m:Int)(b:Int):List AFrame:=[(Zuv xs a m b)]
theorem Zsf(xs:List AV)(a:Int)(m:Int)(b:Int):Zam tab 141 [AV.row 0 0,AV.int .i64 a,AV.int .i64 m,AV.int .i64 b,AV.fn 119 []]=some (Zuv xs a m b):=rfl
def ZBe(xs:List AV)(a:Int)(m:Int)(b:Int):Zaa:=[(0,{ base:=0,blks:=[Blk.row 140 5 (Row.big (Sh.agg [Sh.int .i64,Sh.int .i64,Sh.int .i64,Sh.ints .i64,Sh.int .i64]) xs)] })]
def ZcD(m n0 n1:Int)(x2:List AV):List AFrame:=[{ fn:=141,N:=58,env:=[(0,AV.row 0 0),(2,AV.int .i64 m),(4,AV.fn 119 []),(10,AV.int .i64 n0),(11,AV.int .i64 n1)],todo:=.code (ACode.gh [] Zu8)::ZE3,defs:=[],rnd:=none,ret:=false,res:=[] }]
def Zb2(m:Int)(n0:Int)(n1:Int)(x2:List AV):Zaa:=[(0,{ base:=0,blks:=[Blk.row 140 5 (Row.big (Sh.agg [Sh.int .i64,Sh.int .i64,Sh.int .i64,Sh.ints .i64,Sh.int .i64]) x2)] })]
abbrev Zek(m:Int)(n0:Int)(n1:Int)(x2:List AV):List AFrame×Zaa:=(ZcD m n0 n1 x2,Zb2 m n0 n1 x2)
theorem ZCK(A:Ar)(xs:List AV)(a m b:Int):Zad A tab BO3 18 [] (ZIr xs a m b) (ZBe xs a m b)=
 some (tr [1,3,2] [A.inR .i64 (A.sub b m),A.inR .i64 (A.sub m a)],
  Zek (m) (A.sub m a) (A.sub b m) (xs)):=by kernel_rfl
theorem ZCR(A:Ar)(m n0 n1:Int)(x2:List AV):Zad A tab BO3 39 [true,true] (ZcD m n0 n1 x2) (Zb2 m n0 n1 x2)=
 some (tr [1,2,3,3,3,3] [A.inR .i64 (A.sub n0 n1),Zab (decide (swB x2 (A.sub m n0) m n1=true)) true,A.inR .i64 (A.sub m n0),A.lt n1 n0,A.not (A.eq n0 n1)],
  Zek (m) (A.sub n0 n1) (n1) (Zga (Int.toNat (A.sub m n0)) (Int.toNat m) (Int.toNat n1) x2)):=by kernel_rfl
theorem ZDH(A:Ar)(m n0 n1:Int)(x2:List AV):Zad A tab BO3 43 [true,false] (ZcD m n0 n1 x2) (Zb2 m n0 n1 x2)=
 some (tr [1,2,2,1,2,3,3,3] [A.inR .i64 (A.sub n1 n0),Zab (decide (swB x2 (A.sub m n0) (A.sub (A.add m n1) n0) n0=true)) true,A.inR .i64 (A.sub (A.add m n1) n0),A.inR .i64 (A.add m n1),A.inR .i64 (A.sub m n0),!A.lt n1 n0,A.not (A.eq n0 n1)],
  Zek (m) (n0) (A.sub n1 n0) (Zga (Int.toNat (A.sub m n0)) (Int.toNat (A.sub (A.add m n1) n0)) (Int.toNat n0) x2)):=by kernel_rfl
theorem ZE9(A:Ar)(m n0 n1:Int)(x2:List AV):ZaX A tab BO3 21 [false] 141 (ZcD m n0 n1 x2) (Zb2 m n0 n1 x2)=
 some (tr [1,3,3,3] [Zab (decide (swB x2 (A.sub m n0) m n0=true)) true,A.inR .i64 (A.sub m n0),!A.not (A.eq n0 n1)],
  AV.tup [],140,5,Row.big (.agg [.int .i64, .int .i64, .int .i64, .ints .i64, .int .i64]) (Zga (Int.toNat (A.sub m n0)) (Int.toNat m) (Int.toNat n0) x2)):=by kernel_rfl
end Go.Proofs.Ytjhdnpmojhkbjaa
/- Contracts as a list. No condition. -/
namespace Go.Proofs.Ytjhdnpmojhkbjaa
theorem Zbf(a b:List AV):ZaH (a++b)=(ZaH a&&ZaH b):=by unfold ZaH;exact List.all_append
theorem Zsx{C:Ctx}(hC:C.P=Try.prog)(R:List AV):∀(N:Nat) (P U V S:List AV),U.length+V.length≤N→0<U.length→0<V.length→P.length+U.length+V.length+S.length<1000000→ZaH (P++U++V++S)=true→P++V++U++S=R→
 Ev C (ZcD ((P.length+U.length:Nat):Int) (U.length:Int) (V.length:Int) []) (Zb2 ((P.length+U.length:Nat):Int) (U.length:Int) (V.length:Int) (P++U++V++S)) (Zho 141 140 5 (.big shN R) (.tup [])):=by
 intro N
 induction N with
 |zero=>intro P U V S h1 h2;omega
 |succ N ih=>
  intro P U V S hN hU hV hL hn hR
  have hlen:(P++U++V++S).length=P.length+U.length+V.length+S.length:=by simp[Nat.add_assoc]
  have em:((P.length+U.length:Nat):Int)-(U.length:Int)=(P.length:Nat):=by omega
  have hn4:ZaH P=true∧ZaH U=true∧ZaH V=true∧ZaH S=true:=by
   rw[Zbf,Zbf,Zbf]at hn
   simp only[Bool.and_eq_true]at hn
   exact⟨hn.1.1.1,hn.1.1.2,hn.1.2,hn.2⟩
  by_cases he:U.length=V.length
  ·have hw:=ZE9 std ((P.length+U.length:Nat):Int) (U.length:Int) (V.length:Int) (P++U++V++S)
   simp only[ZaD,em,Int.toNat_natCast]at hw
   have hs:=Zgg P U [] V S he
   simp only[List.length_nil,Nat.add_zero,List.append_nil]at hs
   rw[hs,hR]at hw
   refine ZdB hC Zly hw ?_ rfl rfl rfl rfl
   have hb:swB (P++U++V++S) (P.length:Nat) ((P.length+U.length:Nat):Int) (U.length:Nat)=true:=by
    unfold swB
    rw[hn,hlen]
    simp only[Bool.and_true,decide_eq_true_eq]
    omega
   simp only[hb]
   simp[he]
   omega
  ·by_cases hlt:V.length<U.length
   ·have hw:=ZCR std ((P.length+U.length:Nat):Int) (U.length:Int) (V.length:Int) (P++U++V++S)
    obtain⟨A,B,hA,rfl⟩:∃A B:List AV,A.length=V.length∧U=A++B:=⟨U.take V.length,U.drop V.length,by simp;omega,by simp⟩
    have hs:=Zgg P A B V S hA
    simp only[ZaD,em,Int.toNat_natCast]at hw
    have e1:P.length+(A++B).length=P.length+A.length+B.length:=by simp[Nat.add_assoc]
    have e2:P++(A++B)++V++S=P++A++B++V++S:=by simp
    have e3:(((A++B).length:Nat):Int)-(V.length:Nat)=(B.length:Nat):=by simp;omega
    have hb:swB (P++(A++B)++V++S) (P.length:Nat) ((P.length+(A++B).length:Nat):Int) (V.length:Nat)=true:=by
     unfold swB
     rw[hn,hlen]
     simp only[Bool.and_true,decide_eq_true_eq]
     simp only[List.length_append]at*
     omega
    have hsw:Zga P.length (P.length+(A++B).length) V.length (P++(A++B)++V++S)=P++V++B++A++S:=by
     rw[e1,e2,←hA];exact hs
    rw[hsw,e3]at hw
    simp only[List.length_append]at*
    refine go hC Zly hw ?_ ?_
    ·simp only[hb]
     simp
     omega
    ·have:=ih (P++V) B A S (by omega) (by omega) (by omega) (by rw[List.length_append];omega) (by
      simp only[Zbf,Bool.and_eq_true]at*
      exact⟨⟨⟨⟨hn4.1,hn4.2.2.1⟩,hn4.2.1.2⟩,hn4.2.1.1⟩,hn4.2.2.2⟩) (by rw[←hR];simp)
     have e4:((P.length+(A.length+B.length):Nat):Int)=(((P++V).length+B.length:Nat):Int):=by rw[List.length_append];omega
     rw[e4,←hA]
     exact this
   ·have hw:=ZDH std ((P.length+U.length:Nat):Int) (U.length:Int) (V.length:Int) (P++U++V++S)
    obtain⟨A,B,hB,rfl⟩:∃A B:List AV,U.length=B.length∧V=A++B:=⟨V.take (V.length-U.length),V.drop (V.length-U.length),by simp;omega,by simp⟩
    have hs:=Zgg P U A B S hB
    have e0:((P.length+U.length:Nat):Int)+((A++B).length:Nat)-(U.length:Nat)=((P.length+U.length+A.length:Nat):Int):=by rw[List.length_append];omega
    simp only[ZaD,ZcE,em,e0,Int.toNat_natCast]at hw
    have e2:P++U++(A++B)++S=P++U++A++B++S:=by simp
    have e3:(((A++B).length:Nat):Int)-(U.length:Nat)=(A.length:Nat):=by rw[List.length_append];omega
    have hb:swB (P++U++(A++B)++S) (P.length:Nat) ((P.length+U.length+A.length:Nat):Int) (U.length:Nat)=true:=by
     unfold swB
     rw[hn,hlen]
     simp only[Bool.and_true,decide_eq_true_eq]
     simp only[List.length_append]at*
     omega
    rw[e2]at hb
    rw[e2,hs,e3]at hw
    rw[e2]
    simp only[List.length_append]at*
    refine go hC Zly hw ?_ ?_
    ·simp only[hb]
     simp
     omega
    ·have:=ih P B A (U++S) (by omega) (by omega) (by omega) (by rw[List.length_append];omega) (by
      simp only[Zbf,Bool.and_eq_true]at*
      exact⟨⟨⟨hn4.1,hn4.2.2.1.2⟩,hn4.2.2.1.1⟩,hn4.2.1,hn4.2.2.2⟩) (by rw[←hR];simp)
     have e5:P++B++A++U++S=P++B++A++(U++S):=by simp
     rw[e5,hB]
     exact this
def Zhj(a m b:Nat)(xs:List AV):List AV:=xs.take a++(xs.take b).drop m++(xs.take m).drop a++xs.drop b
theorem ZKe(xs:List AV)(a m b:Nat)(h1:a≤m)(h2:m≤b):xs.take a++(xs.take m).drop a++(xs.take b).drop m++xs.drop b=xs:=by
 have e1:xs.take a++(xs.take m).drop a=xs.take m:=by
  have:=List.take_append_drop a (xs.take m)
  rwa[List.take_take,Nat.min_eq_left h1]at this
 have e2:xs.take m++(xs.take b).drop m=xs.take b:=by
  have:=List.take_append_drop m (xs.take b)
  rwa[List.take_take,Nat.min_eq_left h2]at this
 rw[e1,e2,List.take_append_drop]
theorem ZEd(xs:List AV)(a m b:Nat)(h:a<m∧m<b∧b≤xs.length∧xs.length<1000000)(hn:ZaH xs=true):ZlH Try.prog 141 140 5 (.big shN xs) (.big shN (Zhj a m b xs)) [.int .i64 a, .int .i64 m, .int .i64 b, .fn 119 []] (.tup []):=
 Zgq (Zsf xs a m b) fun C hC=>by
  obtain⟨h1,h2,h3,h4⟩:=h
  refine go hC Zly (ZCK std xs a m b) (by simp;omega) ?_
  have hc:=ZKe xs a m b (by omega) (by omega)
  have l1:(xs.take a).length=a:=by simp;omega
  have l2:((xs.take m).drop a).length=m-a:=by simp;omega
  have l3:((xs.take b).drop m).length=b-m:=by simp;omega
  have l4:(xs.drop b).length=xs.length-b:=by simp
  have:=Zsx hC (Zhj a m b xs) _ (xs.take a) ((xs.take m).drop a) ((xs.take b).drop m) (xs.drop b) (Nat.le_refl _) (by rw[l2];omega) (by rw[l3];omega) (by rw[l1,l2,l3,l4];omega) (by rw[hc];exact hn) rfl
  rw[hc,l1,l2,l3]at this
  have e1:((a+(m-a):Nat):Int)=(m:Int):=by omega
  have e2:((m-a:Nat):Int)=(m:Int)-a:=by omega
  have e3:((b-m:Nat):Int)=(b:Int)-m:=by omega
  rw[e1,e2,e3]at this
  exact this
attribute [irreducible] Zhj
def Zns(xs:List AV)(a m b:Int):Bool:=decide (0≤a∧a<m∧m<b∧b≤xs.length∧xs.length<1000000)&&ZaH xs
theorem ZB6(xs:List AV)(a m b:Int)(h:Zns xs a m b=true):Zhy Try.prog 1000141 [.list (.big shN xs), .int .i64 a, .int .i64 m, .int .i64 b, .fn 119 []] (.tup []) (some ⟨140,5, .big shN (Zhj a.toNat m.toNat b.toNat xs)⟩):=by
 unfold Zns at h
 simp only[Bool.and_eq_true,decide_eq_true_eq]at h
 obtain⟨⟨h1,h2,h3,h4,h6⟩,h5⟩:=h
 obtain⟨a,rfl⟩:=Int.eq_ofNat_of_zero_le h1
 obtain⟨m,rfl⟩:=Int.eq_ofNat_of_zero_le (by omega:0≤m)
 obtain⟨b,rfl⟩:=Int.eq_ofNat_of_zero_le (by omega:0≤b)
 exact ZcT (f:=141) rfl (ZEd xs a m b ⟨by omega,by omega,by omega,h6⟩ h5)
def k141:Ctr:=⟨1000141,0,fun _ a=>match a with |[.list (.big (.agg [.int .i64, .int .i64, .int .i64, .ints .i64, .int .i64]) xs), .int .i64 a, .int .i64 m, .int .i64 b, .fn 119 []]=>some (decide (Zns xs a m b=true), .tup [],some ⟨140,5, .big shN (Zhj a.toNat m.toNat b.toNat xs)⟩) |_=>none⟩
theorem ZxI:k141.OK Try.prog:=fun pa args r fr h=>by
 simp only[k141]at h
 split at h
 ·simp only[Option.some.injEq,Prod.mk.injEq,decide_eq_true_eq]at h
  obtain⟨h0,rfl,rfl⟩:=h
  exact ZB6 _ _ _ _ h0
 ·cases h
def BO4:List Ctr:=[k141]++BO3
theorem Zum:Zap Try.prog BO4:=⟨ZxI,Zly⟩
end Go.Proofs.Ytjhdnpmojhkbjaa
/- Sorting that keeps the order of equals. No condition. -/
namespace Go.Proofs.Ytjhdnpmojhkbjaa
def fkN(k:Int)(l:List AV):List AV:=l.filter fun x=>decide (Zaw x=k)
def Za7(l:List AV):Prop:=l.Pairwise fun x y=>Zaw x≤Zaw y
theorem Zci(k:Int)(a b:List AV):fkN k (a++b)=fkN k a++fkN k b:=by simp[fkN]
theorem ZbX(k:Int)(x:AV)(l:List AV):fkN k (x::l)=if Zaw x=k then x::fkN k l else fkN k l:=by
 unfold fkN
 rw[List.filter_cons]
 by_cases h:Zaw x=k
 ·simp[h]
 ·simp[h]
theorem Znn(k:Int)(x:AV):∀l,fkN k (Zd0 x l)=fkN k (x::l)
 |[]=>rfl
 |y::l=>by
  unfold Zd0
  split
  ·rename_i h
   rw[ZbX,Znn k x l,ZbX,ZbX k x (y::l),ZbX]
   by_cases h1:Zaw y=k
   ·rw[if_pos h1,if_neg (by omega),if_neg (by omega),if_pos h1]
   ·rw[if_neg h1,if_neg h1]
  ·rfl
theorem Zlb{x y:AV} :∀ {l:List AV},y∈Zd0 x l→y=x∨y∈l
 |[],h=>by simp[Zd0]at h;exact .inl h
 |z::l,h=>by
  unfold Zd0 at h
  split at h
  ·rcases List.mem_cons.mp h with h |h
   ·exact .inr (by simp[h])
   ·rcases Zlb h with h |h
    ·exact .inl h
    ·exact .inr (by simp[h])
  ·rcases List.mem_cons.mp h with h |h
   ·exact .inl h
   ·exact .inr h
theorem Zi1(x:AV):∀ {l:List AV},l.Pairwise (fun a b=>Zaw b≤Zaw a)→(Zd0 x l).Pairwise (fun a b=>Zaw b≤Zaw a)
 |[],_=>by simp[Zd0]
 |y::l,h=>by
  obtain⟨h1,h2⟩:=List.pairwise_cons.mp h
  unfold Zd0
  split
  ·rename_i hlt
   refine List.pairwise_cons.mpr ⟨fun z hz=>?_,Zi1 x h2⟩
   rcases Zlb hz with rfl |hz
   ·omega
   ·exact h1 z hz
  ·rename_i hge
   refine List.pairwise_cons.mpr ⟨fun z hz=>?_,h⟩
   rcases List.mem_cons.mp hz with rfl |hz
   ·omega
   ·have:=h1 z hz;omega
theorem Zq3(k:Int)(l:List AV):fkN k l.reverse=(fkN k l).reverse:=by simp[fkN]
theorem Zp2(S:List AV)(x:AV)(h:Za7 S):Za7 (ZgP S x):=by
 unfold ZgP Za7
 rw[List.pairwise_reverse]
 exact Zi1 x (by rw[List.pairwise_reverse];exact h)
theorem Zwd(k:Int)(S:List AV)(x:AV):fkN k (ZgP S x)=fkN k (S++[x]):=by
 unfold ZgP
 rw[Zq3,Znn,←Zq3];simp
theorem ZbI(l:List AV):Za7 (Zay l)∧∀k,fkN k (Zay l)=fkN k l:=by
 have:∀(l acc:List AV),Za7 acc→Za7 (l.foldl ZgP acc)∧∀k,fkN k (l.foldl ZgP acc)=fkN k (acc++l):=by
  intro l
  induction l with
  |nil=>intro acc h;exact⟨h,fun k=>by simp⟩
  |cons x l ih=>
   intro acc h
   obtain⟨h1,h2⟩:=ih (ZgP acc x) (Zp2 acc x h)
   refine⟨h1,fun k=>?_⟩
   rw[List.foldl_cons,h2 k,Zci,Zwd,←Zci];simp
 have h:=this l [] List.Pairwise.nil
 simp only[List.nil_append]at h
 exact h
theorem fkN_mem{k:Int}{x:AV}{l:List AV} :x∈fkN k l↔x∈l∧Zaw x=k:=by simp[fkN]
theorem Zql:∀ {l m:List AV},Za7 l→Za7 m→(∀k,fkN k l=fkN k m)→l=m
 |[],[],_,_,_=>rfl
 |[],y::m,_,_,h=>by
  have:=h (Zaw y)
  rw[ZbX,if_pos rfl]at this
  simp[fkN]at this
 |x::l,[],_,_,h=>by
  have:=h (Zaw x)
  rw[ZbX,if_pos rfl]at this
  simp[fkN]at this
 |x::l,y::m,hl,hm,h=>by
  obtain⟨l1,l2⟩:=List.pairwise_cons.mp hl
  obtain⟨m1,m2⟩:=List.pairwise_cons.mp hm
  have hx:x∈y::m:=by
   have:x∈fkN (Zaw x) (x::l):=fkN_mem.mpr ⟨by simp,rfl⟩
   rw[h]at this;exact(fkN_mem.mp this).1
  have hy:y∈x::l:=by
   have:y∈fkN (Zaw y) (y::m):=fkN_mem.mpr ⟨by simp,rfl⟩
   rw[←h]at this;exact(fkN_mem.mp this).1
  have e1:Zaw x≤Zaw y:=by
   rcases List.mem_cons.mp hy with e |e
   ·rw[e];exact Int.le_refl _
   ·exact l1 y e
  have e2:Zaw y≤Zaw x:=by
   rcases List.mem_cons.mp hx with e |e
   ·rw[e];exact Int.le_refl _
   ·exact m1 x e
  have hk:=h (Zaw x)
  rw[ZbX,if_pos rfl,ZbX,if_pos (by omega)]at hk
  obtain⟨exy,_⟩:=List.cons.inj hk
  subst exy
  rw[Zql l2 m2 fun k=>?_]
  have:=h k
  rw[ZbX,ZbX]at this
  split at this
  ·exact(List.cons.inj this).2
  ·exact this
theorem Zjp{l m:List AV}(h:Za7 m)(hk:∀k,fkN k m=fkN k l):Zay l=m:=
 Zql (ZbI l).1 h fun k=>by rw[(ZbI l).2,hk]
theorem Za3{l:List AV}(h:Za7 l):Zay l=l:=Zjp h fun _=>rfl
theorem mem_sort{l:List AV}{y:AV} :y∈Zay l↔y∈l:=by
 constructor
 ·exact ZfA
 ·intro h
  have:y∈fkN (Zaw y) l:=fkN_mem.mpr ⟨h,rfl⟩
  rw[←(ZbI l).2]at this
  exact(fkN_mem.mp this).1
theorem Zfc(X U V Y:List AV)(hl:Za7 (X++U))(hr:Za7 (V++Y))(hs:∀v∈V,∀u∈U,Zaw v<Zaw u)(hxy:∀x∈X,∀y∈Y,Zaw x≤Zaw y):Zay (X++U++(V++Y))=Zay (X++V)++Zay (U++Y):=by
 obtain⟨a1,a2,a3⟩:=List.pairwise_append.mp hl
 obtain⟨b1,b2,b3⟩:=List.pairwise_append.mp hr
 refine Zjp (List.pairwise_append.mpr ⟨(ZbI _).1,(ZbI _).1,fun p hp q hq=>?_⟩) fun k=>?_
 ·have hp:=List.mem_append.mp (mem_sort.mp hp)
  have hq:=List.mem_append.mp (mem_sort.mp hq)
  rcases hp with hp |hp<;>rcases hq with hq |hq
  ·exact a3 p hp q hq
  ·exact hxy p hp q hq
  ·exact Int.le_of_lt (hs p hp q hq)
  ·exact b3 p hp q hq
 ·rw[Zci,(ZbI _).2,(ZbI _).2,Zci,Zci,Zci,Zci,Zci]
  have:fkN k V++fkN k U=fkN k U++fkN k V:=by
   cases hv:fkN k V with
   |nil=>simp
   |cons v vs=>
    cases hu:fkN k U with
    |nil=>simp
    |cons u us=>
     have h1:=fkN_mem.mp (show v∈fkN k V by rw[hv];simp)
     have h2:=fkN_mem.mp (show u∈fkN k U by rw[hu];simp)
     have:=hs v h1.1 u h2.1
     omega
  rw[List.append_assoc,←List.append_assoc (fkN k V),this]
  simp
end Go.Proofs.Ytjhdnpmojhkbjaa
/- Merging: the contract that the recursion uses. No condition. -/
namespace Go.Proofs.Ytjhdnpmojhkbjaa
def Zgi:List AV→Bool
 |[]=>true
 |x::l=>l.all (fun y=>decide (Zaw x≤Zaw y))&&Zgi l
def smB(N:Nat)(xs:List AV)(a m b:Int):Bool:=decide (0≤a∧a<m∧m<b∧b≤xs.length∧xs.length<1000000∧b-a<N)&&ZaH xs&&Zgi ((xs.take m.toNat).drop a.toNat)&&Zgi ((xs.take b.toNat).drop m.toNat)
def ZHg(N:Nat):Ctr:=⟨1000140,0,fun _ a=>match a with |[.list (.big (.agg [.int .i64, .int .i64, .int .i64, .ints .i64, .int .i64]) xs), .int .i64 a, .int .i64 m, .int .i64 b, .fn 119 []]=>some (decide (smB N xs a m b=true), .tup [],some ⟨140,5, .big shN (Zbm a.toNat b.toNat xs)⟩) |_=>none⟩
def BO5(N:Nat):List Ctr:=ZHg N::BO4
end Go.Proofs.Ytjhdnpmojhkbjaa
/- Paths of functions, printed by the explorer (Gx). No condition. -/
namespace Go.Proofs.Ytjhdnpmojhkbjaa
set_option maxRecDepth 100000
set_option linter.unusedVariables false
def ZvL(xs:List AV)(a:Int)(m:Int)(b:Int):AFrame:={ fn:=140,N:=220,env:=[(0,AV.row 0 0),(1,AV.int .i64 a),(2,AV.int .i64 m),(3,AV.int .i64 b),(4,AV.fn 119 [])],todo:=[.code a140.code],defs:=[],rnd:=none,ret:=false,res:=[] }
def Ztv(xs:List AV)(a:Int)(m:Int)(b:Int):List AFrame:=[(ZvL xs a m b)]
theorem Zs3(xs:List AV)(a:Int)(m:Int)(b:Int):Zam tab 140 [AV.row 0 0,AV.int .i64 a,AV.int .i64 m,AV.int .i64 b,AV.fn 119 []]=some (ZvL xs a m b):=rfl
def Zm7(xs:List AV)(a:Int)(m:Int)(b:Int):Zaa:=[(0,{ base:=0,blks:=[Blk.row 140 5 (Row.big (Sh.agg [Sh.int .i64,Sh.int .i64,Sh.int .i64,Sh.ints .i64,Sh.int .i64]) xs)] })]
def ZbQ(xs:List AV)(a n0 n1:Int):List AFrame:=[{ fn:=140,N:=220,env:=[(0,AV.row 0 0),(1,AV.int .i64 a),(4,AV.fn 119 []),(10,AV.int .i64 n0),(11,AV.int .i64 n1)],todo:=.code (ACode.gh [] Zt6)::ZDf,defs:=[],rnd:=none,ret:=false,res:=[] }]
def ZbD(xs:List AV)(a:Int)(n0:Int)(n1:Int):Zaa:=[(0,{ base:=0,blks:=[Blk.row 140 5 (Row.big (Sh.agg [Sh.int .i64,Sh.int .i64,Sh.int .i64,Sh.ints .i64,Sh.int .i64]) xs)] })]
abbrev Zd5(xs:List AV)(a:Int)(n0:Int)(n1:Int):List AFrame×Zaa:=(ZbQ xs a n0 n1,ZbD xs a n0 n1)
def ZbM(xs:List AV)(m n2 n3:Int):List AFrame:=[{ fn:=140,N:=220,env:=[(0,AV.row 0 0),(2,AV.int .i64 m),(4,AV.fn 119 []),(14,AV.int .i64 n2),(15,AV.int .i64 n3)],todo:=.code (ACode.gh [] Zt0)::ZAZ,defs:=[],rnd:=none,ret:=false,res:=[] }]
def ZbB(xs:List AV)(m:Int)(n2:Int)(n3:Int):Zaa:=[(0,{ base:=0,blks:=[Blk.row 140 5 (Row.big (Sh.agg [Sh.int .i64,Sh.int .i64,Sh.int .i64,Sh.ints .i64,Sh.int .i64]) xs)] })]
abbrev ZdV(xs:List AV)(m:Int)(n2:Int)(n3:Int):List AFrame×Zaa:=(ZbM xs m n2 n3,ZbB xs m n2 n3)
def Zah(xs:List AV)(a m b n4 n5 n6 n7 n8:Int):List AFrame:=[{ fn:=140,N:=220,env:=[(0,AV.row 0 0),(1,AV.int .i64 a),(2,AV.int .i64 m),(3,AV.int .i64 b),(4,AV.fn 119 []),(18,AV.int .i64 n4),(19,AV.int .i64 n5),(20,AV.int .i64 n6),(21,AV.int .i64 n7),(22,AV.int .i64 n8)],todo:=.code (ACode.gh [] Zva)::ZFL,defs:=[],rnd:=none,ret:=false,res:=[] }]
def Zag(xs:List AV)(a:Int)(m:Int)(b:Int)(n4:Int)(n5:Int)(n6:Int)(n7:Int)(n8:Int):Zaa:=[(0,{ base:=0,blks:=[Blk.row 140 5 (Row.big (Sh.agg [Sh.int .i64,Sh.int .i64,Sh.int .i64,Sh.ints .i64,Sh.int .i64]) xs)] })]
abbrev ZcY(xs:List AV)(a:Int)(m:Int)(b:Int)(n4:Int)(n5:Int)(n6:Int)(n7:Int)(n8:Int):List AFrame×Zaa:=(Zah xs a m b n4 n5 n6 n7 n8,Zag xs a m b n4 n5 n6 n7 n8)
def ZcP(n0 n9:Int)(x10:List AV):List AFrame:=[{ fn:=140,N:=220,env:=[(0,AV.row 0 0),(10,AV.int .i64 n0),(13,AV.int .i64 n9)],todo:=.code (ACode.gh [] ZuR)::ZBz,defs:=[],rnd:=none,ret:=false,res:=[] }]
def Zb4(n0:Int)(n9:Int)(x10:List AV):Zaa:=[(0,{ base:=0,blks:=[Blk.row 140 5 (Row.big (Sh.agg [Sh.int .i64,Sh.int .i64,Sh.int .i64,Sh.ints .i64,Sh.int .i64]) x10)] })]
abbrev ZgL(n0:Int)(n9:Int)(x10:List AV):List AFrame×Zaa:=(ZcP n0 n9 x10,Zb4 n0 n9 x10)
def ZcC(n2 n11:Int)(x12:List AV):List AFrame:=[{ fn:=140,N:=220,env:=[(0,AV.row 0 0),(14,AV.int .i64 n2),(17,AV.int .i64 n11)],todo:=.code (ACode.gh [] Zvx)::ZCr,defs:=[],rnd:=none,ret:=false,res:=[] }]
def Zb5(n2:Int)(n11:Int)(x12:List AV):Zaa:=[(0,{ base:=0,blks:=[Blk.row 140 5 (Row.big (Sh.agg [Sh.int .i64,Sh.int .i64,Sh.int .i64,Sh.ints .i64,Sh.int .i64]) x12)] })]
abbrev Zgs(n2:Int)(n11:Int)(x12:List AV):List AFrame×Zaa:=(ZcC n2 n11 x12,Zb5 n2 n11 x12)
theorem ZFT(A:Ar)(N:Nat)(xs:List AV)(a m b:Int):Zad A tab (BO5 N) 23 [true] (Ztv xs a m b) (Zm7 xs a m b)=
 some (tr [4,1,2] [A.eq (A.sub m a) 1,A.inR .i64 (A.sub m a)],
  Zd5 (xs) (a) (m) (b)):=by kernel_rfl
theorem ZFp(A:Ar)(N:Nat)(xs:List AV)(a m b:Int):Zad A tab (BO5 N) 33 [false,true] (Ztv xs a m b) (Zm7 xs a m b)=
 some (tr [4,1,2,1,2] [A.eq (A.sub b m) 1,A.inR .i64 (A.sub b m),!A.eq (A.sub m a) 1,A.inR .i64 (A.sub m a)],
  ZdV (xs) (m) (a) (m)):=by kernel_rfl
theorem ZG7(A:Ar)(N:Nat)(xs:List AV)(a m b:Int):Zad A tab (BO5 N) 72 [false,false,true] (Ztv xs a m b) (Zm7 xs a m b)=
 some (tr [1,4,2,6,3,0,0,0,2,1,2,1,2] [A.inR .i64 (A.sub (A.add (A.shr (A.add a b) 1) m) 1),A.inR .i64 (A.sub (A.add (A.shr (A.add a b) 1) m) b),A.lt (A.shr (A.add a b) 1) m,A.inR .i64 (A.add (A.shr (A.add a b) 1) m),A.inR .i64 (A.shr (A.add a b) 1),Zab (A.le 0 1) (Nat.blt (A.nat 1) 64),A.inR .u64 (A.add a b),A.inR .i64 (A.add a b),!A.eq (A.sub b m) 1,A.inR .i64 (A.sub b m),!A.eq (A.sub m a) 1,A.inR .i64 (A.sub m a)],
  ZcY (xs) (a) (m) (b) (A.shr (A.add a b) 1) (A.add (A.shr (A.add a b) 1) m) (A.sub (A.add (A.shr (A.add a b) 1) m) b) (A.shr (A.add a b) 1) (A.sub (A.add (A.shr (A.add a b) 1) m) 1)):=by kernel_rfl
theorem ZEB(A:Ar)(N:Nat)(xs:List AV)(a m b:Int):Zad A tab (BO5 N) 70 [false,false,false] (Ztv xs a m b) (Zm7 xs a m b)=
 some (tr [1,5,6,3,0,0,0,2,1,2,1,2] [A.inR .i64 (A.sub (A.add (A.shr (A.add a b) 1) m) 1),!A.lt (A.shr (A.add a b) 1) m,A.inR .i64 (A.add (A.shr (A.add a b) 1) m),A.inR .i64 (A.shr (A.add a b) 1),Zab (A.le 0 1) (Nat.blt (A.nat 1) 64),A.inR .u64 (A.add a b),A.inR .i64 (A.add a b),!A.eq (A.sub b m) 1,A.inR .i64 (A.sub b m),!A.eq (A.sub m a) 1,A.inR .i64 (A.sub m a)],
  ZcY (xs) (a) (m) (b) (A.shr (A.add a b) 1) (A.add (A.shr (A.add a b) 1) m) (a) (m) (A.sub (A.add (A.shr (A.add a b) 1) m) 1)):=by kernel_rfl
theorem ZGN(A:Ar)(N:Nat)(xs:List AV)(a n0 n1:Int):Zad A tab (BO5 N) 34 [true,true] (ZbQ xs a n0 n1) (ZbD xs a n0 n1)=
 some (tr [1,1,2,0,2,0,4,0,0,0,2,3] [A.inR .i64 (A.add (A.shr (A.add n0 n1) 1) 1),A.lt (Zh9 ((A.nthA xs (A.nat (A.shr (A.add n0 n1) 1))).cellAt 4).toI ((A.nthA xs (A.nat a)).cellAt 4).toI) 0,Zab (Nat.blt (A.nat a) (A.lenA xs)) true,Zab (A.le 0 a) (Nat.blt (A.nat a) (A.lenA xs)),Zab (Nat.blt (A.nat (A.shr (A.add n0 n1) 1)) (A.lenA xs)) true,Zab (A.le 0 (A.shr (A.add n0 n1) 1)) (Nat.blt (A.nat (A.shr (A.add n0 n1) 1)) (A.lenA xs)),A.inR .i64 (A.shr (A.add n0 n1) 1),Zab (A.le 0 1) (Nat.blt (A.nat 1) 64),A.inR .u64 (A.add n0 n1),A.inR .i64 (A.add n0 n1),A.lt n0 n1],
  Zd5 (xs) (a) (A.add (A.shr (A.add n0 n1) 1) 1) (n1)):=by kernel_rfl
theorem ZBH(A:Ar)(N:Nat)(xs:List AV)(a n0 n1:Int):Zad A tab (BO5 N) 33 [true,false] (ZbQ xs a n0 n1) (ZbD xs a n0 n1)=
 some (tr [2,2,0,2,0,4,0,0,0,2,3] [!A.lt (Zh9 ((A.nthA xs (A.nat (A.shr (A.add n0 n1) 1))).cellAt 4).toI ((A.nthA xs (A.nat a)).cellAt 4).toI) 0,Zab (Nat.blt (A.nat a) (A.lenA xs)) true,Zab (A.le 0 a) (Nat.blt (A.nat a) (A.lenA xs)),Zab (Nat.blt (A.nat (A.shr (A.add n0 n1) 1)) (A.lenA xs)) true,Zab (A.le 0 (A.shr (A.add n0 n1) 1)) (Nat.blt (A.nat (A.shr (A.add n0 n1) 1)) (A.lenA xs)),A.inR .i64 (A.shr (A.add n0 n1) 1),Zab (A.le 0 1) (Nat.blt (A.nat 1) 64),A.inR .u64 (A.add n0 n1),A.inR .i64 (A.add n0 n1),A.lt n0 n1],
  Zd5 (xs) (a) (n0) (A.shr (A.add n0 n1) 1)):=by kernel_rfl
theorem ZEA(A:Ar)(N:Nat)(xs:List AV)(a n0 n1:Int):Zad A tab (BO5 N) 19 [false] (ZbQ xs a n0 n1) (ZbD xs a n0 n1)=
 some (tr [2,3] [!A.lt n0 n1],
  ZgL (n0) (a) (xs)):=by kernel_rfl
theorem ZEv(A:Ar)(N:Nat)(xs:List AV)(m n2 n3:Int):Zad A tab (BO5 N) 34 [true,true] (ZbM xs m n2 n3) (ZbB xs m n2 n3)=
 some (tr [1,1,3,0,2,0,4,0,0,0,2,3] [A.inR .i64 (A.add (A.shr (A.add n2 n3) 1) 1),A.not (A.lt (Zh9 ((A.nthA xs (A.nat m)).cellAt 4).toI ((A.nthA xs (A.nat (A.shr (A.add n2 n3) 1))).cellAt 4).toI) 0),Zab (Nat.blt (A.nat (A.shr (A.add n2 n3) 1)) (A.lenA xs)) true,Zab (A.le 0 (A.shr (A.add n2 n3) 1)) (Nat.blt (A.nat (A.shr (A.add n2 n3) 1)) (A.lenA xs)),Zab (Nat.blt (A.nat m) (A.lenA xs)) true,Zab (A.le 0 m) (Nat.blt (A.nat m) (A.lenA xs)),A.inR .i64 (A.shr (A.add n2 n3) 1),Zab (A.le 0 1) (Nat.blt (A.nat 1) 64),A.inR .u64 (A.add n2 n3),A.inR .i64 (A.add n2 n3),A.lt n2 n3],
  ZdV (xs) (m) (A.add (A.shr (A.add n2 n3) 1) 1) (n3)):=by kernel_rfl
theorem ZCF(A:Ar)(N:Nat)(xs:List AV)(m n2 n3:Int):Zad A tab (BO5 N) 33 [true,false] (ZbM xs m n2 n3) (ZbB xs m n2 n3)=
 some (tr [2,3,0,2,0,4,0,0,0,2,3] [!A.not (A.lt (Zh9 ((A.nthA xs (A.nat m)).cellAt 4).toI ((A.nthA xs (A.nat (A.shr (A.add n2 n3) 1))).cellAt 4).toI) 0),Zab (Nat.blt (A.nat (A.shr (A.add n2 n3) 1)) (A.lenA xs)) true,Zab (A.le 0 (A.shr (A.add n2 n3) 1)) (Nat.blt (A.nat (A.shr (A.add n2 n3) 1)) (A.lenA xs)),Zab (Nat.blt (A.nat m) (A.lenA xs)) true,Zab (A.le 0 m) (Nat.blt (A.nat m) (A.lenA xs)),A.inR .i64 (A.shr (A.add n2 n3) 1),Zab (A.le 0 1) (Nat.blt (A.nat 1) 64),A.inR .u64 (A.add n2 n3),A.inR .i64 (A.add n2 n3),A.lt n2 n3],
  ZdV (xs) (m) (n2) (A.shr (A.add n2 n3) 1)):=by kernel_rfl
theorem ZDF(A:Ar)(N:Nat)(xs:List AV)(m n2 n3:Int):Zad A tab (BO5 N) 19 [false] (ZbM xs m n2 n3) (ZbB xs m n2 n3)=
 some (tr [2,3] [!A.lt n2 n3],
  Zgs (n2) (m) (xs)):=by kernel_rfl
theorem Zxj(A:Ar)(N:Nat)(xs:List AV)(a m b n4 n5 n6 n7 n8:Int):Zad A tab (BO5 N) 34 [true,true] (Zah xs a m b n4 n5 n6 n7 n8) (Zag xs a m b n4 n5 n6 n7 n8)=
 some (tr [1,1,3,0,2,0,0,5,0,0,0,2,3] [A.inR .i64 (A.add (A.shr (A.add n6 n7) 1) 1),A.not (A.lt (Zh9 ((A.nthA xs (A.nat (A.sub n8 (A.shr (A.add n6 n7) 1)))).cellAt 4).toI ((A.nthA xs (A.nat (A.shr (A.add n6 n7) 1))).cellAt 4).toI) 0),Zab (Nat.blt (A.nat (A.shr (A.add n6 n7) 1)) (A.lenA xs)) true,Zab (A.le 0 (A.shr (A.add n6 n7) 1)) (Nat.blt (A.nat (A.shr (A.add n6 n7) 1)) (A.lenA xs)),Zab (Nat.blt (A.nat (A.sub n8 (A.shr (A.add n6 n7) 1))) (A.lenA xs)) true,Zab (A.le 0 (A.sub n8 (A.shr (A.add n6 n7) 1))) (Nat.blt (A.nat (A.sub n8 (A.shr (A.add n6 n7) 1))) (A.lenA xs)),A.inR .i64 (A.sub n8 (A.shr (A.add n6 n7) 1)),A.inR .i64 (A.shr (A.add n6 n7) 1),Zab (A.le 0 1) (Nat.blt (A.nat 1) 64),A.inR .u64 (A.add n6 n7),A.inR .i64 (A.add n6 n7),A.lt n6 n7],
  ZcY (xs) (a) (m) (b) (n4) (n5) (A.add (A.shr (A.add n6 n7) 1) 1) (n7) (n8)):=by kernel_rfl
theorem ZwZ(A:Ar)(N:Nat)(xs:List AV)(a m b n4 n5 n6 n7 n8:Int):Zad A tab (BO5 N) 33 [true,false] (Zah xs a m b n4 n5 n6 n7 n8) (Zag xs a m b n4 n5 n6 n7 n8)=
 some (tr [2,3,0,2,0,0,5,0,0,0,2,3] [!A.not (A.lt (Zh9 ((A.nthA xs (A.nat (A.sub n8 (A.shr (A.add n6 n7) 1)))).cellAt 4).toI ((A.nthA xs (A.nat (A.shr (A.add n6 n7) 1))).cellAt 4).toI) 0),Zab (Nat.blt (A.nat (A.shr (A.add n6 n7) 1)) (A.lenA xs)) true,Zab (A.le 0 (A.shr (A.add n6 n7) 1)) (Nat.blt (A.nat (A.shr (A.add n6 n7) 1)) (A.lenA xs)),Zab (Nat.blt (A.nat (A.sub n8 (A.shr (A.add n6 n7) 1))) (A.lenA xs)) true,Zab (A.le 0 (A.sub n8 (A.shr (A.add n6 n7) 1))) (Nat.blt (A.nat (A.sub n8 (A.shr (A.add n6 n7) 1))) (A.lenA xs)),A.inR .i64 (A.sub n8 (A.shr (A.add n6 n7) 1)),A.inR .i64 (A.shr (A.add n6 n7) 1),Zab (A.le 0 1) (Nat.blt (A.nat 1) 64),A.inR .u64 (A.add n6 n7),A.inR .i64 (A.add n6 n7),A.lt n6 n7],
  ZcY (xs) (a) (m) (b) (n4) (n5) (n6) (A.shr (A.add n6 n7) 1) (n8)):=by kernel_rfl
theorem ZyT(A:Ar)(N:Nat)(xs:List AV)(a m b n4 n5 n6 n7 n8:Int):ZaX A tab (BO5 N) 83 [false,true,true,true,true,true,true,true,true,true,true,true,true,true,true,true] 140 (Zah xs a m b n4 n5 n6 n7 n8) (Zag xs a m b n4 n5 n6 n7 n8)=
 some (tr [1,5,7,4,5,7,4,5,7,5,2,3] [Zab (decide (smB N (Zbm (Int.toNat a) (Int.toNat n4) (Zhj (Int.toNat n6) (Int.toNat m) (Int.toNat (A.sub n5 n6)) xs)) n4 (A.sub n5 n6) b=true)) true,A.lt (A.sub n5 n6) b,A.lt n4 (A.sub n5 n6),Zab (decide (smB N (Zhj (Int.toNat n6) (Int.toNat m) (Int.toNat (A.sub n5 n6)) xs) a n6 n4=true)) true,A.lt n6 n4,A.lt a n6,Zab (decide (Zns xs n6 m (A.sub n5 n6)=true)) true,A.lt m (A.sub n5 n6),A.lt n6 m,A.inR .i64 (A.sub n5 n6),!A.lt n6 n7],
  AV.tup [],140,5,Row.big (.agg [.int .i64, .int .i64, .int .i64, .ints .i64, .int .i64]) (Zbm (Int.toNat n4) (Int.toNat b) (Zbm (Int.toNat a) (Int.toNat n4) (Zhj (Int.toNat n6) (Int.toNat m) (Int.toNat (A.sub n5 n6)) xs)))):=by kernel_rfl
theorem ZwY(A:Ar)(N:Nat)(xs:List AV)(a m b n4 n5 n6 n7 n8:Int):ZaX A tab (BO5 N) 76 [false,true,true,true,true,true,true,true,true,true,true,true,true,true,true,false] 140 (Zah xs a m b n4 n5 n6 n7 n8) (Zag xs a m b n4 n5 n6 n7 n8)=
 some (tr [1,7,4,5,7,4,5,7,5,2,3] [!A.lt (A.sub n5 n6) b,A.lt n4 (A.sub n5 n6),Zab (decide (smB N (Zhj (Int.toNat n6) (Int.toNat m) (Int.toNat (A.sub n5 n6)) xs) a n6 n4=true)) true,A.lt n6 n4,A.lt a n6,Zab (decide (Zns xs n6 m (A.sub n5 n6)=true)) true,A.lt m (A.sub n5 n6),A.lt n6 m,A.inR .i64 (A.sub n5 n6),!A.lt n6 n7],
  AV.tup [],140,5,Row.big (.agg [.int .i64, .int .i64, .int .i64, .ints .i64, .int .i64]) (Zbm (Int.toNat a) (Int.toNat n4) (Zhj (Int.toNat n6) (Int.toNat m) (Int.toNat (A.sub n5 n6)) xs))):=by kernel_rfl
theorem Zxo(A:Ar)(N:Nat)(xs:List AV)(a m b n4 n5 n6 n7 n8:Int):ZaX A tab (BO5 N) 76 [false,true,true,true,true,true,true,true,true,true,true,false,false,false,false,false] 140 (Zah xs a m b n4 n5 n6 n7 n8) (Zag xs a m b n4 n5 n6 n7 n8)=
 some (tr [9,4,5,7,4,5,7,5,2,3] [!A.lt n4 (A.sub n5 n6),Zab (decide (smB N (Zhj (Int.toNat n6) (Int.toNat m) (Int.toNat (A.sub n5 n6)) xs) a n6 n4=true)) true,A.lt n6 n4,A.lt a n6,Zab (decide (Zns xs n6 m (A.sub n5 n6)=true)) true,A.lt m (A.sub n5 n6),A.lt n6 m,A.inR .i64 (A.sub n5 n6),!A.lt n6 n7],
  AV.tup [],140,5,Row.big (.agg [.int .i64, .int .i64, .int .i64, .ints .i64, .int .i64]) (Zbm (Int.toNat a) (Int.toNat n4) (Zhj (Int.toNat n6) (Int.toNat m) (Int.toNat (A.sub n5 n6)) xs))):=by kernel_rfl
theorem Zw6(A:Ar)(N:Nat)(xs:List AV)(a m b n4 n5 n6 n7 n8:Int):ZaX A tab (BO5 N) 76 [false,true,true,true,true,true,true,true,true,true,false,true,true,true,true,true] 140 (Zah xs a m b n4 n5 n6 n7 n8) (Zag xs a m b n4 n5 n6 n7 n8)=
 some (tr [1,5,7,4,7,4,5,7,5,2,3] [Zab (decide (smB N (Zhj (Int.toNat n6) (Int.toNat m) (Int.toNat (A.sub n5 n6)) xs) n4 (A.sub n5 n6) b=true)) true,A.lt (A.sub n5 n6) b,A.lt n4 (A.sub n5 n6),!A.lt n6 n4,A.lt a n6,Zab (decide (Zns xs n6 m (A.sub n5 n6)=true)) true,A.lt m (A.sub n5 n6),A.lt n6 m,A.inR .i64 (A.sub n5 n6),!A.lt n6 n7],
  AV.tup [],140,5,Row.big (.agg [.int .i64, .int .i64, .int .i64, .ints .i64, .int .i64]) (Zbm (Int.toNat n4) (Int.toNat b) (Zhj (Int.toNat n6) (Int.toNat m) (Int.toNat (A.sub n5 n6)) xs))):=by kernel_rfl
theorem ZzZ(A:Ar)(N:Nat)(xs:List AV)(a m b n4 n5 n6 n7 n8:Int):ZaX A tab (BO5 N) 69 [false,true,true,true,true,true,true,true,true,true,false,true,true,true,true,false] 140 (Zah xs a m b n4 n5 n6 n7 n8) (Zag xs a m b n4 n5 n6 n7 n8)=
 some (tr [1,7,4,7,4,5,7,5,2,3] [!A.lt (A.sub n5 n6) b,A.lt n4 (A.sub n5 n6),!A.lt n6 n4,A.lt a n6,Zab (decide (Zns xs n6 m (A.sub n5 n6)=true)) true,A.lt m (A.sub n5 n6),A.lt n6 m,A.inR .i64 (A.sub n5 n6),!A.lt n6 n7],
  AV.tup [],140,5,Row.big (.agg [.int .i64, .int .i64, .int .i64, .ints .i64, .int .i64]) (Zhj (Int.toNat n6) (Int.toNat m) (Int.toNat (A.sub n5 n6)) xs)):=by kernel_rfl
theorem Zxw(A:Ar)(N:Nat)(xs:List AV)(a m b n4 n5 n6 n7 n8:Int):ZaX A tab (BO5 N) 69 [false,true,true,true,true,true,true,true,true,true,false,false,false,false,false,false] 140 (Zah xs a m b n4 n5 n6 n7 n8) (Zag xs a m b n4 n5 n6 n7 n8)=
 some (tr [9,4,7,4,5,7,5,2,3] [!A.lt n4 (A.sub n5 n6),!A.lt n6 n4,A.lt a n6,Zab (decide (Zns xs n6 m (A.sub n5 n6)=true)) true,A.lt m (A.sub n5 n6),A.lt n6 m,A.inR .i64 (A.sub n5 n6),!A.lt n6 n7],
  AV.tup [],140,5,Row.big (.agg [.int .i64, .int .i64, .int .i64, .ints .i64, .int .i64]) (Zhj (Int.toNat n6) (Int.toNat m) (Int.toNat (A.sub n5 n6)) xs)):=by kernel_rfl
theorem ZxN(A:Ar)(N:Nat)(xs:List AV)(a m b n4 n5 n6 n7 n8:Int):ZaX A tab (BO5 N) 76 [false,true,true,true,true,true,false,false,false,false,false,true,true,true,true,true] 140 (Zah xs a m b n4 n5 n6 n7 n8) (Zag xs a m b n4 n5 n6 n7 n8)=
 some (tr [1,5,7,12,4,5,7,5,2,3] [Zab (decide (smB N (Zhj (Int.toNat n6) (Int.toNat m) (Int.toNat (A.sub n5 n6)) xs) n4 (A.sub n5 n6) b=true)) true,A.lt (A.sub n5 n6) b,A.lt n4 (A.sub n5 n6),!A.lt a n6,Zab (decide (Zns xs n6 m (A.sub n5 n6)=true)) true,A.lt m (A.sub n5 n6),A.lt n6 m,A.inR .i64 (A.sub n5 n6),!A.lt n6 n7],
  AV.tup [],140,5,Row.big (.agg [.int .i64, .int .i64, .int .i64, .ints .i64, .int .i64]) (Zbm (Int.toNat n4) (Int.toNat b) (Zhj (Int.toNat n6) (Int.toNat m) (Int.toNat (A.sub n5 n6)) xs))):=by kernel_rfl
theorem Zv6(A:Ar)(N:Nat)(xs:List AV)(a m b n4 n5 n6 n7 n8:Int):ZaX A tab (BO5 N) 69 [false,true,true,true,true,true,false,false,false,false,false,true,true,true,true,false] 140 (Zah xs a m b n4 n5 n6 n7 n8) (Zag xs a m b n4 n5 n6 n7 n8)=
 some (tr [1,7,12,4,5,7,5,2,3] [!A.lt (A.sub n5 n6) b,A.lt n4 (A.sub n5 n6),!A.lt a n6,Zab (decide (Zns xs n6 m (A.sub n5 n6)=true)) true,A.lt m (A.sub n5 n6),A.lt n6 m,A.inR .i64 (A.sub n5 n6),!A.lt n6 n7],
  AV.tup [],140,5,Row.big (.agg [.int .i64, .int .i64, .int .i64, .ints .i64, .int .i64]) (Zhj (Int.toNat n6) (Int.toNat m) (Int.toNat (A.sub n5 n6)) xs)):=by kernel_rfl
theorem ZxQ(A:Ar)(N:Nat)(xs:List AV)(a m b n4 n5 n6 n7 n8:Int):ZaX A tab (BO5 N) 69 [false,true,true,true,true,true,false,false,false,false,false,false,false,false,false,false] 140 (Zah xs a m b n4 n5 n6 n7 n8) (Zag xs a m b n4 n5 n6 n7 n8)=
 some (tr [9,12,4,5,7,5,2,3] [!A.lt n4 (A.sub n5 n6),!A.lt a n6,Zab (decide (Zns xs n6 m (A.sub n5 n6)=true)) true,A.lt m (A.sub n5 n6),A.lt n6 m,A.inR .i64 (A.sub n5 n6),!A.lt n6 n7],
  AV.tup [],140,5,Row.big (.agg [.int .i64, .int .i64, .int .i64, .ints .i64, .int .i64]) (Zhj (Int.toNat n6) (Int.toNat m) (Int.toNat (A.sub n5 n6)) xs)):=by kernel_rfl
theorem Zx6(A:Ar)(N:Nat)(xs:List AV)(a m b n4 n5 n6 n7 n8:Int):ZaX A tab (BO5 N) 76 [false,true,true,true,true,false,true,true,true,true,true,true,true,true,true,true] 140 (Zah xs a m b n4 n5 n6 n7 n8) (Zag xs a m b n4 n5 n6 n7 n8)=
 some (tr [1,5,7,4,5,7,4,7,5,2,3] [Zab (decide (smB N (Zbm (Int.toNat a) (Int.toNat n4) xs) n4 (A.sub n5 n6) b=true)) true,A.lt (A.sub n5 n6) b,A.lt n4 (A.sub n5 n6),Zab (decide (smB N xs a n6 n4=true)) true,A.lt n6 n4,A.lt a n6,!A.lt m (A.sub n5 n6),A.lt n6 m,A.inR .i64 (A.sub n5 n6),!A.lt n6 n7],
  AV.tup [],140,5,Row.big (.agg [.int .i64, .int .i64, .int .i64, .ints .i64, .int .i64]) (Zbm (Int.toNat n4) (Int.toNat b) (Zbm (Int.toNat a) (Int.toNat n4) xs))):=by kernel_rfl
theorem Zxf(A:Ar)(N:Nat)(xs:List AV)(a m b n4 n5 n6 n7 n8:Int):ZaX A tab (BO5 N) 69 [false,true,true,true,true,false,true,true,true,true,true,true,true,true,true,false] 140 (Zah xs a m b n4 n5 n6 n7 n8) (Zag xs a m b n4 n5 n6 n7 n8)=
 some (tr [1,7,4,5,7,4,7,5,2,3] [!A.lt (A.sub n5 n6) b,A.lt n4 (A.sub n5 n6),Zab (decide (smB N xs a n6 n4=true)) true,A.lt n6 n4,A.lt a n6,!A.lt m (A.sub n5 n6),A.lt n6 m,A.inR .i64 (A.sub n5 n6),!A.lt n6 n7],
  AV.tup [],140,5,Row.big (.agg [.int .i64, .int .i64, .int .i64, .ints .i64, .int .i64]) (Zbm (Int.toNat a) (Int.toNat n4) xs)):=by kernel_rfl
theorem ZzT(A:Ar)(N:Nat)(xs:List AV)(a m b n4 n5 n6 n7 n8:Int):ZaX A tab (BO5 N) 69 [false,true,true,true,true,false,true,true,true,true,true,false,false,false,false,false] 140 (Zah xs a m b n4 n5 n6 n7 n8) (Zag xs a m b n4 n5 n6 n7 n8)=
 some (tr [9,4,5,7,4,7,5,2,3] [!A.lt n4 (A.sub n5 n6),Zab (decide (smB N xs a n6 n4=true)) true,A.lt n6 n4,A.lt a n6,!A.lt m (A.sub n5 n6),A.lt n6 m,A.inR .i64 (A.sub n5 n6),!A.lt n6 n7],
  AV.tup [],140,5,Row.big (.agg [.int .i64, .int .i64, .int .i64, .ints .i64, .int .i64]) (Zbm (Int.toNat a) (Int.toNat n4) xs)):=by kernel_rfl
theorem Zyd(A:Ar)(N:Nat)(xs:List AV)(a m b n4 n5 n6 n7 n8:Int):ZaX A tab (BO5 N) 69 [false,true,true,true,true,false,true,true,true,true,false,true,true,true,true,true] 140 (Zah xs a m b n4 n5 n6 n7 n8) (Zag xs a m b n4 n5 n6 n7 n8)=
 some (tr [1,5,7,4,7,4,7,5,2,3] [Zab (decide (smB N xs n4 (A.sub n5 n6) b=true)) true,A.lt (A.sub n5 n6) b,A.lt n4 (A.sub n5 n6),!A.lt n6 n4,A.lt a n6,!A.lt m (A.sub n5 n6),A.lt n6 m,A.inR .i64 (A.sub n5 n6),!A.lt n6 n7],
  AV.tup [],140,5,Row.big (.agg [.int .i64, .int .i64, .int .i64, .ints .i64, .int .i64]) (Zbm (Int.toNat n4) (Int.toNat b) xs)):=by kernel_rfl
theorem ZyG(A:Ar)(N:Nat)(xs:List AV)(a m b n4 n5 n6 n7 n8:Int):ZaX A tab (BO5 N) 62 [false,true,true,true,true,false,true,true,true,true,false,true,true,true,true,false] 140 (Zah xs a m b n4 n5 n6 n7 n8) (Zag xs a m b n4 n5 n6 n7 n8)=
 some (tr [1,7,4,7,4,7,5,2,3] [!A.lt (A.sub n5 n6) b,A.lt n4 (A.sub n5 n6),!A.lt n6 n4,A.lt a n6,!A.lt m (A.sub n5 n6),A.lt n6 m,A.inR .i64 (A.sub n5 n6),!A.lt n6 n7],
  AV.tup [],140,5,Row.big (.agg [.int .i64, .int .i64, .int .i64, .ints .i64, .int .i64]) xs):=by kernel_rfl
theorem ZAu(A:Ar)(N:Nat)(xs:List AV)(a m b n4 n5 n6 n7 n8:Int):ZaX A tab (BO5 N) 62 [false,true,true,true,true,false,true,true,true,true,false,false,false,false,false,false] 140 (Zah xs a m b n4 n5 n6 n7 n8) (Zag xs a m b n4 n5 n6 n7 n8)=
 some (tr [9,4,7,4,7,5,2,3] [!A.lt n4 (A.sub n5 n6),!A.lt n6 n4,A.lt a n6,!A.lt m (A.sub n5 n6),A.lt n6 m,A.inR .i64 (A.sub n5 n6),!A.lt n6 n7],
  AV.tup [],140,5,Row.big (.agg [.int .i64, .int .i64, .int .i64, .ints .i64, .int .i64]) xs):=by kernel_rfl
theorem Zyl(A:Ar)(N:Nat)(xs:List AV)(a m b n4 n5 n6 n7 n8:Int):ZaX A tab (BO5 N) 69 [false,true,true,true,true,false,false,false,false,false,false,true,true,true,true,true] 140 (Zah xs a m b n4 n5 n6 n7 n8) (Zag xs a m b n4 n5 n6 n7 n8)=
 some (tr [1,5,7,12,4,7,5,2,3] [Zab (decide (smB N xs n4 (A.sub n5 n6) b=true)) true,A.lt (A.sub n5 n6) b,A.lt n4 (A.sub n5 n6),!A.lt a n6,!A.lt m (A.sub n5 n6),A.lt n6 m,A.inR .i64 (A.sub n5 n6),!A.lt n6 n7],
  AV.tup [],140,5,Row.big (.agg [.int .i64, .int .i64, .int .i64, .ints .i64, .int .i64]) (Zbm (Int.toNat n4) (Int.toNat b) xs)):=by kernel_rfl
theorem ZyS(A:Ar)(N:Nat)(xs:List AV)(a m b n4 n5 n6 n7 n8:Int):ZaX A tab (BO5 N) 62 [false,true,true,true,true,false,false,false,false,false,false,true,true,true,true,false] 140 (Zah xs a m b n4 n5 n6 n7 n8) (Zag xs a m b n4 n5 n6 n7 n8)=
 some (tr [1,7,12,4,7,5,2,3] [!A.lt (A.sub n5 n6) b,A.lt n4 (A.sub n5 n6),!A.lt a n6,!A.lt m (A.sub n5 n6),A.lt n6 m,A.inR .i64 (A.sub n5 n6),!A.lt n6 n7],
  AV.tup [],140,5,Row.big (.agg [.int .i64, .int .i64, .int .i64, .ints .i64, .int .i64]) xs):=by kernel_rfl
theorem Zwr(A:Ar)(N:Nat)(xs:List AV)(a m b n4 n5 n6 n7 n8:Int):ZaX A tab (BO5 N) 62 [false,true,true,true,true,false,false,false,false,false,false,false,false,false,false,false] 140 (Zah xs a m b n4 n5 n6 n7 n8) (Zag xs a m b n4 n5 n6 n7 n8)=
 some (tr [9,12,4,7,5,2,3] [!A.lt n4 (A.sub n5 n6),!A.lt a n6,!A.lt m (A.sub n5 n6),A.lt n6 m,A.inR .i64 (A.sub n5 n6),!A.lt n6 n7],
  AV.tup [],140,5,Row.big (.agg [.int .i64, .int .i64, .int .i64, .ints .i64, .int .i64]) xs):=by kernel_rfl
theorem Zyt(A:Ar)(N:Nat)(xs:List AV)(a m b n4 n5 n6 n7 n8:Int):ZaX A tab (BO5 N) 76 [false,false,false,false,false,false,true,true,true,true,true,true,true,true,true,true] 140 (Zah xs a m b n4 n5 n6 n7 n8) (Zag xs a m b n4 n5 n6 n7 n8)=
 some (tr [1,5,7,4,5,7,12,5,2,3] [Zab (decide (smB N (Zbm (Int.toNat a) (Int.toNat n4) xs) n4 (A.sub n5 n6) b=true)) true,A.lt (A.sub n5 n6) b,A.lt n4 (A.sub n5 n6),Zab (decide (smB N xs a n6 n4=true)) true,A.lt n6 n4,A.lt a n6,!A.lt n6 m,A.inR .i64 (A.sub n5 n6),!A.lt n6 n7],
  AV.tup [],140,5,Row.big (.agg [.int .i64, .int .i64, .int .i64, .ints .i64, .int .i64]) (Zbm (Int.toNat n4) (Int.toNat b) (Zbm (Int.toNat a) (Int.toNat n4) xs))):=by kernel_rfl
theorem Zzm(A:Ar)(N:Nat)(xs:List AV)(a m b n4 n5 n6 n7 n8:Int):ZaX A tab (BO5 N) 69 [false,false,false,false,false,false,true,true,true,true,true,true,true,true,true,false] 140 (Zah xs a m b n4 n5 n6 n7 n8) (Zag xs a m b n4 n5 n6 n7 n8)=
 some (tr [1,7,4,5,7,12,5,2,3] [!A.lt (A.sub n5 n6) b,A.lt n4 (A.sub n5 n6),Zab (decide (smB N xs a n6 n4=true)) true,A.lt n6 n4,A.lt a n6,!A.lt n6 m,A.inR .i64 (A.sub n5 n6),!A.lt n6 n7],
  AV.tup [],140,5,Row.big (.agg [.int .i64, .int .i64, .int .i64, .ints .i64, .int .i64]) (Zbm (Int.toNat a) (Int.toNat n4) xs)):=by kernel_rfl
theorem ZxZ(A:Ar)(N:Nat)(xs:List AV)(a m b n4 n5 n6 n7 n8:Int):ZaX A tab (BO5 N) 69 [false,false,false,false,false,false,true,true,true,true,true,false,false,false,false,false] 140 (Zah xs a m b n4 n5 n6 n7 n8) (Zag xs a m b n4 n5 n6 n7 n8)=
 some (tr [9,4,5,7,12,5,2,3] [!A.lt n4 (A.sub n5 n6),Zab (decide (smB N xs a n6 n4=true)) true,A.lt n6 n4,A.lt a n6,!A.lt n6 m,A.inR .i64 (A.sub n5 n6),!A.lt n6 n7],
  AV.tup [],140,5,Row.big (.agg [.int .i64, .int .i64, .int .i64, .ints .i64, .int .i64]) (Zbm (Int.toNat a) (Int.toNat n4) xs)):=by kernel_rfl
theorem Zwz(A:Ar)(N:Nat)(xs:List AV)(a m b n4 n5 n6 n7 n8:Int):ZaX A tab (BO5 N) 69 [false,false,false,false,false,false,true,true,true,true,false,true,true,true,true,true] 140 (Zah xs a m b n4 n5 n6 n7 n8) (Zag xs a m b n4 n5 n6 n7 n8)=
 some (tr [1,5,7,4,7,12,5,2,3] [Zab (decide (smB N xs n4 (A.sub n5 n6) b=true)) true,A.lt (A.sub n5 n6) b,A.lt n4 (A.sub n5 n6),!A.lt n6 n4,A.lt a n6,!A.lt n6 m,A.inR .i64 (A.sub n5 n6),!A.lt n6 n7],
  AV.tup [],140,5,Row.big (.agg [.int .i64, .int .i64, .int .i64, .ints .i64, .int .i64]) (Zbm (Int.toNat n4) (Int.toNat b) xs)):=by kernel_rfl
theorem Zyk(A:Ar)(N:Nat)(xs:List AV)(a m b n4 n5 n6 n7 n8:Int):ZaX A tab (BO5 N) 62 [false,false,false,false,false,false,true,true,true,true,false,true,true,true,true,false] 140 (Zah xs a m b n4 n5 n6 n7 n8) (Zag xs a m b n4 n5 n6 n7 n8)=
 some (tr [1,7,4,7,12,5,2,3] [!A.lt (A.sub n5 n6) b,A.lt n4 (A.sub n5 n6),!A.lt n6 n4,A.lt a n6,!A.lt n6 m,A.inR .i64 (A.sub n5 n6),!A.lt n6 n7],
  AV.tup [],140,5,Row.big (.agg [.int .i64, .int .i64, .int .i64, .ints .i64, .int .i64]) xs):=by kernel_rfl
theorem Zya(A:Ar)(N:Nat)(xs:List AV)(a m b n4 n5 n6 n7 n8:Int):ZaX A tab (BO5 N) 62 [false,false,false,false,false,false,true,true,true,true,false,false,false,false,false,false] 140 (Zah xs a m b n4 n5 n6 n7 n8) (Zag xs a m b n4 n5 n6 n7 n8)=
 some (tr [9,4,7,12,5,2,3] [!A.lt n4 (A.sub n5 n6),!A.lt n6 n4,A.lt a n6,!A.lt n6 m,A.inR .i64 (A.sub n5 n6),!A.lt n6 n7],
  AV.tup [],140,5,Row.big (.agg [.int .i64, .int .i64, .int .i64, .ints .i64, .int .i64]) xs):=by kernel_rfl
theorem Zyi(A:Ar)(N:Nat)(xs:List AV)(a m b n4 n5 n6 n7 n8:Int):ZaX A tab (BO5 N) 69 [false,false,false,false,false,false,false,false,false,false,false,true,true,true,true,true] 140 (Zah xs a m b n4 n5 n6 n7 n8) (Zag xs a m b n4 n5 n6 n7 n8)=
 some (tr [1,5,7,12,12,5,2,3] [Zab (decide (smB N xs n4 (A.sub n5 n6) b=true)) true,A.lt (A.sub n5 n6) b,A.lt n4 (A.sub n5 n6),!A.lt a n6,!A.lt n6 m,A.inR .i64 (A.sub n5 n6),!A.lt n6 n7],
  AV.tup [],140,5,Row.big (.agg [.int .i64, .int .i64, .int .i64, .ints .i64, .int .i64]) (Zbm (Int.toNat n4) (Int.toNat b) xs)):=by kernel_rfl
theorem Zy2(A:Ar)(N:Nat)(xs:List AV)(a m b n4 n5 n6 n7 n8:Int):ZaX A tab (BO5 N) 62 [false,false,false,false,false,false,false,false,false,false,false,true,true,true,true,false] 140 (Zah xs a m b n4 n5 n6 n7 n8) (Zag xs a m b n4 n5 n6 n7 n8)=
 some (tr [1,7,12,12,5,2,3] [!A.lt (A.sub n5 n6) b,A.lt n4 (A.sub n5 n6),!A.lt a n6,!A.lt n6 m,A.inR .i64 (A.sub n5 n6),!A.lt n6 n7],
  AV.tup [],140,5,Row.big (.agg [.int .i64, .int .i64, .int .i64, .ints .i64, .int .i64]) xs):=by kernel_rfl
theorem Zyy(A:Ar)(N:Nat)(xs:List AV)(a m b n4 n5 n6 n7 n8:Int):ZaX A tab (BO5 N) 62 [false,false,false,false,false,false,false,false,false,false,false,false,false,false,false,false] 140 (Zah xs a m b n4 n5 n6 n7 n8) (Zag xs a m b n4 n5 n6 n7 n8)=
 some (tr [9,12,12,5,2,3] [!A.lt n4 (A.sub n5 n6),!A.lt a n6,!A.lt n6 m,A.inR .i64 (A.sub n5 n6),!A.lt n6 n7],
  AV.tup [],140,5,Row.big (.agg [.int .i64, .int .i64, .int .i64, .ints .i64, .int .i64]) xs):=by kernel_rfl
theorem ZzK(A:Ar)(N:Nat)(n0 n9:Int)(x10:List AV):Zad A tab (BO5 N) 22 [true] (ZcP n0 n9 x10) (Zb4 n0 n9 x10)=
 some (tr [1,1,0,0,0,0,0,2,0,0,2,4,1,2] [A.inR .i64 (A.add n9 1),Zab (Nat.blt (A.nat (A.add n9 1)) (A.lenA (A.setA x10 (A.nat n9) (AV.agg (Row.gen [.int .i64 ((A.nthA x10 (A.nat (A.add n9 1))).cellAt 0).toI, .int .i64 ((A.nthA x10 (A.nat (A.add n9 1))).cellAt 1).toI, .int .i64 ((A.nthA x10 (A.nat (A.add n9 1))).cellAt 2).toI, .list (.ints .i64 ((A.nthA x10 (A.nat (A.add n9 1))).cellAt 3).toIs), .int .i64 ((A.nthA x10 (A.nat (A.add n9 1))).cellAt 4).toI]))))) true,Zab (A.le 0 (A.add n9 1)) (Nat.blt (A.nat (A.add n9 1)) (A.lenA (A.setA x10 (A.nat n9) (AV.agg (Row.gen [.int .i64 ((A.nthA x10 (A.nat (A.add n9 1))).cellAt 0).toI, .int .i64 ((A.nthA x10 (A.nat (A.add n9 1))).cellAt 1).toI, .int .i64 ((A.nthA x10 (A.nat (A.add n9 1))).cellAt 2).toI, .list (.ints .i64 ((A.nthA x10 (A.nat (A.add n9 1))).cellAt 3).toIs), .int .i64 ((A.nthA x10 (A.nat (A.add n9 1))).cellAt 4).toI]))))),Zab (Nat.blt (A.nat n9) (A.lenA x10)) true,Zab (A.le 0 n9) (Nat.blt (A.nat n9) (A.lenA x10)),Zab (Nat.blt (A.nat n9) (A.lenA x10)) true,Zab (A.le 0 n9) (Nat.blt (A.nat n9) (A.lenA x10)),Zab (Nat.blt (A.nat (A.add n9 1)) (A.lenA x10)) true,Zab (A.le 0 (A.add n9 1)) (Nat.blt (A.nat (A.add n9 1)) (A.lenA x10)),A.inR .i64 (A.add n9 1),A.inR .i64 (A.add n9 1),A.lt n9 (A.sub n0 1),A.inR .i64 (A.sub n0 1)],
  ZgL (n0) (A.add n9 1) (A.setA (A.setA x10 (A.nat n9) (AV.agg (Row.gen [.int .i64 ((A.nthA x10 (A.nat (A.add n9 1))).cellAt 0).toI, .int .i64 ((A.nthA x10 (A.nat (A.add n9 1))).cellAt 1).toI, .int .i64 ((A.nthA x10 (A.nat (A.add n9 1))).cellAt 2).toI, .list (.ints .i64 ((A.nthA x10 (A.nat (A.add n9 1))).cellAt 3).toIs), .int .i64 ((A.nthA x10 (A.nat (A.add n9 1))).cellAt 4).toI]))) (A.nat (A.add n9 1)) (AV.agg (Row.gen [.int .i64 ((A.nthA x10 (A.nat n9)).cellAt 0).toI, .int .i64 ((A.nthA x10 (A.nat n9)).cellAt 1).toI, .int .i64 ((A.nthA x10 (A.nat n9)).cellAt 2).toI, .list (.ints .i64 ((A.nthA x10 (A.nat n9)).cellAt 3).toIs), .int .i64 ((A.nthA x10 (A.nat n9)).cellAt 4).toI])))):=by kernel_rfl
theorem Zz0(A:Ar)(N:Nat)(n0 n9:Int)(x10:List AV):ZaX A tab (BO5 N) 12 [false] 140 (ZcP n0 n9 x10) (Zb4 n0 n9 x10)=
 some (tr [1,1,2] [!A.lt n9 (A.sub n0 1),A.inR .i64 (A.sub n0 1)],
  AV.tup [],140,5,Row.big (.agg [.int .i64, .int .i64, .int .i64, .ints .i64, .int .i64]) x10):=by kernel_rfl
theorem ZAo(A:Ar)(N:Nat)(n2 n11:Int)(x12:List AV):Zad A tab (BO5 N) 21 [true] (ZcC n2 n11 x12) (Zb5 n2 n11 x12)=
 some (tr [1,1,0,0,0,0,0,2,0,0,2,4,3] [A.inR .i64 (A.sub n11 1),Zab (Nat.blt (A.nat (A.sub n11 1)) (A.lenA (A.setA x12 (A.nat n11) (AV.agg (Row.gen [.int .i64 ((A.nthA x12 (A.nat (A.sub n11 1))).cellAt 0).toI, .int .i64 ((A.nthA x12 (A.nat (A.sub n11 1))).cellAt 1).toI, .int .i64 ((A.nthA x12 (A.nat (A.sub n11 1))).cellAt 2).toI, .list (.ints .i64 ((A.nthA x12 (A.nat (A.sub n11 1))).cellAt 3).toIs), .int .i64 ((A.nthA x12 (A.nat (A.sub n11 1))).cellAt 4).toI]))))) true,Zab (A.le 0 (A.sub n11 1)) (Nat.blt (A.nat (A.sub n11 1)) (A.lenA (A.setA x12 (A.nat n11) (AV.agg (Row.gen [.int .i64 ((A.nthA x12 (A.nat (A.sub n11 1))).cellAt 0).toI, .int .i64 ((A.nthA x12 (A.nat (A.sub n11 1))).cellAt 1).toI, .int .i64 ((A.nthA x12 (A.nat (A.sub n11 1))).cellAt 2).toI, .list (.ints .i64 ((A.nthA x12 (A.nat (A.sub n11 1))).cellAt 3).toIs), .int .i64 ((A.nthA x12 (A.nat (A.sub n11 1))).cellAt 4).toI]))))),Zab (Nat.blt (A.nat n11) (A.lenA x12)) true,Zab (A.le 0 n11) (Nat.blt (A.nat n11) (A.lenA x12)),Zab (Nat.blt (A.nat n11) (A.lenA x12)) true,Zab (A.le 0 n11) (Nat.blt (A.nat n11) (A.lenA x12)),Zab (Nat.blt (A.nat (A.sub n11 1)) (A.lenA x12)) true,Zab (A.le 0 (A.sub n11 1)) (Nat.blt (A.nat (A.sub n11 1)) (A.lenA x12)),A.inR .i64 (A.sub n11 1),A.inR .i64 (A.sub n11 1),A.lt n2 n11],
  Zgs (n2) (A.sub n11 1) (A.setA (A.setA x12 (A.nat n11) (AV.agg (Row.gen [.int .i64 ((A.nthA x12 (A.nat (A.sub n11 1))).cellAt 0).toI, .int .i64 ((A.nthA x12 (A.nat (A.sub n11 1))).cellAt 1).toI, .int .i64 ((A.nthA x12 (A.nat (A.sub n11 1))).cellAt 2).toI, .list (.ints .i64 ((A.nthA x12 (A.nat (A.sub n11 1))).cellAt 3).toIs), .int .i64 ((A.nthA x12 (A.nat (A.sub n11 1))).cellAt 4).toI]))) (A.nat (A.sub n11 1)) (AV.agg (Row.gen [.int .i64 ((A.nthA x12 (A.nat n11)).cellAt 0).toI, .int .i64 ((A.nthA x12 (A.nat n11)).cellAt 1).toI, .int .i64 ((A.nthA x12 (A.nat n11)).cellAt 2).toI, .list (.ints .i64 ((A.nthA x12 (A.nat n11)).cellAt 3).toIs), .int .i64 ((A.nthA x12 (A.nat n11)).cellAt 4).toI])))):=by kernel_rfl
theorem Zw2(A:Ar)(N:Nat)(n2 n11:Int)(x12:List AV):ZaX A tab (BO5 N) 11 [false] 140 (ZcC n2 n11 x12) (Zb5 n2 n11 x12)=
 some (tr [1,3] [!A.lt n2 n11],
  AV.tup [],140,5,Row.big (.agg [.int .i64, .int .i64, .int .i64, .ints .i64, .int .i64]) x12):=by kernel_rfl
end Go.Proofs.Ytjhdnpmojhkbjaa
