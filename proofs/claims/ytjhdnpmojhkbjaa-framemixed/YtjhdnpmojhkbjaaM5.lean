/- Contracts as a list. No condition. -/
import Derived.Test.YtjhdnpmojhkbjaaA3
import Derived.KernelRfl
namespace Go.Proofs.Ytjhdnpmojhkbjaa
theorem WkL.rel{w:World}{ok:Nat→Prop}{h:Zaa}{L:Lay}{xs ys:List AV}{v:Value}(hw:WkL xs ys)(hr:Rel w ok h L (.agg (.gen xs)) v):Rel w ok h L (.agg (.gen ys)) v:=by
 obtain⟨e1,e2⟩:=hw.spec
 cases hr with
 |agg _ us hx vs hl h1 hrr=>
  simp only[Row.elems]at hx
  subst hx
  refine .agg _ ys rfl vs (by rw[←e1];exact hl) h1 (fun j u v hu hv=>?_)
  obtain⟨q,q1,q2⟩:=e2 j u hu
  exact q2.rel (hrr j q v q1 hv)
inductive Wk2:AV→AV→Prop
 |one {x y:AV} (h:Wk1 x y):Wk2 x y
 |agg {xs ys:List AV} (h:WkL xs ys):Wk2 (.agg (.gen xs)) (.agg (.gen ys))
theorem Wk2.rel{w:World}{ok:Nat→Prop}{h:Zaa}{L:Lay}{x y:AV}{v:Value}(hw:Wk2 x y)(hr:Rel w ok h L x v):Rel w ok h L y v:=by
 cases hw with
 |one h=>exact h.rel hr
 |agg h=>exact h.rel hr
def Wk2L:List AV→List AV→Prop
 |[],[]=>True
 |x::xs,y::ys=>Wk2 x y∧Wk2L xs ys
 |_,_=>False
theorem Wk2L.spec:∀ {xs ys:List AV},Wk2L xs ys→xs.length=ys.length∧∀(j:Nat) (y:AV),ys[j]? =some y→∃x,xs[j]? =some x∧Wk2 x y
 |[],[],_=>⟨rfl,fun j y h=>by simp at h⟩
 |x::xs,y::ys,h=>by
  obtain⟨h1,h2⟩:=h
  obtain⟨e1,e2⟩:=Wk2L.spec h2
  refine⟨by simp[e1],fun j z hz=>?_⟩
  cases j with
  |zero=>simp at hz;subst hz;exact⟨x,rfl,h1⟩
  |succ j=>obtain⟨q,q1,q2⟩:=e2 j z (by simpa using hz);exact⟨q,by simpa using q1,q2⟩
theorem Zk9{f:FuncId}{args:List AV}{x y:AV}{fr:Option Fresh}(h:ZaH Try.prog f args x fr)(hw:∀ {w:World} {ok:Nat→Prop} {hh:Zaa} {L:Lay} {v:Value},Rel w ok hh L x v→Rel w ok hh L y v):ZaH Try.prog f args y fr:=by
 intro w okA L vs hargs hok
 refine(h w okA L vs hargs hok).mono ?_
 rintro e w' ⟨x,L',rfl,hb,hp⟩
 refine⟨x,L',rfl,hb,?_⟩
 unfold Zk3 at hp⊢
 split
 ·rename_i hn;rw[hn]at hp;exact hw hp
 ·rename_i hn;rw[hn]at hp;exact⟨hp.1,hw hp.2⟩
theorem wk2{f:FuncId}{args:List AV}{x y:AV}{fr:Option Fresh}(h:ZaH Try.prog f args x fr)(hw:Wk2 x y):ZaH Try.prog f args y fr:=Zk9 h hw.rel
theorem Zkp{f:FuncId}{args xs ys:List AV}{fr:Option Fresh}(h:ZaH Try.prog f args (.tup xs) fr)(hw:Wk2L xs ys):ZaH Try.prog f args (.tup ys) fr:=
 Zk9 h fun hr=>by
  obtain⟨e1,e2⟩:=hw.spec
  cases hr with
  |tup _ vs hl hrr=>
   refine .tup _ vs (by rw[←e1];exact hl) (fun j u v hu hv=>?_)
   obtain⟨q,q1,q2⟩:=e2 j u hu
   exact q2.rel (hrr j q v q1 hv)
theorem Zlo{f:FuncId}{xs ys:List AV}{x:AV}{fr:Option Fresh}(h:ZaH Try.prog f ys x fr)(hw:Wk2L xs ys):ZaH Try.prog f xs x fr:=by
 intro w okA L vs hargs hok
 obtain⟨e1,e2⟩:=hw.spec
 refine h w okA L vs ⟨by rw[←e1];exact hargs.1,fun j u v hu hv=>?_⟩ hok
 obtain⟨q,q1,q2⟩:=e2 j u hu
 exact q2.rel (hargs.2 j q v q1 hv)
theorem Zfa(x:AV):Wk2 x x:=.one (.same _)
theorem ZrJ(a b c:AV)(r:Row)(h:r.elems=[]):Wk2 (.agg (.gen [a,b,c, .nils])) (.agg (.gen [a,b,c, .list r])):=.agg ⟨.same _, .same _, .same _, .nil _ h,trivial⟩
theorem Zpn(c n f c2 n2 f2:Int)(ds:List Int)(h:ds.length≤1000000):ZaH Try.prog 57 [.agg (.gen [.int .i64 c, .int .i64 n, .int .i64 f, .list (.ints .i64 ds)]), .agg (.gen [.int .i64 c2, .int .i64 n2, .int .i64 f2, .nils])]
 (.bool (decide (c=c2∧n=n2∧f=f2∧ds=[]))) none:=
 Zlo (Zl8 c n f c2 n2 f2 ds [] h) ⟨Zfa _,ZrJ _ _ _ _ rfl,trivial⟩
theorem Zle{a b c n f:Int}{ds:List Int}(h:ZdP a b c n f ds=0):(0≤c∧c≤b-1)∧(0≤n∧n≤63)∧(0≤f∧f≤a-1∨f=255)∧(ds.length:Int)=a∧ZaG ds=0:=by
 rw[ZdP,ZqX]at h
 by_cases h1:0≤c∧c≤b-1
 ·rw[Zbn,if_pos h1,if_pos rfl]at h
  by_cases h2:okF (a-1) n f=true
  ·rw[h2,ZdN,if_pos rfl]at h
   by_cases h3:(ds.length:Int)=a
   ·rw[decide_eq_true h3,ZdN,if_pos rfl]at h
    simp only[okF,decide_eq_true_eq]at h2
    exact⟨h1,h2.1,h2.2,h3,h⟩
   ·rw[decide_eq_false h3,Zil,if_neg (by decide)]at h;cases h
  ·simp only[Bool.not_eq_true]at h2
   rw[h2,Zil,if_neg (by decide)]at h;cases h
 ·rw[Zbn,if_neg h1,if_neg (by decide)]at h;cases h
theorem Zji{xs:List Int}(h:ZaG xs=0):∀x∈xs,0≤x∧x≤255:=by
 unfold ZaG at h
 split at h
 ·rename_i hb
  intro x hx
  have:=List.all_eq_true.1 hb x hx
  simpa[Zfi]using this
 ·cases h
def k57n:Ctr:=⟨57,0,fun _ a=>match a with |[.agg (.gen [.int .i64 c, .int .i64 n, .int .i64 f, .list (.ints .i64 ds)]), .agg (.gen [.int .i64 c2, .int .i64 n2, .int .i64 f2, .nils])]=>some (decide (ds.length≤1000000), .bool (decide (c=c2∧n=n2∧f=f2∧ds=[])),none) |_=>none⟩
theorem Zyq:k57n.OK Try.prog:=fun pa args r fr h=>by
 simp only[k57n]at h
 split at h
 ·simp only[Option.some.injEq,Prod.mk.injEq,decide_eq_true_eq]at h
  obtain⟨h0,rfl,rfl⟩:=h
  exact Zpn _ _ _ _ _ _ _ h0
 ·cases h
def B4:List Ctr:=[k57n]++B3
theorem ZMe:Zap Try.prog B4:=⟨Zyq,ZLc⟩
end Go.Proofs.Ytjhdnpmojhkbjaa
/- Contracts as a list. No condition. -/
namespace Go.Proofs.Ytjhdnpmojhkbjaa
theorem awake_ok:ZaH Try.prog 14 [] (.bool true) none:=Zzq
def k14:Ctr:=⟨14,0,fun _ a=>match a with |[]=>some (true, .bool true,none) |_=>none⟩
theorem ZFs:k14.OK Try.prog:=fun pa args r fr h=>by
 simp only[k14]at h
 split at h
 ·cases h
  exact awake_ok
 ·cases h
def B5:List Ctr:=[k14]++B4
theorem Zdb:Zap Try.prog B5:=⟨ZFs,ZMe⟩
end Go.Proofs.Ytjhdnpmojhkbjaa
/- Paths of functions, printed by the explorer (Gx). No condition. -/
namespace Go.Proofs.Ytjhdnpmojhkbjaa
set_option maxRecDepth 100000
set_option linter.unusedVariables false
def Zw3(a:Int)(b:Int):AFrame:={ fn:=120,N:=20,env:=[(0,AV.int .i64 a),(1,AV.int .i64 b)],todo:=[.code a120.code],defs:=[],rnd:=none,ret:=false,res:=[ARes.tmp 4] }
def ZAF(a:Int)(b:Int):List AFrame:=[(Zw3 a b)]
theorem ZtB(a:Int)(b:Int):Zak tab 120 [AV.int .i64 a,AV.int .i64 b]=some (Zw3 a b):=rfl
theorem ZCe(A:Ar)(a b:Int):Zaz A tab B5 69 [false,false,true] 120 (ZAF a b) []=
 some (tr [2,3,1,18] [A.lt a b,!A.not (A.eq b b),!A.not (A.eq a a)],
  AV.int .i64 (-1),none):=by kernel_rfl
theorem ZFM(A:Ar)(a b:Int):Zaz A tab B5 78 [false,false,false,true] 120 (ZAF a b) []=
 some (tr [2,3,3,1,18] [A.lt b a,!A.lt a b,!A.not (A.eq b b),!A.not (A.eq a a)],
  AV.int .i64 1,none):=by kernel_rfl
theorem ZF9(A:Ar)(a b:Int):Zaz A tab B5 79 [false,false,false,false] 120 (ZAF a b) []=
 some (tr [2,3,3,1,18] [!A.lt b a,!A.lt a b,!A.not (A.eq b b),!A.not (A.eq a a)],
  AV.int .i64 0,none):=by kernel_rfl
end Go.Proofs.Ytjhdnpmojhkbjaa
/- Contracts as a list. No condition. -/
namespace Go.Proofs.Ytjhdnpmojhkbjaa
def ZhN(a b:Int):Int:=if a<b then -1 else if b<a then 1 else 0
theorem ZrG(a b:Int):ZaH Try.prog 120 [.int .i64 a, .int .i64 b] (.int .i64 (ZhN a b)) none:=
 start (ZtB a b) fun C hC=>by
  by_cases h1:a<b
  ·exact fin hC Zdb (ZCe std a b) (by simp[h1]) (by rw[ZhN,if_pos h1]) rfl
  ·by_cases h2:b<a
   ·exact fin hC Zdb (ZFM std a b) (by simp[h1,h2]) (by rw[ZhN,if_neg h1,if_pos h2]) rfl
   ·exact fin hC Zdb (ZF9 std a b) (by simp[h1,h2]) (by rw[ZhN,if_neg h1,if_neg h2]) rfl
def k120:Ctr:=⟨120,0,fun _ a=>match a with |[.int .i64 a, .int .i64 b]=>some (true, .int .i64 (ZhN a b),none) |_=>none⟩
theorem ZxJ:k120.OK Try.prog:=fun pa args r fr h=>by
 simp only[k120]at h
 split at h
 ·cases h
  exact ZrG _ _
 ·cases h
def BO0:List Ctr:=[k120]++B5
theorem ZqH:Zap Try.prog BO0:=⟨ZxJ,Zdb⟩
end Go.Proofs.Ytjhdnpmojhkbjaa
/- Paths of functions, printed by the explorer (Gx). No condition. -/
namespace Go.Proofs.Ytjhdnpmojhkbjaa
set_option maxRecDepth 100000
set_option linter.unusedVariables false
def Zvy(a:Int)(b:Int)(c:Int)(d:Int)(a2:Int)(b2:Int)(c2:Int)(e:Int)(xs:Row)(ys:Row):AFrame:={ fn:=119,N:=10,env:=[(0,AV.agg (Row.gen [AV.int .i64 a,AV.int .i64 b,AV.int .i64 c,AV.list xs,AV.int .i64 d])),(1,AV.agg (Row.gen [AV.int .i64 a2,AV.int .i64 b2,AV.int .i64 c2,AV.list ys,AV.int .i64 e]))],todo:=[.code a119.code],defs:=[],rnd:=none,ret:=false,res:=[ARes.tmp 4] }
def ZJW(a:Int)(b:Int)(c:Int)(d:Int)(a2:Int)(b2:Int)(c2:Int)(e:Int)(xs:Row)(ys:Row):List AFrame:=[(Zvy a b c d a2 b2 c2 e xs ys)]
theorem Zuo(a:Int)(b:Int)(c:Int)(d:Int)(a2:Int)(b2:Int)(c2:Int)(e:Int)(xs:Row)(ys:Row):Zak tab 119 [AV.agg (Row.gen [AV.int .i64 a,AV.int .i64 b,AV.int .i64 c,AV.list xs,AV.int .i64 d]),AV.agg (Row.gen [AV.int .i64 a2,AV.int .i64 b2,AV.int .i64 c2,AV.list ys,AV.int .i64 e])]=some (Zvy a b c d a2 b2 c2 e xs ys):=rfl
theorem ZDm(A:Ar)(a b c d a2 b2 c2 e:Int)(xs ys:Row):Zaz A tab BO0 16 [] 119 (ZJW a b c d a2 b2 c2 e xs ys) []=
 some (tr [10] [],
  AV.int .i64 (ZhN d e),none):=by kernel_rfl
def ZvY(a:Int)(b:Int)(c:Int)(d:Int)(a2:Int)(b2:Int)(c2:Int)(e:Int)(xs:Row)(ys:Row):AFrame:={ fn:=122,N:=10,env:=[(0,AV.agg (Row.gen [AV.int .i64 a,AV.int .i64 b,AV.int .i64 c,AV.list xs,AV.int .i64 d])),(1,AV.agg (Row.gen [AV.int .i64 a2,AV.int .i64 b2,AV.int .i64 c2,AV.list ys,AV.int .i64 e]))],todo:=[.code a122.code],defs:=[],rnd:=none,ret:=false,res:=[ARes.tmp 4] }
def ZLw(a:Int)(b:Int)(c:Int)(d:Int)(a2:Int)(b2:Int)(c2:Int)(e:Int)(xs:Row)(ys:Row):List AFrame:=[(ZvY a b c d a2 b2 c2 e xs ys)]
theorem Zuf(a:Int)(b:Int)(c:Int)(d:Int)(a2:Int)(b2:Int)(c2:Int)(e:Int)(xs:Row)(ys:Row):Zak tab 122 [AV.agg (Row.gen [AV.int .i64 a,AV.int .i64 b,AV.int .i64 c,AV.list xs,AV.int .i64 d]),AV.agg (Row.gen [AV.int .i64 a2,AV.int .i64 b2,AV.int .i64 c2,AV.list ys,AV.int .i64 e])]=some (ZvY a b c d a2 b2 c2 e xs ys):=rfl
theorem ZIL(A:Ar)(a b c d a2 b2 c2 e:Int)(xs ys:Row):Zaz A tab BO0 16 [] 122 (ZLw a b c d a2 b2 c2 e xs ys) []=
 some (tr [10] [],
  AV.bool (A.eq d e),none):=by kernel_rfl
end Go.Proofs.Ytjhdnpmojhkbjaa
/- Contracts as a list. No condition. -/
namespace Go.Proofs.Ytjhdnpmojhkbjaa
def Zgg(a b:Int):Bool:=decide (a=b)
theorem Zqf(a b c d a2 b2 c2 e:Int)(xs ys:Row):ZaH Try.prog 119 [.agg (.gen [.int .i64 a, .int .i64 b, .int .i64 c, .list xs, .int .i64 d]), .agg (.gen [.int .i64 a2, .int .i64 b2, .int .i64 c2, .list ys, .int .i64 e])] (.int .i64 (ZhN d e)) none:=
 start (Zuo a b c d a2 b2 c2 e xs ys) fun C hC=>fin hC ZqH (ZDm std a b c d a2 b2 c2 e xs ys) (by simp) rfl rfl
theorem Zo9(a b c d a2 b2 c2 e:Int)(xs ys:Row):ZaH Try.prog 122 [.agg (.gen [.int .i64 a, .int .i64 b, .int .i64 c, .list xs, .int .i64 d]), .agg (.gen [.int .i64 a2, .int .i64 b2, .int .i64 c2, .list ys, .int .i64 e])] (.bool (Zgg d e)) none:=
 start (Zuf a b c d a2 b2 c2 e xs ys) fun C hC=>fin hC ZqH (ZIL std a b c d a2 b2 c2 e xs ys) (by simp) rfl rfl
def k119:Ctr:=⟨119,0,fun _ a=>match a with |[.agg (.gen [.int .i64 _, .int .i64 _, .int .i64 _, .list _, .int .i64 d]), .agg (.gen [.int .i64 _, .int .i64 _, .int .i64 _, .list _, .int .i64 e])]=>some (true, .int .i64 (ZhN d e),none) |_=>none⟩
theorem ZBF:k119.OK Try.prog:=fun pa args r fr h=>by
 simp only[k119]at h
 split at h
 ·cases h
  exact Zqf _ _ _ _ _ _ _ _ _ _
 ·cases h
def k122:Ctr:=⟨122,0,fun _ a=>match a with |[.agg (.gen [.int .i64 _, .int .i64 _, .int .i64 _, .list _, .int .i64 d]), .agg (.gen [.int .i64 _, .int .i64 _, .int .i64 _, .list _, .int .i64 e])]=>some (true, .bool (Zgg d e),none) |_=>none⟩
theorem ZBO:k122.OK Try.prog:=fun pa args r fr h=>by
 simp only[k122]at h
 split at h
 ·cases h
  exact Zo9 _ _ _ _ _ _ _ _ _ _
 ·cases h
def BO1:List Ctr:=[k119,k122]++BO0
theorem ZfR:Zap Try.prog BO1:=⟨ZBF,⟨ZBO,ZqH⟩⟩
end Go.Proofs.Ytjhdnpmojhkbjaa
/- Paths of functions, printed by the explorer (Gx). No condition. -/
namespace Go.Proofs.Ytjhdnpmojhkbjaa
set_option maxRecDepth 100000
set_option linter.unusedVariables false
def Zw1(xs:List AV)(a:Int)(b:Int):AFrame:={ fn:=139,N:=53,env:=[(0,AV.row 0 0),(1,AV.int .i64 a),(2,AV.int .i64 b),(3,AV.fn 119 [])],todo:=[.code a139.code],defs:=[],rnd:=none,ret:=false,res:=[] }
def ZNj(xs:List AV)(a:Int)(b:Int):List AFrame:=[(Zw1 xs a b)]
theorem ZuV(xs:List AV)(a:Int)(b:Int):Zak tab 139 [AV.row 0 0,AV.int .i64 a,AV.int .i64 b,AV.fn 119 []]=some (Zw1 xs a b):=rfl
def ZEN(xs:List AV)(a:Int)(b:Int):Zaa:=[(0,{ base:=0,blks:=[Blk.row 140 5 (Row.big (Sh.agg [Sh.int .i64,Sh.int .i64,Sh.int .i64,Sh.ints .i64,Sh.int .i64]) xs)] })]
def Zb7(a b n0:Int)(x1:List AV):List AFrame:=[{ fn:=139,N:=53,env:=[(0,AV.row 0 0),(1,AV.int .i64 a),(2,AV.int .i64 b),(3,AV.fn 119 []),(8,AV.int .i64 n0)],todo:=.code (ACode.gh [] ZqA)::Zvi,defs:=[],rnd:=none,ret:=false,res:=[] }]
def ZbN(a:Int)(b:Int)(n0:Int)(x1:List AV):Zaa:=[(0,{ base:=0,blks:=[Blk.row 140 5 (Row.big (Sh.agg [Sh.int .i64,Sh.int .i64,Sh.int .i64,Sh.ints .i64,Sh.int .i64]) x1)] })]
abbrev Zep(a:Int)(b:Int)(n0:Int)(x1:List AV):List AFrame×Zaa:=(Zb7 a b n0 x1,ZbN a b n0 x1)
def Zbl(a b n0 n2:Int)(x3:List AV):List AFrame:=[{ fn:=139,N:=53,env:=[(0,AV.row 0 0),(1,AV.int .i64 a),(2,AV.int .i64 b),(3,AV.fn 119 []),(8,AV.int .i64 n0),(9,AV.int .i64 n2)],todo:=.code (ACode.gh [] ZvK)::ZGJ,defs:=[],rnd:=none,ret:=false,res:=[] }]
def Za3(a:Int)(b:Int)(n0:Int)(n2:Int)(x3:List AV):Zaa:=[(0,{ base:=0,blks:=[Blk.row 140 5 (Row.big (Sh.agg [Sh.int .i64,Sh.int .i64,Sh.int .i64,Sh.ints .i64,Sh.int .i64]) x3)] })]
abbrev Zhr(a:Int)(b:Int)(n0:Int)(n2:Int)(x3:List AV):List AFrame×Zaa:=(Zbl a b n0 n2 x3,Za3 a b n0 n2 x3)
theorem ZvC(A:Ar)(xs:List AV)(a b:Int):Zad A tab BO1 9 [] (ZNj xs a b) (ZEN xs a b)=
 some (tr [1,1] [A.inR .i64 (A.add a 1)],
  Zep (a) (b) (A.add a 1) (xs)):=by kernel_rfl
theorem ZJs(A:Ar)(a b n0:Int)(x1:List AV):Zad A tab BO1 20 [true] (Zb7 a b n0 x1) (ZbN a b n0 x1)=
 some (tr [2,3] [A.lt n0 b],
  Zhr (a) (b) (n0) (n0) (x1)):=by kernel_rfl
theorem Zu0(A:Ar)(a b n0:Int)(x1:List AV):ZaY A tab BO1 11 [false] 139 (Zb7 a b n0 x1) (ZbN a b n0 x1)=
 some (tr [1,3] [!A.lt n0 b],
  AV.tup [],140,5,Row.big (.agg [.int .i64, .int .i64, .int .i64, .ints .i64, .int .i64]) x1):=by kernel_rfl
theorem ZIm(A:Ar)(a b n0 n2:Int)(x3:List AV):Zad A tab BO1 18 [true,true] (Zbl a b n0 n2 x3) (Za3 a b n0 n2 x3)=
 some (tr [1,1,0,0,0,0,0,2,0,0,2,4,3,0,0,2,0,3,4] [A.inR .i64 (A.sub n2 1),Zab (Nat.blt (A.nat (A.sub n2 1)) (A.lenA (A.setA x3 (A.nat n2) (AV.agg (Row.gen [.int .i64 ((A.nthA x3 (A.nat (A.sub n2 1))).cellAt 0).toI, .int .i64 ((A.nthA x3 (A.nat (A.sub n2 1))).cellAt 1).toI, .int .i64 ((A.nthA x3 (A.nat (A.sub n2 1))).cellAt 2).toI, .list (.ints .i64 ((A.nthA x3 (A.nat (A.sub n2 1))).cellAt 3).toIs), .int .i64 ((A.nthA x3 (A.nat (A.sub n2 1))).cellAt 4).toI]))))) true,Zab (A.le 0 (A.sub n2 1)) (Nat.blt (A.nat (A.sub n2 1)) (A.lenA (A.setA x3 (A.nat n2) (AV.agg (Row.gen [.int .i64 ((A.nthA x3 (A.nat (A.sub n2 1))).cellAt 0).toI, .int .i64 ((A.nthA x3 (A.nat (A.sub n2 1))).cellAt 1).toI, .int .i64 ((A.nthA x3 (A.nat (A.sub n2 1))).cellAt 2).toI, .list (.ints .i64 ((A.nthA x3 (A.nat (A.sub n2 1))).cellAt 3).toIs), .int .i64 ((A.nthA x3 (A.nat (A.sub n2 1))).cellAt 4).toI]))))),Zab (Nat.blt (A.nat n2) (A.lenA x3)) true,Zab (A.le 0 n2) (Nat.blt (A.nat n2) (A.lenA x3)),Zab (Nat.blt (A.nat n2) (A.lenA x3)) true,Zab (A.le 0 n2) (Nat.blt (A.nat n2) (A.lenA x3)),Zab (Nat.blt (A.nat (A.sub n2 1)) (A.lenA x3)) true,Zab (A.le 0 (A.sub n2 1)) (Nat.blt (A.nat (A.sub n2 1)) (A.lenA x3)),A.inR .i64 (A.sub n2 1),A.inR .i64 (A.sub n2 1),A.lt (ZhN ((A.nthA x3 (A.nat n2)).cellAt 4).toI ((A.nthA x3 (A.nat (A.sub n2 1))).cellAt 4).toI) 0,Zab (Nat.blt (A.nat (A.sub n2 1)) (A.lenA x3)) true,Zab (A.le 0 (A.sub n2 1)) (Nat.blt (A.nat (A.sub n2 1)) (A.lenA x3)),A.inR .i64 (A.sub n2 1),Zab (Nat.blt (A.nat n2) (A.lenA x3)) true,Zab (A.le 0 n2) (Nat.blt (A.nat n2) (A.lenA x3)),A.lt a n2],
  Zhr (a) (b) (n0) (A.sub n2 1) (A.setA (A.setA x3 (A.nat n2) (AV.agg (Row.gen [.int .i64 ((A.nthA x3 (A.nat (A.sub n2 1))).cellAt 0).toI, .int .i64 ((A.nthA x3 (A.nat (A.sub n2 1))).cellAt 1).toI, .int .i64 ((A.nthA x3 (A.nat (A.sub n2 1))).cellAt 2).toI, .list (.ints .i64 ((A.nthA x3 (A.nat (A.sub n2 1))).cellAt 3).toIs), .int .i64 ((A.nthA x3 (A.nat (A.sub n2 1))).cellAt 4).toI]))) (A.nat (A.sub n2 1)) (AV.agg (Row.gen [.int .i64 ((A.nthA x3 (A.nat n2)).cellAt 0).toI, .int .i64 ((A.nthA x3 (A.nat n2)).cellAt 1).toI, .int .i64 ((A.nthA x3 (A.nat n2)).cellAt 2).toI, .list (.ints .i64 ((A.nthA x3 (A.nat n2)).cellAt 3).toIs), .int .i64 ((A.nthA x3 (A.nat n2)).cellAt 4).toI])))):=by kernel_rfl
theorem ZGV(A:Ar)(a b n0 n2:Int)(x3:List AV):Zad A tab BO1 15 [true,false] (Zbl a b n0 n2 x3) (Za3 a b n0 n2 x3)=
 some (tr [1,1,3,0,0,2,0,3,4] [A.inR .i64 (A.add n0 1),!A.lt (ZhN ((A.nthA x3 (A.nat n2)).cellAt 4).toI ((A.nthA x3 (A.nat (A.sub n2 1))).cellAt 4).toI) 0,Zab (Nat.blt (A.nat (A.sub n2 1)) (A.lenA x3)) true,Zab (A.le 0 (A.sub n2 1)) (Nat.blt (A.nat (A.sub n2 1)) (A.lenA x3)),A.inR .i64 (A.sub n2 1),Zab (Nat.blt (A.nat n2) (A.lenA x3)) true,Zab (A.le 0 n2) (Nat.blt (A.nat n2) (A.lenA x3)),A.lt a n2],
  Zep (a) (b) (A.add n0 1) (x3)):=by kernel_rfl
theorem ZI5(A:Ar)(a b n0 n2:Int)(x3:List AV):Zad A tab BO1 15 [false,false] (Zbl a b n0 n2 x3) (Za3 a b n0 n2 x3)=
 some (tr [1,15,4] [A.inR .i64 (A.add n0 1),!A.lt a n2],
  Zep (a) (b) (A.add n0 1) (x3)):=by kernel_rfl
end Go.Proofs.Ytjhdnpmojhkbjaa
/- Contracts as a list. No condition. -/
namespace Go.Proofs.Ytjhdnpmojhkbjaa
def Zav(x:AV):Int:=(AV.cellAt x 4).toI
abbrev shN:Sh:=.agg [.int .i64, .int .i64, .int .i64, .ints .i64, .int .i64]
def Zmw(x:AV):AV:=AV.agg (Row.gen [AV.int .i64 (AV.toI (AV.cellAt x 0)),AV.int .i64 (AV.toI (AV.cellAt x 1)),AV.int .i64 (AV.toI (AV.cellAt x 2)),AV.list (.ints .i64 (AV.toIs (AV.cellAt x 3))),AV.int .i64 (AV.toI (AV.cellAt x 4))])
def isN:AV→Bool
 | .agg (.gen [.int .i64 _, .int .i64 _, .int .i64 _, .list (.ints .i64 _), .int .i64 _])=>true
 |_=>false
theorem ZmH{x:AV}(h:isN x=true):Zmw x=x:=by
 unfold isN at h
 split at h
 ·rfl
 ·cases h
def ZaK(xs:List AV):Bool:=xs.all isN
theorem ZdR{xs:List AV}(h:ZaK xs=true){j:Nat}(hj:j<xs.length):Zmw (xs.getD j .top)=xs.getD j .top:=by
 have:isN (xs.getD j .top)=true:=by
  rw[List.getD_eq_getElem?_getD,List.getElem?_eq_getElem hj]
  exact List.all_eq_true.mp h _ (List.getElem_mem hj)
 exact ZmH this
def Zex(x:AV):List AV→List AV
 |[]=>[x]
 |y::l=>if Zav x<Zav y then y::Zex x l else x::y::l
def ZhB(S:List AV)(x:AV):List AV:=(Zex x S.reverse).reverse
theorem ZlW(S:List AV)(y x:AV):ZhB (S++[y]) x=if Zav x<Zav y then ZhB S x++[y]else S++[y,x]:=by
 unfold ZhB
 rw[List.reverse_append]
 simp only[List.reverse_cons,List.reverse_nil,List.nil_append,List.singleton_append,Zex]
 split
 ·simp
 ·simp
def Zax(l:List AV):List AV:=l.foldl ZhB []
theorem ZpS(l:List AV)(x:AV):Zax (l++[x])=ZhB (Zax l) x:=by simp[Zax,List.foldl_append]
theorem ZlB(x:AV):∀l:List AV,(Zex x l).length=l.length+1
 |[]=>rfl
 |y::l=>by
  unfold Zex
  split
  ·simp[ZlB x l]
  ·simp
theorem Zt3(S:List AV)(x:AV):(ZhB S x).length=S.length+1:=by simp[ZhB,ZlB]
theorem Zcu(l:List AV):(Zax l).length=l.length:=by
 have:∀(l acc:List AV),(l.foldl ZhB acc).length=acc.length+l.length:=by
  intro l
  induction l with
  |nil=>intro acc;simp
  |cons x l ih=>intro acc;rw[List.foldl_cons,ih,Zt3,List.length_cons];omega
 have h:=this l []
 simpa[Zax]using h
def Zbr(a b:Nat)(xs:List AV):List AV:=xs.take a++Zax ((xs.take b).drop a)++xs.drop b
theorem ZfN(a b:Int):decide (ZhN a b<0)=decide (a<b):=by
 unfold ZhN
 split
 ·rename_i h;simp[h]
 ·split
  ·rename_i h _;simp[h]
  ·rename_i h _;simp[h]
theorem Zqr(p S q:List AV)(y x:AV)(j:Nat)(hj:j=p.length+S.length+1):((p++(S++[y]++[x])++q).set j y).set (j-1) x=p++(S++[x]++[y])++q:=by
 subst hj
 have e1:p++(S++[y]++[x])++q=(p++S)++(y::x::q):=by simp
 have e2:p++(S++[x]++[y])++q=(p++S)++(x::y::q):=by simp
 rw[e1,e2,List.set_append_right _ _ (by rw[List.length_append];omega),List.set_append_right _ _ (by rw[List.length_append];omega)]
 have h1:p.length+S.length+1-(p++S).length=1:=by rw[List.length_append];omega
 have h2:p.length+S.length+1-1-(p++S).length=0:=by simp
 rw[h1,h2];rfl
theorem ZeV(T q:List AV)(x:AV)(j:Nat)(hj:j=T.length):(T++x::q).getD j .top=x:=by
 subst hj
 simp[List.getD_eq_getElem?_getD]
theorem Zui{C:Ctx}(hC:C.P=Try.prog){Q:List AFrame→Zaa→Prop}(xs:List AV)(i a b:Int)(j:Nat){x y:AV}(g1:xs.getD (j+1) .top=x)(g2:xs.getD j .top=y)(hl:j+1<xs.length)(hL:xs.length<1000000)(hx:Zmw x=x)(hy:Zmw y=y)(haj:a≤j)(hk:Zav x<Zav y)
 (hq:Ev C (Zbl a b i (j:Int) []) (Za3 a b i (j:Int) ((xs.set (j+1) y).set j x)) Q):Ev C (Zbl a b i ((j:Int)+1) []) (Za3 a b i ((j:Int)+1) xs) Q:=by
 have e1:((j:Int)+1).toNat=j+1:=by omega
 have e2:(j:Int)+1-1=j:=by omega
 have hw:=ZIm std a b i ((j:Int)+1) xs
 simp only[ZaC,Zar,ZjR,ZaW,e1,e2,g1,g2,Int.toNat_natCast]at hw
 rw[show (AV.agg (Row.gen [AV.int .i64 (AV.toI (AV.cellAt x 0)),AV.int .i64 (AV.toI (AV.cellAt x 1)),AV.int .i64 (AV.toI (AV.cellAt x 2)),AV.list (.ints .i64 (AV.toIs (AV.cellAt x 3))),AV.int .i64 (AV.toI (AV.cellAt x 4))]))=x from hx,show(AV.agg (Row.gen [AV.int .i64 (AV.toI (AV.cellAt y 0)),AV.int .i64 (AV.toI (AV.cellAt y 1)),AV.int .i64 (AV.toI (AV.cellAt y 2)),AV.list (.ints .i64 (AV.toIs (AV.cellAt y 3))),AV.int .i64 (AV.toI (AV.cellAt y 4))]))=y from hy]at hw
 have hk':ZhN (AV.toI (AV.cellAt x 4)) (AV.toI (AV.cellAt y 4))<0:=by
  have:=ZfN (Zav x) (Zav y)
  rw[decide_eq_true hk]at this
  exact of_decide_eq_true this
 refine go hC ZfR hw ?_ hq
 have r1:std.inR .i64 (j:Int)=true:=by simp;omega
 simp[hk',hl]
 omega
theorem Ztv{C:Ctx}(hC:C.P=Try.prog){Q:List AFrame→Zaa→Prop}(xs:List AV)(i a b:Int)(j:Nat){x y:AV}(g1:xs.getD (j+1) .top=x)(g2:xs.getD j .top=y)(hl:j+1<xs.length)(hL:xs.length<1000000)(haj:a≤j)(hi0:0≤i)(hi1:i<1000000)(hk:¬Zav x<Zav y)
 (hq:Ev C (Zb7 a b (i+1) []) (ZbN a b (i+1) xs) Q):Ev C (Zbl a b i ((j:Int)+1) []) (Za3 a b i ((j:Int)+1) xs) Q:=by
 have e1:((j:Int)+1).toNat=j+1:=by omega
 have e2:(j:Int)+1-1=j:=by omega
 have hw:=ZGV std a b i ((j:Int)+1) xs
 simp only[ZaC,Zar,ZaW,e1,e2,g1,g2,Int.toNat_natCast]at hw
 have hk':¬ZhN (AV.toI (AV.cellAt x 4)) (AV.toI (AV.cellAt y 4))<0:=by
  have:=ZfN (Zav x) (Zav y)
  rw[decide_eq_false hk]at this
  exact of_decide_eq_false this
 refine go hC ZfR hw ?_ hq
 simp[hk',hl]
 omega
theorem Zt5{C:Ctx}(hC:C.P=Try.prog){Q:List AFrame→Zaa→Prop}(p q:List AV)(x:AV)(i b:Int)(a:Nat)(ha:p.length=a)(hx:Zmw x=x)(hi1:i<1000000)(hi0:0≤i):∀(n:Nat) (S S2:List AV),S.length=n→(∀y∈S,Zmw y=y)→p.length+S.length+S2.length+q.length+1<1000000→
 (∀R,R=ZhB S x→Ev C (Zb7 a b (i+1) []) (ZbN a b (i+1) (p++R++(S2++q))) Q)→
 Ev C (Zbl a b i ((a+S.length:Nat):Int) []) (Za3 a b i ((a+S.length:Nat):Int) (p++(S++[x])++(S2++q))) Q:=by
 intro n
 induction n with
 |zero=>
  intro S S2 hn hS hl hq
  cases S with
  |cons y S=>simp at hn
  |nil=>
   refine go hC ZfR (ZI5 std a b i _ _) (by simp;omega) ?_
   exact hq _ rfl
 |succ n ih=>
  intro S S2 hn hS hl hq
  rcases List.eq_nil_or_concat S with rfl |⟨T,y,rfl⟩
  ·simp at hn
  ·rw[List.concat_eq_append]at hn hS hl hq⊢
   have hy:Zmw y=y:=hS y (by simp)
   have hT:T.length=n:=by simpa using hn
   have hl':p.length+(T.length+1)+S2.length+q.length+1<1000000:=by simpa using hl
   have g1:(p++(T++[y]++[x])++(S2++q)).getD (a+T.length+1) .top=x:=by
    rw[show p++(T++[y]++[x])++(S2++q)=(p++T++[y])++x::(S2++q) by simp]
    exact ZeV _ _ _ _ (by simp[ha];omega)
   have g2:(p++(T++[y]++[x])++(S2++q)).getD (a+T.length) .top=y:=by
    rw[show p++(T++[y]++[x])++(S2++q)=(p++T)++y::x::(S2++q) by simp]
    exact ZeV _ _ _ _ (by simp[ha])
   have gl:(p++(T++[y]++[x])++(S2++q)).length=a+T.length+2+(S2.length+q.length):=by simp[ha];omega
   have e3:((a+(T++[y]).length:Nat):Int)=(a+T.length:Nat)+1:=by simp;omega
   rw[e3]
   by_cases hk:Zav x<Zav y
   ·refine Zui hC _ i a b (a+T.length) g1 g2 (by rw[gl];omega) (by rw[gl];omega) hx hy (by omega) hk ?_
    have:=Zqr p T (S2++q) y x (a+T.length+1) (by omega)
    rw[Nat.add_sub_cancel]at this
    rw[this,show p++(T++[x]++[y])++(S2++q)=p++(T++[x])++((y::S2)++q) by simp]
    refine ih T (y::S2) hT (fun z hz=>hS z (by simp[hz])) (by simp;omega) fun R hR=>?_
    have:=hq (R++[y]) (by rw[ZlW,if_pos hk,hR])
    simpa using this
   ·refine Ztv hC _ i a b (a+T.length) g1 g2 (by rw[gl];omega) (by rw[gl];omega) (by omega) hi0 hi1 hk ?_
    have:=hq (T++[y]++[x]) (by rw[ZlW,if_neg hk];simp)
    exact this
theorem ZkN(xs:List AV)(a k:Nat)(ha:a≤k)(hk:k<xs.length):(xs.take (k+1)).drop a=(xs.take k).drop a++[xs.getD k .top]:=by
 rw[List.getD_eq_getElem?_getD,List.getElem?_eq_getElem hk,List.take_succ_eq_append_getElem hk,List.drop_append_of_le_length (by simp;omega)]
 rfl
theorem ZfL{l:List AV}{y:AV}(h:y∈Zax l):y∈l:=by
 have hb:∀(l:List AV) (x y:AV),y∈Zex x l→y=x∨y∈l:=by
  intro l
  induction l with
  |nil=>intro x y h;simp[Zex]at h;exact .inl h
  |cons z l ih=>
   intro x y h
   unfold Zex at h
   split at h
   ·rcases List.mem_cons.mp h with h |h
    ·exact .inr (by simp[h])
    ·rcases ih x y h with h |h
     ·exact .inl h
     ·exact .inr (by simp[h])
   ·rcases List.mem_cons.mp h with h |h
    ·exact .inl h
    ·exact .inr h
 have hf:∀(l acc:List AV),y∈l.foldl ZhB acc→y∈acc∨y∈l:=by
  intro l
  induction l with
  |nil=>intro acc h;exact .inl h
  |cons x l ih=>
   intro acc h
   rcases ih _ h with h |h
   ·have h:y∈Zex x acc.reverse:=by simpa[ZhB]using h
    rcases hb _ _ _ h with h |h
    ·exact .inr (by simp[h])
    ·exact .inl (by simpa using h)
   ·exact .inr (by simp[h])
 simpa using hf l [] h
theorem Zry{C:Ctx}(hC:C.P=Try.prog)(xs:List AV)(a b:Nat)(hab:a≤b)(hb:b≤xs.length)(hL:xs.length<1000000)(hn:ZaK xs=true):∀(d k:Nat),b-k=d→a≤k→k≤b→
 Ev C (Zb7 a b (k:Int) []) (ZbN a b (k:Int) (Zbr a k xs)) (Zh1 139 140 5 (.big shN (Zbr a b xs)) (.tup [])):=by
 intro d
 induction d with
 |zero=>
  intro k hd hak hkb
  have:k=b:=by omega
  subst this
  exact Zd7 hC ZfR (Zu0 std a k k (Zbr a k xs)) (by simp) rfl rfl rfl rfl
 |succ d ih=>
  intro k hd hak hkb
  have hk:k<xs.length:=by omega
  refine go hC ZfR (ZJs std a b k (Zbr a k xs)) (by simp;omega) ?_
  have hv:∀y∈xs,Zmw y=y:=fun y hy=>ZmH (List.all_eq_true.mp hn y hy)
  have e1:Zbr a k xs=xs.take a++(Zax ((xs.take k).drop a)++[xs.getD k .top])++([]++xs.drop (k+1)):=by
   unfold Zbr
   rw[List.drop_eq_getElem_cons hk,List.getD_eq_getElem?_getD,List.getElem?_eq_getElem hk]
   simp
  have e2:(k:Int)=((a+(Zax ((xs.take k).drop a)).length:Nat):Int):=by
   rw[Zcu];simp;omega
  have hlen:(xs.take a).length=a:=by simp;omega
  have key:=Zt5 hC (Q:=Zh1 139 140 5 (.big shN (Zbr a b xs)) (.tup [])) (xs.take a) (xs.drop (k+1)) (xs.getD k .top) k b a hlen (ZdR hn hk) (by omega) (by omega) _ (Zax ((xs.take k).drop a)) [] rfl
   (fun y hy=>hv y (List.mem_of_mem_take (List.mem_of_mem_drop (ZfL hy)))) (by rw[Zcu];simp;omega) (fun R hR=>by
     have:=ih (k+1) (by omega) (by omega) (by omega)
     have e3:Zbr a (k+1) xs=xs.take a++R++([]++xs.drop (k+1)):=by
      unfold Zbr
      rw[ZkN xs a k hak hk,ZpS,hR]
      simp
     rw[←e3]
     exact this)
  rw[←e1,←e2]at key
  exact key
theorem ZAT(xs:List AV)(a b:Nat)(h:a≤b∧b≤xs.length∧xs.length<1000000)(hn:ZaK xs=true):Zmo Try.prog 139 140 5 (.big shN xs) (.big shN (Zbr a b xs)) [.int .i64 a, .int .i64 b, .fn 119 []] (.tup []):=
 Zhm (ZuV xs a b) fun C hC=>by
  by_cases hab:a<b
  ·refine go hC ZfR (ZvC std xs a b) (by simp;omega) ?_
   have e:Zbr a (a+1) xs=xs:=by
    unfold Zbr
    rw[ZkN xs a a (Nat.le_refl _) (by omega)]
    have:(xs.take a).drop a=[]:=by simp
    rw[this]
    show xs.take a++[xs.getD a .top]++xs.drop (a+1)=xs
    rw[List.getD_eq_getElem?_getD,List.getElem?_eq_getElem (by omega:a<xs.length),List.append_assoc]
    show xs.take a++(xs[a]::xs.drop (a+1))=xs
    rw[←List.drop_eq_getElem_cons,List.take_append_drop]
   have:=Zry hC xs a b h.1 h.2.1 h.2.2 hn _ (a+1) rfl (by omega) (by omega)
   rw[e]at this
   exact this
  ·have hab:a=b:=by omega
   subst hab
   have e:Zbr a a xs=xs:=by
    unfold Zbr
    have:(xs.take a).drop a=[]:=by simp
    rw[this]
    show xs.take a++[]++xs.drop a=xs
    simp
   refine go hC ZfR (ZvC std xs a a) (by simp;omega) ?_
   rw[e]
   exact Zd7 hC ZfR (Zu0 std a a (a+1) xs) (by simp;omega) rfl rfl rfl rfl
theorem ZcX{P:Program}{F f e:Nat}{sz:Nat}{x y:Row}{rest:List AV}{r:AV}(he:F=f+1000000)(h:Zmo P f e sz x y rest r):ZiT P F (.list x::rest) r (some ⟨e,sz,y⟩):=by
 have hb:Nat.blt F 1000000=false:=Zce (by rw[he];exact Nat.le_add_left _ _)
 have hs:F-1000000=f:=by rw[he];exact Nat.add_sub_cancel _ _
 unfold ZiT
 rw[hb]
 intro x' rest' fs h1 h2
 cases h1;cases h2
 rw[hs]
 exact h
attribute [irreducible] Zbr
def sgB(xs:List AV)(a b:Int):Bool:=decide (0≤a∧a≤b∧b≤xs.length∧xs.length<1000000)&&ZaK xs
theorem ZBY(xs:List AV)(a b:Int)(h:sgB xs a b=true):ZiT Try.prog 1000139 [.list (.big shN xs), .int .i64 a, .int .i64 b, .fn 119 []] (.tup []) (some ⟨140,5, .big shN (Zbr a.toNat b.toNat xs)⟩):=by
 unfold sgB at h
 simp only[Bool.and_eq_true,decide_eq_true_eq]at h
 obtain⟨⟨h1,h2,h3,h4⟩,h5⟩:=h
 obtain⟨a,rfl⟩:=Int.eq_ofNat_of_zero_le h1
 obtain⟨b,rfl⟩:=Int.eq_ofNat_of_zero_le (Int.le_trans h1 h2)
 exact ZcX (f:=139) rfl (ZAT xs a b ⟨by omega,by omega,h4⟩ h5)
def k139:Ctr:=⟨1000139,0,fun _ a=>match a with |[.list (.big (.agg [.int .i64, .int .i64, .int .i64, .ints .i64, .int .i64]) xs), .int .i64 a, .int .i64 b, .fn 119 []]=>some (decide (sgB xs a b=true), .tup [],some ⟨140,5, .big shN (Zbr a.toNat b.toNat xs)⟩) |_=>none⟩
theorem ZBH:k139.OK Try.prog:=fun pa args r fr h=>by
 simp only[k139]at h
 split at h
 ·simp only[Option.some.injEq,Prod.mk.injEq,decide_eq_true_eq]at h
  obtain⟨h0,rfl,rfl⟩:=h
  exact ZBY _ _ _ h0
 ·cases h
def BO2:List Ctr:=[k139]++BO1
theorem Zoa:Zap Try.prog BO2:=⟨ZBH,ZfR⟩
end Go.Proofs.Ytjhdnpmojhkbjaa
/- Paths of functions, printed by the explorer (Gx). No condition. -/
namespace Go.Proofs.Ytjhdnpmojhkbjaa
set_option maxRecDepth 100000
set_option linter.unusedVariables false
def Zu8(xs:List AV)(a:Int)(b:Int)(n:Int):AFrame:={ fn:=142,N:=38,env:=[(0,AV.row 0 0),(1,AV.int .i64 a),(2,AV.int .i64 b),(3,AV.int .i64 n),(4,AV.fn 119 [])],todo:=[.code a142.code],defs:=[],rnd:=none,ret:=false,res:=[] }
def ZNC(xs:List AV)(a:Int)(b:Int)(n:Int):List AFrame:=[(Zu8 xs a b n)]
theorem ZtJ(xs:List AV)(a:Int)(b:Int)(n:Int):Zak tab 142 [AV.row 0 0,AV.int .i64 a,AV.int .i64 b,AV.int .i64 n,AV.fn 119 []]=some (Zu8 xs a b n):=rfl
def ZHM(xs:List AV)(a:Int)(b:Int)(n:Int):Zaa:=[(0,{ base:=0,blks:=[Blk.row 140 5 (Row.big (Sh.agg [Sh.int .i64,Sh.int .i64,Sh.int .i64,Sh.ints .i64,Sh.int .i64]) xs)] })]
def Zd3(a b n n0:Int)(x1:List AV):List AFrame:=[{ fn:=142,N:=38,env:=[(0,AV.row 0 0),(1,AV.int .i64 a),(2,AV.int .i64 b),(3,AV.int .i64 n),(10,AV.int .i64 n0)],todo:=.code (ACode.gh [] Zwu)::ZHm,defs:=[],rnd:=none,ret:=false,res:=[] }]
def Zdm(a:Int)(b:Int)(n:Int)(n0:Int)(x1:List AV):Zaa:=[(0,{ base:=0,blks:=[Blk.row 140 5 (Row.big (Sh.agg [Sh.int .i64,Sh.int .i64,Sh.int .i64,Sh.ints .i64,Sh.int .i64]) x1)] })]
abbrev Zhf(a:Int)(b:Int)(n:Int)(n0:Int)(x1:List AV):List AFrame×Zaa:=(Zd3 a b n n0 x1,Zdm a b n n0 x1)
theorem ZHQ(A:Ar)(xs:List AV)(a b n:Int):Zad A tab BO2 7 [] (ZNC xs a b n) (ZHM xs a b n)=
 some (tr [1] [],
  Zhf (a) (b) (n) (0) (xs)):=by kernel_rfl
theorem ZHl(A:Ar)(a b n n0:Int)(x1:List AV):Zad A tab BO2 21 [true] (Zd3 a b n n0 x1) (Zdm a b n n0 x1)=
 some (tr [1,1,0,0,0,0,0,0,3,0,0,3,3,3,3] [A.inR .i64 (A.add n0 1),Zab (Nat.blt (A.nat (A.add b n0)) (A.lenA (A.setA x1 (A.nat (A.add a n0)) (AV.agg (Row.gen [.int .i64 ((A.nthA x1 (A.nat (A.add b n0))).cellAt 0).toI, .int .i64 ((A.nthA x1 (A.nat (A.add b n0))).cellAt 1).toI, .int .i64 ((A.nthA x1 (A.nat (A.add b n0))).cellAt 2).toI, .list (.ints .i64 ((A.nthA x1 (A.nat (A.add b n0))).cellAt 3).toIs), .int .i64 ((A.nthA x1 (A.nat (A.add b n0))).cellAt 4).toI]))))) true,Zab (A.le 0 (A.add b n0)) (Nat.blt (A.nat (A.add b n0)) (A.lenA (A.setA x1 (A.nat (A.add a n0)) (AV.agg (Row.gen [.int .i64 ((A.nthA x1 (A.nat (A.add b n0))).cellAt 0).toI, .int .i64 ((A.nthA x1 (A.nat (A.add b n0))).cellAt 1).toI, .int .i64 ((A.nthA x1 (A.nat (A.add b n0))).cellAt 2).toI, .list (.ints .i64 ((A.nthA x1 (A.nat (A.add b n0))).cellAt 3).toIs), .int .i64 ((A.nthA x1 (A.nat (A.add b n0))).cellAt 4).toI]))))),Zab (Nat.blt (A.nat (A.add a n0)) (A.lenA x1)) true,Zab (A.le 0 (A.add a n0)) (Nat.blt (A.nat (A.add a n0)) (A.lenA x1)),Zab (Nat.blt (A.nat (A.add a n0)) (A.lenA x1)) true,Zab (A.le 0 (A.add a n0)) (Nat.blt (A.nat (A.add a n0)) (A.lenA x1)),A.inR .i64 (A.add a n0),Zab (Nat.blt (A.nat (A.add b n0)) (A.lenA x1)) true,Zab (A.le 0 (A.add b n0)) (Nat.blt (A.nat (A.add b n0)) (A.lenA x1)),A.inR .i64 (A.add b n0),A.inR .i64 (A.add b n0),A.inR .i64 (A.add a n0),A.lt n0 n],
  Zhf (a) (b) (n) (A.add n0 1) (A.setA (A.setA x1 (A.nat (A.add a n0)) (AV.agg (Row.gen [.int .i64 ((A.nthA x1 (A.nat (A.add b n0))).cellAt 0).toI, .int .i64 ((A.nthA x1 (A.nat (A.add b n0))).cellAt 1).toI, .int .i64 ((A.nthA x1 (A.nat (A.add b n0))).cellAt 2).toI, .list (.ints .i64 ((A.nthA x1 (A.nat (A.add b n0))).cellAt 3).toIs), .int .i64 ((A.nthA x1 (A.nat (A.add b n0))).cellAt 4).toI]))) (A.nat (A.add b n0)) (AV.agg (Row.gen [.int .i64 ((A.nthA x1 (A.nat (A.add a n0))).cellAt 0).toI, .int .i64 ((A.nthA x1 (A.nat (A.add a n0))).cellAt 1).toI, .int .i64 ((A.nthA x1 (A.nat (A.add a n0))).cellAt 2).toI, .list (.ints .i64 ((A.nthA x1 (A.nat (A.add a n0))).cellAt 3).toIs), .int .i64 ((A.nthA x1 (A.nat (A.add a n0))).cellAt 4).toI])))):=by kernel_rfl
theorem ZCR(A:Ar)(a b n n0:Int)(x1:List AV):ZaY A tab BO2 11 [false] 142 (Zd3 a b n n0 x1) (Zdm a b n n0 x1)=
 some (tr [1,3] [!A.lt n0 n],
  AV.tup [],140,5,Row.big (.agg [.int .i64, .int .i64, .int .i64, .ints .i64, .int .i64]) x1):=by kernel_rfl
end Go.Proofs.Ytjhdnpmojhkbjaa
/- Contracts as a list. No condition. -/
namespace Go.Proofs.Ytjhdnpmojhkbjaa
def Zgl(a b:Nat):Nat→List AV→List AV
 |0,xs=>xs
 |k+1,xs=>((Zgl a b k xs).set (a+k) ((Zgl a b k xs).getD (b+k) .top)).set (b+k) ((Zgl a b k xs).getD (a+k) .top)
theorem Zj7(a b:Nat)(xs:List AV):∀k,(Zgl a b k xs).length=xs.length
 |0=>rfl
 |k+1=>by simp[Zgl,Zj7 a b xs k]
theorem Zkf(a b:Nat)(xs:List AV):∀k,a+k≤b→b+k≤xs.length→∀i,(Zgl a b k xs)[i]? =if a≤i∧i<a+k then xs[i+b-a]? else if b≤i∧i<b+k then xs[i+a-b]? else xs[i]?
 |0,_,_,i=>by
  rw[if_neg (by omega),if_neg (by omega)];rfl
 |k+1,h1,h2,i=>by
  have ih:=Zkf a b xs k (by omega) (by omega)
  have l:=Zj7 a b xs k
  have gb:(Zgl a b k xs)[b+k]? =xs[b+k]?:=by rw[ih,if_neg (by omega),if_neg (by omega)]
  have ga:(Zgl a b k xs)[a+k]? =xs[a+k]?:=by rw[ih,if_neg (by omega),if_neg (by omega)]
  have hb:xs[b+k]? =some ((Zgl a b k xs).getD (b+k) .top):=by
   rw[List.getD_eq_getElem?_getD,gb,List.getElem?_eq_getElem (by omega:b+k<xs.length)];rfl
  have ha:xs[a+k]? =some ((Zgl a b k xs).getD (a+k) .top):=by
   rw[List.getD_eq_getElem?_getD,ga,List.getElem?_eq_getElem (by omega:a+k<xs.length)];rfl
  rw[Zgl,List.getElem?_set,List.getElem?_set,List.length_set,l,ih]
  by_cases e1:b+k=i
  ·subst e1
   rw[if_pos rfl,if_pos (by omega),if_neg (by omega),if_pos (by omega),←ha]
   congr 1;omega
  ·rw[if_neg e1]
   by_cases e2:a+k=i
   ·subst e2
    rw[if_pos rfl,if_pos (by omega),if_pos (by omega),←hb]
    congr 1;omega
   ·rw[if_neg e2]
    by_cases c1:a≤i∧i<a+k
    ·rw[if_pos c1,if_pos (by omega)]
    ·rw[if_neg c1]
     by_cases c2:b≤i∧i<b+k
     ·rw[if_pos c2,if_neg (by omega),if_pos (by omega)]
     ·rw[if_neg c2,if_neg (by omega),if_neg (by omega)]
theorem ZgI(P U M V S:List AV)(h:U.length=V.length):Zgl P.length (P.length+U.length+M.length) U.length (P++U++M++V++S)=P++V++M++U++S:=by
 apply List.ext_getElem?
 intro i
 rw[Zkf _ _ _ _ (by omega) (by simp;omega)]
 simp only[List.getElem?_append,List.length_append]
 repeat' split
 all_goals (try omega)
 all_goals (first |rfl |(congr 1;omega))
theorem numsB_mem{xs:List AV} :ZaK xs=true↔∀x∈xs,isN x=true:=by
 unfold ZaK;exact List.all_eq_true
theorem Zr7(a b:Nat)(xs:List AV)(h:ZaK xs=true)(k:Nat)(h1:a+k≤b)(h2:b+k≤xs.length):ZaK (Zgl a b k xs)=true:=by
 rw[numsB_mem]at h⊢
 intro x hx
 obtain⟨i,hi⟩:=List.mem_iff_getElem?.mp hx
 rw[Zkf a b xs k h1 h2 i]at hi
 split at hi
 ·exact h x (List.mem_of_getElem? hi)
 ·split at hi
  ·exact h x (List.mem_of_getElem? hi)
  ·exact h x (List.mem_of_getElem? hi)
theorem ZuG{C:Ctx}(hC:C.P=Try.prog)(xs:List AV)(a b n:Nat)(h1:a+n≤b)(h2:b+n≤xs.length)(hL:xs.length<1000000)(hn:ZaK xs=true):∀(d k:Nat),n-k=d→k≤n→
 Ev C (Zd3 a b n (k:Int) []) (Zdm a b n (k:Int) (Zgl a b k xs)) (Zh1 142 140 5 (.big shN (Zgl a b n xs)) (.tup [])):=by
 intro d
 induction d with
 |zero=>
  intro k hd hk
  have:k=n:=by omega
  subst this
  exact Zd7 hC Zoa (ZCR std a b k k (Zgl a b k xs)) (by simp) rfl rfl rfl rfl
 |succ d ih=>
  intro k hd hk
  have hw:=ZHl std a b n k (Zgl a b k xs)
  have e1:((a:Int)+k).toNat=a+k:=by omega
  have e2:((b:Int)+k).toNat=b+k:=by omega
  have l:=Zj7 a b xs k
  have hv:=Zr7 a b xs hn k (by omega) (by omega)
  have hx:=ZdR hv (j:=a+k) (by omega)
  have hy:=ZdR hv (j:=b+k) (by omega)
  have ih':=ih (k+1) (by omega) (by omega)
  rw[Zgl]at ih'
  generalize hX:(Zgl a b k xs).getD (a+k) .top=x at*
  generalize hY:(Zgl a b k xs).getD (b+k) .top=y at*
  simp only[ZaC,Zar,ZjR,ZbT,e1,e2,hX,hY]at hw
  rw[show (AV.agg (Row.gen [AV.int .i64 (AV.toI (AV.cellAt x 0)),AV.int .i64 (AV.toI (AV.cellAt x 1)),AV.int .i64 (AV.toI (AV.cellAt x 2)),AV.list (.ints .i64 (AV.toIs (AV.cellAt x 3))),AV.int .i64 (AV.toI (AV.cellAt x 4))]))=x from hx,show(AV.agg (Row.gen [AV.int .i64 (AV.toI (AV.cellAt y 0)),AV.int .i64 (AV.toI (AV.cellAt y 1)),AV.int .i64 (AV.toI (AV.cellAt y 2)),AV.list (.ints .i64 (AV.toIs (AV.cellAt y 3))),AV.int .i64 (AV.toI (AV.cellAt y 4))]))=y from hy]at hw
  refine go hC Zoa hw ?_ ih'
  simp[l]
  omega
theorem ZBf(xs:List AV)(a b n:Nat)(h:a+n≤b∧b+n≤xs.length∧xs.length<1000000)(hn:ZaK xs=true):Zmo Try.prog 142 140 5 (.big shN xs) (.big shN (Zgl a b n xs)) [.int .i64 a, .int .i64 b, .int .i64 n, .fn 119 []] (.tup []):=
 Zhm (ZtJ xs a b n) fun C hC=>go hC Zoa (ZHQ std xs a b n) (by simp) (ZuG hC xs a b n h.1 h.2.1 h.2.2 hn _ 0 rfl (by omega))
def swB(xs:List AV)(a b n:Int):Bool:=decide (0≤a∧0≤n∧a+n≤b∧b+n≤xs.length∧xs.length<1000000)&&ZaK xs
theorem ZyD(xs:List AV)(a b n:Int)(h:swB xs a b n=true):ZiT Try.prog 1000142 [.list (.big shN xs), .int .i64 a, .int .i64 b, .int .i64 n, .fn 119 []] (.tup []) (some ⟨140,5, .big shN (Zgl a.toNat b.toNat n.toNat xs)⟩):=by
 unfold swB at h
 simp only[Bool.and_eq_true,decide_eq_true_eq]at h
 obtain⟨⟨h1,h2,h3,h4,h6⟩,h5⟩:=h
 obtain⟨a,rfl⟩:=Int.eq_ofNat_of_zero_le h1
 obtain⟨n,rfl⟩:=Int.eq_ofNat_of_zero_le h2
 obtain⟨b,rfl⟩:=Int.eq_ofNat_of_zero_le (by omega:0≤b)
 exact ZcX (f:=142) rfl (ZBf xs a b n ⟨by omega,by omega,h6⟩ h5)
def k142:Ctr:=⟨1000142,0,fun _ a=>match a with |[.list (.big (.agg [.int .i64, .int .i64, .int .i64, .ints .i64, .int .i64]) xs), .int .i64 a, .int .i64 b, .int .i64 n, .fn 119 []]=>some (decide (swB xs a b n=true), .tup [],some ⟨140,5, .big shN (Zgl a.toNat b.toNat n.toNat xs)⟩) |_=>none⟩
theorem Zzr:k142.OK Try.prog:=fun pa args r fr h=>by
 simp only[k142]at h
 split at h
 ·simp only[Option.some.injEq,Prod.mk.injEq,decide_eq_true_eq]at h
  obtain⟨h0,rfl,rfl⟩:=h
  exact ZyD _ _ _ _ h0
 ·cases h
def BO3:List Ctr:=[k142]++BO2
theorem ZlU:Zap Try.prog BO3:=⟨Zzr,Zoa⟩
end Go.Proofs.Ytjhdnpmojhkbjaa
/- Paths of functions, printed by the explorer (Gx). No condition. -/
namespace Go.Proofs.Ytjhdnpmojhkbjaa
set_option maxRecDepth 100000
set_option linter.unusedVariables false
def ZvT(xs:List AV)(a:Int)(m:Int)(b:Int):AFrame:={ fn:=141,N:=58,env:=[(0,AV.row 0 0),(1,AV.int .i64 a),(2,AV.int .i64 m),(3,AV.int .i64 b),(4,AV.fn 119 [])],todo:=[.code a141.code],defs:=[],rnd:=none,ret:=false,res:=[] }
def ZKq(xs:List AV)(a:Int)(m:Int)(b:Int):List AFrame:=[(ZvT xs a m b)]
theorem Zs6(xs:List AV)(a:Int)(m:Int)(b:Int):Zak tab 141 [AV.row 0 0,AV.int .i64 a,AV.int .i64 m,AV.int .i64 b,AV.fn 119 []]=some (ZvT xs a m b):=rfl
def ZHu(xs:List AV)(a:Int)(m:Int)(b:Int):Zaa:=[(0,{ base:=0,blks:=[Blk.row 140 5 (Row.big (Sh.agg [Sh.int .i64,Sh.int .i64,Sh.int .i64,Sh.ints .i64,Sh.int .i64]) xs)] })]
def Zc3(m n0 n1:Int)(x2:List AV):List AFrame:=[{ fn:=141,N:=58,env:=[(0,AV.row 0 0),(2,AV.int .i64 m),(4,AV.fn 119 []),(10,AV.int .i64 n0),(11,AV.int .i64 n1)],todo:=.code (ACode.gh [] Zvs)::ZE5,defs:=[],rnd:=none,ret:=false,res:=[] }]
def Zcd(m:Int)(n0:Int)(n1:Int)(x2:List AV):Zaa:=[(0,{ base:=0,blks:=[Blk.row 140 5 (Row.big (Sh.agg [Sh.int .i64,Sh.int .i64,Sh.int .i64,Sh.ints .i64,Sh.int .i64]) x2)] })]
abbrev Zeg(m:Int)(n0:Int)(n1:Int)(x2:List AV):List AFrame×Zaa:=(Zc3 m n0 n1 x2,Zcd m n0 n1 x2)
theorem ZGl(A:Ar)(xs:List AV)(a m b:Int):Zad A tab BO3 18 [] (ZKq xs a m b) (ZHu xs a m b)=
 some (tr [1,3,2] [A.inR .i64 (A.sub b m),A.inR .i64 (A.sub m a)],
  Zeg (m) (A.sub m a) (A.sub b m) (xs)):=by kernel_rfl
theorem ZHv(A:Ar)(m n0 n1:Int)(x2:List AV):Zad A tab BO3 39 [true,true] (Zc3 m n0 n1 x2) (Zcd m n0 n1 x2)=
 some (tr [1,2,3,3,3,3] [A.inR .i64 (A.sub n0 n1),Zab (decide (swB x2 (A.sub m n0) m n1=true)) true,A.inR .i64 (A.sub m n0),A.lt n1 n0,A.not (A.eq n0 n1)],
  Zeg (m) (A.sub n0 n1) (n1) (Zgl (Int.toNat (A.sub m n0)) (Int.toNat m) (Int.toNat n1) x2)):=by kernel_rfl
theorem ZHj(A:Ar)(m n0 n1:Int)(x2:List AV):Zad A tab BO3 43 [true,false] (Zc3 m n0 n1 x2) (Zcd m n0 n1 x2)=
 some (tr [1,2,2,1,2,3,3,3] [A.inR .i64 (A.sub n1 n0),Zab (decide (swB x2 (A.sub m n0) (A.sub (A.add m n1) n0) n0=true)) true,A.inR .i64 (A.sub (A.add m n1) n0),A.inR .i64 (A.add m n1),A.inR .i64 (A.sub m n0),!A.lt n1 n0,A.not (A.eq n0 n1)],
  Zeg (m) (n0) (A.sub n1 n0) (Zgl (Int.toNat (A.sub m n0)) (Int.toNat (A.sub (A.add m n1) n0)) (Int.toNat n0) x2)):=by kernel_rfl
theorem ZDH(A:Ar)(m n0 n1:Int)(x2:List AV):ZaY A tab BO3 21 [false] 141 (Zc3 m n0 n1 x2) (Zcd m n0 n1 x2)=
 some (tr [1,3,3,3] [Zab (decide (swB x2 (A.sub m n0) m n0=true)) true,A.inR .i64 (A.sub m n0),!A.not (A.eq n0 n1)],
  AV.tup [],140,5,Row.big (.agg [.int .i64, .int .i64, .int .i64, .ints .i64, .int .i64]) (Zgl (Int.toNat (A.sub m n0)) (Int.toNat m) (Int.toNat n0) x2)):=by kernel_rfl
end Go.Proofs.Ytjhdnpmojhkbjaa
/- Contracts as a list. No condition. -/
namespace Go.Proofs.Ytjhdnpmojhkbjaa
theorem Zbj(a b:List AV):ZaK (a++b)=(ZaK a&&ZaK b):=by unfold ZaK;exact List.all_append
theorem Ztw{C:Ctx}(hC:C.P=Try.prog)(R:List AV):∀(N:Nat) (P U V S:List AV),U.length+V.length≤N→0<U.length→0<V.length→P.length+U.length+V.length+S.length<1000000→ZaK (P++U++V++S)=true→P++V++U++S=R→
 Ev C (Zc3 ((P.length+U.length:Nat):Int) (U.length:Int) (V.length:Int) []) (Zcd ((P.length+U.length:Nat):Int) (U.length:Int) (V.length:Int) (P++U++V++S)) (Zh1 141 140 5 (.big shN R) (.tup [])):=by
 intro N
 induction N with
 |zero=>intro P U V S h1 h2;omega
 |succ N ih=>
  intro P U V S hN hU hV hL hn hR
  have hlen:(P++U++V++S).length=P.length+U.length+V.length+S.length:=by simp[Nat.add_assoc]
  have em:((P.length+U.length:Nat):Int)-(U.length:Int)=(P.length:Nat):=by omega
  have hn4:ZaK P=true∧ZaK U=true∧ZaK V=true∧ZaK S=true:=by
   rw[Zbj,Zbj,Zbj]at hn
   simp only[Bool.and_eq_true]at hn
   exact⟨hn.1.1.1,hn.1.1.2,hn.1.2,hn.2⟩
  by_cases he:U.length=V.length
  ·have hw:=ZDH std ((P.length+U.length:Nat):Int) (U.length:Int) (V.length:Int) (P++U++V++S)
   simp only[ZaW,em,Int.toNat_natCast]at hw
   have hs:=ZgI P U [] V S he
   simp only[List.length_nil,Nat.add_zero,List.append_nil]at hs
   rw[hs,hR]at hw
   refine Zd7 hC ZlU hw ?_ rfl rfl rfl rfl
   have hb:swB (P++U++V++S) (P.length:Nat) ((P.length+U.length:Nat):Int) (U.length:Nat)=true:=by
    unfold swB
    rw[hn,hlen]
    simp only[Bool.and_true,decide_eq_true_eq]
    omega
   simp only[hb]
   simp[he]
   omega
  ·by_cases hlt:V.length<U.length
   ·have hw:=ZHv std ((P.length+U.length:Nat):Int) (U.length:Int) (V.length:Int) (P++U++V++S)
    obtain⟨A,B,hA,rfl⟩:∃A B:List AV,A.length=V.length∧U=A++B:=⟨U.take V.length,U.drop V.length,by simp;omega,by simp⟩
    have hs:=ZgI P A B V S hA
    simp only[ZaW,em,Int.toNat_natCast]at hw
    have e1:P.length+(A++B).length=P.length+A.length+B.length:=by simp[Nat.add_assoc]
    have e2:P++(A++B)++V++S=P++A++B++V++S:=by simp
    have e3:(((A++B).length:Nat):Int)-(V.length:Nat)=(B.length:Nat):=by simp;omega
    have hb:swB (P++(A++B)++V++S) (P.length:Nat) ((P.length+(A++B).length:Nat):Int) (V.length:Nat)=true:=by
     unfold swB
     rw[hn,hlen]
     simp only[Bool.and_true,decide_eq_true_eq]
     simp only[List.length_append]at*
     omega
    have hsw:Zgl P.length (P.length+(A++B).length) V.length (P++(A++B)++V++S)=P++V++B++A++S:=by
     rw[e1,e2,←hA];exact hs
    rw[hsw,e3]at hw
    simp only[List.length_append]at*
    refine go hC ZlU hw ?_ ?_
    ·simp only[hb]
     simp
     omega
    ·have:=ih (P++V) B A S (by omega) (by omega) (by omega) (by rw[List.length_append];omega) (by
      simp only[Zbj,Bool.and_eq_true]at*
      exact⟨⟨⟨⟨hn4.1,hn4.2.2.1⟩,hn4.2.1.2⟩,hn4.2.1.1⟩,hn4.2.2.2⟩) (by rw[←hR];simp)
     have e4:((P.length+(A.length+B.length):Nat):Int)=(((P++V).length+B.length:Nat):Int):=by rw[List.length_append];omega
     rw[e4,←hA]
     exact this
   ·have hw:=ZHj std ((P.length+U.length:Nat):Int) (U.length:Int) (V.length:Int) (P++U++V++S)
    obtain⟨A,B,hB,rfl⟩:∃A B:List AV,U.length=B.length∧V=A++B:=⟨V.take (V.length-U.length),V.drop (V.length-U.length),by simp;omega,by simp⟩
    have hs:=ZgI P U A B S hB
    have e0:((P.length+U.length:Nat):Int)+((A++B).length:Nat)-(U.length:Nat)=((P.length+U.length+A.length:Nat):Int):=by rw[List.length_append];omega
    simp only[ZaW,ZbT,em,e0,Int.toNat_natCast]at hw
    have e2:P++U++(A++B)++S=P++U++A++B++S:=by simp
    have e3:(((A++B).length:Nat):Int)-(U.length:Nat)=(A.length:Nat):=by rw[List.length_append];omega
    have hb:swB (P++U++(A++B)++S) (P.length:Nat) ((P.length+U.length+A.length:Nat):Int) (U.length:Nat)=true:=by
     unfold swB
     rw[hn,hlen]
     simp only[Bool.and_true,decide_eq_true_eq]
     simp only[List.length_append]at*
     omega
    rw[e2]at hb
    rw[e2,hs,e3]at hw
    rw[e2]
    simp only[List.length_append]at*
    refine go hC ZlU hw ?_ ?_
    ·simp only[hb]
     simp
     omega
    ·have:=ih P B A (U++S) (by omega) (by omega) (by omega) (by rw[List.length_append];omega) (by
      simp only[Zbj,Bool.and_eq_true]at*
      exact⟨⟨⟨hn4.1,hn4.2.2.1.2⟩,hn4.2.2.1.1⟩,hn4.2.1,hn4.2.2.2⟩) (by rw[←hR];simp)
     have e5:P++B++A++U++S=P++B++A++(U++S):=by simp
     rw[e5,hB]
     exact this
def ZiM(a m b:Nat)(xs:List AV):List AV:=xs.take a++(xs.take b).drop m++(xs.take m).drop a++xs.drop b
theorem ZJ2(xs:List AV)(a m b:Nat)(h1:a≤m)(h2:m≤b):xs.take a++(xs.take m).drop a++(xs.take b).drop m++xs.drop b=xs:=by
 have e1:xs.take a++(xs.take m).drop a=xs.take m:=by
  have:=List.take_append_drop a (xs.take m)
  rwa[List.take_take,Nat.min_eq_left h1]at this
 have e2:xs.take m++(xs.take b).drop m=xs.take b:=by
  have:=List.take_append_drop m (xs.take b)
  rwa[List.take_take,Nat.min_eq_left h2]at this
 rw[e1,e2,List.take_append_drop]
theorem ZCW(xs:List AV)(a m b:Nat)(h:a<m∧m<b∧b≤xs.length∧xs.length<1000000)(hn:ZaK xs=true):Zmo Try.prog 141 140 5 (.big shN xs) (.big shN (ZiM a m b xs)) [.int .i64 a, .int .i64 m, .int .i64 b, .fn 119 []] (.tup []):=
 Zhm (Zs6 xs a m b) fun C hC=>by
  obtain⟨h1,h2,h3,h4⟩:=h
  refine go hC ZlU (ZGl std xs a m b) (by simp;omega) ?_
  have hc:=ZJ2 xs a m b (by omega) (by omega)
  have l1:(xs.take a).length=a:=by simp;omega
  have l2:((xs.take m).drop a).length=m-a:=by simp;omega
  have l3:((xs.take b).drop m).length=b-m:=by simp;omega
  have l4:(xs.drop b).length=xs.length-b:=by simp
  have:=Ztw hC (ZiM a m b xs) _ (xs.take a) ((xs.take m).drop a) ((xs.take b).drop m) (xs.drop b) (Nat.le_refl _) (by rw[l2];omega) (by rw[l3];omega) (by rw[l1,l2,l3,l4];omega) (by rw[hc];exact hn) rfl
  rw[hc,l1,l2,l3]at this
  have e1:((a+(m-a):Nat):Int)=(m:Int):=by omega
  have e2:((m-a:Nat):Int)=(m:Int)-a:=by omega
  have e3:((b-m:Nat):Int)=(b:Int)-m:=by omega
  rw[e1,e2,e3]at this
  exact this
attribute [irreducible] ZiM
def ZnL(xs:List AV)(a m b:Int):Bool:=decide (0≤a∧a<m∧m<b∧b≤xs.length∧xs.length<1000000)&&ZaK xs
theorem ZIC(xs:List AV)(a m b:Int)(h:ZnL xs a m b=true):ZiT Try.prog 1000141 [.list (.big shN xs), .int .i64 a, .int .i64 m, .int .i64 b, .fn 119 []] (.tup []) (some ⟨140,5, .big shN (ZiM a.toNat m.toNat b.toNat xs)⟩):=by
 unfold ZnL at h
 simp only[Bool.and_eq_true,decide_eq_true_eq]at h
 obtain⟨⟨h1,h2,h3,h4,h6⟩,h5⟩:=h
 obtain⟨a,rfl⟩:=Int.eq_ofNat_of_zero_le h1
 obtain⟨m,rfl⟩:=Int.eq_ofNat_of_zero_le (by omega:0≤m)
 obtain⟨b,rfl⟩:=Int.eq_ofNat_of_zero_le (by omega:0≤b)
 exact ZcX (f:=141) rfl (ZCW xs a m b ⟨by omega,by omega,by omega,h6⟩ h5)
def k141:Ctr:=⟨1000141,0,fun _ a=>match a with |[.list (.big (.agg [.int .i64, .int .i64, .int .i64, .ints .i64, .int .i64]) xs), .int .i64 a, .int .i64 m, .int .i64 b, .fn 119 []]=>some (decide (ZnL xs a m b=true), .tup [],some ⟨140,5, .big shN (ZiM a.toNat m.toNat b.toNat xs)⟩) |_=>none⟩
theorem ZyQ:k141.OK Try.prog:=fun pa args r fr h=>by
 simp only[k141]at h
 split at h
 ·simp only[Option.some.injEq,Prod.mk.injEq,decide_eq_true_eq]at h
  obtain⟨h0,rfl,rfl⟩:=h
  exact ZIC _ _ _ _ h0
 ·cases h
def BO4:List Ctr:=[k141]++BO3
theorem ZwO:Zap Try.prog BO4:=⟨ZyQ,ZlU⟩
end Go.Proofs.Ytjhdnpmojhkbjaa
/- Sorting that keeps the order of equals. No condition. -/
namespace Go.Proofs.Ytjhdnpmojhkbjaa
def fkN(k:Int)(l:List AV):List AV:=l.filter fun x=>decide (Zav x=k)
def Za5(l:List AV):Prop:=l.Pairwise fun x y=>Zav x≤Zav y
theorem Zcw(k:Int)(a b:List AV):fkN k (a++b)=fkN k a++fkN k b:=by simp[fkN]
theorem Za6(k:Int)(x:AV)(l:List AV):fkN k (x::l)=if Zav x=k then x::fkN k l else fkN k l:=by
 unfold fkN
 rw[List.filter_cons]
 by_cases h:Zav x=k
 ·simp[h]
 ·simp[h]
theorem ZnR(k:Int)(x:AV):∀l,fkN k (Zex x l)=fkN k (x::l)
 |[]=>rfl
 |y::l=>by
  unfold Zex
  split
  ·rename_i h
   rw[Za6,ZnR k x l,Za6,Za6 k x (y::l),Za6]
   by_cases h1:Zav y=k
   ·rw[if_pos h1,if_neg (by omega),if_neg (by omega),if_pos h1]
   ·rw[if_neg h1,if_neg h1]
  ·rfl
theorem Zl3{x y:AV} :∀ {l:List AV},y∈Zex x l→y=x∨y∈l
 |[],h=>by simp[Zex]at h;exact .inl h
 |z::l,h=>by
  unfold Zex at h
  split at h
  ·rcases List.mem_cons.mp h with h |h
   ·exact .inr (by simp[h])
   ·rcases Zl3 h with h |h
    ·exact .inl h
    ·exact .inr (by simp[h])
  ·rcases List.mem_cons.mp h with h |h
   ·exact .inl h
   ·exact .inr h
theorem Zi9(x:AV):∀ {l:List AV},l.Pairwise (fun a b=>Zav b≤Zav a)→(Zex x l).Pairwise (fun a b=>Zav b≤Zav a)
 |[],_=>by simp[Zex]
 |y::l,h=>by
  obtain⟨h1,h2⟩:=List.pairwise_cons.mp h
  unfold Zex
  split
  ·rename_i hlt
   refine List.pairwise_cons.mpr ⟨fun z hz=>?_,Zi9 x h2⟩
   rcases Zl3 hz with rfl |hz
   ·omega
   ·exact h1 z hz
  ·rename_i hge
   refine List.pairwise_cons.mpr ⟨fun z hz=>?_,h⟩
   rcases List.mem_cons.mp hz with rfl |hz
   ·omega
   ·have:=h1 z hz;omega
theorem Zr9(k:Int)(l:List AV):fkN k l.reverse=(fkN k l).reverse:=by simp[fkN]
theorem ZsY(S:List AV)(x:AV)(h:Za5 S):Za5 (ZhB S x):=by
 unfold ZhB Za5
 rw[List.pairwise_reverse]
 exact Zi9 x (by rw[List.pairwise_reverse];exact h)
theorem Zx8(k:Int)(S:List AV)(x:AV):fkN k (ZhB S x)=fkN k (S++[x]):=by
 unfold ZhB
 rw[Zr9,ZnR,←Zr9];simp
theorem ZbC(l:List AV):Za5 (Zax l)∧∀k,fkN k (Zax l)=fkN k l:=by
 have:∀(l acc:List AV),Za5 acc→Za5 (l.foldl ZhB acc)∧∀k,fkN k (l.foldl ZhB acc)=fkN k (acc++l):=by
  intro l
  induction l with
  |nil=>intro acc h;exact⟨h,fun k=>by simp⟩
  |cons x l ih=>
   intro acc h
   obtain⟨h1,h2⟩:=ih (ZhB acc x) (ZsY acc x h)
   refine⟨h1,fun k=>?_⟩
   rw[List.foldl_cons,h2 k,Zcw,Zx8,←Zcw];simp
 have h:=this l [] List.Pairwise.nil
 simp only[List.nil_append]at h
 exact h
theorem fkN_mem{k:Int}{x:AV}{l:List AV} :x∈fkN k l↔x∈l∧Zav x=k:=by simp[fkN]
theorem ZrD:∀ {l m:List AV},Za5 l→Za5 m→(∀k,fkN k l=fkN k m)→l=m
 |[],[],_,_,_=>rfl
 |[],y::m,_,_,h=>by
  have:=h (Zav y)
  rw[Za6,if_pos rfl]at this
  simp[fkN]at this
 |x::l,[],_,_,h=>by
  have:=h (Zav x)
  rw[Za6,if_pos rfl]at this
  simp[fkN]at this
 |x::l,y::m,hl,hm,h=>by
  obtain⟨l1,l2⟩:=List.pairwise_cons.mp hl
  obtain⟨m1,m2⟩:=List.pairwise_cons.mp hm
  have hx:x∈y::m:=by
   have:x∈fkN (Zav x) (x::l):=fkN_mem.mpr ⟨by simp,rfl⟩
   rw[h]at this;exact(fkN_mem.mp this).1
  have hy:y∈x::l:=by
   have:y∈fkN (Zav y) (y::m):=fkN_mem.mpr ⟨by simp,rfl⟩
   rw[←h]at this;exact(fkN_mem.mp this).1
  have e1:Zav x≤Zav y:=by
   rcases List.mem_cons.mp hy with e |e
   ·rw[e];exact Int.le_refl _
   ·exact l1 y e
  have e2:Zav y≤Zav x:=by
   rcases List.mem_cons.mp hx with e |e
   ·rw[e];exact Int.le_refl _
   ·exact m1 x e
  have hk:=h (Zav x)
  rw[Za6,if_pos rfl,Za6,if_pos (by omega)]at hk
  obtain⟨exy,_⟩:=List.cons.inj hk
  subst exy
  rw[ZrD l2 m2 fun k=>?_]
  have:=h k
  rw[Za6,Za6]at this
  split at this
  ·exact(List.cons.inj this).2
  ·exact this
theorem Zj9{l m:List AV}(h:Za5 m)(hk:∀k,fkN k m=fkN k l):Zax l=m:=
 ZrD (ZbC l).1 h fun k=>by rw[(ZbC l).2,hk]
theorem Zbq{l:List AV}(h:Za5 l):Zax l=l:=Zj9 h fun _=>rfl
theorem mem_sort{l:List AV}{y:AV} :y∈Zax l↔y∈l:=by
 constructor
 ·exact ZfL
 ·intro h
  have:y∈fkN (Zav y) l:=fkN_mem.mpr ⟨h,rfl⟩
  rw[←(ZbC l).2]at this
  exact(fkN_mem.mp this).1
theorem ZfG(X U V Y:List AV)(hl:Za5 (X++U))(hr:Za5 (V++Y))(hs:∀v∈V,∀u∈U,Zav v<Zav u)(hxy:∀x∈X,∀y∈Y,Zav x≤Zav y):Zax (X++U++(V++Y))=Zax (X++V)++Zax (U++Y):=by
 obtain⟨a1,a2,a3⟩:=List.pairwise_append.mp hl
 obtain⟨b1,b2,b3⟩:=List.pairwise_append.mp hr
 refine Zj9 (List.pairwise_append.mpr ⟨(ZbC _).1,(ZbC _).1,fun p hp q hq=>?_⟩) fun k=>?_
 ·have hp:=List.mem_append.mp (mem_sort.mp hp)
  have hq:=List.mem_append.mp (mem_sort.mp hq)
  rcases hp with hp |hp<;>rcases hq with hq |hq
  ·exact a3 p hp q hq
  ·exact hxy p hp q hq
  ·exact Int.le_of_lt (hs p hp q hq)
  ·exact b3 p hp q hq
 ·rw[Zcw,(ZbC _).2,(ZbC _).2,Zcw,Zcw,Zcw,Zcw,Zcw]
  have:fkN k V++fkN k U=fkN k U++fkN k V:=by
   cases hv:fkN k V with
   |nil=>simp
   |cons v vs=>
    cases hu:fkN k U with
    |nil=>simp
    |cons u us=>
     have h1:=fkN_mem.mp (show v∈fkN k V by rw[hv];simp)
     have h2:=fkN_mem.mp (show u∈fkN k U by rw[hu];simp)
     have:=hs v h1.1 u h2.1
     omega
  rw[List.append_assoc,←List.append_assoc (fkN k V),this]
  simp
end Go.Proofs.Ytjhdnpmojhkbjaa
/- Merging: the contract that the recursion uses. No condition. -/
namespace Go.Proofs.Ytjhdnpmojhkbjaa
def Zgx:List AV→Bool
 |[]=>true
 |x::l=>l.all (fun y=>decide (Zav x≤Zav y))&&Zgx l
def smB(N:Nat)(xs:List AV)(a m b:Int):Bool:=decide (0≤a∧a<m∧m<b∧b≤xs.length∧xs.length<1000000∧b-a<N)&&ZaK xs&&Zgx ((xs.take m.toNat).drop a.toNat)&&Zgx ((xs.take b.toNat).drop m.toNat)
def ZJD(N:Nat):Ctr:=⟨1000140,0,fun _ a=>match a with |[.list (.big (.agg [.int .i64, .int .i64, .int .i64, .ints .i64, .int .i64]) xs), .int .i64 a, .int .i64 m, .int .i64 b, .fn 119 []]=>some (decide (smB N xs a m b=true), .tup [],some ⟨140,5, .big shN (Zbr a.toNat b.toNat xs)⟩) |_=>none⟩
def BO5(N:Nat):List Ctr:=ZJD N::BO4
end Go.Proofs.Ytjhdnpmojhkbjaa
