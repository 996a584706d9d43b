/- Every code of the table stands for the program's. Printed by gentab.py. -/
import Derived.Test.YtjhdnpmojhkbjaaTa
import Derived.Test.YtjhdnpmojhkbjaaChecked
import Derived.KernelRfl
namespace Go.Proofs.Ytjhdnpmojhkbjaa
set_option maxRecDepth 100000
theorem m6:Zar Try.prog 6 a6=true:=by kernel_rfl
theorem m14:Zar Try.prog 14 a14=true:=by kernel_rfl
theorem m16:Zar Try.prog 16 a16=true:=by kernel_rfl
theorem m17:Zar Try.prog 17 a17=true:=by kernel_rfl
theorem m18:Zar Try.prog 18 a18=true:=by kernel_rfl
theorem m19:Zar Try.prog 19 a19=true:=by kernel_rfl
theorem m20:Zar Try.prog 20 a20=true:=by kernel_rfl
theorem m21:Zar Try.prog 21 a21=true:=by kernel_rfl
theorem m23:Zar Try.prog 23 a23=true:=by kernel_rfl
theorem m27:Zar Try.prog 27 a27=true:=by kernel_rfl
theorem m29:Zar Try.prog 29 a29=true:=by kernel_rfl
theorem m30:Zar Try.prog 30 a30=true:=by kernel_rfl
theorem m31:Zar Try.prog 31 a31=true:=by kernel_rfl
theorem m32:Zar Try.prog 32 a32=true:=by kernel_rfl
theorem m33:Zar Try.prog 33 a33=true:=by kernel_rfl
theorem m34:Zar Try.prog 34 a34=true:=by kernel_rfl
theorem m35:Zar Try.prog 35 a35=true:=by kernel_rfl
theorem m36:Zar Try.prog 36 a36=true:=by kernel_rfl
theorem m40:Zar Try.prog 40 a40=true:=by kernel_rfl
theorem m41:Zar Try.prog 41 a41=true:=by kernel_rfl
theorem m42:Zar Try.prog 42 a42=true:=by kernel_rfl
theorem m55:Zar Try.prog 55 a55=true:=by kernel_rfl
theorem m60:Zar Try.prog 60 a60=true:=by kernel_rfl
theorem m63:Zar Try.prog 63 a63=true:=by kernel_rfl
theorem m64:Zar Try.prog 64 a64=true:=by kernel_rfl
theorem m67:Zar Try.prog 67 a67=true:=by kernel_rfl
theorem m69:Zar Try.prog 69 a69=true:=by kernel_rfl
theorem m75:Zar Try.prog 75 a75=true:=by kernel_rfl
theorem m76:Zar Try.prog 76 a76=true:=by kernel_rfl
theorem m77:Zar Try.prog 77 a77=true:=by kernel_rfl
theorem m78:Zar Try.prog 78 a78=true:=by kernel_rfl
theorem m79:Zar Try.prog 79 a79=true:=by kernel_rfl
theorem m80:Zar Try.prog 80 a80=true:=by kernel_rfl
theorem m81:Zar Try.prog 81 a81=true:=by kernel_rfl
theorem m84:Zar Try.prog 84 a84=true:=by kernel_rfl
theorem m85:Zar Try.prog 85 a85=true:=by kernel_rfl
theorem m86:Zar Try.prog 86 a86=true:=by kernel_rfl
theorem m87:Zar Try.prog 87 a87=true:=by kernel_rfl
theorem m88:Zar Try.prog 88 a88=true:=by kernel_rfl
theorem m89:Zar Try.prog 89 a89=true:=by kernel_rfl
theorem m90:Zar Try.prog 90 a90=true:=by kernel_rfl
theorem m91:Zar Try.prog 91 a91=true:=by kernel_rfl
theorem m93:Zar Try.prog 93 a93=true:=by kernel_rfl
theorem m94:Zar Try.prog 94 a94=true:=by kernel_rfl
theorem m95:Zar Try.prog 95 a95=true:=by kernel_rfl
theorem m96:Zar Try.prog 96 a96=true:=by kernel_rfl
theorem m97:Zar Try.prog 97 a97=true:=by kernel_rfl
theorem m98:Zar Try.prog 98 a98=true:=by kernel_rfl
theorem m99:Zar Try.prog 99 a99=true:=by kernel_rfl
theorem ZNS:Zar Try.prog 100 a100=true:=by kernel_rfl
theorem ZMr:Zar Try.prog 101 ZLE=true:=by kernel_rfl
theorem ZMm:Zar Try.prog 102 a102=true:=by kernel_rfl
theorem ZNI:Zar Try.prog 103 a103=true:=by kernel_rfl
theorem ZNM:Zar Try.prog 105 ZLy=true:=by kernel_rfl
theorem ZMs:Zar Try.prog 106 ZLA=true:=by kernel_rfl
theorem ZMo:Zar Try.prog 107 ZLU=true:=by kernel_rfl
theorem ZMb:Zar Try.prog 109 ZLr=true:=by kernel_rfl
theorem ZNd:Zar Try.prog 110 a110=true:=by kernel_rfl
theorem ZND:Zar Try.prog 113 a113=true:=by kernel_rfl
theorem ZMj:Zar Try.prog 114 ZLH=true:=by kernel_rfl
theorem ZMf:Zar Try.prog 117 a117=true:=by kernel_rfl
theorem ZNq:Zar Try.prog 118 a118=true:=by kernel_rfl
theorem ZMF:Zar Try.prog 119 a119=true:=by kernel_rfl
theorem ZNG:Zar Try.prog 120 a120=true:=by kernel_rfl
theorem ZNp:Zar Try.prog 121 a121=true:=by kernel_rfl
theorem ZNu:Zar Try.prog 122 a122=true:=by kernel_rfl
theorem ZM5:Zar Try.prog 123 a123=true:=by kernel_rfl
theorem ZM7:Zar Try.prog 124 ZLK=true:=by kernel_rfl
theorem ZNc:Zar Try.prog 125 ZLB=true:=by kernel_rfl
theorem ZM2:Zar Try.prog 126 ZL1=true:=by kernel_rfl
theorem ZNi:Zar Try.prog 127 a127=true:=by kernel_rfl
theorem ZNj:Zar Try.prog 128 ZLR=true:=by kernel_rfl
theorem ZMA:Zar Try.prog 129 a129=true:=by kernel_rfl
theorem ZNg:Zar Try.prog 130 a130=true:=by kernel_rfl
theorem ZNN:Zar Try.prog 131 a131=true:=by kernel_rfl
theorem ZNl:Zar Try.prog 132 ZLD=true:=by kernel_rfl
theorem ZMS:Zar Try.prog 133 ZLS=true:=by kernel_rfl
theorem ZNJ:Zar Try.prog 134 ZLn=true:=by kernel_rfl
theorem ZME:Zar Try.prog 135 ZLx=true:=by kernel_rfl
theorem ZNe:Zar Try.prog 136 ZLZ=true:=by kernel_rfl
theorem ZL6:Zar Try.prog 137 a137=true:=by kernel_rfl
theorem ZMM:Zar Try.prog 138 ZLm=true:=by kernel_rfl
theorem ZL9:Zar Try.prog 139 a139=true:=by kernel_rfl
theorem ZNZ:Zar Try.prog 140 a140=true:=by kernel_rfl
theorem ZNm:Zar Try.prog 141 a141=true:=by kernel_rfl
theorem ZMT:Zar Try.prog 142 a142=true:=by kernel_rfl
theorem Zja:Zb8 Try.prog tab:=FTree.ok (t:=tree) ⟨⟨⟨⟨⟨⟨⟨trivial,m6,trivial⟩,m14,trivial⟩,m16,⟨⟨trivial,m17,trivial⟩,m18,trivial⟩⟩,m19,⟨⟨⟨trivial,m20,trivial⟩,m21,trivial⟩,m23,⟨trivial,m27,trivial⟩⟩⟩,m29,⟨⟨⟨⟨trivial,m30,trivial⟩,m31,trivial⟩,m32,⟨⟨trivial,m33,trivial⟩,m34,trivial⟩⟩,m35,⟨⟨⟨trivial,m36,trivial⟩,m40,trivial⟩,m41,⟨trivial,m42,trivial⟩⟩⟩⟩,m55,⟨⟨⟨⟨⟨trivial,m60,trivial⟩,m63,trivial⟩,m64,⟨⟨trivial,m67,trivial⟩,m69,trivial⟩⟩,m75,⟨⟨⟨trivial,m76,trivial⟩,m77,trivial⟩,m78,⟨trivial,m79,trivial⟩⟩⟩,m80,⟨⟨⟨⟨trivial,m81,trivial⟩,m84,trivial⟩,m85,⟨⟨trivial,m86,trivial⟩,m87,trivial⟩⟩,m88,⟨⟨⟨trivial,m89,trivial⟩,m90,trivial⟩,m91,⟨trivial,m93,trivial⟩⟩⟩⟩⟩,m94,⟨⟨⟨⟨⟨⟨trivial,m95,trivial⟩,m96,trivial⟩,m97,⟨⟨trivial,m98,trivial⟩,m99,trivial⟩⟩,ZNS,⟨⟨⟨trivial,ZMr,trivial⟩,ZMm,trivial⟩,ZNI,⟨trivial,ZNM,trivial⟩⟩⟩,ZMs,⟨⟨⟨⟨trivial,ZMo,trivial⟩,ZMb,trivial⟩,ZNd,⟨⟨trivial,ZND,trivial⟩,ZMj,trivial⟩⟩,ZMf,⟨⟨⟨trivial,ZNq,trivial⟩,ZMF,trivial⟩,ZNG,⟨trivial,ZNp,trivial⟩⟩⟩⟩,ZNu,⟨⟨⟨⟨⟨trivial,ZM5,trivial⟩,ZM7,trivial⟩,ZNc,⟨⟨trivial,ZM2,trivial⟩,ZNi,trivial⟩⟩,ZNj,⟨⟨⟨trivial,ZMA,trivial⟩,ZNg,trivial⟩,ZNN,⟨trivial,ZNl,trivial⟩⟩⟩,ZMS,⟨⟨⟨⟨trivial,ZNJ,trivial⟩,ZME,trivial⟩,ZNe,⟨trivial,ZL6,trivial⟩⟩,ZMM,⟨⟨⟨trivial,ZL9,trivial⟩,ZNZ,trivial⟩,ZNm,⟨trivial,ZMT,trivial⟩⟩⟩⟩⟩⟩
theorem follows:Try.prog.follows .mixedOrders=true:=by kernel_rfl
end Go.Proofs.Ytjhdnpmojhkbjaa
/- How contracts are closed for the program. No condition. -/
namespace Go.Proofs.Ytjhdnpmojhkbjaa
def E0:List Ctr:=[]
theorem ZbH:Zap Try.prog E0:=trivial
section
variable {C:Ctx}{K:List Ctr}{n:Nat}{pa acc:List Bool}{fs gs:List AFrame}{h h':Zaa}{Q:List AFrame→Zaa→Prop}
theorem go(hC:C.P=Try.prog)(hK:Zap Try.prog K)(hw:Zad std tab K n pa fs h=some (acc,gs,h'))(hb:AllT acc)(hq:Ev C gs h' Q):Ev C fs h Q:=ZHJ (by rw[hC];exact follows) (by rw[hC];exact Zja) (by rw[hC];exact hK) hw hb hq
theorem fin(hC:C.P=Try.prog)(hK:Zap Try.prog K){fn:FuncId}{r r':AV}{fr fr':Option Fresh}(hw:ZaE std tab K n pa fn fs h=some (acc,r',fr'))(hb:AllT acc)(hr:r'=r)(hfr:fr'=fr):Ev C fs h (ZeX fn r fr):=ZBx (by rw[hC];exact follows) (by rw[hC];exact Zja) (by rw[hC];exact hK) hw hb hr hfr
theorem start{fn:FuncId}{args:List AV}{af:AFrame}{r:AV}{fr:Option Fresh}(he:Zam tab fn args=some af)(hq:∀C:Ctx,C.P=Try.prog→Ev C [af] [] (ZeX fn r fr)):ZaK Try.prog fn args r fr:=Zi0 Zja he fun _ _ _=>hq _ rfl
theorem ZdB(hC:C.P=Try.prog)(hK:Zap Try.prog K){fn:FuncId}{r r':AV}{e sz e' sz':Nat}{y y':Row}(hw:ZaX std tab K n pa fn fs h=some (acc,r',e',sz',y'))(hb:AllT acc)(hr:r'=r)(he:e'=e)(hs:sz'=sz)(hy:y'=y):Ev C fs h (Zho fn e sz y r):=Zwx (by rw[hC];exact follows) (by rw[hC];exact Zja) (by rw[hC];exact hK) hw hb hr he hs hy
theorem Zgq{f:FuncId}{e:TypeId}{sz:Nat}{x y:Row}{args:List AV}{af:AFrame}{r:AV}(he:Zam tab f (.row 0 0::args)=some af)(hq:∀C:Ctx,C.P=Try.prog→Ev C [af] (Zaj (some ⟨e,sz,x⟩)) (Zho f e sz y r)):ZlH Try.prog f e sz x y args r:=Zpz Zja he hq
end
theorem Zj8{f:FuncId}{args:List AV}{e sz:Nat}{r:Row}(h:ZaK Try.prog f args (.row 0 0) (some ⟨e,sz+1,r⟩))(hp:r.pure=true)(hs:r.solid=true):ZaK Try.prog f args (.list r) Znf:=
 Znu h rfl (.one (.row _ rfl hp hs))
theorem ZxX{f:FuncId}{args:List AV}{r:Row}(h:ZaK Try.prog f args .nils none)(hr:r.elems=[]):ZaK Try.prog f args (.list r) Znf:=
 Znu h rfl (.one (.nil r hr))
theorem Rel.same{w:World}{ok:Nat→Prop}{h:Zaa}{L:Lay}{r r':Row}{v:Value}(he:r.elems=r'.elems)(hr:Rel w ok h L (.list r) v):Rel w ok h L (.list r') v:=by
 cases hr with
 |nil _ a c h0=>exact .nil _ a c (he▸h0)
 |list _ xs hx ad n cap sz cs hb hok hn hcap hsz hl h1 hc hp hrr=>exact .list r' xs (hx.trans he) ad n cap sz cs hb hok hn hcap hsz hl h1 hc hp hrr
theorem Zkq{f:FuncId}{args:List AV}{r r':Row}{fr:Option Fresh}(h:ZaK Try.prog f args (.list r) fr)(he:r.elems=r'.elems):ZaK Try.prog f args (.list r') fr:=by
 intro w okA L vs hargs hok
 refine(h w okA L vs hargs hok).mono ?_
 rintro e w' ⟨x,L',rfl,hb,hp⟩
 refine⟨x,L',rfl,hb,?_⟩
 unfold Zkz at hp⊢
 split
 ·rename_i hn;rw[hn]at hp;exact Rel.same he hp
 ·rename_i hn;rw[hn]at hp;exact⟨hp.1,Rel.same he hp.2⟩
theorem ZjS{f:FuncId}{xs ys:List AV}{r r':Row}{x:AV}{fr:Option Fresh}(h:ZaK Try.prog f (xs++ .list r::ys) x fr)(he:r'.elems=r.elems):ZaK Try.prog f (xs++ .list r'::ys) x fr:=by
 intro w okA L vs hargs hok
 refine h w okA L vs ⟨by have:=hargs.1;simpa using this,fun j u v hu hv=>?_⟩ hok
 rcases Nat.lt_trichotomy j xs.length with hj |hj |hj
 ·rw[List.getElem?_append_left hj]at hu
  exact hargs.2 j u v (by rw[List.getElem?_append_left hj];exact hu) hv
 ·subst hj
  rw[List.getElem?_append_right (Nat.le_refl _)]at hu
  simp only[Nat.sub_self,List.getElem?_cons_zero,Option.some.injEq]at hu
  subst hu
  exact Rel.same he (hargs.2 _ _ v (by rw[List.getElem?_append_right (Nat.le_refl _)];simp) hv)
 ·rw[List.getElem?_append_right (by omega),show j-xs.length=(j-xs.length-1)+1 by omega,List.getElem?_cons_succ]at hu
  exact hargs.2 j u v (by rw[List.getElem?_append_right (by omega),show j-xs.length=(j-xs.length-1)+1 by omega,List.getElem?_cons_succ];exact hu) hv
theorem ZoK{f:FuncId}{r:Row}{x:AV}{fr:Option Fresh}(he:r.elems=[])(h:∀ad cap,ZaK Try.prog f [.val (.slice ad 0 cap)] x fr):ZaK Try.prog f [.list r] x fr:=by
 intro w okA L vs hargs hok
 obtain⟨h1,h2⟩:=hargs
 obtain⟨l⟩:=vs
 match l,h1 with
 |[v0],_=>
  have r0:=h2 0 _ _ rfl rfl
  obtain⟨ad,cap,rfl⟩:∃ad cap,v0=.slice ad 0 cap:=by
   cases r0 with
   |nil _ a c _=>exact⟨a,c,rfl⟩
   |list _ xs hx ad n cap sz cs hbb hok hn=>rw[he]at hx;subst hx;exact⟨some ad,cap,by rw[hn];rfl⟩
  exact h ad cap w okA L _ (RelL.cons (.val _) RelL.nil) hok
inductive Wk1:AV→AV→Prop
 |nil (r:Row) (h:r.elems=[]):Wk1 .nils (.list r)
 |same (v:AV):Wk1 v v
def WkL:List AV→List AV→Prop
 |[],[]=>True
 |x::xs,y::ys=>Wk1 x y∧WkL xs ys
 |_,_=>False
theorem WkL.spec:∀ {xs ys:List AV},WkL xs ys→xs.length=ys.length∧∀(j:Nat) (y:AV),ys[j]? =some y→∃x,xs[j]? =some x∧Wk1 x y
 |[],[],_=>⟨rfl,fun j y h=>by simp at h⟩
 |x::xs,y::ys,h=>by
  obtain⟨h1,h2⟩:=h
  obtain⟨e1,e2⟩:=WkL.spec h2
  refine⟨by simp[e1],fun j z hz=>?_⟩
  cases j with
  |zero=>simp at hz;subst hz;exact⟨x,rfl,h1⟩
  |succ j=>obtain⟨q,q1,q2⟩:=e2 j z (by simpa using hz);exact⟨q,by simpa using q1,q2⟩
theorem Wk1.rel{w:World}{ok:Nat→Prop}{h:Zaa}{L:Lay}{v v':AV}{x:Value}(hw:Wk1 v v')(hr:Rel w ok h L v x):Rel w ok h L v' x:=by
 cases hw with
 |nil r h=>cases hr with |nils=>exact .nil r none 0 h
 |same=>exact hr
theorem Znz{f:FuncId}{args xs ys:List AV}{fr:Option Fresh}(h:ZaK Try.prog f args (.tup xs) fr)(hw:WkL xs ys):ZaK Try.prog f args (.tup ys) fr:=by
 intro w okA L vs hargs hok
 refine(h w okA L vs hargs hok).mono ?_
 rintro e w' ⟨x,L',rfl,hb,hp⟩
 obtain⟨e1,e2⟩:=hw.spec
 have key:∀ {ok:Nat→Prop} {hh:Zaa},Rel w' ok hh L' (.tup xs) x→Rel w' ok hh L' (.tup ys) x:=fun hr=>by
  cases hr with
  |tup _ vs hl hrr=>
   refine .tup _ vs (by rw[←e1];exact hl) (fun j u v hu hv=>?_)
   obtain⟨q,q1,q2⟩:=e2 j u hu
   exact q2.rel (hrr j q v q1 hv)
 refine⟨x,L',rfl,hb,?_⟩
 unfold Zkz at hp⊢
 split
 ·rename_i hn;rw[hn]at hp;exact key hp
 ·rename_i hn;rw[hn]at hp;exact⟨hp.1,key hp.2⟩
end Go.Proofs.Ytjhdnpmojhkbjaa
/- Paths of functions, printed by the explorer (Gx). No condition. -/
namespace Go.Proofs.Ytjhdnpmojhkbjaa
set_option maxRecDepth 100000
set_option linter.unusedVariables false
def ZG8(n:Int)(a:Int)(b:Int):AFrame:={ fn:=27,N:=15,env:=[(0,AV.int .i64 n),(1,AV.int .i64 a),(2,AV.int .i64 b)],todo:=[.code a27.code],defs:=[],rnd:=none,ret:=false,res:=[ARes.tmp 6] }
def ZLO(n:Int)(a:Int)(b:Int):List AFrame:=[(ZG8 n a b)]
theorem ZxT(n:Int)(a:Int)(b:Int):Zam tab 27 [AV.int .i64 n,AV.int .i64 a,AV.int .i64 b]=some (ZG8 n a b):=rfl
theorem ZH9(A:Ar)(n a b:Int):ZaE A tab E0 18 [true,true,true,true] 27 (ZLO n a b) []=
 some (tr [9,5] [A.le a n],
  AV.bool (A.le n b),none):=by kernel_rfl
theorem ZJ4(A:Ar)(n a b:Int):ZaE A tab E0 18 [false,false,false,false] 27 (ZLO n a b) []=
 some (tr [9,5] [!A.le a n],
  AV.bool false,none):=by kernel_rfl
def ZCk(n:Int)(a:Int)(b:Int):AFrame:={ fn:=87,N:=15,env:=[(0,AV.int .i64 n),(1,AV.int .i64 a),(2,AV.int .i64 b)],todo:=[.code a87.code],defs:=[],rnd:=none,ret:=false,res:=[ARes.tmp 6] }
def ZLM(n:Int)(a:Int)(b:Int):List AFrame:=[(ZCk n a b)]
theorem ZyK(n:Int)(a:Int)(b:Int):Zam tab 87 [AV.int .i64 n,AV.int .i64 a,AV.int .i64 b]=some (ZCk n a b):=rfl
theorem ZIC(A:Ar)(n a b:Int):ZaE A tab E0 18 [true,true,true,true] 87 (ZLM n a b) []=
 some (tr [9,5] [A.le a n],
  AV.bool (A.le n b),none):=by kernel_rfl
theorem ZKJ(A:Ar)(n a b:Int):ZaE A tab E0 18 [false,false,false,false] 87 (ZLM n a b) []=
 some (tr [9,5] [!A.le a n],
  AV.bool false,none):=by kernel_rfl
def ZBn(b:Bool)(e:Int):AFrame:={ fn:=86,N:=7,env:=[(0,AV.bool b),(1,AV.int .i64 e)],todo:=[.code a86.code],defs:=[],rnd:=none,ret:=false,res:=[ARes.tmp 4] }
def ZLW(b:Bool)(e:Int):List AFrame:=[(ZBn b e)]
theorem ZzN(b:Bool)(e:Int):Zam tab 86 [AV.bool b,AV.int .i64 e]=some (ZBn b e):=rfl
theorem ZH6(A:Ar)(b:Bool)(e:Int):ZaE A tab E0 15 [true] 86 (ZLW b e) []=
 some (tr [2,2] [b],
  AV.int .i64 0,none):=by kernel_rfl
theorem ZHx(A:Ar)(b:Bool)(e:Int):ZaE A tab E0 17 [false] 86 (ZLW b e) []=
 some (tr [3,2] [!b],
  AV.int .i64 e,none):=by kernel_rfl
def ZF1(xs:List Int):AFrame:={ fn:=84,N:=15,env:=[(0,AV.list (.ints .i64 xs))],todo:=[.code a84.code],defs:=[],rnd:=none,ret:=false,res:=[ARes.tmp 2] }
def ZMn(xs:List Int):List AFrame:=[(ZF1 xs)]
theorem Zwi(xs:List Int):Zam tab 84 [AV.list (.ints .i64 xs)]=some (ZF1 xs):=rfl
def Zec(xs:List Int)(n0 n1:Int):List AFrame:=[{ fn:=84,N:=15,env:=[(5,AV.list (.ints .i64 xs)),(6,AV.int .i64 n0),(7,AV.int .i64 n1)],todo:=.code (ACode.gh [] ZED)::ZJG,defs:=[],rnd:=none,ret:=false,res:=[ARes.tmp 2] }]
def Zdq(xs:List Int)(n0:Int)(n1:Int):Zaa:=[]
abbrev Zjd(xs:List Int)(n0:Int)(n1:Int):List AFrame×Zaa:=(Zec xs n0 n1,Zdq xs n0 n1)
theorem ZJu(A:Ar)(xs:List Int):Zad A tab E0 14 [] (ZMn xs) []=
 some (tr [4] [],
  Zjd (xs) (A.int (A.len xs)) (0)):=by kernel_rfl
theorem ZHS(A:Ar)(xs:List Int)(n0 n1:Int):ZaE A tab E0 28 [true,true] 84 (Zec xs n0 n1) (Zdq xs n0 n1)=
 some (tr [3,4,0,1] [A.not (A.eq (A.nth xs (A.nat n1)) 0),Zab (Zab (A.le 0 n1) (Nat.blt (A.nat n1) (A.len xs))) true,A.lt n1 n0],
  AV.int .i64 (A.nth xs (A.nat n1)),none):=by kernel_rfl
theorem ZIy(A:Ar)(xs:List Int)(n0 n1:Int):Zad A tab E0 30 [true,false] (Zec xs n0 n1) (Zdq xs n0 n1)=
 some (tr [1,0,4,0,1] [A.inR .i64 (A.add n1 1),!A.not (A.eq (A.nth xs (A.nat n1)) 0),Zab (Zab (A.le 0 n1) (Nat.blt (A.nat n1) (A.len xs))) true,A.lt n1 n0],
  Zjd (xs) (n0) (A.add n1 1)):=by kernel_rfl
theorem ZJT(A:Ar)(xs:List Int)(n0 n1:Int):ZaE A tab E0 13 [false] 84 (Zec xs n0 n1) (Zdq xs n0 n1)=
 some (tr [2,1] [!A.lt n1 n0],
  AV.int .i64 0,none):=by kernel_rfl
def ZC1(xs:List Int):AFrame:={ fn:=55,N:=6,env:=[(0,AV.list (.ints .i64 xs))],todo:=[.code a55.code],defs:=[],rnd:=none,ret:=false,res:=[ARes.tmp 2] }
def ZNU(xs:List Int):List AFrame:=[(ZC1 xs)]
theorem ZyE(xs:List Int):Zam tab 55 [AV.list (.ints .i64 xs)]=some (ZC1 xs):=rfl
theorem ZIt(A:Ar)(xs:List Int):ZaE A tab E0 12 [] 55 (ZNU xs) []=
 some (tr [2,1,1] [Nat.ble (0+A.len xs) 4294967296,List.all [] fun x=>AV.bx x&&Nat.beq (Zac A x) 1],
  AV.row 0 0,some { e:=3,sz:=1,r:=.ints .i64 xs }):=by kernel_rfl
def ZCm(xs:List Int)(ys:List Int):AFrame:={ fn:=67,N:=26,env:=[(0,AV.list (.ints .i64 xs)),(1,AV.list (.ints .i64 ys))],todo:=[.code a67.code],defs:=[],rnd:=none,ret:=false,res:=[ARes.tmp 4] }
def ZLG(xs:List Int)(ys:List Int):List AFrame:=[(ZCm xs ys)]
theorem Zwt(xs:List Int)(ys:List Int):Zam tab 67 [AV.list (.ints .i64 xs),AV.list (.ints .i64 ys)]=some (ZCm xs ys):=rfl
def Zef(xs ys:List Int)(n0:Int):List AFrame:=[{ fn:=67,N:=26,env:=[(0,AV.list (.ints .i64 xs)),(1,AV.list (.ints .i64 ys)),(5,AV.int .i64 n0)],todo:=.code (ACode.gh [] ZFk)::ZKl,defs:=[],rnd:=none,ret:=false,res:=[ARes.tmp 4] }]
def Zds(xs:List Int)(ys:List Int)(n0:Int):Zaa:=[]
abbrev ZiZ(xs:List Int)(ys:List Int)(n0:Int):List AFrame×Zaa:=(Zef xs ys n0,Zds xs ys n0)
theorem ZHY(A:Ar)(xs ys:List Int):ZaE A tab E0 19 [true] 67 (ZLG xs ys) []=
 some (tr [2,6] [A.not (A.eq (A.int (A.len xs)) (A.int (A.len ys)))],
  AV.bool false,none):=by kernel_rfl
theorem ZKP(A:Ar)(xs ys:List Int):Zad A tab E0 23 [false] (ZLG xs ys) []=
 some (tr [1,6] [!A.not (A.eq (A.int (A.len xs)) (A.int (A.len ys)))],
  ZiZ (xs) (ys) (0)):=by kernel_rfl
theorem ZKo(A:Ar)(xs ys:List Int)(n0:Int):ZaE A tab E0 22 [true,true] 67 (Zef xs ys n0) (Zds xs ys n0)=
 some (tr [2,2,3,2,4] [A.not (A.eq (A.nth xs (A.nat n0)) (A.nth ys (A.nat n0))),Zab (Zab (A.le 0 n0) (Nat.blt (A.nat n0) (A.len ys))) true,Zab (Zab (A.le 0 n0) (Nat.blt (A.nat n0) (A.len xs))) true,A.lt n0 (A.int (A.len xs))],
  AV.bool false,none):=by kernel_rfl
theorem ZIF(A:Ar)(xs ys:List Int)(n0:Int):Zad A tab E0 26 [true,false] (Zef xs ys n0) (Zds xs ys n0)=
 some (tr [1,1,2,3,2,4] [A.inR .i64 (A.add n0 1),!A.not (A.eq (A.nth xs (A.nat n0)) (A.nth ys (A.nat n0))),Zab (Zab (A.le 0 n0) (Nat.blt (A.nat n0) (A.len ys))) true,Zab (Zab (A.le 0 n0) (Nat.blt (A.nat n0) (A.len xs))) true,A.lt n0 (A.int (A.len xs))],
  ZiZ (xs) (ys) (A.add n0 1)):=by kernel_rfl
theorem ZHt(A:Ar)(xs ys:List Int)(n0:Int):ZaE A tab E0 16 [false] 67 (Zef xs ys n0) (Zds xs ys n0)=
 some (tr [2,4] [!A.lt n0 (A.int (A.len xs))],
  AV.bool true,none):=by kernel_rfl
def ZvK(xs:List Int):AFrame:={ fn:=102,N:=8,env:=[(0,AV.list (.ints .i64 xs))],todo:=[.code a102.code],defs:=[],rnd:=none,ret:=false,res:=[ARes.tmp 2] }
def ZJw(xs:List Int):List AFrame:=[(ZvK xs)]
theorem ZsV(xs:List Int):Zam tab 102 [AV.list (.ints .i64 xs)]=some (ZvK xs):=rfl
theorem ZFf(A:Ar)(xs:List Int):ZaE A tab E0 20 [false] 102 (ZJw xs) []=
 some (tr [2,1,1,2] [Nat.ble (0+A.len xs) 4294967296,List.all [] fun x=>AV.bx x&&Nat.beq (Zac A x) 1,Nat.blt 0 (A.len xs)],
  AV.row 0 0,some { e:=3,sz:=1,r:=.ints .i64 xs }):=by kernel_rfl
def ZqZ(ad:Go.Addr)(cap:Nat):AFrame:={ fn:=102,N:=8,env:=[(0,AV.val (Go.Value.slice (some ad) 0 cap))],todo:=[.code a102.code],defs:=[],rnd:=none,ret:=false,res:=[ARes.tmp 2] }
def ZCZ(ad:Go.Addr)(cap:Nat):List AFrame:=[(ZqZ ad cap)]
theorem Zqd(ad:Go.Addr)(cap:Nat):Zam tab 102 [AV.val (Go.Value.slice (some ad) 0 cap)]=some (ZqZ ad cap):=rfl
theorem Zx8(A:Ar)(ad:Go.Addr)(cap:Nat):ZaE A tab E0 20 [false] 102 (ZCZ ad cap) []=
 some (tr [4,4] [List.all [] fun x=>AV.bx x&&Nat.beq (Zac A x) 1],
  AV.row 0 0,some { e:=3,sz:=1,r:=Row.gen [] }):=by kernel_rfl
def ZpZ(cap:Nat):AFrame:={ fn:=102,N:=8,env:=[(0,AV.val (Go.Value.slice none 0 cap))],todo:=[.code a102.code],defs:=[],rnd:=none,ret:=false,res:=[ARes.tmp 2] }
def ZDA(cap:Nat):List AFrame:=[(ZpZ cap)]
theorem ZrD(cap:Nat):Zam tab 102 [AV.val (Go.Value.slice none 0 cap)]=some (ZpZ cap):=rfl
theorem ZwM(A:Ar)(cap:Nat):ZaE A tab E0 16 [true] 102 (ZDA cap) []=
 some (tr [6] [],
  AV.nils,none):=by kernel_rfl
def ZBI(xs:List Int):AFrame:={ fn:=69,N:=16,env:=[(0,AV.list (.ints .i64 xs))],todo:=[.code a69.code],defs:=[],rnd:=none,ret:=false,res:=[ARes.tmp 2] }
def ZMz(xs:List Int):List AFrame:=[(ZBI xs)]
theorem ZxB(xs:List Int):Zam tab 69 [AV.list (.ints .i64 xs)]=some (ZBI xs):=rfl
def Zdm(xs:List Int)(n0:Int):List AFrame:=[{ fn:=69,N:=16,env:=[(0,AV.list (.ints .i64 xs)),(3,AV.int .i64 n0)],todo:=.code (ACode.gh [] ZDq)::ZJ1,defs:=[],rnd:=none,ret:=false,res:=[ARes.tmp 2] }]
def Zcz(xs:List Int)(n0:Int):Zaa:=[]
abbrev Zix(xs:List Int)(n0:Int):List AFrame×Zaa:=(Zdm xs n0,Zcz xs n0)
theorem ZKF(A:Ar)(xs:List Int):Zad A tab E0 12 [] (ZMz xs) []=
 some (tr [2] [],
  Zix (xs) (0)):=by kernel_rfl
theorem ZH4(A:Ar)(xs:List Int)(n0:Int):ZaE A tab E0 47 [true,true,true,true,true,true] 69 (Zdm xs n0) (Zcz xs n0)=
 some (tr [2,10,6,2,4] [A.not (A.le (A.nth xs (A.nat n0)) 255),A.le 0 (A.nth xs (A.nat n0)),Zab (Zab (A.le 0 n0) (Nat.blt (A.nat n0) (A.len xs))) true,A.lt n0 (A.int (A.len xs))],
  AV.int .i64 2,none):=by kernel_rfl
theorem ZJb(A:Ar)(xs:List Int)(n0:Int):Zad A tab E0 51 [true,true,true,true,true,false] (Zdm xs n0) (Zcz xs n0)=
 some (tr [1,1,10,6,2,4] [A.inR .i64 (A.add n0 1),!A.not (A.le (A.nth xs (A.nat n0)) 255),A.le 0 (A.nth xs (A.nat n0)),Zab (Zab (A.le 0 n0) (Nat.blt (A.nat n0) (A.len xs))) true,A.lt n0 (A.int (A.len xs))],
  Zix (xs) (A.add n0 1)):=by kernel_rfl
theorem ZHE(A:Ar)(xs:List Int)(n0:Int):ZaE A tab E0 47 [true,false,false,false,false,true] 69 (Zdm xs n0) (Zcz xs n0)=
 some (tr [2,10,6,2,4] [A.not false,!A.le 0 (A.nth xs (A.nat n0)),Zab (Zab (A.le 0 n0) (Nat.blt (A.nat n0) (A.len xs))) true,A.lt n0 (A.int (A.len xs))],
  AV.int .i64 2,none):=by kernel_rfl
theorem ZKX(A:Ar)(xs:List Int)(n0:Int):ZaE A tab E0 16 [false] 69 (Zdm xs n0) (Zcz xs n0)=
 some (tr [2,4] [!A.lt n0 (A.int (A.len xs))],
  AV.int .i64 0,none):=by kernel_rfl
def Zve(xs:List Int):AFrame:={ fn:=127,N:=21,env:=[(0,AV.list (.ints .i64 xs)),(1,AV.fn 128 [])],todo:=[.code a127.code],defs:=[],rnd:=none,ret:=false,res:=[ARes.tmp 4] }
def ZIj(xs:List Int):List AFrame:=[(Zve xs)]
theorem ZtT(xs:List Int):Zam tab 127 [AV.list (.ints .i64 xs),AV.fn 128 []]=some (Zve xs):=rfl
def ZbP(xs:List Int)(n0 n1:Int):List AFrame:=[{ fn:=127,N:=21,env:=[(1,AV.fn 128 []),(8,AV.list (.ints .i64 xs)),(9,AV.int .i64 n0),(10,AV.int .i64 n1)],todo:=.code (ACode.gh [] Zvu)::ZBN,defs:=[],rnd:=none,ret:=false,res:=[ARes.tmp 4] }]
def ZbE(xs:List Int)(n0:Int)(n1:Int):Zaa:=[]
abbrev ZgA(xs:List Int)(n0:Int)(n1:Int):List AFrame×Zaa:=(ZbP xs n0 n1,ZbE xs n0 n1)
theorem ZEh(A:Ar)(xs:List Int):Zad A tab E0 14 [] (ZIj xs) []=
 some (tr [4] [],
  ZgA (xs) (A.int (A.len xs)) (0)):=by kernel_rfl
theorem ZDE(A:Ar)(xs:List Int)(n0 n1:Int):Zad A tab E0 97 [true,true,true,true,true,true,false] (ZbP xs n0 n1) (ZbE xs n0 n1)=
 some (tr [1,0,7,13,13,0,1] [A.inR .i64 (A.add n1 1),!A.not (A.eq 0 0),A.le (A.nth xs (A.nat n1)) 255,A.le 0 (A.nth xs (A.nat n1)),Zab (Zab (A.le 0 n1) (Nat.blt (A.nat n1) (A.len xs))) true,A.lt n1 n0],
  ZgA (xs) (n0) (A.add n1 1)):=by kernel_rfl
theorem ZBo(A:Ar)(xs:List Int)(n0 n1:Int):ZaE A tab E0 97 [true,true,true,true,true,false,true] 127 (ZbP xs n0 n1) (ZbE xs n0 n1)=
 some (tr [3,8,13,13,0,1] [A.not (A.eq 2 0),!A.le (A.nth xs (A.nat n1)) 255,A.le 0 (A.nth xs (A.nat n1)),Zab (Zab (A.le 0 n1) (Nat.blt (A.nat n1) (A.len xs))) true,A.lt n1 n0],
  AV.int .i64 2,none):=by kernel_rfl
theorem ZEx(A:Ar)(xs:List Int)(n0 n1:Int):ZaE A tab E0 97 [true,false,false,false,false,false,true] 127 (ZbP xs n0 n1) (ZbE xs n0 n1)=
 some (tr [3,22,13,0,1] [A.not (A.eq 2 0),!A.le 0 (A.nth xs (A.nat n1)),Zab (Zab (A.le 0 n1) (Nat.blt (A.nat n1) (A.len xs))) true,A.lt n1 n0],
  AV.int .i64 2,none):=by kernel_rfl
theorem ZGT(A:Ar)(xs:List Int)(n0 n1:Int):ZaE A tab E0 13 [false] 127 (ZbP xs n0 n1) (ZbE xs n0 n1)=
 some (tr [2,1] [!A.lt n1 n0],
  AV.int .i64 0,none):=by kernel_rfl
end Go.Proofs.Ytjhdnpmojhkbjaa
/- Contracts as a list. No condition. -/
namespace Go.Proofs.Ytjhdnpmojhkbjaa
@[simp] theorem ZiC (l:List AV):std.lenA l=l.length:=rfl
@[simp] theorem Zau (l:List AV) (j:Nat):std.nthA l j=l.getD j .top:=rfl
@[simp] theorem Znk (a b:List AV):std.appA a b=a++b:=rfl
@[simp] theorem Zk3 (l:List AV) (j:Nat) (x:AV):std.setA l j x=l.set j x:=rfl
@[simp] theorem ZLT (l:List AV) (k n:Nat):std.subA l k n=(l.drop k).take n:=rfl
theorem Zrd{C:Ctx}(hC:C.P=Try.prog)(xs ys:List Int)(hl:xs.length=ys.length)(hlen:xs.length≤1000000):∀(d i:Nat),xs.length-i=d→i≤xs.length→xs.take i=ys.take i→
 Ev C (Zef xs ys i) (Zds xs ys i) (ZeX 67 (.bool (decide (xs=ys))) none):=by
 intro d
 induction d with
 |zero=>
  intro i hd hi ht
  have hi:i=xs.length:=by omega
  have he:xs=ys:=by rw[hi]at ht;rw[List.take_length,hl,List.take_length]at ht;exact ht
  exact fin hC ZbH (ZHt std xs ys i) (by simp;omega) (by simp[he]) rfl
 |succ d ih=>
  intro i hd hi ht
  have hlt:i<xs.length:=by omega
  by_cases hx:xs[i]? =ys[i]?
  ·refine go hC ZbH (ZIF std xs ys i) (by simp[hx];omega) ?_
   exact ih (i+1) (by omega) (by omega) (by
    have h3:xs[i]'hlt=ys[i]'(by omega):=by
     rw[List.getElem?_eq_getElem hlt,List.getElem?_eq_getElem (show i<ys.length by omega)]at hx
     exact Option.some.inj hx
    rw[List.take_succ_eq_append_getElem hlt,List.take_succ_eq_append_getElem (show i<ys.length by omega),ht,h3])
  ·have h3:xs[i]'hlt≠ys[i]'(by omega):=by
    rw[List.getElem?_eq_getElem hlt,List.getElem?_eq_getElem (show i<ys.length by omega)]at hx
    exact fun e=>hx (by rw[e])
   exact fin hC ZbH (ZKo std xs ys i) (by simp[hlt,show i<ys.length by omega,h3]) (by
    have:xs≠ys:=fun e=>hx (by rw[e])
    simp[this]) rfl
theorem Zy9(xs ys:List Int)(hlen:xs.length≤1000000):ZaK Try.prog 67 [.list (.ints .i64 xs), .list (.ints .i64 ys)] (.bool (decide (xs=ys))) none:=
 start (Zwt xs ys) fun C hC=>by
  by_cases hl:xs.length=ys.length
  ·exact go hC ZbH (ZKP std xs ys) (by simp;omega) (Zrd hC xs ys hl hlen xs.length 0 (by omega) (by omega) rfl)
  ·refine fin hC ZbH (ZHY std xs ys) (by simp;omega) ?_ rfl
   have:xs≠ys:=fun e=>hl (by rw[e])
   simp[this]
theorem ZtG(xs:List Int)(hx:xs.length≤4294967296):ZaK Try.prog 55 [.list (.ints .i64 xs)] (.row 0 0) (some ⟨3,1, .ints .i64 xs⟩):=
 start (ZyE xs) fun C hC=>fin hC ZbH (ZIt std xs) (by simp;omega) rfl rfl
theorem Zty(xs:List Int)(hx:xs.length≤4294967296):ZaK Try.prog 55 [.list (.ints .i64 xs)] (.list (.ints .i64 xs)) Znf:=Zj8 (ZtG xs hx) rfl rfl
def Zaq:List Int→Int
 |[]=>0
 |x::xs=>if x=0 then Zaq xs else x
theorem ZoL{C:Ctx}(hC:C.P=Try.prog)(xs:List Int)(hlen:xs.length≤1000000):∀(d i:Nat),xs.length-i=d→i≤xs.length→
 Ev C (Zec xs xs.length i) (Zdq xs xs.length i) (ZeX 84 (.int .i64 (Zaq (xs.drop i))) none):=by
 intro d
 induction d with
 |zero=>
  intro i hd hi
  exact fin hC ZbH (ZJT std xs xs.length i) (by simp;omega) (by rw[List.drop_of_length_le (by omega)];rfl) rfl
 |succ d ih=>
  intro i hd hi
  have hlt:i<xs.length:=by omega
  by_cases hx:xs[i]'hlt=0
  ·refine go hC ZbH (ZIy std xs xs.length i) (by simp[hlt,hx];omega) ?_
   have:=ih (i+1) (by omega) (by omega)
   rw[List.drop_eq_getElem_cons hlt,Zaq,if_pos hx]
   exact this
  ·exact fin hC ZbH (ZHS std xs xs.length i) (by simp[hlt,hx]) (by rw[List.drop_eq_getElem_cons hlt,Zaq,if_neg hx];simp[hlt]) rfl
theorem ZtR(xs:List Int)(hlen:xs.length≤1000000):ZaK Try.prog 84 [.list (.ints .i64 xs)] (.int .i64 (Zaq xs)) none:=
 start (Zwi xs) fun C hC=>go hC ZbH (ZJu std xs) (by simp) (ZoL hC xs hlen xs.length 0 (by omega) (by omega))
theorem Zmz(n a b:Int):ZaK Try.prog 27 [.int .i64 n, .int .i64 a, .int .i64 b] (.bool (decide (a≤n∧n≤b))) none:=
 start (ZxT n a b) fun C hC=>by
  by_cases h1:a≤n
  ·exact fin hC ZbH (ZH9 std n a b) (by simp[h1]) (by simp[h1]) rfl
  ·exact fin hC ZbH (ZJ4 std n a b) (by simp;omega) (by simp[h1]) rfl
theorem ZmG(n a b:Int):ZaK Try.prog 87 [.int .i64 n, .int .i64 a, .int .i64 b] (.bool (decide (a≤n∧n≤b))) none:=
 start (ZyK n a b) fun C hC=>by
  by_cases h1:a≤n
  ·exact fin hC ZbH (ZIC std n a b) (by simp[h1]) (by simp[h1]) rfl
  ·exact fin hC ZbH (ZKJ std n a b) (by simp;omega) (by simp[h1]) rfl
def Zak(b:Bool)(e:Int):Int:=if b=true then 0 else e
@[simp] theorem Zdv (e:Int):Zak true e=0:=rfl
@[simp] theorem Zh6 (e:Int):Zak false e=e:=rfl
theorem Zqh(b:Bool)(e:Int):ZaK Try.prog 86 [.bool b, .int .i64 e] (.int .i64 (Zak b e)) none:=
 start (ZzN b e) fun C hC=>by
  cases b with
  |true=>exact fin hC ZbH (ZH6 std true e) (by simp) rfl rfl
  |false=>exact fin hC ZbH (ZHx std false e) (by simp) rfl rfl
def ZeP(x:Int):Bool:=decide (0≤x∧x≤255)
def ZaF(xs:List Int):Int:=if xs.all ZeP=true then 0 else 2
theorem ZhT{x:Int}{xs:List Int}(h:0≤x∧x≤255):ZaF (x::xs)=ZaF xs:=by simp[ZaF,ZeP,h]
theorem ZeK{x:Int}{xs:List Int}(h:¬(0≤x∧x≤255)):ZaF (x::xs)=2:=by simp[ZaF,ZeP,h]
theorem l69{C:Ctx}(hC:C.P=Try.prog)(xs:List Int)(hlen:xs.length≤1000000):∀(d i:Nat),xs.length-i=d→i≤xs.length→
 Ev C (Zdm xs i) (Zcz xs i) (ZeX 69 (.int .i64 (ZaF (xs.drop i))) none):=by
 intro d
 induction d with
 |zero=>
  intro i hd hi
  exact fin hC ZbH (ZKX std xs i) (by simp;omega) (by rw[List.drop_of_length_le (by omega)];rfl) rfl
 |succ d ih=>
  intro i hd hi
  have hlt:i<xs.length:=by omega
  rw[List.drop_eq_getElem_cons hlt]
  by_cases h1:0≤xs[i]
  ·by_cases h2:xs[i]≤255
   ·rw[ZhT ⟨h1,h2⟩]
    exact go hC ZbH (ZJb std xs i) (by simp[hlt,h1,h2];omega) (ih (i+1) (by omega) (by omega))
   ·rw[ZeK (fun h=>h2 h.2)]
    exact fin hC ZbH (ZH4 std xs i) (by simp[hlt,h1];omega) rfl rfl
  ·rw[ZeK (fun h=>h1 h.1)]
   exact fin hC ZbH (ZHE std xs i) (by simp[hlt];omega) rfl rfl
theorem ZoU(xs:List Int)(hlen:xs.length≤1000000):ZaK Try.prog 69 [.list (.ints .i64 xs)] (.int .i64 (ZaF xs)) none:=
 start (ZxB xs) fun C hC=>go hC ZbH (ZKF std xs) (by simp) (l69 hC xs hlen xs.length 0 (by omega) (by omega))
theorem ZM8{C:Ctx}(hC:C.P=Try.prog)(xs:List Int)(hlen:xs.length≤1000000):∀(d i:Nat),xs.length-i=d→i≤xs.length→
 Ev C (ZbP xs xs.length i) (ZbE xs xs.length i) (ZeX 127 (.int .i64 (ZaF (xs.drop i))) none):=by
 intro d
 induction d with
 |zero=>
  intro i hd hi
  exact fin hC ZbH (ZGT std xs xs.length i) (by simp;omega) (by rw[List.drop_of_length_le (by omega)];rfl) rfl
 |succ d ih=>
  intro i hd hi
  have hlt:i<xs.length:=by omega
  rw[List.drop_eq_getElem_cons hlt]
  by_cases h1:0≤xs[i]
  ·by_cases h2:xs[i]≤255
   ·rw[ZhT ⟨h1,h2⟩]
    exact go hC ZbH (ZDE std xs xs.length i) (by simp[hlt,h1,h2];omega) (ih (i+1) (by omega) (by omega))
   ·rw[ZeK (fun h=>h2 h.2)]
    exact fin hC ZbH (ZBo std xs xs.length i) (by simp[hlt,h1];omega) rfl rfl
  ·rw[ZeK (fun h=>h1 h.1)]
   exact fin hC ZbH (ZEx std xs xs.length i) (by simp[hlt];omega) rfl rfl
theorem Zop(xs:List Int)(hlen:xs.length≤1000000):ZaK Try.prog 127 [.list (.ints .i64 xs), .fn 128 []] (.int .i64 (ZaF xs)) none:=
 start (ZtT xs) fun C hC=>go hC ZbH (ZEh std xs) (by simp) (ZM8 hC xs hlen xs.length 0 (by omega) (by omega))
theorem Zrv(ad:Option Addr)(cap:Nat):ZaK Try.prog 102 [.val (.slice ad 0 cap)] (.list (.ints .i64 [])) Znf:=by
 cases ad with
 |none=>exact ZxX (start (ZrD cap) fun C hC=>fin hC ZbH (ZwM std cap) (by simp) rfl rfl) rfl
 |some ad=>
  have:=start (Zqd ad cap) fun C hC=>fin hC ZbH (Zx8 std ad cap) (by simp) rfl rfl
  exact Zkq (Zj8 this rfl rfl) rfl
theorem Zps(xs:List Int)(h:0<xs.length∧xs.length≤4294967296):ZaK Try.prog 102 [.list (.ints .i64 xs)] (.row 0 0) (some ⟨3,1, .ints .i64 xs⟩):=
 start (ZsV xs) fun C hC=>fin hC ZbH (ZFf std xs) (by simp;omega) rfl rfl
theorem Znr(xs:List Int)(h:xs.length≤4294967296):ZaK Try.prog 102 [.list (.ints .i64 xs)] (.list (.ints .i64 xs)) Znf:=by
 by_cases h0:0<xs.length
 ·exact Zj8 (Zps xs ⟨h0,h⟩) rfl rfl
 ·have:xs=[]:=List.eq_nil_of_length_eq_zero (by omega)
  subst this
  exact ZoK rfl (fun ad cap=>Zrv ad cap)
def ZqA(n m:Int):Int:=if n.tmod m<0 then n.tmod m+m else n.tmod m
def k27:Ctr:=⟨27,0,fun _ a=>match a with |[.int .i64 n, .int .i64 a, .int .i64 b]=>some (true, .bool (decide (a≤n∧n≤b)),none) |_=>none⟩
theorem ZGG:k27.OK Try.prog:=fun pa args r fr h=>by
 simp only[k27]at h
 split at h
 ·cases h
  exact Zmz _ _ _
 ·cases h
def k87:Ctr:=⟨87,0,fun _ a=>match a with |[.int .i64 n, .int .i64 a, .int .i64 b]=>some (true, .bool (decide (a≤n∧n≤b)),none) |_=>none⟩
theorem ZGR:k87.OK Try.prog:=fun pa args r fr h=>by
 simp only[k87]at h
 split at h
 ·cases h
  exact ZmG _ _ _
 ·cases h
def k86:Ctr:=⟨86,0,fun _ a=>match a with |[.bool b, .int .i64 e]=>some (true, .int .i64 (Zak b e),none) |_=>none⟩
theorem ZFF:k86.OK Try.prog:=fun pa args r fr h=>by
 simp only[k86]at h
 split at h
 ·cases h
  exact Zqh _ _
 ·cases h
def k84:Ctr:=⟨84,0,fun _ a=>match a with |[.list (.ints .i64 xs)]=>some (decide (xs.length≤1000000), .int .i64 (Zaq xs),none) |_=>none⟩
theorem ZFC:k84.OK Try.prog:=fun pa args r fr h=>by
 simp only[k84]at h
 split at h
 ·simp only[Option.some.injEq,Prod.mk.injEq,decide_eq_true_eq]at h
  obtain⟨h0,rfl,rfl⟩:=h
  exact ZtR _ h0
 ·cases h
def k55:Ctr:=⟨55,0,fun _ a=>match a with |[.list (.ints .i64 xs)]=>some (decide (xs.length≤4294967296), .list (.ints .i64 xs),Znf) |_=>none⟩
theorem ZBA:k55.OK Try.prog:=fun pa args r fr h=>by
 simp only[k55]at h
 split at h
 ·simp only[Option.some.injEq,Prod.mk.injEq,decide_eq_true_eq]at h
  obtain⟨h0,rfl,rfl⟩:=h
  exact Zty _ h0
 ·cases h
def k67:Ctr:=⟨67,0,fun _ a=>match a with |[.list (.ints .i64 xs), .list (.ints .i64 ys)]=>some (decide (xs.length≤1000000), .bool (decide (xs=ys)),none) |_=>none⟩
theorem ZFR:k67.OK Try.prog:=fun pa args r fr h=>by
 simp only[k67]at h
 split at h
 ·simp only[Option.some.injEq,Prod.mk.injEq,decide_eq_true_eq]at h
  obtain⟨h0,rfl,rfl⟩:=h
  exact Zy9 _ _ h0
 ·cases h
def k69:Ctr:=⟨69,0,fun _ a=>match a with |[.list (.ints .i64 xs)]=>some (decide (xs.length≤1000000), .int .i64 (ZaF xs),none) |_=>none⟩
theorem ZBm:k69.OK Try.prog:=fun pa args r fr h=>by
 simp only[k69]at h
 split at h
 ·simp only[Option.some.injEq,Prod.mk.injEq,decide_eq_true_eq]at h
  obtain⟨h0,rfl,rfl⟩:=h
  exact ZoU _ h0
 ·cases h
def k127:Ctr:=⟨127,0,fun _ a=>match a with |[.list (.ints .i64 xs), .fn 128 []]=>some (decide (xs.length≤1000000), .int .i64 (ZaF xs),none) |_=>none⟩
theorem ZzH:k127.OK Try.prog:=fun pa args r fr h=>by
 simp only[k127]at h
 split at h
 ·simp only[Option.some.injEq,Prod.mk.injEq,decide_eq_true_eq]at h
  obtain⟨h0,rfl,rfl⟩:=h
  exact Zop _ h0
 ·cases h
def k102:Ctr:=⟨102,0,fun _ a=>match a with |[.list (.ints .i64 xs)]=>some (decide (xs.length≤4294967296), .list (.ints .i64 xs),Znf) |_=>none⟩
theorem Zyv:k102.OK Try.prog:=fun pa args r fr h=>by
 simp only[k102]at h
 split at h
 ·simp only[Option.some.injEq,Prod.mk.injEq,decide_eq_true_eq]at h
  obtain⟨h0,rfl,rfl⟩:=h
  exact Znr _ h0
 ·cases h
def B1:List Ctr:=[k27,k87,k86,k84,k55,k67,k69,k127,k102]
theorem Zda:Zap Try.prog B1:=⟨ZGG,⟨ZGR,⟨ZFF,⟨ZFC,⟨ZBA,⟨ZFR,⟨ZBm,⟨ZzH,⟨Zyv,trivial⟩⟩⟩⟩⟩⟩⟩⟩⟩
end Go.Proofs.Ytjhdnpmojhkbjaa
