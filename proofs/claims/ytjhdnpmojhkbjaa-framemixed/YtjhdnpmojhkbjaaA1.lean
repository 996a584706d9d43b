/- Every code of the table stands for the program's. Printed by gentab.py. -/
import Derived.Test.YtjhdnpmojhkbjaaTa
import Derived.Test.YtjhdnpmojhkbjaaChecked
import Derived.KernelRfl
namespace Go.Proofs.Ytjhdnpmojhkbjaa
set_option maxRecDepth 100000
theorem m10:Zao Try.prog 10 a10=true:=by kernel_rfl
theorem m14:Zao Try.prog 14 a14=true:=by kernel_rfl
theorem m16:Zao Try.prog 16 a16=true:=by kernel_rfl
theorem m17:Zao Try.prog 17 a17=true:=by kernel_rfl
theorem m18:Zao Try.prog 18 a18=true:=by kernel_rfl
theorem m19:Zao Try.prog 19 a19=true:=by kernel_rfl
theorem m20:Zao Try.prog 20 a20=true:=by kernel_rfl
theorem m21:Zao Try.prog 21 a21=true:=by kernel_rfl
theorem m23:Zao Try.prog 23 a23=true:=by kernel_rfl
theorem m27:Zao Try.prog 27 a27=true:=by kernel_rfl
theorem m29:Zao Try.prog 29 a29=true:=by kernel_rfl
theorem m30:Zao Try.prog 30 a30=true:=by kernel_rfl
theorem m31:Zao Try.prog 31 a31=true:=by kernel_rfl
theorem m32:Zao Try.prog 32 a32=true:=by kernel_rfl
theorem m34:Zao Try.prog 34 a34=true:=by kernel_rfl
theorem m35:Zao Try.prog 35 a35=true:=by kernel_rfl
theorem m36:Zao Try.prog 36 a36=true:=by kernel_rfl
theorem m37:Zao Try.prog 37 a37=true:=by kernel_rfl
theorem m38:Zao Try.prog 38 a38=true:=by kernel_rfl
theorem m40:Zao Try.prog 40 a40=true:=by kernel_rfl
theorem m41:Zao Try.prog 41 a41=true:=by kernel_rfl
theorem m42:Zao Try.prog 42 a42=true:=by kernel_rfl
theorem m53:Zao Try.prog 53 a53=true:=by kernel_rfl
theorem m55:Zao Try.prog 55 a55=true:=by kernel_rfl
theorem m57:Zao Try.prog 57 a57=true:=by kernel_rfl
theorem m58:Zao Try.prog 58 a58=true:=by kernel_rfl
theorem m59:Zao Try.prog 59 a59=true:=by kernel_rfl
theorem m60:Zao Try.prog 60 a60=true:=by kernel_rfl
theorem m63:Zao Try.prog 63 a63=true:=by kernel_rfl
theorem m64:Zao Try.prog 64 a64=true:=by kernel_rfl
theorem m67:Zao Try.prog 67 a67=true:=by kernel_rfl
theorem m69:Zao Try.prog 69 a69=true:=by kernel_rfl
theorem m75:Zao Try.prog 75 a75=true:=by kernel_rfl
theorem m76:Zao Try.prog 76 a76=true:=by kernel_rfl
theorem m77:Zao Try.prog 77 a77=true:=by kernel_rfl
theorem m78:Zao Try.prog 78 a78=true:=by kernel_rfl
theorem m79:Zao Try.prog 79 a79=true:=by kernel_rfl
theorem m80:Zao Try.prog 80 a80=true:=by kernel_rfl
theorem m81:Zao Try.prog 81 a81=true:=by kernel_rfl
theorem m84:Zao Try.prog 84 a84=true:=by kernel_rfl
theorem m85:Zao Try.prog 85 a85=true:=by kernel_rfl
theorem m86:Zao Try.prog 86 a86=true:=by kernel_rfl
theorem m87:Zao Try.prog 87 a87=true:=by kernel_rfl
theorem m88:Zao Try.prog 88 a88=true:=by kernel_rfl
theorem m89:Zao Try.prog 89 a89=true:=by kernel_rfl
theorem m90:Zao Try.prog 90 a90=true:=by kernel_rfl
theorem m91:Zao Try.prog 91 a91=true:=by kernel_rfl
theorem m93:Zao Try.prog 93 a93=true:=by kernel_rfl
theorem m94:Zao Try.prog 94 a94=true:=by kernel_rfl
theorem m95:Zao Try.prog 95 a95=true:=by kernel_rfl
theorem m96:Zao Try.prog 96 a96=true:=by kernel_rfl
theorem m97:Zao Try.prog 97 a97=true:=by kernel_rfl
theorem m98:Zao Try.prog 98 a98=true:=by kernel_rfl
theorem m99:Zao Try.prog 99 a99=true:=by kernel_rfl
theorem ZOo:Zao Try.prog 100 a100=true:=by kernel_rfl
theorem ZPf:Zao Try.prog 101 ZN8=true:=by kernel_rfl
theorem ZPU:Zao Try.prog 102 a102=true:=by kernel_rfl
theorem ZOm:Zao Try.prog 103 a103=true:=by kernel_rfl
theorem ZP2:Zao Try.prog 104 a104=true:=by kernel_rfl
theorem ZPc:Zao Try.prog 105 ZOh=true:=by kernel_rfl
theorem ZON:Zao Try.prog 106 ZNT=true:=by kernel_rfl
theorem ZPp:Zao Try.prog 107 ZN9=true:=by kernel_rfl
theorem ZPw:Zao Try.prog 109 ZN2=true:=by kernel_rfl
theorem ZO5:Zao Try.prog 110 a110=true:=by kernel_rfl
theorem ZPa:Zao Try.prog 112 a112=true:=by kernel_rfl
theorem ZP1:Zao Try.prog 113 a113=true:=by kernel_rfl
theorem ZOU:Zao Try.prog 114 ZN1=true:=by kernel_rfl
theorem ZOL:Zao Try.prog 117 a117=true:=by kernel_rfl
theorem ZPq:Zao Try.prog 118 a118=true:=by kernel_rfl
theorem ZOV:Zao Try.prog 119 a119=true:=by kernel_rfl
theorem ZQd:Zao Try.prog 120 a120=true:=by kernel_rfl
theorem ZPG:Zao Try.prog 121 a121=true:=by kernel_rfl
theorem ZO7:Zao Try.prog 122 a122=true:=by kernel_rfl
theorem ZOC:Zao Try.prog 123 a123=true:=by kernel_rfl
theorem ZOD:Zao Try.prog 124 ZOa=true:=by kernel_rfl
theorem ZQg:Zao Try.prog 125 ZNR=true:=by kernel_rfl
theorem ZP7:Zao Try.prog 126 ZN4=true:=by kernel_rfl
theorem ZPC:Zao Try.prog 127 a127=true:=by kernel_rfl
theorem ZPr:Zao Try.prog 128 ZOe=true:=by kernel_rfl
theorem ZOn:Zao Try.prog 129 a129=true:=by kernel_rfl
theorem ZOt:Zao Try.prog 130 a130=true:=by kernel_rfl
theorem ZPs:Zao Try.prog 131 a131=true:=by kernel_rfl
theorem ZOv:Zao Try.prog 132 ZOf=true:=by kernel_rfl
theorem ZOI:Zao Try.prog 133 ZOl=true:=by kernel_rfl
theorem ZO4:Zao Try.prog 134 ZNH=true:=by kernel_rfl
theorem ZPM:Zao Try.prog 135 ZNI=true:=by kernel_rfl
theorem ZQj:Zao Try.prog 136 ZOc=true:=by kernel_rfl
theorem ZPR:Zao Try.prog 137 a137=true:=by kernel_rfl
theorem ZPZ:Zao Try.prog 138 ZNJ=true:=by kernel_rfl
theorem ZPx:Zao Try.prog 139 a139=true:=by kernel_rfl
theorem ZPD:Zao Try.prog 140 a140=true:=by kernel_rfl
theorem ZPg:Zao Try.prog 141 a141=true:=by kernel_rfl
theorem ZOr:Zao Try.prog 142 a142=true:=by kernel_rfl
theorem ZjO:Zch Try.prog tab:=FTree.ok (t:=tree) ⟨⟨⟨⟨⟨⟨⟨trivial,m10,trivial⟩,m14,trivial⟩,m16,⟨⟨trivial,m17,trivial⟩,m18,trivial⟩⟩,m19,⟨⟨⟨trivial,m20,trivial⟩,m21,trivial⟩,m23,⟨⟨trivial,m27,trivial⟩,m29,trivial⟩⟩⟩,m30,⟨⟨⟨⟨trivial,m31,trivial⟩,m32,trivial⟩,m34,⟨⟨trivial,m35,trivial⟩,m36,trivial⟩⟩,m37,⟨⟨⟨trivial,m38,trivial⟩,m40,trivial⟩,m41,⟨⟨trivial,m42,trivial⟩,m53,trivial⟩⟩⟩⟩,m55,⟨⟨⟨⟨⟨trivial,m57,trivial⟩,m58,trivial⟩,m59,⟨⟨trivial,m60,trivial⟩,m63,trivial⟩⟩,m64,⟨⟨⟨trivial,m67,trivial⟩,m69,trivial⟩,m75,⟨⟨trivial,m76,trivial⟩,m77,trivial⟩⟩⟩,m78,⟨⟨⟨⟨trivial,m79,trivial⟩,m80,trivial⟩,m81,⟨⟨trivial,m84,trivial⟩,m85,trivial⟩⟩,m86,⟨⟨⟨trivial,m87,trivial⟩,m88,trivial⟩,m89,⟨trivial,m90,trivial⟩⟩⟩⟩⟩,m91,⟨⟨⟨⟨⟨⟨trivial,m93,trivial⟩,m94,trivial⟩,m95,⟨⟨trivial,m96,trivial⟩,m97,trivial⟩⟩,m98,⟨⟨⟨trivial,m99,trivial⟩,ZOo,trivial⟩,ZPf,⟨⟨trivial,ZPU,trivial⟩,ZOm,trivial⟩⟩⟩,ZP2,⟨⟨⟨⟨trivial,ZPc,trivial⟩,ZON,trivial⟩,ZPp,⟨⟨trivial,ZPw,trivial⟩,ZO5,trivial⟩⟩,ZPa,⟨⟨⟨trivial,ZP1,trivial⟩,ZOU,trivial⟩,ZOL,⟨⟨trivial,ZPq,trivial⟩,ZOV,trivial⟩⟩⟩⟩,ZQd,⟨⟨⟨⟨⟨trivial,ZPG,trivial⟩,ZO7,trivial⟩,ZOC,⟨⟨trivial,ZOD,trivial⟩,ZQg,trivial⟩⟩,ZP7,⟨⟨⟨trivial,ZPC,trivial⟩,ZPr,trivial⟩,ZOn,⟨⟨trivial,ZOt,trivial⟩,ZPs,trivial⟩⟩⟩,ZOv,⟨⟨⟨⟨trivial,ZOI,trivial⟩,ZO4,trivial⟩,ZPM,⟨⟨trivial,ZQj,trivial⟩,ZPR,trivial⟩⟩,ZPZ,⟨⟨⟨trivial,ZPx,trivial⟩,ZPD,trivial⟩,ZPg,⟨trivial,ZOr,trivial⟩⟩⟩⟩⟩⟩
theorem follows:Try.prog.follows .mixedOrders=true:=by kernel_rfl
end Go.Proofs.Ytjhdnpmojhkbjaa
/- How contracts are closed for the program. No condition. -/
namespace Go.Proofs.Ytjhdnpmojhkbjaa
def E0:List Ctr:=[]
theorem ZbE:Zap Try.prog E0:=trivial
section
variable {C:Ctx}{K:List Ctr}{n:Nat}{pa acc:List Bool}{fs gs:List AFrame}{h h':Zaa}{Q:List AFrame→Zaa→Prop}
theorem go(hC:C.P=Try.prog)(hK:Zap Try.prog K)(hw:Zad std tab K n pa fs h=some (acc,gs,h'))(hb:AllT acc)(hq:Ev C gs h' Q):Ev C fs h Q:=ZMw (by rw[hC];exact follows) (by rw[hC];exact ZjO) (by rw[hC];exact hK) hw hb hq
theorem fin(hC:C.P=Try.prog)(hK:Zap Try.prog K){fn:FuncId}{r r':AV}{fr fr':Option Fresh}(hw:Zaz std tab K n pa fn fs h=some (acc,r',fr'))(hb:AllT acc)(hr:r'=r)(hfr:fr'=fr):Ev C fs h (ZdV fn r fr):=ZHW (by rw[hC];exact follows) (by rw[hC];exact ZjO) (by rw[hC];exact hK) hw hb hr hfr
theorem start{fn:FuncId}{args:List AV}{af:AFrame}{r:AV}{fr:Option Fresh}(he:Zak tab fn args=some af)(hq:∀C:Ctx,C.P=Try.prog→Ev C [af] [] (ZdV fn r fr)):ZaH Try.prog fn args r fr:=Zjj ZjO he fun _ _ _=>hq _ rfl
theorem Zd7(hC:C.P=Try.prog)(hK:Zap Try.prog K){fn:FuncId}{r r':AV}{e sz e' sz':Nat}{y y':Row}(hw:ZaY std tab K n pa fn fs h=some (acc,r',e',sz',y'))(hb:AllT acc)(hr:r'=r)(he:e'=e)(hs:sz'=sz)(hy:y'=y):Ev C fs h (Zh1 fn e sz y r):=Zzf (by rw[hC];exact follows) (by rw[hC];exact ZjO) (by rw[hC];exact hK) hw hb hr he hs hy
theorem Zhm{f:FuncId}{e:TypeId}{sz:Nat}{x y:Row}{args:List AV}{af:AFrame}{r:AV}(he:Zak tab f (.row 0 0::args)=some af)(hq:∀C:Ctx,C.P=Try.prog→Ev C [af] (Zaj (some ⟨e,sz,x⟩)) (Zh1 f e sz y r)):Zmo Try.prog f e sz x y args r:=ZsR ZjO he hq
end
theorem Zky{f:FuncId}{args:List AV}{e sz:Nat}{r:Row}(h:ZaH Try.prog f args (.row 0 0) (some ⟨e,sz+1,r⟩))(hp:r.pure=true)(hs:r.solid=true):ZaH Try.prog f args (.list r) Zn2:=
 ZnM h rfl (.one (.row _ rfl hp hs))
theorem ZBB{f:FuncId}{args:List AV}{r:Row}(h:ZaH Try.prog f args .nils none)(hr:r.elems=[]):ZaH Try.prog f args (.list r) Zn2:=
 ZnM h rfl (.one (.nil r hr))
theorem Rel.same{w:World}{ok:Nat→Prop}{h:Zaa}{L:Lay}{r r':Row}{v:Value}(he:r.elems=r'.elems)(hr:Rel w ok h L (.list r) v):Rel w ok h L (.list r') v:=by
 cases hr with
 |nil _ a c h0=>exact .nil _ a c (he▸h0)
 |list _ xs hx ad n cap sz cs hb hok hn hcap hsz hl h1 hc hp hrr=>exact .list r' xs (hx.trans he) ad n cap sz cs hb hok hn hcap hsz hl h1 hc hp hrr
theorem Zix{f:FuncId}{args:List AV}{r r':Row}{fr:Option Fresh}(h:ZaH Try.prog f args (.list r) fr)(he:r.elems=r'.elems):ZaH Try.prog f args (.list r') fr:=by
 intro w okA L vs hargs hok
 refine(h w okA L vs hargs hok).mono ?_
 rintro e w' ⟨x,L',rfl,hb,hp⟩
 refine⟨x,L',rfl,hb,?_⟩
 unfold Zk3 at hp⊢
 split
 ·rename_i hn;rw[hn]at hp;exact Rel.same he hp
 ·rename_i hn;rw[hn]at hp;exact⟨hp.1,Rel.same he hp.2⟩
theorem ZhF{f:FuncId}{xs ys:List AV}{r r':Row}{x:AV}{fr:Option Fresh}(h:ZaH Try.prog f (xs++ .list r::ys) x fr)(he:r'.elems=r.elems):ZaH Try.prog f (xs++ .list r'::ys) x fr:=by
 intro w okA L vs hargs hok
 refine h w okA L vs ⟨by have:=hargs.1;simpa using this,fun j u v hu hv=>?_⟩ hok
 rcases Nat.lt_trichotomy j xs.length with hj |hj |hj
 ·rw[List.getElem?_append_left hj]at hu
  exact hargs.2 j u v (by rw[List.getElem?_append_left hj];exact hu) hv
 ·subst hj
  rw[List.getElem?_append_right (Nat.le_refl _)]at hu
  simp only[Nat.sub_self,List.getElem?_cons_zero,Option.some.injEq]at hu
  subst hu
  exact Rel.same he (hargs.2 _ _ v (by rw[List.getElem?_append_right (Nat.le_refl _)];simp) hv)
 ·rw[List.getElem?_append_right (by omega),show j-xs.length=(j-xs.length-1)+1 by omega,List.getElem?_cons_succ]at hu
  exact hargs.2 j u v (by rw[List.getElem?_append_right (by omega),show j-xs.length=(j-xs.length-1)+1 by omega,List.getElem?_cons_succ];exact hu) hv
theorem Zo8{f:FuncId}{r:Row}{x:AV}{fr:Option Fresh}(he:r.elems=[])(h:∀ad cap,ZaH Try.prog f [.val (.slice ad 0 cap)] x fr):ZaH Try.prog f [.list r] x fr:=by
 intro w okA L vs hargs hok
 obtain⟨h1,h2⟩:=hargs
 obtain⟨l⟩:=vs
 match l,h1 with
 |[v0],_=>
  have r0:=h2 0 _ _ rfl rfl
  obtain⟨ad,cap,rfl⟩:∃ad cap,v0=.slice ad 0 cap:=by
   cases r0 with
   |nil _ a c _=>exact⟨a,c,rfl⟩
   |list _ xs hx ad n cap sz cs hbb hok hn=>rw[he]at hx;subst hx;exact⟨some ad,cap,by rw[hn];rfl⟩
  exact h ad cap w okA L _ (RelL.cons (.val _) RelL.nil) hok
inductive Wk1:AV→AV→Prop
 |nil (r:Row) (h:r.elems=[]):Wk1 .nils (.list r)
 |same (v:AV):Wk1 v v
def WkL:List AV→List AV→Prop
 |[],[]=>True
 |x::xs,y::ys=>Wk1 x y∧WkL xs ys
 |_,_=>False
theorem WkL.spec:∀ {xs ys:List AV},WkL xs ys→xs.length=ys.length∧∀(j:Nat) (y:AV),ys[j]? =some y→∃x,xs[j]? =some x∧Wk1 x y
 |[],[],_=>⟨rfl,fun j y h=>by simp at h⟩
 |x::xs,y::ys,h=>by
  obtain⟨h1,h2⟩:=h
  obtain⟨e1,e2⟩:=WkL.spec h2
  refine⟨by simp[e1],fun j z hz=>?_⟩
  cases j with
  |zero=>simp at hz;subst hz;exact⟨x,rfl,h1⟩
  |succ j=>obtain⟨q,q1,q2⟩:=e2 j z (by simpa using hz);exact⟨q,by simpa using q1,q2⟩
theorem Wk1.rel{w:World}{ok:Nat→Prop}{h:Zaa}{L:Lay}{v v':AV}{x:Value}(hw:Wk1 v v')(hr:Rel w ok h L v x):Rel w ok h L v' x:=by
 cases hw with
 |nil r h=>cases hr with |nils=>exact .nil r none 0 h
 |same=>exact hr
theorem ZlH{f:FuncId}{args xs ys:List AV}{fr:Option Fresh}(h:ZaH Try.prog f args (.tup xs) fr)(hw:WkL xs ys):ZaH Try.prog f args (.tup ys) fr:=by
 intro w okA L vs hargs hok
 refine(h w okA L vs hargs hok).mono ?_
 rintro e w' ⟨x,L',rfl,hb,hp⟩
 obtain⟨e1,e2⟩:=hw.spec
 have key:∀ {ok:Nat→Prop} {hh:Zaa},Rel w' ok hh L' (.tup xs) x→Rel w' ok hh L' (.tup ys) x:=fun hr=>by
  cases hr with
  |tup _ vs hl hrr=>
   refine .tup _ vs (by rw[←e1];exact hl) (fun j u v hu hv=>?_)
   obtain⟨q,q1,q2⟩:=e2 j u hu
   exact q2.rel (hrr j q v q1 hv)
 refine⟨x,L',rfl,hb,?_⟩
 unfold Zk3 at hp⊢
 split
 ·rename_i hn;rw[hn]at hp;exact key hp
 ·rename_i hn;rw[hn]at hp;exact⟨hp.1,key hp.2⟩
end Go.Proofs.Ytjhdnpmojhkbjaa
/- Paths of functions, printed by the explorer (Gx). No condition. -/
namespace Go.Proofs.Ytjhdnpmojhkbjaa
set_option maxRecDepth 100000
set_option linter.unusedVariables false
def ZG4(n:Int)(a:Int)(b:Int):AFrame:={ fn:=27,N:=15,env:=[(0,AV.int .i64 n),(1,AV.int .i64 a),(2,AV.int .i64 b)],todo:=[.code a27.code],defs:=[],rnd:=none,ret:=false,res:=[ARes.tmp 6] }
def ZNP(n:Int)(a:Int)(b:Int):List AFrame:=[(ZG4 n a b)]
theorem Zx4(n:Int)(a:Int)(b:Int):Zak tab 27 [AV.int .i64 n,AV.int .i64 a,AV.int .i64 b]=some (ZG4 n a b):=rfl
theorem ZMB(A:Ar)(n a b:Int):Zaz A tab E0 18 [true,true,true,true] 27 (ZNP n a b) []=
 some (tr [9,5] [A.le a n],
  AV.bool (A.le n b),none):=by kernel_rfl
theorem ZLr(A:Ar)(n a b:Int):Zaz A tab E0 18 [false,false,false,false] 27 (ZNP n a b) []=
 some (tr [9,5] [!A.le a n],
  AV.bool false,none):=by kernel_rfl
def ZCY(n:Int)(a:Int)(b:Int):AFrame:={ fn:=87,N:=15,env:=[(0,AV.int .i64 n),(1,AV.int .i64 a),(2,AV.int .i64 b)],todo:=[.code a87.code],defs:=[],rnd:=none,ret:=false,res:=[ARes.tmp 6] }
def ZOk(n:Int)(a:Int)(b:Int):List AFrame:=[(ZCY n a b)]
theorem ZyK(n:Int)(a:Int)(b:Int):Zak tab 87 [AV.int .i64 n,AV.int .i64 a,AV.int .i64 b]=some (ZCY n a b):=rfl
theorem ZMt(A:Ar)(n a b:Int):Zaz A tab E0 18 [true,true,true,true] 87 (ZOk n a b) []=
 some (tr [9,5] [A.le a n],
  AV.bool (A.le n b),none):=by kernel_rfl
theorem ZM4(A:Ar)(n a b:Int):Zaz A tab E0 18 [false,false,false,false] 87 (ZOk n a b) []=
 some (tr [9,5] [!A.le a n],
  AV.bool false,none):=by kernel_rfl
def ZGM(b:Bool)(e:Int):AFrame:={ fn:=86,N:=7,env:=[(0,AV.bool b),(1,AV.int .i64 e)],todo:=[.code a86.code],defs:=[],rnd:=none,ret:=false,res:=[ARes.tmp 4] }
def ZNW(b:Bool)(e:Int):List AFrame:=[(ZGM b e)]
theorem ZyB(b:Bool)(e:Int):Zak tab 86 [AV.bool b,AV.int .i64 e]=some (ZGM b e):=rfl
theorem ZLN(A:Ar)(b:Bool)(e:Int):Zaz A tab E0 15 [true] 86 (ZNW b e) []=
 some (tr [2,2] [b],
  AV.int .i64 0,none):=by kernel_rfl
theorem ZKa(A:Ar)(b:Bool)(e:Int):Zaz A tab E0 17 [false] 86 (ZNW b e) []=
 some (tr [3,2] [!b],
  AV.int .i64 e,none):=by kernel_rfl
def ZEk(xs:List Int):AFrame:={ fn:=84,N:=15,env:=[(0,AV.list (.ints .i64 xs))],todo:=[.code a84.code],defs:=[],rnd:=none,ret:=false,res:=[ARes.tmp 2] }
def ZPO(xs:List Int):List AFrame:=[(ZEk xs)]
theorem Zx1(xs:List Int):Zak tab 84 [AV.list (.ints .i64 xs)]=some (ZEk xs):=rfl
def Zef(xs:List Int)(n0 n1:Int):List AFrame:=[{ fn:=84,N:=15,env:=[(5,AV.list (.ints .i64 xs)),(6,AV.int .i64 n0),(7,AV.int .i64 n1)],todo:=.code (ACode.gh [] ZGR)::ZLE,defs:=[],rnd:=none,ret:=false,res:=[ARes.tmp 2] }]
def ZdG(xs:List Int)(n0:Int)(n1:Int):Zaa:=[]
abbrev ZjF(xs:List Int)(n0:Int)(n1:Int):List AFrame×Zaa:=(Zef xs n0 n1,ZdG xs n0 n1)
theorem ZL1(A:Ar)(xs:List Int):Zad A tab E0 14 [] (ZPO xs) []=
 some (tr [4] [],
  ZjF (xs) (A.int (A.len xs)) (0)):=by kernel_rfl
theorem ZMI(A:Ar)(xs:List Int)(n0 n1:Int):Zaz A tab E0 28 [true,true] 84 (Zef xs n0 n1) (ZdG xs n0 n1)=
 some (tr [3,4,0,1] [A.not (A.eq (A.nth xs (A.nat n1)) 0),Zab (Zab (A.le 0 n1) (Nat.blt (A.nat n1) (A.len xs))) true,A.lt n1 n0],
  AV.int .i64 (A.nth xs (A.nat n1)),none):=by kernel_rfl
theorem ZLz(A:Ar)(xs:List Int)(n0 n1:Int):Zad A tab E0 30 [true,false] (Zef xs n0 n1) (ZdG xs n0 n1)=
 some (tr [1,0,4,0,1] [A.inR .i64 (A.add n1 1),!A.not (A.eq (A.nth xs (A.nat n1)) 0),Zab (Zab (A.le 0 n1) (Nat.blt (A.nat n1) (A.len xs))) true,A.lt n1 n0],
  ZjF (xs) (n0) (A.add n1 1)):=by kernel_rfl
theorem ZL2(A:Ar)(xs:List Int)(n0 n1:Int):Zaz A tab E0 13 [false] 84 (Zef xs n0 n1) (ZdG xs n0 n1)=
 some (tr [2,1] [!A.lt n1 n0],
  AV.int .i64 0,none):=by kernel_rfl
def ZCF(xs:List Int):AFrame:={ fn:=55,N:=6,env:=[(0,AV.list (.ints .i64 xs))],todo:=[.code a55.code],defs:=[],rnd:=none,ret:=false,res:=[ARes.tmp 2] }
def ZP4(xs:List Int):List AFrame:=[(ZCF xs)]
theorem ZAD(xs:List Int):Zak tab 55 [AV.list (.ints .i64 xs)]=some (ZCF xs):=rfl
theorem ZMY(A:Ar)(xs:List Int):Zaz A tab E0 12 [] 55 (ZP4 xs) []=
 some (tr [2,1,1] [Nat.ble (0+A.len xs) 4294967296,List.all [] fun x=>AV.bx x&&Nat.beq (Zac A x) 1],
  AV.row 0 0,some { e:=3,sz:=1,r:=.ints .i64 xs }):=by kernel_rfl
def ZGK(xs:List Int)(ys:List Int):AFrame:={ fn:=67,N:=26,env:=[(0,AV.list (.ints .i64 xs)),(1,AV.list (.ints .i64 ys))],todo:=[.code a67.code],defs:=[],rnd:=none,ret:=false,res:=[ARes.tmp 4] }
def ZNQ(xs:List Int)(ys:List Int):List AFrame:=[(ZGK xs ys)]
theorem ZAt(xs:List Int)(ys:List Int):Zak tab 67 [AV.list (.ints .i64 xs),AV.list (.ints .i64 ys)]=some (ZGK xs ys):=rfl
def Zet(xs ys:List Int)(n0:Int):List AFrame:=[{ fn:=67,N:=26,env:=[(0,AV.list (.ints .i64 xs)),(1,AV.list (.ints .i64 ys)),(5,AV.int .i64 n0)],todo:=.code (ACode.gh [] ZHn)::ZJU,defs:=[],rnd:=none,ret:=false,res:=[ARes.tmp 4] }]
def ZdO(xs:List Int)(ys:List Int)(n0:Int):Zaa:=[]
abbrev Zjy(xs:List Int)(ys:List Int)(n0:Int):List AFrame×Zaa:=(Zet xs ys n0,ZdO xs ys n0)
theorem ZKs(A:Ar)(xs ys:List Int):Zaz A tab E0 19 [true] 67 (ZNQ xs ys) []=
 some (tr [2,6] [A.not (A.eq (A.int (A.len xs)) (A.int (A.len ys)))],
  AV.bool false,none):=by kernel_rfl
theorem ZNb(A:Ar)(xs ys:List Int):Zad A tab E0 23 [false] (ZNQ xs ys) []=
 some (tr [1,6] [!A.not (A.eq (A.int (A.len xs)) (A.int (A.len ys)))],
  Zjy (xs) (ys) (0)):=by kernel_rfl
theorem ZMf(A:Ar)(xs ys:List Int)(n0:Int):Zaz A tab E0 22 [true,true] 67 (Zet xs ys n0) (ZdO xs ys n0)=
 some (tr [2,2,3,2,4] [A.not (A.eq (A.nth xs (A.nat n0)) (A.nth ys (A.nat n0))),Zab (Zab (A.le 0 n0) (Nat.blt (A.nat n0) (A.len ys))) true,Zab (Zab (A.le 0 n0) (Nat.blt (A.nat n0) (A.len xs))) true,A.lt n0 (A.int (A.len xs))],
  AV.bool false,none):=by kernel_rfl
theorem ZMN(A:Ar)(xs ys:List Int)(n0:Int):Zad A tab E0 26 [true,false] (Zet xs ys n0) (ZdO xs ys n0)=
 some (tr [1,1,2,3,2,4] [A.inR .i64 (A.add n0 1),!A.not (A.eq (A.nth xs (A.nat n0)) (A.nth ys (A.nat n0))),Zab (Zab (A.le 0 n0) (Nat.blt (A.nat n0) (A.len ys))) true,Zab (Zab (A.le 0 n0) (Nat.blt (A.nat n0) (A.len xs))) true,A.lt n0 (A.int (A.len xs))],
  Zjy (xs) (ys) (A.add n0 1)):=by kernel_rfl
theorem ZMx(A:Ar)(xs ys:List Int)(n0:Int):Zaz A tab E0 16 [false] 67 (Zet xs ys n0) (ZdO xs ys n0)=
 some (tr [2,4] [!A.lt n0 (A.int (A.len xs))],
  AV.bool true,none):=by kernel_rfl
def Zvv(xs:List Int):AFrame:={ fn:=102,N:=8,env:=[(0,AV.list (.ints .i64 xs))],todo:=[.code a102.code],defs:=[],rnd:=none,ret:=false,res:=[ARes.tmp 2] }
def ZLT(xs:List Int):List AFrame:=[(Zvv xs)]
theorem ZtE(xs:List Int):Zak tab 102 [AV.list (.ints .i64 xs)]=some (Zvv xs):=rfl
theorem ZIy(A:Ar)(xs:List Int):Zaz A tab E0 20 [false] 102 (ZLT xs) []=
 some (tr [2,1,1,2] [Nat.ble (0+A.len xs) 4294967296,List.all [] fun x=>AV.bx x&&Nat.beq (Zac A x) 1,Nat.blt 0 (A.len xs)],
  AV.row 0 0,some { e:=3,sz:=1,r:=.ints .i64 xs }):=by kernel_rfl
def Zs0(ad:Go.Addr)(cap:Nat):AFrame:={ fn:=102,N:=8,env:=[(0,AV.val (Go.Value.slice (some ad) 0 cap))],todo:=[.code a102.code],defs:=[],rnd:=none,ret:=false,res:=[ARes.tmp 2] }
def ZD6(ad:Go.Addr)(cap:Nat):List AFrame:=[(Zs0 ad cap)]
theorem ZrV(ad:Go.Addr)(cap:Nat):Zak tab 102 [AV.val (Go.Value.slice (some ad) 0 cap)]=some (Zs0 ad cap):=rfl
theorem Zyr(A:Ar)(ad:Go.Addr)(cap:Nat):Zaz A tab E0 20 [false] 102 (ZD6 ad cap) []=
 some (tr [4,4] [List.all [] fun x=>AV.bx x&&Nat.beq (Zac A x) 1],
  AV.row 0 0,some { e:=3,sz:=1,r:=Row.gen [] }):=by kernel_rfl
def Zqz(cap:Nat):AFrame:={ fn:=102,N:=8,env:=[(0,AV.val (Go.Value.slice none 0 cap))],todo:=[.code a102.code],defs:=[],rnd:=none,ret:=false,res:=[ARes.tmp 2] }
def ZHD(cap:Nat):List AFrame:=[(Zqz cap)]
theorem Zsz(cap:Nat):Zak tab 102 [AV.val (Go.Value.slice none 0 cap)]=some (Zqz cap):=rfl
theorem ZAl(A:Ar)(cap:Nat):Zaz A tab E0 16 [true] 102 (ZHD cap) []=
 some (tr [6] [],
  AV.nils,none):=by kernel_rfl
def ZGH(xs:List Int):AFrame:={ fn:=69,N:=16,env:=[(0,AV.list (.ints .i64 xs))],todo:=[.code a69.code],defs:=[],rnd:=none,ret:=false,res:=[ARes.tmp 2] }
def ZPE(xs:List Int):List AFrame:=[(ZGH xs)]
theorem ZAB(xs:List Int):Zak tab 69 [AV.list (.ints .i64 xs)]=some (ZGH xs):=rfl
def Zdx(xs:List Int)(n0:Int):List AFrame:=[{ fn:=69,N:=16,env:=[(0,AV.list (.ints .i64 xs)),(3,AV.int .i64 n0)],todo:=.code (ACode.gh [] ZC1)::ZLL,defs:=[],rnd:=none,ret:=false,res:=[ARes.tmp 2] }]
def ZcP(xs:List Int)(n0:Int):Zaa:=[]
abbrev ZjQ(xs:List Int)(n0:Int):List AFrame×Zaa:=(Zdx xs n0,ZcP xs n0)
theorem ZK5(A:Ar)(xs:List Int):Zad A tab E0 12 [] (ZPE xs) []=
 some (tr [2] [],
  ZjQ (xs) (0)):=by kernel_rfl
theorem ZK8(A:Ar)(xs:List Int)(n0:Int):Zaz A tab E0 47 [true,true,true,true,true,true] 69 (Zdx xs n0) (ZcP xs n0)=
 some (tr [2,10,6,2,4] [A.not (A.le (A.nth xs (A.nat n0)) 255),A.le 0 (A.nth xs (A.nat n0)),Zab (Zab (A.le 0 n0) (Nat.blt (A.nat n0) (A.len xs))) true,A.lt n0 (A.int (A.len xs))],
  AV.int .i64 2,none):=by kernel_rfl
theorem ZKJ(A:Ar)(xs:List Int)(n0:Int):Zad A tab E0 51 [true,true,true,true,true,false] (Zdx xs n0) (ZcP xs n0)=
 some (tr [1,1,10,6,2,4] [A.inR .i64 (A.add n0 1),!A.not (A.le (A.nth xs (A.nat n0)) 255),A.le 0 (A.nth xs (A.nat n0)),Zab (Zab (A.le 0 n0) (Nat.blt (A.nat n0) (A.len xs))) true,A.lt n0 (A.int (A.len xs))],
  ZjQ (xs) (A.add n0 1)):=by kernel_rfl
theorem ZM7(A:Ar)(xs:List Int)(n0:Int):Zaz A tab E0 47 [true,false,false,false,false,true] 69 (Zdx xs n0) (ZcP xs n0)=
 some (tr [2,10,6,2,4] [A.not false,!A.le 0 (A.nth xs (A.nat n0)),Zab (Zab (A.le 0 n0) (Nat.blt (A.nat n0) (A.len xs))) true,A.lt n0 (A.int (A.len xs))],
  AV.int .i64 2,none):=by kernel_rfl
theorem ZNo(A:Ar)(xs:List Int)(n0:Int):Zaz A tab E0 16 [false] 69 (Zdx xs n0) (ZcP xs n0)=
 some (tr [2,4] [!A.lt n0 (A.int (A.len xs))],
  AV.int .i64 0,none):=by kernel_rfl
def Zvw(xs:List Int):AFrame:={ fn:=127,N:=21,env:=[(0,AV.list (.ints .i64 xs)),(1,AV.fn 128 [])],todo:=[.code a127.code],defs:=[],rnd:=none,ret:=false,res:=[ARes.tmp 4] }
def ZL5(xs:List Int):List AFrame:=[(Zvw xs)]
theorem ZtU(xs:List Int):Zak tab 127 [AV.list (.ints .i64 xs),AV.fn 128 []]=some (Zvw xs):=rfl
def ZbY(xs:List Int)(n0 n1:Int):List AFrame:=[{ fn:=127,N:=21,env:=[(1,AV.fn 128 []),(8,AV.list (.ints .i64 xs)),(9,AV.int .i64 n0),(10,AV.int .i64 n1)],todo:=.code (ACode.gh [] Zva)::ZCD,defs:=[],rnd:=none,ret:=false,res:=[ARes.tmp 4] }]
def ZbQ(xs:List Int)(n0:Int)(n1:Int):Zaa:=[]
abbrev Zhq(xs:List Int)(n0:Int)(n1:Int):List AFrame×Zaa:=(ZbY xs n0 n1,ZbQ xs n0 n1)
theorem ZFS(A:Ar)(xs:List Int):Zad A tab E0 14 [] (ZL5 xs) []=
 some (tr [4] [],
  Zhq (xs) (A.int (A.len xs)) (0)):=by kernel_rfl
theorem ZI9(A:Ar)(xs:List Int)(n0 n1:Int):Zad A tab E0 97 [true,true,true,true,true,true,false] (ZbY xs n0 n1) (ZbQ xs n0 n1)=
 some (tr [1,0,7,13,13,0,1] [A.inR .i64 (A.add n1 1),!A.not (A.eq 0 0),A.le (A.nth xs (A.nat n1)) 255,A.le 0 (A.nth xs (A.nat n1)),Zab (Zab (A.le 0 n1) (Nat.blt (A.nat n1) (A.len xs))) true,A.lt n1 n0],
  Zhq (xs) (n0) (A.add n1 1)):=by kernel_rfl
theorem ZC4(A:Ar)(xs:List Int)(n0 n1:Int):Zaz A tab E0 97 [true,true,true,true,true,false,true] 127 (ZbY xs n0 n1) (ZbQ xs n0 n1)=
 some (tr [3,8,13,13,0,1] [A.not (A.eq 2 0),!A.le (A.nth xs (A.nat n1)) 255,A.le 0 (A.nth xs (A.nat n1)),Zab (Zab (A.le 0 n1) (Nat.blt (A.nat n1) (A.len xs))) true,A.lt n1 n0],
  AV.int .i64 2,none):=by kernel_rfl
theorem ZIi(A:Ar)(xs:List Int)(n0 n1:Int):Zaz A tab E0 97 [true,false,false,false,false,false,true] 127 (ZbY xs n0 n1) (ZbQ xs n0 n1)=
 some (tr [3,22,13,0,1] [A.not (A.eq 2 0),!A.le 0 (A.nth xs (A.nat n1)),Zab (Zab (A.le 0 n1) (Nat.blt (A.nat n1) (A.len xs))) true,A.lt n1 n0],
  AV.int .i64 2,none):=by kernel_rfl
theorem ZHx(A:Ar)(xs:List Int)(n0 n1:Int):Zaz A tab E0 13 [false] 127 (ZbY xs n0 n1) (ZbQ xs n0 n1)=
 some (tr [2,1] [!A.lt n1 n0],
  AV.int .i64 0,none):=by kernel_rfl
def ZFv(n:Int)(m:Int):AFrame:={ fn:=53,N:=14,env:=[(0,AV.int .i64 n),(1,AV.int .i64 m)],todo:=[.code a53.code],defs:=[],rnd:=none,ret:=false,res:=[ARes.tmp 4] }
def ZNS(n:Int)(m:Int):List AFrame:=[(ZFv n m)]
theorem ZBc(n:Int)(m:Int):Zak tab 53 [AV.int .i64 n,AV.int .i64 m]=some (ZFv n m):=rfl
theorem ZKF(A:Ar)(n m:Int):Zaz A tab E0 30 [true] 53 (ZNS n m) []=
 some (tr [4,2,3,3] [A.inR .i64 (A.add (A.rem n m) m),A.lt (A.rem n m) 0,A.not (A.eq m 0)],
  AV.int .i64 (A.add (A.rem n m) m),none):=by kernel_rfl
theorem ZLd(A:Ar)(n m:Int):Zaz A tab E0 25 [false] 53 (ZNS n m) []=
 some (tr [3,3,3] [!A.lt (A.rem n m) 0,A.not (A.eq m 0)],
  AV.int .i64 (A.rem n m),none):=by kernel_rfl
end Go.Proofs.Ytjhdnpmojhkbjaa
/- Contracts as a list. No condition. -/
namespace Go.Proofs.Ytjhdnpmojhkbjaa
@[simp] theorem Zhp (l:List AV):std.lenA l=l.length:=rfl
@[simp] theorem Zar (l:List AV) (j:Nat):std.nthA l j=l.getD j .top:=rfl
@[simp] theorem Zc6 (a b:List AV):std.appA a b=a++b:=rfl
@[simp] theorem ZjR (l:List AV) (j:Nat) (x:AV):std.setA l j x=l.set j x:=rfl
@[simp] theorem ZN5 (l:List AV) (k n:Nat):std.subA l k n=(l.drop k).take n:=rfl
theorem ZsF{C:Ctx}(hC:C.P=Try.prog)(xs ys:List Int)(hl:xs.length=ys.length)(hlen:xs.length≤1000000):∀(d i:Nat),xs.length-i=d→i≤xs.length→xs.take i=ys.take i→
 Ev C (Zet xs ys i) (ZdO xs ys i) (ZdV 67 (.bool (decide (xs=ys))) none):=by
 intro d
 induction d with
 |zero=>
  intro i hd hi ht
  have hi:i=xs.length:=by omega
  have he:xs=ys:=by rw[hi]at ht;rw[List.take_length,hl,List.take_length]at ht;exact ht
  exact fin hC ZbE (ZMx std xs ys i) (by simp;omega) (by simp[he]) rfl
 |succ d ih=>
  intro i hd hi ht
  have hlt:i<xs.length:=by omega
  by_cases hx:xs[i]? =ys[i]?
  ·refine go hC ZbE (ZMN std xs ys i) (by simp[hx];omega) ?_
   exact ih (i+1) (by omega) (by omega) (by
    have h3:xs[i]'hlt=ys[i]'(by omega):=by
     rw[List.getElem?_eq_getElem hlt,List.getElem?_eq_getElem (show i<ys.length by omega)]at hx
     exact Option.some.inj hx
    rw[List.take_succ_eq_append_getElem hlt,List.take_succ_eq_append_getElem (show i<ys.length by omega),ht,h3])
  ·have h3:xs[i]'hlt≠ys[i]'(by omega):=by
    rw[List.getElem?_eq_getElem hlt,List.getElem?_eq_getElem (show i<ys.length by omega)]at hx
    exact fun e=>hx (by rw[e])
   exact fin hC ZbE (ZMf std xs ys i) (by simp[hlt,show i<ys.length by omega,h3]) (by
    have:xs≠ys:=fun e=>hx (by rw[e])
    simp[this]) rfl
theorem Zyy(xs ys:List Int)(hlen:xs.length≤1000000):ZaH Try.prog 67 [.list (.ints .i64 xs), .list (.ints .i64 ys)] (.bool (decide (xs=ys))) none:=
 start (ZAt xs ys) fun C hC=>by
  by_cases hl:xs.length=ys.length
  ·exact go hC ZbE (ZNb std xs ys) (by simp;omega) (ZsF hC xs ys hl hlen xs.length 0 (by omega) (by omega) rfl)
  ·refine fin hC ZbE (ZKs std xs ys) (by simp;omega) ?_ rfl
   have:xs≠ys:=fun e=>hl (by rw[e])
   simp[this]
theorem Zs7(xs:List Int)(hx:xs.length≤4294967296):ZaH Try.prog 55 [.list (.ints .i64 xs)] (.row 0 0) (some ⟨3,1, .ints .i64 xs⟩):=
 start (ZAD xs) fun C hC=>fin hC ZbE (ZMY std xs) (by simp;omega) rfl rfl
theorem Ztl(xs:List Int)(hx:xs.length≤4294967296):ZaH Try.prog 55 [.list (.ints .i64 xs)] (.list (.ints .i64 xs)) Zn2:=Zky (Zs7 xs hx) rfl rfl
def Zau:List Int→Int
 |[]=>0
 |x::xs=>if x=0 then Zau xs else x
theorem ZoZ{C:Ctx}(hC:C.P=Try.prog)(xs:List Int)(hlen:xs.length≤1000000):∀(d i:Nat),xs.length-i=d→i≤xs.length→
 Ev C (Zef xs xs.length i) (ZdG xs xs.length i) (ZdV 84 (.int .i64 (Zau (xs.drop i))) none):=by
 intro d
 induction d with
 |zero=>
  intro i hd hi
  exact fin hC ZbE (ZL2 std xs xs.length i) (by simp;omega) (by rw[List.drop_of_length_le (by omega)];rfl) rfl
 |succ d ih=>
  intro i hd hi
  have hlt:i<xs.length:=by omega
  by_cases hx:xs[i]'hlt=0
  ·refine go hC ZbE (ZLz std xs xs.length i) (by simp[hlt,hx];omega) ?_
   have:=ih (i+1) (by omega) (by omega)
   rw[List.drop_eq_getElem_cons hlt,Zau,if_pos hx]
   exact this
  ·exact fin hC ZbE (ZMI std xs xs.length i) (by simp[hlt,hx]) (by rw[List.drop_eq_getElem_cons hlt,Zau,if_neg hx];simp[hlt]) rfl
theorem Ztm(xs:List Int)(hlen:xs.length≤1000000):ZaH Try.prog 84 [.list (.ints .i64 xs)] (.int .i64 (Zau xs)) none:=
 start (Zx1 xs) fun C hC=>go hC ZbE (ZL1 std xs) (by simp) (ZoZ hC xs hlen xs.length 0 (by omega) (by omega))
theorem Zna(n a b:Int):ZaH Try.prog 27 [.int .i64 n, .int .i64 a, .int .i64 b] (.bool (decide (a≤n∧n≤b))) none:=
 start (Zx4 n a b) fun C hC=>by
  by_cases h1:a≤n
  ·exact fin hC ZbE (ZMB std n a b) (by simp[h1]) (by simp[h1]) rfl
  ·exact fin hC ZbE (ZLr std n a b) (by simp;omega) (by simp[h1]) rfl
theorem Zms(n a b:Int):ZaH Try.prog 87 [.int .i64 n, .int .i64 a, .int .i64 b] (.bool (decide (a≤n∧n≤b))) none:=
 start (ZyK n a b) fun C hC=>by
  by_cases h1:a≤n
  ·exact fin hC ZbE (ZMt std n a b) (by simp[h1]) (by simp[h1]) rfl
  ·exact fin hC ZbE (ZM4 std n a b) (by simp;omega) (by simp[h1]) rfl
def Zal(b:Bool)(e:Int):Int:=if b=true then 0 else e
@[simp] theorem ZdN (e:Int):Zal true e=0:=rfl
@[simp] theorem Zil (e:Int):Zal false e=e:=rfl
theorem Zq1(b:Bool)(e:Int):ZaH Try.prog 86 [.bool b, .int .i64 e] (.int .i64 (Zal b e)) none:=
 start (ZyB b e) fun C hC=>by
  cases b with
  |true=>exact fin hC ZbE (ZLN std true e) (by simp) rfl rfl
  |false=>exact fin hC ZbE (ZKa std false e) (by simp) rfl rfl
def Zfi(x:Int):Bool:=decide (0≤x∧x≤255)
def ZaG(xs:List Int):Int:=if xs.all Zfi=true then 0 else 2
theorem ZiC{x:Int}{xs:List Int}(h:0≤x∧x≤255):ZaG (x::xs)=ZaG xs:=by simp[ZaG,Zfi,h]
theorem ZeW{x:Int}{xs:List Int}(h:¬(0≤x∧x≤255)):ZaG (x::xs)=2:=by simp[ZaG,Zfi,h]
theorem l69{C:Ctx}(hC:C.P=Try.prog)(xs:List Int)(hlen:xs.length≤1000000):∀(d i:Nat),xs.length-i=d→i≤xs.length→
 Ev C (Zdx xs i) (ZcP xs i) (ZdV 69 (.int .i64 (ZaG (xs.drop i))) none):=by
 intro d
 induction d with
 |zero=>
  intro i hd hi
  exact fin hC ZbE (ZNo std xs i) (by simp;omega) (by rw[List.drop_of_length_le (by omega)];rfl) rfl
 |succ d ih=>
  intro i hd hi
  have hlt:i<xs.length:=by omega
  rw[List.drop_eq_getElem_cons hlt]
  by_cases h1:0≤xs[i]
  ·by_cases h2:xs[i]≤255
   ·rw[ZiC ⟨h1,h2⟩]
    exact go hC ZbE (ZKJ std xs i) (by simp[hlt,h1,h2];omega) (ih (i+1) (by omega) (by omega))
   ·rw[ZeW (fun h=>h2 h.2)]
    exact fin hC ZbE (ZK8 std xs i) (by simp[hlt,h1];omega) rfl rfl
  ·rw[ZeW (fun h=>h1 h.1)]
   exact fin hC ZbE (ZM7 std xs i) (by simp[hlt];omega) rfl rfl
theorem ZoK(xs:List Int)(hlen:xs.length≤1000000):ZaH Try.prog 69 [.list (.ints .i64 xs)] (.int .i64 (ZaG xs)) none:=
 start (ZAB xs) fun C hC=>go hC ZbE (ZK5 std xs) (by simp) (l69 hC xs hlen xs.length 0 (by omega) (by omega))
theorem ZOF{C:Ctx}(hC:C.P=Try.prog)(xs:List Int)(hlen:xs.length≤1000000):∀(d i:Nat),xs.length-i=d→i≤xs.length→
 Ev C (ZbY xs xs.length i) (ZbQ xs xs.length i) (ZdV 127 (.int .i64 (ZaG (xs.drop i))) none):=by
 intro d
 induction d with
 |zero=>
  intro i hd hi
  exact fin hC ZbE (ZHx std xs xs.length i) (by simp;omega) (by rw[List.drop_of_length_le (by omega)];rfl) rfl
 |succ d ih=>
  intro i hd hi
  have hlt:i<xs.length:=by omega
  rw[List.drop_eq_getElem_cons hlt]
  by_cases h1:0≤xs[i]
  ·by_cases h2:xs[i]≤255
   ·rw[ZiC ⟨h1,h2⟩]
    exact go hC ZbE (ZI9 std xs xs.length i) (by simp[hlt,h1,h2];omega) (ih (i+1) (by omega) (by omega))
   ·rw[ZeW (fun h=>h2 h.2)]
    exact fin hC ZbE (ZC4 std xs xs.length i) (by simp[hlt,h1];omega) rfl rfl
  ·rw[ZeW (fun h=>h1 h.1)]
   exact fin hC ZbE (ZIi std xs xs.length i) (by simp[hlt];omega) rfl rfl
theorem Zpl(xs:List Int)(hlen:xs.length≤1000000):ZaH Try.prog 127 [.list (.ints .i64 xs), .fn 128 []] (.int .i64 (ZaG xs)) none:=
 start (ZtU xs) fun C hC=>go hC ZbE (ZFS std xs) (by simp) (ZOF hC xs hlen xs.length 0 (by omega) (by omega))
theorem ZJ9(a:Int){m:Int}(h:0<m): -m<a.tmod m∧a.tmod m<m:=⟨by have:=Int.lt_tmod_of_pos a h;omega,Int.tmod_lt_of_pos a h⟩
theorem ZqC(ad:Option Addr)(cap:Nat):ZaH Try.prog 102 [.val (.slice ad 0 cap)] (.list (.ints .i64 [])) Zn2:=by
 cases ad with
 |none=>exact ZBB (start (Zsz cap) fun C hC=>fin hC ZbE (ZAl std cap) (by simp) rfl rfl) rfl
 |some ad=>
  have:=start (ZrV ad cap) fun C hC=>fin hC ZbE (Zyr std ad cap) (by simp) rfl rfl
  exact Zix (Zky this rfl rfl) rfl
theorem ZqB(xs:List Int)(h:0<xs.length∧xs.length≤4294967296):ZaH Try.prog 102 [.list (.ints .i64 xs)] (.row 0 0) (some ⟨3,1, .ints .i64 xs⟩):=
 start (ZtE xs) fun C hC=>fin hC ZbE (ZIy std xs) (by simp;omega) rfl rfl
theorem ZnX(xs:List Int)(h:xs.length≤4294967296):ZaH Try.prog 102 [.list (.ints .i64 xs)] (.list (.ints .i64 xs)) Zn2:=by
 by_cases h0:0<xs.length
 ·exact Zky (ZqB xs ⟨h0,h⟩) rfl rfl
 ·have:xs=[]:=List.eq_nil_of_length_eq_zero (by omega)
  subst this
  exact Zo8 rfl (fun ad cap=>ZqC ad cap)
def ZaL(n m:Int):Int:=if n.tmod m<0 then n.tmod m+m else n.tmod m
theorem Zt8(n m:Int)(h:1≤m∧m≤1000000000000):ZaH Try.prog 53 [.int .i64 n, .int .i64 m] (.int .i64 (ZaL n m)) none:=
 start (ZBc n m) fun C hC=>by
  have hm:m≠0:=by omega
  have hlt:=Int.tmod_lt_of_pos n (show 0<m by omega)
  by_cases h1:n.tmod m<0
  ·have h2: -m<n.tmod m:=by exact(ZJ9 n (show 0<m by omega)).1
   exact fin hC ZbE (ZKF std n m) (by simp[hm,h1];omega) (by simp[ZaL,h1]) rfl
  ·exact fin hC ZbE (ZLd std n m) (by simp[hm];omega) (by simp[ZaL,h1]) rfl
def k27:Ctr:=⟨27,0,fun _ a=>match a with |[.int .i64 n, .int .i64 a, .int .i64 b]=>some (true, .bool (decide (a≤n∧n≤b)),none) |_=>none⟩
theorem ZFq:k27.OK Try.prog:=fun pa args r fr h=>by
 simp only[k27]at h
 split at h
 ·cases h
  exact Zna _ _ _
 ·cases h
def k87:Ctr:=⟨87,0,fun _ a=>match a with |[.int .i64 n, .int .i64 a, .int .i64 b]=>some (true, .bool (decide (a≤n∧n≤b)),none) |_=>none⟩
theorem ZHG:k87.OK Try.prog:=fun pa args r fr h=>by
 simp only[k87]at h
 split at h
 ·cases h
  exact Zms _ _ _
 ·cases h
def k86:Ctr:=⟨86,0,fun _ a=>match a with |[.bool b, .int .i64 e]=>some (true, .int .i64 (Zal b e),none) |_=>none⟩
theorem ZIE:k86.OK Try.prog:=fun pa args r fr h=>by
 simp only[k86]at h
 split at h
 ·cases h
  exact Zq1 _ _
 ·cases h
def k84:Ctr:=⟨84,0,fun _ a=>match a with |[.list (.ints .i64 xs)]=>some (decide (xs.length≤1000000), .int .i64 (Zau xs),none) |_=>none⟩
theorem ZGB:k84.OK Try.prog:=fun pa args r fr h=>by
 simp only[k84]at h
 split at h
 ·simp only[Option.some.injEq,Prod.mk.injEq,decide_eq_true_eq]at h
  obtain⟨h0,rfl,rfl⟩:=h
  exact Ztm _ h0
 ·cases h
def k55:Ctr:=⟨55,0,fun _ a=>match a with |[.list (.ints .i64 xs)]=>some (decide (xs.length≤4294967296), .list (.ints .i64 xs),Zn2) |_=>none⟩
theorem ZEw:k55.OK Try.prog:=fun pa args r fr h=>by
 simp only[k55]at h
 split at h
 ·simp only[Option.some.injEq,Prod.mk.injEq,decide_eq_true_eq]at h
  obtain⟨h0,rfl,rfl⟩:=h
  exact Ztl _ h0
 ·cases h
def k67:Ctr:=⟨67,0,fun _ a=>match a with |[.list (.ints .i64 xs), .list (.ints .i64 ys)]=>some (decide (xs.length≤1000000), .bool (decide (xs=ys)),none) |_=>none⟩
theorem ZJc:k67.OK Try.prog:=fun pa args r fr h=>by
 simp only[k67]at h
 split at h
 ·simp only[Option.some.injEq,Prod.mk.injEq,decide_eq_true_eq]at h
  obtain⟨h0,rfl,rfl⟩:=h
  exact Zyy _ _ h0
 ·cases h
def k69:Ctr:=⟨69,0,fun _ a=>match a with |[.list (.ints .i64 xs)]=>some (decide (xs.length≤1000000), .int .i64 (ZaG xs),none) |_=>none⟩
theorem ZHL:k69.OK Try.prog:=fun pa args r fr h=>by
 simp only[k69]at h
 split at h
 ·simp only[Option.some.injEq,Prod.mk.injEq,decide_eq_true_eq]at h
  obtain⟨h0,rfl,rfl⟩:=h
  exact ZoK _ h0
 ·cases h
def k127:Ctr:=⟨127,0,fun _ a=>match a with |[.list (.ints .i64 xs), .fn 128 []]=>some (decide (xs.length≤1000000), .int .i64 (ZaG xs),none) |_=>none⟩
theorem ZBE:k127.OK Try.prog:=fun pa args r fr h=>by
 simp only[k127]at h
 split at h
 ·simp only[Option.some.injEq,Prod.mk.injEq,decide_eq_true_eq]at h
  obtain⟨h0,rfl,rfl⟩:=h
  exact Zpl _ h0
 ·cases h
def k102:Ctr:=⟨102,0,fun _ a=>match a with |[.list (.ints .i64 xs)]=>some (decide (xs.length≤4294967296), .list (.ints .i64 xs),Zn2) |_=>none⟩
theorem ZyM:k102.OK Try.prog:=fun pa args r fr h=>by
 simp only[k102]at h
 split at h
 ·simp only[Option.some.injEq,Prod.mk.injEq,decide_eq_true_eq]at h
  obtain⟨h0,rfl,rfl⟩:=h
  exact ZnX _ h0
 ·cases h
def k53:Ctr:=⟨53,0,fun _ a=>match a with |[.int .i64 n, .int .i64 m]=>some (decide (1≤m∧m≤1000000000000), .int .i64 (ZaL n m),none) |_=>none⟩
theorem ZJn:k53.OK Try.prog:=fun pa args r fr h=>by
 simp only[k53]at h
 split at h
 ·simp only[Option.some.injEq,Prod.mk.injEq,decide_eq_true_eq]at h
  obtain⟨h0,rfl,rfl⟩:=h
  exact Zt8 _ _ h0
 ·cases h
def B1:List Ctr:=[k27,k87,k86,k84,k55,k67,k69,k127,k102,k53]
theorem Zcy:Zap Try.prog B1:=⟨ZFq,⟨ZHG,⟨ZIE,⟨ZGB,⟨ZEw,⟨ZJc,⟨ZHL,⟨ZBE,⟨ZyM,⟨ZJn,trivial⟩⟩⟩⟩⟩⟩⟩⟩⟩⟩
end Go.Proofs.Ytjhdnpmojhkbjaa
