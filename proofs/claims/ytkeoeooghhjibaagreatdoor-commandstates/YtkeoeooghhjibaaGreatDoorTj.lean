/- Every code of the table stands for the program's. Printed by gentab.py. -/
import Derived.Test.YtkeoeooghhjibaaGreatDoorTa
import Derived.Test.YtkeoeooghhjibaaGreatDoorChecked
import Derived.KernelRfl
namespace Go.Proofs.YtkeoeooghhjibaaGreatDoor
set_option maxRecDepth 100000
theorem m5:Zap Tryz.prog 5 a5=true:=by kernel_rfl
theorem m13:Zap Tryz.prog 13 a13=true:=by kernel_rfl
theorem m14:Zap Tryz.prog 14 a14=true:=by kernel_rfl
theorem m15:Zap Tryz.prog 15 a15=true:=by kernel_rfl
theorem m16:Zap Tryz.prog 16 a16=true:=by kernel_rfl
theorem m19:Zap Tryz.prog 19 a19=true:=by kernel_rfl
theorem m21:Zap Tryz.prog 21 a21=true:=by kernel_rfl
theorem m22:Zap Tryz.prog 22 a22=true:=by kernel_rfl
theorem m23:Zap Tryz.prog 23 a23=true:=by kernel_rfl
theorem m24:Zap Tryz.prog 24 a24=true:=by kernel_rfl
theorem m25:Zap Tryz.prog 25 a25=true:=by kernel_rfl
theorem m26:Zap Tryz.prog 26 a26=true:=by kernel_rfl
theorem m28:Zap Tryz.prog 28 a28=true:=by kernel_rfl
theorem m29:Zap Tryz.prog 29 a29=true:=by kernel_rfl
theorem m32:Zap Tryz.prog 32 a32=true:=by kernel_rfl
theorem m33:Zap Tryz.prog 33 a33=true:=by kernel_rfl
theorem m34:Zap Tryz.prog 34 a34=true:=by kernel_rfl
theorem m35:Zap Tryz.prog 35 a35=true:=by kernel_rfl
theorem m36:Zap Tryz.prog 36 a36=true:=by kernel_rfl
theorem m37:Zap Tryz.prog 37 a37=true:=by kernel_rfl
theorem m38:Zap Tryz.prog 38 a38=true:=by kernel_rfl
theorem m39:Zap Tryz.prog 39 a39=true:=by kernel_rfl
theorem m41:Zap Tryz.prog 41 a41=true:=by kernel_rfl
theorem m42:Zap Tryz.prog 42 a42=true:=by kernel_rfl
theorem m53:Zap Tryz.prog 53 a53=true:=by kernel_rfl
theorem m65:Zap Tryz.prog 65 a65=true:=by kernel_rfl
theorem m66:Zap Tryz.prog 66 a66=true:=by kernel_rfl
theorem m67:Zap Tryz.prog 67 a67=true:=by kernel_rfl
theorem m68:Zap Tryz.prog 68 a68=true:=by kernel_rfl
theorem m69:Zap Tryz.prog 69 a69=true:=by kernel_rfl
theorem m70:Zap Tryz.prog 70 a70=true:=by kernel_rfl
theorem m71:Zap Tryz.prog 71 a71=true:=by kernel_rfl
theorem m72:Zap Tryz.prog 72 a72=true:=by kernel_rfl
theorem m73:Zap Tryz.prog 73 a73=true:=by kernel_rfl
theorem m74:Zap Tryz.prog 74 a74=true:=by kernel_rfl
theorem m75:Zap Tryz.prog 75 a75=true:=by kernel_rfl
theorem m76:Zap Tryz.prog 76 a76=true:=by kernel_rfl
theorem m77:Zap Tryz.prog 77 a77=true:=by kernel_rfl
theorem m78:Zap Tryz.prog 78 a78=true:=by kernel_rfl
theorem m80:Zap Tryz.prog 80 a80=true:=by kernel_rfl
theorem m81:Zap Tryz.prog 81 a81=true:=by kernel_rfl
theorem m82:Zap Tryz.prog 82 a82=true:=by kernel_rfl
theorem m83:Zap Tryz.prog 83 a83=true:=by kernel_rfl
theorem m84:Zap Tryz.prog 84 a84=true:=by kernel_rfl
theorem m85:Zap Tryz.prog 85 a85=true:=by kernel_rfl
theorem m86:Zap Tryz.prog 86 a86=true:=by kernel_rfl
theorem m87:Zap Tryz.prog 87 a87=true:=by kernel_rfl
theorem m88:Zap Tryz.prog 88 a88=true:=by kernel_rfl
theorem m89:Zap Tryz.prog 89 a89=true:=by kernel_rfl
theorem m90:Zap Tryz.prog 90 a90=true:=by kernel_rfl
theorem m91:Zap Tryz.prog 91 a91=true:=by kernel_rfl
theorem m97:Zap Tryz.prog 97 a97=true:=by kernel_rfl
theorem ZII:Zap Tryz.prog 105 ZFz=true:=by kernel_rfl
theorem ZIG:Zap Tryz.prog 113 ZEK=true:=by kernel_rfl
theorem ZGq:Zap Tryz.prog 119 a119=true:=by kernel_rfl
theorem ZHi:Zap Tryz.prog 120 a120=true:=by kernel_rfl
theorem ZGY:Zap Tryz.prog 121 ZFc=true:=by kernel_rfl
theorem ZIi:Zap Tryz.prog 122 a122=true:=by kernel_rfl
theorem ZG8:Zap Tryz.prog 123 a123=true:=by kernel_rfl
theorem ZHn:Zap Tryz.prog 125 ZFn=true:=by kernel_rfl
theorem ZGv:Zap Tryz.prog 126 ZEL=true:=by kernel_rfl
theorem ZHz:Zap Tryz.prog 127 ZFA=true:=by kernel_rfl
theorem ZIK:Zap Tryz.prog 128 ZFE=true:=by kernel_rfl
theorem ZHy:Zap Tryz.prog 129 ZEZ=true:=by kernel_rfl
theorem ZIr:Zap Tryz.prog 130 ZFy=true:=by kernel_rfl
theorem ZFS:Zap Tryz.prog 131 ZFu=true:=by kernel_rfl
theorem ZHo:Zap Tryz.prog 132 ZEV=true:=by kernel_rfl
theorem ZGG:Zap Tryz.prog 133 ZFm=true:=by kernel_rfl
theorem ZGg:Zap Tryz.prog 134 ZFo=true:=by kernel_rfl
theorem ZH8:Zap Tryz.prog 135 ZFN=true:=by kernel_rfl
theorem ZIk:Zap Tryz.prog 136 a136=true:=by kernel_rfl
theorem ZIl:Zap Tryz.prog 137 ZFp=true:=by kernel_rfl
theorem ZGa:Zap Tryz.prog 138 ZFO=true:=by kernel_rfl
theorem ZHO:Zap Tryz.prog 140 a140=true:=by kernel_rfl
theorem ZF0:Zap Tryz.prog 145 ZFs=true:=by kernel_rfl
theorem ZGu:Zap Tryz.prog 147 ZFx=true:=by kernel_rfl
theorem ZFV:Zap Tryz.prog 149 ZET=true:=by kernel_rfl
theorem ZGI:Zap Tryz.prog 150 a150=true:=by kernel_rfl
theorem ZIM:Zap Tryz.prog 151 a151=true:=by kernel_rfl
theorem ZHh:Zap Tryz.prog 152 ZE2=true:=by kernel_rfl
theorem ZHq:Zap Tryz.prog 153 a153=true:=by kernel_rfl
theorem ZGJ:Zap Tryz.prog 154 a154=true:=by kernel_rfl
theorem ZGz:Zap Tryz.prog 155 ZEU=true:=by kernel_rfl
theorem ZGt:Zap Tryz.prog 156 ZFr=true:=by kernel_rfl
theorem ZHd:Zap Tryz.prog 157 ZFG=true:=by kernel_rfl
theorem ZGF:Zap Tryz.prog 158 a158=true:=by kernel_rfl
theorem ZGw:Zap Tryz.prog 159 ZEG=true:=by kernel_rfl
theorem ZIj:Zap Tryz.prog 160 a160=true:=by kernel_rfl
theorem ZGS:Zap Tryz.prog 161 a161=true:=by kernel_rfl
theorem ZGl:Zap Tryz.prog 162 a162=true:=by kernel_rfl
theorem ZGA:Zap Tryz.prog 163 a163=true:=by kernel_rfl
theorem ZIm:Zap Tryz.prog 164 a164=true:=by kernel_rfl
theorem ZIu:Zap Tryz.prog 165 a165=true:=by kernel_rfl
theorem ZIE:Zap Tryz.prog 166 ZEW=true:=by kernel_rfl
theorem ZHt:Zap Tryz.prog 174 ZFL=true:=by kernel_rfl
theorem ZHF:Zap Tryz.prog 178 ZFq=true:=by kernel_rfl
theorem ZGj:Zap Tryz.prog 179 ZE1=true:=by kernel_rfl
theorem ZIF:Zap Tryz.prog 180 ZFK=true:=by kernel_rfl
theorem ZGR:Zap Tryz.prog 181 ZE3=true:=by kernel_rfl
theorem ZGb:Zap Tryz.prog 182 a182=true:=by kernel_rfl
theorem ZHx:Zap Tryz.prog 183 ZFb=true:=by kernel_rfl
theorem ZIt:Zap Tryz.prog 198 ZFP=true:=by kernel_rfl
theorem ZGs:Zap Tryz.prog 199 ZFH=true:=by kernel_rfl
theorem ZGL:Zap Tryz.prog 200 ZFQ=true:=by kernel_rfl
theorem ZF4:Zap Tryz.prog 207 ZFd=true:=by kernel_rfl
theorem ZHK:Zap Tryz.prog 208 ZER=true:=by kernel_rfl
theorem ZGc:Zap Tryz.prog 209 ZFF=true:=by kernel_rfl
theorem ZIb:Zap Tryz.prog 210 ZE5=true:=by kernel_rfl
theorem ZGP:Zap Tryz.prog 211 ZFD=true:=by kernel_rfl
theorem ZHQ:Zap Tryz.prog 214 ZFC=true:=by kernel_rfl
theorem ZHu:Zap Tryz.prog 215 ZEM=true:=by kernel_rfl
theorem Zae:Zbt Tryz.prog tab:=FTree.ok (t:=tree) ⟨⟨⟨⟨⟨⟨⟨trivial,m5,trivial⟩,m13,⟨trivial,m14,trivial⟩⟩,m15,⟨⟨trivial,m16,trivial⟩,m19,trivial⟩⟩,m21,⟨⟨⟨trivial,m22,trivial⟩,m23,⟨trivial,m24,trivial⟩⟩,m25,⟨⟨trivial,m26,trivial⟩,m28,trivial⟩⟩⟩,m29,⟨⟨⟨⟨trivial,m32,trivial⟩,m33,⟨trivial,m34,trivial⟩⟩,m35,⟨⟨trivial,m36,trivial⟩,m37,trivial⟩⟩,m38,⟨⟨⟨trivial,m39,trivial⟩,m41,⟨trivial,m42,trivial⟩⟩,m53,⟨⟨trivial,m65,trivial⟩,m66,trivial⟩⟩⟩⟩,m67,⟨⟨⟨⟨⟨trivial,m68,trivial⟩,m69,⟨trivial,m70,trivial⟩⟩,m71,⟨⟨trivial,m72,trivial⟩,m73,trivial⟩⟩,m74,⟨⟨⟨trivial,m75,trivial⟩,m76,⟨trivial,m77,trivial⟩⟩,m78,⟨⟨trivial,m80,trivial⟩,m81,trivial⟩⟩⟩,m82,⟨⟨⟨⟨trivial,m83,trivial⟩,m84,⟨trivial,m85,trivial⟩⟩,m86,⟨⟨trivial,m87,trivial⟩,m88,trivial⟩⟩,m89,⟨⟨⟨trivial,m90,trivial⟩,m91,⟨trivial,m97,trivial⟩⟩,ZII,⟨⟨trivial,ZIG,trivial⟩,ZGq,trivial⟩⟩⟩⟩⟩,ZHi,⟨⟨⟨⟨⟨⟨trivial,ZGY,trivial⟩,ZIi,⟨trivial,ZG8,trivial⟩⟩,ZHn,⟨⟨trivial,ZGv,trivial⟩,ZHz,trivial⟩⟩,ZIK,⟨⟨⟨trivial,ZHy,trivial⟩,ZIr,⟨trivial,ZFS,trivial⟩⟩,ZHo,⟨⟨trivial,ZGG,trivial⟩,ZGg,trivial⟩⟩⟩,ZH8,⟨⟨⟨⟨trivial,ZIk,trivial⟩,ZIl,⟨trivial,ZGa,trivial⟩⟩,ZHO,⟨⟨trivial,ZF0,trivial⟩,ZGu,trivial⟩⟩,ZFV,⟨⟨⟨trivial,ZGI,trivial⟩,ZIM,⟨trivial,ZHh,trivial⟩⟩,ZHq,⟨⟨trivial,ZGJ,trivial⟩,ZGz,trivial⟩⟩⟩⟩,ZGt,⟨⟨⟨⟨⟨trivial,ZHd,trivial⟩,ZGF,⟨trivial,ZGw,trivial⟩⟩,ZIj,⟨⟨trivial,ZGS,trivial⟩,ZGl,trivial⟩⟩,ZGA,⟨⟨⟨trivial,ZIm,trivial⟩,ZIu,⟨trivial,ZIE,trivial⟩⟩,ZHt,⟨⟨trivial,ZHF,trivial⟩,ZGj,trivial⟩⟩⟩,ZIF,⟨⟨⟨⟨trivial,ZGR,trivial⟩,ZGb,⟨trivial,ZHx,trivial⟩⟩,ZIt,⟨⟨trivial,ZGs,trivial⟩,ZGL,trivial⟩⟩,ZF4,⟨⟨⟨trivial,ZHK,trivial⟩,ZGc,⟨trivial,ZIb,trivial⟩⟩,ZGP,⟨⟨trivial,ZHQ,trivial⟩,ZHu,trivial⟩⟩⟩⟩⟩⟩
theorem follows:Tryz.prog.follows .mixedOrders=true:=by kernel_rfl
end Go.Proofs.YtkeoeooghhjibaaGreatDoor
/- How contracts are closed for the program. No condition. -/
namespace Go.Proofs.YtkeoeooghhjibaaGreatDoor
def E0:List Ctr:=[]
theorem ZaC:ZaI Tryz.prog E0:=trivial
section
variable {C:Ctx}{K:List Ctr}{n:Nat}{pa acc:List Bool}{fs gs:List AFrame}{h h':Zac}{Q:List AFrame→Zac→Prop}
theorem go(hC:C.P=Tryz.prog)(hK:ZaI Tryz.prog K)(hw:Zaz std tab K n pa fs h=some (acc,gs,h'))(hb:AllT acc)(hq:Ev C gs h' Q):Ev C fs h Q:=ZDw (by rw[hC];exact follows) (by rw[hC];exact Zae) (by rw[hC];exact hK) hw hb hq
theorem fin(hC:C.P=Tryz.prog)(hK:ZaI Tryz.prog K){fn:FuncId}{r r':AV}{fr fr':Option Fresh}(hw:ZaT std tab K n pa fn fs h=some (acc,r',fr'))(hb:AllT acc)(hr:r'=r)(hfr:fr'=fr):Ev C fs h (ZbT fn r fr):=ZxI (by rw[hC];exact follows) (by rw[hC];exact Zae) (by rw[hC];exact hK) hw hb hr hfr
theorem start{fn:FuncId}{args:List AV}{af:AFrame}{r:AV}{fr:Option Fresh}(he:Zaq tab fn args=some af)(hq:∀C:Ctx,C.P=Tryz.prog→Ev C [af] [] (ZbT fn r fr)):Zan Tryz.prog fn args r fr:=ZeX Zae he fun _ _ _=>hq _ rfl
theorem tgo(hC:C.P=Tryz.prog)(hK:ZaI Tryz.prog K){fn:FuncId}{r:AV}{fr:Option Fresh}{s:Sp}{X:Prop}(he:ZaD std tab K fn (fun p=>Ev C p.1 p.2 (ZbT fn r fr)) (fun r' fr'=>r'=r∧fr'=fr) (fun _ _ _ _=>False) s fs h=X)(hx:X):Ev C fs h (ZbT fn r fr):=
 Zbx (K:=fun p=>Ev C p.1 p.2 (ZbT fn r fr)) (F:=fun r' fr'=>r'=r∧fr'=fr) (M:=fun _ _ _ _=>False) (by rw[hC];exact follows) (by rw[hC];exact Zae) (by rw[hC];exact hK) (fun _ h=>h) (fun r' fr' h _ _ hf=>by obtain⟨rfl,rfl⟩:=h;exact hf) (fun _ _ _ _ h=>h.elim) s (by rw[he];exact hx)
theorem ZAe(hC:C.P=Tryz.prog)(hK:ZaI Tryz.prog K){fn:FuncId}{r:AV}{fr:Option Fresh}{s:Sp}{X:Prop}(he:ZaD std tab K fn (fun p=>Ev C p.1 p.2 (ZwS fn r fr)) (fun r' fr'=>Wk r' r∧fr'=fr) (fun _ _ _ _=>False) s fs h=X)(hx:X):Ev C fs h (ZwS fn r fr):=
 Zbx (K:=fun p=>Ev C p.1 p.2 (ZwS fn r fr)) (F:=fun r' fr'=>Wk r' r∧fr'=fr) (M:=fun _ _ _ _=>False) (by rw[hC];exact follows) (by rw[hC];exact Zae) (by rw[hC];exact hK) (fun _ h=>h) (fun r' fr' h _ _ hf=>by obtain⟨h1,rfl⟩:=h;exact⟨r',h1,hf⟩) (fun _ _ _ _ h=>h.elim) s (by rw[he];exact hx)
theorem ZrF{fn:FuncId}{args:List AV}{af:AFrame}{r:AV}{fr:Option Fresh}(he:Zaq tab fn args=some af)(hq:∀C:Ctx,C.P=Tryz.prog→Ev C [af] [] (ZwS fn r fr)):Zan Tryz.prog fn args r fr:=Zll Zae he fun _ _ _=>hq _ rfl
end
theorem Zun{f:FuncId}{args:List AV}{e sz:Nat}{r:Row}(h:Zan Tryz.prog f args (.row 0 0) (some ⟨e,sz+1,r⟩))(hp:r.pure=true)(hs:r.solid=true):Zan Tryz.prog f args (.list r) ZB0:=
 ZqS h rfl (.one (.row _ rfl hp hs))
theorem Rel.same{w:World}{ok:Nat→Prop}{h:Zac}{L:Lay}{r r':Row}{v:Value}(he:r.elems=r'.elems)(hr:Rel w ok h L (.list r) v):Rel w ok h L (.list r') v:=by
 cases hr with
 |nil _ a c h0=>exact .nil _ a c (he▸h0)
 |list _ xs hx ad n cap sz cs hb hok hn hcap hsz hl h1 hc hp hrr=>exact .list r' xs (hx.trans he) ad n cap sz cs hb hok hn hcap hsz hl h1 hc hp hrr
theorem ZeJ{f:FuncId}{r:Row}{x:AV}{fr:Option Fresh}(he:r.elems=[])(h:∀ad cap,Zan Tryz.prog f [.val (.slice ad 0 cap)] x fr):Zan Tryz.prog f [.list r] x fr:=by
 intro w okA L vs hargs hok
 obtain⟨h1,h2⟩:=hargs
 obtain⟨l⟩:=vs
 match l,h1 with
 |[v0],_=>
  have r0:=h2 0 _ _ rfl rfl
  obtain⟨ad,cap,rfl⟩:∃ad cap,v0=.slice ad 0 cap:=by
   cases r0 with
   |nil _ a c _=>exact⟨a,c,rfl⟩
   |list _ xs hx ad n cap sz cs hbb hok hn=>rw[he]at hx;subst hx;exact⟨some ad,cap,by rw[hn];rfl⟩
  exact h ad cap w okA L _ (RelL.cons (.val _) RelL.nil) hok
inductive Wk1:AV→AV→Prop
 |nil (r:Row) (h:r.elems=[]):Wk1 .nils (.list r)
 |same (v:AV):Wk1 v v
def WkL:List AV→List AV→Prop
 |[],[]=>True
 |x::xs,y::ys=>Wk1 x y∧WkL xs ys
 |_,_=>False
theorem WkL.spec:∀ {xs ys:List AV},WkL xs ys→xs.length=ys.length∧∀(j:Nat) (y:AV),ys[j]? =some y→∃x,xs[j]? =some x∧Wk1 x y
 |[],[],_=>⟨rfl,fun j y h=>by simp at h⟩
 |x::xs,y::ys,h=>by
  obtain⟨h1,h2⟩:=h
  obtain⟨e1,e2⟩:=WkL.spec h2
  refine⟨by simp[e1],fun j z hz=>?_⟩
  cases j with
  |zero=>simp at hz;subst hz;exact⟨x,rfl,h1⟩
  |succ j=>obtain⟨q,q1,q2⟩:=e2 j z (by simpa using hz);exact⟨q,by simpa using q1,q2⟩
theorem Wk1.rel{w:World}{ok:Nat→Prop}{h:Zac}{L:Lay}{v v':AV}{x:Value}(hw:Wk1 v v')(hr:Rel w ok h L v x):Rel w ok h L v' x:=by
 cases hw with
 |nil r h=>cases hr with |nils=>exact .nil r none 0 h
 |same=>exact hr
end Go.Proofs.YtkeoeooghhjibaaGreatDoor
/- Calls at given values. Printed by facts.py. -/
namespace Go.Proofs.YtkeoeooghhjibaaGreatDoor
set_option maxRecDepth 1000000
def aw0:Fact:=⟨66,[],(.agg (.gen [(.list (.big .str [(.str [115,97,102,101]),(.str [99,114,117,105,115,101]),(.str [98,117,114,110])])),(.list (.big (.agg [.str,(.int .i64)]) [(.agg (.gen [(.str [119,97,107,101]),(.int .i64 1)])),(.agg (.gen [(.str [102,105,114,101]),(.int .i64 2)])),(.agg (.gen [(.str [115,116,111,112]),(.int .i64 1)])),(.agg (.gen [(.str [112,105,110,103]),(.int .i64 (-1))]))])),(.list (.big (.agg [.str,(.int .i64),(.int .i64),(.int .i64),(.int .i64)]) [(.agg (.gen [(.str [99,111,108,100]),(.int .i64 1),(.int .i64 0),(.int .i64 (-1)),(.int .i64 1)])),(.agg (.gen [(.str [104,101,97,116]),(.int .i64 1),(.int .i64 (-1)),(.int .i64 2),(.int .i64 50)]))])),(.list (.big (.agg [(.int .i64),(.int .i64),(.int .i64)]) [(.agg (.gen [(.int .i64 0),(.int .i64 0),(.int .i64 100)])),(.agg (.gen [(.int .i64 1),(.int .i64 20),(.int .i64 200)])),(.agg (.gen [(.int .i64 2),(.int .i64 30),(.int .i64 300)])),(.agg (.gen [(.int .i64 1),(.int .i64 40),(.int .i64 400)]))])),(.int .i64 2),(.int .i64 2)])),none⟩
theorem Zzw:Zan Tryz.prog aw0.f aw0.args aw0.r aw0.fr:=Zad (n:=100000) (l:=[]) follows Zae trivial (by kernel_rfl)
def aw1:Fact:=⟨68,[(.bool true),(.int .i64 10)],(.int .i64 0),none⟩
theorem ZoS:Zan Tryz.prog aw1.f aw1.args aw1.r aw1.fr:=Zad (n:=100000) (l:=[]) follows Zae trivial (by kernel_rfl)
def aw2:Fact:=⟨68,[(.bool true),(.int .i64 8)],(.int .i64 0),none⟩
theorem Zml:Zan Tryz.prog aw2.f aw2.args aw2.r aw2.fr:=Zad (n:=100000) (l:=[]) follows Zae trivial (by kernel_rfl)
def aw3:Fact:=⟨67,[(.list (.ints .i64 [0,0]))],(.int .i64 0),none⟩
theorem Zl0:Zan Tryz.prog aw3.f aw3.args aw3.r aw3.fr:=Zad (n:=100000) (l:=[]) follows Zae trivial (by kernel_rfl)
def aw4:Fact:=⟨160,[(.int .i64 0),(.eptr (.agg (.gen [(.list (.big .str [(.str [115,97,102,101]),(.str [99,114,117,105,115,101]),(.str [98,117,114,110])])),(.list (.big (.agg [.str,(.int .i64)]) [(.agg (.gen [(.str [119,97,107,101]),(.int .i64 1)])),(.agg (.gen [(.str [102,105,114,101]),(.int .i64 2)])),(.agg (.gen [(.str [115,116,111,112]),(.int .i64 1)])),(.agg (.gen [(.str [112,105,110,103]),(.int .i64 (-1))]))])),(.list (.big (.agg [.str,(.int .i64),(.int .i64),(.int .i64),(.int .i64)]) [(.agg (.gen [(.str [99,111,108,100]),(.int .i64 1),(.int .i64 0),(.int .i64 (-1)),(.int .i64 1)])),(.agg (.gen [(.str [104,101,97,116]),(.int .i64 1),(.int .i64 (-1)),(.int .i64 2),(.int .i64 50)]))]))])) 0)],(.str [115,97,102,101]),none⟩
theorem Zzu:Zan Tryz.prog aw4.f aw4.args aw4.r aw4.fr:=Zad (n:=100000) (l:=[]) follows Zae trivial (by kernel_rfl)
def aw5:Fact:=⟨182,[(.str [115,97,102,101])],(.bool true),none⟩
theorem ZAY:Zan Tryz.prog aw5.f aw5.args aw5.r aw5.fr:=Zad (n:=100000) (l:=[]) follows Zae trivial (by kernel_rfl)
def aw6:Fact:=⟨68,[(.bool true),(.int .i64 4)],(.int .i64 0),none⟩
theorem ZzQ:Zan Tryz.prog aw6.f aw6.args aw6.r aw6.fr:=Zad (n:=100000) (l:=[]) follows Zae trivial (by kernel_rfl)
def aw7:Fact:=⟨68,[(.bool true),(.int .i64 5)],(.int .i64 0),none⟩
theorem ZBs:Zan Tryz.prog aw7.f aw7.args aw7.r aw7.fr:=Zad (n:=100000) (l:=[]) follows Zae trivial (by kernel_rfl)
def aw8:Fact:=⟨161,[(.int .i64 0)],(.int .i64 0),none⟩
theorem ZBg:Zan Tryz.prog aw8.f aw8.args aw8.r aw8.fr:=Zad (n:=100000) (l:=[]) follows Zae trivial (by kernel_rfl)
def aw9:Fact:=⟨67,[(.list (.ints .i64 [0,0,0]))],(.int .i64 0),none⟩
theorem ZfS:Zan Tryz.prog aw9.f aw9.args aw9.r aw9.fr:=Zad (n:=100000) (l:=[]) follows Zae trivial (by kernel_rfl)
def aw10:Fact:=⟨160,[(.int .i64 1),(.eptr (.agg (.gen [(.list (.big .str [(.str [115,97,102,101]),(.str [99,114,117,105,115,101]),(.str [98,117,114,110])])),(.list (.big (.agg [.str,(.int .i64)]) [(.agg (.gen [(.str [119,97,107,101]),(.int .i64 1)])),(.agg (.gen [(.str [102,105,114,101]),(.int .i64 2)])),(.agg (.gen [(.str [115,116,111,112]),(.int .i64 1)])),(.agg (.gen [(.str [112,105,110,103]),(.int .i64 (-1))]))])),(.list (.big (.agg [.str,(.int .i64),(.int .i64),(.int .i64),(.int .i64)]) [(.agg (.gen [(.str [99,111,108,100]),(.int .i64 1),(.int .i64 0),(.int .i64 (-1)),(.int .i64 1)])),(.agg (.gen [(.str [104,101,97,116]),(.int .i64 1),(.int .i64 (-1)),(.int .i64 2),(.int .i64 50)]))]))])) 0)],(.str [99,114,117,105,115,101]),none⟩
theorem ZuA:Zan Tryz.prog aw10.f aw10.args aw10.r aw10.fr:=Zad (n:=100000) (l:=[]) follows Zae trivial (by kernel_rfl)
def aw11:Fact:=⟨182,[(.str [99,114,117,105,115,101])],(.bool true),none⟩
theorem Zvz:Zan Tryz.prog aw11.f aw11.args aw11.r aw11.fr:=Zad (n:=100000) (l:=[]) follows Zae trivial (by kernel_rfl)
def aw12:Fact:=⟨161,[(.int .i64 1)],(.int .i64 0),none⟩
theorem Zwm:Zan Tryz.prog aw12.f aw12.args aw12.r aw12.fr:=Zad (n:=100000) (l:=[]) follows Zae trivial (by kernel_rfl)
def aw13:Fact:=⟨160,[(.int .i64 2),(.eptr (.agg (.gen [(.list (.big .str [(.str [115,97,102,101]),(.str [99,114,117,105,115,101]),(.str [98,117,114,110])])),(.list (.big (.agg [.str,(.int .i64)]) [(.agg (.gen [(.str [119,97,107,101]),(.int .i64 1)])),(.agg (.gen [(.str [102,105,114,101]),(.int .i64 2)])),(.agg (.gen [(.str [115,116,111,112]),(.int .i64 1)])),(.agg (.gen [(.str [112,105,110,103]),(.int .i64 (-1))]))])),(.list (.big (.agg [.str,(.int .i64),(.int .i64),(.int .i64),(.int .i64)]) [(.agg (.gen [(.str [99,111,108,100]),(.int .i64 1),(.int .i64 0),(.int .i64 (-1)),(.int .i64 1)])),(.agg (.gen [(.str [104,101,97,116]),(.int .i64 1),(.int .i64 (-1)),(.int .i64 2),(.int .i64 50)]))]))])) 0)],(.str [98,117,114,110]),none⟩
theorem ZsJ:Zan Tryz.prog aw13.f aw13.args aw13.r aw13.fr:=Zad (n:=100000) (l:=[]) follows Zae trivial (by kernel_rfl)
def aw14:Fact:=⟨182,[(.str [98,117,114,110])],(.bool true),none⟩
theorem ZvG:Zan Tryz.prog aw14.f aw14.args aw14.r aw14.fr:=Zad (n:=100000) (l:=[]) follows Zae trivial (by kernel_rfl)
def aw15:Fact:=⟨161,[(.int .i64 2)],(.int .i64 0),none⟩
theorem Zts:Zan Tryz.prog aw15.f aw15.args aw15.r aw15.fr:=Zad (n:=100000) (l:=[]) follows Zae trivial (by kernel_rfl)
def aw16:Fact:=⟨162,[(.int .i64 0),(.eptr (.agg (.gen [(.list (.big .str [(.str [115,97,102,101]),(.str [99,114,117,105,115,101]),(.str [98,117,114,110])])),(.list (.big (.agg [.str,(.int .i64)]) [(.agg (.gen [(.str [119,97,107,101]),(.int .i64 1)])),(.agg (.gen [(.str [102,105,114,101]),(.int .i64 2)])),(.agg (.gen [(.str [115,116,111,112]),(.int .i64 1)])),(.agg (.gen [(.str [112,105,110,103]),(.int .i64 (-1))]))])),(.list (.big (.agg [.str,(.int .i64),(.int .i64),(.int .i64),(.int .i64)]) [(.agg (.gen [(.str [99,111,108,100]),(.int .i64 1),(.int .i64 0),(.int .i64 (-1)),(.int .i64 1)])),(.agg (.gen [(.str [104,101,97,116]),(.int .i64 1),(.int .i64 (-1)),(.int .i64 2),(.int .i64 50)]))]))])) 0)],(.str [119,97,107,101]),none⟩
theorem ZwB:Zan Tryz.prog aw16.f aw16.args aw16.r aw16.fr:=Zad (n:=100000) (l:=[]) follows Zae trivial (by kernel_rfl)
def aw17:Fact:=⟨182,[(.str [119,97,107,101])],(.bool true),none⟩
theorem Zs0:Zan Tryz.prog aw17.f aw17.args aw17.r aw17.fr:=Zad (n:=100000) (l:=[]) follows Zae trivial (by kernel_rfl)
def aw18:Fact:=⟨82,[(.int .i64 1),(.int .i64 0),(.int .i64 2)],(.bool true),none⟩
theorem ZvU:Zan Tryz.prog aw18.f aw18.args aw18.r aw18.fr:=Zad (n:=100000) (l:=[]) follows Zae trivial (by kernel_rfl)
def aw19:Fact:=⟨158,[(.int .i64 1),(.int .i64 3)],(.bool true),none⟩
theorem ZnJ:Zan Tryz.prog aw19.f aw19.args aw19.r aw19.fr:=Zad (n:=100000) (l:=[aw18]) follows Zae ⟨ZvU,trivial⟩ (by kernel_rfl)
def aw20:Fact:=⟨68,[(.bool true),(.int .i64 6)],(.int .i64 0),none⟩
theorem ZcL:Zan Tryz.prog aw20.f aw20.args aw20.r aw20.fr:=Zad (n:=100000) (l:=[]) follows Zae trivial (by kernel_rfl)
def aw21:Fact:=⟨163,[(.int .i64 0),(.eptr (.fn 158 []) 0),(.eptr (.agg (.gen [(.list (.big .str [(.str [115,97,102,101]),(.str [99,114,117,105,115,101]),(.str [98,117,114,110])])),(.list (.big (.agg [.str,(.int .i64)]) [(.agg (.gen [(.str [119,97,107,101]),(.int .i64 1)])),(.agg (.gen [(.str [102,105,114,101]),(.int .i64 2)])),(.agg (.gen [(.str [115,116,111,112]),(.int .i64 1)])),(.agg (.gen [(.str [112,105,110,103]),(.int .i64 (-1))]))])),(.list (.big (.agg [.str,(.int .i64),(.int .i64),(.int .i64),(.int .i64)]) [(.agg (.gen [(.str [99,111,108,100]),(.int .i64 1),(.int .i64 0),(.int .i64 (-1)),(.int .i64 1)])),(.agg (.gen [(.str [104,101,97,116]),(.int .i64 1),(.int .i64 (-1)),(.int .i64 2),(.int .i64 50)]))]))])) 0),(.eptr (.int .i64 3) 0)],(.int .i64 0),none⟩
theorem Zvg:Zan Tryz.prog aw21.f aw21.args aw21.r aw21.fr:=Zad (n:=100000) (l:=[aw19,aw20]) follows Zae ⟨ZnJ,⟨ZcL,trivial⟩⟩ (by kernel_rfl)
def aw22:Fact:=⟨162,[(.int .i64 1),(.eptr (.agg (.gen [(.list (.big .str [(.str [115,97,102,101]),(.str [99,114,117,105,115,101]),(.str [98,117,114,110])])),(.list (.big (.agg [.str,(.int .i64)]) [(.agg (.gen [(.str [119,97,107,101]),(.int .i64 1)])),(.agg (.gen [(.str [102,105,114,101]),(.int .i64 2)])),(.agg (.gen [(.str [115,116,111,112]),(.int .i64 1)])),(.agg (.gen [(.str [112,105,110,103]),(.int .i64 (-1))]))])),(.list (.big (.agg [.str,(.int .i64),(.int .i64),(.int .i64),(.int .i64)]) [(.agg (.gen [(.str [99,111,108,100]),(.int .i64 1),(.int .i64 0),(.int .i64 (-1)),(.int .i64 1)])),(.agg (.gen [(.str [104,101,97,116]),(.int .i64 1),(.int .i64 (-1)),(.int .i64 2),(.int .i64 50)]))]))])) 0)],(.str [102,105,114,101]),none⟩
theorem ZwA:Zan Tryz.prog aw22.f aw22.args aw22.r aw22.fr:=Zad (n:=100000) (l:=[]) follows Zae trivial (by kernel_rfl)
def aw23:Fact:=⟨182,[(.str [102,105,114,101])],(.bool true),none⟩
theorem ZtL:Zan Tryz.prog aw23.f aw23.args aw23.r aw23.fr:=Zad (n:=100000) (l:=[]) follows Zae trivial (by kernel_rfl)
def aw24:Fact:=⟨82,[(.int .i64 2),(.int .i64 0),(.int .i64 2)],(.bool true),none⟩
theorem ZuB:Zan Tryz.prog aw24.f aw24.args aw24.r aw24.fr:=Zad (n:=100000) (l:=[]) follows Zae trivial (by kernel_rfl)
def aw25:Fact:=⟨158,[(.int .i64 2),(.int .i64 3)],(.bool true),none⟩
theorem Zwj:Zan Tryz.prog aw25.f aw25.args aw25.r aw25.fr:=Zad (n:=100000) (l:=[aw24]) follows Zae ⟨ZuB,trivial⟩ (by kernel_rfl)
def aw26:Fact:=⟨163,[(.int .i64 1),(.eptr (.fn 158 []) 0),(.eptr (.agg (.gen [(.list (.big .str [(.str [115,97,102,101]),(.str [99,114,117,105,115,101]),(.str [98,117,114,110])])),(.list (.big (.agg [.str,(.int .i64)]) [(.agg (.gen [(.str [119,97,107,101]),(.int .i64 1)])),(.agg (.gen [(.str [102,105,114,101]),(.int .i64 2)])),(.agg (.gen [(.str [115,116,111,112]),(.int .i64 1)])),(.agg (.gen [(.str [112,105,110,103]),(.int .i64 (-1))]))])),(.list (.big (.agg [.str,(.int .i64),(.int .i64),(.int .i64),(.int .i64)]) [(.agg (.gen [(.str [99,111,108,100]),(.int .i64 1),(.int .i64 0),(.int .i64 (-1)),(.int .i64 1)])),(.agg (.gen [(.str [104,101,97,116]),(.int .i64 1),(.int .i64 (-1)),(.int .i64 2),(.int .i64 50)]))]))])) 0),(.eptr (.int .i64 3) 0)],(.int .i64 0),none⟩
theorem Zt6:Zan Tryz.prog aw26.f aw26.args aw26.r aw26.fr:=Zad (n:=100000) (l:=[aw25,aw20]) follows Zae ⟨Zwj,⟨ZcL,trivial⟩⟩ (by kernel_rfl)
def aw27:Fact:=⟨162,[(.int .i64 2),(.eptr (.agg (.gen [(.list (.big .str [(.str [115,97,102,101]),(.str [99,114,117,105,115,101]),(.str [98,117,114,110])])),(.list (.big (.agg [.str,(.int .i64)]) [(.agg (.gen [(.str [119,97,107,101]),(.int .i64 1)])),(.agg (.gen [(.str [102,105,114,101]),(.int .i64 2)])),(.agg (.gen [(.str [115,116,111,112]),(.int .i64 1)])),(.agg (.gen [(.str [112,105,110,103]),(.int .i64 (-1))]))])),(.list (.big (.agg [.str,(.int .i64),(.int .i64),(.int .i64),(.int .i64)]) [(.agg (.gen [(.str [99,111,108,100]),(.int .i64 1),(.int .i64 0),(.int .i64 (-1)),(.int .i64 1)])),(.agg (.gen [(.str [104,101,97,116]),(.int .i64 1),(.int .i64 (-1)),(.int .i64 2),(.int .i64 50)]))]))])) 0)],(.str [115,116,111,112]),none⟩
theorem ZtZ:Zan Tryz.prog aw27.f aw27.args aw27.r aw27.fr:=Zad (n:=100000) (l:=[]) follows Zae trivial (by kernel_rfl)
def aw28:Fact:=⟨182,[(.str [115,116,111,112])],(.bool true),none⟩
theorem Zvy:Zan Tryz.prog aw28.f aw28.args aw28.r aw28.fr:=Zad (n:=100000) (l:=[]) follows Zae trivial (by kernel_rfl)
def aw29:Fact:=⟨163,[(.int .i64 2),(.eptr (.fn 158 []) 0),(.eptr (.agg (.gen [(.list (.big .str [(.str [115,97,102,101]),(.str [99,114,117,105,115,101]),(.str [98,117,114,110])])),(.list (.big (.agg [.str,(.int .i64)]) [(.agg (.gen [(.str [119,97,107,101]),(.int .i64 1)])),(.agg (.gen [(.str [102,105,114,101]),(.int .i64 2)])),(.agg (.gen [(.str [115,116,111,112]),(.int .i64 1)])),(.agg (.gen [(.str [112,105,110,103]),(.int .i64 (-1))]))])),(.list (.big (.agg [.str,(.int .i64),(.int .i64),(.int .i64),(.int .i64)]) [(.agg (.gen [(.str [99,111,108,100]),(.int .i64 1),(.int .i64 0),(.int .i64 (-1)),(.int .i64 1)])),(.agg (.gen [(.str [104,101,97,116]),(.int .i64 1),(.int .i64 (-1)),(.int .i64 2),(.int .i64 50)]))]))])) 0),(.eptr (.int .i64 3) 0)],(.int .i64 0),none⟩
theorem Zws:Zan Tryz.prog aw29.f aw29.args aw29.r aw29.fr:=Zad (n:=100000) (l:=[aw19,aw20]) follows Zae ⟨ZnJ,⟨ZcL,trivial⟩⟩ (by kernel_rfl)
def aw30:Fact:=⟨162,[(.int .i64 3),(.eptr (.agg (.gen [(.list (.big .str [(.str [115,97,102,101]),(.str [99,114,117,105,115,101]),(.str [98,117,114,110])])),(.list (.big (.agg [.str,(.int .i64)]) [(.agg (.gen [(.str [119,97,107,101]),(.int .i64 1)])),(.agg (.gen [(.str [102,105,114,101]),(.int .i64 2)])),(.agg (.gen [(.str [115,116,111,112]),(.int .i64 1)])),(.agg (.gen [(.str [112,105,110,103]),(.int .i64 (-1))]))])),(.list (.big (.agg [.str,(.int .i64),(.int .i64),(.int .i64),(.int .i64)]) [(.agg (.gen [(.str [99,111,108,100]),(.int .i64 1),(.int .i64 0),(.int .i64 (-1)),(.int .i64 1)])),(.agg (.gen [(.str [104,101,97,116]),(.int .i64 1),(.int .i64 (-1)),(.int .i64 2),(.int .i64 50)]))]))])) 0)],(.str [112,105,110,103]),none⟩
theorem ZwF:Zan Tryz.prog aw30.f aw30.args aw30.r aw30.fr:=Zad (n:=100000) (l:=[]) follows Zae trivial (by kernel_rfl)
def aw31:Fact:=⟨182,[(.str [112,105,110,103])],(.bool true),none⟩
theorem ZsR:Zan Tryz.prog aw31.f aw31.args aw31.r aw31.fr:=Zad (n:=100000) (l:=[]) follows Zae trivial (by kernel_rfl)
def aw32:Fact:=⟨158,[(.int .i64 (-1)),(.int .i64 3)],(.bool true),none⟩
theorem Zpl:Zan Tryz.prog aw32.f aw32.args aw32.r aw32.fr:=Zad (n:=100000) (l:=[]) follows Zae trivial (by kernel_rfl)
def aw33:Fact:=⟨163,[(.int .i64 3),(.eptr (.fn 158 []) 0),(.eptr (.agg (.gen [(.list (.big .str [(.str [115,97,102,101]),(.str [99,114,117,105,115,101]),(.str [98,117,114,110])])),(.list (.big (.agg [.str,(.int .i64)]) [(.agg (.gen [(.str [119,97,107,101]),(.int .i64 1)])),(.agg (.gen [(.str [102,105,114,101]),(.int .i64 2)])),(.agg (.gen [(.str [115,116,111,112]),(.int .i64 1)])),(.agg (.gen [(.str [112,105,110,103]),(.int .i64 (-1))]))])),(.list (.big (.agg [.str,(.int .i64),(.int .i64),(.int .i64),(.int .i64)]) [(.agg (.gen [(.str [99,111,108,100]),(.int .i64 1),(.int .i64 0),(.int .i64 (-1)),(.int .i64 1)])),(.agg (.gen [(.str [104,101,97,116]),(.int .i64 1),(.int .i64 (-1)),(.int .i64 2),(.int .i64 50)]))]))])) 0),(.eptr (.int .i64 3) 0)],(.int .i64 0),none⟩
theorem Zvm:Zan Tryz.prog aw33.f aw33.args aw33.r aw33.fr:=Zad (n:=100000) (l:=[aw32,aw20]) follows Zae ⟨Zpl,⟨ZcL,trivial⟩⟩ (by kernel_rfl)
def aw34:Fact:=⟨164,[(.int .i64 0),(.eptr (.agg (.gen [(.list (.big .str [(.str [115,97,102,101]),(.str [99,114,117,105,115,101]),(.str [98,117,114,110])])),(.list (.big (.agg [.str,(.int .i64)]) [(.agg (.gen [(.str [119,97,107,101]),(.int .i64 1)])),(.agg (.gen [(.str [102,105,114,101]),(.int .i64 2)])),(.agg (.gen [(.str [115,116,111,112]),(.int .i64 1)])),(.agg (.gen [(.str [112,105,110,103]),(.int .i64 (-1))]))])),(.list (.big (.agg [.str,(.int .i64),(.int .i64),(.int .i64),(.int .i64)]) [(.agg (.gen [(.str [99,111,108,100]),(.int .i64 1),(.int .i64 0),(.int .i64 (-1)),(.int .i64 1)])),(.agg (.gen [(.str [104,101,97,116]),(.int .i64 1),(.int .i64 (-1)),(.int .i64 2),(.int .i64 50)]))]))])) 0)],(.str [99,111,108,100]),none⟩
theorem Zu7:Zan Tryz.prog aw34.f aw34.args aw34.r aw34.fr:=Zad (n:=100000) (l:=[]) follows Zae trivial (by kernel_rfl)
def aw35:Fact:=⟨182,[(.str [99,111,108,100])],(.bool true),none⟩
theorem Zu4:Zan Tryz.prog aw35.f aw35.args aw35.r aw35.fr:=Zad (n:=100000) (l:=[]) follows Zae trivial (by kernel_rfl)
def aw36:Fact:=⟨82,[(.int .i64 1),(.int .i64 0),(.int .i64 3)],(.bool true),none⟩
theorem Zgz:Zan Tryz.prog aw36.f aw36.args aw36.r aw36.fr:=Zad (n:=100000) (l:=[]) follows Zae trivial (by kernel_rfl)
def aw37:Fact:=⟨82,[(.int .i64 0),(.int .i64 0),(.int .i64 2)],(.bool true),none⟩
theorem ZpE:Zan Tryz.prog aw37.f aw37.args aw37.r aw37.fr:=Zad (n:=100000) (l:=[]) follows Zae trivial (by kernel_rfl)
def aw38:Fact:=⟨158,[(.int .i64 0),(.int .i64 3)],(.bool true),none⟩
theorem ZtS:Zan Tryz.prog aw38.f aw38.args aw38.r aw38.fr:=Zad (n:=100000) (l:=[aw37]) follows Zae ⟨ZpE,trivial⟩ (by kernel_rfl)
def aw39:Fact:=⟨158,[(.int .i64 (-1)),(.int .i64 4)],(.bool true),none⟩
theorem ZwH:Zan Tryz.prog aw39.f aw39.args aw39.r aw39.fr:=Zad (n:=100000) (l:=[]) follows Zae trivial (by kernel_rfl)
def aw40:Fact:=⟨82,[(.int .i64 1),(.int .i64 1),(.int .i64 1000000)],(.bool true),none⟩
theorem ZwJ:Zan Tryz.prog aw40.f aw40.args aw40.r aw40.fr:=Zad (n:=100000) (l:=[]) follows Zae trivial (by kernel_rfl)
def aw41:Fact:=⟨68,[(.bool true),(.int .i64 2)],(.int .i64 0),none⟩
theorem ZbQ:Zan Tryz.prog aw41.f aw41.args aw41.r aw41.fr:=Zad (n:=100000) (l:=[]) follows Zae trivial (by kernel_rfl)
def aw42:Fact:=⟨68,[(.bool true),(.int .i64 3)],(.int .i64 0),none⟩
theorem ZoA:Zan Tryz.prog aw42.f aw42.args aw42.r aw42.fr:=Zad (n:=100000) (l:=[]) follows Zae trivial (by kernel_rfl)
def aw43:Fact:=⟨165,[(.int .i64 0),(.eptr (.agg (.gen [(.list (.big .str [(.str [115,97,102,101]),(.str [99,114,117,105,115,101]),(.str [98,117,114,110])])),(.list (.big (.agg [.str,(.int .i64)]) [(.agg (.gen [(.str [119,97,107,101]),(.int .i64 1)])),(.agg (.gen [(.str [102,105,114,101]),(.int .i64 2)])),(.agg (.gen [(.str [115,116,111,112]),(.int .i64 1)])),(.agg (.gen [(.str [112,105,110,103]),(.int .i64 (-1))]))])),(.list (.big (.agg [.str,(.int .i64),(.int .i64),(.int .i64),(.int .i64)]) [(.agg (.gen [(.str [99,111,108,100]),(.int .i64 1),(.int .i64 0),(.int .i64 (-1)),(.int .i64 1)])),(.agg (.gen [(.str [104,101,97,116]),(.int .i64 1),(.int .i64 (-1)),(.int .i64 2),(.int .i64 50)]))]))])) 0),(.eptr (.int .i64 4) 0),(.eptr (.fn 158 []) 0),(.eptr (.int .i64 3) 0)],(.int .i64 0),none⟩
theorem ZtP:Zan Tryz.prog aw43.f aw43.args aw43.r aw43.fr:=Zad (n:=100000) (l:=[aw36,aw38,aw39,aw20,aw40,aw41,aw42,aw9]) follows Zae ⟨Zgz,⟨ZtS,⟨ZwH,⟨ZcL,⟨ZwJ,⟨ZbQ,⟨ZoA,⟨ZfS,trivial⟩⟩⟩⟩⟩⟩⟩⟩ (by kernel_rfl)
def aw44:Fact:=⟨164,[(.int .i64 1),(.eptr (.agg (.gen [(.list (.big .str [(.str [115,97,102,101]),(.str [99,114,117,105,115,101]),(.str [98,117,114,110])])),(.list (.big (.agg [.str,(.int .i64)]) [(.agg (.gen [(.str [119,97,107,101]),(.int .i64 1)])),(.agg (.gen [(.str [102,105,114,101]),(.int .i64 2)])),(.agg (.gen [(.str [115,116,111,112]),(.int .i64 1)])),(.agg (.gen [(.str [112,105,110,103]),(.int .i64 (-1))]))])),(.list (.big (.agg [.str,(.int .i64),(.int .i64),(.int .i64),(.int .i64)]) [(.agg (.gen [(.str [99,111,108,100]),(.int .i64 1),(.int .i64 0),(.int .i64 (-1)),(.int .i64 1)])),(.agg (.gen [(.str [104,101,97,116]),(.int .i64 1),(.int .i64 (-1)),(.int .i64 2),(.int .i64 50)]))]))])) 0)],(.str [104,101,97,116]),none⟩
theorem Zt9:Zan Tryz.prog aw44.f aw44.args aw44.r aw44.fr:=Zad (n:=100000) (l:=[]) follows Zae trivial (by kernel_rfl)
def aw45:Fact:=⟨182,[(.str [104,101,97,116])],(.bool true),none⟩
theorem ZtV:Zan Tryz.prog aw45.f aw45.args aw45.r aw45.fr:=Zad (n:=100000) (l:=[]) follows Zae trivial (by kernel_rfl)
def aw46:Fact:=⟨82,[(.int .i64 2),(.int .i64 0),(.int .i64 3)],(.bool true),none⟩
theorem ZnY:Zan Tryz.prog aw46.f aw46.args aw46.r aw46.fr:=Zad (n:=100000) (l:=[]) follows Zae trivial (by kernel_rfl)
def aw47:Fact:=⟨158,[(.int .i64 2),(.int .i64 4)],(.bool true),none⟩
theorem Zwo:Zan Tryz.prog aw47.f aw47.args aw47.r aw47.fr:=Zad (n:=100000) (l:=[aw46]) follows Zae ⟨ZnY,trivial⟩ (by kernel_rfl)
def aw48:Fact:=⟨82,[(.int .i64 50),(.int .i64 1),(.int .i64 1000000)],(.bool true),none⟩
theorem ZvM:Zan Tryz.prog aw48.f aw48.args aw48.r aw48.fr:=Zad (n:=100000) (l:=[]) follows Zae trivial (by kernel_rfl)
def aw49:Fact:=⟨165,[(.int .i64 1),(.eptr (.agg (.gen [(.list (.big .str [(.str [115,97,102,101]),(.str [99,114,117,105,115,101]),(.str [98,117,114,110])])),(.list (.big (.agg [.str,(.int .i64)]) [(.agg (.gen [(.str [119,97,107,101]),(.int .i64 1)])),(.agg (.gen [(.str [102,105,114,101]),(.int .i64 2)])),(.agg (.gen [(.str [115,116,111,112]),(.int .i64 1)])),(.agg (.gen [(.str [112,105,110,103]),(.int .i64 (-1))]))])),(.list (.big (.agg [.str,(.int .i64),(.int .i64),(.int .i64),(.int .i64)]) [(.agg (.gen [(.str [99,111,108,100]),(.int .i64 1),(.int .i64 0),(.int .i64 (-1)),(.int .i64 1)])),(.agg (.gen [(.str [104,101,97,116]),(.int .i64 1),(.int .i64 (-1)),(.int .i64 2),(.int .i64 50)]))]))])) 0),(.eptr (.int .i64 4) 0),(.eptr (.fn 158 []) 0),(.eptr (.int .i64 3) 0)],(.int .i64 0),none⟩
theorem ZvB:Zan Tryz.prog aw49.f aw49.args aw49.r aw49.fr:=Zad (n:=100000) (l:=[aw36,aw32,aw47,aw20,aw48,aw41,aw42,aw9]) follows Zae ⟨Zgz,⟨Zpl,⟨Zwo,⟨ZcL,⟨ZvM,⟨ZbQ,⟨ZoA,⟨ZfS,trivial⟩⟩⟩⟩⟩⟩⟩⟩ (by kernel_rfl)
def aw50:Fact:=⟨136,[(.agg (.gen [(.list (.big .str [(.str [115,97,102,101]),(.str [99,114,117,105,115,101]),(.str [98,117,114,110])])),(.list (.big (.agg [.str,(.int .i64)]) [(.agg (.gen [(.str [119,97,107,101]),(.int .i64 1)])),(.agg (.gen [(.str [102,105,114,101]),(.int .i64 2)])),(.agg (.gen [(.str [115,116,111,112]),(.int .i64 1)])),(.agg (.gen [(.str [112,105,110,103]),(.int .i64 (-1))]))])),(.list (.big (.agg [.str,(.int .i64),(.int .i64),(.int .i64),(.int .i64)]) [(.agg (.gen [(.str [99,111,108,100]),(.int .i64 1),(.int .i64 0),(.int .i64 (-1)),(.int .i64 1)])),(.agg (.gen [(.str [104,101,97,116]),(.int .i64 1),(.int .i64 (-1)),(.int .i64 2),(.int .i64 50)]))]))]))],(.tup [(.agg (.gen [(.int .i64 0),(.int .i64 0)])),(.int .i64 0)]),none⟩
theorem ZsH:Zan Tryz.prog aw50.f aw50.args aw50.r aw50.fr:=Zad (n:=100000) (l:=[aw1,aw2,aw3,aw4,aw5,aw6,aw7,aw8,aw9,aw10,aw11,aw12,aw13,aw14,aw15,aw16,aw17,aw21,aw22,aw23,aw26,aw27,aw28,aw29,aw30,aw31,aw33,aw34,aw35,aw43,aw44,aw45,aw49]) follows Zae ⟨ZoS,⟨Zml,⟨Zl0,⟨Zzu,⟨ZAY,⟨ZzQ,⟨ZBs,⟨ZBg,⟨ZfS,⟨ZuA,⟨Zvz,⟨Zwm,⟨ZsJ,⟨ZvG,⟨Zts,⟨ZwB,⟨Zs0,⟨Zvg,⟨ZwA,⟨ZtL,⟨Zt6,⟨ZtZ,⟨Zvy,⟨Zws,⟨ZwF,⟨ZsR,⟨Zvm,⟨Zu7,⟨Zu4,⟨ZtP,⟨Zt9,⟨ZtV,⟨ZvB,trivial⟩⟩⟩⟩⟩⟩⟩⟩⟩⟩⟩⟩⟩⟩⟩⟩⟩⟩⟩⟩⟩⟩⟩⟩⟩⟩⟩⟩⟩⟩⟩⟩⟩ (by kernel_rfl)
def aw51:Fact:=⟨88,[(.agg (.gen [(.list (.big .str [(.str [115,97,102,101]),(.str [99,114,117,105,115,101]),(.str [98,117,114,110])])),(.list (.big (.agg [.str,(.int .i64)]) [(.agg (.gen [(.str [119,97,107,101]),(.int .i64 1)])),(.agg (.gen [(.str [102,105,114,101]),(.int .i64 2)])),(.agg (.gen [(.str [115,116,111,112]),(.int .i64 1)])),(.agg (.gen [(.str [112,105,110,103]),(.int .i64 (-1))]))])),(.list (.big (.agg [.str,(.int .i64),(.int .i64),(.int .i64),(.int .i64)]) [(.agg (.gen [(.str [99,111,108,100]),(.int .i64 1),(.int .i64 0),(.int .i64 (-1)),(.int .i64 1)])),(.agg (.gen [(.str [104,101,97,116]),(.int .i64 1),(.int .i64 (-1)),(.int .i64 2),(.int .i64 50)]))]))]))],(.int .i64 0),none⟩
theorem ZnL:Zan Tryz.prog aw51.f aw51.args aw51.r aw51.fr:=Zad (n:=100000) (l:=[aw50]) follows Zae ⟨ZsH,trivial⟩ (by kernel_rfl)
def aw52:Fact:=⟨82,[(.int .i64 0),(.int .i64 0),(.int .i64 3)],(.bool true),none⟩
theorem Zuy:Zan Tryz.prog aw52.f aw52.args aw52.r aw52.fr:=Zad (n:=100000) (l:=[]) follows Zae trivial (by kernel_rfl)
def aw53:Fact:=⟨68,[(.bool true),(.int .i64 15)],(.int .i64 0),none⟩
theorem Zg5:Zan Tryz.prog aw53.f aw53.args aw53.r aw53.fr:=Zad (n:=100000) (l:=[]) follows Zae trivial (by kernel_rfl)
def aw54:Fact:=⟨82,[(.int .i64 0),(.int .i64 0),(.int .i64 1000000000000)],(.bool true),none⟩
theorem Ztl:Zan Tryz.prog aw54.f aw54.args aw54.r aw54.fr:=Zad (n:=100000) (l:=[]) follows Zae trivial (by kernel_rfl)
def aw55:Fact:=⟨89,[(.int .i64 0)],(.bool true),none⟩
theorem Zn8:Zan Tryz.prog aw55.f aw55.args aw55.r aw55.fr:=Zad (n:=100000) (l:=[aw54]) follows Zae ⟨Ztl,trivial⟩ (by kernel_rfl)
def aw56:Fact:=⟨82,[(.int .i64 100),(.int .i64 0),(.int .i64 1000000000000)],(.bool true),none⟩
theorem Ztu:Zan Tryz.prog aw56.f aw56.args aw56.r aw56.fr:=Zad (n:=100000) (l:=[]) follows Zae trivial (by kernel_rfl)
def aw57:Fact:=⟨89,[(.int .i64 100)],(.bool true),none⟩
theorem Zvu:Zan Tryz.prog aw57.f aw57.args aw57.r aw57.fr:=Zad (n:=100000) (l:=[aw56]) follows Zae ⟨Ztu,trivial⟩ (by kernel_rfl)
def aw58:Fact:=⟨68,[(.bool true),(.int .i64 9)],(.int .i64 0),none⟩
theorem ZiI:Zan Tryz.prog aw58.f aw58.args aw58.r aw58.fr:=Zad (n:=100000) (l:=[]) follows Zae trivial (by kernel_rfl)
def aw59:Fact:=⟨120,[(.agg (.gen [(.list (.big .str [(.str [115,97,102,101]),(.str [99,114,117,105,115,101]),(.str [98,117,114,110])])),(.list (.big (.agg [.str,(.int .i64)]) [(.agg (.gen [(.str [119,97,107,101]),(.int .i64 1)])),(.agg (.gen [(.str [102,105,114,101]),(.int .i64 2)])),(.agg (.gen [(.str [115,116,111,112]),(.int .i64 1)])),(.agg (.gen [(.str [112,105,110,103]),(.int .i64 (-1))]))])),(.list (.big (.agg [.str,(.int .i64),(.int .i64),(.int .i64),(.int .i64)]) [(.agg (.gen [(.str [99,111,108,100]),(.int .i64 1),(.int .i64 0),(.int .i64 (-1)),(.int .i64 1)])),(.agg (.gen [(.str [104,101,97,116]),(.int .i64 1),(.int .i64 (-1)),(.int .i64 2),(.int .i64 50)]))]))])),(.agg (.gen [(.int .i64 0),(.int .i64 0),(.int .i64 100)]))],(.int .i64 0),none⟩
theorem ZwL:Zan Tryz.prog aw59.f aw59.args aw59.r aw59.fr:=Zad (n:=100000) (l:=[aw52,aw53,aw55,aw57,aw41,aw58,aw9]) follows Zae ⟨Zuy,⟨Zg5,⟨Zn8,⟨Zvu,⟨ZbQ,⟨ZiI,⟨ZfS,trivial⟩⟩⟩⟩⟩⟩⟩ (by kernel_rfl)
def aw60:Fact:=⟨82,[(.int .i64 20),(.int .i64 0),(.int .i64 1000000000000)],(.bool true),none⟩
theorem Zwq:Zan Tryz.prog aw60.f aw60.args aw60.r aw60.fr:=Zad (n:=100000) (l:=[]) follows Zae trivial (by kernel_rfl)
def aw61:Fact:=⟨89,[(.int .i64 20)],(.bool true),none⟩
theorem ZtB:Zan Tryz.prog aw61.f aw61.args aw61.r aw61.fr:=Zad (n:=100000) (l:=[aw60]) follows Zae ⟨Zwq,trivial⟩ (by kernel_rfl)
def aw62:Fact:=⟨82,[(.int .i64 200),(.int .i64 0),(.int .i64 1000000000000)],(.bool true),none⟩
theorem Zt0:Zan Tryz.prog aw62.f aw62.args aw62.r aw62.fr:=Zad (n:=100000) (l:=[]) follows Zae trivial (by kernel_rfl)
def aw63:Fact:=⟨89,[(.int .i64 200)],(.bool true),none⟩
theorem ZvO:Zan Tryz.prog aw63.f aw63.args aw63.r aw63.fr:=Zad (n:=100000) (l:=[aw62]) follows Zae ⟨Zt0,trivial⟩ (by kernel_rfl)
def aw64:Fact:=⟨120,[(.agg (.gen [(.list (.big .str [(.str [115,97,102,101]),(.str [99,114,117,105,115,101]),(.str [98,117,114,110])])),(.list (.big (.agg [.str,(.int .i64)]) [(.agg (.gen [(.str [119,97,107,101]),(.int .i64 1)])),(.agg (.gen [(.str [102,105,114,101]),(.int .i64 2)])),(.agg (.gen [(.str [115,116,111,112]),(.int .i64 1)])),(.agg (.gen [(.str [112,105,110,103]),(.int .i64 (-1))]))])),(.list (.big (.agg [.str,(.int .i64),(.int .i64),(.int .i64),(.int .i64)]) [(.agg (.gen [(.str [99,111,108,100]),(.int .i64 1),(.int .i64 0),(.int .i64 (-1)),(.int .i64 1)])),(.agg (.gen [(.str [104,101,97,116]),(.int .i64 1),(.int .i64 (-1)),(.int .i64 2),(.int .i64 50)]))]))])),(.agg (.gen [(.int .i64 1),(.int .i64 20),(.int .i64 200)]))],(.int .i64 0),none⟩
theorem ZuT:Zan Tryz.prog aw64.f aw64.args aw64.r aw64.fr:=Zad (n:=100000) (l:=[aw36,aw53,aw61,aw63,aw41,aw58,aw9]) follows Zae ⟨Zgz,⟨Zg5,⟨ZtB,⟨ZvO,⟨ZbQ,⟨ZiI,⟨ZfS,trivial⟩⟩⟩⟩⟩⟩⟩ (by kernel_rfl)
def aw65:Fact:=⟨82,[(.int .i64 30),(.int .i64 0),(.int .i64 1000000000000)],(.bool true),none⟩
theorem Zwl:Zan Tryz.prog aw65.f aw65.args aw65.r aw65.fr:=Zad (n:=100000) (l:=[]) follows Zae trivial (by kernel_rfl)
def aw66:Fact:=⟨89,[(.int .i64 30)],(.bool true),none⟩
theorem ZuH:Zan Tryz.prog aw66.f aw66.args aw66.r aw66.fr:=Zad (n:=100000) (l:=[aw65]) follows Zae ⟨Zwl,trivial⟩ (by kernel_rfl)
def aw67:Fact:=⟨82,[(.int .i64 300),(.int .i64 0),(.int .i64 1000000000000)],(.bool true),none⟩
theorem Zt3:Zan Tryz.prog aw67.f aw67.args aw67.r aw67.fr:=Zad (n:=100000) (l:=[]) follows Zae trivial (by kernel_rfl)
def aw68:Fact:=⟨89,[(.int .i64 300)],(.bool true),none⟩
theorem Zvn:Zan Tryz.prog aw68.f aw68.args aw68.r aw68.fr:=Zad (n:=100000) (l:=[aw67]) follows Zae ⟨Zt3,trivial⟩ (by kernel_rfl)
def aw69:Fact:=⟨120,[(.agg (.gen [(.list (.big .str [(.str [115,97,102,101]),(.str [99,114,117,105,115,101]),(.str [98,117,114,110])])),(.list (.big (.agg [.str,(.int .i64)]) [(.agg (.gen [(.str [119,97,107,101]),(.int .i64 1)])),(.agg (.gen [(.str [102,105,114,101]),(.int .i64 2)])),(.agg (.gen [(.str [115,116,111,112]),(.int .i64 1)])),(.agg (.gen [(.str [112,105,110,103]),(.int .i64 (-1))]))])),(.list (.big (.agg [.str,(.int .i64),(.int .i64),(.int .i64),(.int .i64)]) [(.agg (.gen [(.str [99,111,108,100]),(.int .i64 1),(.int .i64 0),(.int .i64 (-1)),(.int .i64 1)])),(.agg (.gen [(.str [104,101,97,116]),(.int .i64 1),(.int .i64 (-1)),(.int .i64 2),(.int .i64 50)]))]))])),(.agg (.gen [(.int .i64 2),(.int .i64 30),(.int .i64 300)]))],(.int .i64 0),none⟩
theorem Zus:Zan Tryz.prog aw69.f aw69.args aw69.r aw69.fr:=Zad (n:=100000) (l:=[aw46,aw53,aw66,aw68,aw41,aw58,aw9]) follows Zae ⟨ZnY,⟨Zg5,⟨ZuH,⟨Zvn,⟨ZbQ,⟨ZiI,⟨ZfS,trivial⟩⟩⟩⟩⟩⟩⟩ (by kernel_rfl)
def aw70:Fact:=⟨82,[(.int .i64 40),(.int .i64 0),(.int .i64 1000000000000)],(.bool true),none⟩
theorem ZuV:Zan Tryz.prog aw70.f aw70.args aw70.r aw70.fr:=Zad (n:=100000) (l:=[]) follows Zae trivial (by kernel_rfl)
def aw71:Fact:=⟨89,[(.int .i64 40)],(.bool true),none⟩
theorem ZsM:Zan Tryz.prog aw71.f aw71.args aw71.r aw71.fr:=Zad (n:=100000) (l:=[aw70]) follows Zae ⟨ZuV,trivial⟩ (by kernel_rfl)
def aw72:Fact:=⟨82,[(.int .i64 400),(.int .i64 0),(.int .i64 1000000000000)],(.bool true),none⟩
theorem Zv5:Zan Tryz.prog aw72.f aw72.args aw72.r aw72.fr:=Zad (n:=100000) (l:=[]) follows Zae trivial (by kernel_rfl)
def aw73:Fact:=⟨89,[(.int .i64 400)],(.bool true),none⟩
theorem ZvR:Zan Tryz.prog aw73.f aw73.args aw73.r aw73.fr:=Zad (n:=100000) (l:=[aw72]) follows Zae ⟨Zv5,trivial⟩ (by kernel_rfl)
def aw74:Fact:=⟨120,[(.agg (.gen [(.list (.big .str [(.str [115,97,102,101]),(.str [99,114,117,105,115,101]),(.str [98,117,114,110])])),(.list (.big (.agg [.str,(.int .i64)]) [(.agg (.gen [(.str [119,97,107,101]),(.int .i64 1)])),(.agg (.gen [(.str [102,105,114,101]),(.int .i64 2)])),(.agg (.gen [(.str [115,116,111,112]),(.int .i64 1)])),(.agg (.gen [(.str [112,105,110,103]),(.int .i64 (-1))]))])),(.list (.big (.agg [.str,(.int .i64),(.int .i64),(.int .i64),(.int .i64)]) [(.agg (.gen [(.str [99,111,108,100]),(.int .i64 1),(.int .i64 0),(.int .i64 (-1)),(.int .i64 1)])),(.agg (.gen [(.str [104,101,97,116]),(.int .i64 1),(.int .i64 (-1)),(.int .i64 2),(.int .i64 50)]))]))])),(.agg (.gen [(.int .i64 1),(.int .i64 40),(.int .i64 400)]))],(.int .i64 0),none⟩
theorem Zup:Zan Tryz.prog aw74.f aw74.args aw74.r aw74.fr:=Zad (n:=100000) (l:=[aw36,aw53,aw71,aw73,aw41,aw58,aw9]) follows Zae ⟨Zgz,⟨Zg5,⟨ZsM,⟨ZvR,⟨ZbQ,⟨ZiI,⟨ZfS,trivial⟩⟩⟩⟩⟩⟩⟩ (by kernel_rfl)
def aw75:Fact:=⟨71,[(.agg (.gen [(.list (.big .str [(.str [115,97,102,101]),(.str [99,114,117,105,115,101]),(.str [98,117,114,110])])),(.list (.big (.agg [.str,(.int .i64)]) [(.agg (.gen [(.str [119,97,107,101]),(.int .i64 1)])),(.agg (.gen [(.str [102,105,114,101]),(.int .i64 2)])),(.agg (.gen [(.str [115,116,111,112]),(.int .i64 1)])),(.agg (.gen [(.str [112,105,110,103]),(.int .i64 (-1))]))])),(.list (.big (.agg [.str,(.int .i64),(.int .i64),(.int .i64),(.int .i64)]) [(.agg (.gen [(.str [99,111,108,100]),(.int .i64 1),(.int .i64 0),(.int .i64 (-1)),(.int .i64 1)])),(.agg (.gen [(.str [104,101,97,116]),(.int .i64 1),(.int .i64 (-1)),(.int .i64 2),(.int .i64 50)]))]))])),(.list (.big (.agg [(.int .i64),(.int .i64),(.int .i64)]) [(.agg (.gen [(.int .i64 0),(.int .i64 0),(.int .i64 100)])),(.agg (.gen [(.int .i64 1),(.int .i64 20),(.int .i64 200)])),(.agg (.gen [(.int .i64 2),(.int .i64 30),(.int .i64 300)])),(.agg (.gen [(.int .i64 1),(.int .i64 40),(.int .i64 400)]))]))],(.tup [(.int .i64 0),(.int .i64 0)]),none⟩
theorem Zo9:Zan Tryz.prog aw75.f aw75.args aw75.r aw75.fr:=Zad (n:=100000) (l:=[aw51,aw1,aw2,aw9,aw59,aw64,aw69,aw74]) follows Zae ⟨ZnL,⟨ZoS,⟨Zml,⟨ZfS,⟨ZwL,⟨ZuT,⟨Zus,⟨Zup,trivial⟩⟩⟩⟩⟩⟩⟩⟩ (by kernel_rfl)
def aw76:Fact:=⟨179,[(.int .u64 1),(.int .u64 4)],(.tup [(.int .u64 0),(.int .u64 4)]),none⟩
theorem ZvV:Zan Tryz.prog aw76.f aw76.args aw76.r aw76.fr:=Zad (n:=100000) (l:=[]) follows Zae trivial (by kernel_rfl)
def aw77:Fact:=⟨152,[(.int .u64 1),(.int .u64 4)],(.tup [(.int .u64 0),(.int .u64 4)]),none⟩
theorem Zuj:Zan Tryz.prog aw77.f aw77.args aw77.r aw77.fr:=Zad (n:=100000) (l:=[aw76]) follows Zae ⟨ZvV,trivial⟩ (by kernel_rfl)
def aw78:Fact:=⟨121,[(.list (.ints .i64 [(-1)])),(.int .i64 4)],(.row 0 0),(some ⟨3,1,(.ints .i64 [(-1),(-1),(-1),(-1)])⟩)⟩
theorem Zk6:Zan Tryz.prog aw78.f aw78.args aw78.r aw78.fr:=Zad (n:=100000) (l:=[aw77]) follows Zae ⟨Zuj,trivial⟩ (by kernel_rfl)
def aw79:Fact:=⟨122,[(.eptr (.agg (.gen [(.list (.big .str [(.str [115,97,102,101]),(.str [99,114,117,105,115,101]),(.str [98,117,114,110])])),(.list (.big (.agg [.str,(.int .i64)]) [(.agg (.gen [(.str [119,97,107,101]),(.int .i64 1)])),(.agg (.gen [(.str [102,105,114,101]),(.int .i64 2)])),(.agg (.gen [(.str [115,116,111,112]),(.int .i64 1)])),(.agg (.gen [(.str [112,105,110,103]),(.int .i64 (-1))]))])),(.list (.big (.agg [.str,(.int .i64),(.int .i64),(.int .i64),(.int .i64)]) [(.agg (.gen [(.str [99,111,108,100]),(.int .i64 1),(.int .i64 0),(.int .i64 (-1)),(.int .i64 1)])),(.agg (.gen [(.str [104,101,97,116]),(.int .i64 1),(.int .i64 (-1)),(.int .i64 2),(.int .i64 50)]))])),(.int .i64 0),(.int .i64 0),(.list (.ints .i64 [(-1),(-1),(-1),(-1)]))])) 0),(.agg (.gen [(.str [104,101,97,116]),(.int .i64 1),(.int .i64 (-1)),(.int .i64 2),(.int .i64 50)])),(.int .i64 0)],(.bool false),none⟩
theorem Zwu:Zan Tryz.prog aw79.f aw79.args aw79.r aw79.fr:=Zad (n:=100000) (l:=[]) follows Zae trivial (by kernel_rfl)
def aw80:Fact:=⟨82,[(.int .i64 0),(.int .i64 0),(.int .i64 100)],(.bool true),none⟩
theorem Zwr:Zan Tryz.prog aw80.f aw80.args aw80.r aw80.fr:=Zad (n:=100000) (l:=[]) follows Zae trivial (by kernel_rfl)
def aw81:Fact:=⟨91,[(.eptr (.agg (.gen [(.list (.big .str [(.str [115,97,102,101]),(.str [99,114,117,105,115,101]),(.str [98,117,114,110])])),(.list (.big (.agg [.str,(.int .i64)]) [(.agg (.gen [(.str [119,97,107,101]),(.int .i64 1)])),(.agg (.gen [(.str [102,105,114,101]),(.int .i64 2)])),(.agg (.gen [(.str [115,116,111,112]),(.int .i64 1)])),(.agg (.gen [(.str [112,105,110,103]),(.int .i64 (-1))]))])),(.list (.big (.agg [.str,(.int .i64),(.int .i64),(.int .i64),(.int .i64)]) [(.agg (.gen [(.str [99,111,108,100]),(.int .i64 1),(.int .i64 0),(.int .i64 (-1)),(.int .i64 1)])),(.agg (.gen [(.str [104,101,97,116]),(.int .i64 1),(.int .i64 (-1)),(.int .i64 2),(.int .i64 50)]))])),(.int .i64 0),(.int .i64 0),(.list (.ints .i64 [(-1),(-1),(-1),(-1)]))])) 0),(.int .i64 0)],(.val (.pointer none)),none⟩
theorem Zwh:Zan Tryz.prog aw81.f aw81.args aw81.r aw81.fr:=Zad (n:=100000) (l:=[]) follows Zae trivial (by kernel_rfl)
def aw82:Fact:=⟨123,[(.eptr (.agg (.gen [(.list (.big .str [(.str [115,97,102,101]),(.str [99,114,117,105,115,101]),(.str [98,117,114,110])])),(.list (.big (.agg [.str,(.int .i64)]) [(.agg (.gen [(.str [119,97,107,101]),(.int .i64 1)])),(.agg (.gen [(.str [102,105,114,101]),(.int .i64 2)])),(.agg (.gen [(.str [115,116,111,112]),(.int .i64 1)])),(.agg (.gen [(.str [112,105,110,103]),(.int .i64 (-1))]))])),(.list (.big (.agg [.str,(.int .i64),(.int .i64),(.int .i64),(.int .i64)]) [(.agg (.gen [(.str [99,111,108,100]),(.int .i64 1),(.int .i64 0),(.int .i64 (-1)),(.int .i64 1)])),(.agg (.gen [(.str [104,101,97,116]),(.int .i64 1),(.int .i64 (-1)),(.int .i64 2),(.int .i64 50)]))])),(.int .i64 0),(.int .i64 0),(.list (.ints .i64 [(-1),(-1),(-1),(-1)]))])) 0),(.agg (.gen [(.int .i64 0),(.int .i64 0),(.int .i64 100)]))],(.bool true),none⟩
theorem Zlc:Zan Tryz.prog aw82.f aw82.args aw82.r aw82.fr:=Zad (n:=100000) (l:=[aw80,aw81]) follows Zae ⟨Zwr,⟨Zwh,trivial⟩⟩ (by kernel_rfl)
def aw83:Fact:=⟨122,[(.eptr (.agg (.gen [(.list (.big .str [(.str [115,97,102,101]),(.str [99,114,117,105,115,101]),(.str [98,117,114,110])])),(.list (.big (.agg [.str,(.int .i64)]) [(.agg (.gen [(.str [119,97,107,101]),(.int .i64 1)])),(.agg (.gen [(.str [102,105,114,101]),(.int .i64 2)])),(.agg (.gen [(.str [115,116,111,112]),(.int .i64 1)])),(.agg (.gen [(.str [112,105,110,103]),(.int .i64 (-1))]))])),(.list (.big (.agg [.str,(.int .i64),(.int .i64),(.int .i64),(.int .i64)]) [(.agg (.gen [(.str [99,111,108,100]),(.int .i64 1),(.int .i64 0),(.int .i64 (-1)),(.int .i64 1)])),(.agg (.gen [(.str [104,101,97,116]),(.int .i64 1),(.int .i64 (-1)),(.int .i64 2),(.int .i64 50)]))])),(.int .i64 1),(.int .i64 20),(.list (.ints .i64 [0,(-1),(-1),(-1)]))])) 0),(.agg (.gen [(.str [104,101,97,116]),(.int .i64 1),(.int .i64 (-1)),(.int .i64 2),(.int .i64 50)])),(.int .i64 1)],(.bool true),none⟩
theorem Zwa:Zan Tryz.prog aw83.f aw83.args aw83.r aw83.fr:=Zad (n:=100000) (l:=[]) follows Zae trivial (by kernel_rfl)
def aw84:Fact:=⟨82,[(.int .i64 20),(.int .i64 20),(.int .i64 200)],(.bool true),none⟩
theorem ZuS:Zan Tryz.prog aw84.f aw84.args aw84.r aw84.fr:=Zad (n:=100000) (l:=[]) follows Zae trivial (by kernel_rfl)
def aw85:Fact:=⟨91,[(.eptr (.agg (.gen [(.list (.big .str [(.str [115,97,102,101]),(.str [99,114,117,105,115,101]),(.str [98,117,114,110])])),(.list (.big (.agg [.str,(.int .i64)]) [(.agg (.gen [(.str [119,97,107,101]),(.int .i64 1)])),(.agg (.gen [(.str [102,105,114,101]),(.int .i64 2)])),(.agg (.gen [(.str [115,116,111,112]),(.int .i64 1)])),(.agg (.gen [(.str [112,105,110,103]),(.int .i64 (-1))]))])),(.list (.big (.agg [.str,(.int .i64),(.int .i64),(.int .i64),(.int .i64)]) [(.agg (.gen [(.str [99,111,108,100]),(.int .i64 1),(.int .i64 0),(.int .i64 (-1)),(.int .i64 1)])),(.agg (.gen [(.str [104,101,97,116]),(.int .i64 1),(.int .i64 (-1)),(.int .i64 2),(.int .i64 50)]))])),(.int .i64 1),(.int .i64 20),(.list (.ints .i64 [0,(-1),(-1),(-1)]))])) 0),(.int .i64 1)],(.val (.pointer none)),none⟩
theorem ZvZ:Zan Tryz.prog aw85.f aw85.args aw85.r aw85.fr:=Zad (n:=100000) (l:=[]) follows Zae trivial (by kernel_rfl)
def aw86:Fact:=⟨123,[(.eptr (.agg (.gen [(.list (.big .str [(.str [115,97,102,101]),(.str [99,114,117,105,115,101]),(.str [98,117,114,110])])),(.list (.big (.agg [.str,(.int .i64)]) [(.agg (.gen [(.str [119,97,107,101]),(.int .i64 1)])),(.agg (.gen [(.str [102,105,114,101]),(.int .i64 2)])),(.agg (.gen [(.str [115,116,111,112]),(.int .i64 1)])),(.agg (.gen [(.str [112,105,110,103]),(.int .i64 (-1))]))])),(.list (.big (.agg [.str,(.int .i64),(.int .i64),(.int .i64),(.int .i64)]) [(.agg (.gen [(.str [99,111,108,100]),(.int .i64 1),(.int .i64 0),(.int .i64 (-1)),(.int .i64 1)])),(.agg (.gen [(.str [104,101,97,116]),(.int .i64 1),(.int .i64 (-1)),(.int .i64 2),(.int .i64 50)]))])),(.int .i64 1),(.int .i64 20),(.list (.ints .i64 [0,(-1),(-1),(-1)]))])) 0),(.agg (.gen [(.int .i64 1),(.int .i64 20),(.int .i64 200)]))],(.bool true),none⟩
theorem Zs3:Zan Tryz.prog aw86.f aw86.args aw86.r aw86.fr:=Zad (n:=100000) (l:=[aw84,aw85]) follows Zae ⟨ZuS,⟨ZvZ,trivial⟩⟩ (by kernel_rfl)
def aw87:Fact:=⟨122,[(.eptr (.agg (.gen [(.list (.big .str [(.str [115,97,102,101]),(.str [99,114,117,105,115,101]),(.str [98,117,114,110])])),(.list (.big (.agg [.str,(.int .i64)]) [(.agg (.gen [(.str [119,97,107,101]),(.int .i64 1)])),(.agg (.gen [(.str [102,105,114,101]),(.int .i64 2)])),(.agg (.gen [(.str [115,116,111,112]),(.int .i64 1)])),(.agg (.gen [(.str [112,105,110,103]),(.int .i64 (-1))]))])),(.list (.big (.agg [.str,(.int .i64),(.int .i64),(.int .i64),(.int .i64)]) [(.agg (.gen [(.str [99,111,108,100]),(.int .i64 1),(.int .i64 0),(.int .i64 (-1)),(.int .i64 1)])),(.agg (.gen [(.str [104,101,97,116]),(.int .i64 1),(.int .i64 (-1)),(.int .i64 2),(.int .i64 50)]))])),(.int .i64 2),(.int .i64 30),(.list (.ints .i64 [0,20,(-1),(-1)]))])) 0),(.agg (.gen [(.str [104,101,97,116]),(.int .i64 1),(.int .i64 (-1)),(.int .i64 2),(.int .i64 50)])),(.int .i64 2)],(.bool false),none⟩
theorem Zub:Zan Tryz.prog aw87.f aw87.args aw87.r aw87.fr:=Zad (n:=100000) (l:=[]) follows Zae trivial (by kernel_rfl)
def aw88:Fact:=⟨82,[(.int .i64 30),(.int .i64 30),(.int .i64 300)],(.bool true),none⟩
theorem Zu6:Zan Tryz.prog aw88.f aw88.args aw88.r aw88.fr:=Zad (n:=100000) (l:=[]) follows Zae trivial (by kernel_rfl)
def aw89:Fact:=⟨91,[(.eptr (.agg (.gen [(.list (.big .str [(.str [115,97,102,101]),(.str [99,114,117,105,115,101]),(.str [98,117,114,110])])),(.list (.big (.agg [.str,(.int .i64)]) [(.agg (.gen [(.str [119,97,107,101]),(.int .i64 1)])),(.agg (.gen [(.str [102,105,114,101]),(.int .i64 2)])),(.agg (.gen [(.str [115,116,111,112]),(.int .i64 1)])),(.agg (.gen [(.str [112,105,110,103]),(.int .i64 (-1))]))])),(.list (.big (.agg [.str,(.int .i64),(.int .i64),(.int .i64),(.int .i64)]) [(.agg (.gen [(.str [99,111,108,100]),(.int .i64 1),(.int .i64 0),(.int .i64 (-1)),(.int .i64 1)])),(.agg (.gen [(.str [104,101,97,116]),(.int .i64 1),(.int .i64 (-1)),(.int .i64 2),(.int .i64 50)]))])),(.int .i64 2),(.int .i64 30),(.list (.ints .i64 [0,20,(-1),(-1)]))])) 0),(.int .i64 2)],(.val (.pointer none)),none⟩
theorem ZvL:Zan Tryz.prog aw89.f aw89.args aw89.r aw89.fr:=Zad (n:=100000) (l:=[]) follows Zae trivial (by kernel_rfl)
def aw90:Fact:=⟨123,[(.eptr (.agg (.gen [(.list (.big .str [(.str [115,97,102,101]),(.str [99,114,117,105,115,101]),(.str [98,117,114,110])])),(.list (.big (.agg [.str,(.int .i64)]) [(.agg (.gen [(.str [119,97,107,101]),(.int .i64 1)])),(.agg (.gen [(.str [102,105,114,101]),(.int .i64 2)])),(.agg (.gen [(.str [115,116,111,112]),(.int .i64 1)])),(.agg (.gen [(.str [112,105,110,103]),(.int .i64 (-1))]))])),(.list (.big (.agg [.str,(.int .i64),(.int .i64),(.int .i64),(.int .i64)]) [(.agg (.gen [(.str [99,111,108,100]),(.int .i64 1),(.int .i64 0),(.int .i64 (-1)),(.int .i64 1)])),(.agg (.gen [(.str [104,101,97,116]),(.int .i64 1),(.int .i64 (-1)),(.int .i64 2),(.int .i64 50)]))])),(.int .i64 2),(.int .i64 30),(.list (.ints .i64 [0,20,(-1),(-1)]))])) 0),(.agg (.gen [(.int .i64 2),(.int .i64 30),(.int .i64 300)]))],(.bool true),none⟩
theorem Zuu:Zan Tryz.prog aw90.f aw90.args aw90.r aw90.fr:=Zad (n:=100000) (l:=[aw88,aw89]) follows Zae ⟨Zu6,⟨ZvL,trivial⟩⟩ (by kernel_rfl)
def aw91:Fact:=⟨122,[(.eptr (.agg (.gen [(.list (.big .str [(.str [115,97,102,101]),(.str [99,114,117,105,115,101]),(.str [98,117,114,110])])),(.list (.big (.agg [.str,(.int .i64)]) [(.agg (.gen [(.str [119,97,107,101]),(.int .i64 1)])),(.agg (.gen [(.str [102,105,114,101]),(.int .i64 2)])),(.agg (.gen [(.str [115,116,111,112]),(.int .i64 1)])),(.agg (.gen [(.str [112,105,110,103]),(.int .i64 (-1))]))])),(.list (.big (.agg [.str,(.int .i64),(.int .i64),(.int .i64),(.int .i64)]) [(.agg (.gen [(.str [99,111,108,100]),(.int .i64 1),(.int .i64 0),(.int .i64 (-1)),(.int .i64 1)])),(.agg (.gen [(.str [104,101,97,116]),(.int .i64 1),(.int .i64 (-1)),(.int .i64 2),(.int .i64 50)]))])),(.int .i64 1),(.int .i64 40),(.list (.ints .i64 [0,20,30,(-1)]))])) 0),(.agg (.gen [(.str [104,101,97,116]),(.int .i64 1),(.int .i64 (-1)),(.int .i64 2),(.int .i64 50)])),(.int .i64 1)],(.bool true),none⟩
theorem Zuq:Zan Tryz.prog aw91.f aw91.args aw91.r aw91.fr:=Zad (n:=100000) (l:=[]) follows Zae trivial (by kernel_rfl)
def aw92:Fact:=⟨82,[(.int .i64 80),(.int .i64 40),(.int .i64 400)],(.bool true),none⟩
theorem ZuW:Zan Tryz.prog aw92.f aw92.args aw92.r aw92.fr:=Zad (n:=100000) (l:=[]) follows Zae trivial (by kernel_rfl)
def aw93:Fact:=⟨91,[(.eptr (.agg (.gen [(.list (.big .str [(.str [115,97,102,101]),(.str [99,114,117,105,115,101]),(.str [98,117,114,110])])),(.list (.big (.agg [.str,(.int .i64)]) [(.agg (.gen [(.str [119,97,107,101]),(.int .i64 1)])),(.agg (.gen [(.str [102,105,114,101]),(.int .i64 2)])),(.agg (.gen [(.str [115,116,111,112]),(.int .i64 1)])),(.agg (.gen [(.str [112,105,110,103]),(.int .i64 (-1))]))])),(.list (.big (.agg [.str,(.int .i64),(.int .i64),(.int .i64),(.int .i64)]) [(.agg (.gen [(.str [99,111,108,100]),(.int .i64 1),(.int .i64 0),(.int .i64 (-1)),(.int .i64 1)])),(.agg (.gen [(.str [104,101,97,116]),(.int .i64 1),(.int .i64 (-1)),(.int .i64 2),(.int .i64 50)]))])),(.int .i64 1),(.int .i64 80),(.list (.ints .i64 [0,20,30,(-1)]))])) 0),(.int .i64 1)],(.val (.pointer none)),none⟩
theorem Zvl:Zan Tryz.prog aw93.f aw93.args aw93.r aw93.fr:=Zad (n:=100000) (l:=[]) follows Zae trivial (by kernel_rfl)
def aw94:Fact:=⟨123,[(.eptr (.agg (.gen [(.list (.big .str [(.str [115,97,102,101]),(.str [99,114,117,105,115,101]),(.str [98,117,114,110])])),(.list (.big (.agg [.str,(.int .i64)]) [(.agg (.gen [(.str [119,97,107,101]),(.int .i64 1)])),(.agg (.gen [(.str [102,105,114,101]),(.int .i64 2)])),(.agg (.gen [(.str [115,116,111,112]),(.int .i64 1)])),(.agg (.gen [(.str [112,105,110,103]),(.int .i64 (-1))]))])),(.list (.big (.agg [.str,(.int .i64),(.int .i64),(.int .i64),(.int .i64)]) [(.agg (.gen [(.str [99,111,108,100]),(.int .i64 1),(.int .i64 0),(.int .i64 (-1)),(.int .i64 1)])),(.agg (.gen [(.str [104,101,97,116]),(.int .i64 1),(.int .i64 (-1)),(.int .i64 2),(.int .i64 50)]))])),(.int .i64 1),(.int .i64 80),(.list (.ints .i64 [0,20,30,(-1)]))])) 0),(.agg (.gen [(.int .i64 1),(.int .i64 40),(.int .i64 400)]))],(.bool true),none⟩
theorem Zux:Zan Tryz.prog aw94.f aw94.args aw94.r aw94.fr:=Zad (n:=100000) (l:=[aw92,aw93]) follows Zae ⟨ZuW,⟨Zvl,trivial⟩⟩ (by kernel_rfl)
def aw95:Fact:=⟨24,[(.agg (.gen [(.list (.big .str [(.str [115,97,102,101]),(.str [99,114,117,105,115,101]),(.str [98,117,114,110])])),(.list (.big (.agg [.str,(.int .i64)]) [(.agg (.gen [(.str [119,97,107,101]),(.int .i64 1)])),(.agg (.gen [(.str [102,105,114,101]),(.int .i64 2)])),(.agg (.gen [(.str [115,116,111,112]),(.int .i64 1)])),(.agg (.gen [(.str [112,105,110,103]),(.int .i64 (-1))]))])),(.list (.big (.agg [.str,(.int .i64),(.int .i64),(.int .i64),(.int .i64)]) [(.agg (.gen [(.str [99,111,108,100]),(.int .i64 1),(.int .i64 0),(.int .i64 (-1)),(.int .i64 1)])),(.agg (.gen [(.str [104,101,97,116]),(.int .i64 1),(.int .i64 (-1)),(.int .i64 2),(.int .i64 50)]))]))])),(.list (.big (.agg [(.int .i64),(.int .i64),(.int .i64)]) [(.agg (.gen [(.int .i64 0),(.int .i64 0),(.int .i64 100)])),(.agg (.gen [(.int .i64 1),(.int .i64 20),(.int .i64 200)])),(.agg (.gen [(.int .i64 2),(.int .i64 30),(.int .i64 300)])),(.agg (.gen [(.int .i64 1),(.int .i64 40),(.int .i64 400)]))]))],(.tup [(.row 0 0),(.int .i64 0)]),(some ⟨3,1,(.ints .i64 [0,20,30,80])⟩)⟩
theorem Zs4:Zan Tryz.prog aw95.f aw95.args aw95.r aw95.fr:=Zad (n:=100000) (l:=[aw75,aw78,aw79,aw82,aw83,aw86,aw87,aw90,aw91,aw94]) follows Zae ⟨Zo9,⟨Zk6,⟨Zwu,⟨Zlc,⟨Zwa,⟨Zs3,⟨Zub,⟨Zuu,⟨Zuq,⟨Zux,trivial⟩⟩⟩⟩⟩⟩⟩⟩⟩⟩ (by kernel_rfl)
def aw96:Fact:=⟨87,[(.int .i64 (-1)),(.eptr (.agg (.gen [(.int .i64 0),(.int .i64 0),(.list (.ints .i64 [(-1),(-1),(-1),(-1)]))])) 0)],(.bool false),none⟩
theorem Zwb:Zan Tryz.prog aw96.f aw96.args aw96.r aw96.fr:=Zad (n:=100000) (l:=[]) follows Zae trivial (by kernel_rfl)
def aw97:Fact:=⟨137,[(.list (.ints .i64 [(-1),(-1),(-1),(-1)])),(.fn 87 [(.eptr (.agg (.gen [(.int .i64 0),(.int .i64 0),(.list (.ints .i64 [(-1),(-1),(-1),(-1)]))])) 0)])],(.int .i64 (-1)),none⟩
theorem Zwz:Zan Tryz.prog aw97.f aw97.args aw97.r aw97.fr:=Zad (n:=100000) (l:=[aw96]) follows Zae ⟨Zwb,trivial⟩ (by kernel_rfl)
def aw98:Fact:=⟨90,[(.list (.ints .i64 [(-1),(-1),(-1),(-1)])),(.fn 87 [(.eptr (.agg (.gen [(.int .i64 0),(.int .i64 0),(.list (.ints .i64 [(-1),(-1),(-1),(-1)]))])) 0)])],(.bool false),none⟩
theorem Zvc:Zan Tryz.prog aw98.f aw98.args aw98.r aw98.fr:=Zad (n:=100000) (l:=[aw97]) follows Zae ⟨Zwz,trivial⟩ (by kernel_rfl)
def aw99:Fact:=⟨67,[(.list (.ints .i64 [0,0,0,0,0,0]))],(.int .i64 0),none⟩
theorem Zvf:Zan Tryz.prog aw99.f aw99.args aw99.r aw99.fr:=Zad (n:=100000) (l:=[]) follows Zae trivial (by kernel_rfl)
def aw100:Fact:=⟨42,[(.agg (.gen [(.list (.big .str [(.str [115,97,102,101]),(.str [99,114,117,105,115,101]),(.str [98,117,114,110])])),(.list (.big (.agg [.str,(.int .i64)]) [(.agg (.gen [(.str [119,97,107,101]),(.int .i64 1)])),(.agg (.gen [(.str [102,105,114,101]),(.int .i64 2)])),(.agg (.gen [(.str [115,116,111,112]),(.int .i64 1)])),(.agg (.gen [(.str [112,105,110,103]),(.int .i64 (-1))]))])),(.list (.big (.agg [.str,(.int .i64),(.int .i64),(.int .i64),(.int .i64)]) [(.agg (.gen [(.str [99,111,108,100]),(.int .i64 1),(.int .i64 0),(.int .i64 (-1)),(.int .i64 1)])),(.agg (.gen [(.str [104,101,97,116]),(.int .i64 1),(.int .i64 (-1)),(.int .i64 2),(.int .i64 50)]))]))])),(.agg (.gen [(.int .i64 0),(.int .i64 0),(.list (.ints .i64 [(-1),(-1),(-1),(-1)]))])),(.int .i64 1)],(.tup [(.str [99,111,108,100]),(.int .i64 0)]),none⟩
theorem ZqO:Zan Tryz.prog aw100.f aw100.args aw100.r aw100.fr:=Zad (n:=100000) (l:=[aw51,aw37,aw20,aw55,aw41,aw1,aw98,aw36,aw53,aw99]) follows Zae ⟨ZnL,⟨ZpE,⟨ZcL,⟨Zn8,⟨ZbQ,⟨ZoS,⟨Zvc,⟨Zgz,⟨Zg5,⟨Zvf,trivial⟩⟩⟩⟩⟩⟩⟩⟩⟩⟩ (by kernel_rfl)
def aw101:Fact:=⟨82,[(.int .i64 2),(.int .i64 1),(.int .i64 6)],(.bool true),none⟩
theorem Zri:Zan Tryz.prog aw101.f aw101.args aw101.r aw101.fr:=Zad (n:=100000) (l:=[]) follows Zae trivial (by kernel_rfl)
def aw102:Fact:=⟨36,[(.agg (.gen [(.list (.big .str [(.str [115,97,102,101]),(.str [99,114,117,105,115,101]),(.str [98,117,114,110])])),(.list (.big (.agg [.str,(.int .i64)]) [(.agg (.gen [(.str [119,97,107,101]),(.int .i64 1)])),(.agg (.gen [(.str [102,105,114,101]),(.int .i64 2)])),(.agg (.gen [(.str [115,116,111,112]),(.int .i64 1)])),(.agg (.gen [(.str [112,105,110,103]),(.int .i64 (-1))]))])),(.list (.big (.agg [.str,(.int .i64),(.int .i64),(.int .i64),(.int .i64)]) [(.agg (.gen [(.str [99,111,108,100]),(.int .i64 1),(.int .i64 0),(.int .i64 (-1)),(.int .i64 1)])),(.agg (.gen [(.str [104,101,97,116]),(.int .i64 1),(.int .i64 (-1)),(.int .i64 2),(.int .i64 50)]))])),(.list (.big (.agg [(.int .i64),(.int .i64),(.int .i64)]) [(.agg (.gen [(.int .i64 0),(.int .i64 0),(.int .i64 100)])),(.agg (.gen [(.int .i64 1),(.int .i64 20),(.int .i64 200)])),(.agg (.gen [(.int .i64 2),(.int .i64 30),(.int .i64 300)])),(.agg (.gen [(.int .i64 1),(.int .i64 40),(.int .i64 400)]))])),(.int .i64 2),(.int .i64 2)]))],(.int .i64 0),none⟩
theorem ZlZ:Zan Tryz.prog aw102.f aw102.args aw102.r aw102.fr:=Zad (n:=100000) (l:=[aw75,aw101,aw41,aw3]) follows Zae ⟨Zo9,⟨Zri,⟨ZbQ,⟨Zl0,trivial⟩⟩⟩⟩ (by kernel_rfl)
def aw103:Fact:=⟨83,[],(.agg (.gen [(.str [112,97,115,115]),(.int .i64 1),(.int .i64 1000000000000),(.fn 127 []),(.str [115,101,110,100]),(.int .i64 0),(.int .i64 11),(.fn 128 []),(.str [97,114,114,105,118,101]),(.int .i64 0),(.int .i64 5),(.fn 129 []),(.str [104,101,97,114]),(.int .i64 0),(.int .i64 5),(.fn 130 []),(.str [108,111,115,101]),(.int .i64 0),(.int .i64 5),(.fn 131 []),(.str [100,114,111,112]),(.int .i64 0),(.int .i64 5),(.fn 132 []),(.str [114,101,112,101,97,116]),(.int .i64 0),(.int .i64 5),(.fn 133 []),(.str [114,101,115,116,97,114,116]),(.int .i64 0),(.int .i64 0),(.fn 134 []),(.str [114,101,98,111,111,116]),(.int .i64 0),(.int .i64 0),(.fn 135 [])])),none⟩
theorem ZcU:Zan Tryz.prog aw103.f aw103.args aw103.r aw103.fr:=Zad (n:=100000) (l:=[]) follows Zae trivial (by kernel_rfl)
def aw104:Fact:=⟨82,[(.int .i64 1),(.int .i64 0),(.int .i64 8)],(.bool true),none⟩
theorem Zrj:Zan Tryz.prog aw104.f aw104.args aw104.r aw104.fr:=Zad (n:=100000) (l:=[]) follows Zae trivial (by kernel_rfl)
def aw105:Fact:=⟨82,[(.int .i64 0),(.int .i64 0),(.int .i64 11)],(.bool true),none⟩
theorem Zq0:Zan Tryz.prog aw105.f aw105.args aw105.r aw105.fr:=Zad (n:=100000) (l:=[]) follows Zae trivial (by kernel_rfl)
def aw106:Fact:=⟨37,[(.agg (.gen [(.int .i64 1),(.int .i64 0)]))],(.int .i64 0),none⟩
theorem Zly:Zan Tryz.prog aw106.f aw106.args aw106.r aw106.fr:=Zad (n:=100000) (l:=[aw103,aw104,aw105,aw41]) follows Zae ⟨ZcU,⟨Zrj,⟨Zq0,⟨ZbQ,trivial⟩⟩⟩⟩ (by kernel_rfl)
def aw107:Fact:=⟨68,[(.bool true),(.int .i64 21)],(.int .i64 0),none⟩
theorem ZlF:Zan Tryz.prog aw107.f aw107.args aw107.r aw107.fr:=Zad (n:=100000) (l:=[]) follows Zae trivial (by kernel_rfl)
def aw108:Fact:=⟨82,[(.int .i64 0),(.int .i64 0),(.int .i64 1)],(.bool true),none⟩
theorem ZlV:Zan Tryz.prog aw108.f aw108.args aw108.r aw108.fr:=Zad (n:=100000) (l:=[]) follows Zae trivial (by kernel_rfl)
def aw109:Fact:=⟨68,[(.bool true),(.int .i64 26)],(.int .i64 0),none⟩
theorem ZlD:Zan Tryz.prog aw109.f aw109.args aw109.r aw109.fr:=Zad (n:=100000) (l:=[]) follows Zae trivial (by kernel_rfl)
def aw110:Fact:=⟨68,[(.bool true),(.int .i64 16)],(.int .i64 0),none⟩
theorem ZlO:Zan Tryz.prog aw110.f aw110.args aw110.r aw110.fr:=Zad (n:=100000) (l:=[]) follows Zae trivial (by kernel_rfl)
def aw111:Fact:=⟨67,[(.list (.ints .i64 [0,0,0,0]))],(.int .i64 0),none⟩
theorem Zls:Zan Tryz.prog aw111.f aw111.args aw111.r aw111.fr:=Zad (n:=100000) (l:=[]) follows Zae trivial (by kernel_rfl)
def aw112:Fact:=⟨82,[(.int .i64 2),(.int .i64 0),(.int .i64 8)],(.bool true),none⟩
theorem Zqo:Zan Tryz.prog aw112.f aw112.args aw112.r aw112.fr:=Zad (n:=100000) (l:=[]) follows Zae trivial (by kernel_rfl)
def aw113:Fact:=⟨82,[(.int .i64 0),(.int .i64 0),(.int .i64 5)],(.bool true),none⟩
theorem Zi6:Zan Tryz.prog aw113.f aw113.args aw113.r aw113.fr:=Zad (n:=100000) (l:=[]) follows Zae trivial (by kernel_rfl)
def aw114:Fact:=⟨37,[(.agg (.gen [(.int .i64 2),(.int .i64 0)]))],(.int .i64 0),none⟩
theorem ZlY:Zan Tryz.prog aw114.f aw114.args aw114.r aw114.fr:=Zad (n:=100000) (l:=[aw103,aw112,aw113,aw41]) follows Zae ⟨ZcU,⟨Zqo,⟨Zi6,⟨ZbQ,trivial⟩⟩⟩⟩ (by kernel_rfl)
def aw115:Fact:=⟨82,[(.int .i64 5),(.int .i64 0),(.int .i64 8)],(.bool true),none⟩
theorem Zqq:Zan Tryz.prog aw115.f aw115.args aw115.r aw115.fr:=Zad (n:=100000) (l:=[]) follows Zae trivial (by kernel_rfl)
def aw116:Fact:=⟨37,[(.agg (.gen [(.int .i64 5),(.int .i64 0)]))],(.int .i64 0),none⟩
theorem Zmo:Zan Tryz.prog aw116.f aw116.args aw116.r aw116.fr:=Zad (n:=100000) (l:=[aw103,aw115,aw113,aw41]) follows Zae ⟨ZcU,⟨Zqq,⟨Zi6,⟨ZbQ,trivial⟩⟩⟩⟩ (by kernel_rfl)
def aw117:Fact:=⟨82,[(.int .i64 3),(.int .i64 0),(.int .i64 8)],(.bool true),none⟩
theorem ZqT:Zan Tryz.prog aw117.f aw117.args aw117.r aw117.fr:=Zad (n:=100000) (l:=[]) follows Zae trivial (by kernel_rfl)
def aw118:Fact:=⟨37,[(.agg (.gen [(.int .i64 3),(.int .i64 0)]))],(.int .i64 0),none⟩
theorem Zlu:Zan Tryz.prog aw118.f aw118.args aw118.r aw118.fr:=Zad (n:=100000) (l:=[aw103,aw117,aw113,aw41]) follows Zae ⟨ZcU,⟨ZqT,⟨Zi6,⟨ZbQ,trivial⟩⟩⟩⟩ (by kernel_rfl)
def aw119:Fact:=⟨15,[(.agg (.gen [(.list (.big .str [(.str [115,97,102,101]),(.str [99,114,117,105,115,101]),(.str [98,117,114,110])])),(.list (.big (.agg [.str,(.int .i64)]) [(.agg (.gen [(.str [119,97,107,101]),(.int .i64 1)])),(.agg (.gen [(.str [102,105,114,101]),(.int .i64 2)])),(.agg (.gen [(.str [115,116,111,112]),(.int .i64 1)])),(.agg (.gen [(.str [112,105,110,103]),(.int .i64 (-1))]))])),(.list (.big (.agg [.str,(.int .i64),(.int .i64),(.int .i64),(.int .i64)]) [(.agg (.gen [(.str [99,111,108,100]),(.int .i64 1),(.int .i64 0),(.int .i64 (-1)),(.int .i64 1)])),(.agg (.gen [(.str [104,101,97,116]),(.int .i64 1),(.int .i64 (-1)),(.int .i64 2),(.int .i64 50)]))])),(.list (.big (.agg [(.int .i64),(.int .i64),(.int .i64)]) [(.agg (.gen [(.int .i64 0),(.int .i64 0),(.int .i64 100)])),(.agg (.gen [(.int .i64 1),(.int .i64 20),(.int .i64 200)])),(.agg (.gen [(.int .i64 2),(.int .i64 30),(.int .i64 300)])),(.agg (.gen [(.int .i64 1),(.int .i64 40),(.int .i64 400)]))])),(.int .i64 2),(.int .i64 2)])),(.list (.big (.agg [(.int .i64),(.int .i64)]) [(.agg (.gen [(.int .i64 1),(.int .i64 0)])),(.agg (.gen [(.int .i64 2),(.int .i64 0)])),(.agg (.gen [(.int .i64 5),(.int .i64 0)])),(.agg (.gen [(.int .i64 1),(.int .i64 0)])),(.agg (.gen [(.int .i64 2),(.int .i64 0)])),(.agg (.gen [(.int .i64 3),(.int .i64 0)]))]))],(.tup [(.agg (.gen [(.int .i64 0),(.int .i64 1),(.list (.big (.agg [(.int .i64),(.int .i64)]) [(.agg (.gen [(.int .i64 0),(.int .i64 0)]))])),(.bool false),(.int .i64 1),(.bool false),(.list (.ints .i64 [])),(.list (.big (.agg [(.int .i64), .bool]) []))])),(.int .i64 0),(.int .i64 0)]),none⟩
theorem Zq7:Zan Tryz.prog aw119.f aw119.args aw119.r aw119.fr:=Zmb (n:=100000) (d:=3) (l:=[aw102,aw2,aw3,aw78,aw106,aw103,aw20,aw107,aw108,aw109,aw110,aw111,aw114,aw82,aw116,aw118]) follows Zae ⟨ZlZ,⟨Zml,⟨Zl0,⟨Zk6,⟨Zly,⟨ZcU,⟨ZcL,⟨ZlF,⟨ZlV,⟨ZlD,⟨ZlO,⟨Zls,⟨ZlY,⟨Zlc,⟨Zmo,⟨Zlu,trivial⟩⟩⟩⟩⟩⟩⟩⟩⟩⟩⟩⟩⟩⟩⟩⟩ (by kernel_rfl)
def aw120:Fact:=⟨29,[(.list (.ints .i64 [0,20,30,80])),(.list (.ints .i64 [0,20,30,80]))],(.bool true),none⟩
theorem Zqs:Zan Tryz.prog aw120.f aw120.args aw120.r aw120.fr:=Zad (n:=100000) (l:=[]) follows Zae trivial (by kernel_rfl)
def aw121:Fact:=⟨22,[(.list (.big (.agg [(.int .i64),(.int .i64)]) [(.agg (.gen [(.int .i64 0),(.int .i64 0)]))])),(.list (.big (.agg [(.int .i64),(.int .i64)]) [(.agg (.gen [(.int .i64 0),(.int .i64 0)]))]))],(.bool true),none⟩
theorem Zrh:Zan Tryz.prog aw121.f aw121.args aw121.r aw121.fr:=Zad (n:=100000) (l:=[]) follows Zae trivial (by kernel_rfl)
def aw122:Fact:=⟨82,[(.int .i64 0),(.int .i64 0),(.int .i64 8)],(.bool true),none⟩
theorem Zq4:Zan Tryz.prog aw122.f aw122.args aw122.r aw122.fr:=Zad (n:=100000) (l:=[]) follows Zae trivial (by kernel_rfl)
def aw123:Fact:=⟨198,[(.int .i64 20)],(.str [50,48]),none⟩
theorem ZrB:Zan Tryz.prog aw123.f aw123.args aw123.r aw123.fr:=Zad (n:=100000) (l:=[]) follows Zae trivial (by kernel_rfl)
def aw124:Fact:=⟨183,[(.int .i64 20),(.int .i64 10)],(.str [50,48]),none⟩
theorem ZpP:Zan Tryz.prog aw124.f aw124.args aw124.r aw124.fr:=Zad (n:=100000) (l:=[aw123]) follows Zae ⟨ZrB,trivial⟩ (by kernel_rfl)
def aw125:Fact:=⟨166,[(.int .i64 20)],(.str [50,48]),none⟩
theorem ZrC:Zan Tryz.prog aw125.f aw125.args aw125.r aw125.fr:=Zad (n:=100000) (l:=[aw124]) follows Zae ⟨ZpP,trivial⟩ (by kernel_rfl)
def aw126:Fact:=⟨138,[(.int .i64 20)],(.str [50,48]),none⟩
theorem Zqz:Zan Tryz.prog aw126.f aw126.args aw126.r aw126.fr:=Zad (n:=100000) (l:=[aw125]) follows Zae ⟨ZrC,trivial⟩ (by kernel_rfl)
def aw127:Fact:=⟨113,[(.list (.big .str [(.str [50,48])])),(.str [32])],(.str [50,48]),none⟩
theorem Zp7:Zan Tryz.prog aw127.f aw127.args aw127.r aw127.fr:=Zad (n:=100000) (l:=[]) follows Zae trivial (by kernel_rfl)
def aw128:Fact:=⟨105,[(.list (.ints .i64 [20]))],(.str [50,48]),none⟩
theorem Zp1:Zan Tryz.prog aw128.f aw128.args aw128.r aw128.fr:=Zad (n:=100000) (l:=[aw126,aw127]) follows Zae ⟨Zqz,⟨Zp7,trivial⟩⟩ (by kernel_rfl)
def aw129:Fact:=⟨53,[(.agg (.gen [(.int .i64 0),(.int .i64 20)]))],(.str [112,97,115,115,32,50,48]),none⟩
theorem Zrn:Zan Tryz.prog aw129.f aw129.args aw129.r aw129.fr:=Zad (n:=100000) (l:=[aw103,aw122,aw128]) follows Zae ⟨ZcU,⟨Zq4,⟨Zp1,trivial⟩⟩⟩ (by kernel_rfl)
def aw130:Fact:=⟨13,[],(.bool true),none⟩
theorem Zp2:Zan Tryz.prog aw130.f aw130.args aw130.r aw130.fr:=Zmb (n:=100000) (d:=3) (l:=[aw0,aw95,aw100,aw119,aw102,aw2,aw3,aw78,aw106,aw103,aw20,aw107,aw108,aw109,aw110,aw111,aw114,aw82,aw116,aw118,aw120,aw121,aw129]) follows Zae ⟨Zzw,⟨Zs4,⟨ZqO,⟨Zq7,⟨ZlZ,⟨Zml,⟨Zl0,⟨Zk6,⟨Zly,⟨ZcU,⟨ZcL,⟨ZlF,⟨ZlV,⟨ZlD,⟨ZlO,⟨Zls,⟨ZlY,⟨Zlc,⟨Zmo,⟨Zlu,⟨Zqs,⟨Zrh,⟨Zrn,trivial⟩⟩⟩⟩⟩⟩⟩⟩⟩⟩⟩⟩⟩⟩⟩⟩⟩⟩⟩⟩⟩⟩⟩ (by kernel_rfl)
theorem awake_ok:Zan Tryz.prog aw130.f aw130.args aw130.r aw130.fr:=Zp2
end Go.Proofs.YtkeoeooghhjibaaGreatDoor
/- Calls at given values. Printed by facts.py. -/
namespace Go.Proofs.YtkeoeooghhjibaaGreatDoor
set_option maxRecDepth 1000000
def rp0:Fact:=⟨179,[(.int .u64 1),(.int .u64 0)],(.tup [(.int .u64 0),(.int .u64 0)]),none⟩
theorem ZAH:Zan Tryz.prog rp0.f rp0.args rp0.r rp0.fr:=Zad (n:=100000) (l:=[]) follows Zae trivial (by kernel_rfl)
def rp1:Fact:=⟨152,[(.int .u64 1),(.int .u64 0)],(.tup [(.int .u64 0),(.int .u64 0)]),none⟩
theorem Zxs:Zan Tryz.prog rp1.f rp1.args rp1.r rp1.fr:=Zad (n:=100000) (l:=[rp0]) follows Zae ⟨ZAH,trivial⟩ (by kernel_rfl)
def rp2:Fact:=⟨121,[(.list (.ints .i64 [(-1)])),(.int .i64 0)],(.row 0 0),(some ⟨3,1,(.ints .i64 [])⟩)⟩
theorem ZAu:Zan Tryz.prog rp2.f rp2.args rp2.r rp2.fr:=Zad (n:=100000) (l:=[rp1]) follows Zae ⟨Zxs,trivial⟩ (by kernel_rfl)
def rp3:Fact:=⟨179,[(.int .u64 1),(.int .u64 1)],(.tup [(.int .u64 0),(.int .u64 1)]),none⟩
theorem ZyC:Zan Tryz.prog rp3.f rp3.args rp3.r rp3.fr:=Zad (n:=100000) (l:=[]) follows Zae trivial (by kernel_rfl)
def rp4:Fact:=⟨152,[(.int .u64 1),(.int .u64 1)],(.tup [(.int .u64 0),(.int .u64 1)]),none⟩
theorem ZBX:Zan Tryz.prog rp4.f rp4.args rp4.r rp4.fr:=Zad (n:=100000) (l:=[rp3]) follows Zae ⟨ZyC,trivial⟩ (by kernel_rfl)
def rp5:Fact:=⟨121,[(.list (.ints .i64 [(-1)])),(.int .i64 1)],(.row 0 0),(some ⟨3,1,(.ints .i64 [(-1)])⟩)⟩
theorem Zw0:Zan Tryz.prog rp5.f rp5.args rp5.r rp5.fr:=Zad (n:=100000) (l:=[rp4]) follows Zae ⟨ZBX,trivial⟩ (by kernel_rfl)
def rp6:Fact:=⟨179,[(.int .u64 1),(.int .u64 2)],(.tup [(.int .u64 0),(.int .u64 2)]),none⟩
theorem ZyL:Zan Tryz.prog rp6.f rp6.args rp6.r rp6.fr:=Zad (n:=100000) (l:=[]) follows Zae trivial (by kernel_rfl)
def rp7:Fact:=⟨152,[(.int .u64 1),(.int .u64 2)],(.tup [(.int .u64 0),(.int .u64 2)]),none⟩
theorem ZyI:Zan Tryz.prog rp7.f rp7.args rp7.r rp7.fr:=Zad (n:=100000) (l:=[rp6]) follows Zae ⟨ZyL,trivial⟩ (by kernel_rfl)
def rp8:Fact:=⟨121,[(.list (.ints .i64 [(-1)])),(.int .i64 2)],(.row 0 0),(some ⟨3,1,(.ints .i64 [(-1),(-1)])⟩)⟩
theorem ZBB:Zan Tryz.prog rp8.f rp8.args rp8.r rp8.fr:=Zad (n:=100000) (l:=[rp7]) follows Zae ⟨ZyI,trivial⟩ (by kernel_rfl)
def rp9:Fact:=⟨179,[(.int .u64 1),(.int .u64 3)],(.tup [(.int .u64 0),(.int .u64 3)]),none⟩
theorem Zzk:Zan Tryz.prog rp9.f rp9.args rp9.r rp9.fr:=Zad (n:=100000) (l:=[]) follows Zae trivial (by kernel_rfl)
def rp10:Fact:=⟨152,[(.int .u64 1),(.int .u64 3)],(.tup [(.int .u64 0),(.int .u64 3)]),none⟩
theorem Ztf:Zan Tryz.prog rp10.f rp10.args rp10.r rp10.fr:=Zad (n:=100000) (l:=[rp9]) follows Zae ⟨Zzk,trivial⟩ (by kernel_rfl)
def rp11:Fact:=⟨121,[(.list (.ints .i64 [(-1)])),(.int .i64 3)],(.row 0 0),(some ⟨3,1,(.ints .i64 [(-1),(-1),(-1)])⟩)⟩
theorem Zvi:Zan Tryz.prog rp11.f rp11.args rp11.r rp11.fr:=Zad (n:=100000) (l:=[rp10]) follows Zae ⟨Ztf,trivial⟩ (by kernel_rfl)
def rp12:Fact:=⟨179,[(.int .u64 1),(.int .u64 4)],(.tup [(.int .u64 0),(.int .u64 4)]),none⟩
theorem Zwv:Zan Tryz.prog rp12.f rp12.args rp12.r rp12.fr:=Zad (n:=100000) (l:=[]) follows Zae trivial (by kernel_rfl)
def rp13:Fact:=⟨152,[(.int .u64 1),(.int .u64 4)],(.tup [(.int .u64 0),(.int .u64 4)]),none⟩
theorem ZuO:Zan Tryz.prog rp13.f rp13.args rp13.r rp13.fr:=Zad (n:=100000) (l:=[rp12]) follows Zae ⟨Zwv,trivial⟩ (by kernel_rfl)
def rp14:Fact:=⟨121,[(.list (.ints .i64 [(-1)])),(.int .i64 4)],(.row 0 0),(some ⟨3,1,(.ints .i64 [(-1),(-1),(-1),(-1)])⟩)⟩
theorem ZvT:Zan Tryz.prog rp14.f rp14.args rp14.r rp14.fr:=Zad (n:=100000) (l:=[rp13]) follows Zae ⟨ZuO,trivial⟩ (by kernel_rfl)
def rp15:Fact:=⟨179,[(.int .u64 1),(.int .u64 5)],(.tup [(.int .u64 0),(.int .u64 5)]),none⟩
theorem ZvD:Zan Tryz.prog rp15.f rp15.args rp15.r rp15.fr:=Zad (n:=100000) (l:=[]) follows Zae trivial (by kernel_rfl)
def rp16:Fact:=⟨152,[(.int .u64 1),(.int .u64 5)],(.tup [(.int .u64 0),(.int .u64 5)]),none⟩
theorem ZtD:Zan Tryz.prog rp16.f rp16.args rp16.r rp16.fr:=Zad (n:=100000) (l:=[rp15]) follows Zae ⟨ZvD,trivial⟩ (by kernel_rfl)
def rp17:Fact:=⟨121,[(.list (.ints .i64 [(-1)])),(.int .i64 5)],(.row 0 0),(some ⟨3,1,(.ints .i64 [(-1),(-1),(-1),(-1),(-1)])⟩)⟩
theorem ZtR:Zan Tryz.prog rp17.f rp17.args rp17.r rp17.fr:=Zad (n:=100000) (l:=[rp16]) follows Zae ⟨ZtD,trivial⟩ (by kernel_rfl)
def rp18:Fact:=⟨179,[(.int .u64 1),(.int .u64 6)],(.tup [(.int .u64 0),(.int .u64 6)]),none⟩
theorem Ztk:Zan Tryz.prog rp18.f rp18.args rp18.r rp18.fr:=Zad (n:=100000) (l:=[]) follows Zae trivial (by kernel_rfl)
def rp19:Fact:=⟨152,[(.int .u64 1),(.int .u64 6)],(.tup [(.int .u64 0),(.int .u64 6)]),none⟩
theorem ZwC:Zan Tryz.prog rp19.f rp19.args rp19.r rp19.fr:=Zad (n:=100000) (l:=[rp18]) follows Zae ⟨Ztk,trivial⟩ (by kernel_rfl)
def rp20:Fact:=⟨121,[(.list (.ints .i64 [(-1)])),(.int .i64 6)],(.row 0 0),(some ⟨3,1,(.ints .i64 [(-1),(-1),(-1),(-1),(-1),(-1)])⟩)⟩
theorem ZwK:Zan Tryz.prog rp20.f rp20.args rp20.r rp20.fr:=Zad (n:=100000) (l:=[rp19]) follows Zae ⟨ZwC,trivial⟩ (by kernel_rfl)
def rp21:Fact:=⟨179,[(.int .u64 1),(.int .u64 7)],(.tup [(.int .u64 0),(.int .u64 7)]),none⟩
theorem Ztc:Zan Tryz.prog rp21.f rp21.args rp21.r rp21.fr:=Zad (n:=100000) (l:=[]) follows Zae trivial (by kernel_rfl)
def rp22:Fact:=⟨152,[(.int .u64 1),(.int .u64 7)],(.tup [(.int .u64 0),(.int .u64 7)]),none⟩
theorem Ztp:Zan Tryz.prog rp22.f rp22.args rp22.r rp22.fr:=Zad (n:=100000) (l:=[rp21]) follows Zae ⟨Ztc,trivial⟩ (by kernel_rfl)
def rp23:Fact:=⟨121,[(.list (.ints .i64 [(-1)])),(.int .i64 7)],(.row 0 0),(some ⟨3,1,(.ints .i64 [(-1),(-1),(-1),(-1),(-1),(-1),(-1)])⟩)⟩
theorem Zu1:Zan Tryz.prog rp23.f rp23.args rp23.r rp23.fr:=Zad (n:=100000) (l:=[rp22]) follows Zae ⟨Ztp,trivial⟩ (by kernel_rfl)
def rp24:Fact:=⟨179,[(.int .u64 1),(.int .u64 8)],(.tup [(.int .u64 0),(.int .u64 8)]),none⟩
theorem ZtH:Zan Tryz.prog rp24.f rp24.args rp24.r rp24.fr:=Zad (n:=100000) (l:=[]) follows Zae trivial (by kernel_rfl)
def rp25:Fact:=⟨152,[(.int .u64 1),(.int .u64 8)],(.tup [(.int .u64 0),(.int .u64 8)]),none⟩
theorem ZuL:Zan Tryz.prog rp25.f rp25.args rp25.r rp25.fr:=Zad (n:=100000) (l:=[rp24]) follows Zae ⟨ZtH,trivial⟩ (by kernel_rfl)
def rp26:Fact:=⟨121,[(.list (.ints .i64 [(-1)])),(.int .i64 8)],(.row 0 0),(some ⟨3,1,(.ints .i64 [(-1),(-1),(-1),(-1),(-1),(-1),(-1),(-1)])⟩)⟩
theorem ZsK:Zan Tryz.prog rp26.f rp26.args rp26.r rp26.fr:=Zad (n:=100000) (l:=[rp25]) follows Zae ⟨ZuL,trivial⟩ (by kernel_rfl)
end Go.Proofs.YtkeoeooghhjibaaGreatDoor
