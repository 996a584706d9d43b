/- Every code of the table stands for the program's. Printed by gentab.py. -/
import Derived.Test.YtkeoeooghhjibaaGreatDoorTa
import Derived.Test.YtkeoeooghhjibaaGreatDoorChecked
import Derived.KernelRfl
namespace Go.Proofs.YtkeoeooghhjibaaGreatDoor
set_option maxRecDepth 100000
theorem m4:Zap Tryz.prog 4 a4=true:=by kernel_rfl
theorem m13:Zap Tryz.prog 13 a13=true:=by kernel_rfl
theorem m15:Zap Tryz.prog 15 a15=true:=by kernel_rfl
theorem m22:Zap Tryz.prog 22 a22=true:=by kernel_rfl
theorem m23:Zap Tryz.prog 23 a23=true:=by kernel_rfl
theorem m24:Zap Tryz.prog 24 a24=true:=by kernel_rfl
theorem m25:Zap Tryz.prog 25 a25=true:=by kernel_rfl
theorem m26:Zap Tryz.prog 26 a26=true:=by kernel_rfl
theorem m27:Zap Tryz.prog 27 a27=true:=by kernel_rfl
theorem m28:Zap Tryz.prog 28 a28=true:=by kernel_rfl
theorem m29:Zap Tryz.prog 29 a29=true:=by kernel_rfl
theorem m30:Zap Tryz.prog 30 a30=true:=by kernel_rfl
theorem m31:Zap Tryz.prog 31 a31=true:=by kernel_rfl
theorem m36:Zap Tryz.prog 36 a36=true:=by kernel_rfl
theorem m37:Zap Tryz.prog 37 a37=true:=by kernel_rfl
theorem m41:Zap Tryz.prog 41 a41=true:=by kernel_rfl
theorem m42:Zap Tryz.prog 42 a42=true:=by kernel_rfl
theorem m53:Zap Tryz.prog 53 a53=true:=by kernel_rfl
theorem m65:Zap Tryz.prog 65 a65=true:=by kernel_rfl
theorem m66:Zap Tryz.prog 66 a66=true:=by kernel_rfl
theorem m67:Zap Tryz.prog 67 a67=true:=by kernel_rfl
theorem m68:Zap Tryz.prog 68 a68=true:=by kernel_rfl
theorem m69:Zap Tryz.prog 69 a69=true:=by kernel_rfl
theorem m70:Zap Tryz.prog 70 a70=true:=by kernel_rfl
theorem m71:Zap Tryz.prog 71 a71=true:=by kernel_rfl
theorem m72:Zap Tryz.prog 72 a72=true:=by kernel_rfl
theorem m73:Zap Tryz.prog 73 a73=true:=by kernel_rfl
theorem m74:Zap Tryz.prog 74 a74=true:=by kernel_rfl
theorem m75:Zap Tryz.prog 75 a75=true:=by kernel_rfl
theorem m76:Zap Tryz.prog 76 a76=true:=by kernel_rfl
theorem m77:Zap Tryz.prog 77 a77=true:=by kernel_rfl
theorem m78:Zap Tryz.prog 78 a78=true:=by kernel_rfl
theorem m79:Zap Tryz.prog 79 a79=true:=by kernel_rfl
theorem m81:Zap Tryz.prog 81 a81=true:=by kernel_rfl
theorem m82:Zap Tryz.prog 82 a82=true:=by kernel_rfl
theorem m83:Zap Tryz.prog 83 a83=true:=by kernel_rfl
theorem m86:Zap Tryz.prog 86 a86=true:=by kernel_rfl
theorem m87:Zap Tryz.prog 87 a87=true:=by kernel_rfl
theorem m88:Zap Tryz.prog 88 a88=true:=by kernel_rfl
theorem m89:Zap Tryz.prog 89 a89=true:=by kernel_rfl
theorem m90:Zap Tryz.prog 90 a90=true:=by kernel_rfl
theorem m91:Zap Tryz.prog 91 a91=true:=by kernel_rfl
theorem ZFH:Zap Tryz.prog 105 ZDt=true:=by kernel_rfl
theorem ZE8:Zap Tryz.prog 113 ZDV=true:=by kernel_rfl
theorem ZFE:Zap Tryz.prog 119 a119=true:=by kernel_rfl
theorem ZF7:Zap Tryz.prog 120 a120=true:=by kernel_rfl
theorem ZF0:Zap Tryz.prog 121 ZDG=true:=by kernel_rfl
theorem ZEF:Zap Tryz.prog 122 a122=true:=by kernel_rfl
theorem ZFs:Zap Tryz.prog 123 a123=true:=by kernel_rfl
theorem ZEs:Zap Tryz.prog 124 a124=true:=by kernel_rfl
theorem ZEQ:Zap Tryz.prog 127 ZDb=true:=by kernel_rfl
theorem ZF4:Zap Tryz.prog 128 ZDf=true:=by kernel_rfl
theorem ZEN:Zap Tryz.prog 129 ZDa=true:=by kernel_rfl
theorem ZE5:Zap Tryz.prog 130 ZDC=true:=by kernel_rfl
theorem ZF8:Zap Tryz.prog 131 ZD9=true:=by kernel_rfl
theorem ZFt:Zap Tryz.prog 132 ZDE=true:=by kernel_rfl
theorem ZFb:Zap Tryz.prog 133 ZDM=true:=by kernel_rfl
theorem ZGf:Zap Tryz.prog 134 ZDq=true:=by kernel_rfl
theorem ZEb:Zap Tryz.prog 135 ZDy=true:=by kernel_rfl
theorem ZET:Zap Tryz.prog 136 a136=true:=by kernel_rfl
theorem ZFT:Zap Tryz.prog 137 ZDj=true:=by kernel_rfl
theorem ZFh:Zap Tryz.prog 138 ZDK=true:=by kernel_rfl
theorem ZGi:Zap Tryz.prog 145 ZDz=true:=by kernel_rfl
theorem ZGe:Zap Tryz.prog 147 ZDo=true:=by kernel_rfl
theorem ZGp:Zap Tryz.prog 149 ZDu=true:=by kernel_rfl
theorem ZF3:Zap Tryz.prog 150 a150=true:=by kernel_rfl
theorem ZEe:Zap Tryz.prog 151 a151=true:=by kernel_rfl
theorem ZFM:Zap Tryz.prog 152 ZDp=true:=by kernel_rfl
theorem ZFx:Zap Tryz.prog 155 ZDJ=true:=by kernel_rfl
theorem ZF1:Zap Tryz.prog 156 ZDL=true:=by kernel_rfl
theorem ZFL:Zap Tryz.prog 157 ZDX=true:=by kernel_rfl
theorem ZFo:Zap Tryz.prog 158 a158=true:=by kernel_rfl
theorem ZEv:Zap Tryz.prog 159 ZDY=true:=by kernel_rfl
theorem ZFi:Zap Tryz.prog 160 a160=true:=by kernel_rfl
theorem ZEO:Zap Tryz.prog 161 a161=true:=by kernel_rfl
theorem ZFG:Zap Tryz.prog 162 a162=true:=by kernel_rfl
theorem ZEC:Zap Tryz.prog 163 a163=true:=by kernel_rfl
theorem ZFK:Zap Tryz.prog 164 a164=true:=by kernel_rfl
theorem ZFD:Zap Tryz.prog 165 a165=true:=by kernel_rfl
theorem ZE2:Zap Tryz.prog 166 ZDS=true:=by kernel_rfl
theorem ZER:Zap Tryz.prog 174 ZDD=true:=by kernel_rfl
theorem ZE9:Zap Tryz.prog 178 ZD5=true:=by kernel_rfl
theorem ZFN:Zap Tryz.prog 179 ZDN=true:=by kernel_rfl
theorem ZGh:Zap Tryz.prog 180 ZDm=true:=by kernel_rfl
theorem ZEm:Zap Tryz.prog 181 ZD1=true:=by kernel_rfl
theorem ZF9:Zap Tryz.prog 182 a182=true:=by kernel_rfl
theorem ZFQ:Zap Tryz.prog 183 ZC8=true:=by kernel_rfl
theorem ZEK:Zap Tryz.prog 198 ZDA=true:=by kernel_rfl
theorem ZFz:Zap Tryz.prog 199 ZDQ=true:=by kernel_rfl
theorem ZFY:Zap Tryz.prog 200 ZD3=true:=by kernel_rfl
theorem ZFR:Zap Tryz.prog 207 ZD7=true:=by kernel_rfl
theorem ZFp:Zap Tryz.prog 208 ZDr=true:=by kernel_rfl
theorem ZFn:Zap Tryz.prog 209 ZDH=true:=by kernel_rfl
theorem ZEt:Zap Tryz.prog 210 ZDF=true:=by kernel_rfl
theorem ZGl:Zap Tryz.prog 211 ZC7=true:=by kernel_rfl
theorem ZGy:Zap Tryz.prog 214 ZDi=true:=by kernel_rfl
theorem ZFw:Zap Tryz.prog 215 ZDw=true:=by kernel_rfl
theorem Zad:Zbu Tryz.prog tab:=FTree.ok (t:=tree) ⟨⟨⟨⟨⟨⟨⟨trivial,m4,trivial⟩,m13,⟨trivial,m15,trivial⟩⟩,m22,⟨⟨trivial,m23,trivial⟩,m24,trivial⟩⟩,m25,⟨⟨⟨trivial,m26,trivial⟩,m27,trivial⟩,m28,⟨⟨trivial,m29,trivial⟩,m30,trivial⟩⟩⟩,m31,⟨⟨⟨⟨trivial,m36,trivial⟩,m37,trivial⟩,m41,⟨⟨trivial,m42,trivial⟩,m53,trivial⟩⟩,m65,⟨⟨⟨trivial,m66,trivial⟩,m67,trivial⟩,m68,⟨⟨trivial,m69,trivial⟩,m70,trivial⟩⟩⟩⟩,m71,⟨⟨⟨⟨⟨trivial,m72,trivial⟩,m73,trivial⟩,m74,⟨⟨trivial,m75,trivial⟩,m76,trivial⟩⟩,m77,⟨⟨⟨trivial,m78,trivial⟩,m79,trivial⟩,m81,⟨⟨trivial,m82,trivial⟩,m83,trivial⟩⟩⟩,m86,⟨⟨⟨⟨trivial,m87,trivial⟩,m88,trivial⟩,m89,⟨⟨trivial,m90,trivial⟩,m91,trivial⟩⟩,ZFH,⟨⟨⟨trivial,ZE8,trivial⟩,ZFE,trivial⟩,ZF7,⟨⟨trivial,ZF0,trivial⟩,ZEF,trivial⟩⟩⟩⟩⟩,ZFs,⟨⟨⟨⟨⟨⟨trivial,ZEs,trivial⟩,ZEQ,⟨trivial,ZF4,trivial⟩⟩,ZEN,⟨⟨trivial,ZE5,trivial⟩,ZF8,trivial⟩⟩,ZFt,⟨⟨⟨trivial,ZFb,trivial⟩,ZGf,trivial⟩,ZEb,⟨⟨trivial,ZET,trivial⟩,ZFT,trivial⟩⟩⟩,ZFh,⟨⟨⟨⟨trivial,ZGi,trivial⟩,ZGe,trivial⟩,ZGp,⟨⟨trivial,ZF3,trivial⟩,ZEe,trivial⟩⟩,ZFM,⟨⟨⟨trivial,ZFx,trivial⟩,ZF1,trivial⟩,ZFL,⟨⟨trivial,ZFo,trivial⟩,ZEv,trivial⟩⟩⟩⟩,ZFi,⟨⟨⟨⟨⟨trivial,ZEO,trivial⟩,ZFG,trivial⟩,ZEC,⟨⟨trivial,ZFK,trivial⟩,ZFD,trivial⟩⟩,ZE2,⟨⟨⟨trivial,ZER,trivial⟩,ZE9,trivial⟩,ZFN,⟨⟨trivial,ZGh,trivial⟩,ZEm,trivial⟩⟩⟩,ZF9,⟨⟨⟨⟨trivial,ZFQ,trivial⟩,ZEK,trivial⟩,ZFz,⟨⟨trivial,ZFY,trivial⟩,ZFR,trivial⟩⟩,ZFp,⟨⟨⟨trivial,ZFn,trivial⟩,ZEt,trivial⟩,ZGl,⟨⟨trivial,ZGy,trivial⟩,ZFw,trivial⟩⟩⟩⟩⟩⟩
theorem follows:Tryz.prog.follows .mixedOrders=true:=by kernel_rfl
end Go.Proofs.YtkeoeooghhjibaaGreatDoor
/- How contracts are closed for the program. No condition. -/
namespace Go.Proofs.YtkeoeooghhjibaaGreatDoor
def E0:List Ctr:=[]
theorem ZaA:ZaK Tryz.prog E0:=trivial
section
variable {C:Ctx}{K:List Ctr}{n:Nat}{pa acc:List Bool}{fs gs:List AFrame}{h h':Zab}{Q:List AFrame→Zab→Prop}
theorem go(hC:C.P=Tryz.prog)(hK:ZaK Tryz.prog K)(hw:Zay std tab K n pa fs h=some (acc,gs,h'))(hb:AllT acc)(hq:Ev C gs h' Q):Ev C fs h Q:=ZC3 (by rw[hC];exact follows) (by rw[hC];exact Zad) (by rw[hC];exact hK) hw hb hq
theorem fin(hC:C.P=Tryz.prog)(hK:ZaK Tryz.prog K){fn:FuncId}{r r':AV}{fr fr':Option Fresh}(hw:ZaT std tab K n pa fn fs h=some (acc,r',fr'))(hb:AllT acc)(hr:r'=r)(hfr:fr'=fr):Ev C fs h (Zb3 fn r fr):=Zzo (by rw[hC];exact follows) (by rw[hC];exact Zad) (by rw[hC];exact hK) hw hb hr hfr
theorem start{fn:FuncId}{args:List AV}{af:AFrame}{r:AV}{fr:Option Fresh}(he:Zat tab fn args=some af)(hq:∀C:Ctx,C.P=Tryz.prog→Ev C [af] [] (Zb3 fn r fr)):Zan Tryz.prog fn args r fr:=Zfe Zad he fun _ _ _=>hq _ rfl
theorem tgo(hC:C.P=Tryz.prog)(hK:ZaK Tryz.prog K){fn:FuncId}{r:AV}{fr:Option Fresh}{s:Sp}{X:Prop}(he:ZaI std tab K fn (fun p=>Ev C p.1 p.2 (Zb3 fn r fr)) (fun r' fr'=>r'=r∧fr'=fr) (fun _ _ _ _=>False) s fs h=X)(hx:X):Ev C fs h (Zb3 fn r fr):=
 Zbk (K:=fun p=>Ev C p.1 p.2 (Zb3 fn r fr)) (F:=fun r' fr'=>r'=r∧fr'=fr) (M:=fun _ _ _ _=>False) (by rw[hC];exact follows) (by rw[hC];exact Zad) (by rw[hC];exact hK) (fun _ h=>h) (fun r' fr' h _ _ hf=>by obtain⟨rfl,rfl⟩:=h;exact hf) (fun _ _ _ _ h=>h.elim) s (by rw[he];exact hx)
theorem ZBa(hC:C.P=Tryz.prog)(hK:ZaK Tryz.prog K){fn:FuncId}{r:AV}{fr:Option Fresh}{s:Sp}{X:Prop}(he:ZaI std tab K fn (fun p=>Ev C p.1 p.2 (Zwm fn r fr)) (fun r' fr'=>Wk r' r∧fr'=fr) (fun _ _ _ _=>False) s fs h=X)(hx:X):Ev C fs h (Zwm fn r fr):=
 Zbk (K:=fun p=>Ev C p.1 p.2 (Zwm fn r fr)) (F:=fun r' fr'=>Wk r' r∧fr'=fr) (M:=fun _ _ _ _=>False) (by rw[hC];exact follows) (by rw[hC];exact Zad) (by rw[hC];exact hK) (fun _ h=>h) (fun r' fr' h _ _ hf=>by obtain⟨h1,rfl⟩:=h;exact⟨r',h1,hf⟩) (fun _ _ _ _ h=>h.elim) s (by rw[he];exact hx)
theorem ZzW{fn:FuncId}{args:List AV}{af:AFrame}{r:AV}{fr:Option Fresh}(he:Zat tab fn args=some af)(hq:∀C:Ctx,C.P=Tryz.prog→Ev C [af] [] (Zwm fn r fr)):Zan Tryz.prog fn args r fr:=Zk8 Zad he fun _ _ _=>hq _ rfl
theorem ZhP(hC:C.P=Tryz.prog)(hK:ZaK Tryz.prog K){fn:FuncId}{r:AV}{s:Sp}{X:Prop}(he:ZaI std tab K fn (fun p=>Ev C p.1 p.2 (ZmP fn r)) (fun r' fr'=>∃r'',Wk r' r''∧Frz fr' r'' r∧Zgj fr'=false) (fun _ _ _ _=>False) s fs h=X)(hx:X):Ev C fs h (ZmP fn r):=
 Zbk (K:=fun p=>Ev C p.1 p.2 (ZmP fn r)) (F:=fun r' fr'=>∃r'',Wk r' r''∧Frz fr' r'' r∧Zgj fr'=false) (M:=fun _ _ _ _=>False) (by rw[hC];exact follows) (by rw[hC];exact Zad) (by rw[hC];exact hK) (fun _ h=>h) (fun r' fr' h _ _ hf=>by obtain⟨r'',h1,h2,h3⟩:=h;exact⟨r',r'',fr',h1,h2,h3,hf⟩) (fun _ _ _ _ h=>h.elim) s (by rw[he];exact hx)
theorem Zmv{fn:FuncId}{args:List AV}{af:AFrame}{r:AV}(he:Zat tab fn args=some af)(hq:∀C:Ctx,C.P=Tryz.prog→Ev C [af] [] (ZmP fn r)):Zan Tryz.prog fn args r Zl2:=ZkH Zad he fun _ _ _=>hq _ rfl
end
theorem Zt2{f:FuncId}{args:List AV}{e sz:Nat}{r:Row}(h:Zan Tryz.prog f args (.row 0 0) (some ⟨e,sz+1,r⟩))(hp:r.pure=true)(hs:r.solid=true):Zan Tryz.prog f args (.list r) Zl2:=
 ZqI h rfl (.one (.row _ rfl hp hs))
theorem Rel.same{w:World}{ok:Nat→Prop}{h:Zab}{L:Lay}{r r':Row}{v:Value}(he:r.elems=r'.elems)(hr:Rel w ok h L (.list r) v):Rel w ok h L (.list r') v:=by
 cases hr with
 |nil _ a c h0=>exact .nil _ a c (he▸h0)
 |list _ xs hx ad n cap sz cs hb hok hn hcap hsz hl h1 hc hp hrr=>exact .list r' xs (hx.trans he) ad n cap sz cs hb hok hn hcap hsz hl h1 hc hp hrr
inductive Wk1:AV→AV→Prop
 |nil (r:Row) (h:r.elems=[]):Wk1 .nils (.list r)
 |same (v:AV):Wk1 v v
def WkL:List AV→List AV→Prop
 |[],[]=>True
 |x::xs,y::ys=>Wk1 x y∧WkL xs ys
 |_,_=>False
theorem WkL.spec:∀ {xs ys:List AV},WkL xs ys→xs.length=ys.length∧∀(j:Nat) (y:AV),ys[j]? =some y→∃x,xs[j]? =some x∧Wk1 x y
 |[],[],_=>⟨rfl,fun j y h=>by simp at h⟩
 |x::xs,y::ys,h=>by
  obtain⟨h1,h2⟩:=h
  obtain⟨e1,e2⟩:=WkL.spec h2
  refine⟨by simp[e1],fun j z hz=>?_⟩
  cases j with
  |zero=>simp at hz;subst hz;exact⟨x,rfl,h1⟩
  |succ j=>obtain⟨q,q1,q2⟩:=e2 j z (by simpa using hz);exact⟨q,by simpa using q1,q2⟩
theorem Wk1.rel{w:World}{ok:Nat→Prop}{h:Zab}{L:Lay}{v v':AV}{x:Value}(hw:Wk1 v v')(hr:Rel w ok h L v x):Rel w ok h L v' x:=by
 cases hw with
 |nil r h=>cases hr with |nils=>exact .nil r none 0 h
 |same=>exact hr
end Go.Proofs.YtkeoeooghhjibaaGreatDoor
/- Calls at given values. Printed by facts.py. -/
namespace Go.Proofs.YtkeoeooghhjibaaGreatDoor
set_option maxRecDepth 1000000
def aw0:Fact:=⟨66,[],(.agg (.gen [(.list (.big .str [(.str [115,97,102,101]),(.str [99,114,117,105,115,101]),(.str [98,117,114,110])])),(.list (.big (.agg [.str,(.int .i64)]) [(.agg (.gen [(.str [119,97,107,101]),(.int .i64 1)])),(.agg (.gen [(.str [102,105,114,101]),(.int .i64 2)])),(.agg (.gen [(.str [115,116,111,112]),(.int .i64 1)])),(.agg (.gen [(.str [112,105,110,103]),(.int .i64 (-1))]))])),(.list (.big (.agg [.str,(.int .i64),(.int .i64),(.int .i64),(.int .i64)]) [(.agg (.gen [(.str [99,111,108,100]),(.int .i64 1),(.int .i64 0),(.int .i64 (-1)),(.int .i64 1)])),(.agg (.gen [(.str [104,101,97,116]),(.int .i64 1),(.int .i64 (-1)),(.int .i64 2),(.int .i64 50)]))])),(.list (.big (.agg [(.int .i64),(.int .i64),(.int .i64)]) [(.agg (.gen [(.int .i64 0),(.int .i64 0),(.int .i64 100)])),(.agg (.gen [(.int .i64 1),(.int .i64 20),(.int .i64 200)])),(.agg (.gen [(.int .i64 2),(.int .i64 30),(.int .i64 300)])),(.agg (.gen [(.int .i64 1),(.int .i64 40),(.int .i64 400)]))])),(.int .i64 2),(.int .i64 2)])),none⟩
theorem ZAr:Zan Tryz.prog aw0.f aw0.args aw0.r aw0.fr:=Zac (n:=100000) (l:=[]) follows Zad trivial (by kernel_rfl)
def aw1:Fact:=⟨68,[(.bool true),(.int .i64 10)],(.int .i64 0),none⟩
theorem Zoc:Zan Tryz.prog aw1.f aw1.args aw1.r aw1.fr:=Zac (n:=100000) (l:=[]) follows Zad trivial (by kernel_rfl)
def aw2:Fact:=⟨68,[(.bool true),(.int .i64 8)],(.int .i64 0),none⟩
theorem Zmo:Zan Tryz.prog aw2.f aw2.args aw2.r aw2.fr:=Zac (n:=100000) (l:=[]) follows Zad trivial (by kernel_rfl)
def aw3:Fact:=⟨67,[(.list (.ints .i64 [0,0]))],(.int .i64 0),none⟩
theorem ZlG:Zan Tryz.prog aw3.f aw3.args aw3.r aw3.fr:=Zac (n:=100000) (l:=[]) follows Zad trivial (by kernel_rfl)
def aw4:Fact:=⟨160,[(.int .i64 0),(.eptr (.agg (.gen [(.list (.big .str [(.str [115,97,102,101]),(.str [99,114,117,105,115,101]),(.str [98,117,114,110])])),(.list (.big (.agg [.str,(.int .i64)]) [(.agg (.gen [(.str [119,97,107,101]),(.int .i64 1)])),(.agg (.gen [(.str [102,105,114,101]),(.int .i64 2)])),(.agg (.gen [(.str [115,116,111,112]),(.int .i64 1)])),(.agg (.gen [(.str [112,105,110,103]),(.int .i64 (-1))]))])),(.list (.big (.agg [.str,(.int .i64),(.int .i64),(.int .i64),(.int .i64)]) [(.agg (.gen [(.str [99,111,108,100]),(.int .i64 1),(.int .i64 0),(.int .i64 (-1)),(.int .i64 1)])),(.agg (.gen [(.str [104,101,97,116]),(.int .i64 1),(.int .i64 (-1)),(.int .i64 2),(.int .i64 50)]))]))])) 0)],(.str [115,97,102,101]),none⟩
theorem ZyW:Zan Tryz.prog aw4.f aw4.args aw4.r aw4.fr:=Zac (n:=100000) (l:=[]) follows Zad trivial (by kernel_rfl)
def aw5:Fact:=⟨182,[(.str [115,97,102,101])],(.bool true),none⟩
theorem Zww:Zan Tryz.prog aw5.f aw5.args aw5.r aw5.fr:=Zac (n:=100000) (l:=[]) follows Zad trivial (by kernel_rfl)
def aw6:Fact:=⟨68,[(.bool true),(.int .i64 4)],(.int .i64 0),none⟩
theorem ZyA:Zan Tryz.prog aw6.f aw6.args aw6.r aw6.fr:=Zac (n:=100000) (l:=[]) follows Zad trivial (by kernel_rfl)
def aw7:Fact:=⟨68,[(.bool true),(.int .i64 5)],(.int .i64 0),none⟩
theorem ZzE:Zan Tryz.prog aw7.f aw7.args aw7.r aw7.fr:=Zac (n:=100000) (l:=[]) follows Zad trivial (by kernel_rfl)
def aw8:Fact:=⟨161,[(.int .i64 0)],(.int .i64 0),none⟩
theorem Zz8:Zan Tryz.prog aw8.f aw8.args aw8.r aw8.fr:=Zac (n:=100000) (l:=[]) follows Zad trivial (by kernel_rfl)
def aw9:Fact:=⟨67,[(.list (.ints .i64 [0,0,0]))],(.int .i64 0),none⟩
theorem ZfJ:Zan Tryz.prog aw9.f aw9.args aw9.r aw9.fr:=Zac (n:=100000) (l:=[]) follows Zad trivial (by kernel_rfl)
def aw10:Fact:=⟨160,[(.int .i64 1),(.eptr (.agg (.gen [(.list (.big .str [(.str [115,97,102,101]),(.str [99,114,117,105,115,101]),(.str [98,117,114,110])])),(.list (.big (.agg [.str,(.int .i64)]) [(.agg (.gen [(.str [119,97,107,101]),(.int .i64 1)])),(.agg (.gen [(.str [102,105,114,101]),(.int .i64 2)])),(.agg (.gen [(.str [115,116,111,112]),(.int .i64 1)])),(.agg (.gen [(.str [112,105,110,103]),(.int .i64 (-1))]))])),(.list (.big (.agg [.str,(.int .i64),(.int .i64),(.int .i64),(.int .i64)]) [(.agg (.gen [(.str [99,111,108,100]),(.int .i64 1),(.int .i64 0),(.int .i64 (-1)),(.int .i64 1)])),(.agg (.gen [(.str [104,101,97,116]),(.int .i64 1),(.int .i64 (-1)),(.int .i64 2),(.int .i64 50)]))]))])) 0)],(.str [99,114,117,105,115,101]),none⟩
theorem Zwl:Zan Tryz.prog aw10.f aw10.args aw10.r aw10.fr:=Zac (n:=100000) (l:=[]) follows Zad trivial (by kernel_rfl)
def aw11:Fact:=⟨182,[(.str [99,114,117,105,115,101])],(.bool true),none⟩
theorem Zwa:Zan Tryz.prog aw11.f aw11.args aw11.r aw11.fr:=Zac (n:=100000) (l:=[]) follows Zad trivial (by kernel_rfl)
def aw12:Fact:=⟨161,[(.int .i64 1)],(.int .i64 0),none⟩
theorem ZtL:Zan Tryz.prog aw12.f aw12.args aw12.r aw12.fr:=Zac (n:=100000) (l:=[]) follows Zad trivial (by kernel_rfl)
def aw13:Fact:=⟨160,[(.int .i64 2),(.eptr (.agg (.gen [(.list (.big .str [(.str [115,97,102,101]),(.str [99,114,117,105,115,101]),(.str [98,117,114,110])])),(.list (.big (.agg [.str,(.int .i64)]) [(.agg (.gen [(.str [119,97,107,101]),(.int .i64 1)])),(.agg (.gen [(.str [102,105,114,101]),(.int .i64 2)])),(.agg (.gen [(.str [115,116,111,112]),(.int .i64 1)])),(.agg (.gen [(.str [112,105,110,103]),(.int .i64 (-1))]))])),(.list (.big (.agg [.str,(.int .i64),(.int .i64),(.int .i64),(.int .i64)]) [(.agg (.gen [(.str [99,111,108,100]),(.int .i64 1),(.int .i64 0),(.int .i64 (-1)),(.int .i64 1)])),(.agg (.gen [(.str [104,101,97,116]),(.int .i64 1),(.int .i64 (-1)),(.int .i64 2),(.int .i64 50)]))]))])) 0)],(.str [98,117,114,110]),none⟩
theorem ZuC:Zan Tryz.prog aw13.f aw13.args aw13.r aw13.fr:=Zac (n:=100000) (l:=[]) follows Zad trivial (by kernel_rfl)
def aw14:Fact:=⟨182,[(.str [98,117,114,110])],(.bool true),none⟩
theorem ZvX:Zan Tryz.prog aw14.f aw14.args aw14.r aw14.fr:=Zac (n:=100000) (l:=[]) follows Zad trivial (by kernel_rfl)
def aw15:Fact:=⟨161,[(.int .i64 2)],(.int .i64 0),none⟩
theorem ZvK:Zan Tryz.prog aw15.f aw15.args aw15.r aw15.fr:=Zac (n:=100000) (l:=[]) follows Zad trivial (by kernel_rfl)
def aw16:Fact:=⟨162,[(.int .i64 0),(.eptr (.agg (.gen [(.list (.big .str [(.str [115,97,102,101]),(.str [99,114,117,105,115,101]),(.str [98,117,114,110])])),(.list (.big (.agg [.str,(.int .i64)]) [(.agg (.gen [(.str [119,97,107,101]),(.int .i64 1)])),(.agg (.gen [(.str [102,105,114,101]),(.int .i64 2)])),(.agg (.gen [(.str [115,116,111,112]),(.int .i64 1)])),(.agg (.gen [(.str [112,105,110,103]),(.int .i64 (-1))]))])),(.list (.big (.agg [.str,(.int .i64),(.int .i64),(.int .i64),(.int .i64)]) [(.agg (.gen [(.str [99,111,108,100]),(.int .i64 1),(.int .i64 0),(.int .i64 (-1)),(.int .i64 1)])),(.agg (.gen [(.str [104,101,97,116]),(.int .i64 1),(.int .i64 (-1)),(.int .i64 2),(.int .i64 50)]))]))])) 0)],(.str [119,97,107,101]),none⟩
theorem Zuv:Zan Tryz.prog aw16.f aw16.args aw16.r aw16.fr:=Zac (n:=100000) (l:=[]) follows Zad trivial (by kernel_rfl)
def aw17:Fact:=⟨182,[(.str [119,97,107,101])],(.bool true),none⟩
theorem Zux:Zan Tryz.prog aw17.f aw17.args aw17.r aw17.fr:=Zac (n:=100000) (l:=[]) follows Zad trivial (by kernel_rfl)
def aw18:Fact:=⟨82,[(.int .i64 1),(.int .i64 0),(.int .i64 2)],(.bool true),none⟩
theorem Zuu:Zan Tryz.prog aw18.f aw18.args aw18.r aw18.fr:=Zac (n:=100000) (l:=[]) follows Zad trivial (by kernel_rfl)
def aw19:Fact:=⟨158,[(.int .i64 1),(.int .i64 3)],(.bool true),none⟩
theorem Zpw:Zan Tryz.prog aw19.f aw19.args aw19.r aw19.fr:=Zac (n:=100000) (l:=[aw18]) follows Zad ⟨Zuu,trivial⟩ (by kernel_rfl)
def aw20:Fact:=⟨68,[(.bool true),(.int .i64 6)],(.int .i64 0),none⟩
theorem ZcZ:Zan Tryz.prog aw20.f aw20.args aw20.r aw20.fr:=Zac (n:=100000) (l:=[]) follows Zad trivial (by kernel_rfl)
def aw21:Fact:=⟨163,[(.int .i64 0),(.eptr (.fn 158 []) 0),(.eptr (.agg (.gen [(.list (.big .str [(.str [115,97,102,101]),(.str [99,114,117,105,115,101]),(.str [98,117,114,110])])),(.list (.big (.agg [.str,(.int .i64)]) [(.agg (.gen [(.str [119,97,107,101]),(.int .i64 1)])),(.agg (.gen [(.str [102,105,114,101]),(.int .i64 2)])),(.agg (.gen [(.str [115,116,111,112]),(.int .i64 1)])),(.agg (.gen [(.str [112,105,110,103]),(.int .i64 (-1))]))])),(.list (.big (.agg [.str,(.int .i64),(.int .i64),(.int .i64),(.int .i64)]) [(.agg (.gen [(.str [99,111,108,100]),(.int .i64 1),(.int .i64 0),(.int .i64 (-1)),(.int .i64 1)])),(.agg (.gen [(.str [104,101,97,116]),(.int .i64 1),(.int .i64 (-1)),(.int .i64 2),(.int .i64 50)]))]))])) 0),(.eptr (.int .i64 3) 0)],(.int .i64 0),none⟩
theorem Zs0:Zan Tryz.prog aw21.f aw21.args aw21.r aw21.fr:=Zac (n:=100000) (l:=[aw19,aw20]) follows Zad ⟨Zpw,⟨ZcZ,trivial⟩⟩ (by kernel_rfl)
def aw22:Fact:=⟨162,[(.int .i64 1),(.eptr (.agg (.gen [(.list (.big .str [(.str [115,97,102,101]),(.str [99,114,117,105,115,101]),(.str [98,117,114,110])])),(.list (.big (.agg [.str,(.int .i64)]) [(.agg (.gen [(.str [119,97,107,101]),(.int .i64 1)])),(.agg (.gen [(.str [102,105,114,101]),(.int .i64 2)])),(.agg (.gen [(.str [115,116,111,112]),(.int .i64 1)])),(.agg (.gen [(.str [112,105,110,103]),(.int .i64 (-1))]))])),(.list (.big (.agg [.str,(.int .i64),(.int .i64),(.int .i64),(.int .i64)]) [(.agg (.gen [(.str [99,111,108,100]),(.int .i64 1),(.int .i64 0),(.int .i64 (-1)),(.int .i64 1)])),(.agg (.gen [(.str [104,101,97,116]),(.int .i64 1),(.int .i64 (-1)),(.int .i64 2),(.int .i64 50)]))]))])) 0)],(.str [102,105,114,101]),none⟩
theorem Zvk:Zan Tryz.prog aw22.f aw22.args aw22.r aw22.fr:=Zac (n:=100000) (l:=[]) follows Zad trivial (by kernel_rfl)
def aw23:Fact:=⟨182,[(.str [102,105,114,101])],(.bool true),none⟩
theorem Zvc:Zan Tryz.prog aw23.f aw23.args aw23.r aw23.fr:=Zac (n:=100000) (l:=[]) follows Zad trivial (by kernel_rfl)
def aw24:Fact:=⟨82,[(.int .i64 2),(.int .i64 0),(.int .i64 2)],(.bool true),none⟩
theorem Zu1:Zan Tryz.prog aw24.f aw24.args aw24.r aw24.fr:=Zac (n:=100000) (l:=[]) follows Zad trivial (by kernel_rfl)
def aw25:Fact:=⟨158,[(.int .i64 2),(.int .i64 3)],(.bool true),none⟩
theorem Zu2:Zan Tryz.prog aw25.f aw25.args aw25.r aw25.fr:=Zac (n:=100000) (l:=[aw24]) follows Zad ⟨Zu1,trivial⟩ (by kernel_rfl)
def aw26:Fact:=⟨163,[(.int .i64 1),(.eptr (.fn 158 []) 0),(.eptr (.agg (.gen [(.list (.big .str [(.str [115,97,102,101]),(.str [99,114,117,105,115,101]),(.str [98,117,114,110])])),(.list (.big (.agg [.str,(.int .i64)]) [(.agg (.gen [(.str [119,97,107,101]),(.int .i64 1)])),(.agg (.gen [(.str [102,105,114,101]),(.int .i64 2)])),(.agg (.gen [(.str [115,116,111,112]),(.int .i64 1)])),(.agg (.gen [(.str [112,105,110,103]),(.int .i64 (-1))]))])),(.list (.big (.agg [.str,(.int .i64),(.int .i64),(.int .i64),(.int .i64)]) [(.agg (.gen [(.str [99,111,108,100]),(.int .i64 1),(.int .i64 0),(.int .i64 (-1)),(.int .i64 1)])),(.agg (.gen [(.str [104,101,97,116]),(.int .i64 1),(.int .i64 (-1)),(.int .i64 2),(.int .i64 50)]))]))])) 0),(.eptr (.int .i64 3) 0)],(.int .i64 0),none⟩
theorem Zs1:Zan Tryz.prog aw26.f aw26.args aw26.r aw26.fr:=Zac (n:=100000) (l:=[aw25,aw20]) follows Zad ⟨Zu2,⟨ZcZ,trivial⟩⟩ (by kernel_rfl)
def aw27:Fact:=⟨162,[(.int .i64 2),(.eptr (.agg (.gen [(.list (.big .str [(.str [115,97,102,101]),(.str [99,114,117,105,115,101]),(.str [98,117,114,110])])),(.list (.big (.agg [.str,(.int .i64)]) [(.agg (.gen [(.str [119,97,107,101]),(.int .i64 1)])),(.agg (.gen [(.str [102,105,114,101]),(.int .i64 2)])),(.agg (.gen [(.str [115,116,111,112]),(.int .i64 1)])),(.agg (.gen [(.str [112,105,110,103]),(.int .i64 (-1))]))])),(.list (.big (.agg [.str,(.int .i64),(.int .i64),(.int .i64),(.int .i64)]) [(.agg (.gen [(.str [99,111,108,100]),(.int .i64 1),(.int .i64 0),(.int .i64 (-1)),(.int .i64 1)])),(.agg (.gen [(.str [104,101,97,116]),(.int .i64 1),(.int .i64 (-1)),(.int .i64 2),(.int .i64 50)]))]))])) 0)],(.str [115,116,111,112]),none⟩
theorem ZtM:Zan Tryz.prog aw27.f aw27.args aw27.r aw27.fr:=Zac (n:=100000) (l:=[]) follows Zad trivial (by kernel_rfl)
def aw28:Fact:=⟨182,[(.str [115,116,111,112])],(.bool true),none⟩
theorem Zuh:Zan Tryz.prog aw28.f aw28.args aw28.r aw28.fr:=Zac (n:=100000) (l:=[]) follows Zad trivial (by kernel_rfl)
def aw29:Fact:=⟨163,[(.int .i64 2),(.eptr (.fn 158 []) 0),(.eptr (.agg (.gen [(.list (.big .str [(.str [115,97,102,101]),(.str [99,114,117,105,115,101]),(.str [98,117,114,110])])),(.list (.big (.agg [.str,(.int .i64)]) [(.agg (.gen [(.str [119,97,107,101]),(.int .i64 1)])),(.agg (.gen [(.str [102,105,114,101]),(.int .i64 2)])),(.agg (.gen [(.str [115,116,111,112]),(.int .i64 1)])),(.agg (.gen [(.str [112,105,110,103]),(.int .i64 (-1))]))])),(.list (.big (.agg [.str,(.int .i64),(.int .i64),(.int .i64),(.int .i64)]) [(.agg (.gen [(.str [99,111,108,100]),(.int .i64 1),(.int .i64 0),(.int .i64 (-1)),(.int .i64 1)])),(.agg (.gen [(.str [104,101,97,116]),(.int .i64 1),(.int .i64 (-1)),(.int .i64 2),(.int .i64 50)]))]))])) 0),(.eptr (.int .i64 3) 0)],(.int .i64 0),none⟩
theorem Zvj:Zan Tryz.prog aw29.f aw29.args aw29.r aw29.fr:=Zac (n:=100000) (l:=[aw19,aw20]) follows Zad ⟨Zpw,⟨ZcZ,trivial⟩⟩ (by kernel_rfl)
def aw30:Fact:=⟨162,[(.int .i64 3),(.eptr (.agg (.gen [(.list (.big .str [(.str [115,97,102,101]),(.str [99,114,117,105,115,101]),(.str [98,117,114,110])])),(.list (.big (.agg [.str,(.int .i64)]) [(.agg (.gen [(.str [119,97,107,101]),(.int .i64 1)])),(.agg (.gen [(.str [102,105,114,101]),(.int .i64 2)])),(.agg (.gen [(.str [115,116,111,112]),(.int .i64 1)])),(.agg (.gen [(.str [112,105,110,103]),(.int .i64 (-1))]))])),(.list (.big (.agg [.str,(.int .i64),(.int .i64),(.int .i64),(.int .i64)]) [(.agg (.gen [(.str [99,111,108,100]),(.int .i64 1),(.int .i64 0),(.int .i64 (-1)),(.int .i64 1)])),(.agg (.gen [(.str [104,101,97,116]),(.int .i64 1),(.int .i64 (-1)),(.int .i64 2),(.int .i64 50)]))]))])) 0)],(.str [112,105,110,103]),none⟩
theorem Zu4:Zan Tryz.prog aw30.f aw30.args aw30.r aw30.fr:=Zac (n:=100000) (l:=[]) follows Zad trivial (by kernel_rfl)
def aw31:Fact:=⟨182,[(.str [112,105,110,103])],(.bool true),none⟩
theorem Zv6:Zan Tryz.prog aw31.f aw31.args aw31.r aw31.fr:=Zac (n:=100000) (l:=[]) follows Zad trivial (by kernel_rfl)
def aw32:Fact:=⟨158,[(.int .i64 (-1)),(.int .i64 3)],(.bool true),none⟩
theorem Zpv:Zan Tryz.prog aw32.f aw32.args aw32.r aw32.fr:=Zac (n:=100000) (l:=[]) follows Zad trivial (by kernel_rfl)
def aw33:Fact:=⟨163,[(.int .i64 3),(.eptr (.fn 158 []) 0),(.eptr (.agg (.gen [(.list (.big .str [(.str [115,97,102,101]),(.str [99,114,117,105,115,101]),(.str [98,117,114,110])])),(.list (.big (.agg [.str,(.int .i64)]) [(.agg (.gen [(.str [119,97,107,101]),(.int .i64 1)])),(.agg (.gen [(.str [102,105,114,101]),(.int .i64 2)])),(.agg (.gen [(.str [115,116,111,112]),(.int .i64 1)])),(.agg (.gen [(.str [112,105,110,103]),(.int .i64 (-1))]))])),(.list (.big (.agg [.str,(.int .i64),(.int .i64),(.int .i64),(.int .i64)]) [(.agg (.gen [(.str [99,111,108,100]),(.int .i64 1),(.int .i64 0),(.int .i64 (-1)),(.int .i64 1)])),(.agg (.gen [(.str [104,101,97,116]),(.int .i64 1),(.int .i64 (-1)),(.int .i64 2),(.int .i64 50)]))]))])) 0),(.eptr (.int .i64 3) 0)],(.int .i64 0),none⟩
theorem ZuZ:Zan Tryz.prog aw33.f aw33.args aw33.r aw33.fr:=Zac (n:=100000) (l:=[aw32,aw20]) follows Zad ⟨Zpv,⟨ZcZ,trivial⟩⟩ (by kernel_rfl)
def aw34:Fact:=⟨164,[(.int .i64 0),(.eptr (.agg (.gen [(.list (.big .str [(.str [115,97,102,101]),(.str [99,114,117,105,115,101]),(.str [98,117,114,110])])),(.list (.big (.agg [.str,(.int .i64)]) [(.agg (.gen [(.str [119,97,107,101]),(.int .i64 1)])),(.agg (.gen [(.str [102,105,114,101]),(.int .i64 2)])),(.agg (.gen [(.str [115,116,111,112]),(.int .i64 1)])),(.agg (.gen [(.str [112,105,110,103]),(.int .i64 (-1))]))])),(.list (.big (.agg [.str,(.int .i64),(.int .i64),(.int .i64),(.int .i64)]) [(.agg (.gen [(.str [99,111,108,100]),(.int .i64 1),(.int .i64 0),(.int .i64 (-1)),(.int .i64 1)])),(.agg (.gen [(.str [104,101,97,116]),(.int .i64 1),(.int .i64 (-1)),(.int .i64 2),(.int .i64 50)]))]))])) 0)],(.str [99,111,108,100]),none⟩
theorem ZvA:Zan Tryz.prog aw34.f aw34.args aw34.r aw34.fr:=Zac (n:=100000) (l:=[]) follows Zad trivial (by kernel_rfl)
def aw35:Fact:=⟨182,[(.str [99,111,108,100])],(.bool true),none⟩
theorem Zv7:Zan Tryz.prog aw35.f aw35.args aw35.r aw35.fr:=Zac (n:=100000) (l:=[]) follows Zad trivial (by kernel_rfl)
def aw36:Fact:=⟨82,[(.int .i64 1),(.int .i64 0),(.int .i64 3)],(.bool true),none⟩
theorem ZgC:Zan Tryz.prog aw36.f aw36.args aw36.r aw36.fr:=Zac (n:=100000) (l:=[]) follows Zad trivial (by kernel_rfl)
def aw37:Fact:=⟨82,[(.int .i64 0),(.int .i64 0),(.int .i64 2)],(.bool true),none⟩
theorem Zof:Zan Tryz.prog aw37.f aw37.args aw37.r aw37.fr:=Zac (n:=100000) (l:=[]) follows Zad trivial (by kernel_rfl)
def aw38:Fact:=⟨158,[(.int .i64 0),(.int .i64 3)],(.bool true),none⟩
theorem ZsV:Zan Tryz.prog aw38.f aw38.args aw38.r aw38.fr:=Zac (n:=100000) (l:=[aw37]) follows Zad ⟨Zof,trivial⟩ (by kernel_rfl)
def aw39:Fact:=⟨158,[(.int .i64 (-1)),(.int .i64 4)],(.bool true),none⟩
theorem Zvb:Zan Tryz.prog aw39.f aw39.args aw39.r aw39.fr:=Zac (n:=100000) (l:=[]) follows Zad trivial (by kernel_rfl)
def aw40:Fact:=⟨82,[(.int .i64 1),(.int .i64 1),(.int .i64 1000000)],(.bool true),none⟩
theorem Zuo:Zan Tryz.prog aw40.f aw40.args aw40.r aw40.fr:=Zac (n:=100000) (l:=[]) follows Zad trivial (by kernel_rfl)
def aw41:Fact:=⟨68,[(.bool true),(.int .i64 2)],(.int .i64 0),none⟩
theorem ZbT:Zan Tryz.prog aw41.f aw41.args aw41.r aw41.fr:=Zac (n:=100000) (l:=[]) follows Zad trivial (by kernel_rfl)
def aw42:Fact:=⟨68,[(.bool true),(.int .i64 3)],(.int .i64 0),none⟩
theorem Zpx:Zan Tryz.prog aw42.f aw42.args aw42.r aw42.fr:=Zac (n:=100000) (l:=[]) follows Zad trivial (by kernel_rfl)
def aw43:Fact:=⟨165,[(.int .i64 0),(.eptr (.agg (.gen [(.list (.big .str [(.str [115,97,102,101]),(.str [99,114,117,105,115,101]),(.str [98,117,114,110])])),(.list (.big (.agg [.str,(.int .i64)]) [(.agg (.gen [(.str [119,97,107,101]),(.int .i64 1)])),(.agg (.gen [(.str [102,105,114,101]),(.int .i64 2)])),(.agg (.gen [(.str [115,116,111,112]),(.int .i64 1)])),(.agg (.gen [(.str [112,105,110,103]),(.int .i64 (-1))]))])),(.list (.big (.agg [.str,(.int .i64),(.int .i64),(.int .i64),(.int .i64)]) [(.agg (.gen [(.str [99,111,108,100]),(.int .i64 1),(.int .i64 0),(.int .i64 (-1)),(.int .i64 1)])),(.agg (.gen [(.str [104,101,97,116]),(.int .i64 1),(.int .i64 (-1)),(.int .i64 2),(.int .i64 50)]))]))])) 0),(.eptr (.int .i64 4) 0),(.eptr (.fn 158 []) 0),(.eptr (.int .i64 3) 0)],(.int .i64 0),none⟩
theorem Zun:Zan Tryz.prog aw43.f aw43.args aw43.r aw43.fr:=Zac (n:=100000) (l:=[aw36,aw38,aw39,aw20,aw40,aw41,aw42,aw9]) follows Zad ⟨ZgC,⟨ZsV,⟨Zvb,⟨ZcZ,⟨Zuo,⟨ZbT,⟨Zpx,⟨ZfJ,trivial⟩⟩⟩⟩⟩⟩⟩⟩ (by kernel_rfl)
def aw44:Fact:=⟨164,[(.int .i64 1),(.eptr (.agg (.gen [(.list (.big .str [(.str [115,97,102,101]),(.str [99,114,117,105,115,101]),(.str [98,117,114,110])])),(.list (.big (.agg [.str,(.int .i64)]) [(.agg (.gen [(.str [119,97,107,101]),(.int .i64 1)])),(.agg (.gen [(.str [102,105,114,101]),(.int .i64 2)])),(.agg (.gen [(.str [115,116,111,112]),(.int .i64 1)])),(.agg (.gen [(.str [112,105,110,103]),(.int .i64 (-1))]))])),(.list (.big (.agg [.str,(.int .i64),(.int .i64),(.int .i64),(.int .i64)]) [(.agg (.gen [(.str [99,111,108,100]),(.int .i64 1),(.int .i64 0),(.int .i64 (-1)),(.int .i64 1)])),(.agg (.gen [(.str [104,101,97,116]),(.int .i64 1),(.int .i64 (-1)),(.int .i64 2),(.int .i64 50)]))]))])) 0)],(.str [104,101,97,116]),none⟩
theorem ZsX:Zan Tryz.prog aw44.f aw44.args aw44.r aw44.fr:=Zac (n:=100000) (l:=[]) follows Zad trivial (by kernel_rfl)
def aw45:Fact:=⟨182,[(.str [104,101,97,116])],(.bool true),none⟩
theorem Zvv:Zan Tryz.prog aw45.f aw45.args aw45.r aw45.fr:=Zac (n:=100000) (l:=[]) follows Zad trivial (by kernel_rfl)
def aw46:Fact:=⟨82,[(.int .i64 2),(.int .i64 0),(.int .i64 3)],(.bool true),none⟩
theorem Zow:Zan Tryz.prog aw46.f aw46.args aw46.r aw46.fr:=Zac (n:=100000) (l:=[]) follows Zad trivial (by kernel_rfl)
def aw47:Fact:=⟨158,[(.int .i64 2),(.int .i64 4)],(.bool true),none⟩
theorem Zt6:Zan Tryz.prog aw47.f aw47.args aw47.r aw47.fr:=Zac (n:=100000) (l:=[aw46]) follows Zad ⟨Zow,trivial⟩ (by kernel_rfl)
def aw48:Fact:=⟨82,[(.int .i64 50),(.int .i64 1),(.int .i64 1000000)],(.bool true),none⟩
theorem Zvr:Zan Tryz.prog aw48.f aw48.args aw48.r aw48.fr:=Zac (n:=100000) (l:=[]) follows Zad trivial (by kernel_rfl)
def aw49:Fact:=⟨165,[(.int .i64 1),(.eptr (.agg (.gen [(.list (.big .str [(.str [115,97,102,101]),(.str [99,114,117,105,115,101]),(.str [98,117,114,110])])),(.list (.big (.agg [.str,(.int .i64)]) [(.agg (.gen [(.str [119,97,107,101]),(.int .i64 1)])),(.agg (.gen [(.str [102,105,114,101]),(.int .i64 2)])),(.agg (.gen [(.str [115,116,111,112]),(.int .i64 1)])),(.agg (.gen [(.str [112,105,110,103]),(.int .i64 (-1))]))])),(.list (.big (.agg [.str,(.int .i64),(.int .i64),(.int .i64),(.int .i64)]) [(.agg (.gen [(.str [99,111,108,100]),(.int .i64 1),(.int .i64 0),(.int .i64 (-1)),(.int .i64 1)])),(.agg (.gen [(.str [104,101,97,116]),(.int .i64 1),(.int .i64 (-1)),(.int .i64 2),(.int .i64 50)]))]))])) 0),(.eptr (.int .i64 4) 0),(.eptr (.fn 158 []) 0),(.eptr (.int .i64 3) 0)],(.int .i64 0),none⟩
theorem ZtR:Zan Tryz.prog aw49.f aw49.args aw49.r aw49.fr:=Zac (n:=100000) (l:=[aw36,aw32,aw47,aw20,aw48,aw41,aw42,aw9]) follows Zad ⟨ZgC,⟨Zpv,⟨Zt6,⟨ZcZ,⟨Zvr,⟨ZbT,⟨Zpx,⟨ZfJ,trivial⟩⟩⟩⟩⟩⟩⟩⟩ (by kernel_rfl)
def aw50:Fact:=⟨136,[(.agg (.gen [(.list (.big .str [(.str [115,97,102,101]),(.str [99,114,117,105,115,101]),(.str [98,117,114,110])])),(.list (.big (.agg [.str,(.int .i64)]) [(.agg (.gen [(.str [119,97,107,101]),(.int .i64 1)])),(.agg (.gen [(.str [102,105,114,101]),(.int .i64 2)])),(.agg (.gen [(.str [115,116,111,112]),(.int .i64 1)])),(.agg (.gen [(.str [112,105,110,103]),(.int .i64 (-1))]))])),(.list (.big (.agg [.str,(.int .i64),(.int .i64),(.int .i64),(.int .i64)]) [(.agg (.gen [(.str [99,111,108,100]),(.int .i64 1),(.int .i64 0),(.int .i64 (-1)),(.int .i64 1)])),(.agg (.gen [(.str [104,101,97,116]),(.int .i64 1),(.int .i64 (-1)),(.int .i64 2),(.int .i64 50)]))]))]))],(.tup [(.agg (.gen [(.int .i64 0),(.int .i64 0)])),(.int .i64 0)]),none⟩
theorem ZvN:Zan Tryz.prog aw50.f aw50.args aw50.r aw50.fr:=Zac (n:=100000) (l:=[aw1,aw2,aw3,aw4,aw5,aw6,aw7,aw8,aw9,aw10,aw11,aw12,aw13,aw14,aw15,aw16,aw17,aw21,aw22,aw23,aw26,aw27,aw28,aw29,aw30,aw31,aw33,aw34,aw35,aw43,aw44,aw45,aw49]) follows Zad ⟨Zoc,⟨Zmo,⟨ZlG,⟨ZyW,⟨Zww,⟨ZyA,⟨ZzE,⟨Zz8,⟨ZfJ,⟨Zwl,⟨Zwa,⟨ZtL,⟨ZuC,⟨ZvX,⟨ZvK,⟨Zuv,⟨Zux,⟨Zs0,⟨Zvk,⟨Zvc,⟨Zs1,⟨ZtM,⟨Zuh,⟨Zvj,⟨Zu4,⟨Zv6,⟨ZuZ,⟨ZvA,⟨Zv7,⟨Zun,⟨ZsX,⟨Zvv,⟨ZtR,trivial⟩⟩⟩⟩⟩⟩⟩⟩⟩⟩⟩⟩⟩⟩⟩⟩⟩⟩⟩⟩⟩⟩⟩⟩⟩⟩⟩⟩⟩⟩⟩⟩⟩ (by kernel_rfl)
def aw51:Fact:=⟨88,[(.agg (.gen [(.list (.big .str [(.str [115,97,102,101]),(.str [99,114,117,105,115,101]),(.str [98,117,114,110])])),(.list (.big (.agg [.str,(.int .i64)]) [(.agg (.gen [(.str [119,97,107,101]),(.int .i64 1)])),(.agg (.gen [(.str [102,105,114,101]),(.int .i64 2)])),(.agg (.gen [(.str [115,116,111,112]),(.int .i64 1)])),(.agg (.gen [(.str [112,105,110,103]),(.int .i64 (-1))]))])),(.list (.big (.agg [.str,(.int .i64),(.int .i64),(.int .i64),(.int .i64)]) [(.agg (.gen [(.str [99,111,108,100]),(.int .i64 1),(.int .i64 0),(.int .i64 (-1)),(.int .i64 1)])),(.agg (.gen [(.str [104,101,97,116]),(.int .i64 1),(.int .i64 (-1)),(.int .i64 2),(.int .i64 50)]))]))]))],(.int .i64 0),none⟩
theorem Zn1:Zan Tryz.prog aw51.f aw51.args aw51.r aw51.fr:=Zac (n:=100000) (l:=[aw50]) follows Zad ⟨ZvN,trivial⟩ (by kernel_rfl)
def aw52:Fact:=⟨82,[(.int .i64 0),(.int .i64 0),(.int .i64 3)],(.bool true),none⟩
theorem ZtU:Zan Tryz.prog aw52.f aw52.args aw52.r aw52.fr:=Zac (n:=100000) (l:=[]) follows Zad trivial (by kernel_rfl)
def aw53:Fact:=⟨68,[(.bool true),(.int .i64 15)],(.int .i64 0),none⟩
theorem Zgw:Zan Tryz.prog aw53.f aw53.args aw53.r aw53.fr:=Zac (n:=100000) (l:=[]) follows Zad trivial (by kernel_rfl)
def aw54:Fact:=⟨82,[(.int .i64 0),(.int .i64 0),(.int .i64 1000000000000)],(.bool true),none⟩
theorem Ztk:Zan Tryz.prog aw54.f aw54.args aw54.r aw54.fr:=Zac (n:=100000) (l:=[]) follows Zad trivial (by kernel_rfl)
def aw55:Fact:=⟨89,[(.int .i64 0)],(.bool true),none⟩
theorem Zo3:Zan Tryz.prog aw55.f aw55.args aw55.r aw55.fr:=Zac (n:=100000) (l:=[aw54]) follows Zad ⟨Ztk,trivial⟩ (by kernel_rfl)
def aw56:Fact:=⟨82,[(.int .i64 100),(.int .i64 0),(.int .i64 1000000000000)],(.bool true),none⟩
theorem ZuY:Zan Tryz.prog aw56.f aw56.args aw56.r aw56.fr:=Zac (n:=100000) (l:=[]) follows Zad trivial (by kernel_rfl)
def aw57:Fact:=⟨89,[(.int .i64 100)],(.bool true),none⟩
theorem Zt7:Zan Tryz.prog aw57.f aw57.args aw57.r aw57.fr:=Zac (n:=100000) (l:=[aw56]) follows Zad ⟨ZuY,trivial⟩ (by kernel_rfl)
def aw58:Fact:=⟨68,[(.bool true),(.int .i64 9)],(.int .i64 0),none⟩
theorem Zjf:Zan Tryz.prog aw58.f aw58.args aw58.r aw58.fr:=Zac (n:=100000) (l:=[]) follows Zad trivial (by kernel_rfl)
def aw59:Fact:=⟨120,[(.agg (.gen [(.list (.big .str [(.str [115,97,102,101]),(.str [99,114,117,105,115,101]),(.str [98,117,114,110])])),(.list (.big (.agg [.str,(.int .i64)]) [(.agg (.gen [(.str [119,97,107,101]),(.int .i64 1)])),(.agg (.gen [(.str [102,105,114,101]),(.int .i64 2)])),(.agg (.gen [(.str [115,116,111,112]),(.int .i64 1)])),(.agg (.gen [(.str [112,105,110,103]),(.int .i64 (-1))]))])),(.list (.big (.agg [.str,(.int .i64),(.int .i64),(.int .i64),(.int .i64)]) [(.agg (.gen [(.str [99,111,108,100]),(.int .i64 1),(.int .i64 0),(.int .i64 (-1)),(.int .i64 1)])),(.agg (.gen [(.str [104,101,97,116]),(.int .i64 1),(.int .i64 (-1)),(.int .i64 2),(.int .i64 50)]))]))])),(.agg (.gen [(.int .i64 0),(.int .i64 0),(.int .i64 100)]))],(.int .i64 0),none⟩
theorem Ztv:Zan Tryz.prog aw59.f aw59.args aw59.r aw59.fr:=Zac (n:=100000) (l:=[aw52,aw53,aw55,aw57,aw41,aw58,aw9]) follows Zad ⟨ZtU,⟨Zgw,⟨Zo3,⟨Zt7,⟨ZbT,⟨Zjf,⟨ZfJ,trivial⟩⟩⟩⟩⟩⟩⟩ (by kernel_rfl)
def aw60:Fact:=⟨82,[(.int .i64 20),(.int .i64 0),(.int .i64 1000000000000)],(.bool true),none⟩
theorem Zu8:Zan Tryz.prog aw60.f aw60.args aw60.r aw60.fr:=Zac (n:=100000) (l:=[]) follows Zad trivial (by kernel_rfl)
def aw61:Fact:=⟨89,[(.int .i64 20)],(.bool true),none⟩
theorem ZuS:Zan Tryz.prog aw61.f aw61.args aw61.r aw61.fr:=Zac (n:=100000) (l:=[aw60]) follows Zad ⟨Zu8,trivial⟩ (by kernel_rfl)
def aw62:Fact:=⟨82,[(.int .i64 200),(.int .i64 0),(.int .i64 1000000000000)],(.bool true),none⟩
theorem Zua:Zan Tryz.prog aw62.f aw62.args aw62.r aw62.fr:=Zac (n:=100000) (l:=[]) follows Zad trivial (by kernel_rfl)
def aw63:Fact:=⟨89,[(.int .i64 200)],(.bool true),none⟩
theorem ZvJ:Zan Tryz.prog aw63.f aw63.args aw63.r aw63.fr:=Zac (n:=100000) (l:=[aw62]) follows Zad ⟨Zua,trivial⟩ (by kernel_rfl)
def aw64:Fact:=⟨120,[(.agg (.gen [(.list (.big .str [(.str [115,97,102,101]),(.str [99,114,117,105,115,101]),(.str [98,117,114,110])])),(.list (.big (.agg [.str,(.int .i64)]) [(.agg (.gen [(.str [119,97,107,101]),(.int .i64 1)])),(.agg (.gen [(.str [102,105,114,101]),(.int .i64 2)])),(.agg (.gen [(.str [115,116,111,112]),(.int .i64 1)])),(.agg (.gen [(.str [112,105,110,103]),(.int .i64 (-1))]))])),(.list (.big (.agg [.str,(.int .i64),(.int .i64),(.int .i64),(.int .i64)]) [(.agg (.gen [(.str [99,111,108,100]),(.int .i64 1),(.int .i64 0),(.int .i64 (-1)),(.int .i64 1)])),(.agg (.gen [(.str [104,101,97,116]),(.int .i64 1),(.int .i64 (-1)),(.int .i64 2),(.int .i64 50)]))]))])),(.agg (.gen [(.int .i64 1),(.int .i64 20),(.int .i64 200)]))],(.int .i64 0),none⟩
theorem ZuJ:Zan Tryz.prog aw64.f aw64.args aw64.r aw64.fr:=Zac (n:=100000) (l:=[aw36,aw53,aw61,aw63,aw41,aw58,aw9]) follows Zad ⟨ZgC,⟨Zgw,⟨ZuS,⟨ZvJ,⟨ZbT,⟨Zjf,⟨ZfJ,trivial⟩⟩⟩⟩⟩⟩⟩ (by kernel_rfl)
def aw65:Fact:=⟨82,[(.int .i64 30),(.int .i64 0),(.int .i64 1000000000000)],(.bool true),none⟩
theorem ZsH:Zan Tryz.prog aw65.f aw65.args aw65.r aw65.fr:=Zac (n:=100000) (l:=[]) follows Zad trivial (by kernel_rfl)
def aw66:Fact:=⟨89,[(.int .i64 30)],(.bool true),none⟩
theorem Zum:Zan Tryz.prog aw66.f aw66.args aw66.r aw66.fr:=Zac (n:=100000) (l:=[aw65]) follows Zad ⟨ZsH,trivial⟩ (by kernel_rfl)
def aw67:Fact:=⟨82,[(.int .i64 300),(.int .i64 0),(.int .i64 1000000000000)],(.bool true),none⟩
theorem Zvg:Zan Tryz.prog aw67.f aw67.args aw67.r aw67.fr:=Zac (n:=100000) (l:=[]) follows Zad trivial (by kernel_rfl)
def aw68:Fact:=⟨89,[(.int .i64 300)],(.bool true),none⟩
theorem Zt4:Zan Tryz.prog aw68.f aw68.args aw68.r aw68.fr:=Zac (n:=100000) (l:=[aw67]) follows Zad ⟨Zvg,trivial⟩ (by kernel_rfl)
def aw69:Fact:=⟨120,[(.agg (.gen [(.list (.big .str [(.str [115,97,102,101]),(.str [99,114,117,105,115,101]),(.str [98,117,114,110])])),(.list (.big (.agg [.str,(.int .i64)]) [(.agg (.gen [(.str [119,97,107,101]),(.int .i64 1)])),(.agg (.gen [(.str [102,105,114,101]),(.int .i64 2)])),(.agg (.gen [(.str [115,116,111,112]),(.int .i64 1)])),(.agg (.gen [(.str [112,105,110,103]),(.int .i64 (-1))]))])),(.list (.big (.agg [.str,(.int .i64),(.int .i64),(.int .i64),(.int .i64)]) [(.agg (.gen [(.str [99,111,108,100]),(.int .i64 1),(.int .i64 0),(.int .i64 (-1)),(.int .i64 1)])),(.agg (.gen [(.str [104,101,97,116]),(.int .i64 1),(.int .i64 (-1)),(.int .i64 2),(.int .i64 50)]))]))])),(.agg (.gen [(.int .i64 2),(.int .i64 30),(.int .i64 300)]))],(.int .i64 0),none⟩
theorem ZuQ:Zan Tryz.prog aw69.f aw69.args aw69.r aw69.fr:=Zac (n:=100000) (l:=[aw46,aw53,aw66,aw68,aw41,aw58,aw9]) follows Zad ⟨Zow,⟨Zgw,⟨Zum,⟨Zt4,⟨ZbT,⟨Zjf,⟨ZfJ,trivial⟩⟩⟩⟩⟩⟩⟩ (by kernel_rfl)
def aw70:Fact:=⟨82,[(.int .i64 40),(.int .i64 0),(.int .i64 1000000000000)],(.bool true),none⟩
theorem Zt0:Zan Tryz.prog aw70.f aw70.args aw70.r aw70.fr:=Zac (n:=100000) (l:=[]) follows Zad trivial (by kernel_rfl)
def aw71:Fact:=⟨89,[(.int .i64 40)],(.bool true),none⟩
theorem Zvf:Zan Tryz.prog aw71.f aw71.args aw71.r aw71.fr:=Zac (n:=100000) (l:=[aw70]) follows Zad ⟨Zt0,trivial⟩ (by kernel_rfl)
def aw72:Fact:=⟨82,[(.int .i64 400),(.int .i64 0),(.int .i64 1000000000000)],(.bool true),none⟩
theorem ZsZ:Zan Tryz.prog aw72.f aw72.args aw72.r aw72.fr:=Zac (n:=100000) (l:=[]) follows Zad trivial (by kernel_rfl)
def aw73:Fact:=⟨89,[(.int .i64 400)],(.bool true),none⟩
theorem Zu9:Zan Tryz.prog aw73.f aw73.args aw73.r aw73.fr:=Zac (n:=100000) (l:=[aw72]) follows Zad ⟨ZsZ,trivial⟩ (by kernel_rfl)
def aw74:Fact:=⟨120,[(.agg (.gen [(.list (.big .str [(.str [115,97,102,101]),(.str [99,114,117,105,115,101]),(.str [98,117,114,110])])),(.list (.big (.agg [.str,(.int .i64)]) [(.agg (.gen [(.str [119,97,107,101]),(.int .i64 1)])),(.agg (.gen [(.str [102,105,114,101]),(.int .i64 2)])),(.agg (.gen [(.str [115,116,111,112]),(.int .i64 1)])),(.agg (.gen [(.str [112,105,110,103]),(.int .i64 (-1))]))])),(.list (.big (.agg [.str,(.int .i64),(.int .i64),(.int .i64),(.int .i64)]) [(.agg (.gen [(.str [99,111,108,100]),(.int .i64 1),(.int .i64 0),(.int .i64 (-1)),(.int .i64 1)])),(.agg (.gen [(.str [104,101,97,116]),(.int .i64 1),(.int .i64 (-1)),(.int .i64 2),(.int .i64 50)]))]))])),(.agg (.gen [(.int .i64 1),(.int .i64 40),(.int .i64 400)]))],(.int .i64 0),none⟩
theorem ZsE:Zan Tryz.prog aw74.f aw74.args aw74.r aw74.fr:=Zac (n:=100000) (l:=[aw36,aw53,aw71,aw73,aw41,aw58,aw9]) follows Zad ⟨ZgC,⟨Zgw,⟨Zvf,⟨Zu9,⟨ZbT,⟨Zjf,⟨ZfJ,trivial⟩⟩⟩⟩⟩⟩⟩ (by kernel_rfl)
def aw75:Fact:=⟨71,[(.agg (.gen [(.list (.big .str [(.str [115,97,102,101]),(.str [99,114,117,105,115,101]),(.str [98,117,114,110])])),(.list (.big (.agg [.str,(.int .i64)]) [(.agg (.gen [(.str [119,97,107,101]),(.int .i64 1)])),(.agg (.gen [(.str [102,105,114,101]),(.int .i64 2)])),(.agg (.gen [(.str [115,116,111,112]),(.int .i64 1)])),(.agg (.gen [(.str [112,105,110,103]),(.int .i64 (-1))]))])),(.list (.big (.agg [.str,(.int .i64),(.int .i64),(.int .i64),(.int .i64)]) [(.agg (.gen [(.str [99,111,108,100]),(.int .i64 1),(.int .i64 0),(.int .i64 (-1)),(.int .i64 1)])),(.agg (.gen [(.str [104,101,97,116]),(.int .i64 1),(.int .i64 (-1)),(.int .i64 2),(.int .i64 50)]))]))])),(.list (.big (.agg [(.int .i64),(.int .i64),(.int .i64)]) [(.agg (.gen [(.int .i64 0),(.int .i64 0),(.int .i64 100)])),(.agg (.gen [(.int .i64 1),(.int .i64 20),(.int .i64 200)])),(.agg (.gen [(.int .i64 2),(.int .i64 30),(.int .i64 300)])),(.agg (.gen [(.int .i64 1),(.int .i64 40),(.int .i64 400)]))]))],(.tup [(.int .i64 0),(.int .i64 0)]),none⟩
theorem Zol:Zan Tryz.prog aw75.f aw75.args aw75.r aw75.fr:=Zac (n:=100000) (l:=[aw51,aw1,aw2,aw9,aw59,aw64,aw69,aw74]) follows Zad ⟨Zn1,⟨Zoc,⟨Zmo,⟨ZfJ,⟨Ztv,⟨ZuJ,⟨ZuQ,⟨ZsE,trivial⟩⟩⟩⟩⟩⟩⟩⟩ (by kernel_rfl)
def aw76:Fact:=⟨179,[(.int .u64 1),(.int .u64 4)],(.tup [(.int .u64 0),(.int .u64 4)]),none⟩
theorem ZtF:Zan Tryz.prog aw76.f aw76.args aw76.r aw76.fr:=Zac (n:=100000) (l:=[]) follows Zad trivial (by kernel_rfl)
def aw77:Fact:=⟨152,[(.int .u64 1),(.int .u64 4)],(.tup [(.int .u64 0),(.int .u64 4)]),none⟩
theorem Zwc:Zan Tryz.prog aw77.f aw77.args aw77.r aw77.fr:=Zac (n:=100000) (l:=[aw76]) follows Zad ⟨ZtF,trivial⟩ (by kernel_rfl)
def aw78:Fact:=⟨121,[(.list (.ints .i64 [(-1)])),(.int .i64 4)],(.row 0 0),(some ⟨3,1,(.ints .i64 [(-1),(-1),(-1),(-1)])⟩)⟩
theorem Zlx:Zan Tryz.prog aw78.f aw78.args aw78.r aw78.fr:=Zac (n:=100000) (l:=[aw77]) follows Zad ⟨Zwc,trivial⟩ (by kernel_rfl)
def aw79:Fact:=⟨122,[(.eptr (.agg (.gen [(.list (.big .str [(.str [115,97,102,101]),(.str [99,114,117,105,115,101]),(.str [98,117,114,110])])),(.list (.big (.agg [.str,(.int .i64)]) [(.agg (.gen [(.str [119,97,107,101]),(.int .i64 1)])),(.agg (.gen [(.str [102,105,114,101]),(.int .i64 2)])),(.agg (.gen [(.str [115,116,111,112]),(.int .i64 1)])),(.agg (.gen [(.str [112,105,110,103]),(.int .i64 (-1))]))])),(.list (.big (.agg [.str,(.int .i64),(.int .i64),(.int .i64),(.int .i64)]) [(.agg (.gen [(.str [99,111,108,100]),(.int .i64 1),(.int .i64 0),(.int .i64 (-1)),(.int .i64 1)])),(.agg (.gen [(.str [104,101,97,116]),(.int .i64 1),(.int .i64 (-1)),(.int .i64 2),(.int .i64 50)]))])),(.int .i64 0),(.int .i64 0),(.list (.ints .i64 [(-1),(-1),(-1),(-1)]))])) 0),(.agg (.gen [(.str [104,101,97,116]),(.int .i64 1),(.int .i64 (-1)),(.int .i64 2),(.int .i64 50)])),(.int .i64 0)],(.bool false),none⟩
theorem ZtV:Zan Tryz.prog aw79.f aw79.args aw79.r aw79.fr:=Zac (n:=100000) (l:=[]) follows Zad trivial (by kernel_rfl)
def aw80:Fact:=⟨82,[(.int .i64 0),(.int .i64 0),(.int .i64 100)],(.bool true),none⟩
theorem ZuV:Zan Tryz.prog aw80.f aw80.args aw80.r aw80.fr:=Zac (n:=100000) (l:=[]) follows Zad trivial (by kernel_rfl)
def aw81:Fact:=⟨91,[(.eptr (.agg (.gen [(.list (.big .str [(.str [115,97,102,101]),(.str [99,114,117,105,115,101]),(.str [98,117,114,110])])),(.list (.big (.agg [.str,(.int .i64)]) [(.agg (.gen [(.str [119,97,107,101]),(.int .i64 1)])),(.agg (.gen [(.str [102,105,114,101]),(.int .i64 2)])),(.agg (.gen [(.str [115,116,111,112]),(.int .i64 1)])),(.agg (.gen [(.str [112,105,110,103]),(.int .i64 (-1))]))])),(.list (.big (.agg [.str,(.int .i64),(.int .i64),(.int .i64),(.int .i64)]) [(.agg (.gen [(.str [99,111,108,100]),(.int .i64 1),(.int .i64 0),(.int .i64 (-1)),(.int .i64 1)])),(.agg (.gen [(.str [104,101,97,116]),(.int .i64 1),(.int .i64 (-1)),(.int .i64 2),(.int .i64 50)]))])),(.int .i64 0),(.int .i64 0),(.list (.ints .i64 [(-1),(-1),(-1),(-1)]))])) 0),(.int .i64 0)],(.val (.pointer none)),none⟩
theorem ZuH:Zan Tryz.prog aw81.f aw81.args aw81.r aw81.fr:=Zac (n:=100000) (l:=[]) follows Zad trivial (by kernel_rfl)
def aw82:Fact:=⟨123,[(.eptr (.agg (.gen [(.list (.big .str [(.str [115,97,102,101]),(.str [99,114,117,105,115,101]),(.str [98,117,114,110])])),(.list (.big (.agg [.str,(.int .i64)]) [(.agg (.gen [(.str [119,97,107,101]),(.int .i64 1)])),(.agg (.gen [(.str [102,105,114,101]),(.int .i64 2)])),(.agg (.gen [(.str [115,116,111,112]),(.int .i64 1)])),(.agg (.gen [(.str [112,105,110,103]),(.int .i64 (-1))]))])),(.list (.big (.agg [.str,(.int .i64),(.int .i64),(.int .i64),(.int .i64)]) [(.agg (.gen [(.str [99,111,108,100]),(.int .i64 1),(.int .i64 0),(.int .i64 (-1)),(.int .i64 1)])),(.agg (.gen [(.str [104,101,97,116]),(.int .i64 1),(.int .i64 (-1)),(.int .i64 2),(.int .i64 50)]))])),(.int .i64 0),(.int .i64 0),(.list (.ints .i64 [(-1),(-1),(-1),(-1)]))])) 0),(.agg (.gen [(.int .i64 0),(.int .i64 0),(.int .i64 100)]))],(.bool true),none⟩
theorem Zlg:Zan Tryz.prog aw82.f aw82.args aw82.r aw82.fr:=Zac (n:=100000) (l:=[aw80,aw81]) follows Zad ⟨ZuV,⟨ZuH,trivial⟩⟩ (by kernel_rfl)
def aw83:Fact:=⟨122,[(.eptr (.agg (.gen [(.list (.big .str [(.str [115,97,102,101]),(.str [99,114,117,105,115,101]),(.str [98,117,114,110])])),(.list (.big (.agg [.str,(.int .i64)]) [(.agg (.gen [(.str [119,97,107,101]),(.int .i64 1)])),(.agg (.gen [(.str [102,105,114,101]),(.int .i64 2)])),(.agg (.gen [(.str [115,116,111,112]),(.int .i64 1)])),(.agg (.gen [(.str [112,105,110,103]),(.int .i64 (-1))]))])),(.list (.big (.agg [.str,(.int .i64),(.int .i64),(.int .i64),(.int .i64)]) [(.agg (.gen [(.str [99,111,108,100]),(.int .i64 1),(.int .i64 0),(.int .i64 (-1)),(.int .i64 1)])),(.agg (.gen [(.str [104,101,97,116]),(.int .i64 1),(.int .i64 (-1)),(.int .i64 2),(.int .i64 50)]))])),(.int .i64 1),(.int .i64 20),(.list (.ints .i64 [0,(-1),(-1),(-1)]))])) 0),(.agg (.gen [(.str [104,101,97,116]),(.int .i64 1),(.int .i64 (-1)),(.int .i64 2),(.int .i64 50)])),(.int .i64 1)],(.bool true),none⟩
theorem ZuF:Zan Tryz.prog aw83.f aw83.args aw83.r aw83.fr:=Zac (n:=100000) (l:=[]) follows Zad trivial (by kernel_rfl)
def aw84:Fact:=⟨82,[(.int .i64 20),(.int .i64 20),(.int .i64 200)],(.bool true),none⟩
theorem Zug:Zan Tryz.prog aw84.f aw84.args aw84.r aw84.fr:=Zac (n:=100000) (l:=[]) follows Zad trivial (by kernel_rfl)
def aw85:Fact:=⟨91,[(.eptr (.agg (.gen [(.list (.big .str [(.str [115,97,102,101]),(.str [99,114,117,105,115,101]),(.str [98,117,114,110])])),(.list (.big (.agg [.str,(.int .i64)]) [(.agg (.gen [(.str [119,97,107,101]),(.int .i64 1)])),(.agg (.gen [(.str [102,105,114,101]),(.int .i64 2)])),(.agg (.gen [(.str [115,116,111,112]),(.int .i64 1)])),(.agg (.gen [(.str [112,105,110,103]),(.int .i64 (-1))]))])),(.list (.big (.agg [.str,(.int .i64),(.int .i64),(.int .i64),(.int .i64)]) [(.agg (.gen [(.str [99,111,108,100]),(.int .i64 1),(.int .i64 0),(.int .i64 (-1)),(.int .i64 1)])),(.agg (.gen [(.str [104,101,97,116]),(.int .i64 1),(.int .i64 (-1)),(.int .i64 2),(.int .i64 50)]))])),(.int .i64 1),(.int .i64 20),(.list (.ints .i64 [0,(-1),(-1),(-1)]))])) 0),(.int .i64 1)],(.val (.pointer none)),none⟩
theorem Zwe:Zan Tryz.prog aw85.f aw85.args aw85.r aw85.fr:=Zac (n:=100000) (l:=[]) follows Zad trivial (by kernel_rfl)
def aw86:Fact:=⟨123,[(.eptr (.agg (.gen [(.list (.big .str [(.str [115,97,102,101]),(.str [99,114,117,105,115,101]),(.str [98,117,114,110])])),(.list (.big (.agg [.str,(.int .i64)]) [(.agg (.gen [(.str [119,97,107,101]),(.int .i64 1)])),(.agg (.gen [(.str [102,105,114,101]),(.int .i64 2)])),(.agg (.gen [(.str [115,116,111,112]),(.int .i64 1)])),(.agg (.gen [(.str [112,105,110,103]),(.int .i64 (-1))]))])),(.list (.big (.agg [.str,(.int .i64),(.int .i64),(.int .i64),(.int .i64)]) [(.agg (.gen [(.str [99,111,108,100]),(.int .i64 1),(.int .i64 0),(.int .i64 (-1)),(.int .i64 1)])),(.agg (.gen [(.str [104,101,97,116]),(.int .i64 1),(.int .i64 (-1)),(.int .i64 2),(.int .i64 50)]))])),(.int .i64 1),(.int .i64 20),(.list (.ints .i64 [0,(-1),(-1),(-1)]))])) 0),(.agg (.gen [(.int .i64 1),(.int .i64 20),(.int .i64 200)]))],(.bool true),none⟩
theorem ZvE:Zan Tryz.prog aw86.f aw86.args aw86.r aw86.fr:=Zac (n:=100000) (l:=[aw84,aw85]) follows Zad ⟨Zug,⟨Zwe,trivial⟩⟩ (by kernel_rfl)
def aw87:Fact:=⟨122,[(.eptr (.agg (.gen [(.list (.big .str [(.str [115,97,102,101]),(.str [99,114,117,105,115,101]),(.str [98,117,114,110])])),(.list (.big (.agg [.str,(.int .i64)]) [(.agg (.gen [(.str [119,97,107,101]),(.int .i64 1)])),(.agg (.gen [(.str [102,105,114,101]),(.int .i64 2)])),(.agg (.gen [(.str [115,116,111,112]),(.int .i64 1)])),(.agg (.gen [(.str [112,105,110,103]),(.int .i64 (-1))]))])),(.list (.big (.agg [.str,(.int .i64),(.int .i64),(.int .i64),(.int .i64)]) [(.agg (.gen [(.str [99,111,108,100]),(.int .i64 1),(.int .i64 0),(.int .i64 (-1)),(.int .i64 1)])),(.agg (.gen [(.str [104,101,97,116]),(.int .i64 1),(.int .i64 (-1)),(.int .i64 2),(.int .i64 50)]))])),(.int .i64 2),(.int .i64 30),(.list (.ints .i64 [0,20,(-1),(-1)]))])) 0),(.agg (.gen [(.str [104,101,97,116]),(.int .i64 1),(.int .i64 (-1)),(.int .i64 2),(.int .i64 50)])),(.int .i64 2)],(.bool false),none⟩
theorem ZtQ:Zan Tryz.prog aw87.f aw87.args aw87.r aw87.fr:=Zac (n:=100000) (l:=[]) follows Zad trivial (by kernel_rfl)
def aw88:Fact:=⟨82,[(.int .i64 30),(.int .i64 30),(.int .i64 300)],(.bool true),none⟩
theorem Ztc:Zan Tryz.prog aw88.f aw88.args aw88.r aw88.fr:=Zac (n:=100000) (l:=[]) follows Zad trivial (by kernel_rfl)
def aw89:Fact:=⟨91,[(.eptr (.agg (.gen [(.list (.big .str [(.str [115,97,102,101]),(.str [99,114,117,105,115,101]),(.str [98,117,114,110])])),(.list (.big (.agg [.str,(.int .i64)]) [(.agg (.gen [(.str [119,97,107,101]),(.int .i64 1)])),(.agg (.gen [(.str [102,105,114,101]),(.int .i64 2)])),(.agg (.gen [(.str [115,116,111,112]),(.int .i64 1)])),(.agg (.gen [(.str [112,105,110,103]),(.int .i64 (-1))]))])),(.list (.big (.agg [.str,(.int .i64),(.int .i64),(.int .i64),(.int .i64)]) [(.agg (.gen [(.str [99,111,108,100]),(.int .i64 1),(.int .i64 0),(.int .i64 (-1)),(.int .i64 1)])),(.agg (.gen [(.str [104,101,97,116]),(.int .i64 1),(.int .i64 (-1)),(.int .i64 2),(.int .i64 50)]))])),(.int .i64 2),(.int .i64 30),(.list (.ints .i64 [0,20,(-1),(-1)]))])) 0),(.int .i64 2)],(.val (.pointer none)),none⟩
theorem ZvI:Zan Tryz.prog aw89.f aw89.args aw89.r aw89.fr:=Zac (n:=100000) (l:=[]) follows Zad trivial (by kernel_rfl)
def aw90:Fact:=⟨123,[(.eptr (.agg (.gen [(.list (.big .str [(.str [115,97,102,101]),(.str [99,114,117,105,115,101]),(.str [98,117,114,110])])),(.list (.big (.agg [.str,(.int .i64)]) [(.agg (.gen [(.str [119,97,107,101]),(.int .i64 1)])),(.agg (.gen [(.str [102,105,114,101]),(.int .i64 2)])),(.agg (.gen [(.str [115,116,111,112]),(.int .i64 1)])),(.agg (.gen [(.str [112,105,110,103]),(.int .i64 (-1))]))])),(.list (.big (.agg [.str,(.int .i64),(.int .i64),(.int .i64),(.int .i64)]) [(.agg (.gen [(.str [99,111,108,100]),(.int .i64 1),(.int .i64 0),(.int .i64 (-1)),(.int .i64 1)])),(.agg (.gen [(.str [104,101,97,116]),(.int .i64 1),(.int .i64 (-1)),(.int .i64 2),(.int .i64 50)]))])),(.int .i64 2),(.int .i64 30),(.list (.ints .i64 [0,20,(-1),(-1)]))])) 0),(.agg (.gen [(.int .i64 2),(.int .i64 30),(.int .i64 300)]))],(.bool true),none⟩
theorem ZtP:Zan Tryz.prog aw90.f aw90.args aw90.r aw90.fr:=Zac (n:=100000) (l:=[aw88,aw89]) follows Zad ⟨Ztc,⟨ZvI,trivial⟩⟩ (by kernel_rfl)
def aw91:Fact:=⟨122,[(.eptr (.agg (.gen [(.list (.big .str [(.str [115,97,102,101]),(.str [99,114,117,105,115,101]),(.str [98,117,114,110])])),(.list (.big (.agg [.str,(.int .i64)]) [(.agg (.gen [(.str [119,97,107,101]),(.int .i64 1)])),(.agg (.gen [(.str [102,105,114,101]),(.int .i64 2)])),(.agg (.gen [(.str [115,116,111,112]),(.int .i64 1)])),(.agg (.gen [(.str [112,105,110,103]),(.int .i64 (-1))]))])),(.list (.big (.agg [.str,(.int .i64),(.int .i64),(.int .i64),(.int .i64)]) [(.agg (.gen [(.str [99,111,108,100]),(.int .i64 1),(.int .i64 0),(.int .i64 (-1)),(.int .i64 1)])),(.agg (.gen [(.str [104,101,97,116]),(.int .i64 1),(.int .i64 (-1)),(.int .i64 2),(.int .i64 50)]))])),(.int .i64 1),(.int .i64 40),(.list (.ints .i64 [0,20,30,(-1)]))])) 0),(.agg (.gen [(.str [104,101,97,116]),(.int .i64 1),(.int .i64 (-1)),(.int .i64 2),(.int .i64 50)])),(.int .i64 1)],(.bool true),none⟩
theorem ZvU:Zan Tryz.prog aw91.f aw91.args aw91.r aw91.fr:=Zac (n:=100000) (l:=[]) follows Zad trivial (by kernel_rfl)
def aw92:Fact:=⟨82,[(.int .i64 80),(.int .i64 40),(.int .i64 400)],(.bool true),none⟩
theorem ZuD:Zan Tryz.prog aw92.f aw92.args aw92.r aw92.fr:=Zac (n:=100000) (l:=[]) follows Zad trivial (by kernel_rfl)
def aw93:Fact:=⟨91,[(.eptr (.agg (.gen [(.list (.big .str [(.str [115,97,102,101]),(.str [99,114,117,105,115,101]),(.str [98,117,114,110])])),(.list (.big (.agg [.str,(.int .i64)]) [(.agg (.gen [(.str [119,97,107,101]),(.int .i64 1)])),(.agg (.gen [(.str [102,105,114,101]),(.int .i64 2)])),(.agg (.gen [(.str [115,116,111,112]),(.int .i64 1)])),(.agg (.gen [(.str [112,105,110,103]),(.int .i64 (-1))]))])),(.list (.big (.agg [.str,(.int .i64),(.int .i64),(.int .i64),(.int .i64)]) [(.agg (.gen [(.str [99,111,108,100]),(.int .i64 1),(.int .i64 0),(.int .i64 (-1)),(.int .i64 1)])),(.agg (.gen [(.str [104,101,97,116]),(.int .i64 1),(.int .i64 (-1)),(.int .i64 2),(.int .i64 50)]))])),(.int .i64 1),(.int .i64 80),(.list (.ints .i64 [0,20,30,(-1)]))])) 0),(.int .i64 1)],(.val (.pointer none)),none⟩
theorem ZvQ:Zan Tryz.prog aw93.f aw93.args aw93.r aw93.fr:=Zac (n:=100000) (l:=[]) follows Zad trivial (by kernel_rfl)
def aw94:Fact:=⟨123,[(.eptr (.agg (.gen [(.list (.big .str [(.str [115,97,102,101]),(.str [99,114,117,105,115,101]),(.str [98,117,114,110])])),(.list (.big (.agg [.str,(.int .i64)]) [(.agg (.gen [(.str [119,97,107,101]),(.int .i64 1)])),(.agg (.gen [(.str [102,105,114,101]),(.int .i64 2)])),(.agg (.gen [(.str [115,116,111,112]),(.int .i64 1)])),(.agg (.gen [(.str [112,105,110,103]),(.int .i64 (-1))]))])),(.list (.big (.agg [.str,(.int .i64),(.int .i64),(.int .i64),(.int .i64)]) [(.agg (.gen [(.str [99,111,108,100]),(.int .i64 1),(.int .i64 0),(.int .i64 (-1)),(.int .i64 1)])),(.agg (.gen [(.str [104,101,97,116]),(.int .i64 1),(.int .i64 (-1)),(.int .i64 2),(.int .i64 50)]))])),(.int .i64 1),(.int .i64 80),(.list (.ints .i64 [0,20,30,(-1)]))])) 0),(.agg (.gen [(.int .i64 1),(.int .i64 40),(.int .i64 400)]))],(.bool true),none⟩
theorem Zuc:Zan Tryz.prog aw94.f aw94.args aw94.r aw94.fr:=Zac (n:=100000) (l:=[aw92,aw93]) follows Zad ⟨ZuD,⟨ZvQ,trivial⟩⟩ (by kernel_rfl)
def aw95:Fact:=⟨24,[(.agg (.gen [(.list (.big .str [(.str [115,97,102,101]),(.str [99,114,117,105,115,101]),(.str [98,117,114,110])])),(.list (.big (.agg [.str,(.int .i64)]) [(.agg (.gen [(.str [119,97,107,101]),(.int .i64 1)])),(.agg (.gen [(.str [102,105,114,101]),(.int .i64 2)])),(.agg (.gen [(.str [115,116,111,112]),(.int .i64 1)])),(.agg (.gen [(.str [112,105,110,103]),(.int .i64 (-1))]))])),(.list (.big (.agg [.str,(.int .i64),(.int .i64),(.int .i64),(.int .i64)]) [(.agg (.gen [(.str [99,111,108,100]),(.int .i64 1),(.int .i64 0),(.int .i64 (-1)),(.int .i64 1)])),(.agg (.gen [(.str [104,101,97,116]),(.int .i64 1),(.int .i64 (-1)),(.int .i64 2),(.int .i64 50)]))]))])),(.list (.big (.agg [(.int .i64),(.int .i64),(.int .i64)]) [(.agg (.gen [(.int .i64 0),(.int .i64 0),(.int .i64 100)])),(.agg (.gen [(.int .i64 1),(.int .i64 20),(.int .i64 200)])),(.agg (.gen [(.int .i64 2),(.int .i64 30),(.int .i64 300)])),(.agg (.gen [(.int .i64 1),(.int .i64 40),(.int .i64 400)]))]))],(.tup [(.row 0 0),(.int .i64 0)]),(some ⟨3,1,(.ints .i64 [0,20,30,80])⟩)⟩
theorem ZtG:Zan Tryz.prog aw95.f aw95.args aw95.r aw95.fr:=Zac (n:=100000) (l:=[aw75,aw78,aw79,aw82,aw83,aw86,aw87,aw90,aw91,aw94]) follows Zad ⟨Zol,⟨Zlx,⟨ZtV,⟨Zlg,⟨ZuF,⟨ZvE,⟨ZtQ,⟨ZtP,⟨ZvU,⟨Zuc,trivial⟩⟩⟩⟩⟩⟩⟩⟩⟩⟩ (by kernel_rfl)
def aw96:Fact:=⟨87,[(.int .i64 (-1)),(.eptr (.agg (.gen [(.int .i64 0),(.int .i64 0),(.list (.ints .i64 [(-1),(-1),(-1),(-1)]))])) 0)],(.bool false),none⟩
theorem ZtH:Zan Tryz.prog aw96.f aw96.args aw96.r aw96.fr:=Zac (n:=100000) (l:=[]) follows Zad trivial (by kernel_rfl)
def aw97:Fact:=⟨137,[(.list (.ints .i64 [(-1),(-1),(-1),(-1)])),(.fn 87 [(.eptr (.agg (.gen [(.int .i64 0),(.int .i64 0),(.list (.ints .i64 [(-1),(-1),(-1),(-1)]))])) 0)])],(.int .i64 (-1)),none⟩
theorem ZsO:Zan Tryz.prog aw97.f aw97.args aw97.r aw97.fr:=Zac (n:=100000) (l:=[aw96]) follows Zad ⟨ZtH,trivial⟩ (by kernel_rfl)
def aw98:Fact:=⟨90,[(.list (.ints .i64 [(-1),(-1),(-1),(-1)])),(.fn 87 [(.eptr (.agg (.gen [(.int .i64 0),(.int .i64 0),(.list (.ints .i64 [(-1),(-1),(-1),(-1)]))])) 0)])],(.bool false),none⟩
theorem ZtO:Zan Tryz.prog aw98.f aw98.args aw98.r aw98.fr:=Zac (n:=100000) (l:=[aw97]) follows Zad ⟨ZsO,trivial⟩ (by kernel_rfl)
def aw99:Fact:=⟨67,[(.list (.ints .i64 [0,0,0,0,0,0]))],(.int .i64 0),none⟩
theorem ZtW:Zan Tryz.prog aw99.f aw99.args aw99.r aw99.fr:=Zac (n:=100000) (l:=[]) follows Zad trivial (by kernel_rfl)
def aw100:Fact:=⟨42,[(.agg (.gen [(.list (.big .str [(.str [115,97,102,101]),(.str [99,114,117,105,115,101]),(.str [98,117,114,110])])),(.list (.big (.agg [.str,(.int .i64)]) [(.agg (.gen [(.str [119,97,107,101]),(.int .i64 1)])),(.agg (.gen [(.str [102,105,114,101]),(.int .i64 2)])),(.agg (.gen [(.str [115,116,111,112]),(.int .i64 1)])),(.agg (.gen [(.str [112,105,110,103]),(.int .i64 (-1))]))])),(.list (.big (.agg [.str,(.int .i64),(.int .i64),(.int .i64),(.int .i64)]) [(.agg (.gen [(.str [99,111,108,100]),(.int .i64 1),(.int .i64 0),(.int .i64 (-1)),(.int .i64 1)])),(.agg (.gen [(.str [104,101,97,116]),(.int .i64 1),(.int .i64 (-1)),(.int .i64 2),(.int .i64 50)]))]))])),(.agg (.gen [(.int .i64 0),(.int .i64 0),(.list (.ints .i64 [(-1),(-1),(-1),(-1)]))])),(.int .i64 1)],(.tup [(.str [99,111,108,100]),(.int .i64 0)]),none⟩
theorem Zre:Zan Tryz.prog aw100.f aw100.args aw100.r aw100.fr:=Zac (n:=100000) (l:=[aw51,aw37,aw20,aw55,aw41,aw1,aw98,aw36,aw53,aw99]) follows Zad ⟨Zn1,⟨Zof,⟨ZcZ,⟨Zo3,⟨ZbT,⟨Zoc,⟨ZtO,⟨ZgC,⟨Zgw,⟨ZtW,trivial⟩⟩⟩⟩⟩⟩⟩⟩⟩⟩ (by kernel_rfl)
def aw101:Fact:=⟨82,[(.int .i64 2),(.int .i64 1),(.int .i64 6)],(.bool true),none⟩
theorem ZqF:Zan Tryz.prog aw101.f aw101.args aw101.r aw101.fr:=Zac (n:=100000) (l:=[]) follows Zad trivial (by kernel_rfl)
def aw102:Fact:=⟨36,[(.agg (.gen [(.list (.big .str [(.str [115,97,102,101]),(.str [99,114,117,105,115,101]),(.str [98,117,114,110])])),(.list (.big (.agg [.str,(.int .i64)]) [(.agg (.gen [(.str [119,97,107,101]),(.int .i64 1)])),(.agg (.gen [(.str [102,105,114,101]),(.int .i64 2)])),(.agg (.gen [(.str [115,116,111,112]),(.int .i64 1)])),(.agg (.gen [(.str [112,105,110,103]),(.int .i64 (-1))]))])),(.list (.big (.agg [.str,(.int .i64),(.int .i64),(.int .i64),(.int .i64)]) [(.agg (.gen [(.str [99,111,108,100]),(.int .i64 1),(.int .i64 0),(.int .i64 (-1)),(.int .i64 1)])),(.agg (.gen [(.str [104,101,97,116]),(.int .i64 1),(.int .i64 (-1)),(.int .i64 2),(.int .i64 50)]))])),(.list (.big (.agg [(.int .i64),(.int .i64),(.int .i64)]) [(.agg (.gen [(.int .i64 0),(.int .i64 0),(.int .i64 100)])),(.agg (.gen [(.int .i64 1),(.int .i64 20),(.int .i64 200)])),(.agg (.gen [(.int .i64 2),(.int .i64 30),(.int .i64 300)])),(.agg (.gen [(.int .i64 1),(.int .i64 40),(.int .i64 400)]))])),(.int .i64 2),(.int .i64 2)]))],(.int .i64 0),none⟩
theorem Zl3:Zan Tryz.prog aw102.f aw102.args aw102.r aw102.fr:=Zac (n:=100000) (l:=[aw75,aw101,aw41,aw3]) follows Zad ⟨Zol,⟨ZqF,⟨ZbT,⟨ZlG,trivial⟩⟩⟩⟩ (by kernel_rfl)
def aw103:Fact:=⟨83,[],(.agg (.gen [(.str [112,97,115,115]),(.int .i64 1),(.int .i64 1000000000000),(.fn 127 []),(.str [115,101,110,100]),(.int .i64 0),(.int .i64 11),(.fn 128 []),(.str [97,114,114,105,118,101]),(.int .i64 0),(.int .i64 5),(.fn 129 []),(.str [104,101,97,114]),(.int .i64 0),(.int .i64 5),(.fn 130 []),(.str [108,111,115,101]),(.int .i64 0),(.int .i64 5),(.fn 131 []),(.str [100,114,111,112]),(.int .i64 0),(.int .i64 5),(.fn 132 []),(.str [114,101,112,101,97,116]),(.int .i64 0),(.int .i64 5),(.fn 133 []),(.str [114,101,115,116,97,114,116]),(.int .i64 0),(.int .i64 0),(.fn 134 []),(.str [114,101,98,111,111,116]),(.int .i64 0),(.int .i64 0),(.fn 135 [])])),none⟩
theorem Zc2:Zan Tryz.prog aw103.f aw103.args aw103.r aw103.fr:=Zac (n:=100000) (l:=[]) follows Zad trivial (by kernel_rfl)
def aw104:Fact:=⟨82,[(.int .i64 1),(.int .i64 0),(.int .i64 8)],(.bool true),none⟩
theorem Zp8:Zan Tryz.prog aw104.f aw104.args aw104.r aw104.fr:=Zac (n:=100000) (l:=[]) follows Zad trivial (by kernel_rfl)
def aw105:Fact:=⟨82,[(.int .i64 0),(.int .i64 0),(.int .i64 11)],(.bool true),none⟩
theorem ZqY:Zan Tryz.prog aw105.f aw105.args aw105.r aw105.fr:=Zac (n:=100000) (l:=[]) follows Zad trivial (by kernel_rfl)
def aw106:Fact:=⟨37,[(.agg (.gen [(.int .i64 1),(.int .i64 0)]))],(.int .i64 0),none⟩
theorem Zmz:Zan Tryz.prog aw106.f aw106.args aw106.r aw106.fr:=Zac (n:=100000) (l:=[aw103,aw104,aw105,aw41]) follows Zad ⟨Zc2,⟨Zp8,⟨ZqY,⟨ZbT,trivial⟩⟩⟩⟩ (by kernel_rfl)
def aw107:Fact:=⟨68,[(.bool true),(.int .i64 21)],(.int .i64 0),none⟩
theorem ZlN:Zan Tryz.prog aw107.f aw107.args aw107.r aw107.fr:=Zac (n:=100000) (l:=[]) follows Zad trivial (by kernel_rfl)
def aw108:Fact:=⟨82,[(.int .i64 0),(.int .i64 0),(.int .i64 1)],(.bool true),none⟩
theorem ZlJ:Zan Tryz.prog aw108.f aw108.args aw108.r aw108.fr:=Zac (n:=100000) (l:=[]) follows Zad trivial (by kernel_rfl)
def aw109:Fact:=⟨68,[(.bool true),(.int .i64 26)],(.int .i64 0),none⟩
theorem Zmx:Zan Tryz.prog aw109.f aw109.args aw109.r aw109.fr:=Zac (n:=100000) (l:=[]) follows Zad trivial (by kernel_rfl)
def aw110:Fact:=⟨68,[(.bool true),(.int .i64 16)],(.int .i64 0),none⟩
theorem ZlZ:Zan Tryz.prog aw110.f aw110.args aw110.r aw110.fr:=Zac (n:=100000) (l:=[]) follows Zad trivial (by kernel_rfl)
def aw111:Fact:=⟨67,[(.list (.ints .i64 [0,0,0,0]))],(.int .i64 0),none⟩
theorem Zl4:Zan Tryz.prog aw111.f aw111.args aw111.r aw111.fr:=Zac (n:=100000) (l:=[]) follows Zad trivial (by kernel_rfl)
def aw112:Fact:=⟨82,[(.int .i64 2),(.int .i64 0),(.int .i64 8)],(.bool true),none⟩
theorem Zrr:Zan Tryz.prog aw112.f aw112.args aw112.r aw112.fr:=Zac (n:=100000) (l:=[]) follows Zad trivial (by kernel_rfl)
def aw113:Fact:=⟨82,[(.int .i64 0),(.int .i64 0),(.int .i64 5)],(.bool true),none⟩
theorem Zjn:Zan Tryz.prog aw113.f aw113.args aw113.r aw113.fr:=Zac (n:=100000) (l:=[]) follows Zad trivial (by kernel_rfl)
def aw114:Fact:=⟨37,[(.agg (.gen [(.int .i64 2),(.int .i64 0)]))],(.int .i64 0),none⟩
theorem Zma:Zan Tryz.prog aw114.f aw114.args aw114.r aw114.fr:=Zac (n:=100000) (l:=[aw103,aw112,aw113,aw41]) follows Zad ⟨Zc2,⟨Zrr,⟨Zjn,⟨ZbT,trivial⟩⟩⟩⟩ (by kernel_rfl)
def aw115:Fact:=⟨82,[(.int .i64 5),(.int .i64 0),(.int .i64 8)],(.bool true),none⟩
theorem Zq1:Zan Tryz.prog aw115.f aw115.args aw115.r aw115.fr:=Zac (n:=100000) (l:=[]) follows Zad trivial (by kernel_rfl)
def aw116:Fact:=⟨37,[(.agg (.gen [(.int .i64 5),(.int .i64 0)]))],(.int .i64 0),none⟩
theorem ZlV:Zan Tryz.prog aw116.f aw116.args aw116.r aw116.fr:=Zac (n:=100000) (l:=[aw103,aw115,aw113,aw41]) follows Zad ⟨Zc2,⟨Zq1,⟨Zjn,⟨ZbT,trivial⟩⟩⟩⟩ (by kernel_rfl)
def aw117:Fact:=⟨82,[(.int .i64 3),(.int .i64 0),(.int .i64 8)],(.bool true),none⟩
theorem Zqn:Zan Tryz.prog aw117.f aw117.args aw117.r aw117.fr:=Zac (n:=100000) (l:=[]) follows Zad trivial (by kernel_rfl)
def aw118:Fact:=⟨37,[(.agg (.gen [(.int .i64 3),(.int .i64 0)]))],(.int .i64 0),none⟩
theorem ZlS:Zan Tryz.prog aw118.f aw118.args aw118.r aw118.fr:=Zac (n:=100000) (l:=[aw103,aw117,aw113,aw41]) follows Zad ⟨Zc2,⟨Zqn,⟨Zjn,⟨ZbT,trivial⟩⟩⟩⟩ (by kernel_rfl)
def aw119:Fact:=⟨15,[(.agg (.gen [(.list (.big .str [(.str [115,97,102,101]),(.str [99,114,117,105,115,101]),(.str [98,117,114,110])])),(.list (.big (.agg [.str,(.int .i64)]) [(.agg (.gen [(.str [119,97,107,101]),(.int .i64 1)])),(.agg (.gen [(.str [102,105,114,101]),(.int .i64 2)])),(.agg (.gen [(.str [115,116,111,112]),(.int .i64 1)])),(.agg (.gen [(.str [112,105,110,103]),(.int .i64 (-1))]))])),(.list (.big (.agg [.str,(.int .i64),(.int .i64),(.int .i64),(.int .i64)]) [(.agg (.gen [(.str [99,111,108,100]),(.int .i64 1),(.int .i64 0),(.int .i64 (-1)),(.int .i64 1)])),(.agg (.gen [(.str [104,101,97,116]),(.int .i64 1),(.int .i64 (-1)),(.int .i64 2),(.int .i64 50)]))])),(.list (.big (.agg [(.int .i64),(.int .i64),(.int .i64)]) [(.agg (.gen [(.int .i64 0),(.int .i64 0),(.int .i64 100)])),(.agg (.gen [(.int .i64 1),(.int .i64 20),(.int .i64 200)])),(.agg (.gen [(.int .i64 2),(.int .i64 30),(.int .i64 300)])),(.agg (.gen [(.int .i64 1),(.int .i64 40),(.int .i64 400)]))])),(.int .i64 2),(.int .i64 2)])),(.list (.big (.agg [(.int .i64),(.int .i64)]) [(.agg (.gen [(.int .i64 1),(.int .i64 0)])),(.agg (.gen [(.int .i64 2),(.int .i64 0)])),(.agg (.gen [(.int .i64 5),(.int .i64 0)])),(.agg (.gen [(.int .i64 1),(.int .i64 0)])),(.agg (.gen [(.int .i64 2),(.int .i64 0)])),(.agg (.gen [(.int .i64 3),(.int .i64 0)]))]))],(.tup [(.agg (.gen [(.int .i64 0),(.int .i64 1),(.list (.big (.agg [(.int .i64),(.int .i64)]) [(.agg (.gen [(.int .i64 0),(.int .i64 0)]))])),(.bool false),(.int .i64 1),(.bool false),(.list (.ints .i64 [])),(.list (.big (.agg [(.int .i64), .bool]) []))])),(.int .i64 0),(.int .i64 0)]),none⟩
theorem Zqv:Zan Tryz.prog aw119.f aw119.args aw119.r aw119.fr:=ZlK (n:=100000) (d:=3) (l:=[aw102,aw2,aw3,aw78,aw106,aw103,aw20,aw107,aw108,aw109,aw110,aw111,aw114,aw82,aw116,aw118]) follows Zad ⟨Zl3,⟨Zmo,⟨ZlG,⟨Zlx,⟨Zmz,⟨Zc2,⟨ZcZ,⟨ZlN,⟨ZlJ,⟨Zmx,⟨ZlZ,⟨Zl4,⟨Zma,⟨Zlg,⟨ZlV,⟨ZlS,trivial⟩⟩⟩⟩⟩⟩⟩⟩⟩⟩⟩⟩⟩⟩⟩⟩ (by kernel_rfl)
def aw120:Fact:=⟨29,[(.list (.ints .i64 [0,20,30,80])),(.list (.ints .i64 [0,20,30,80]))],(.bool true),none⟩
theorem ZqR:Zan Tryz.prog aw120.f aw120.args aw120.r aw120.fr:=Zac (n:=100000) (l:=[]) follows Zad trivial (by kernel_rfl)
def aw121:Fact:=⟨22,[(.list (.big (.agg [(.int .i64),(.int .i64)]) [(.agg (.gen [(.int .i64 0),(.int .i64 0)]))])),(.list (.big (.agg [(.int .i64),(.int .i64)]) [(.agg (.gen [(.int .i64 0),(.int .i64 0)]))]))],(.bool true),none⟩
theorem Zqz:Zan Tryz.prog aw121.f aw121.args aw121.r aw121.fr:=Zac (n:=100000) (l:=[]) follows Zad trivial (by kernel_rfl)
def aw122:Fact:=⟨82,[(.int .i64 0),(.int .i64 0),(.int .i64 8)],(.bool true),none⟩
theorem ZqK:Zan Tryz.prog aw122.f aw122.args aw122.r aw122.fr:=Zac (n:=100000) (l:=[]) follows Zad trivial (by kernel_rfl)
def aw123:Fact:=⟨198,[(.int .i64 20)],(.str [50,48]),none⟩
theorem ZqD:Zan Tryz.prog aw123.f aw123.args aw123.r aw123.fr:=Zac (n:=100000) (l:=[]) follows Zad trivial (by kernel_rfl)
def aw124:Fact:=⟨183,[(.int .i64 20),(.int .i64 10)],(.str [50,48]),none⟩
theorem ZqP:Zan Tryz.prog aw124.f aw124.args aw124.r aw124.fr:=Zac (n:=100000) (l:=[aw123]) follows Zad ⟨ZqD,trivial⟩ (by kernel_rfl)
def aw125:Fact:=⟨166,[(.int .i64 20)],(.str [50,48]),none⟩
theorem Zqq:Zan Tryz.prog aw125.f aw125.args aw125.r aw125.fr:=Zac (n:=100000) (l:=[aw124]) follows Zad ⟨ZqP,trivial⟩ (by kernel_rfl)
def aw126:Fact:=⟨138,[(.int .i64 20)],(.str [50,48]),none⟩
theorem Zrh:Zan Tryz.prog aw126.f aw126.args aw126.r aw126.fr:=Zac (n:=100000) (l:=[aw125]) follows Zad ⟨Zqq,trivial⟩ (by kernel_rfl)
def aw127:Fact:=⟨113,[(.list (.big .str [(.str [50,48])])),(.str [32])],(.str [50,48]),none⟩
theorem Zql:Zan Tryz.prog aw127.f aw127.args aw127.r aw127.fr:=Zac (n:=100000) (l:=[]) follows Zad trivial (by kernel_rfl)
def aw128:Fact:=⟨105,[(.list (.ints .i64 [20]))],(.str [50,48]),none⟩
theorem Zrm:Zan Tryz.prog aw128.f aw128.args aw128.r aw128.fr:=Zac (n:=100000) (l:=[aw126,aw127]) follows Zad ⟨Zrh,⟨Zql,trivial⟩⟩ (by kernel_rfl)
def aw129:Fact:=⟨53,[(.agg (.gen [(.int .i64 0),(.int .i64 20)]))],(.str [112,97,115,115,32,50,48]),none⟩
theorem Zqb:Zan Tryz.prog aw129.f aw129.args aw129.r aw129.fr:=Zac (n:=100000) (l:=[aw103,aw122,aw128]) follows Zad ⟨Zc2,⟨ZqK,⟨Zrm,trivial⟩⟩⟩ (by kernel_rfl)
def aw130:Fact:=⟨13,[],(.bool true),none⟩
theorem Zp3:Zan Tryz.prog aw130.f aw130.args aw130.r aw130.fr:=ZlK (n:=100000) (d:=3) (l:=[aw0,aw95,aw100,aw119,aw102,aw2,aw3,aw78,aw106,aw103,aw20,aw107,aw108,aw109,aw110,aw111,aw114,aw82,aw116,aw118,aw120,aw121,aw129]) follows Zad ⟨ZAr,⟨ZtG,⟨Zre,⟨Zqv,⟨Zl3,⟨Zmo,⟨ZlG,⟨Zlx,⟨Zmz,⟨Zc2,⟨ZcZ,⟨ZlN,⟨ZlJ,⟨Zmx,⟨ZlZ,⟨Zl4,⟨Zma,⟨Zlg,⟨ZlV,⟨ZlS,⟨ZqR,⟨Zqz,⟨Zqb,trivial⟩⟩⟩⟩⟩⟩⟩⟩⟩⟩⟩⟩⟩⟩⟩⟩⟩⟩⟩⟩⟩⟩⟩ (by kernel_rfl)
theorem awake_ok:Zan Tryz.prog aw130.f aw130.args aw130.r aw130.fr:=Zp3
end Go.Proofs.YtkeoeooghhjibaaGreatDoor
/- Calls at given values. Printed by facts.py. -/
namespace Go.Proofs.YtkeoeooghhjibaaGreatDoor
set_option maxRecDepth 1000000
def rp0:Fact:=⟨179,[(.int .u64 1),(.int .u64 0)],(.tup [(.int .u64 0),(.int .u64 0)]),none⟩
theorem ZyT:Zan Tryz.prog rp0.f rp0.args rp0.r rp0.fr:=Zac (n:=100000) (l:=[]) follows Zad trivial (by kernel_rfl)
def rp1:Fact:=⟨152,[(.int .u64 1),(.int .u64 0)],(.tup [(.int .u64 0),(.int .u64 0)]),none⟩
theorem Zxi:Zan Tryz.prog rp1.f rp1.args rp1.r rp1.fr:=Zac (n:=100000) (l:=[rp0]) follows Zad ⟨ZyT,trivial⟩ (by kernel_rfl)
def rp2:Fact:=⟨121,[(.list (.ints .i64 [(-1)])),(.int .i64 0)],(.row 0 0),(some ⟨3,1,(.ints .i64 [])⟩)⟩
theorem ZwY:Zan Tryz.prog rp2.f rp2.args rp2.r rp2.fr:=Zac (n:=100000) (l:=[rp1]) follows Zad ⟨Zxi,trivial⟩ (by kernel_rfl)
def rp3:Fact:=⟨179,[(.int .u64 1),(.int .u64 1)],(.tup [(.int .u64 0),(.int .u64 1)]),none⟩
theorem Zyr:Zan Tryz.prog rp3.f rp3.args rp3.r rp3.fr:=Zac (n:=100000) (l:=[]) follows Zad trivial (by kernel_rfl)
def rp4:Fact:=⟨152,[(.int .u64 1),(.int .u64 1)],(.tup [(.int .u64 0),(.int .u64 1)]),none⟩
theorem Zzr:Zan Tryz.prog rp4.f rp4.args rp4.r rp4.fr:=Zac (n:=100000) (l:=[rp3]) follows Zad ⟨Zyr,trivial⟩ (by kernel_rfl)
def rp5:Fact:=⟨121,[(.list (.ints .i64 [(-1)])),(.int .i64 1)],(.row 0 0),(some ⟨3,1,(.ints .i64 [(-1)])⟩)⟩
theorem ZwV:Zan Tryz.prog rp5.f rp5.args rp5.r rp5.fr:=Zac (n:=100000) (l:=[rp4]) follows Zad ⟨Zzr,trivial⟩ (by kernel_rfl)
def rp6:Fact:=⟨179,[(.int .u64 1),(.int .u64 2)],(.tup [(.int .u64 0),(.int .u64 2)]),none⟩
theorem Zyv:Zan Tryz.prog rp6.f rp6.args rp6.r rp6.fr:=Zac (n:=100000) (l:=[]) follows Zad trivial (by kernel_rfl)
def rp7:Fact:=⟨152,[(.int .u64 1),(.int .u64 2)],(.tup [(.int .u64 0),(.int .u64 2)]),none⟩
theorem Zx7:Zan Tryz.prog rp7.f rp7.args rp7.r rp7.fr:=Zac (n:=100000) (l:=[rp6]) follows Zad ⟨Zyv,trivial⟩ (by kernel_rfl)
def rp8:Fact:=⟨121,[(.list (.ints .i64 [(-1)])),(.int .i64 2)],(.row 0 0),(some ⟨3,1,(.ints .i64 [(-1),(-1)])⟩)⟩
theorem ZxF:Zan Tryz.prog rp8.f rp8.args rp8.r rp8.fr:=Zac (n:=100000) (l:=[rp7]) follows Zad ⟨Zx7,trivial⟩ (by kernel_rfl)
def rp9:Fact:=⟨179,[(.int .u64 1),(.int .u64 3)],(.tup [(.int .u64 0),(.int .u64 3)]),none⟩
theorem Zxq:Zan Tryz.prog rp9.f rp9.args rp9.r rp9.fr:=Zac (n:=100000) (l:=[]) follows Zad trivial (by kernel_rfl)
def rp10:Fact:=⟨152,[(.int .u64 1),(.int .u64 3)],(.tup [(.int .u64 0),(.int .u64 3)]),none⟩
theorem ZvP:Zan Tryz.prog rp10.f rp10.args rp10.r rp10.fr:=Zac (n:=100000) (l:=[rp9]) follows Zad ⟨Zxq,trivial⟩ (by kernel_rfl)
def rp11:Fact:=⟨121,[(.list (.ints .i64 [(-1)])),(.int .i64 3)],(.row 0 0),(some ⟨3,1,(.ints .i64 [(-1),(-1),(-1)])⟩)⟩
theorem Zs8:Zan Tryz.prog rp11.f rp11.args rp11.r rp11.fr:=Zac (n:=100000) (l:=[rp10]) follows Zad ⟨ZvP,trivial⟩ (by kernel_rfl)
def rp12:Fact:=⟨179,[(.int .u64 1),(.int .u64 4)],(.tup [(.int .u64 0),(.int .u64 4)]),none⟩
theorem ZuE:Zan Tryz.prog rp12.f rp12.args rp12.r rp12.fr:=Zac (n:=100000) (l:=[]) follows Zad trivial (by kernel_rfl)
def rp13:Fact:=⟨152,[(.int .u64 1),(.int .u64 4)],(.tup [(.int .u64 0),(.int .u64 4)]),none⟩
theorem ZsR:Zan Tryz.prog rp13.f rp13.args rp13.r rp13.fr:=Zac (n:=100000) (l:=[rp12]) follows Zad ⟨ZuE,trivial⟩ (by kernel_rfl)
def rp14:Fact:=⟨121,[(.list (.ints .i64 [(-1)])),(.int .i64 4)],(.row 0 0),(some ⟨3,1,(.ints .i64 [(-1),(-1),(-1),(-1)])⟩)⟩
theorem ZvR:Zan Tryz.prog rp14.f rp14.args rp14.r rp14.fr:=Zac (n:=100000) (l:=[rp13]) follows Zad ⟨ZsR,trivial⟩ (by kernel_rfl)
def rp15:Fact:=⟨179,[(.int .u64 1),(.int .u64 5)],(.tup [(.int .u64 0),(.int .u64 5)]),none⟩
theorem Ztl:Zan Tryz.prog rp15.f rp15.args rp15.r rp15.fr:=Zac (n:=100000) (l:=[]) follows Zad trivial (by kernel_rfl)
def rp16:Fact:=⟨152,[(.int .u64 1),(.int .u64 5)],(.tup [(.int .u64 0),(.int .u64 5)]),none⟩
theorem ZvZ:Zan Tryz.prog rp16.f rp16.args rp16.r rp16.fr:=Zac (n:=100000) (l:=[rp15]) follows Zad ⟨Ztl,trivial⟩ (by kernel_rfl)
def rp17:Fact:=⟨121,[(.list (.ints .i64 [(-1)])),(.int .i64 5)],(.row 0 0),(some ⟨3,1,(.ints .i64 [(-1),(-1),(-1),(-1),(-1)])⟩)⟩
theorem Zt1:Zan Tryz.prog rp17.f rp17.args rp17.r rp17.fr:=Zac (n:=100000) (l:=[rp16]) follows Zad ⟨ZvZ,trivial⟩ (by kernel_rfl)
def rp18:Fact:=⟨179,[(.int .u64 1),(.int .u64 6)],(.tup [(.int .u64 0),(.int .u64 6)]),none⟩
theorem ZvT:Zan Tryz.prog rp18.f rp18.args rp18.r rp18.fr:=Zac (n:=100000) (l:=[]) follows Zad trivial (by kernel_rfl)
def rp19:Fact:=⟨152,[(.int .u64 1),(.int .u64 6)],(.tup [(.int .u64 0),(.int .u64 6)]),none⟩
theorem ZsF:Zan Tryz.prog rp19.f rp19.args rp19.r rp19.fr:=Zac (n:=100000) (l:=[rp18]) follows Zad ⟨ZvT,trivial⟩ (by kernel_rfl)
def rp20:Fact:=⟨121,[(.list (.ints .i64 [(-1)])),(.int .i64 6)],(.row 0 0),(some ⟨3,1,(.ints .i64 [(-1),(-1),(-1),(-1),(-1),(-1)])⟩)⟩
theorem ZsG:Zan Tryz.prog rp20.f rp20.args rp20.r rp20.fr:=Zac (n:=100000) (l:=[rp19]) follows Zad ⟨ZsF,trivial⟩ (by kernel_rfl)
def rp21:Fact:=⟨179,[(.int .u64 1),(.int .u64 7)],(.tup [(.int .u64 0),(.int .u64 7)]),none⟩
theorem Zvw:Zan Tryz.prog rp21.f rp21.args rp21.r rp21.fr:=Zac (n:=100000) (l:=[]) follows Zad trivial (by kernel_rfl)
def rp22:Fact:=⟨152,[(.int .u64 1),(.int .u64 7)],(.tup [(.int .u64 0),(.int .u64 7)]),none⟩
theorem Zvp:Zan Tryz.prog rp22.f rp22.args rp22.r rp22.fr:=Zac (n:=100000) (l:=[rp21]) follows Zad ⟨Zvw,trivial⟩ (by kernel_rfl)
def rp23:Fact:=⟨121,[(.list (.ints .i64 [(-1)])),(.int .i64 7)],(.row 0 0),(some ⟨3,1,(.ints .i64 [(-1),(-1),(-1),(-1),(-1),(-1),(-1)])⟩)⟩
theorem ZsD:Zan Tryz.prog rp23.f rp23.args rp23.r rp23.fr:=Zac (n:=100000) (l:=[rp22]) follows Zad ⟨Zvp,trivial⟩ (by kernel_rfl)
def rp24:Fact:=⟨179,[(.int .u64 1),(.int .u64 8)],(.tup [(.int .u64 0),(.int .u64 8)]),none⟩
theorem ZtD:Zan Tryz.prog rp24.f rp24.args rp24.r rp24.fr:=Zac (n:=100000) (l:=[]) follows Zad trivial (by kernel_rfl)
def rp25:Fact:=⟨152,[(.int .u64 1),(.int .u64 8)],(.tup [(.int .u64 0),(.int .u64 8)]),none⟩
theorem Zva:Zan Tryz.prog rp25.f rp25.args rp25.r rp25.fr:=Zac (n:=100000) (l:=[rp24]) follows Zad ⟨ZtD,trivial⟩ (by kernel_rfl)
def rp26:Fact:=⟨121,[(.list (.ints .i64 [(-1)])),(.int .i64 8)],(.row 0 0),(some ⟨3,1,(.ints .i64 [(-1),(-1),(-1),(-1),(-1),(-1),(-1),(-1)])⟩)⟩
theorem ZtZ:Zan Tryz.prog rp26.f rp26.args rp26.r rp26.fr:=Zac (n:=100000) (l:=[rp25]) follows Zad ⟨Zva,trivial⟩ (by kernel_rfl)
end Go.Proofs.YtkeoeooghhjibaaGreatDoor
