/- Every code of the table stands for the program's. Printed by gentab.py. -/
import Derived.Test.YtkeoeooghhjibaaDoorTa
import Derived.Test.YtkeoeooghhjibaaDoorChecked
import Derived.KernelRfl
namespace Go.Proofs.YtkeoeooghhjibaaDoor
set_option maxRecDepth 100000
theorem m4:Zar Tryd.prog 4 a4=true:=by kernel_rfl
theorem m5:Zar Tryd.prog 5 a5=true:=by kernel_rfl
theorem m6:Zar Tryd.prog 6 a6=true:=by kernel_rfl
theorem m7:Zar Tryd.prog 7 a7=true:=by kernel_rfl
theorem m8:Zar Tryd.prog 8 a8=true:=by kernel_rfl
theorem m9:Zar Tryd.prog 9 a9=true:=by kernel_rfl
theorem m11:Zar Tryd.prog 11 a11=true:=by kernel_rfl
theorem m13:Zar Tryd.prog 13 a13=true:=by kernel_rfl
theorem m14:Zar Tryd.prog 14 a14=true:=by kernel_rfl
theorem m15:Zar Tryd.prog 15 a15=true:=by kernel_rfl
theorem m16:Zar Tryd.prog 16 a16=true:=by kernel_rfl
theorem m17:Zar Tryd.prog 17 a17=true:=by kernel_rfl
theorem m18:Zar Tryd.prog 18 a18=true:=by kernel_rfl
theorem m19:Zar Tryd.prog 19 a19=true:=by kernel_rfl
theorem m20:Zar Tryd.prog 20 a20=true:=by kernel_rfl
theorem m21:Zar Tryd.prog 21 a21=true:=by kernel_rfl
theorem m22:Zar Tryd.prog 22 a22=true:=by kernel_rfl
theorem m23:Zar Tryd.prog 23 a23=true:=by kernel_rfl
theorem m24:Zar Tryd.prog 24 a24=true:=by kernel_rfl
theorem m25:Zar Tryd.prog 25 a25=true:=by kernel_rfl
theorem m26:Zar Tryd.prog 26 a26=true:=by kernel_rfl
theorem m27:Zar Tryd.prog 27 a27=true:=by kernel_rfl
theorem m28:Zar Tryd.prog 28 a28=true:=by kernel_rfl
theorem m29:Zar Tryd.prog 29 a29=true:=by kernel_rfl
theorem m30:Zar Tryd.prog 30 a30=true:=by kernel_rfl
theorem m31:Zar Tryd.prog 31 a31=true:=by kernel_rfl
theorem m32:Zar Tryd.prog 32 a32=true:=by kernel_rfl
theorem m33:Zar Tryd.prog 33 a33=true:=by kernel_rfl
theorem m34:Zar Tryd.prog 34 a34=true:=by kernel_rfl
theorem m35:Zar Tryd.prog 35 a35=true:=by kernel_rfl
theorem m36:Zar Tryd.prog 36 a36=true:=by kernel_rfl
theorem m37:Zar Tryd.prog 37 a37=true:=by kernel_rfl
theorem m38:Zar Tryd.prog 38 a38=true:=by kernel_rfl
theorem m39:Zar Tryd.prog 39 a39=true:=by kernel_rfl
theorem m40:Zar Tryd.prog 40 a40=true:=by kernel_rfl
theorem m41:Zar Tryd.prog 41 a41=true:=by kernel_rfl
theorem m42:Zar Tryd.prog 42 a42=true:=by kernel_rfl
theorem m43:Zar Tryd.prog 43 a43=true:=by kernel_rfl
theorem m44:Zar Tryd.prog 44 a44=true:=by kernel_rfl
theorem m45:Zar Tryd.prog 45 a45=true:=by kernel_rfl
theorem m46:Zar Tryd.prog 46 a46=true:=by kernel_rfl
theorem m47:Zar Tryd.prog 47 a47=true:=by kernel_rfl
theorem m48:Zar Tryd.prog 48 a48=true:=by kernel_rfl
theorem m49:Zar Tryd.prog 49 a49=true:=by kernel_rfl
theorem m50:Zar Tryd.prog 50 a50=true:=by kernel_rfl
theorem m51:Zar Tryd.prog 51 a51=true:=by kernel_rfl
theorem m52:Zar Tryd.prog 52 a52=true:=by kernel_rfl
theorem m53:Zar Tryd.prog 53 a53=true:=by kernel_rfl
theorem m54:Zar Tryd.prog 54 a54=true:=by kernel_rfl
theorem m55:Zar Tryd.prog 55 a55=true:=by kernel_rfl
theorem m56:Zar Tryd.prog 56 a56=true:=by kernel_rfl
theorem m57:Zar Tryd.prog 57 a57=true:=by kernel_rfl
theorem m58:Zar Tryd.prog 58 a58=true:=by kernel_rfl
theorem m59:Zar Tryd.prog 59 a59=true:=by kernel_rfl
theorem m60:Zar Tryd.prog 60 a60=true:=by kernel_rfl
theorem m61:Zar Tryd.prog 61 a61=true:=by kernel_rfl
theorem m62:Zar Tryd.prog 62 a62=true:=by kernel_rfl
theorem m63:Zar Tryd.prog 63 a63=true:=by kernel_rfl
theorem m64:Zar Tryd.prog 64 a64=true:=by kernel_rfl
theorem m65:Zar Tryd.prog 65 a65=true:=by kernel_rfl
theorem m66:Zar Tryd.prog 66 a66=true:=by kernel_rfl
theorem m67:Zar Tryd.prog 67 a67=true:=by kernel_rfl
theorem m68:Zar Tryd.prog 68 a68=true:=by kernel_rfl
theorem m69:Zar Tryd.prog 69 a69=true:=by kernel_rfl
theorem m70:Zar Tryd.prog 70 a70=true:=by kernel_rfl
theorem m71:Zar Tryd.prog 71 a71=true:=by kernel_rfl
theorem m72:Zar Tryd.prog 72 a72=true:=by kernel_rfl
theorem m73:Zar Tryd.prog 73 a73=true:=by kernel_rfl
theorem m74:Zar Tryd.prog 74 a74=true:=by kernel_rfl
theorem m75:Zar Tryd.prog 75 a75=true:=by kernel_rfl
theorem m76:Zar Tryd.prog 76 a76=true:=by kernel_rfl
theorem m80:Zar Tryd.prog 80 a80=true:=by kernel_rfl
theorem m81:Zar Tryd.prog 81 a81=true:=by kernel_rfl
theorem m82:Zar Tryd.prog 82 a82=true:=by kernel_rfl
theorem m83:Zar Tryd.prog 83 a83=true:=by kernel_rfl
theorem m84:Zar Tryd.prog 84 a84=true:=by kernel_rfl
theorem m87:Zar Tryd.prog 87 a87=true:=by kernel_rfl
theorem Zae:Zbm Tryd.prog tab:=FTree.ok (t:=tree) ⟨⟨⟨⟨⟨⟨⟨trivial,m4,trivial⟩,m5,trivial⟩,m6,⟨trivial,m7,trivial⟩⟩,m8,⟨⟨⟨trivial,m9,trivial⟩,m11,trivial⟩,m13,⟨trivial,m14,trivial⟩⟩⟩,m15,⟨⟨⟨⟨trivial,m16,trivial⟩,m17,trivial⟩,m18,⟨trivial,m19,trivial⟩⟩,m20,⟨⟨⟨trivial,m21,trivial⟩,m22,trivial⟩,m23,⟨trivial,m24,trivial⟩⟩⟩⟩,m25,⟨⟨⟨⟨⟨trivial,m26,trivial⟩,m27,trivial⟩,m28,⟨trivial,m29,trivial⟩⟩,m30,⟨⟨⟨trivial,m31,trivial⟩,m32,trivial⟩,m33,⟨trivial,m34,trivial⟩⟩⟩,m35,⟨⟨⟨⟨trivial,m36,trivial⟩,m37,trivial⟩,m38,⟨trivial,m39,trivial⟩⟩,m40,⟨⟨trivial,m41,trivial⟩,m42,⟨trivial,m43,trivial⟩⟩⟩⟩⟩,m44,⟨⟨⟨⟨⟨⟨trivial,m45,trivial⟩,m46,trivial⟩,m47,⟨trivial,m48,trivial⟩⟩,m49,⟨⟨⟨trivial,m50,trivial⟩,m51,trivial⟩,m52,⟨trivial,m53,trivial⟩⟩⟩,m54,⟨⟨⟨⟨trivial,m55,trivial⟩,m56,trivial⟩,m57,⟨trivial,m58,trivial⟩⟩,m59,⟨⟨⟨trivial,m60,trivial⟩,m61,trivial⟩,m62,⟨trivial,m63,trivial⟩⟩⟩⟩,m64,⟨⟨⟨⟨⟨trivial,m65,trivial⟩,m66,trivial⟩,m67,⟨trivial,m68,trivial⟩⟩,m69,⟨⟨⟨trivial,m70,trivial⟩,m71,trivial⟩,m72,⟨trivial,m73,trivial⟩⟩⟩,m74,⟨⟨⟨⟨trivial,m75,trivial⟩,m76,trivial⟩,m80,⟨trivial,m81,trivial⟩⟩,m82,⟨⟨trivial,m83,trivial⟩,m84,⟨trivial,m87,trivial⟩⟩⟩⟩⟩⟩
theorem follows:Tryd.prog.follows .mixedOrders=true:=by kernel_rfl
end Go.Proofs.YtkeoeooghhjibaaDoor
/- How contracts are closed for the program. No condition. -/
namespace Go.Proofs.YtkeoeooghhjibaaDoor
def E0:List Ctr:=[]
theorem Zax:Za3 Tryd.prog E0:=trivial
section
variable {C:Ctx}{K:List Ctr}{n:Nat}{pa acc:List Bool}{fs gs:List AFrame}{h h':Zab}{Q:List AFrame→Zab→Prop}
theorem go(hC:C.P=Tryd.prog)(hK:Za3 Tryd.prog K)(hw:Zav std tab K n pa fs h=some (acc,gs,h'))(hb:AllT acc)(hq:Ev C gs h' Q):Ev C fs h Q:=ZuQ (by rw[hC];exact follows) (by rw[hC];exact Zae) (by rw[hC];exact hK) hw hb hq
theorem fin(hC:C.P=Tryd.prog)(hK:Za3 Tryd.prog K){fn:FuncId}{r r':AV}{fr fr':Option Fresh}(hw:ZaT std tab K n pa fn fs h=some (acc,r',fr'))(hb:AllT acc)(hr:r'=r)(hfr:fr'=fr):Ev C fs h (Zcp fn r fr):=Zq4 (by rw[hC];exact follows) (by rw[hC];exact Zae) (by rw[hC];exact hK) hw hb hr hfr
theorem start{fn:FuncId}{args:List AV}{af:AFrame}{r:AV}{fr:Option Fresh}(he:ZaC tab fn args=some af)(hq:∀C:Ctx,C.P=Tryd.prog→Ev C [af] [] (Zcp fn r fr)):Zat Tryd.prog fn args r fr:=Zea Zae he fun _ _ _=>hq _ rfl
theorem tgo(hC:C.P=Tryd.prog)(hK:Za3 Tryd.prog K){fn:FuncId}{r:AV}{fr:Option Fresh}{s:Sp}{X:Prop}(he:ZbM std tab K fn (fun p=>Ev C p.1 p.2 (Zcp fn r fr)) (fun r' fr'=>r'=r∧fr'=fr) (fun _ _ _ _=>False) s fs h=X)(hx:X):Ev C fs h (Zcp fn r fr):=
 Zcf (K:=fun p=>Ev C p.1 p.2 (Zcp fn r fr)) (F:=fun r' fr'=>r'=r∧fr'=fr) (M:=fun _ _ _ _=>False) (by rw[hC];exact follows) (by rw[hC];exact Zae) (by rw[hC];exact hK) (fun _ h=>h) (fun r' fr' h _ _ hf=>by obtain⟨rfl,rfl⟩:=h;exact hf) (fun _ _ _ _ h=>h.elim) s (by rw[he];exact hx)
end
theorem Rel.same{w:World}{ok:Nat→Prop}{h:Zab}{L:Lay}{r r':Row}{v:Value}(he:r.elems=r'.elems)(hr:Rel w ok h L (.list r) v):Rel w ok h L (.list r') v:=by
 cases hr with
 |nil _ a c h0=>exact .nil _ a c (he▸h0)
 |list _ xs hx ad n cap sz cs hb hok hn hcap hsz hl h1 hc hp hrr=>exact .list r' xs (hx.trans he) ad n cap sz cs hb hok hn hcap hsz hl h1 hc hp hrr
inductive Wk1:AV→AV→Prop
 |nil (r:Row) (h:r.elems=[]):Wk1 .nils (.list r)
 |same (v:AV):Wk1 v v
theorem Wk1.rel{w:World}{ok:Nat→Prop}{h:Zab}{L:Lay}{v v':AV}{x:Value}(hw:Wk1 v v')(hr:Rel w ok h L v x):Rel w ok h L v' x:=by
 cases hw with
 |nil r h=>cases hr with |nils=>exact .nil r none 0 h
 |same=>exact hr
end Go.Proofs.YtkeoeooghhjibaaDoor
/- Calls at given values. Printed by facts.py. -/
namespace Go.Proofs.YtkeoeooghhjibaaDoor
set_option maxRecDepth 1000000
def aw0:Fact:=⟨19,[],(.agg (.gen [(.list (.big .str [(.str [115,97,102,101]),(.str [99,114,117,105,115,101]),(.str [98,117,114,110])])),(.list (.big (.agg [.str,(.int .i64)]) [(.agg (.gen [(.str [119,97,107,101]),(.int .i64 1)])),(.agg (.gen [(.str [102,105,114,101]),(.int .i64 2)])),(.agg (.gen [(.str [115,116,111,112]),(.int .i64 1)])),(.agg (.gen [(.str [112,105,110,103]),(.int .i64 (-1))]))])),(.list (.big (.agg [.str,(.int .i64),(.int .i64),(.int .i64),(.int .i64)]) [(.agg (.gen [(.str [99,111,108,100]),(.int .i64 1),(.int .i64 0),(.int .i64 (-1)),(.int .i64 1)])),(.agg (.gen [(.str [104,101,97,116]),(.int .i64 1),(.int .i64 (-1)),(.int .i64 2),(.int .i64 50)]))])),(.list (.big (.agg [(.int .i64),(.int .i64),(.int .i64)]) [(.agg (.gen [(.int .i64 0),(.int .i64 0),(.int .i64 100)])),(.agg (.gen [(.int .i64 1),(.int .i64 20),(.int .i64 200)])),(.agg (.gen [(.int .i64 2),(.int .i64 30),(.int .i64 300)])),(.agg (.gen [(.int .i64 1),(.int .i64 40),(.int .i64 400)]))])),(.int .i64 2),(.int .i64 2)])),none⟩
theorem ZsI:Zat Tryd.prog aw0.f aw0.args aw0.r aw0.fr:=Zac (n:=100000) (l:=[]) follows Zae trivial (by kernel_rfl)
def aw1:Fact:=⟨32,[(.bool true),(.int .i64 10)],(.int .i64 0),none⟩
theorem ZlT:Zat Tryd.prog aw1.f aw1.args aw1.r aw1.fr:=Zac (n:=100000) (l:=[]) follows Zae trivial (by kernel_rfl)
def aw2:Fact:=⟨32,[(.bool true),(.int .i64 8)],(.int .i64 0),none⟩
theorem Zju:Zat Tryd.prog aw2.f aw2.args aw2.r aw2.fr:=Zac (n:=100000) (l:=[]) follows Zae trivial (by kernel_rfl)
def aw3:Fact:=⟨35,[(.list (.ints .i64 [0,0]))],(.int .i64 0),none⟩
theorem Zj4:Zat Tryd.prog aw3.f aw3.args aw3.r aw3.fr:=Zac (n:=100000) (l:=[]) follows Zae trivial (by kernel_rfl)
def aw4:Fact:=⟨28,[(.int .i64 0),(.eptr (.agg (.gen [(.list (.big .str [(.str [115,97,102,101]),(.str [99,114,117,105,115,101]),(.str [98,117,114,110])])),(.list (.big (.agg [.str,(.int .i64)]) [(.agg (.gen [(.str [119,97,107,101]),(.int .i64 1)])),(.agg (.gen [(.str [102,105,114,101]),(.int .i64 2)])),(.agg (.gen [(.str [115,116,111,112]),(.int .i64 1)])),(.agg (.gen [(.str [112,105,110,103]),(.int .i64 (-1))]))])),(.list (.big (.agg [.str,(.int .i64),(.int .i64),(.int .i64),(.int .i64)]) [(.agg (.gen [(.str [99,111,108,100]),(.int .i64 1),(.int .i64 0),(.int .i64 (-1)),(.int .i64 1)])),(.agg (.gen [(.str [104,101,97,116]),(.int .i64 1),(.int .i64 (-1)),(.int .i64 2),(.int .i64 50)]))]))])) 0)],(.str [115,97,102,101]),none⟩
theorem Zsf:Zat Tryd.prog aw4.f aw4.args aw4.r aw4.fr:=Zac (n:=100000) (l:=[]) follows Zae trivial (by kernel_rfl)
def aw5:Fact:=⟨56,[(.str [115,97,102,101])],(.bool true),none⟩
theorem Zrr:Zat Tryd.prog aw5.f aw5.args aw5.r aw5.fr:=Zac (n:=100000) (l:=[]) follows Zae trivial (by kernel_rfl)
def aw6:Fact:=⟨32,[(.bool true),(.int .i64 4)],(.int .i64 0),none⟩
theorem Zss:Zat Tryd.prog aw6.f aw6.args aw6.r aw6.fr:=Zac (n:=100000) (l:=[]) follows Zae trivial (by kernel_rfl)
def aw7:Fact:=⟨32,[(.bool true),(.int .i64 5)],(.int .i64 0),none⟩
theorem ZrT:Zat Tryd.prog aw7.f aw7.args aw7.r aw7.fr:=Zac (n:=100000) (l:=[]) follows Zae trivial (by kernel_rfl)
def aw8:Fact:=⟨29,[(.int .i64 0)],(.int .i64 0),none⟩
theorem Zru:Zat Tryd.prog aw8.f aw8.args aw8.r aw8.fr:=Zac (n:=100000) (l:=[]) follows Zae trivial (by kernel_rfl)
def aw9:Fact:=⟨35,[(.list (.ints .i64 [0,0,0]))],(.int .i64 0),none⟩
theorem ZeM:Zat Tryd.prog aw9.f aw9.args aw9.r aw9.fr:=Zac (n:=100000) (l:=[]) follows Zae trivial (by kernel_rfl)
def aw10:Fact:=⟨28,[(.int .i64 1),(.eptr (.agg (.gen [(.list (.big .str [(.str [115,97,102,101]),(.str [99,114,117,105,115,101]),(.str [98,117,114,110])])),(.list (.big (.agg [.str,(.int .i64)]) [(.agg (.gen [(.str [119,97,107,101]),(.int .i64 1)])),(.agg (.gen [(.str [102,105,114,101]),(.int .i64 2)])),(.agg (.gen [(.str [115,116,111,112]),(.int .i64 1)])),(.agg (.gen [(.str [112,105,110,103]),(.int .i64 (-1))]))])),(.list (.big (.agg [.str,(.int .i64),(.int .i64),(.int .i64),(.int .i64)]) [(.agg (.gen [(.str [99,111,108,100]),(.int .i64 1),(.int .i64 0),(.int .i64 (-1)),(.int .i64 1)])),(.agg (.gen [(.str [104,101,97,116]),(.int .i64 1),(.int .i64 (-1)),(.int .i64 2),(.int .i64 50)]))]))])) 0)],(.str [99,114,117,105,115,101]),none⟩
theorem ZpJ:Zat Tryd.prog aw10.f aw10.args aw10.r aw10.fr:=Zac (n:=100000) (l:=[]) follows Zae trivial (by kernel_rfl)
def aw11:Fact:=⟨56,[(.str [99,114,117,105,115,101])],(.bool true),none⟩
theorem Zpa:Zat Tryd.prog aw11.f aw11.args aw11.r aw11.fr:=Zac (n:=100000) (l:=[]) follows Zae trivial (by kernel_rfl)
def aw12:Fact:=⟨29,[(.int .i64 1)],(.int .i64 0),none⟩
theorem Zpf:Zat Tryd.prog aw12.f aw12.args aw12.r aw12.fr:=Zac (n:=100000) (l:=[]) follows Zae trivial (by kernel_rfl)
def aw13:Fact:=⟨28,[(.int .i64 2),(.eptr (.agg (.gen [(.list (.big .str [(.str [115,97,102,101]),(.str [99,114,117,105,115,101]),(.str [98,117,114,110])])),(.list (.big (.agg [.str,(.int .i64)]) [(.agg (.gen [(.str [119,97,107,101]),(.int .i64 1)])),(.agg (.gen [(.str [102,105,114,101]),(.int .i64 2)])),(.agg (.gen [(.str [115,116,111,112]),(.int .i64 1)])),(.agg (.gen [(.str [112,105,110,103]),(.int .i64 (-1))]))])),(.list (.big (.agg [.str,(.int .i64),(.int .i64),(.int .i64),(.int .i64)]) [(.agg (.gen [(.str [99,111,108,100]),(.int .i64 1),(.int .i64 0),(.int .i64 (-1)),(.int .i64 1)])),(.agg (.gen [(.str [104,101,97,116]),(.int .i64 1),(.int .i64 (-1)),(.int .i64 2),(.int .i64 50)]))]))])) 0)],(.str [98,117,114,110]),none⟩
theorem ZoV:Zat Tryd.prog aw13.f aw13.args aw13.r aw13.fr:=Zac (n:=100000) (l:=[]) follows Zae trivial (by kernel_rfl)
def aw14:Fact:=⟨56,[(.str [98,117,114,110])],(.bool true),none⟩
theorem ZoS:Zat Tryd.prog aw14.f aw14.args aw14.r aw14.fr:=Zac (n:=100000) (l:=[]) follows Zae trivial (by kernel_rfl)
def aw15:Fact:=⟨29,[(.int .i64 2)],(.int .i64 0),none⟩
theorem Zp6:Zat Tryd.prog aw15.f aw15.args aw15.r aw15.fr:=Zac (n:=100000) (l:=[]) follows Zae trivial (by kernel_rfl)
def aw16:Fact:=⟨30,[(.int .i64 0),(.eptr (.agg (.gen [(.list (.big .str [(.str [115,97,102,101]),(.str [99,114,117,105,115,101]),(.str [98,117,114,110])])),(.list (.big (.agg [.str,(.int .i64)]) [(.agg (.gen [(.str [119,97,107,101]),(.int .i64 1)])),(.agg (.gen [(.str [102,105,114,101]),(.int .i64 2)])),(.agg (.gen [(.str [115,116,111,112]),(.int .i64 1)])),(.agg (.gen [(.str [112,105,110,103]),(.int .i64 (-1))]))])),(.list (.big (.agg [.str,(.int .i64),(.int .i64),(.int .i64),(.int .i64)]) [(.agg (.gen [(.str [99,111,108,100]),(.int .i64 1),(.int .i64 0),(.int .i64 (-1)),(.int .i64 1)])),(.agg (.gen [(.str [104,101,97,116]),(.int .i64 1),(.int .i64 (-1)),(.int .i64 2),(.int .i64 50)]))]))])) 0)],(.str [119,97,107,101]),none⟩
theorem Zqd:Zat Tryd.prog aw16.f aw16.args aw16.r aw16.fr:=Zac (n:=100000) (l:=[]) follows Zae trivial (by kernel_rfl)
def aw17:Fact:=⟨56,[(.str [119,97,107,101])],(.bool true),none⟩
theorem Zon:Zat Tryd.prog aw17.f aw17.args aw17.r aw17.fr:=Zac (n:=100000) (l:=[]) follows Zae trivial (by kernel_rfl)
def aw18:Fact:=⟨26,[(.int .i64 1),(.int .i64 0),(.int .i64 2)],(.bool true),none⟩
theorem ZpY:Zat Tryd.prog aw18.f aw18.args aw18.r aw18.fr:=Zac (n:=100000) (l:=[]) follows Zae trivial (by kernel_rfl)
def aw19:Fact:=⟨25,[(.int .i64 1),(.int .i64 3)],(.bool true),none⟩
theorem ZmI:Zat Tryd.prog aw19.f aw19.args aw19.r aw19.fr:=Zac (n:=100000) (l:=[aw18]) follows Zae ⟨ZpY,trivial⟩ (by kernel_rfl)
def aw20:Fact:=⟨32,[(.bool true),(.int .i64 6)],(.int .i64 0),none⟩
theorem Zci:Zat Tryd.prog aw20.f aw20.args aw20.r aw20.fr:=Zac (n:=100000) (l:=[]) follows Zae trivial (by kernel_rfl)
def aw21:Fact:=⟨31,[(.int .i64 0),(.eptr (.fn 25 []) 0),(.eptr (.agg (.gen [(.list (.big .str [(.str [115,97,102,101]),(.str [99,114,117,105,115,101]),(.str [98,117,114,110])])),(.list (.big (.agg [.str,(.int .i64)]) [(.agg (.gen [(.str [119,97,107,101]),(.int .i64 1)])),(.agg (.gen [(.str [102,105,114,101]),(.int .i64 2)])),(.agg (.gen [(.str [115,116,111,112]),(.int .i64 1)])),(.agg (.gen [(.str [112,105,110,103]),(.int .i64 (-1))]))])),(.list (.big (.agg [.str,(.int .i64),(.int .i64),(.int .i64),(.int .i64)]) [(.agg (.gen [(.str [99,111,108,100]),(.int .i64 1),(.int .i64 0),(.int .i64 (-1)),(.int .i64 1)])),(.agg (.gen [(.str [104,101,97,116]),(.int .i64 1),(.int .i64 (-1)),(.int .i64 2),(.int .i64 50)]))]))])) 0),(.eptr (.int .i64 3) 0)],(.int .i64 0),none⟩
theorem ZpV:Zat Tryd.prog aw21.f aw21.args aw21.r aw21.fr:=Zac (n:=100000) (l:=[aw19,aw20]) follows Zae ⟨ZmI,⟨Zci,trivial⟩⟩ (by kernel_rfl)
def aw22:Fact:=⟨30,[(.int .i64 1),(.eptr (.agg (.gen [(.list (.big .str [(.str [115,97,102,101]),(.str [99,114,117,105,115,101]),(.str [98,117,114,110])])),(.list (.big (.agg [.str,(.int .i64)]) [(.agg (.gen [(.str [119,97,107,101]),(.int .i64 1)])),(.agg (.gen [(.str [102,105,114,101]),(.int .i64 2)])),(.agg (.gen [(.str [115,116,111,112]),(.int .i64 1)])),(.agg (.gen [(.str [112,105,110,103]),(.int .i64 (-1))]))])),(.list (.big (.agg [.str,(.int .i64),(.int .i64),(.int .i64),(.int .i64)]) [(.agg (.gen [(.str [99,111,108,100]),(.int .i64 1),(.int .i64 0),(.int .i64 (-1)),(.int .i64 1)])),(.agg (.gen [(.str [104,101,97,116]),(.int .i64 1),(.int .i64 (-1)),(.int .i64 2),(.int .i64 50)]))]))])) 0)],(.str [102,105,114,101]),none⟩
theorem Zo3:Zat Tryd.prog aw22.f aw22.args aw22.r aw22.fr:=Zac (n:=100000) (l:=[]) follows Zae trivial (by kernel_rfl)
def aw23:Fact:=⟨56,[(.str [102,105,114,101])],(.bool true),none⟩
theorem Zpo:Zat Tryd.prog aw23.f aw23.args aw23.r aw23.fr:=Zac (n:=100000) (l:=[]) follows Zae trivial (by kernel_rfl)
def aw24:Fact:=⟨26,[(.int .i64 2),(.int .i64 0),(.int .i64 2)],(.bool true),none⟩
theorem Zqx:Zat Tryd.prog aw24.f aw24.args aw24.r aw24.fr:=Zac (n:=100000) (l:=[]) follows Zae trivial (by kernel_rfl)
def aw25:Fact:=⟨25,[(.int .i64 2),(.int .i64 3)],(.bool true),none⟩
theorem Zom:Zat Tryd.prog aw25.f aw25.args aw25.r aw25.fr:=Zac (n:=100000) (l:=[aw24]) follows Zae ⟨Zqx,trivial⟩ (by kernel_rfl)
def aw26:Fact:=⟨31,[(.int .i64 1),(.eptr (.fn 25 []) 0),(.eptr (.agg (.gen [(.list (.big .str [(.str [115,97,102,101]),(.str [99,114,117,105,115,101]),(.str [98,117,114,110])])),(.list (.big (.agg [.str,(.int .i64)]) [(.agg (.gen [(.str [119,97,107,101]),(.int .i64 1)])),(.agg (.gen [(.str [102,105,114,101]),(.int .i64 2)])),(.agg (.gen [(.str [115,116,111,112]),(.int .i64 1)])),(.agg (.gen [(.str [112,105,110,103]),(.int .i64 (-1))]))])),(.list (.big (.agg [.str,(.int .i64),(.int .i64),(.int .i64),(.int .i64)]) [(.agg (.gen [(.str [99,111,108,100]),(.int .i64 1),(.int .i64 0),(.int .i64 (-1)),(.int .i64 1)])),(.agg (.gen [(.str [104,101,97,116]),(.int .i64 1),(.int .i64 (-1)),(.int .i64 2),(.int .i64 50)]))]))])) 0),(.eptr (.int .i64 3) 0)],(.int .i64 0),none⟩
theorem ZoN:Zat Tryd.prog aw26.f aw26.args aw26.r aw26.fr:=Zac (n:=100000) (l:=[aw25,aw20]) follows Zae ⟨Zom,⟨Zci,trivial⟩⟩ (by kernel_rfl)
def aw27:Fact:=⟨30,[(.int .i64 2),(.eptr (.agg (.gen [(.list (.big .str [(.str [115,97,102,101]),(.str [99,114,117,105,115,101]),(.str [98,117,114,110])])),(.list (.big (.agg [.str,(.int .i64)]) [(.agg (.gen [(.str [119,97,107,101]),(.int .i64 1)])),(.agg (.gen [(.str [102,105,114,101]),(.int .i64 2)])),(.agg (.gen [(.str [115,116,111,112]),(.int .i64 1)])),(.agg (.gen [(.str [112,105,110,103]),(.int .i64 (-1))]))])),(.list (.big (.agg [.str,(.int .i64),(.int .i64),(.int .i64),(.int .i64)]) [(.agg (.gen [(.str [99,111,108,100]),(.int .i64 1),(.int .i64 0),(.int .i64 (-1)),(.int .i64 1)])),(.agg (.gen [(.str [104,101,97,116]),(.int .i64 1),(.int .i64 (-1)),(.int .i64 2),(.int .i64 50)]))]))])) 0)],(.str [115,116,111,112]),none⟩
theorem Zpp:Zat Tryd.prog aw27.f aw27.args aw27.r aw27.fr:=Zac (n:=100000) (l:=[]) follows Zae trivial (by kernel_rfl)
def aw28:Fact:=⟨56,[(.str [115,116,111,112])],(.bool true),none⟩
theorem ZpB:Zat Tryd.prog aw28.f aw28.args aw28.r aw28.fr:=Zac (n:=100000) (l:=[]) follows Zae trivial (by kernel_rfl)
def aw29:Fact:=⟨31,[(.int .i64 2),(.eptr (.fn 25 []) 0),(.eptr (.agg (.gen [(.list (.big .str [(.str [115,97,102,101]),(.str [99,114,117,105,115,101]),(.str [98,117,114,110])])),(.list (.big (.agg [.str,(.int .i64)]) [(.agg (.gen [(.str [119,97,107,101]),(.int .i64 1)])),(.agg (.gen [(.str [102,105,114,101]),(.int .i64 2)])),(.agg (.gen [(.str [115,116,111,112]),(.int .i64 1)])),(.agg (.gen [(.str [112,105,110,103]),(.int .i64 (-1))]))])),(.list (.big (.agg [.str,(.int .i64),(.int .i64),(.int .i64),(.int .i64)]) [(.agg (.gen [(.str [99,111,108,100]),(.int .i64 1),(.int .i64 0),(.int .i64 (-1)),(.int .i64 1)])),(.agg (.gen [(.str [104,101,97,116]),(.int .i64 1),(.int .i64 (-1)),(.int .i64 2),(.int .i64 50)]))]))])) 0),(.eptr (.int .i64 3) 0)],(.int .i64 0),none⟩
theorem Zqp:Zat Tryd.prog aw29.f aw29.args aw29.r aw29.fr:=Zac (n:=100000) (l:=[aw19,aw20]) follows Zae ⟨ZmI,⟨Zci,trivial⟩⟩ (by kernel_rfl)
def aw30:Fact:=⟨30,[(.int .i64 3),(.eptr (.agg (.gen [(.list (.big .str [(.str [115,97,102,101]),(.str [99,114,117,105,115,101]),(.str [98,117,114,110])])),(.list (.big (.agg [.str,(.int .i64)]) [(.agg (.gen [(.str [119,97,107,101]),(.int .i64 1)])),(.agg (.gen [(.str [102,105,114,101]),(.int .i64 2)])),(.agg (.gen [(.str [115,116,111,112]),(.int .i64 1)])),(.agg (.gen [(.str [112,105,110,103]),(.int .i64 (-1))]))])),(.list (.big (.agg [.str,(.int .i64),(.int .i64),(.int .i64),(.int .i64)]) [(.agg (.gen [(.str [99,111,108,100]),(.int .i64 1),(.int .i64 0),(.int .i64 (-1)),(.int .i64 1)])),(.agg (.gen [(.str [104,101,97,116]),(.int .i64 1),(.int .i64 (-1)),(.int .i64 2),(.int .i64 50)]))]))])) 0)],(.str [112,105,110,103]),none⟩
theorem Zp4:Zat Tryd.prog aw30.f aw30.args aw30.r aw30.fr:=Zac (n:=100000) (l:=[]) follows Zae trivial (by kernel_rfl)
def aw31:Fact:=⟨56,[(.str [112,105,110,103])],(.bool true),none⟩
theorem Zow:Zat Tryd.prog aw31.f aw31.args aw31.r aw31.fr:=Zac (n:=100000) (l:=[]) follows Zae trivial (by kernel_rfl)
def aw32:Fact:=⟨25,[(.int .i64 (-1)),(.int .i64 3)],(.bool true),none⟩
theorem Zmo:Zat Tryd.prog aw32.f aw32.args aw32.r aw32.fr:=Zac (n:=100000) (l:=[]) follows Zae trivial (by kernel_rfl)
def aw33:Fact:=⟨31,[(.int .i64 3),(.eptr (.fn 25 []) 0),(.eptr (.agg (.gen [(.list (.big .str [(.str [115,97,102,101]),(.str [99,114,117,105,115,101]),(.str [98,117,114,110])])),(.list (.big (.agg [.str,(.int .i64)]) [(.agg (.gen [(.str [119,97,107,101]),(.int .i64 1)])),(.agg (.gen [(.str [102,105,114,101]),(.int .i64 2)])),(.agg (.gen [(.str [115,116,111,112]),(.int .i64 1)])),(.agg (.gen [(.str [112,105,110,103]),(.int .i64 (-1))]))])),(.list (.big (.agg [.str,(.int .i64),(.int .i64),(.int .i64),(.int .i64)]) [(.agg (.gen [(.str [99,111,108,100]),(.int .i64 1),(.int .i64 0),(.int .i64 (-1)),(.int .i64 1)])),(.agg (.gen [(.str [104,101,97,116]),(.int .i64 1),(.int .i64 (-1)),(.int .i64 2),(.int .i64 50)]))]))])) 0),(.eptr (.int .i64 3) 0)],(.int .i64 0),none⟩
theorem ZoU:Zat Tryd.prog aw33.f aw33.args aw33.r aw33.fr:=Zac (n:=100000) (l:=[aw32,aw20]) follows Zae ⟨Zmo,⟨Zci,trivial⟩⟩ (by kernel_rfl)
def aw34:Fact:=⟨33,[(.int .i64 0),(.eptr (.agg (.gen [(.list (.big .str [(.str [115,97,102,101]),(.str [99,114,117,105,115,101]),(.str [98,117,114,110])])),(.list (.big (.agg [.str,(.int .i64)]) [(.agg (.gen [(.str [119,97,107,101]),(.int .i64 1)])),(.agg (.gen [(.str [102,105,114,101]),(.int .i64 2)])),(.agg (.gen [(.str [115,116,111,112]),(.int .i64 1)])),(.agg (.gen [(.str [112,105,110,103]),(.int .i64 (-1))]))])),(.list (.big (.agg [.str,(.int .i64),(.int .i64),(.int .i64),(.int .i64)]) [(.agg (.gen [(.str [99,111,108,100]),(.int .i64 1),(.int .i64 0),(.int .i64 (-1)),(.int .i64 1)])),(.agg (.gen [(.str [104,101,97,116]),(.int .i64 1),(.int .i64 (-1)),(.int .i64 2),(.int .i64 50)]))]))])) 0)],(.str [99,111,108,100]),none⟩
theorem Zo7:Zat Tryd.prog aw34.f aw34.args aw34.r aw34.fr:=Zac (n:=100000) (l:=[]) follows Zae trivial (by kernel_rfl)
def aw35:Fact:=⟨56,[(.str [99,111,108,100])],(.bool true),none⟩
theorem ZoQ:Zat Tryd.prog aw35.f aw35.args aw35.r aw35.fr:=Zac (n:=100000) (l:=[]) follows Zae trivial (by kernel_rfl)
def aw36:Fact:=⟨26,[(.int .i64 1),(.int .i64 0),(.int .i64 3)],(.bool true),none⟩
theorem ZfB:Zat Tryd.prog aw36.f aw36.args aw36.r aw36.fr:=Zac (n:=100000) (l:=[]) follows Zae trivial (by kernel_rfl)
def aw37:Fact:=⟨26,[(.int .i64 0),(.int .i64 0),(.int .i64 2)],(.bool true),none⟩
theorem ZmC:Zat Tryd.prog aw37.f aw37.args aw37.r aw37.fr:=Zac (n:=100000) (l:=[]) follows Zae trivial (by kernel_rfl)
def aw38:Fact:=⟨25,[(.int .i64 0),(.int .i64 3)],(.bool true),none⟩
theorem Zpd:Zat Tryd.prog aw38.f aw38.args aw38.r aw38.fr:=Zac (n:=100000) (l:=[aw37]) follows Zae ⟨ZmC,trivial⟩ (by kernel_rfl)
def aw39:Fact:=⟨25,[(.int .i64 (-1)),(.int .i64 4)],(.bool true),none⟩
theorem ZpZ:Zat Tryd.prog aw39.f aw39.args aw39.r aw39.fr:=Zac (n:=100000) (l:=[]) follows Zae trivial (by kernel_rfl)
def aw40:Fact:=⟨26,[(.int .i64 1),(.int .i64 1),(.int .i64 1000000)],(.bool true),none⟩
theorem ZoI:Zat Tryd.prog aw40.f aw40.args aw40.r aw40.fr:=Zac (n:=100000) (l:=[]) follows Zae trivial (by kernel_rfl)
def aw41:Fact:=⟨32,[(.bool true),(.int .i64 2)],(.int .i64 0),none⟩
theorem Zbt:Zat Tryd.prog aw41.f aw41.args aw41.r aw41.fr:=Zac (n:=100000) (l:=[]) follows Zae trivial (by kernel_rfl)
def aw42:Fact:=⟨32,[(.bool true),(.int .i64 3)],(.int .i64 0),none⟩
theorem ZlF:Zat Tryd.prog aw42.f aw42.args aw42.r aw42.fr:=Zac (n:=100000) (l:=[]) follows Zae trivial (by kernel_rfl)
def aw43:Fact:=⟨34,[(.int .i64 0),(.eptr (.agg (.gen [(.list (.big .str [(.str [115,97,102,101]),(.str [99,114,117,105,115,101]),(.str [98,117,114,110])])),(.list (.big (.agg [.str,(.int .i64)]) [(.agg (.gen [(.str [119,97,107,101]),(.int .i64 1)])),(.agg (.gen [(.str [102,105,114,101]),(.int .i64 2)])),(.agg (.gen [(.str [115,116,111,112]),(.int .i64 1)])),(.agg (.gen [(.str [112,105,110,103]),(.int .i64 (-1))]))])),(.list (.big (.agg [.str,(.int .i64),(.int .i64),(.int .i64),(.int .i64)]) [(.agg (.gen [(.str [99,111,108,100]),(.int .i64 1),(.int .i64 0),(.int .i64 (-1)),(.int .i64 1)])),(.agg (.gen [(.str [104,101,97,116]),(.int .i64 1),(.int .i64 (-1)),(.int .i64 2),(.int .i64 50)]))]))])) 0),(.eptr (.int .i64 4) 0),(.eptr (.fn 25 []) 0),(.eptr (.int .i64 3) 0)],(.int .i64 0),none⟩
theorem Zqz:Zat Tryd.prog aw43.f aw43.args aw43.r aw43.fr:=Zac (n:=100000) (l:=[aw36,aw38,aw39,aw20,aw40,aw41,aw42,aw9]) follows Zae ⟨ZfB,⟨Zpd,⟨ZpZ,⟨Zci,⟨ZoI,⟨Zbt,⟨ZlF,⟨ZeM,trivial⟩⟩⟩⟩⟩⟩⟩⟩ (by kernel_rfl)
def aw44:Fact:=⟨33,[(.int .i64 1),(.eptr (.agg (.gen [(.list (.big .str [(.str [115,97,102,101]),(.str [99,114,117,105,115,101]),(.str [98,117,114,110])])),(.list (.big (.agg [.str,(.int .i64)]) [(.agg (.gen [(.str [119,97,107,101]),(.int .i64 1)])),(.agg (.gen [(.str [102,105,114,101]),(.int .i64 2)])),(.agg (.gen [(.str [115,116,111,112]),(.int .i64 1)])),(.agg (.gen [(.str [112,105,110,103]),(.int .i64 (-1))]))])),(.list (.big (.agg [.str,(.int .i64),(.int .i64),(.int .i64),(.int .i64)]) [(.agg (.gen [(.str [99,111,108,100]),(.int .i64 1),(.int .i64 0),(.int .i64 (-1)),(.int .i64 1)])),(.agg (.gen [(.str [104,101,97,116]),(.int .i64 1),(.int .i64 (-1)),(.int .i64 2),(.int .i64 50)]))]))])) 0)],(.str [104,101,97,116]),none⟩
theorem Zpi:Zat Tryd.prog aw44.f aw44.args aw44.r aw44.fr:=Zac (n:=100000) (l:=[]) follows Zae trivial (by kernel_rfl)
def aw45:Fact:=⟨56,[(.str [104,101,97,116])],(.bool true),none⟩
theorem Zqj:Zat Tryd.prog aw45.f aw45.args aw45.r aw45.fr:=Zac (n:=100000) (l:=[]) follows Zae trivial (by kernel_rfl)
def aw46:Fact:=⟨26,[(.int .i64 2),(.int .i64 0),(.int .i64 3)],(.bool true),none⟩
theorem Zmh:Zat Tryd.prog aw46.f aw46.args aw46.r aw46.fr:=Zac (n:=100000) (l:=[]) follows Zae trivial (by kernel_rfl)
def aw47:Fact:=⟨25,[(.int .i64 2),(.int .i64 4)],(.bool true),none⟩
theorem Zp1:Zat Tryd.prog aw47.f aw47.args aw47.r aw47.fr:=Zac (n:=100000) (l:=[aw46]) follows Zae ⟨Zmh,trivial⟩ (by kernel_rfl)
def aw48:Fact:=⟨26,[(.int .i64 50),(.int .i64 1),(.int .i64 1000000)],(.bool true),none⟩
theorem Zo0:Zat Tryd.prog aw48.f aw48.args aw48.r aw48.fr:=Zac (n:=100000) (l:=[]) follows Zae trivial (by kernel_rfl)
def aw49:Fact:=⟨34,[(.int .i64 1),(.eptr (.agg (.gen [(.list (.big .str [(.str [115,97,102,101]),(.str [99,114,117,105,115,101]),(.str [98,117,114,110])])),(.list (.big (.agg [.str,(.int .i64)]) [(.agg (.gen [(.str [119,97,107,101]),(.int .i64 1)])),(.agg (.gen [(.str [102,105,114,101]),(.int .i64 2)])),(.agg (.gen [(.str [115,116,111,112]),(.int .i64 1)])),(.agg (.gen [(.str [112,105,110,103]),(.int .i64 (-1))]))])),(.list (.big (.agg [.str,(.int .i64),(.int .i64),(.int .i64),(.int .i64)]) [(.agg (.gen [(.str [99,111,108,100]),(.int .i64 1),(.int .i64 0),(.int .i64 (-1)),(.int .i64 1)])),(.agg (.gen [(.str [104,101,97,116]),(.int .i64 1),(.int .i64 (-1)),(.int .i64 2),(.int .i64 50)]))]))])) 0),(.eptr (.int .i64 4) 0),(.eptr (.fn 25 []) 0),(.eptr (.int .i64 3) 0)],(.int .i64 0),none⟩
theorem Zqg:Zat Tryd.prog aw49.f aw49.args aw49.r aw49.fr:=Zac (n:=100000) (l:=[aw36,aw32,aw47,aw20,aw48,aw41,aw42,aw9]) follows Zae ⟨ZfB,⟨Zmo,⟨Zp1,⟨Zci,⟨Zo0,⟨Zbt,⟨ZlF,⟨ZeM,trivial⟩⟩⟩⟩⟩⟩⟩⟩ (by kernel_rfl)
def aw50:Fact:=⟨7,[(.agg (.gen [(.list (.big .str [(.str [115,97,102,101]),(.str [99,114,117,105,115,101]),(.str [98,117,114,110])])),(.list (.big (.agg [.str,(.int .i64)]) [(.agg (.gen [(.str [119,97,107,101]),(.int .i64 1)])),(.agg (.gen [(.str [102,105,114,101]),(.int .i64 2)])),(.agg (.gen [(.str [115,116,111,112]),(.int .i64 1)])),(.agg (.gen [(.str [112,105,110,103]),(.int .i64 (-1))]))])),(.list (.big (.agg [.str,(.int .i64),(.int .i64),(.int .i64),(.int .i64)]) [(.agg (.gen [(.str [99,111,108,100]),(.int .i64 1),(.int .i64 0),(.int .i64 (-1)),(.int .i64 1)])),(.agg (.gen [(.str [104,101,97,116]),(.int .i64 1),(.int .i64 (-1)),(.int .i64 2),(.int .i64 50)]))]))]))],(.tup [(.agg (.gen [(.int .i64 0),(.int .i64 0)])),(.int .i64 0)]),none⟩
theorem Zpj:Zat Tryd.prog aw50.f aw50.args aw50.r aw50.fr:=Zac (n:=100000) (l:=[aw1,aw2,aw3,aw4,aw5,aw6,aw7,aw8,aw9,aw10,aw11,aw12,aw13,aw14,aw15,aw16,aw17,aw21,aw22,aw23,aw26,aw27,aw28,aw29,aw30,aw31,aw33,aw34,aw35,aw43,aw44,aw45,aw49]) follows Zae ⟨ZlT,⟨Zju,⟨Zj4,⟨Zsf,⟨Zrr,⟨Zss,⟨ZrT,⟨Zru,⟨ZeM,⟨ZpJ,⟨Zpa,⟨Zpf,⟨ZoV,⟨ZoS,⟨Zp6,⟨Zqd,⟨Zon,⟨ZpV,⟨Zo3,⟨Zpo,⟨ZoN,⟨Zpp,⟨ZpB,⟨Zqp,⟨Zp4,⟨Zow,⟨ZoU,⟨Zo7,⟨ZoQ,⟨Zqz,⟨Zpi,⟨Zqj,⟨Zqg,trivial⟩⟩⟩⟩⟩⟩⟩⟩⟩⟩⟩⟩⟩⟩⟩⟩⟩⟩⟩⟩⟩⟩⟩⟩⟩⟩⟩⟩⟩⟩⟩⟩⟩ (by kernel_rfl)
def aw51:Fact:=⟨37,[(.agg (.gen [(.list (.big .str [(.str [115,97,102,101]),(.str [99,114,117,105,115,101]),(.str [98,117,114,110])])),(.list (.big (.agg [.str,(.int .i64)]) [(.agg (.gen [(.str [119,97,107,101]),(.int .i64 1)])),(.agg (.gen [(.str [102,105,114,101]),(.int .i64 2)])),(.agg (.gen [(.str [115,116,111,112]),(.int .i64 1)])),(.agg (.gen [(.str [112,105,110,103]),(.int .i64 (-1))]))])),(.list (.big (.agg [.str,(.int .i64),(.int .i64),(.int .i64),(.int .i64)]) [(.agg (.gen [(.str [99,111,108,100]),(.int .i64 1),(.int .i64 0),(.int .i64 (-1)),(.int .i64 1)])),(.agg (.gen [(.str [104,101,97,116]),(.int .i64 1),(.int .i64 (-1)),(.int .i64 2),(.int .i64 50)]))]))]))],(.int .i64 0),none⟩
theorem ZlV:Zat Tryd.prog aw51.f aw51.args aw51.r aw51.fr:=Zac (n:=100000) (l:=[aw50]) follows Zae ⟨Zpj,trivial⟩ (by kernel_rfl)
def aw52:Fact:=⟨26,[(.int .i64 0),(.int .i64 0),(.int .i64 3)],(.bool true),none⟩
theorem ZoY:Zat Tryd.prog aw52.f aw52.args aw52.r aw52.fr:=Zac (n:=100000) (l:=[]) follows Zae trivial (by kernel_rfl)
def aw53:Fact:=⟨32,[(.bool true),(.int .i64 15)],(.int .i64 0),none⟩
theorem Ze8:Zat Tryd.prog aw53.f aw53.args aw53.r aw53.fr:=Zac (n:=100000) (l:=[]) follows Zae trivial (by kernel_rfl)
def aw54:Fact:=⟨26,[(.int .i64 0),(.int .i64 0),(.int .i64 1000000000000)],(.bool true),none⟩
theorem ZpN:Zat Tryd.prog aw54.f aw54.args aw54.r aw54.fr:=Zac (n:=100000) (l:=[]) follows Zae trivial (by kernel_rfl)
def aw55:Fact:=⟨43,[(.int .i64 0)],(.bool true),none⟩
theorem Zl3:Zat Tryd.prog aw55.f aw55.args aw55.r aw55.fr:=Zac (n:=100000) (l:=[aw54]) follows Zae ⟨ZpN,trivial⟩ (by kernel_rfl)
def aw56:Fact:=⟨26,[(.int .i64 100),(.int .i64 0),(.int .i64 1000000000000)],(.bool true),none⟩
theorem Zor:Zat Tryd.prog aw56.f aw56.args aw56.r aw56.fr:=Zac (n:=100000) (l:=[]) follows Zae trivial (by kernel_rfl)
def aw57:Fact:=⟨43,[(.int .i64 100)],(.bool true),none⟩
theorem ZqA:Zat Tryd.prog aw57.f aw57.args aw57.r aw57.fr:=Zac (n:=100000) (l:=[aw56]) follows Zae ⟨Zor,trivial⟩ (by kernel_rfl)
def aw58:Fact:=⟨32,[(.bool true),(.int .i64 9)],(.int .i64 0),none⟩
theorem Zhn:Zat Tryd.prog aw58.f aw58.args aw58.r aw58.fr:=Zac (n:=100000) (l:=[]) follows Zae trivial (by kernel_rfl)
def aw59:Fact:=⟨38,[(.agg (.gen [(.list (.big .str [(.str [115,97,102,101]),(.str [99,114,117,105,115,101]),(.str [98,117,114,110])])),(.list (.big (.agg [.str,(.int .i64)]) [(.agg (.gen [(.str [119,97,107,101]),(.int .i64 1)])),(.agg (.gen [(.str [102,105,114,101]),(.int .i64 2)])),(.agg (.gen [(.str [115,116,111,112]),(.int .i64 1)])),(.agg (.gen [(.str [112,105,110,103]),(.int .i64 (-1))]))])),(.list (.big (.agg [.str,(.int .i64),(.int .i64),(.int .i64),(.int .i64)]) [(.agg (.gen [(.str [99,111,108,100]),(.int .i64 1),(.int .i64 0),(.int .i64 (-1)),(.int .i64 1)])),(.agg (.gen [(.str [104,101,97,116]),(.int .i64 1),(.int .i64 (-1)),(.int .i64 2),(.int .i64 50)]))]))])),(.agg (.gen [(.int .i64 0),(.int .i64 0),(.int .i64 100)]))],(.int .i64 0),none⟩
theorem Zok:Zat Tryd.prog aw59.f aw59.args aw59.r aw59.fr:=Zac (n:=100000) (l:=[aw52,aw53,aw55,aw57,aw41,aw58,aw9]) follows Zae ⟨ZoY,⟨Ze8,⟨Zl3,⟨ZqA,⟨Zbt,⟨Zhn,⟨ZeM,trivial⟩⟩⟩⟩⟩⟩⟩ (by kernel_rfl)
def aw60:Fact:=⟨26,[(.int .i64 20),(.int .i64 0),(.int .i64 1000000000000)],(.bool true),none⟩
theorem ZoP:Zat Tryd.prog aw60.f aw60.args aw60.r aw60.fr:=Zac (n:=100000) (l:=[]) follows Zae trivial (by kernel_rfl)
def aw61:Fact:=⟨43,[(.int .i64 20)],(.bool true),none⟩
theorem Zqf:Zat Tryd.prog aw61.f aw61.args aw61.r aw61.fr:=Zac (n:=100000) (l:=[aw60]) follows Zae ⟨ZoP,trivial⟩ (by kernel_rfl)
def aw62:Fact:=⟨26,[(.int .i64 200),(.int .i64 0),(.int .i64 1000000000000)],(.bool true),none⟩
theorem ZpC:Zat Tryd.prog aw62.f aw62.args aw62.r aw62.fr:=Zac (n:=100000) (l:=[]) follows Zae trivial (by kernel_rfl)
def aw63:Fact:=⟨43,[(.int .i64 200)],(.bool true),none⟩
theorem Zqr:Zat Tryd.prog aw63.f aw63.args aw63.r aw63.fr:=Zac (n:=100000) (l:=[aw62]) follows Zae ⟨ZpC,trivial⟩ (by kernel_rfl)
def aw64:Fact:=⟨38,[(.agg (.gen [(.list (.big .str [(.str [115,97,102,101]),(.str [99,114,117,105,115,101]),(.str [98,117,114,110])])),(.list (.big (.agg [.str,(.int .i64)]) [(.agg (.gen [(.str [119,97,107,101]),(.int .i64 1)])),(.agg (.gen [(.str [102,105,114,101]),(.int .i64 2)])),(.agg (.gen [(.str [115,116,111,112]),(.int .i64 1)])),(.agg (.gen [(.str [112,105,110,103]),(.int .i64 (-1))]))])),(.list (.big (.agg [.str,(.int .i64),(.int .i64),(.int .i64),(.int .i64)]) [(.agg (.gen [(.str [99,111,108,100]),(.int .i64 1),(.int .i64 0),(.int .i64 (-1)),(.int .i64 1)])),(.agg (.gen [(.str [104,101,97,116]),(.int .i64 1),(.int .i64 (-1)),(.int .i64 2),(.int .i64 50)]))]))])),(.agg (.gen [(.int .i64 1),(.int .i64 20),(.int .i64 200)]))],(.int .i64 0),none⟩
theorem Zo8:Zat Tryd.prog aw64.f aw64.args aw64.r aw64.fr:=Zac (n:=100000) (l:=[aw36,aw53,aw61,aw63,aw41,aw58,aw9]) follows Zae ⟨ZfB,⟨Ze8,⟨Zqf,⟨Zqr,⟨Zbt,⟨Zhn,⟨ZeM,trivial⟩⟩⟩⟩⟩⟩⟩ (by kernel_rfl)
def aw65:Fact:=⟨26,[(.int .i64 30),(.int .i64 0),(.int .i64 1000000000000)],(.bool true),none⟩
theorem Zo9:Zat Tryd.prog aw65.f aw65.args aw65.r aw65.fr:=Zac (n:=100000) (l:=[]) follows Zae trivial (by kernel_rfl)
def aw66:Fact:=⟨43,[(.int .i64 30)],(.bool true),none⟩
theorem Zqe:Zat Tryd.prog aw66.f aw66.args aw66.r aw66.fr:=Zac (n:=100000) (l:=[aw65]) follows Zae ⟨Zo9,trivial⟩ (by kernel_rfl)
def aw67:Fact:=⟨26,[(.int .i64 300),(.int .i64 0),(.int .i64 1000000000000)],(.bool true),none⟩
theorem Zot:Zat Tryd.prog aw67.f aw67.args aw67.r aw67.fr:=Zac (n:=100000) (l:=[]) follows Zae trivial (by kernel_rfl)
def aw68:Fact:=⟨43,[(.int .i64 300)],(.bool true),none⟩
theorem Zqa:Zat Tryd.prog aw68.f aw68.args aw68.r aw68.fr:=Zac (n:=100000) (l:=[aw67]) follows Zae ⟨Zot,trivial⟩ (by kernel_rfl)
def aw69:Fact:=⟨38,[(.agg (.gen [(.list (.big .str [(.str [115,97,102,101]),(.str [99,114,117,105,115,101]),(.str [98,117,114,110])])),(.list (.big (.agg [.str,(.int .i64)]) [(.agg (.gen [(.str [119,97,107,101]),(.int .i64 1)])),(.agg (.gen [(.str [102,105,114,101]),(.int .i64 2)])),(.agg (.gen [(.str [115,116,111,112]),(.int .i64 1)])),(.agg (.gen [(.str [112,105,110,103]),(.int .i64 (-1))]))])),(.list (.big (.agg [.str,(.int .i64),(.int .i64),(.int .i64),(.int .i64)]) [(.agg (.gen [(.str [99,111,108,100]),(.int .i64 1),(.int .i64 0),(.int .i64 (-1)),(.int .i64 1)])),(.agg (.gen [(.str [104,101,97,116]),(.int .i64 1),(.int .i64 (-1)),(.int .i64 2),(.int .i64 50)]))]))])),(.agg (.gen [(.int .i64 2),(.int .i64 30),(.int .i64 300)]))],(.int .i64 0),none⟩
theorem Zp5:Zat Tryd.prog aw69.f aw69.args aw69.r aw69.fr:=Zac (n:=100000) (l:=[aw46,aw53,aw66,aw68,aw41,aw58,aw9]) follows Zae ⟨Zmh,⟨Ze8,⟨Zqe,⟨Zqa,⟨Zbt,⟨Zhn,⟨ZeM,trivial⟩⟩⟩⟩⟩⟩⟩ (by kernel_rfl)
def aw70:Fact:=⟨26,[(.int .i64 40),(.int .i64 0),(.int .i64 1000000000000)],(.bool true),none⟩
theorem ZpX:Zat Tryd.prog aw70.f aw70.args aw70.r aw70.fr:=Zac (n:=100000) (l:=[]) follows Zae trivial (by kernel_rfl)
def aw71:Fact:=⟨43,[(.int .i64 40)],(.bool true),none⟩
theorem ZoC:Zat Tryd.prog aw71.f aw71.args aw71.r aw71.fr:=Zac (n:=100000) (l:=[aw70]) follows Zae ⟨ZpX,trivial⟩ (by kernel_rfl)
def aw72:Fact:=⟨26,[(.int .i64 400),(.int .i64 0),(.int .i64 1000000000000)],(.bool true),none⟩
theorem ZpW:Zat Tryd.prog aw72.f aw72.args aw72.r aw72.fr:=Zac (n:=100000) (l:=[]) follows Zae trivial (by kernel_rfl)
def aw73:Fact:=⟨43,[(.int .i64 400)],(.bool true),none⟩
theorem Zpc:Zat Tryd.prog aw73.f aw73.args aw73.r aw73.fr:=Zac (n:=100000) (l:=[aw72]) follows Zae ⟨ZpW,trivial⟩ (by kernel_rfl)
def aw74:Fact:=⟨38,[(.agg (.gen [(.list (.big .str [(.str [115,97,102,101]),(.str [99,114,117,105,115,101]),(.str [98,117,114,110])])),(.list (.big (.agg [.str,(.int .i64)]) [(.agg (.gen [(.str [119,97,107,101]),(.int .i64 1)])),(.agg (.gen [(.str [102,105,114,101]),(.int .i64 2)])),(.agg (.gen [(.str [115,116,111,112]),(.int .i64 1)])),(.agg (.gen [(.str [112,105,110,103]),(.int .i64 (-1))]))])),(.list (.big (.agg [.str,(.int .i64),(.int .i64),(.int .i64),(.int .i64)]) [(.agg (.gen [(.str [99,111,108,100]),(.int .i64 1),(.int .i64 0),(.int .i64 (-1)),(.int .i64 1)])),(.agg (.gen [(.str [104,101,97,116]),(.int .i64 1),(.int .i64 (-1)),(.int .i64 2),(.int .i64 50)]))]))])),(.agg (.gen [(.int .i64 1),(.int .i64 40),(.int .i64 400)]))],(.int .i64 0),none⟩
theorem Zoj:Zat Tryd.prog aw74.f aw74.args aw74.r aw74.fr:=Zac (n:=100000) (l:=[aw36,aw53,aw71,aw73,aw41,aw58,aw9]) follows Zae ⟨ZfB,⟨Ze8,⟨ZoC,⟨Zpc,⟨Zbt,⟨Zhn,⟨ZeM,trivial⟩⟩⟩⟩⟩⟩⟩ (by kernel_rfl)
def aw75:Fact:=⟨9,[(.agg (.gen [(.list (.big .str [(.str [115,97,102,101]),(.str [99,114,117,105,115,101]),(.str [98,117,114,110])])),(.list (.big (.agg [.str,(.int .i64)]) [(.agg (.gen [(.str [119,97,107,101]),(.int .i64 1)])),(.agg (.gen [(.str [102,105,114,101]),(.int .i64 2)])),(.agg (.gen [(.str [115,116,111,112]),(.int .i64 1)])),(.agg (.gen [(.str [112,105,110,103]),(.int .i64 (-1))]))])),(.list (.big (.agg [.str,(.int .i64),(.int .i64),(.int .i64),(.int .i64)]) [(.agg (.gen [(.str [99,111,108,100]),(.int .i64 1),(.int .i64 0),(.int .i64 (-1)),(.int .i64 1)])),(.agg (.gen [(.str [104,101,97,116]),(.int .i64 1),(.int .i64 (-1)),(.int .i64 2),(.int .i64 50)]))]))])),(.list (.big (.agg [(.int .i64),(.int .i64),(.int .i64)]) [(.agg (.gen [(.int .i64 0),(.int .i64 0),(.int .i64 100)])),(.agg (.gen [(.int .i64 1),(.int .i64 20),(.int .i64 200)])),(.agg (.gen [(.int .i64 2),(.int .i64 30),(.int .i64 300)])),(.agg (.gen [(.int .i64 1),(.int .i64 40),(.int .i64 400)]))]))],(.tup [(.int .i64 0),(.int .i64 0)]),none⟩
theorem Zmx:Zat Tryd.prog aw75.f aw75.args aw75.r aw75.fr:=Zac (n:=100000) (l:=[aw51,aw1,aw2,aw9,aw59,aw64,aw69,aw74]) follows Zae ⟨ZlV,⟨ZlT,⟨Zju,⟨ZeM,⟨Zok,⟨Zo8,⟨Zp5,⟨Zoj,trivial⟩⟩⟩⟩⟩⟩⟩⟩ (by kernel_rfl)
def aw76:Fact:=⟨81,[(.int .u64 1),(.int .u64 4)],(.tup [(.int .u64 0),(.int .u64 4)]),none⟩
theorem ZpO:Zat Tryd.prog aw76.f aw76.args aw76.r aw76.fr:=Zac (n:=100000) (l:=[]) follows Zae trivial (by kernel_rfl)
def aw77:Fact:=⟨72,[(.int .u64 1),(.int .u64 4)],(.tup [(.int .u64 0),(.int .u64 4)]),none⟩
theorem Zox:Zat Tryd.prog aw77.f aw77.args aw77.r aw77.fr:=Zac (n:=100000) (l:=[aw76]) follows Zae ⟨ZpO,trivial⟩ (by kernel_rfl)
def aw78:Fact:=⟨59,[(.list (.ints .i64 [(-1)])),(.int .i64 4)],(.row 0 0),(some ⟨3,1,(.ints .i64 [(-1),(-1),(-1),(-1)])⟩)⟩
theorem ZiN:Zat Tryd.prog aw78.f aw78.args aw78.r aw78.fr:=Zac (n:=100000) (l:=[aw77]) follows Zae ⟨Zox,trivial⟩ (by kernel_rfl)
def aw79:Fact:=⟨58,[(.eptr (.agg (.gen [(.list (.big .str [(.str [115,97,102,101]),(.str [99,114,117,105,115,101]),(.str [98,117,114,110])])),(.list (.big (.agg [.str,(.int .i64)]) [(.agg (.gen [(.str [119,97,107,101]),(.int .i64 1)])),(.agg (.gen [(.str [102,105,114,101]),(.int .i64 2)])),(.agg (.gen [(.str [115,116,111,112]),(.int .i64 1)])),(.agg (.gen [(.str [112,105,110,103]),(.int .i64 (-1))]))])),(.list (.big (.agg [.str,(.int .i64),(.int .i64),(.int .i64),(.int .i64)]) [(.agg (.gen [(.str [99,111,108,100]),(.int .i64 1),(.int .i64 0),(.int .i64 (-1)),(.int .i64 1)])),(.agg (.gen [(.str [104,101,97,116]),(.int .i64 1),(.int .i64 (-1)),(.int .i64 2),(.int .i64 50)]))])),(.int .i64 0),(.int .i64 0),(.list (.ints .i64 [(-1),(-1),(-1),(-1)]))])) 0),(.agg (.gen [(.str [104,101,97,116]),(.int .i64 1),(.int .i64 (-1)),(.int .i64 2),(.int .i64 50)])),(.int .i64 0)],(.bool false),none⟩
theorem Zqh:Zat Tryd.prog aw79.f aw79.args aw79.r aw79.fr:=Zac (n:=100000) (l:=[]) follows Zae trivial (by kernel_rfl)
def aw80:Fact:=⟨26,[(.int .i64 0),(.int .i64 0),(.int .i64 100)],(.bool true),none⟩
theorem ZiO:Zat Tryd.prog aw80.f aw80.args aw80.r aw80.fr:=Zac (n:=100000) (l:=[]) follows Zae trivial (by kernel_rfl)
def aw81:Fact:=⟨58,[(.eptr (.agg (.gen [(.list (.big .str [(.str [115,97,102,101]),(.str [99,114,117,105,115,101]),(.str [98,117,114,110])])),(.list (.big (.agg [.str,(.int .i64)]) [(.agg (.gen [(.str [119,97,107,101]),(.int .i64 1)])),(.agg (.gen [(.str [102,105,114,101]),(.int .i64 2)])),(.agg (.gen [(.str [115,116,111,112]),(.int .i64 1)])),(.agg (.gen [(.str [112,105,110,103]),(.int .i64 (-1))]))])),(.list (.big (.agg [.str,(.int .i64),(.int .i64),(.int .i64),(.int .i64)]) [(.agg (.gen [(.str [99,111,108,100]),(.int .i64 1),(.int .i64 0),(.int .i64 (-1)),(.int .i64 1)])),(.agg (.gen [(.str [104,101,97,116]),(.int .i64 1),(.int .i64 (-1)),(.int .i64 2),(.int .i64 50)]))])),(.int .i64 1),(.int .i64 20),(.list (.ints .i64 [0,(-1),(-1),(-1)]))])) 0),(.agg (.gen [(.str [104,101,97,116]),(.int .i64 1),(.int .i64 (-1)),(.int .i64 2),(.int .i64 50)])),(.int .i64 1)],(.bool true),none⟩
theorem ZpR:Zat Tryd.prog aw81.f aw81.args aw81.r aw81.fr:=Zac (n:=100000) (l:=[]) follows Zae trivial (by kernel_rfl)
def aw82:Fact:=⟨26,[(.int .i64 20),(.int .i64 20),(.int .i64 200)],(.bool true),none⟩
theorem Zoy:Zat Tryd.prog aw82.f aw82.args aw82.r aw82.fr:=Zac (n:=100000) (l:=[]) follows Zae trivial (by kernel_rfl)
def aw83:Fact:=⟨58,[(.eptr (.agg (.gen [(.list (.big .str [(.str [115,97,102,101]),(.str [99,114,117,105,115,101]),(.str [98,117,114,110])])),(.list (.big (.agg [.str,(.int .i64)]) [(.agg (.gen [(.str [119,97,107,101]),(.int .i64 1)])),(.agg (.gen [(.str [102,105,114,101]),(.int .i64 2)])),(.agg (.gen [(.str [115,116,111,112]),(.int .i64 1)])),(.agg (.gen [(.str [112,105,110,103]),(.int .i64 (-1))]))])),(.list (.big (.agg [.str,(.int .i64),(.int .i64),(.int .i64),(.int .i64)]) [(.agg (.gen [(.str [99,111,108,100]),(.int .i64 1),(.int .i64 0),(.int .i64 (-1)),(.int .i64 1)])),(.agg (.gen [(.str [104,101,97,116]),(.int .i64 1),(.int .i64 (-1)),(.int .i64 2),(.int .i64 50)]))])),(.int .i64 2),(.int .i64 30),(.list (.ints .i64 [0,20,(-1),(-1)]))])) 0),(.agg (.gen [(.str [104,101,97,116]),(.int .i64 1),(.int .i64 (-1)),(.int .i64 2),(.int .i64 50)])),(.int .i64 2)],(.bool false),none⟩
theorem Zqi:Zat Tryd.prog aw83.f aw83.args aw83.r aw83.fr:=Zac (n:=100000) (l:=[]) follows Zae trivial (by kernel_rfl)
def aw84:Fact:=⟨26,[(.int .i64 30),(.int .i64 30),(.int .i64 300)],(.bool true),none⟩
theorem Zpz:Zat Tryd.prog aw84.f aw84.args aw84.r aw84.fr:=Zac (n:=100000) (l:=[]) follows Zae trivial (by kernel_rfl)
def aw85:Fact:=⟨58,[(.eptr (.agg (.gen [(.list (.big .str [(.str [115,97,102,101]),(.str [99,114,117,105,115,101]),(.str [98,117,114,110])])),(.list (.big (.agg [.str,(.int .i64)]) [(.agg (.gen [(.str [119,97,107,101]),(.int .i64 1)])),(.agg (.gen [(.str [102,105,114,101]),(.int .i64 2)])),(.agg (.gen [(.str [115,116,111,112]),(.int .i64 1)])),(.agg (.gen [(.str [112,105,110,103]),(.int .i64 (-1))]))])),(.list (.big (.agg [.str,(.int .i64),(.int .i64),(.int .i64),(.int .i64)]) [(.agg (.gen [(.str [99,111,108,100]),(.int .i64 1),(.int .i64 0),(.int .i64 (-1)),(.int .i64 1)])),(.agg (.gen [(.str [104,101,97,116]),(.int .i64 1),(.int .i64 (-1)),(.int .i64 2),(.int .i64 50)]))])),(.int .i64 1),(.int .i64 40),(.list (.ints .i64 [0,20,30,(-1)]))])) 0),(.agg (.gen [(.str [104,101,97,116]),(.int .i64 1),(.int .i64 (-1)),(.int .i64 2),(.int .i64 50)])),(.int .i64 1)],(.bool true),none⟩
theorem ZoF:Zat Tryd.prog aw85.f aw85.args aw85.r aw85.fr:=Zac (n:=100000) (l:=[]) follows Zae trivial (by kernel_rfl)
def aw86:Fact:=⟨26,[(.int .i64 80),(.int .i64 40),(.int .i64 400)],(.bool true),none⟩
theorem ZoW:Zat Tryd.prog aw86.f aw86.args aw86.r aw86.fr:=Zac (n:=100000) (l:=[]) follows Zae trivial (by kernel_rfl)
def aw87:Fact:=⟨20,[(.agg (.gen [(.list (.big .str [(.str [115,97,102,101]),(.str [99,114,117,105,115,101]),(.str [98,117,114,110])])),(.list (.big (.agg [.str,(.int .i64)]) [(.agg (.gen [(.str [119,97,107,101]),(.int .i64 1)])),(.agg (.gen [(.str [102,105,114,101]),(.int .i64 2)])),(.agg (.gen [(.str [115,116,111,112]),(.int .i64 1)])),(.agg (.gen [(.str [112,105,110,103]),(.int .i64 (-1))]))])),(.list (.big (.agg [.str,(.int .i64),(.int .i64),(.int .i64),(.int .i64)]) [(.agg (.gen [(.str [99,111,108,100]),(.int .i64 1),(.int .i64 0),(.int .i64 (-1)),(.int .i64 1)])),(.agg (.gen [(.str [104,101,97,116]),(.int .i64 1),(.int .i64 (-1)),(.int .i64 2),(.int .i64 50)]))]))])),(.list (.big (.agg [(.int .i64),(.int .i64),(.int .i64)]) [(.agg (.gen [(.int .i64 0),(.int .i64 0),(.int .i64 100)])),(.agg (.gen [(.int .i64 1),(.int .i64 20),(.int .i64 200)])),(.agg (.gen [(.int .i64 2),(.int .i64 30),(.int .i64 300)])),(.agg (.gen [(.int .i64 1),(.int .i64 40),(.int .i64 400)]))]))],(.tup [(.row 0 0),(.int .i64 0)]),(some ⟨3,1,(.ints .i64 [0,20,30,80])⟩)⟩
theorem Zpm:Zat Tryd.prog aw87.f aw87.args aw87.r aw87.fr:=Zac (n:=100000) (l:=[aw75,aw78,aw79,aw80,aw81,aw82,aw83,aw84,aw85,aw86]) follows Zae ⟨Zmx,⟨ZiN,⟨Zqh,⟨ZiO,⟨ZpR,⟨Zoy,⟨Zqi,⟨Zpz,⟨ZoF,⟨ZoW,trivial⟩⟩⟩⟩⟩⟩⟩⟩⟩⟩ (by kernel_rfl)
def aw88:Fact:=⟨42,[(.int .i64 (-1)),(.eptr (.agg (.gen [(.int .i64 0),(.int .i64 0),(.list (.ints .i64 [(-1),(-1),(-1),(-1)]))])) 0)],(.bool false),none⟩
theorem Zpl:Zat Tryd.prog aw88.f aw88.args aw88.r aw88.fr:=Zac (n:=100000) (l:=[]) follows Zae trivial (by kernel_rfl)
def aw89:Fact:=⟨57,[(.list (.ints .i64 [(-1),(-1),(-1),(-1)])),(.fn 42 [(.eptr (.agg (.gen [(.int .i64 0),(.int .i64 0),(.list (.ints .i64 [(-1),(-1),(-1),(-1)]))])) 0)])],(.int .i64 (-1)),none⟩
theorem Zp2:Zat Tryd.prog aw89.f aw89.args aw89.r aw89.fr:=Zac (n:=100000) (l:=[aw88]) follows Zae ⟨Zpl,trivial⟩ (by kernel_rfl)
def aw90:Fact:=⟨44,[(.list (.ints .i64 [(-1),(-1),(-1),(-1)])),(.fn 42 [(.eptr (.agg (.gen [(.int .i64 0),(.int .i64 0),(.list (.ints .i64 [(-1),(-1),(-1),(-1)]))])) 0)])],(.bool false),none⟩
theorem ZoJ:Zat Tryd.prog aw90.f aw90.args aw90.r aw90.fr:=Zac (n:=100000) (l:=[aw89]) follows Zae ⟨Zp2,trivial⟩ (by kernel_rfl)
def aw91:Fact:=⟨35,[(.list (.ints .i64 [0,0,0,0,0,0]))],(.int .i64 0),none⟩
theorem Zpv:Zat Tryd.prog aw91.f aw91.args aw91.r aw91.fr:=Zac (n:=100000) (l:=[]) follows Zae trivial (by kernel_rfl)
def aw92:Fact:=⟨13,[(.agg (.gen [(.list (.big .str [(.str [115,97,102,101]),(.str [99,114,117,105,115,101]),(.str [98,117,114,110])])),(.list (.big (.agg [.str,(.int .i64)]) [(.agg (.gen [(.str [119,97,107,101]),(.int .i64 1)])),(.agg (.gen [(.str [102,105,114,101]),(.int .i64 2)])),(.agg (.gen [(.str [115,116,111,112]),(.int .i64 1)])),(.agg (.gen [(.str [112,105,110,103]),(.int .i64 (-1))]))])),(.list (.big (.agg [.str,(.int .i64),(.int .i64),(.int .i64),(.int .i64)]) [(.agg (.gen [(.str [99,111,108,100]),(.int .i64 1),(.int .i64 0),(.int .i64 (-1)),(.int .i64 1)])),(.agg (.gen [(.str [104,101,97,116]),(.int .i64 1),(.int .i64 (-1)),(.int .i64 2),(.int .i64 50)]))]))])),(.agg (.gen [(.int .i64 0),(.int .i64 0),(.list (.ints .i64 [(-1),(-1),(-1),(-1)]))])),(.int .i64 1)],(.tup [(.str [99,111,108,100]),(.int .i64 0)]),none⟩
theorem Zo6:Zat Tryd.prog aw92.f aw92.args aw92.r aw92.fr:=Zac (n:=100000) (l:=[aw51,aw37,aw20,aw55,aw41,aw1,aw90,aw36,aw53,aw91]) follows Zae ⟨ZlV,⟨ZmC,⟨Zci,⟨Zl3,⟨Zbt,⟨ZlT,⟨ZoJ,⟨ZfB,⟨Ze8,⟨Zpv,trivial⟩⟩⟩⟩⟩⟩⟩⟩⟩⟩ (by kernel_rfl)
def aw93:Fact:=⟨26,[(.int .i64 2),(.int .i64 1),(.int .i64 6)],(.bool true),none⟩
theorem Zqq:Zat Tryd.prog aw93.f aw93.args aw93.r aw93.fr:=Zac (n:=100000) (l:=[]) follows Zae trivial (by kernel_rfl)
def aw94:Fact:=⟨50,[(.agg (.gen [(.list (.big .str [(.str [115,97,102,101]),(.str [99,114,117,105,115,101]),(.str [98,117,114,110])])),(.list (.big (.agg [.str,(.int .i64)]) [(.agg (.gen [(.str [119,97,107,101]),(.int .i64 1)])),(.agg (.gen [(.str [102,105,114,101]),(.int .i64 2)])),(.agg (.gen [(.str [115,116,111,112]),(.int .i64 1)])),(.agg (.gen [(.str [112,105,110,103]),(.int .i64 (-1))]))])),(.list (.big (.agg [.str,(.int .i64),(.int .i64),(.int .i64),(.int .i64)]) [(.agg (.gen [(.str [99,111,108,100]),(.int .i64 1),(.int .i64 0),(.int .i64 (-1)),(.int .i64 1)])),(.agg (.gen [(.str [104,101,97,116]),(.int .i64 1),(.int .i64 (-1)),(.int .i64 2),(.int .i64 50)]))])),(.list (.big (.agg [(.int .i64),(.int .i64),(.int .i64)]) [(.agg (.gen [(.int .i64 0),(.int .i64 0),(.int .i64 100)])),(.agg (.gen [(.int .i64 1),(.int .i64 20),(.int .i64 200)])),(.agg (.gen [(.int .i64 2),(.int .i64 30),(.int .i64 300)])),(.agg (.gen [(.int .i64 1),(.int .i64 40),(.int .i64 400)]))])),(.int .i64 2),(.int .i64 2)]))],(.int .i64 0),none⟩
theorem ZmL:Zat Tryd.prog aw94.f aw94.args aw94.r aw94.fr:=Zac (n:=100000) (l:=[aw75,aw93,aw41,aw3]) follows Zae ⟨Zmx,⟨Zqq,⟨Zbt,⟨Zj4,trivial⟩⟩⟩⟩ (by kernel_rfl)
def aw95:Fact:=⟨54,[],(.agg (.gen [(.str [112,97,115,115]),(.int .i64 1),(.int .i64 1000000000000),(.fn 61 []),(.str [115,101,110,100]),(.int .i64 0),(.int .i64 11),(.fn 62 []),(.str [97,114,114,105,118,101]),(.int .i64 0),(.int .i64 5),(.fn 63 []),(.str [104,101,97,114]),(.int .i64 0),(.int .i64 5),(.fn 64 []),(.str [108,111,115,101]),(.int .i64 0),(.int .i64 5),(.fn 65 []),(.str [100,114,111,112]),(.int .i64 0),(.int .i64 5),(.fn 66 []),(.str [114,101,112,101,97,116]),(.int .i64 0),(.int .i64 5),(.fn 67 []),(.str [114,101,115,116,97,114,116]),(.int .i64 0),(.int .i64 0),(.fn 68 []),(.str [114,101,98,111,111,116]),(.int .i64 0),(.int .i64 0),(.fn 69 [])])),none⟩
theorem Zds:Zat Tryd.prog aw95.f aw95.args aw95.r aw95.fr:=Zac (n:=100000) (l:=[]) follows Zae trivial (by kernel_rfl)
def aw96:Fact:=⟨26,[(.int .i64 1),(.int .i64 0),(.int .i64 8)],(.bool true),none⟩
theorem ZqB:Zat Tryd.prog aw96.f aw96.args aw96.r aw96.fr:=Zac (n:=100000) (l:=[]) follows Zae trivial (by kernel_rfl)
def aw97:Fact:=⟨26,[(.int .i64 0),(.int .i64 0),(.int .i64 11)],(.bool true),none⟩
theorem ZoT:Zat Tryd.prog aw97.f aw97.args aw97.r aw97.fr:=Zac (n:=100000) (l:=[]) follows Zae trivial (by kernel_rfl)
def aw98:Fact:=⟨52,[(.agg (.gen [(.int .i64 1),(.int .i64 0)]))],(.int .i64 0),none⟩
theorem Zl4:Zat Tryd.prog aw98.f aw98.args aw98.r aw98.fr:=Zac (n:=100000) (l:=[aw95,aw96,aw97,aw41]) follows Zae ⟨Zds,⟨ZqB,⟨ZoT,⟨Zbt,trivial⟩⟩⟩⟩ (by kernel_rfl)
def aw99:Fact:=⟨32,[(.bool true),(.int .i64 21)],(.int .i64 0),none⟩
theorem ZmH:Zat Tryd.prog aw99.f aw99.args aw99.r aw99.fr:=Zac (n:=100000) (l:=[]) follows Zae trivial (by kernel_rfl)
def aw100:Fact:=⟨26,[(.int .i64 0),(.int .i64 0),(.int .i64 1)],(.bool true),none⟩
theorem Zjr:Zat Tryd.prog aw100.f aw100.args aw100.r aw100.fr:=Zac (n:=100000) (l:=[]) follows Zae trivial (by kernel_rfl)
def aw101:Fact:=⟨32,[(.bool true),(.int .i64 26)],(.int .i64 0),none⟩
theorem ZjE:Zat Tryd.prog aw101.f aw101.args aw101.r aw101.fr:=Zac (n:=100000) (l:=[]) follows Zae trivial (by kernel_rfl)
def aw102:Fact:=⟨32,[(.bool true),(.int .i64 16)],(.int .i64 0),none⟩
theorem ZjC:Zat Tryd.prog aw102.f aw102.args aw102.r aw102.fr:=Zac (n:=100000) (l:=[]) follows Zae trivial (by kernel_rfl)
def aw103:Fact:=⟨35,[(.list (.ints .i64 [0,0,0,0]))],(.int .i64 0),none⟩
theorem Zjv:Zat Tryd.prog aw103.f aw103.args aw103.r aw103.fr:=Zac (n:=100000) (l:=[]) follows Zae trivial (by kernel_rfl)
def aw104:Fact:=⟨26,[(.int .i64 2),(.int .i64 0),(.int .i64 8)],(.bool true),none⟩
theorem ZnA:Zat Tryd.prog aw104.f aw104.args aw104.r aw104.fr:=Zac (n:=100000) (l:=[]) follows Zae trivial (by kernel_rfl)
def aw105:Fact:=⟨26,[(.int .i64 0),(.int .i64 0),(.int .i64 5)],(.bool true),none⟩
theorem Zhm:Zat Tryd.prog aw105.f aw105.args aw105.r aw105.fr:=Zac (n:=100000) (l:=[]) follows Zae trivial (by kernel_rfl)
def aw106:Fact:=⟨52,[(.agg (.gen [(.int .i64 2),(.int .i64 0)]))],(.int .i64 0),none⟩
theorem ZjU:Zat Tryd.prog aw106.f aw106.args aw106.r aw106.fr:=Zac (n:=100000) (l:=[aw95,aw104,aw105,aw41]) follows Zae ⟨Zds,⟨ZnA,⟨Zhm,⟨Zbt,trivial⟩⟩⟩⟩ (by kernel_rfl)
def aw107:Fact:=⟨26,[(.int .i64 5),(.int .i64 0),(.int .i64 8)],(.bool true),none⟩
theorem ZnM:Zat Tryd.prog aw107.f aw107.args aw107.r aw107.fr:=Zac (n:=100000) (l:=[]) follows Zae trivial (by kernel_rfl)
def aw108:Fact:=⟨52,[(.agg (.gen [(.int .i64 5),(.int .i64 0)]))],(.int .i64 0),none⟩
theorem Zjt:Zat Tryd.prog aw108.f aw108.args aw108.r aw108.fr:=Zac (n:=100000) (l:=[aw95,aw107,aw105,aw41]) follows Zae ⟨Zds,⟨ZnM,⟨Zhm,⟨Zbt,trivial⟩⟩⟩⟩ (by kernel_rfl)
def aw109:Fact:=⟨26,[(.int .i64 3),(.int .i64 0),(.int .i64 8)],(.bool true),none⟩
theorem Zno:Zat Tryd.prog aw109.f aw109.args aw109.r aw109.fr:=Zac (n:=100000) (l:=[]) follows Zae trivial (by kernel_rfl)
def aw110:Fact:=⟨52,[(.agg (.gen [(.int .i64 3),(.int .i64 0)]))],(.int .i64 0),none⟩
theorem ZjO:Zat Tryd.prog aw110.f aw110.args aw110.r aw110.fr:=Zac (n:=100000) (l:=[aw95,aw109,aw105,aw41]) follows Zae ⟨Zds,⟨Zno,⟨Zhm,⟨Zbt,trivial⟩⟩⟩⟩ (by kernel_rfl)
def aw111:Fact:=⟨21,[(.agg (.gen [(.list (.big .str [(.str [115,97,102,101]),(.str [99,114,117,105,115,101]),(.str [98,117,114,110])])),(.list (.big (.agg [.str,(.int .i64)]) [(.agg (.gen [(.str [119,97,107,101]),(.int .i64 1)])),(.agg (.gen [(.str [102,105,114,101]),(.int .i64 2)])),(.agg (.gen [(.str [115,116,111,112]),(.int .i64 1)])),(.agg (.gen [(.str [112,105,110,103]),(.int .i64 (-1))]))])),(.list (.big (.agg [.str,(.int .i64),(.int .i64),(.int .i64),(.int .i64)]) [(.agg (.gen [(.str [99,111,108,100]),(.int .i64 1),(.int .i64 0),(.int .i64 (-1)),(.int .i64 1)])),(.agg (.gen [(.str [104,101,97,116]),(.int .i64 1),(.int .i64 (-1)),(.int .i64 2),(.int .i64 50)]))])),(.list (.big (.agg [(.int .i64),(.int .i64),(.int .i64)]) [(.agg (.gen [(.int .i64 0),(.int .i64 0),(.int .i64 100)])),(.agg (.gen [(.int .i64 1),(.int .i64 20),(.int .i64 200)])),(.agg (.gen [(.int .i64 2),(.int .i64 30),(.int .i64 300)])),(.agg (.gen [(.int .i64 1),(.int .i64 40),(.int .i64 400)]))])),(.int .i64 2),(.int .i64 2)])),(.list (.big (.agg [(.int .i64),(.int .i64)]) [(.agg (.gen [(.int .i64 1),(.int .i64 0)])),(.agg (.gen [(.int .i64 2),(.int .i64 0)])),(.agg (.gen [(.int .i64 5),(.int .i64 0)])),(.agg (.gen [(.int .i64 1),(.int .i64 0)])),(.agg (.gen [(.int .i64 2),(.int .i64 0)])),(.agg (.gen [(.int .i64 3),(.int .i64 0)]))]))],(.tup [(.agg (.gen [(.int .i64 0),(.int .i64 1),(.list (.big (.agg [(.int .i64),(.int .i64)]) [(.agg (.gen [(.int .i64 0),(.int .i64 0)]))])),(.bool false),(.int .i64 1),(.bool false),(.list (.ints .i64 [])),(.list (.big (.agg [(.int .i64), .bool]) []))])),(.int .i64 0),(.int .i64 0)]),none⟩
theorem Znz:Zat Tryd.prog aw111.f aw111.args aw111.r aw111.fr:=Zjs (n:=100000) (d:=3) (l:=[aw94,aw2,aw3,aw78,aw98,aw95,aw20,aw99,aw100,aw101,aw102,aw103,aw106,aw80,aw108,aw110]) follows Zae ⟨ZmL,⟨Zju,⟨Zj4,⟨ZiN,⟨Zl4,⟨Zds,⟨Zci,⟨ZmH,⟨Zjr,⟨ZjE,⟨ZjC,⟨Zjv,⟨ZjU,⟨ZiO,⟨Zjt,⟨ZjO,trivial⟩⟩⟩⟩⟩⟩⟩⟩⟩⟩⟩⟩⟩⟩⟩⟩ (by kernel_rfl)
def aw112:Fact:=⟨22,[(.list (.ints .i64 [0,20,30,80])),(.list (.ints .i64 [0,20,30,80]))],(.bool true),none⟩
theorem ZnU:Zat Tryd.prog aw112.f aw112.args aw112.r aw112.fr:=Zac (n:=100000) (l:=[]) follows Zae trivial (by kernel_rfl)
def aw113:Fact:=⟨23,[(.list (.big (.agg [(.int .i64),(.int .i64)]) [(.agg (.gen [(.int .i64 0),(.int .i64 0)]))])),(.list (.big (.agg [(.int .i64),(.int .i64)]) [(.agg (.gen [(.int .i64 0),(.int .i64 0)]))]))],(.bool true),none⟩
theorem Zne:Zat Tryd.prog aw113.f aw113.args aw113.r aw113.fr:=Zac (n:=100000) (l:=[]) follows Zae trivial (by kernel_rfl)
def aw114:Fact:=⟨26,[(.int .i64 0),(.int .i64 0),(.int .i64 8)],(.bool true),none⟩
theorem Znk:Zat Tryd.prog aw114.f aw114.args aw114.r aw114.fr:=Zac (n:=100000) (l:=[]) follows Zae trivial (by kernel_rfl)
def aw115:Fact:=⟨87,[(.int .i64 20)],(.str [50,48]),none⟩
theorem Znm:Zat Tryd.prog aw115.f aw115.args aw115.r aw115.fr:=Zac (n:=100000) (l:=[]) follows Zae trivial (by kernel_rfl)
def aw116:Fact:=⟨84,[(.int .i64 20),(.int .i64 10)],(.str [50,48]),none⟩
theorem ZmU:Zat Tryd.prog aw116.f aw116.args aw116.r aw116.fr:=Zac (n:=100000) (l:=[aw115]) follows Zae ⟨Znm,trivial⟩ (by kernel_rfl)
def aw117:Fact:=⟨76,[(.int .i64 20)],(.str [50,48]),none⟩
theorem Zns:Zat Tryd.prog aw117.f aw117.args aw117.r aw117.fr:=Zac (n:=100000) (l:=[aw116]) follows Zae ⟨ZmU,trivial⟩ (by kernel_rfl)
def aw118:Fact:=⟨70,[(.int .i64 20)],(.str [50,48]),none⟩
theorem Znp:Zat Tryd.prog aw118.f aw118.args aw118.r aw118.fr:=Zac (n:=100000) (l:=[aw117]) follows Zae ⟨Zns,trivial⟩ (by kernel_rfl)
def aw119:Fact:=⟨71,[(.list (.big .str [(.str [50,48])])),(.str [32])],(.str [50,48]),none⟩
theorem ZmX:Zat Tryd.prog aw119.f aw119.args aw119.r aw119.fr:=Zac (n:=100000) (l:=[]) follows Zae trivial (by kernel_rfl)
def aw120:Fact:=⟨55,[(.list (.ints .i64 [20]))],(.str [50,48]),none⟩
theorem ZnN:Zat Tryd.prog aw120.f aw120.args aw120.r aw120.fr:=Zac (n:=100000) (l:=[aw118,aw119]) follows Zae ⟨Znp,⟨ZmX,trivial⟩⟩ (by kernel_rfl)
def aw121:Fact:=⟨24,[(.agg (.gen [(.int .i64 0),(.int .i64 20)]))],(.str [112,97,115,115,32,50,48]),none⟩
theorem Zng:Zat Tryd.prog aw121.f aw121.args aw121.r aw121.fr:=Zac (n:=100000) (l:=[aw95,aw114,aw120]) follows Zae ⟨Zds,⟨Znk,⟨ZnN,trivial⟩⟩⟩ (by kernel_rfl)
def aw122:Fact:=⟨5,[],(.bool true),none⟩
theorem Znx:Zat Tryd.prog aw122.f aw122.args aw122.r aw122.fr:=Zjs (n:=100000) (d:=3) (l:=[aw0,aw87,aw92,aw111,aw94,aw2,aw3,aw78,aw98,aw95,aw20,aw99,aw100,aw101,aw102,aw103,aw106,aw80,aw108,aw110,aw112,aw113,aw121]) follows Zae ⟨ZsI,⟨Zpm,⟨Zo6,⟨Znz,⟨ZmL,⟨Zju,⟨Zj4,⟨ZiN,⟨Zl4,⟨Zds,⟨Zci,⟨ZmH,⟨Zjr,⟨ZjE,⟨ZjC,⟨Zjv,⟨ZjU,⟨ZiO,⟨Zjt,⟨ZjO,⟨ZnU,⟨Zne,⟨Zng,trivial⟩⟩⟩⟩⟩⟩⟩⟩⟩⟩⟩⟩⟩⟩⟩⟩⟩⟩⟩⟩⟩⟩⟩ (by kernel_rfl)
end Go.Proofs.YtkeoeooghhjibaaDoor
