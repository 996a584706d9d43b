/- Contracts as a list. No condition. -/
import Derived.Test.YtkeoeooghhjibaaGreatDoorPs
import Derived.KernelRfl
namespace Go.Proofs.YtkeoeooghhjibaaGreatDoor
theorem Zoc{ms ks rs:List AV}(h:ZpO ms ks rs=true):Zay ms ks rs=true∧ms.length≤8∧ks.length≤10∧rs.length≤12:=by
 simp only[ZpO,Bool.and_eq_true,decide_eq_true_eq,List.all_eq_true,ZzH,ZnL]at h
 obtain⟨h1,h2,h3,h4⟩:=h
 simp only[Zay,Bool.and_eq_true,decide_eq_true_eq,List.all_eq_true]
 refine⟨⟨⟨⟨fun x hx=>?_,fun x hx=>?_⟩,fun x hx=>?_⟩,by omega⟩,h1⟩
 ·have:=h2 x hx;omega
 ·have:=h3 x hx;omega
 ·have:=h4 x hx;omega
def ZlD(ms ks rs l:List AV):Int:=ZbL (Zaz ms ks rs) ks.length l
theorem ZlA{ms ks rs:List AV}(h:Zay ms ks rs=true):ms.length≤1000000∧ks.length≤1000000∧rs.length≤1000000:=by
 simp only[Zay,Bool.and_eq_true,decide_eq_true_eq]at h
 exact h.2
def upE(ms ks rs l:List AV)(wn fl:Int):Int:=if ZlD ms ks rs l=0 then(if Zab wn 1 6=true∧Zab fl 1 6=true then 0 else 2)else ZlD ms ks rs l
def ZhA(ms ks rs l:List AV):Bool:=ZpO ms ks rs&&decide (l.length≤14)
def evE(ek en:Int):Int:=if Zab ek 0 8=true then(if ek=0 then Zaa (Zab en 1 1000000000000) 2 else if ek=1 then Zaa (Zab en 0 11) 2 else if Zab ek 2 6=true then Zaa (Zab en 0 5) 2 else Zaa (decide (en=0)) 3)else 15
def eq2(x y:AV):Bool:=decide ((x.cellAt 0).toI=(y.cellAt 0).toI∧(x.cellAt 1).toI=(y.cellAt 1).toI)
def Zfa(e:AV→AV→Bool):List AV→List AV→Bool
 |[],[]=>true
 |x::xs,y::ys=>e x y&&Zfa e xs ys
 |_,_=>false
theorem Zjn{e:AV→AV→Bool} :∀ {xs ys:List AV},Zfa e xs ys=true→xs.length=ys.length
 |[],[],_=>rfl
 |x::xs,y::ys,h=>by
  simp only[Zfa,Bool.and_eq_true]at h
  simp[Zjn h.2]
 |[],y::ys,h=>by cases h
 |x::xs,[],h=>by cases h
theorem ZhG{e:AV→AV→Bool}(he:∀x,e x x=true):∀xs:List AV,Zfa e xs xs=true
 |[]=>rfl
 |x::xs=>by simp only[Zfa,he,ZhG he xs,Bool.and_self]
theorem Zq8(x:AV):eq2 x x=true:=by simp[eq2]
theorem Ztu{xs:List AV}{k:Nat}(h:k<xs.length):xs.drop k=xs.getD k .top::xs.drop (k+1):=by
 rw[List.drop_eq_getElem_cons h,List.getD_eq_getElem?_getD,List.getElem?_eq_getElem h];rfl
theorem ZCU{xs:List Int}{k:Nat}(h:k<xs.length):xs.drop k=xs.getD k 0::xs.drop (k+1):=by
 rw[List.drop_eq_getElem_cons h,List.getD_eq_getElem?_getD,List.getElem?_eq_getElem h];rfl
theorem Zqw(ms ks rs l:List AV)(h:Zay ms ks rs=true∧l.length≤1000000):Zap Tryz.prog 28 [.agg (.gen [.list (.big .str ms), .list (.big (.agg [.str, .int .i64]) ks), .list (.big (.agg [.str, .int .i64, .int .i64, .int .i64, .int .i64]) rs)]), .list (.big (.agg [.int .i64, .int .i64, .int .i64]) l)] (.int .i64 (ZlD ms ks rs l)) none:=
 start (ZtA ms ks rs l) fun C hC=>tgo hC Zfm ZD7 (by
  have:=ZlA h.1
  by_cases he:Zaz ms ks rs=0<;>simp[ZyW,h.1,h.2,he,ZlD,ZlY,this])
theorem ZqL(ms ks rs l:List AV)(wn fl:Int)(h:Zay ms ks rs=true∧l.length≤1000000):Zap Tryz.prog 19 [.agg (.gen [.list (.big .str ms), .list (.big (.agg [.str, .int .i64]) ks), .list (.big (.agg [.str, .int .i64, .int .i64, .int .i64, .int .i64]) rs), .list (.big (.agg [.int .i64, .int .i64, .int .i64]) l), .int .i64 wn, .int .i64 fl])] (.int .i64 (upE ms ks rs l wn fl)) none:=
 start (Zt4 ms ks rs l wn fl) fun C hC=>tgo hC Zfm ZDH (by
  have:=ZlA h.1
  by_cases he:Zaz ms ks rs=0
  ·by_cases hf:ZbL 0 ks.length l=0<;>by_cases h1:Zab wn 1 6=true<;>by_cases h2:Zab fl 1 6=true<;>simp[Zuq,h.1,h.2,he,upE,ZlD,this,hf,h1,h2]
  ·simp[Zuq,h.1,he,upE,ZlD,ZlY])
theorem bxA(a b:Int):([AV.int .i64 a,AV.int .i64 b].all fun x=>AV.bx x&&Nat.beq (Zad std x) 1)=true:=rfl
theorem Zq0(ms ks rs l:List AV)(wn fl:Int)(h:Zay ms ks rs=true∧l.length≤1000000):Zap Tryz.prog 36 [.agg (.gen [.list (.big .str ms), .list (.big (.agg [.str, .int .i64]) ks), .list (.big (.agg [.str, .int .i64, .int .i64, .int .i64, .int .i64]) rs), .list (.big (.agg [.int .i64, .int .i64, .int .i64]) l), .int .i64 wn, .int .i64 fl])] (.int .i64 (upE ms ks rs l wn fl)) none:=
 start (Ztg ms ks rs l wn fl) fun C hC=>tgo hC Zfm ZD6 (by
  unfold ZAA
  simp only[bxA]
  by_cases hf:ZlD ms ks rs l=0<;>by_cases h1:Zab wn 1 6=true<;>by_cases h2:Zab fl 1 6=true<;>(have hf':=hf;unfold ZlD at hf';simp[h.1,h.2,upE,hf,hf',h1,h2,Zaf,Zaa,ZlD]))
theorem ZqO(ms ks rs l:List AV)(wn fl:Int)(h:Zay ms ks rs=true∧l.length≤1000000):Zap Tryz.prog 33 [.agg (.gen [.list (.big .str ms), .list (.big (.agg [.str, .int .i64]) ks), .list (.big (.agg [.str, .int .i64, .int .i64, .int .i64, .int .i64]) rs), .list (.big (.agg [.int .i64, .int .i64, .int .i64]) l), .int .i64 wn, .int .i64 fl])] (.tup [.agg (.gen [.int .i64 0, .int .i64 0, .list (.big (.agg [.int .i64, .int .i64]) []), .bool false, .int .i64 0, .bool false, .list (.ints .i64 []), .list (.big (.agg [.int .i64, .bool]) [])]), .int .i64 (upE ms ks rs l wn fl)]) none:=
 ZsO (Zub ms ks rs l wn fl) fun C hC=>Zje hC Zfm ZCt (by
  unfold Zyb
  simp only[bxA]
  have hw:∀e:Int,e=upE ms ks rs l wn fl→Wk (.tup [.agg (.gen [.int .i64 0, .int .i64 0, .nils, .bool false, .int .i64 0, .bool false, .nils, .nils]), .int .i64 e]) (.tup [.agg (.gen [.int .i64 0, .int .i64 0, .list (.big (.agg [.int .i64, .int .i64]) []), .bool false, .int .i64 0, .bool false, .list (.ints .i64 []), .list (.big (.agg [.int .i64, .bool]) [])]), .int .i64 (upE ms ks rs l wn fl)]):=fun e he=>by
   subst he
   exact .tup' ⟨.agg' ⟨.same _, .same _, .nil _ rfl, .same _, .same _, .same _, .nil _ rfl, .nil _ rfl,trivial⟩, .same _,trivial⟩
  by_cases hf:ZlD ms ks rs l=0<;>by_cases h1:Zab wn 1 6=true<;>by_cases h2:Zab fl 1 6=true<;>(have hf':=hf;unfold ZlD at hf';simp[h.1,h.2,hf',h1,h2];apply hw;simp[upE,hf,hf',h1,h2,Zaf,Zaa,ZlD]))
theorem ZtM(ek en:Int):Zap Tryz.prog 37 [.agg (.gen [.int .i64 ek, .int .i64 en])] (.int .i64 (evE ek en)) none:=
 start (Zvh ek en) fun C hC=>tgo hC Zfm ZC5 (by
  by_cases h1:Zab ek 0 8=true
  ·have h2:=within_iff.1 h1
   obtain⟨n,rfl⟩:∃n:Nat,ek=n:=⟨ek.toNat,by omega⟩
   have h3:n≤8:=by omega
   match n,h3 with
   |0,_=>simp[ZgF,evE,Zab]
   |1,_=>simp[ZgF,evE,Zab]
   |2,_=>simp[ZgF,h1,evE,Zab]
   |3,_=>simp[ZgF,h1,evE,Zab]
   |4,_=>simp[ZgF,h1,evE,Zab]
   |5,_=>simp[ZgF,h1,evE,Zab]
   |6,_=>simp[ZgF,h1,evE,Zab]
   |7,_=>simp[ZgF,h1,evE,Zab]
   |8,_=>simp[ZgF,h1,evE,Zab]
  ·simp[ZgF,h1,evE])
theorem ZnI(ms ks rs l:List AV)(wn fl:Int):Zap Tryz.prog 14 [.agg (.gen [.list (.big .str ms), .list (.big (.agg [.str, .int .i64]) ks), .list (.big (.agg [.str, .int .i64, .int .i64, .int .i64, .int .i64]) rs), .list (.big (.agg [.int .i64, .int .i64, .int .i64]) l), .int .i64 wn, .int .i64 fl])] (.bool (ZhA ms ks rs l)) none:=
 start (ZtJ ms ks rs l wn fl) fun C hC=>tgo hC Zfm ZCZ (by
  by_cases h1:ZpO ms ks rs=true<;>by_cases h2:l.length≤14<;>simp[ZyC,h1,h2,ZhA]<;>omega)
theorem Zqk(ms ks rs l:List AV)(wn fl:Int)(h:ms.length≤1000000∧ks.length≤1000000∧rs.length≤1000000∧l.length≤1000000):Zap Tryz.prog 16 [.agg (.gen [.list (.big .str ms), .list (.big (.agg [.str, .int .i64]) ks), .list (.big (.agg [.str, .int .i64, .int .i64, .int .i64, .int .i64]) rs), .list (.big (.agg [.int .i64, .int .i64, .int .i64]) l), .int .i64 wn, .int .i64 fl])] (.agg (.gen [.list (.big .str ms), .list (.big (.agg [.str, .int .i64]) ks), .list (.big (.agg [.str, .int .i64, .int .i64, .int .i64, .int .i64]) rs), .list (.big (.agg [.int .i64, .int .i64, .int .i64]) l), .int .i64 wn, .int .i64 fl])) none:=
 start (Zw3 ms ks rs l wn fl) fun C hC=>tgo hC Zfm ZC9 (by simp[Zxu,h])
theorem Zqv(at0 mo:Int)(dn:List AV)(ha:Bool)(ba:Int)(to:Bool)(dw:List Int)(up:List AV)(h:dn.length≤1000000∧dw.length≤1000000∧up.length≤1000000):Zap Tryz.prog 35 [.agg (.gen [.int .i64 at0, .int .i64 mo, .list (.big (.agg [.int .i64, .int .i64]) dn), .bool ha, .int .i64 ba, .bool to, .list (.ints .i64 dw), .list (.big (.agg [.int .i64, .bool]) up)])] (.agg (.gen [.int .i64 at0, .int .i64 mo, .list (.big (.agg [.int .i64, .int .i64]) dn), .bool ha, .int .i64 ba, .bool to, .list (.ints .i64 dw), .list (.big (.agg [.int .i64, .bool]) up)])) none:=
 start (Zt5 at0 mo dn ha ba to dw up) fun C hC=>tgo hC Zfm ZEl (by simp[ZA4];omega)
theorem ZgK(xs:List Int)(h:xs.length≤1000000):Zap Tryz.prog 81 [.list (.ints .i64 xs)] (.row 0 0) (some ⟨3,1, .ints .i64 xs⟩):=
 start (ZvA xs) fun C hC=>tgo hC Zfm ZCB (by simp[ZAp];omega)
theorem Zo2(xs:List Int)(h:xs.length≤1000000):Zap Tryz.prog 81 [.list (.ints .i64 xs)] (.list (.ints .i64 xs)) ZsE:=Zw0 (ZgK xs h) rfl rfl
theorem Zjt{C:Ctx}(hC:C.P=Tryz.prog)(xs ys:List AV)(hl:xs.length≤1000000∧xs.length=ys.length):∀m k:Nat,k+m=xs.length→Ev C (ZgN xs ys k) (Zfo xs ys k) (Zco 22 (.bool (Zfa eq2 (xs.drop k) (ys.drop k))) none)
 |0,k,hk=>tgo hC Zfm ZhP (by
  rw[List.drop_of_length_le (by omega),List.drop_of_length_le (by omega)]
  simp[ZdO,show ¬(k:Int)<xs.length by omega,Zfa])
 |m+1,k,hk=>by
  have ih:=Zjt hC xs ys hl m (k+1) (by omega)
  rw[Ztu (show k<xs.length by omega),Ztu (show k<ys.length by omega),Zfa]
  refine tgo hC Zfm ZhP ?_
  by_cases h:eq2 (xs.getD k .top) (ys.getD k .top)=true
  ·rw[h,Bool.true_and]
   simp[-List.getD_eq_getElem?_getD,eq2]at h
   simp[-List.getD_eq_getElem?_getD,ZdO,show(k:Int)<xs.length by omega,show k<xs.length by omega,show k<ys.length by omega,h]
   exact⟨by omega,by simpa using ih⟩
  ·rw[(by simpa using h:eq2 (xs.getD k .top) (ys.getD k .top)=false),Bool.false_and]
   simp only[eq2,decide_eq_true_eq,not_and]at h
   simp[-List.getD_eq_getElem?_getD,ZdO,show(k:Int)<xs.length by omega,show k<xs.length by omega,show k<ys.length by omega]
   exact fun h1 h2=>absurd h2 (h h1)
theorem Zqx{e:AV→AV→Bool}{xs ys:List AV}(h:xs.length≠ys.length):Zfa e xs ys=false:=by
 cases hb:Zfa e xs ys
 ·rfl
 ·exact absurd (Zjn hb) h
theorem Zpt(xs ys:List AV)(hl:xs.length≤1000000):Zap Tryz.prog 22 [.list (.big (.agg [.int .i64, .int .i64]) xs), .list (.big (.agg [.int .i64, .int .i64]) ys)] (.bool (Zfa eq2 xs ys)) none:=
 start (Zwe xs ys) fun C hC=>tgo hC Zfm ZDX (by
  by_cases h:xs.length=ys.length
  ·simp[ZuK,h]
   have:=Zjt hC xs ys ⟨hl,h⟩ xs.length 0 (by omega)
   simpa using this
  ·simp[ZuK,Zqx h,show ¬((xs.length:Int)=ys.length) by omega])
def k28:Ctr:=⟨28,0,fun _ a=>match a with |[.agg (.gen [.list (.big .str ms), .list (.big (.agg [.str, .int .i64]) ks), .list (.big (.agg [.str, .int .i64, .int .i64, .int .i64, .int .i64]) rs)]), .list (.big (.agg [.int .i64, .int .i64, .int .i64]) l)]=>some (decide (Zay ms ks rs=true∧l.length≤1000000), .int .i64 (ZlD ms ks rs l),none) |_=>none⟩
theorem ZAS:k28.OK Tryz.prog:=fun pa args r fr h=>by
 simp only[k28]at h
 split at h
 ·simp only[Option.some.injEq,Prod.mk.injEq,decide_eq_true_eq]at h
  obtain⟨h0,rfl,rfl⟩:=h
  exact Zqw _ _ _ _ h0
 ·cases h
def k19:Ctr:=⟨19,0,fun _ a=>match a with |[.agg (.gen [.list (.big .str ms), .list (.big (.agg [.str, .int .i64]) ks), .list (.big (.agg [.str, .int .i64, .int .i64, .int .i64, .int .i64]) rs), .list (.big (.agg [.int .i64, .int .i64, .int .i64]) l), .int .i64 wn, .int .i64 fl])]=>some (decide (Zay ms ks rs=true∧l.length≤1000000), .int .i64 (upE ms ks rs l wn fl),none) |_=>none⟩
theorem Zxz:k19.OK Tryz.prog:=fun pa args r fr h=>by
 simp only[k19]at h
 split at h
 ·simp only[Option.some.injEq,Prod.mk.injEq,decide_eq_true_eq]at h
  obtain⟨h0,rfl,rfl⟩:=h
  exact ZqL _ _ _ _ _ _ h0
 ·cases h
def k36:Ctr:=⟨36,0,fun _ a=>match a with |[.agg (.gen [.list (.big .str ms), .list (.big (.agg [.str, .int .i64]) ks), .list (.big (.agg [.str, .int .i64, .int .i64, .int .i64, .int .i64]) rs), .list (.big (.agg [.int .i64, .int .i64, .int .i64]) l), .int .i64 wn, .int .i64 fl])]=>some (decide (Zay ms ks rs=true∧l.length≤1000000), .int .i64 (upE ms ks rs l wn fl),none) |_=>none⟩
theorem ZzZ:k36.OK Tryz.prog:=fun pa args r fr h=>by
 simp only[k36]at h
 split at h
 ·simp only[Option.some.injEq,Prod.mk.injEq,decide_eq_true_eq]at h
  obtain⟨h0,rfl,rfl⟩:=h
  exact Zq0 _ _ _ _ _ _ h0
 ·cases h
def k33:Ctr:=⟨33,0,fun _ a=>match a with |[.agg (.gen [.list (.big .str ms), .list (.big (.agg [.str, .int .i64]) ks), .list (.big (.agg [.str, .int .i64, .int .i64, .int .i64, .int .i64]) rs), .list (.big (.agg [.int .i64, .int .i64, .int .i64]) l), .int .i64 wn, .int .i64 fl])]=>some (decide (Zay ms ks rs=true∧l.length≤1000000), .tup [.agg (.gen [.int .i64 0, .int .i64 0, .list (.big (.agg [.int .i64, .int .i64]) []), .bool false, .int .i64 0, .bool false, .list (.ints .i64 []), .list (.big (.agg [.int .i64, .bool]) [])]), .int .i64 (upE ms ks rs l wn fl)],none) |_=>none⟩
theorem ZBi:k33.OK Tryz.prog:=fun pa args r fr h=>by
 simp only[k33]at h
 split at h
 ·simp only[Option.some.injEq,Prod.mk.injEq,decide_eq_true_eq]at h
  obtain⟨h0,rfl,rfl⟩:=h
  exact ZqO _ _ _ _ _ _ h0
 ·cases h
def k37:Ctr:=⟨37,0,fun _ a=>match a with |[.agg (.gen [.int .i64 ek, .int .i64 en])]=>some (true, .int .i64 (evE ek en),none) |_=>none⟩
theorem ZA0:k37.OK Tryz.prog:=fun pa args r fr h=>by
 simp only[k37]at h
 split at h
 ·cases h
  exact ZtM _ _
 ·cases h
def k14:Ctr:=⟨14,0,fun _ a=>match a with |[.agg (.gen [.list (.big .str ms), .list (.big (.agg [.str, .int .i64]) ks), .list (.big (.agg [.str, .int .i64, .int .i64, .int .i64, .int .i64]) rs), .list (.big (.agg [.int .i64, .int .i64, .int .i64]) l), .int .i64 _, .int .i64 _])]=>some (true, .bool (ZhA ms ks rs l),none) |_=>none⟩
theorem ZA7:k14.OK Tryz.prog:=fun pa args r fr h=>by
 simp only[k14]at h
 split at h
 ·cases h
  exact ZnI _ _ _ _ _ _
 ·cases h
def k16:Ctr:=⟨16,0,fun _ a=>match a with |[.agg (.gen [.list (.big .str ms), .list (.big (.agg [.str, .int .i64]) ks), .list (.big (.agg [.str, .int .i64, .int .i64, .int .i64, .int .i64]) rs), .list (.big (.agg [.int .i64, .int .i64, .int .i64]) l), .int .i64 wn, .int .i64 fl])]=>some (decide (ms.length≤1000000∧ks.length≤1000000∧rs.length≤1000000∧l.length≤1000000), .agg (.gen [.list (.big .str ms), .list (.big (.agg [.str, .int .i64]) ks), .list (.big (.agg [.str, .int .i64, .int .i64, .int .i64, .int .i64]) rs), .list (.big (.agg [.int .i64, .int .i64, .int .i64]) l), .int .i64 wn, .int .i64 fl]),none) |_=>none⟩
theorem Zy2:k16.OK Tryz.prog:=fun pa args r fr h=>by
 simp only[k16]at h
 split at h
 ·simp only[Option.some.injEq,Prod.mk.injEq,decide_eq_true_eq]at h
  obtain⟨h0,rfl,rfl⟩:=h
  exact Zqk _ _ _ _ _ _ h0
 ·cases h
def k35:Ctr:=⟨35,0,fun _ a=>match a with |[.agg (.gen [.int .i64 at0, .int .i64 mo, .list (.big (.agg [.int .i64, .int .i64]) dn), .bool ha, .int .i64 ba, .bool to, .list (.ints .i64 dw), .list (.big (.agg [.int .i64, .bool]) up)])]=>some (decide (dn.length≤1000000∧dw.length≤1000000∧up.length≤1000000), .agg (.gen [.int .i64 at0, .int .i64 mo, .list (.big (.agg [.int .i64, .int .i64]) dn), .bool ha, .int .i64 ba, .bool to, .list (.ints .i64 dw), .list (.big (.agg [.int .i64, .bool]) up)]),none) |_=>none⟩
theorem ZBf:k35.OK Tryz.prog:=fun pa args r fr h=>by
 simp only[k35]at h
 split at h
 ·simp only[Option.some.injEq,Prod.mk.injEq,decide_eq_true_eq]at h
  obtain⟨h0,rfl,rfl⟩:=h
  exact Zqv _ _ _ _ _ _ _ _ h0
 ·cases h
def k22:Ctr:=⟨22,0,fun _ a=>match a with |[.list (.big (.agg [.int .i64, .int .i64]) xs), .list (.big (.agg [.int .i64, .int .i64]) ys)]=>some (decide (xs.length≤1000000), .bool (Zfa eq2 xs ys),none) |_=>none⟩
theorem ZAg:k22.OK Tryz.prog:=fun pa args r fr h=>by
 simp only[k22]at h
 split at h
 ·simp only[Option.some.injEq,Prod.mk.injEq,decide_eq_true_eq]at h
  obtain⟨h0,rfl,rfl⟩:=h
  exact Zpt _ _ h0
 ·cases h
def B9:List Ctr:=[k28,k19,k36,k33,k37,k14,k16,k35,k22]++B8
theorem ZCn:ZaE Tryz.prog B9:=⟨ZAS,⟨Zxz,⟨ZzZ,⟨ZBi,⟨ZA0,⟨ZA7,⟨Zy2,⟨ZBf,⟨ZAg,Zfm⟩⟩⟩⟩⟩⟩⟩⟩⟩
end Go.Proofs.YtkeoeooghhjibaaGreatDoor
/- Calls at given values. Printed by facts.py. -/
namespace Go.Proofs.YtkeoeooghhjibaaGreatDoor
set_option maxRecDepth 1000000
def rp0:Fact:=⟨179,[(.int .u64 1),(.int .u64 0)],(.tup [(.int .u64 0),(.int .u64 0)]),none⟩
theorem Zyj:Zap Tryz.prog rp0.f rp0.args rp0.r rp0.fr:=Zae (n:=100000) (l:=[]) follows Zag trivial (by kernel_rfl)
def rp1:Fact:=⟨152,[(.int .u64 1),(.int .u64 0)],(.tup [(.int .u64 0),(.int .u64 0)]),none⟩
theorem ZAo:Zap Tryz.prog rp1.f rp1.args rp1.r rp1.fr:=Zae (n:=100000) (l:=[rp0]) follows Zag ⟨Zyj,trivial⟩ (by kernel_rfl)
def rp2:Fact:=⟨121,[(.list (.ints .i64 [(-1)])),(.int .i64 0)],(.row 0 0),(some ⟨3,1,(.ints .i64 [])⟩)⟩
theorem ZzU:Zap Tryz.prog rp2.f rp2.args rp2.r rp2.fr:=Zae (n:=100000) (l:=[rp1]) follows Zag ⟨ZAo,trivial⟩ (by kernel_rfl)
def rp3:Fact:=⟨179,[(.int .u64 1),(.int .u64 1)],(.tup [(.int .u64 0),(.int .u64 1)]),none⟩
theorem Zx1:Zap Tryz.prog rp3.f rp3.args rp3.r rp3.fr:=Zae (n:=100000) (l:=[]) follows Zag trivial (by kernel_rfl)
def rp4:Fact:=⟨152,[(.int .u64 1),(.int .u64 1)],(.tup [(.int .u64 0),(.int .u64 1)]),none⟩
theorem Zzp:Zap Tryz.prog rp4.f rp4.args rp4.r rp4.fr:=Zae (n:=100000) (l:=[rp3]) follows Zag ⟨Zx1,trivial⟩ (by kernel_rfl)
def rp5:Fact:=⟨121,[(.list (.ints .i64 [(-1)])),(.int .i64 1)],(.row 0 0),(some ⟨3,1,(.ints .i64 [(-1)])⟩)⟩
theorem ZAX:Zap Tryz.prog rp5.f rp5.args rp5.r rp5.fr:=Zae (n:=100000) (l:=[rp4]) follows Zag ⟨Zzp,trivial⟩ (by kernel_rfl)
def rp6:Fact:=⟨179,[(.int .u64 1),(.int .u64 2)],(.tup [(.int .u64 0),(.int .u64 2)]),none⟩
theorem ZxU:Zap Tryz.prog rp6.f rp6.args rp6.r rp6.fr:=Zae (n:=100000) (l:=[]) follows Zag trivial (by kernel_rfl)
def rp7:Fact:=⟨152,[(.int .u64 1),(.int .u64 2)],(.tup [(.int .u64 0),(.int .u64 2)]),none⟩
theorem ZzC:Zap Tryz.prog rp7.f rp7.args rp7.r rp7.fr:=Zae (n:=100000) (l:=[rp6]) follows Zag ⟨ZxU,trivial⟩ (by kernel_rfl)
def rp8:Fact:=⟨121,[(.list (.ints .i64 [(-1)])),(.int .i64 2)],(.row 0 0),(some ⟨3,1,(.ints .i64 [(-1),(-1)])⟩)⟩
theorem Zzd:Zap Tryz.prog rp8.f rp8.args rp8.r rp8.fr:=Zae (n:=100000) (l:=[rp7]) follows Zag ⟨ZzC,trivial⟩ (by kernel_rfl)
def rp9:Fact:=⟨179,[(.int .u64 1),(.int .u64 3)],(.tup [(.int .u64 0),(.int .u64 3)]),none⟩
theorem Zyp:Zap Tryz.prog rp9.f rp9.args rp9.r rp9.fr:=Zae (n:=100000) (l:=[]) follows Zag trivial (by kernel_rfl)
def rp10:Fact:=⟨152,[(.int .u64 1),(.int .u64 3)],(.tup [(.int .u64 0),(.int .u64 3)]),none⟩
theorem Zvs:Zap Tryz.prog rp10.f rp10.args rp10.r rp10.fr:=Zae (n:=100000) (l:=[rp9]) follows Zag ⟨Zyp,trivial⟩ (by kernel_rfl)
def rp11:Fact:=⟨121,[(.list (.ints .i64 [(-1)])),(.int .i64 3)],(.row 0 0),(some ⟨3,1,(.ints .i64 [(-1),(-1),(-1)])⟩)⟩
theorem ZuO:Zap Tryz.prog rp11.f rp11.args rp11.r rp11.fr:=Zae (n:=100000) (l:=[rp10]) follows Zag ⟨Zvs,trivial⟩ (by kernel_rfl)
def rp12:Fact:=⟨179,[(.int .u64 1),(.int .u64 4)],(.tup [(.int .u64 0),(.int .u64 4)]),none⟩
theorem Zvr:Zap Tryz.prog rp12.f rp12.args rp12.r rp12.fr:=Zae (n:=100000) (l:=[]) follows Zag trivial (by kernel_rfl)
def rp13:Fact:=⟨152,[(.int .u64 1),(.int .u64 4)],(.tup [(.int .u64 0),(.int .u64 4)]),none⟩
theorem Zs8:Zap Tryz.prog rp13.f rp13.args rp13.r rp13.fr:=Zae (n:=100000) (l:=[rp12]) follows Zag ⟨Zvr,trivial⟩ (by kernel_rfl)
def rp14:Fact:=⟨121,[(.list (.ints .i64 [(-1)])),(.int .i64 4)],(.row 0 0),(some ⟨3,1,(.ints .i64 [(-1),(-1),(-1),(-1)])⟩)⟩
theorem ZvO:Zap Tryz.prog rp14.f rp14.args rp14.r rp14.fr:=Zae (n:=100000) (l:=[rp13]) follows Zag ⟨Zs8,trivial⟩ (by kernel_rfl)
def rp15:Fact:=⟨179,[(.int .u64 1),(.int .u64 5)],(.tup [(.int .u64 0),(.int .u64 5)]),none⟩
theorem Zwl:Zap Tryz.prog rp15.f rp15.args rp15.r rp15.fr:=Zae (n:=100000) (l:=[]) follows Zag trivial (by kernel_rfl)
def rp16:Fact:=⟨152,[(.int .u64 1),(.int .u64 5)],(.tup [(.int .u64 0),(.int .u64 5)]),none⟩
theorem Zwy:Zap Tryz.prog rp16.f rp16.args rp16.r rp16.fr:=Zae (n:=100000) (l:=[rp15]) follows Zag ⟨Zwl,trivial⟩ (by kernel_rfl)
def rp17:Fact:=⟨121,[(.list (.ints .i64 [(-1)])),(.int .i64 5)],(.row 0 0),(some ⟨3,1,(.ints .i64 [(-1),(-1),(-1),(-1),(-1)])⟩)⟩
theorem Ztl:Zap Tryz.prog rp17.f rp17.args rp17.r rp17.fr:=Zae (n:=100000) (l:=[rp16]) follows Zag ⟨Zwy,trivial⟩ (by kernel_rfl)
def rp18:Fact:=⟨179,[(.int .u64 1),(.int .u64 6)],(.tup [(.int .u64 0),(.int .u64 6)]),none⟩
theorem ZuP:Zap Tryz.prog rp18.f rp18.args rp18.r rp18.fr:=Zae (n:=100000) (l:=[]) follows Zag trivial (by kernel_rfl)
def rp19:Fact:=⟨152,[(.int .u64 1),(.int .u64 6)],(.tup [(.int .u64 0),(.int .u64 6)]),none⟩
theorem Zw4:Zap Tryz.prog rp19.f rp19.args rp19.r rp19.fr:=Zae (n:=100000) (l:=[rp18]) follows Zag ⟨ZuP,trivial⟩ (by kernel_rfl)
def rp20:Fact:=⟨121,[(.list (.ints .i64 [(-1)])),(.int .i64 6)],(.row 0 0),(some ⟨3,1,(.ints .i64 [(-1),(-1),(-1),(-1),(-1),(-1)])⟩)⟩
theorem Zvj:Zap Tryz.prog rp20.f rp20.args rp20.r rp20.fr:=Zae (n:=100000) (l:=[rp19]) follows Zag ⟨Zw4,trivial⟩ (by kernel_rfl)
def rp21:Fact:=⟨179,[(.int .u64 1),(.int .u64 7)],(.tup [(.int .u64 0),(.int .u64 7)]),none⟩
theorem Zuo:Zap Tryz.prog rp21.f rp21.args rp21.r rp21.fr:=Zae (n:=100000) (l:=[]) follows Zag trivial (by kernel_rfl)
def rp22:Fact:=⟨152,[(.int .u64 1),(.int .u64 7)],(.tup [(.int .u64 0),(.int .u64 7)]),none⟩
theorem Zw8:Zap Tryz.prog rp22.f rp22.args rp22.r rp22.fr:=Zae (n:=100000) (l:=[rp21]) follows Zag ⟨Zuo,trivial⟩ (by kernel_rfl)
def rp23:Fact:=⟨121,[(.list (.ints .i64 [(-1)])),(.int .i64 7)],(.row 0 0),(some ⟨3,1,(.ints .i64 [(-1),(-1),(-1),(-1),(-1),(-1),(-1)])⟩)⟩
theorem Zw1:Zap Tryz.prog rp23.f rp23.args rp23.r rp23.fr:=Zae (n:=100000) (l:=[rp22]) follows Zag ⟨Zw8,trivial⟩ (by kernel_rfl)
def rp24:Fact:=⟨179,[(.int .u64 1),(.int .u64 8)],(.tup [(.int .u64 0),(.int .u64 8)]),none⟩
theorem Zum:Zap Tryz.prog rp24.f rp24.args rp24.r rp24.fr:=Zae (n:=100000) (l:=[]) follows Zag trivial (by kernel_rfl)
def rp25:Fact:=⟨152,[(.int .u64 1),(.int .u64 8)],(.tup [(.int .u64 0),(.int .u64 8)]),none⟩
theorem Zve:Zap Tryz.prog rp25.f rp25.args rp25.r rp25.fr:=Zae (n:=100000) (l:=[rp24]) follows Zag ⟨Zum,trivial⟩ (by kernel_rfl)
def rp26:Fact:=⟨121,[(.list (.ints .i64 [(-1)])),(.int .i64 8)],(.row 0 0),(some ⟨3,1,(.ints .i64 [(-1),(-1),(-1),(-1),(-1),(-1),(-1),(-1)])⟩)⟩
theorem ZwU:Zap Tryz.prog rp26.f rp26.args rp26.r rp26.fr:=Zae (n:=100000) (l:=[rp25]) follows Zag ⟨Zve,trivial⟩ (by kernel_rfl)
end Go.Proofs.YtkeoeooghhjibaaGreatDoor
/- A copy, owned or a value, as the path says; a row of one value. No condition. -/
namespace Go.Proofs.YtkeoeooghhjibaaGreatDoor
def k81b:Ctr:=⟨81,1,fun pa a=>match pa with
 |[]=>none
 |b::_=>(match a with
  |[.list (.ints .i64 xs)]=>some (decide (xs.length≤1000000),(match b with |true=>.row 0 0 |false=>.list (.ints .i64 xs)),(match b with |true=>some ⟨3,1, .ints .i64 xs⟩ |false=>ZsE))
  |_=>none)⟩
theorem Zv5:k81b.OK Tryz.prog:=fun pa args r fr h=>by
 simp only[k81b]at h
 split at h
 ·simp at h
 ·split at h
  ·simp only[Option.some.injEq,Prod.mk.injEq,decide_eq_true_eq]at h
   obtain⟨h0,rfl,rfl⟩:=h
   split
   ·exact ZgK _ h0
   ·exact Zo2 _ h0
  ·cases h
theorem Zpv(xs:List Int)(n:Int)(h:xs=[-1]∧0≤n∧n≤8):Zap Tryz.prog 121 [.list (.ints .i64 xs), .int .i64 n] (.row 0 0) (some ⟨3,1, .ints .i64 (List.replicate n.toNat (-1))⟩):=by
 obtain⟨rfl,h1,h2⟩:=h
 obtain⟨m,rfl⟩:∃m:Nat,n=m:=⟨n.toNat,by omega⟩
 have h3:m≤8:=by omega
 match m,h3 with
 |0,_=>exact ZzU
 |1,_=>exact ZAX
 |2,_=>exact Zzd
 |3,_=>exact ZuO
 |4,_=>exact ZvO
 |5,_=>exact Ztl
 |6,_=>exact Zvj
 |7,_=>exact Zw1
 |8,_=>exact ZwU
def k121:Ctr:=⟨121,0,fun _ a=>match a with |[.list (.ints .i64 xs), .int .i64 n]=>some (decide (xs=[-1]∧0≤n∧n≤8), .row 0 0,some ⟨3,1, .ints .i64 (List.replicate n.toNat (-1))⟩) |_=>none⟩
theorem Ztm:k121.OK Tryz.prog:=fun pa args r fr h=>by
 simp only[k121]at h
 split at h
 ·simp only[Option.some.injEq,Prod.mk.injEq,decide_eq_true_eq]at h
  obtain⟨h0,rfl,rfl⟩:=h
  exact Zpv _ _ h0
 ·cases h
def Ba:List Ctr:=[k81b,k121]++B9
theorem ZzY:ZaE Tryz.prog Ba:=⟨Zv5,⟨Ztm,ZCn⟩⟩
end Go.Proofs.YtkeoeooghhjibaaGreatDoor
/- Paths of functions, printed by the explorer (Gx). No condition. -/
namespace Go.Proofs.YtkeoeooghhjibaaGreatDoor
set_option maxRecDepth 100000
set_option linter.unusedVariables false
def ZsD(ms ks rs:List AV)(a t:Int)(xs:List Int)(s:List UInt8)(r1 r2 r3 r4 b:Int):AFrame:={ fn:=122,N:=26,env:=[(0,AV.eptr (AV.agg (Row.gen [.list (Row.big .str ms), .list (Row.big (.agg [.str, .int .i64]) ks), .list (Row.big (.agg [.str, .int .i64, .int .i64, .int .i64, .int .i64]) rs), .int .i64 a, .int .i64 t, .list (.ints .i64 xs)])) 0),(1,AV.agg (Row.gen [.str s, .int .i64 r1, .int .i64 r2, .int .i64 r3, .int .i64 r4])),(2,AV.int .i64 b)],todo:=[.code a122.code],defs:=[],rnd:=none,ret:=false,res:=[ARes.tmp 6] }
def ZCE(ms ks rs:List AV)(a t:Int)(xs:List Int)(s:List UInt8)(r1 r2 r3 r4 b:Int):List AFrame:=[(ZsD ms ks rs a t xs s r1 r2 r3 r4 b)]
theorem Zri(ms ks rs:List AV)(a t:Int)(xs:List Int)(s:List UInt8)(r1 r2 r3 r4 b:Int):Zat tab 122 [AV.eptr (AV.agg (Row.gen [.list (Row.big .str ms), .list (Row.big (.agg [.str, .int .i64]) ks), .list (Row.big (.agg [.str, .int .i64, .int .i64, .int .i64, .int .i64]) rs), .int .i64 a, .int .i64 t, .list (.ints .i64 xs)])) 0,AV.agg (Row.gen [.str s, .int .i64 r1, .int .i64 r2, .int .i64 r3, .int .i64 r4]),AV.int .i64 b]=some (ZsD ms ks rs a t xs s r1 r2 r3 r4 b):=rfl
def Zr9(A:Ar)(K:KT)(F:FT)(ms ks rs:List AV)(a t:Int)(xs:List Int)(s:List UInt8)(r1 r2 r3 r4 b:Int):Prop:=qB [A.eq r2 (-1),A.eq r1 b] (F (AV.bool true) (none)) (qB [!A.eq r2 (-1),A.eq r1 b] (F (AV.bool (A.eq r2 a)) (none)) (rB [!A.eq r1 b] (F (AV.bool false) (none))))
theorem ZBa{A:Ar}{K:KT}{F:FT}{M:MT}{ms ks rs:List AV}{a t:Int}{xs:List Int}{s:List UInt8}{r1 r2 r3 r4 b:Int} :ZaN A tab Ba 122 K F M (.run 6 (.alt [true,true] (.run 2 (.fn)) (.alt [true,false] (.run 2 (.fn)) (.fy (.run 2 (.fn)))))) (ZCE ms ks rs a t xs s r1 r2 r3 r4 b) []=Zr9 A K F ms ks rs a t xs s r1 r2 r3 r4 b:=by kernel_rfl
end Go.Proofs.YtkeoeooghhjibaaGreatDoor
/- Contracts as a list. No condition. -/
namespace Go.Proofs.YtkeoeooghhjibaaGreatDoor
def exM(ks:List AV)(a k:Int):Int:=if Zak ks k 1= -1 then a else Zak ks k 1
def ZEi(a b r1 r2:Int):Bool:=decide (r1=b∧(r2= -1∨r2=a))
theorem Zod(ms ks rs:List AV)(a t:Int)(xs:List Int)(s:List UInt8)(r1 r2 r3 r4 b:Int):Zap Tryz.prog 122 [.eptr (.agg (.gen [.list (.big .str ms), .list (.big (.agg [.str, .int .i64]) ks), .list (.big (.agg [.str, .int .i64, .int .i64, .int .i64, .int .i64]) rs), .int .i64 a, .int .i64 t, .list (.ints .i64 xs)])) 0, .agg (.gen [.str s, .int .i64 r1, .int .i64 r2, .int .i64 r3, .int .i64 r4]), .int .i64 b] (.bool (ZEi a b r1 r2)) none:=
 start (Zri ms ks rs a t xs s r1 r2 r3 r4 b) fun C hC=>tgo hC ZzY ZBa (by
  by_cases h1:r1=b<;>by_cases h2:r2= -1<;>by_cases h3:r2=a<;>simp_all[Zr9,ZEi])
def k122:Ctr:=⟨122,0,fun _ a=>match a with |[.eptr (.agg (.gen [.list (.big .str _), .list (.big (.agg [.str, .int .i64]) _), .list (.big (.agg [.str, .int .i64, .int .i64, .int .i64, .int .i64]) _), .int .i64 a, .int .i64 _, .list (.ints .i64 _)])) 0, .agg (.gen [.str _, .int .i64 r1, .int .i64 r2, .int .i64 _, .int .i64 _]), .int .i64 b]=>some (true, .bool (ZEi a b r1 r2),none) |_=>none⟩
theorem Zt6:k122.OK Tryz.prog:=fun pa args r fr h=>by
 simp only[k122]at h
 split at h
 ·cases h
  exact Zod _ _ _ _ _ _ _ _ _ _ _ _
 ·cases h
def Bb:List Ctr:=[k122]++Ba
theorem Zqt:ZaE Tryz.prog Bb:=⟨Zt6,ZzY⟩
end Go.Proofs.YtkeoeooghhjibaaGreatDoor
/- Paths of functions, printed by the explorer (Gx). No condition. -/
namespace Go.Proofs.YtkeoeooghhjibaaGreatDoor
set_option maxRecDepth 100000
set_option linter.unusedVariables false
def ZyX(ms ks rs:List AV)(a b:Int)(xs:List Int)(q:Int):AFrame:={ fn:=91,N:=66,env:=[(0,AV.eptr (AV.agg (Row.gen [.list (Row.big .str ms), .list (Row.big (.agg [.str, .int .i64]) ks), .list (Row.big (.agg [.str, .int .i64, .int .i64, .int .i64, .int .i64]) rs), .int .i64 a, .int .i64 b, .list (.ints .i64 xs)])) 0),(1,AV.int .i64 q)],todo:=[.code a91.code],defs:=[],rnd:=none,ret:=false,res:=[ARes.tmp 4] }
def ZIp(ms ks rs:List AV)(a b:Int)(xs:List Int)(q:Int):List AFrame:=[(ZyX ms ks rs a b xs q)]
theorem Zwd(ms ks rs:List AV)(a b:Int)(xs:List Int)(q:Int):Zat tab 91 [AV.eptr (AV.agg (Row.gen [.list (Row.big .str ms), .list (Row.big (.agg [.str, .int .i64]) ks), .list (Row.big (.agg [.str, .int .i64, .int .i64, .int .i64, .int .i64]) rs), .int .i64 a, .int .i64 b, .list (.ints .i64 xs)])) 0,AV.int .i64 q]=some (ZyX ms ks rs a b xs q):=rfl
def Zet(ms ks rs:List AV)(a b:Int)(xs:List Int)(q n0 n1:Int):List AFrame:=[{ fn:=91,N:=66,env:=[(0,AV.eptr (AV.agg (Row.gen [.list (Row.big .str ms), .list (Row.big (.agg [.str, .int .i64]) ks), .list (Row.big (.agg [.str, .int .i64, .int .i64, .int .i64, .int .i64]) rs), .int .i64 a, .int .i64 b, .list (.ints .i64 xs)])) 0),(1,AV.int .i64 q),(11,AV.list (Row.big (.agg [.str, .int .i64, .int .i64, .int .i64, .int .i64]) rs)),(12,AV.int .i64 n0),(13,AV.int .i64 n1)],todo:=.code (ACode.gh [] ZvL)::ZBA,defs:=[],rnd:=none,ret:=false,res:=[ARes.tmp 4] }]
def ZdY(ms ks rs:List AV)(a b:Int)(xs:List Int)(q n0 n1:Int):Zac:=[]
abbrev ZbC(ms ks rs:List AV)(a b:Int)(xs:List Int)(q n0 n1:Int):List AFrame×Zac:=(Zet ms ks rs a b xs q n0 n1,ZdY ms ks rs a b xs q n0 n1)
def ZzS(A:Ar)(K:KT)(F:FT)(ms ks rs:List AV)(a b:Int)(xs:List Int)(q:Int):Prop:=K (ZbC (ms) (ks) (rs) (a) (b) (xs) (q) (A.int (A.lenA rs)) (0))
theorem ZCz{A:Ar}{K:KT}{F:FT}{M:MT}{ms ks rs:List AV}{a b:Int}{xs:List Int}{q:Int} :ZaN A tab Bb 91 K F M (.run 18 (.hd)) (ZIp ms ks rs a b xs q) []=ZzS A K F ms ks rs a b xs q:=by kernel_rfl
def Zfe(A:Ar)(K:KT)(F:FT)(ms ks rs:List AV)(a b:Int)(xs:List Int)(q n0 n1:Int):Prop:=bB (A.lt n1 n0) (rB [Zah (Zah (A.le 0 n1) (Nat.blt (A.nat n1) (A.lenA rs))) true] (qB [A.eq ((A.nthA rs (A.nat n1)).cellAt 2).toI (-1),A.eq ((A.nthA rs (A.nat n1)).cellAt 1).toI q] (rB [!A.not true] (qB [A.eq ((A.nthA rs (A.nat n1)).cellAt 3).toI (-1)] (rB [Zah (Zah (A.le 0 n1) (Nat.blt (A.nat n1) (A.lenA rs))) true] (F (AV.eptr (AV.agg (Row.gen [.str ((A.nthA rs (A.nat n1)).cellAt 0).toS, .int .i64 ((A.nthA rs (A.nat n1)).cellAt 1).toI, .int .i64 ((A.nthA rs (A.nat n1)).cellAt 2).toI, .int .i64 ((A.nthA rs (A.nat n1)).cellAt 3).toI, .int .i64 ((A.nthA rs (A.nat n1)).cellAt 4).toI])) 0) (none))) (qB [A.inR .i64 (A.sub b (A.nth xs (A.nat ((A.nthA rs (A.nat n1)).cellAt 3).toI))),Zah (Zah (A.le 0 ((A.nthA rs (A.nat n1)).cellAt 3).toI) (Nat.blt (A.nat ((A.nthA rs (A.nat n1)).cellAt 3).toI) (A.len xs))) true,A.not (A.eq (A.nth xs (A.nat ((A.nthA rs (A.nat n1)).cellAt 3).toI)) (-1)),Zah (Zah (A.le 0 ((A.nthA rs (A.nat n1)).cellAt 3).toI) (Nat.blt (A.nat ((A.nthA rs (A.nat n1)).cellAt 3).toI) (A.len xs))) true,!A.eq ((A.nthA rs (A.nat n1)).cellAt 3).toI (-1)] (bB (A.lt (A.sub b (A.nth xs (A.nat ((A.nthA rs (A.nat n1)).cellAt 3).toI))) ((A.nthA rs (A.nat n1)).cellAt 4).toI) (rB [Zah (Zah (A.le 0 n1) (Nat.blt (A.nat n1) (A.lenA rs))) true] (F (AV.eptr (AV.agg (Row.gen [.str ((A.nthA rs (A.nat n1)).cellAt 0).toS, .int .i64 ((A.nthA rs (A.nat n1)).cellAt 1).toI, .int .i64 ((A.nthA rs (A.nat n1)).cellAt 2).toI, .int .i64 ((A.nthA rs (A.nat n1)).cellAt 3).toI, .int .i64 ((A.nthA rs (A.nat n1)).cellAt 4).toI])) 0) (none))) (rB [A.inR .i64 (A.add n1 1)] (K (ZbC (ms) (ks) (rs) (a) (b) (xs) (q) (n0) (A.add n1 1))))) (rB [!A.not (A.eq (A.nth xs (A.nat ((A.nthA rs (A.nat n1)).cellAt 3).toI)) (-1)),Zah (Zah (A.le 0 ((A.nthA rs (A.nat n1)).cellAt 3).toI) (Nat.blt (A.nat ((A.nthA rs (A.nat n1)).cellAt 3).toI) (A.len xs))) true,!A.eq ((A.nthA rs (A.nat n1)).cellAt 3).toI (-1)] (rB [A.inR .i64 (A.add n1 1)] (K (ZbC (ms) (ks) (rs) (a) (b) (xs) (q) (n0) (A.add n1 1)))))))) (qB [!A.eq ((A.nthA rs (A.nat n1)).cellAt 2).toI (-1),A.eq ((A.nthA rs (A.nat n1)).cellAt 1).toI q] (bB (A.not (A.eq ((A.nthA rs (A.nat n1)).cellAt 2).toI a)) (rB [A.inR .i64 (A.add n1 1)] (K (ZbC (ms) (ks) (rs) (a) (b) (xs) (q) (n0) (A.add n1 1)))) (qB [A.eq ((A.nthA rs (A.nat n1)).cellAt 3).toI (-1)] (rB [Zah (Zah (A.le 0 n1) (Nat.blt (A.nat n1) (A.lenA rs))) true] (F (AV.eptr (AV.agg (Row.gen [.str ((A.nthA rs (A.nat n1)).cellAt 0).toS, .int .i64 ((A.nthA rs (A.nat n1)).cellAt 1).toI, .int .i64 ((A.nthA rs (A.nat n1)).cellAt 2).toI, .int .i64 ((A.nthA rs (A.nat n1)).cellAt 3).toI, .int .i64 ((A.nthA rs (A.nat n1)).cellAt 4).toI])) 0) (none))) (qB [A.inR .i64 (A.sub b (A.nth xs (A.nat ((A.nthA rs (A.nat n1)).cellAt 3).toI))),Zah (Zah (A.le 0 ((A.nthA rs (A.nat n1)).cellAt 3).toI) (Nat.blt (A.nat ((A.nthA rs (A.nat n1)).cellAt 3).toI) (A.len xs))) true,A.not (A.eq (A.nth xs (A.nat ((A.nthA rs (A.nat n1)).cellAt 3).toI)) (-1)),Zah (Zah (A.le 0 ((A.nthA rs (A.nat n1)).cellAt 3).toI) (Nat.blt (A.nat ((A.nthA rs (A.nat n1)).cellAt 3).toI) (A.len xs))) true,!A.eq ((A.nthA rs (A.nat n1)).cellAt 3).toI (-1)] (bB (A.lt (A.sub b (A.nth xs (A.nat ((A.nthA rs (A.nat n1)).cellAt 3).toI))) ((A.nthA rs (A.nat n1)).cellAt 4).toI) (rB [Zah (Zah (A.le 0 n1) (Nat.blt (A.nat n1) (A.lenA rs))) true] (F (AV.eptr (AV.agg (Row.gen [.str ((A.nthA rs (A.nat n1)).cellAt 0).toS, .int .i64 ((A.nthA rs (A.nat n1)).cellAt 1).toI, .int .i64 ((A.nthA rs (A.nat n1)).cellAt 2).toI, .int .i64 ((A.nthA rs (A.nat n1)).cellAt 3).toI, .int .i64 ((A.nthA rs (A.nat n1)).cellAt 4).toI])) 0) (none))) (rB [A.inR .i64 (A.add n1 1)] (K (ZbC (ms) (ks) (rs) (a) (b) (xs) (q) (n0) (A.add n1 1))))) (rB [!A.not (A.eq (A.nth xs (A.nat ((A.nthA rs (A.nat n1)).cellAt 3).toI)) (-1)),Zah (Zah (A.le 0 ((A.nthA rs (A.nat n1)).cellAt 3).toI) (Nat.blt (A.nat ((A.nthA rs (A.nat n1)).cellAt 3).toI) (A.len xs))) true,!A.eq ((A.nthA rs (A.nat n1)).cellAt 3).toI (-1)] (rB [A.inR .i64 (A.add n1 1)] (K (ZbC (ms) (ks) (rs) (a) (b) (xs) (q) (n0) (A.add n1 1)))))))) (rB [!A.eq ((A.nthA rs (A.nat n1)).cellAt 1).toI q] (rB [A.not false] (rB [A.inR .i64 (A.add n1 1)] (K (ZbC (ms) (ks) (rs) (a) (b) (xs) (q) (n0) (A.add n1 1))))))))) (F (AV.val (Go.Value.pointer none)) (none))
theorem Zic{A:Ar}{K:KT}{F:FT}{M:MT}{ms ks rs:List AV}{a b:Int}{xs:List Int}{q n0 n1:Int} :ZaN A tab Bb 91 K F M (.run 6 (.tf (.run 25 (.alt [true,true] (.run 5 (.fy (.run 2 (.alt [true] (.run 1 (.ty (.run 13 (.fn)))) (.alt [false,true] (.run 1 (.tf (.run 13 (.fn)) (.run 8 (.hd)))) (.alt [false,false] (.run 1 (.fy (.run 8 (.hd)))) (.no))))))) (.alt [true,false] (.run 5 (.tf (.run 7 (.hd)) (.run 2 (.alt [true] (.run 1 (.ty (.run 13 (.fn)))) (.alt [false,true] (.run 1 (.tf (.run 13 (.fn)) (.run 8 (.hd)))) (.alt [false,false] (.run 1 (.fy (.run 8 (.hd)))) (.no))))))) (.fy (.run 5 (.ty (.run 7 (.hd)))))))) (.run 6 (.fn)))) (Zet ms ks rs a b xs q n0 n1) (ZdY ms ks rs a b xs q n0 n1)=Zfe A K F ms ks rs a b xs q n0 n1:=by kernel_rfl
end Go.Proofs.YtkeoeooghhjibaaGreatDoor
/- Contracts as a list. No condition. -/
namespace Go.Proofs.YtkeoeooghhjibaaGreatDoor
def Zhp(rs:List AV)(a b:Int)(xs:List Int)(k:Int):Nat→Nat→Nat
 |0,i=>i
 |m+1,i=>if ZjN rs a b xs k i=true then i else Zhp rs a b xs k m (i+1)
def Zd0(rs:List AV)(a b:Int)(xs:List Int)(k:Int):Bool:=decide (Zhp rs a b xs k rs.length 0=rs.length)
def ZqJ(rs:List AV)(i:Nat):AV:=.eptr (.agg (.gen [.str (ZaA rs i), .int .i64 (Zak rs i 1), .int .i64 (Zak rs i 2), .int .i64 (Zak rs i 3), .int .i64 (Zak rs i 4)])) 0
def Zhu(rs:List AV)(a b:Int)(xs:List Int)(k:Int)(m i:Nat):AV:=if Zhp rs a b xs k m i=i+m then .val (.pointer none)else ZqJ rs (Zhp rs a b xs k m i)
theorem Znp(rs:List AV)(a b:Int)(xs:List Int)(k:Int)(m i:Nat):Zhu rs a b xs k (m+1) i=if ZjN rs a b xs k i=true then ZqJ rs i else Zhu rs a b xs k m (i+1):=by
 unfold Zhu
 simp only[Zhp]
 split
 ·rw[if_neg (by omega)]
 ·rw[show i+(m+1)=i+1+m by omega]
theorem ZgW{C:Ctx}(hC:C.P=Tryz.prog)(ms ks rs:List AV)(a b:Int)(xs:List Int)(q:Int)(hg:ZbR rs b xs=true):∀m k:Nat,k+m=rs.length→Ev C (Zet ms ks rs a b xs q rs.length k) (ZdY ms ks rs a b xs q rs.length k) (Zco 91 (Zhu rs a b xs q m k) none)
 |0,k,hk=>tgo hC Zqt Zic (by simp[Zfe,show ¬(k:Int)<rs.length by omega,Zhu,Zhp])
 |m+1,k,hk=>by
  have hlt:(k:Int)<rs.length:=by omega
  have hlt2:k<rs.length:=by omega
  have e0:((rs.getD k .top).cellAt 0).toS=ZaA rs k:=rfl
  have e1:((rs.getD k .top).cellAt 1).toI=Zak rs k 1:=rfl
  have e2:((rs.getD k .top).cellAt 2).toI=Zak rs k 2:=rfl
  have e3:((rs.getD k .top).cellAt 3).toI=Zak rs k 3:=rfl
  have e4:((rs.getD k .top).cellAt 4).toI=Zak rs k 4:=rfl
  have ih:=ZgW hC ms ks rs a b xs q hg m (k+1) (by omega)
  refine tgo hC Zqt Zic ?_
  simp[-List.getD_eq_getElem?_getD,Zfe,e0,e1,e2,e3,e4,hlt,hlt2]
  obtain⟨V,hV⟩:∃V,V=Zhu rs a b xs q (m+1) k:=⟨_,rfl⟩
  rw[←hV]
  rw[Znp]at hV
  simp only[ZjN,ZqJ,decide_eq_true_eq]at hV
  have g:=ZmC hg hlt2
  clear e0 e1 e2 e3 e4 hg
  generalize ZaA rs k=nm at*
  generalize Zak rs k 1=f1 at*
  generalize Zak rs k 2=f2 at*
  generalize Zak rs k 3=f3 at*
  generalize Zak rs k 4=f4 at*
  generalize xs.getD f3.toNat 0=t at*
  have r3: -9223372036854775808≤(k:Int)+1∧(k:Int)+1≤9223372036854775807:=by omega
  have r1:f3≠ -1→(0≤f3∧f3.toNat<xs.length)∧(-9223372036854775808≤b-t∧b-t≤9223372036854775807):=by omega
  have ih':Ev C (Zet ms ks rs a b xs q rs.length (k+1)) (ZdY ms ks rs a b xs q rs.length (k+1)) (Zco 91 (Zhu rs a b xs q m (k+1)) none):=ih
  clear hk hlt hlt2 g ih
  by_cases h1:f1=q<;>by_cases h2:f2= -1<;>by_cases h3:f2=a<;>by_cases h4:f3= -1<;>by_cases h5:t= -1<;>by_cases h6:b-t<f4<;>simp_all<;>(intro h7;omega)
theorem ZoL(ms ks rs:List AV)(a b:Int)(xs:List Int)(q:Int)(hg:ZbR rs b xs=true):Zap Tryz.prog 91 [.eptr (.agg (.gen [.list (.big .str ms), .list (.big (.agg [.str, .int .i64]) ks), .list (.big (.agg [.str, .int .i64, .int .i64, .int .i64, .int .i64]) rs), .int .i64 a, .int .i64 b, .list (.ints .i64 xs)])) 0, .int .i64 q] (Zhu rs a b xs q rs.length 0) none:=
 start (Zwd ms ks rs a b xs q) fun C hC=>tgo hC Zqt ZCz (by
  have:=ZgW hC ms ks rs a b xs q hg rs.length 0 (by omega)
  simpa[ZzS]using this)
def ZCK(c:Bool)(rs:List AV)(a b:Int)(xs:List Int)(q:Int):AV:=match c with |true=>.val (.pointer none) |false=>ZqJ rs (Zhp rs a b xs q rs.length 0)
theorem Zu0{c:Bool}{rs:List AV}{a b:Int}{xs:List Int}{q:Int}(h:Zd0 rs a b xs q=c):ZCK c rs a b xs q=Zhu rs a b xs q rs.length 0:=by
 subst h
 unfold ZCK Zhu Zd0
 by_cases h:Zhp rs a b xs q rs.length 0=rs.length
 ·rw[decide_eq_true h,if_pos (by omega)]
 ·rw[decide_eq_false h,if_neg (by omega)]
def k91b:Ctr:=⟨91,1,fun pa a=>match pa with
 |[]=>none
 |c::_=>(match a with
  |[.eptr (.agg (.gen [.list (.big .str _), .list (.big (.agg [.str, .int .i64]) _), .list (.big (.agg [.str, .int .i64, .int .i64, .int .i64, .int .i64]) rs), .int .i64 a, .int .i64 b, .list (.ints .i64 xs)])) 0, .int .i64 q]=>some (decide (ZbR rs b xs=true∧Zd0 rs a b xs q=c),ZCK c rs a b xs q,none)
  |_=>none)⟩
theorem Zta:k91b.OK Tryz.prog:=fun pa args r fr h=>by
 simp only[k91b]at h
 split at h
 ·cases h
 ·split at h
  ·simp only[Option.some.injEq,Prod.mk.injEq,decide_eq_true_eq]at h
   obtain⟨⟨h0,h1⟩,rfl,rfl⟩:=h
   rw[Zu0 h1]
   exact ZoL _ _ _ _ _ _ _ h0
  ·cases h
def Bc0:List Ctr:=[k91b]++Bb
theorem ZxM:ZaE Tryz.prog Bc0:=⟨Zta,Zqt⟩
def Bc:List Ctr:=[]++Bc0
theorem ZBk:ZaE Tryz.prog Bc:=ZxM
end Go.Proofs.YtkeoeooghhjibaaGreatDoor
/- Paths of functions, printed by the explorer (Gx). No condition. -/
namespace Go.Proofs.YtkeoeooghhjibaaGreatDoor
set_option maxRecDepth 100000
set_option linter.unusedVariables false
def Zso(ms ks rs:List AV)(a t:Int)(xs:List Int)(c d e:Int):AFrame:={ fn:=123,N:=24,env:=[(0,AV.eptr (AV.agg (Row.gen [.list (Row.big .str ms), .list (Row.big (.agg [.str, .int .i64]) ks), .list (Row.big (.agg [.str, .int .i64, .int .i64, .int .i64, .int .i64]) rs), .int .i64 a, .int .i64 t, .list (.ints .i64 xs)])) 0),(1,AV.agg (Row.gen [.int .i64 c, .int .i64 d, .int .i64 e]))],todo:=[.code a123.code],defs:=[],rnd:=none,ret:=false,res:=[ARes.tmp 4] }
def ZDO(ms ks rs:List AV)(a t:Int)(xs:List Int)(c d e:Int):List AFrame:=[(Zso ms ks rs a t xs c d e)]
theorem ZrY(ms ks rs:List AV)(a t:Int)(xs:List Int)(c d e:Int):Zat tab 123 [AV.eptr (AV.agg (Row.gen [.list (Row.big .str ms), .list (Row.big (.agg [.str, .int .i64]) ks), .list (Row.big (.agg [.str, .int .i64, .int .i64, .int .i64, .int .i64]) rs), .int .i64 a, .int .i64 t, .list (.ints .i64 xs)])) 0,AV.agg (Row.gen [.int .i64 c, .int .i64 d, .int .i64 e])]=some (Zso ms ks rs a t xs c d e):=rfl
def ZoU(A:Ar)(K:KT)(F:FT)(ms ks rs:List AV)(a t:Int)(xs:List Int)(c d e:Int):Prop:=qB [decide (ZbR rs t xs=true∧Zd0 rs a t xs c=true),Zab t d e] (F (AV.bool true) (none)) (qB [decide (ZbR rs t xs=true∧Zd0 rs a t xs c=false),Zab t d e] (F (AV.bool false) (none)) (rB [!Zab t d e] (F (AV.bool false) (none))))
theorem ZAM{A:Ar}{K:KT}{F:FT}{M:MT}{ms ks rs:List AV}{a t:Int}{xs:List Int}{c d e:Int} :ZaN A tab Bc 123 K F M (.run 6 (.alt [true,true] (.run 2 (.fn)) (.alt [true,false] (.run 2 (.fn)) (.fy (.run 2 (.fn)))))) (ZDO ms ks rs a t xs c d e) []=ZoU A K F ms ks rs a t xs c d e:=by kernel_rfl
end Go.Proofs.YtkeoeooghhjibaaGreatDoor
/- Contracts as a list. No condition. -/
namespace Go.Proofs.YtkeoeooghhjibaaGreatDoor
def Zjd(rs:List AV)(a t:Int)(xs:List Int)(c d e:Int):Bool:=Zab t d e&&Zd0 rs a t xs c
theorem Zps(ms ks rs:List AV)(a t:Int)(xs:List Int)(c d e:Int)(h:Zab t d e=false∨ZbR rs t xs=true):Zap Tryz.prog 123 [.eptr (.agg (.gen [.list (.big .str ms), .list (.big (.agg [.str, .int .i64]) ks), .list (.big (.agg [.str, .int .i64, .int .i64, .int .i64, .int .i64]) rs), .int .i64 a, .int .i64 t, .list (.ints .i64 xs)])) 0, .agg (.gen [.int .i64 c, .int .i64 d, .int .i64 e])] (.bool (Zjd rs a t xs c d e)) none:=
 start (ZrY ms ks rs a t xs c d e) fun C hC=>tgo hC ZBk ZAM (by
  unfold Zjd
  cases h1:Zab t d e
  ·simp[ZoU,h1]
  ·have hg:ZbR rs t xs=true:=by simpa[h1]using h
   cases h2:Zd0 rs a t xs c<;>simp[ZoU,h1,h2,hg])
def k123:Ctr:=⟨123,0,fun _ a=>match a with |[.eptr (.agg (.gen [.list (.big .str _), .list (.big (.agg [.str, .int .i64]) _), .list (.big (.agg [.str, .int .i64, .int .i64, .int .i64, .int .i64]) rs), .int .i64 a, .int .i64 t, .list (.ints .i64 xs)])) 0, .agg (.gen [.int .i64 c, .int .i64 d, .int .i64 e])]=>some (decide (Zab t d e=false∨ZbR rs t xs=true), .bool (Zjd rs a t xs c d e),none) |_=>none⟩
theorem Ztr:k123.OK Tryz.prog:=fun pa args r fr h=>by
 simp only[k123]at h
 split at h
 ·simp only[Option.some.injEq,Prod.mk.injEq,decide_eq_true_eq]at h
  obtain⟨h0,rfl,rfl⟩:=h
  exact Zps _ _ _ _ _ _ _ _ _ h0
 ·cases h
def Bd:List Ctr:=[k123]++Bc
theorem ZEf:ZaE Tryz.prog Bd:=⟨Ztr,ZBk⟩
end Go.Proofs.YtkeoeooghhjibaaGreatDoor
/- Contracts as a list. No condition. -/
namespace Go.Proofs.YtkeoeooghhjibaaGreatDoor
theorem ZoQ{e n:Int}{l:List AV}(h:ZbL e n l=0):e=0∧0<l.length∧l.length≤12∧∀i<l.length,Zhq n l i=0:=by
 unfold ZbL ZeC at h
 split at h
 ·rename_i hh
  have h0:=firstE_zero.1 hh
  simp only[List.mem_cons,List.not_mem_nil,or_false,forall_eq_or_imp,forall_eq]at h0
  obtain⟨h1,h2,h3⟩:=h0
  have h2:=ZaD h2 (by decide)
  have h3:=ZaD h3 (by decide)
  simp only[decide_eq_true_eq]at h2 h3
  refine⟨h1,by omega,by omega,fun i hi=>?_⟩
  have key:∀(m k:Nat),k+m=l.length→pE (Zfw (Zhq n l) m k)=0→∀i,k≤i→i<l.length→Zhq n l i=0:=by
   intro m
   induction m with
   |zero=>intro k hk _ i hi1 hi2;omega
   |succ m ih=>
    intro k hk hs i hi1 hi2
    rw[Zfw]at hs
    split at hs
    ·rename_i hz
     by_cases hik:i=k
     ·rw[hik];exact hz
     ·exact ih (k+1) (by omega) hs i (by omega) hi2
    ·rename_i hz;exact absurd hs hz
  exact key l.length 0 (by omega) h i (by omega) hi
 ·rename_i hh;exact absurd h hh
theorem ZqQ{n:Int}{l:List AV}{i:Nat}(h:Zhq n l i=0):(0≤Zak l i 0∧Zak l i 0<n)∧(0≤Zak l i 1∧Zak l i 1≤1000000000000)∧(0≤Zak l i 2∧Zak l i 2≤1000000000000)∧Zak l i 1≤Zak l i 2:=by
 unfold Zhq Zmb at h
 have h0:=firstE_zero.1 h
 simp only[List.mem_cons,List.not_mem_nil,or_false,forall_eq_or_imp,forall_eq]at h0
 obtain⟨h1,h2,h3⟩:=h0
 have h1:=within_iff.1 (ZaD h1 (by decide))
 have h2:=ZaD h2 (by decide)
 have h3:=ZaD h3 (by decide)
 simp only[Bool.and_eq_true,within_iff,decide_eq_true_eq]at h2 h3
 omega
structure OkF (ms ks rs l:List AV):Prop where
 model:Zaz ms ks rs=0
 ks1:1≤ks.length∧ks.length≤8
 rs1:rs.length≤10
 l1:0<l.length∧l.length≤12
 act:∀i<l.length,(0≤Zak l i 0∧Zak l i 0<ks.length)∧(0≤Zak l i 1∧Zak l i 1≤1000000000000)∧(0≤Zak l i 2∧Zak l i 2≤1000000000000)∧Zak l i 1≤Zak l i 2
 rule:∀i<rs.length,(0≤Zak rs i 1∧Zak rs i 1<ks.length)∧(-1≤Zak rs i 3∧Zak rs i 3<ks.length)∧(1≤Zak rs i 4∧Zak rs i 4≤1000000)
 name:∀i<rs.length,ZaT (ZaA rs i)=true
theorem okF{ms ks rs l:List AV}(h:ZlD ms ks rs l=0):OkF ms ks rs l:=by
 obtain⟨h1,h2,h3,h4⟩:=ZoQ h
 obtain⟨g1,g2,g3,_,_,g6⟩:=ZdL h1
 exact⟨h1,g2,g3,⟨h2,h3⟩,fun i hi=>ZqQ (h4 i hi),fun i hi=>⟨(ZeV (g6 i hi).2).1,(ZeV (g6 i hi).2).2.2.1,(ZeV (g6 i hi).2).2.2.2.1⟩,fun i hi=>(g6 i hi).1⟩
def Be:List Ctr:=Bd
theorem ZEg:ZaE Tryz.prog Be:=ZEf
end Go.Proofs.YtkeoeooghhjibaaGreatDoor
/- Contracts as a list. No condition. -/
namespace Go.Proofs.YtkeoeooghhjibaaGreatDoor
structure OkT (ks:List AV) (t:Int) (xs:List Int):Prop where
 len:xs.length=ks.length
 all:∀x∈xs, -1≤x∧x≤t
 lo:0≤t
 hi:t≤1000000000000
theorem OkT.at{ks:List AV}{t:Int}{xs:List Int}(h:OkT ks t xs){k:Nat}(hk:k<xs.length): -1≤xs.getD k 0∧xs.getD k 0≤t:=by
 refine h.all _ ?_
 rw[List.getD_eq_getElem?_getD,List.getElem?_eq_getElem hk];exact List.getElem_mem hk
theorem OkT.set{ks:List AV}{t t':Int}{xs:List Int}(h:OkT ks t xs)(h1:t≤t')(h2:t'≤1000000000000)(k:Nat):OkT ks t' (xs.set k t'):=by
 refine⟨by simpa using h.len,fun x hx=>?_,by have:=h.lo;omega,h2⟩
 rcases List.mem_or_eq_of_mem_set hx with hx |rfl
 ·have:=h.all x hx;omega
 ·have:=h.lo;omega
theorem OkT.forb{ms ks rs l:List AV}(hf:OkF ms ks rs l){t t':Int}{xs:List Int}(h:OkT ks t xs)(h1:t≤t')(h2:t'≤1000000000000):ZbR rs t' xs=true:=by
 simp only[ZbR,Bool.and_eq_true,List.all_eq_true,decide_eq_true_eq,List.mem_range]
 refine⟨⟨fun i hi=>?_,fun x hx=>?_⟩,by have:=h.lo;omega,h2,by have:=hf.rs1;omega⟩
 ·have:=(hf.rule i hi).2.1;have:=h.len;omega
 ·have:=h.all x hx;omega
section
variable {C:Ctx}(hC:C.P=Tryz.prog)(ms ks rs l:List AV)(hf:OkF ms ks rs l)
include hC hf
end
theorem ZGU{ms ks rs l:List AV}(_:OkF ms ks rs l):OkT ks 0 (List.replicate ks.length (-1)):=⟨by simp,fun x hx=>by rw[List.eq_of_mem_replicate hx];omega,by omega,by omega⟩
def Bf:List Ctr:=Be
theorem ZEO:ZaE Tryz.prog Bf:=ZEg
end Go.Proofs.YtkeoeooghhjibaaGreatDoor
/- The earliest time: the least feasible candidate. No condition. -/
namespace Go.Proofs.YtkeoeooghhjibaaGreatDoor
theorem Zjo{rs:List AV}{a t:Int}{xs:List Int}{c:Int} :∀(m i:Nat),Zhp rs a t xs c m i=i+m↔∀j,i≤j→j<i+m→ZjN rs a t xs c j=false
 |0,i=>⟨fun _ j h1 h2=>by omega,fun _=>rfl⟩
 |m+1,i=>by
  unfold Zhp
  have ih:=Zjo (rs:=rs) (a:=a) (t:=t) (xs:=xs) (c:=c) m (i+1)
  constructor
  ·intro h j h1 h2
   split at h
   ·omega
   ·rename_i hb
    by_cases hj:j=i
    ·subst hj;simpa using hb
    ·exact ih.1 (by omega) j (by omega) (by omega)
  ·intro h
   rw[if_neg (by rw[h i (by omega) (by omega)];simp)]
   have:=ih.2 fun j h1 h2=>h j (by omega) (by omega)
   omega
theorem ZmS{rs:List AV}{a t:Int}{xs:List Int}{c:Int} :Zd0 rs a t xs c=true↔∀i<rs.length,ZjN rs a t xs c i=false:=by
 unfold Zd0
 rw[decide_eq_true_eq]
 have:=Zjo (rs:=rs) (a:=a) (t:=t) (xs:=xs) (c:=c) rs.length 0
 rw[Nat.zero_add]at this
 rw[this]
 exact⟨fun h i hi=>h i (Nat.zero_le _) hi,fun h j _ hj=>h j hj⟩
theorem Zj0{rs:List AV}{a t:Int}{xs:List Int}{c:Int}(hn:∀i<rs.length,ZaA rs i≠[]):∀(m i:Nat),i+m=rs.length→(Zf3 rs a t xs c m i=[]↔∀j,i≤j→j<rs.length→ZjN rs a t xs c j=false)
 |0,i,h=>⟨fun _ j h1 h2=>by omega,fun _=>rfl⟩
 |m+1,i,h=>by
  unfold Zf3
  have ih:=Zj0 (a:=a) (t:=t) (xs:=xs) (c:=c) hn m (i+1) (by omega)
  constructor
  ·intro hh j h1 h2
   split at hh
   ·exact absurd hh (hn i (by omega))
   ·rename_i hb
    by_cases hj:j=i
    ·subst hj;simpa using hb
    ·exact ih.1 hh j (by omega) h2
  ·intro hh
   rw[if_neg (by rw[hh i (by omega) (by omega)];simp)]
   exact ih.2 fun j h1 h2=>hh j (by omega) h2
theorem ZmM{rs:List AV}{a t:Int}{xs:List Int}{c:Int}(hn:∀i<rs.length,ZaA rs i≠[]):Zf3 rs a t xs c rs.length 0=[]↔Zd0 rs a t xs c=true:=by
 rw[Zj0 hn rs.length 0 (by omega),ZmS]
 exact⟨fun h i hi=>h i (Nat.zero_le _) hi,fun h j _ hj=>h j hj⟩
end Go.Proofs.YtkeoeooghhjibaaGreatDoor
/- Contracts as a list. No condition. -/
namespace Go.Proofs.YtkeoeooghhjibaaGreatDoor
def ZHe(rs:List AV)(b:Int)(xs:List Int)(d e:Int):Bool:=ZbR rs b xs&&((List.range rs.length).all fun i=>decide (1≤Zak rs i 4∧Zak rs i 4≤1000000∧ZaA rs i≠[]))&&decide (0≤d∧d≤1000000000000∧e≤1000000000000)
section
variable {C:Ctx}(hC:C.P=Tryz.prog)(ms ks rs:List AV)(a b:Int)(xs:List Int)(c d e:Int)(hg:ZHe rs b xs d e=true)
include hC hg
end
def Bg:List Ctr:=Bf
theorem ZDl:ZaE Tryz.prog Bg:=ZEO
end Go.Proofs.YtkeoeooghhjibaaGreatDoor
/- Contracts as a list. No condition. -/
namespace Go.Proofs.YtkeoeooghhjibaaGreatDoor
def tfG(ks rs l:List AV)(b:Int)(xs:List Int):Bool:=ZbR rs b xs&&((List.range rs.length).all fun i=>decide (1≤Zak rs i 4∧Zak rs i 4≤1000000∧ZaA rs i≠[]))&&((List.range l.length).all fun i=>decide ((0≤Zak l i 0∧Zak l i 0<ks.length)∧(0≤Zak l i 1∧Zak l i 1≤1000000000000)∧Zak l i 2≤1000000000000))&&decide (xs.length=ks.length∧xs.length≤1000000∧l.length≤1000000)
structure OkX (ks rs l:List AV) (b:Int) (xs:List Int):Prop where
 forb:ZbR rs b xs=true
 rule:∀i<rs.length,1≤Zak rs i 4∧Zak rs i 4≤1000000∧ZaA rs i≠[]
 act:∀i<l.length,(0≤Zak l i 0∧Zak l i 0<ks.length)∧(0≤Zak l i 1∧Zak l i 1≤1000000000000)∧Zak l i 2≤1000000000000
 len:xs.length=ks.length∧xs.length≤1000000∧l.length≤1000000
theorem tfG_iff{ks rs l:List AV}{b:Int}{xs:List Int} :tfG ks rs l b xs=true↔OkX ks rs l b xs:=by
 simp only[tfG,Bool.and_eq_true,List.all_eq_true,decide_eq_true_eq,List.mem_range]
 exact⟨fun h=>⟨h.1.1.1,h.1.1.2,h.1.2,h.2⟩,fun h=>⟨⟨⟨h.forb,h.rule⟩,h.act⟩,h.len⟩⟩
theorem OkX.next{ks rs l:List AV}{b t:Int}{xs:List Int}(h:OkX ks rs l b xs)(h1:b≤t)(h2:t≤1000000000000)(k:Nat):OkX ks rs l t (xs.set k t):=by
 refine⟨?_,h.rule,h.act,by simpa using h.len⟩
 have hf:=h.forb
 simp only[ZbR,Bool.and_eq_true,List.all_eq_true,decide_eq_true_eq,List.mem_range]at hf⊢
 refine⟨⟨fun i hi=>by simpa using hf.1.1 i hi,fun x hx=>?_⟩,by omega,h2,hf.2.2.2⟩
 rcases List.mem_or_eq_of_mem_set hx with hx |rfl
 ·have:=hf.1.2 x hx;omega
 ·omega
section
variable {C:Ctx}(hC:C.P=Tryz.prog)(ms ks rs l:List AV)
include hC
end
def Bh:List Ctr:=Bg
theorem ZCM:ZaE Tryz.prog Bh:=ZDl
end Go.Proofs.YtkeoeooghhjibaaGreatDoor
/- Contracts as a list. No condition. -/
namespace Go.Proofs.YtkeoeooghhjibaaGreatDoor
theorem Zo8{s:List UInt8}(h:ZaT s=true):s≠[]:=fun e=>by subst e;revert h;decide
theorem OkF.tf{ms ks rs l:List AV}(hf:OkF ms ks rs l):tfG ks rs l 0 (List.replicate ks.length (-1))=true:=by
 have hT:=ZGU hf
 refine tfG_iff.2 ⟨hT.forb (ms:=ms) (l:=l) hf (Int.le_refl _) (by omega),fun i hi=>?_,fun i hi=>?_,?_⟩
 ·have:=(hf.rule i hi).2.2
  exact⟨this.1,this.2,Zo8 (hf.name i hi)⟩
 ·have:=hf.act i hi;omega
 ·have:=hf.ks1;have:=hf.l1;simp;omega
def Bi:List Ctr:=Bh
theorem Zhs:ZaE Tryz.prog Bi:=ZCM
end Go.Proofs.YtkeoeooghhjibaaGreatDoor
/- Paths of functions, printed by the explorer (Gx). No condition. -/
namespace Go.Proofs.YtkeoeooghhjibaaGreatDoor
set_option maxRecDepth 100000
set_option linter.unusedVariables false
def Zsf(xs:List Int):AFrame:={ fn:=140,N:=8,env:=[(0,AV.list (.ints .i64 xs))],todo:=[.code a140.code],defs:=[],rnd:=none,ret:=false,res:=[ARes.tmp 2] }
def ZCF(xs:List Int):List AFrame:=[(Zsf xs)]
theorem ZqS(xs:List Int):Zat tab 140 [AV.list (.ints .i64 xs)]=some (Zsf xs):=rfl
def ZsB(A:Ar)(K:KT)(F:FT)(xs:List Int):Prop:=rB [Nat.blt 0 (A.len xs)] (rB [Nat.ble (0+A.len xs) 4294967296,List.all [] fun x=>AV.bx x&&Nat.beq (Zad A x) 1] (F (AV.row 0 0) (some { e:=3,sz:=1,r:=.ints .i64 xs })))
theorem ZyZ{A:Ar}{K:KT}{F:FT}{M:MT}{xs:List Int} :ZaN A tab Bi 140 K F M (.run 10 (.fy (.run 9 (.fn)))) (ZCF xs) []=ZsB A K F xs:=by kernel_rfl
def Zpi(cap:Nat):AFrame:={ fn:=140,N:=8,env:=[(0,AV.val (Go.Value.slice none 0 cap))],todo:=[.code a140.code],defs:=[],rnd:=none,ret:=false,res:=[ARes.tmp 2] }
def ZAv(cap:Nat):List AFrame:=[(Zpi cap)]
theorem ZnZ(cap:Nat):Zat tab 140 [AV.val (Go.Value.slice none 0 cap)]=some (Zpi cap):=rfl
def Zn2(A:Ar)(K:KT)(F:FT)(cap:Nat):Prop:=F (AV.nils) (none)
theorem Zu2{A:Ar}{K:KT}{F:FT}{M:MT}{cap:Nat} :ZaN A tab Bi 140 K F M (.run 10 (.ty (.run 5 (.fn)))) (ZAv cap) []=Zn2 A K F cap:=by kernel_rfl
def ZoJ(ad:Go.Addr)(cap:Nat):AFrame:={ fn:=140,N:=8,env:=[(0,AV.val (Go.Value.slice (some ad) 0 cap))],todo:=[.code a140.code],defs:=[],rnd:=none,ret:=false,res:=[ARes.tmp 2] }
def ZyD(ad:Go.Addr)(cap:Nat):List AFrame:=[(ZoJ ad cap)]
theorem ZnQ(ad:Go.Addr)(cap:Nat):Zat tab 140 [AV.val (Go.Value.slice (some ad) 0 cap)]=some (ZoJ ad cap):=rfl
def ZnW(A:Ar)(K:KT)(F:FT)(ad:Go.Addr)(cap:Nat):Prop:=rB [List.all [] fun x=>AV.bx x&&Nat.beq (Zad A x) 1] (F (AV.row 0 0) (some { e:=3,sz:=1,r:=Row.gen [] }))
theorem Zv9{A:Ar}{K:KT}{F:FT}{M:MT}{ad:Go.Addr}{cap:Nat} :ZaN A tab Bi 140 K F M (.run 10 (.fy (.run 9 (.fn)))) (ZyD ad cap) []=ZnW A K F ad cap:=by kernel_rfl
def ZsI(xs:List AV):AFrame:={ fn:=153,N:=8,env:=[(0,AV.list (Row.big (.agg [.int .i64, .int .i64]) xs))],todo:=[.code a153.code],defs:=[],rnd:=none,ret:=false,res:=[ARes.tmp 2] }
def ZDT(xs:List AV):List AFrame:=[(ZsI xs)]
theorem Zqp(xs:List AV):Zat tab 153 [AV.list (Row.big (.agg [.int .i64, .int .i64]) xs)]=some (ZsI xs):=rfl
def Zs2(A:Ar)(K:KT)(F:FT)(xs:List AV):Prop:=rB [Nat.blt 0 (A.lenA xs)] (rB [Nat.ble (0+A.lenA xs) 4294967296,List.all [] fun x=>AV.bx x&&Nat.beq (Zad A x) 2] (F (AV.row 0 0) (some { e:=78,sz:=2,r:=Row.big (.agg [.int .i64, .int .i64]) xs })))
theorem ZyV{A:Ar}{K:KT}{F:FT}{M:MT}{xs:List AV} :ZaN A tab Bi 153 K F M (.run 10 (.fy (.run 9 (.fn)))) (ZDT xs) []=Zs2 A K F xs:=by kernel_rfl
def ZnN(cap:Nat):AFrame:={ fn:=153,N:=8,env:=[(0,AV.val (Go.Value.slice none 0 cap))],todo:=[.code a153.code],defs:=[],rnd:=none,ret:=false,res:=[ARes.tmp 2] }
def Zzo(cap:Nat):List AFrame:=[(ZnN cap)]
theorem ZpS(cap:Nat):Zat tab 153 [AV.val (Go.Value.slice none 0 cap)]=some (ZnN cap):=rfl
def Zpp(A:Ar)(K:KT)(F:FT)(cap:Nat):Prop:=F (AV.nils) (none)
theorem Zv6{A:Ar}{K:KT}{F:FT}{M:MT}{cap:Nat} :ZaN A tab Bi 153 K F M (.run 10 (.ty (.run 5 (.fn)))) (Zzo cap) []=Zpp A K F cap:=by kernel_rfl
def Zo4(ad:Go.Addr)(cap:Nat):AFrame:={ fn:=153,N:=8,env:=[(0,AV.val (Go.Value.slice (some ad) 0 cap))],todo:=[.code a153.code],defs:=[],rnd:=none,ret:=false,res:=[ARes.tmp 2] }
def Zx7(ad:Go.Addr)(cap:Nat):List AFrame:=[(Zo4 ad cap)]
theorem ZpU(ad:Go.Addr)(cap:Nat):Zat tab 153 [AV.val (Go.Value.slice (some ad) 0 cap)]=some (Zo4 ad cap):=rfl
def Zoo(A:Ar)(K:KT)(F:FT)(ad:Go.Addr)(cap:Nat):Prop:=rB [List.all [] fun x=>AV.bx x&&Nat.beq (Zad A x) 2] (F (AV.row 0 0) (some { e:=78,sz:=2,r:=Row.gen [] }))
theorem Zwa{A:Ar}{K:KT}{F:FT}{M:MT}{ad:Go.Addr}{cap:Nat} :ZaN A tab Bi 153 K F M (.run 10 (.fy (.run 9 (.fn)))) (Zx7 ad cap) []=Zoo A K F ad cap:=by kernel_rfl
def Zsb(xs:List AV):AFrame:={ fn:=154,N:=8,env:=[(0,AV.list (Row.big (.agg [.int .i64, .bool]) xs))],todo:=[.code a154.code],defs:=[],rnd:=none,ret:=false,res:=[ARes.tmp 2] }
def ZCN(xs:List AV):List AFrame:=[(Zsb xs)]
theorem ZqK(xs:List AV):Zat tab 154 [AV.list (Row.big (.agg [.int .i64, .bool]) xs)]=some (Zsb xs):=rfl
def Zsx(A:Ar)(K:KT)(F:FT)(xs:List AV):Prop:=rB [Nat.blt 0 (A.lenA xs)] (rB [Nat.ble (0+A.lenA xs) 4294967296,List.all [] fun x=>AV.bx x&&Nat.beq (Zad A x) 2] (F (AV.row 0 0) (some { e:=129,sz:=2,r:=Row.big (.agg [.int .i64, .bool]) xs })))
theorem ZzL{A:Ar}{K:KT}{F:FT}{M:MT}{xs:List AV} :ZaN A tab Bi 154 K F M (.run 10 (.fy (.run 9 (.fn)))) (ZCN xs) []=Zsx A K F xs:=by kernel_rfl
def ZpT(cap:Nat):AFrame:={ fn:=154,N:=8,env:=[(0,AV.val (Go.Value.slice none 0 cap))],todo:=[.code a154.code],defs:=[],rnd:=none,ret:=false,res:=[ARes.tmp 2] }
def ZAZ(cap:Nat):List AFrame:=[(ZpT cap)]
theorem Zpa(cap:Nat):Zat tab 154 [AV.val (Go.Value.slice none 0 cap)]=some (ZpT cap):=rfl
def Zov(A:Ar)(K:KT)(F:FT)(cap:Nat):Prop:=F (AV.nils) (none)
theorem ZuV{A:Ar}{K:KT}{F:FT}{M:MT}{cap:Nat} :ZaN A tab Bi 154 K F M (.run 10 (.ty (.run 5 (.fn)))) (ZAZ cap) []=Zov A K F cap:=by kernel_rfl
def Zp4(ad:Go.Addr)(cap:Nat):AFrame:={ fn:=154,N:=8,env:=[(0,AV.val (Go.Value.slice (some ad) 0 cap))],todo:=[.code a154.code],defs:=[],rnd:=none,ret:=false,res:=[ARes.tmp 2] }
def Zye(ad:Go.Addr)(cap:Nat):List AFrame:=[(Zp4 ad cap)]
theorem ZoT(ad:Go.Addr)(cap:Nat):Zat tab 154 [AV.val (Go.Value.slice (some ad) 0 cap)]=some (Zp4 ad cap):=rfl
def Zo0(A:Ar)(K:KT)(F:FT)(ad:Go.Addr)(cap:Nat):Prop:=rB [List.all [] fun x=>AV.bx x&&Nat.beq (Zad A x) 2] (F (AV.row 0 0) (some { e:=129,sz:=2,r:=Row.gen [] }))
theorem Zwb{A:Ar}{K:KT}{F:FT}{M:MT}{ad:Go.Addr}{cap:Nat} :ZaN A tab Bi 154 K F M (.run 10 (.fy (.run 9 (.fn)))) (Zye ad cap) []=Zo0 A K F ad cap:=by kernel_rfl
end Go.Proofs.YtkeoeooghhjibaaGreatDoor
/- Contracts as a list. No condition. -/
namespace Go.Proofs.YtkeoeooghhjibaaGreatDoor
theorem ZkZ(xs:List Int)(h:xs.length≤1000000):Zap Tryz.prog 140 [.list (.ints .i64 xs)] (.row 0 0) (some ⟨3,1, .ints .i64 xs⟩):=by
 by_cases h0:xs=[]
 ·subst h0
  refine Zfg rfl fun ad cap=>?_
  cases ad with
  |none=>exact Zi0 (r0:=.nils) (start (ZnZ cap) fun C hC=>tgo hC Zhs Zu2 (by simp[Zn2])) rfl rfl (by omega)
  |some ad=>exact Ziz (r:=.gen []) (start (ZnQ ad cap) fun C hC=>tgo hC Zhs Zv9 (by simp[ZnW])) (by omega) rfl
 ·have:=List.length_pos_iff.2 h0
  exact start (ZqS xs) fun C hC=>tgo hC Zhs ZyZ (by simp[ZsB];omega)
theorem Zlp(xs:List AV)(h:xs.length≤1000000):Zap Tryz.prog 153 [.list (.big (.agg [.int .i64, .int .i64]) xs)] (.row 0 0) (some ⟨78,2, .big (.agg [.int .i64, .int .i64]) xs⟩):=by
 by_cases h0:xs=[]
 ·subst h0
  refine Zfg rfl fun ad cap=>?_
  cases ad with
  |none=>exact Zi0 (r0:=.nils) (start (ZpS cap) fun C hC=>tgo hC Zhs Zv6 (by simp[Zpp])) rfl rfl (by omega)
  |some ad=>exact Ziz (r:=.gen []) (start (ZpU ad cap) fun C hC=>tgo hC Zhs Zwa (by simp[Zoo])) (by omega) rfl
 ·have:=List.length_pos_iff.2 h0
  exact start (Zqp xs) fun C hC=>tgo hC Zhs ZyV (by simp[Zs2];omega)
theorem ZkR(xs:List AV)(h:xs.length≤1000000):Zap Tryz.prog 154 [.list (.big (.agg [.int .i64, .bool]) xs)] (.row 0 0) (some ⟨129,2, .big (.agg [.int .i64, .bool]) xs⟩):=by
 by_cases h0:xs=[]
 ·subst h0
  refine Zfg rfl fun ad cap=>?_
  cases ad with
  |none=>exact Zi0 (r0:=.nils) (start (Zpa cap) fun C hC=>tgo hC Zhs ZuV (by simp[Zov])) rfl rfl (by omega)
  |some ad=>exact Ziz (r:=.gen []) (start (ZoT ad cap) fun C hC=>tgo hC Zhs Zwb (by simp[Zo0])) (by omega) rfl
 ·have:=List.length_pos_iff.2 h0
  exact start (ZqK xs) fun C hC=>tgo hC Zhs ZzL (by simp[Zsx];omega)
def k140:Ctr:=⟨140,0,fun _ a=>match a with |[.list (.ints .i64 xs)]=>some (decide (xs.length≤1000000), .row 0 0,some ⟨3,1, .ints .i64 xs⟩) |_=>none⟩
theorem ZuR:k140.OK Tryz.prog:=fun pa args r fr h=>by
 simp only[k140]at h
 split at h
 ·simp only[Option.some.injEq,Prod.mk.injEq,decide_eq_true_eq]at h
  obtain⟨h0,rfl,rfl⟩:=h
  exact ZkZ _ h0
 ·cases h
def k153:Ctr:=⟨153,0,fun _ a=>match a with |[.list (.big (.agg [.int .i64, .int .i64]) xs)]=>some (decide (xs.length≤1000000), .row 0 0,some ⟨78,2, .big (.agg [.int .i64, .int .i64]) xs⟩) |_=>none⟩
theorem ZuJ:k153.OK Tryz.prog:=fun pa args r fr h=>by
 simp only[k153]at h
 split at h
 ·simp only[Option.some.injEq,Prod.mk.injEq,decide_eq_true_eq]at h
  obtain⟨h0,rfl,rfl⟩:=h
  exact Zlp _ h0
 ·cases h
def k154:Ctr:=⟨154,0,fun _ a=>match a with |[.list (.big (.agg [.int .i64, .bool]) xs)]=>some (decide (xs.length≤1000000), .row 0 0,some ⟨129,2, .big (.agg [.int .i64, .bool]) xs⟩) |_=>none⟩
theorem Zuv:k154.OK Tryz.prog:=fun pa args r fr h=>by
 simp only[k154]at h
 split at h
 ·simp only[Option.some.injEq,Prod.mk.injEq,decide_eq_true_eq]at h
  obtain⟨h0,rfl,rfl⟩:=h
  exact ZkR _ h0
 ·cases h
def Bj:List Ctr:=[k140,k153,k154]++Bi
theorem ZEH:ZaE Tryz.prog Bj:=⟨ZuR,⟨ZuJ,⟨Zuv,Zhs⟩⟩⟩
end Go.Proofs.YtkeoeooghhjibaaGreatDoor
/- Contracts as a list. No condition. -/
namespace Go.Proofs.YtkeoeooghhjibaaGreatDoor
def Zv2(ks l:List AV):Nat→Nat→Int→Int
 |0,_,a=>a
 |m+1,i,a=>Zv2 ks l m (i+1) (exM ks a (Zak l i 0))
def Zlv(l dn:List AV):Nat→Nat→List Int→List Int
 |0,_,xs=>xs
 |m+1,i,xs=>Zlv l dn m (i+1) (xs.set (Zak l i 0).toNat (Zak dn i 1))
def Bk:List Ctr:=Bj
theorem ZDx:ZaE Tryz.prog Bk:=ZEH
end Go.Proofs.YtkeoeooghhjibaaGreatDoor
/- Contracts as a list. No condition. -/
namespace Go.Proofs.YtkeoeooghhjibaaGreatDoor
def m0L(ks l dn:List AV)(i:Nat):List Int:=Zlv l dn i 0 (List.replicate ks.length (-1))
def m0A(ks l:List AV)(i:Nat):Int:=Zv2 ks l i 0 0
def ZcX(rs ks l dn:List AV)(at0:Int):Nat→Nat→Int
 |0,_=>0
 |m+1,i=>if Zak dn i 0=i∧Zak dn i 1≤at0∧(0<i→Zak dn (i-1:Nat) 1≤Zak dn i 1)then
   (if Zjd rs (m0A ks l i) (Zak dn i 1) (m0L ks l dn i) (Zak l i 0) (Zak l i 1) (Zak l i 2)=true then ZcX rs ks l dn at0 m (i+1)else 26)
  else 9
def Zda(n:Int):List Int→Int
 |[]=>0
 |x::xs=>if Zab x 0 (n-1)=true then Zda n xs else 6
def upR(n:Int)(ha:Bool):List AV→Int
 |[]=>0
 |x::xs=>if Zab (x.cellAt 0).toI 0 n=true then(if (x.cellAt 1).toB=true∧¬(ha=true∧(x.cellAt 0).toI=n)then 3 else upR n ha xs)else 2
def Znu(ks l:List AV)(mo:Int)(dn:List AV)(ha:Bool)(ba:Int)(to:Bool)(dw:List Int)(up:List AV):Int:=
 if mo=m0A ks l dn.length then
  (if ha=true∧dn.length=l.length then 21 else
    (if Zab ba 0 dn.length=true then
      (if to=true∧¬(ha=true∧ba=dn.length)then 3 else
        (if Zda l.length dw=0 then upR dn.length ha up else Zda l.length dw))
    else 2))
 else 3
def stE(ks rs l:List AV)(fl at0 mo:Int)(dn:List AV)(ha:Bool)(ba:Int)(to:Bool)(dw:List Int)(up:List AV):Int:=
 if Zab at0 0 1000000000000=true then
  (if dn.length≤l.length∧(dw.length:Int)≤fl∧(up.length:Int)≤fl then
    (if ZcX rs ks l dn at0 dn.length 0=0 then Znu ks l mo dn ha ba to dw up else ZcX rs ks l dn at0 dn.length 0)
  else 8)
 else 2
theorem Zjz(ks l:List AV):∀(m i:Nat) (a:Int),Zv2 ks l (m+1) i a=exM ks (Zv2 ks l m i a) (Zak l (i+m:Nat) 0)
 |0,i,a=>rfl
 |m+1,i,a=>by
  rw[Zv2,Zjz ks l m (i+1),Zv2,show i+1+m=i+(m+1) by omega]
theorem Zkl(l dn:List AV):∀(m i:Nat) (xs:List Int),Zlv l dn (m+1) i xs=(Zlv l dn m i xs).set (Zak l (i+m:Nat) 0).toNat (Zak dn (i+m:Nat) 1)
 |0,i,xs=>rfl
 |m+1,i,xs=>by
  rw[Zlv,Zkl l dn m (i+1),Zlv,show i+1+m=i+(m+1) by omega]
theorem Zkg(l dn:List AV)(n:Nat):∀(m i:Nat) (xs:List Int),i+m≤n→Zlv l (dn.take n) m i xs=Zlv l dn m i xs
 |0,i,xs,_=>rfl
 |m+1,i,xs,h=>by
  rw[Zlv,Zlv,Zkg l dn n m (i+1) _ (by omega)]
  have:Zak (dn.take n) i 1=Zak dn i 1:=by
   unfold Zak
   rw[List.getD_eq_getElem?_getD,List.getD_eq_getElem?_getD,Int.toNat_natCast,List.getElem?_take,if_pos (by omega)]
  rw[this]
theorem Zf9(ks l:List AV)(i:Nat):m0A ks l (i+1)=exM ks (m0A ks l i) (Zak l i 0):=by
 unfold m0A;rw[Zjz,Nat.zero_add]
theorem ZiS(ks l dn:List AV)(i:Nat):m0L ks l dn (i+1)=(m0L ks l dn i).set (Zak l i 0).toNat (Zak dn i 1):=by
 unfold m0L;rw[Zkl,Nat.zero_add]
def m0T(dn:List AV):Nat→Int
 |0=>0
 |i+1=>Zak dn i 1
theorem okD{ms ks rs l:List AV}(hf:OkF ms ks rs l)(dn:List AV){i:Nat}(h:OkT ks (m0T dn i) (m0L ks l dn i)){at0:Int}(hat:at0≤1000000000000)(h1:Zak dn i 1≤at0)(h2:0<i→Zak dn (i-1:Nat) 1≤Zak dn i 1)(hw:Zab (Zak dn i 1) (Zak l i 1) (Zak l i 2)=true)(hl:i<l.length):
 ZbR rs (Zak dn i 1) (m0L ks l dn i)=true∧OkT ks (m0T dn (i+1)) (m0L ks l dn (i+1)):=by
 have hw:=within_iff.1 hw
 obtain⟨_,hb,_⟩:=hf.act i hl
 have hge:m0T dn i≤Zak dn i 1:=by
  cases i with
  |zero=>simp only[m0T];omega
  |succ i=>have:=h2 (by omega);simpa[m0T]using this
 refine⟨h.forb (ms:=ms) (l:=l) hf hge (by omega),?_⟩
 rw[ZiS]
 exact h.set hge (by omega) _
theorem ZFm(ks l dn:List AV):OkT ks (m0T dn 0) (m0L ks l dn 0):=⟨by simp[m0L,Zlv],fun x hx=>by simp[m0L,Zlv]at hx;rw[hx.2];simp[m0T],by simp[m0T],by simp[m0T]⟩
theorem Zc7{ms ks rs l:List AV}{wn fl:Int}(h:upE ms ks rs l wn fl=0):OkF ms ks rs l∧(1≤wn∧wn≤6)∧1≤fl∧fl≤6:=by
 unfold upE at h
 split at h
 ·rename_i hf
  split at h
  ·rename_i hw
   have h1:=within_iff.1 hw.1
   have h2:=within_iff.1 hw.2
   exact⟨okF hf,h1,h2⟩
  ·cases h
 ·rename_i hf;exact absurd h hf
section
variable {C:Ctx}(hC:C.P=Tryz.prog)(ms ks rs l:List AV)(wn fl:Int)(at0 mo:Int)(dn:List AV)(ha:Bool)(ba:Int)(to:Bool)(dw:List Int)(up:List AV)
include hC
end
def Bl:List Ctr:=Bk
theorem ZDG:ZaE Tryz.prog Bl:=ZDx
end Go.Proofs.YtkeoeooghhjibaaGreatDoor
/- Contracts as a list. No condition. -/
namespace Go.Proofs.YtkeoeooghhjibaaGreatDoor
theorem Zom{P:Program}{f:FuncId}{args args':List AV}{r:AV}{fr:Option Fresh}(h:Zap P f args r fr)(hw:WkA args' args):Zap P f args' r fr:=fun w okA L vs hargs hok=>
 h w okA L vs ⟨by rw[←hw.spec.1];exact hargs.1,fun j y v hy hv=>by
  have hj:j<args'.length:=by rw[hw.spec.1];exact(List.getElem?_eq_some_iff.1 hy).1
  exact(hw.spec.2 j _ y (List.getElem?_eq_getElem hj) hy).rel (hargs.2 j _ v (List.getElem?_eq_getElem hj) hv)⟩ hok
theorem ZF2(a b c d e:Int):([AV.int .i64 a,AV.int .i64 b,AV.int .i64 c,AV.int .i64 d,AV.int .i64 e].all fun x=>AV.bx x&&Nat.beq (Zad std x) 1)=true:=rfl
section
variable {C:Ctx}(hC:C.P=Tryz.prog)(ms ks rs l:List AV)(wn fl:Int)(at0 mo:Int)(dn:List AV)(ha:Bool)(ba:Int)(to:Bool)(dw:List Int)(up:List AV)
include hC
end
def ZqN(mo n3:Int)(ha:Bool)(d ll ba:Int)(to:Bool):Int:=if mo=n3 then(if ha=true∧¬d<ll then 21 else if Zab ba 0 d=true then(if to=true∧¬(ha=true∧ba=d)then 3 else 0)else 2)else 3
section
variable {C:Ctx}(hC:C.P=Tryz.prog)(ms ks rs l:List AV)(wn fl:Int)(at0 mo:Int)(dn:List AV)(ha:Bool)(ba:Int)(to:Bool)(dw:List Int)(up:List AV)
include hC
end
theorem Zrk(ks l:List AV)(mo:Int)(dn:List AV)(ha:Bool)(ba:Int)(to:Bool)(dw:List Int)(up:List AV)(h:dn.length≤l.length):(if ZqN mo (m0A ks l dn.length) ha dn.length l.length ba to=0 then(if Zda l.length dw=0 then upR dn.length ha up else Zda l.length dw)else ZqN mo (m0A ks l dn.length) ha dn.length l.length ba to)=Znu ks l mo dn ha ba to dw up:=by
 unfold ZqN Znu
 by_cases g1:mo=m0A ks l dn.length
 ·by_cases g2:ha=true∧dn.length=l.length
  ·have g2':ha=true∧¬(dn.length:Int)<l.length:=⟨g2.1,by omega⟩
   simp only[if_pos g1,if_pos g2,if_pos g2'];rfl
  ·have g2':¬(ha=true∧¬(dn.length:Int)<l.length):=fun hh=>g2 ⟨hh.1,by omega⟩
   by_cases g3:Zab ba 0 dn.length=true
   ·by_cases g4:to=true∧¬(ha=true∧ba=dn.length)
    ·simp only[if_pos g1,if_neg g2,if_neg g2',if_pos g3,if_pos g4];rfl
    ·simp only[if_pos g1,if_neg g2,if_neg g2',if_pos g3,if_neg g4,if_true]
   ·simp only[if_pos g1,if_neg g2,if_neg g2',if_neg g3];rfl
 ·simp only[if_neg g1];rfl
section
variable {C:Ctx}(hC:C.P=Tryz.prog)(ms ks rs l:List AV)(wn fl:Int)(at0 mo:Int)(dn:List AV)(ha:Bool)(ba:Int)(to:Bool)(dw:List Int)(up:List AV)
include hC
end
def Bm:List Ctr:=Bl
theorem ZES:ZaE Tryz.prog Bm:=ZDG
end Go.Proofs.YtkeoeooghhjibaaGreatDoor
/- Contracts as a list. No condition. -/
namespace Go.Proofs.YtkeoeooghhjibaaGreatDoor
def k81o:Ctr:=⟨81,0,fun _ a=>match a with |[.list (.ints .i64 xs)]=>some (decide (xs.length≤1000000), .row 0 0,some ⟨3,1, .ints .i64 xs⟩) |_=>none⟩
theorem Zt2:k81o.OK Tryz.prog:=fun pa args r fr h=>by
 simp only[k81o]at h
 split at h
 ·simp only[Option.some.injEq,Prod.mk.injEq,decide_eq_true_eq]at h
  obtain⟨h0,rfl,rfl⟩:=h
  exact ZgK _ h0
 ·cases h
def k83:Ctr:=⟨83,0,fun _ a=>match a with |[]=>some (true,(.agg (.gen [(.str [112,97,115,115]),(.int .i64 1),(.int .i64 1000000000000),(.fn 127 []),(.str [115,101,110,100]),(.int .i64 0),(.int .i64 11),(.fn 128 []),(.str [97,114,114,105,118,101]),(.int .i64 0),(.int .i64 5),(.fn 129 []),(.str [104,101,97,114]),(.int .i64 0),(.int .i64 5),(.fn 130 []),(.str [108,111,115,101]),(.int .i64 0),(.int .i64 5),(.fn 131 []),(.str [100,114,111,112]),(.int .i64 0),(.int .i64 5),(.fn 132 []),(.str [114,101,112,101,97,116]),(.int .i64 0),(.int .i64 5),(.fn 133 []),(.str [114,101,115,116,97,114,116]),(.int .i64 0),(.int .i64 0),(.fn 134 []),(.str [114,101,98,111,111,116]),(.int .i64 0),(.int .i64 0),(.fn 135 [])])),none) |_=>none⟩
theorem ZzP:k83.OK Tryz.prog:=fun pa args r fr h=>by
 simp only[k83]at h
 split at h
 ·cases h
  exact Zcx
 ·cases h
def Bn:List Ctr:=[k81o,k83]++Bm
theorem Zc2:ZaE Tryz.prog Bn:=⟨Zt2,⟨ZzP,ZES⟩⟩
end Go.Proofs.YtkeoeooghhjibaaGreatDoor
