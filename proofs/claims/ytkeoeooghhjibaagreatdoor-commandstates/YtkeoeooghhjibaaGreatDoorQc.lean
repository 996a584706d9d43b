/- Contracts as a list. No condition. -/
import Derived.Test.YtkeoeooghhjibaaGreatDoorPs
import Derived.KernelRfl
namespace Go.Proofs.YtkeoeooghhjibaaGreatDoor
theorem Zpw{ms ks rs:List AV}(h:Zpb ms ks rs=true):Zax ms ks rs=true∧ms.length≤8∧ks.length≤10∧rs.length≤12:=by
 simp only[Zpb,Bool.and_eq_true,decide_eq_true_eq,List.all_eq_true,ZBc,ZnA]at h
 obtain⟨h1,h2,h3,h4⟩:=h
 simp only[Zax,Bool.and_eq_true,decide_eq_true_eq,List.all_eq_true]
 refine⟨⟨⟨⟨fun x hx=>?_,fun x hx=>?_⟩,fun x hx=>?_⟩,by omega⟩,h1⟩
 ·have:=h2 x hx;omega
 ·have:=h3 x hx;omega
 ·have:=h4 x hx;omega
def ZlQ(ms ks rs l:List AV):Int:=ZbL (ZaA ms ks rs) ks.length l
theorem Zl6{ms ks rs:List AV}(h:Zax ms ks rs=true):ms.length≤1000000∧ks.length≤1000000∧rs.length≤1000000:=by
 simp only[Zax,Bool.and_eq_true,decide_eq_true_eq]at h
 exact h.2
def upE(ms ks rs l:List AV)(wn fl:Int):Int:=if ZlQ ms ks rs l=0 then(if Zab wn 1 6=true∧Zab fl 1 6=true then 0 else 2)else ZlQ ms ks rs l
def ZhR(ms ks rs l:List AV):Bool:=Zpb ms ks rs&&decide (l.length≤14)
def Zie(dn:List AV)(dw:List Int)(up:List AV):Bool:=decide (dn.length≤14∧dw.length≤8∧up.length≤8)
def Zur(n:Int):Bool:=decide (n=0∨n=1)||Zab n 2 6
def evE(ek en:Int):Int:=if Zab ek 0 8=true then(if ek=0 then Zaa (Zab en 1 1000000000000) 2 else if ek=1 then Zaa (Zab en 0 11) 2 else if Zab ek 2 6=true then Zaa (Zab en 0 5) 2 else Zaa (decide (en=0)) 3)else 15
def eq2(x y:AV):Bool:=decide ((x.cellAt 0).toI=(y.cellAt 0).toI∧(x.cellAt 1).toI=(y.cellAt 1).toI)
def ZcY(e:AV→AV→Bool):List AV→List AV→Bool
 |[],[]=>true
 |x::xs,y::ys=>e x y&&ZcY e xs ys
 |_,_=>false
theorem Zkj{e:AV→AV→Bool} :∀ {xs ys:List AV},ZcY e xs ys=true→xs.length=ys.length
 |[],[],_=>rfl
 |x::xs,y::ys,h=>by
  simp only[ZcY,Bool.and_eq_true]at h
  simp[Zkj h.2]
 |[],y::ys,h=>by cases h
 |x::xs,[],h=>by cases h
theorem ZmC{xs:List AV}{k:Nat}(h:k<xs.length):xs.drop k=xs.getD k .top::xs.drop (k+1):=by
 rw[List.drop_eq_getElem_cons h,List.getD_eq_getElem?_getD,List.getElem?_eq_getElem h];rfl
theorem Zrq{xs:List Int}{k:Nat}(h:k<xs.length):xs.drop k=xs.getD k 0::xs.drop (k+1):=by
 rw[List.drop_eq_getElem_cons h,List.getD_eq_getElem?_getD,List.getElem?_eq_getElem h];rfl
theorem ZpR(ms ks rs l:List AV)(h:Zax ms ks rs=true∧l.length≤1000000):Zan Tryz.prog 28 [.agg (.gen [.list (.big .str ms), .list (.big (.agg [.str, .int .i64]) ks), .list (.big (.agg [.str, .int .i64, .int .i64, .int .i64, .int .i64]) rs)]), .list (.big (.agg [.int .i64, .int .i64, .int .i64]) l)] (.int .i64 (ZlQ ms ks rs l)) none:=
 start (ZsZ ms ks rs l) fun C hC=>tgo hC ZbU ZDR (by
  have:=Zl6 h.1
  by_cases he:ZaA ms ks rs=0<;>simp[Zx9,h.1,h.2,he,ZlQ,ZlB,this])
theorem ZpQ(ms ks rs l:List AV)(wn fl:Int)(h:Zax ms ks rs=true∧l.length≤1000000):Zan Tryz.prog 19 [.agg (.gen [.list (.big .str ms), .list (.big (.agg [.str, .int .i64]) ks), .list (.big (.agg [.str, .int .i64, .int .i64, .int .i64, .int .i64]) rs), .list (.big (.agg [.int .i64, .int .i64, .int .i64]) l), .int .i64 wn, .int .i64 fl])] (.int .i64 (upE ms ks rs l wn fl)) none:=
 start (ZvI ms ks rs l wn fl) fun C hC=>tgo hC ZbU ZCC (by
  have:=Zl6 h.1
  by_cases he:ZaA ms ks rs=0
  ·by_cases hf:ZbL 0 ks.length l=0<;>by_cases h1:Zab wn 1 6=true<;>by_cases h2:Zab fl 1 6=true<;>simp[Zuf,h.1,h.2,he,upE,ZlQ,this,hf,h1,h2]
  ·simp[Zuf,h.1,he,upE,ZlQ,ZlB])
theorem bxA(a b:Int):([AV.int .i64 a,AV.int .i64 b].all fun x=>AV.bx x&&Nat.beq (Zah std x) 1)=true:=rfl
theorem Zrg(ms ks rs l:List AV)(wn fl:Int)(h:Zax ms ks rs=true∧l.length≤1000000):Zan Tryz.prog 36 [.agg (.gen [.list (.big .str ms), .list (.big (.agg [.str, .int .i64]) ks), .list (.big (.agg [.str, .int .i64, .int .i64, .int .i64, .int .i64]) rs), .list (.big (.agg [.int .i64, .int .i64, .int .i64]) l), .int .i64 wn, .int .i64 fl])] (.int .i64 (upE ms ks rs l wn fl)) none:=
 start (ZwI ms ks rs l wn fl) fun C hC=>tgo hC ZbU ZDd (by
  unfold ZAB
  simp only[bxA]
  by_cases hf:ZlQ ms ks rs l=0<;>by_cases h1:Zab wn 1 6=true<;>by_cases h2:Zab fl 1 6=true<;>(have hf':=hf;unfold ZlQ at hf';simp[h.1,h.2,upE,hf,hf',h1,h2,Zai,Zaa,ZlQ]))
theorem Zqf(ms ks rs l:List AV)(wn fl:Int)(h:Zax ms ks rs=true∧l.length≤1000000):Zan Tryz.prog 33 [.agg (.gen [.list (.big .str ms), .list (.big (.agg [.str, .int .i64]) ks), .list (.big (.agg [.str, .int .i64, .int .i64, .int .i64, .int .i64]) rs), .list (.big (.agg [.int .i64, .int .i64, .int .i64]) l), .int .i64 wn, .int .i64 fl])] (.tup [.agg (.gen [.int .i64 0, .int .i64 0, .list (.big (.agg [.int .i64, .int .i64]) []), .bool false, .int .i64 0, .bool false, .list (.ints .i64 []), .list (.big (.agg [.int .i64, .bool]) [])]), .int .i64 (upE ms ks rs l wn fl)]) none:=
 ZrF (ZuK ms ks rs l wn fl) fun C hC=>ZAe hC ZbU ZCH (by
  unfold Zw7
  simp only[bxA]
  have hw:∀e:Int,e=upE ms ks rs l wn fl→Wk (.tup [.agg (.gen [.int .i64 0, .int .i64 0, .nils, .bool false, .int .i64 0, .bool false, .nils, .nils]), .int .i64 e]) (.tup [.agg (.gen [.int .i64 0, .int .i64 0, .list (.big (.agg [.int .i64, .int .i64]) []), .bool false, .int .i64 0, .bool false, .list (.ints .i64 []), .list (.big (.agg [.int .i64, .bool]) [])]), .int .i64 (upE ms ks rs l wn fl)]):=fun e he=>by
   subst he
   exact .tup' ⟨.agg' ⟨.same _, .same _, .nil _ rfl, .same _, .same _, .same _, .nil _ rfl, .nil _ rfl,trivial⟩, .same _,trivial⟩
  by_cases hf:ZlQ ms ks rs l=0<;>by_cases h1:Zab wn 1 6=true<;>by_cases h2:Zab fl 1 6=true<;>(have hf':=hf;unfold ZlQ at hf';simp[h.1,h.2,hf',h1,h2];apply hw;simp[upE,hf,hf',h1,h2,Zai,Zaa,ZlQ]))
theorem Zuh(ek en:Int):Zan Tryz.prog 38 [.agg (.gen [.int .i64 ek, .int .i64 en])] (.int .i64 (evE ek en)) none:=
 start (ZsP ek en) fun C hC=>tgo hC ZbU ZEe (by
  by_cases h1:Zab ek 0 8=true
  ·by_cases h2:ek=0
   ·subst h2
    by_cases h3:Zab en 1 1000000000000=true<;>simp[ZmF,h1,evE,Zaa,h3]
   ·by_cases h4:ek=1
    ·subst h4
     by_cases h3:Zab en 0 11=true<;>simp[ZmF,h1,evE,Zaa,h3]
    ·by_cases h5:Zab ek 2 6=true
     ·by_cases h3:Zab en 0 5=true<;>simp[ZmF,h1,h2,h4,h5,evE,Zaa,h3]
     ·by_cases h3:en=0<;>simp[ZmF,h1,h2,h4,h5,evE,Zaa,h3]
  ·simp[ZmF,h1,evE])
theorem ZsT(ek en:Int):Zan Tryz.prog 37 [.agg (.gen [.int .i64 ek, .int .i64 en])] (.int .i64 (evE ek en)) none:=
 start (Zt8 ek en) fun C hC=>tgo hC ZbU ZCJ (by
  by_cases h1:Zab ek 0 8=true
  ·have h2:=within_iff.1 h1
   obtain⟨n,rfl⟩:∃n:Nat,ek=n:=⟨ek.toNat,by omega⟩
   have h3:n≤8:=by omega
   match n,h3 with
   |0,_=>simp[ZgN,evE,Zab]
   |1,_=>simp[ZgN,evE,Zab]
   |2,_=>simp[ZgN,h1,evE,Zab]
   |3,_=>simp[ZgN,h1,evE,Zab]
   |4,_=>simp[ZgN,h1,evE,Zab]
   |5,_=>simp[ZgN,h1,evE,Zab]
   |6,_=>simp[ZgN,h1,evE,Zab]
   |7,_=>simp[ZgN,h1,evE,Zab]
   |8,_=>simp[ZgN,h1,evE,Zab]
  ·simp[ZgN,h1,evE])
theorem Zrm(n:Int):Zan Tryz.prog 84 [.int .i64 n] (.bool (Zur n)) none:=
 start (Ztt n) fun C hC=>tgo hC ZbU ZCT (by
  by_cases h1:n=0<;>by_cases h2:n=1<;>simp[ZyR,h1,h2,Zur])
theorem Zp3(n:Int):Zan Tryz.prog 97 [.int .i64 n] (.bool (Zab n 2 6)) none:=
 start (ZtC n) fun C hC=>tgo hC ZbU ZCt (by simp[ZAd])
theorem Znl(ms ks rs l:List AV)(wn fl:Int):Zan Tryz.prog 14 [.agg (.gen [.list (.big .str ms), .list (.big (.agg [.str, .int .i64]) ks), .list (.big (.agg [.str, .int .i64, .int .i64, .int .i64, .int .i64]) rs), .list (.big (.agg [.int .i64, .int .i64, .int .i64]) l), .int .i64 wn, .int .i64 fl])] (.bool (ZhR ms ks rs l)) none:=
 start (Zwg ms ks rs l wn fl) fun C hC=>tgo hC ZbU ZCG (by
  by_cases h1:Zpb ms ks rs=true<;>by_cases h2:l.length≤14<;>simp[Zxu,h1,h2,ZhR]<;>omega)
theorem ZmK(at0 mo:Int)(dn:List AV)(ha:Bool)(ba:Int)(to:Bool)(dw:List Int)(up:List AV):Zan Tryz.prog 32 [.agg (.gen [.int .i64 at0, .int .i64 mo, .list (.big (.agg [.int .i64, .int .i64]) dn), .bool ha, .int .i64 ba, .bool to, .list (.ints .i64 dw), .list (.big (.agg [.int .i64, .bool]) up)])] (.bool (Zie dn dw up)) none:=
 start (Zwf at0 mo dn ha ba to dw up) fun C hC=>tgo hC ZbU ZEw (by
  by_cases h1:dn.length≤14<;>by_cases h2:dw.length≤8<;>by_cases h3:up.length≤8<;>simp[Zy8,Zie,h1,h2,h3,show ∀(n m:Nat),((n:Int)≤(m:Int))=(n≤m)from fun _ _=>by simp]<;>omega)
theorem Zqt(ms ks rs l:List AV)(wn fl:Int)(h:ms.length≤1000000∧ks.length≤1000000∧rs.length≤1000000∧l.length≤1000000):Zan Tryz.prog 16 [.agg (.gen [.list (.big .str ms), .list (.big (.agg [.str, .int .i64]) ks), .list (.big (.agg [.str, .int .i64, .int .i64, .int .i64, .int .i64]) rs), .list (.big (.agg [.int .i64, .int .i64, .int .i64]) l), .int .i64 wn, .int .i64 fl])] (.agg (.gen [.list (.big .str ms), .list (.big (.agg [.str, .int .i64]) ks), .list (.big (.agg [.str, .int .i64, .int .i64, .int .i64, .int .i64]) rs), .list (.big (.agg [.int .i64, .int .i64, .int .i64]) l), .int .i64 wn, .int .i64 fl])) none:=
 start (ZsX ms ks rs l wn fl) fun C hC=>tgo hC ZbU ZCR (by simp[ZxZ,h])
theorem ZqE(at0 mo:Int)(dn:List AV)(ha:Bool)(ba:Int)(to:Bool)(dw:List Int)(up:List AV)(h:dn.length≤1000000∧dw.length≤1000000∧up.length≤1000000):Zan Tryz.prog 35 [.agg (.gen [.int .i64 at0, .int .i64 mo, .list (.big (.agg [.int .i64, .int .i64]) dn), .bool ha, .int .i64 ba, .bool to, .list (.ints .i64 dw), .list (.big (.agg [.int .i64, .bool]) up)])] (.agg (.gen [.int .i64 at0, .int .i64 mo, .list (.big (.agg [.int .i64, .int .i64]) dn), .bool ha, .int .i64 ba, .bool to, .list (.ints .i64 dw), .list (.big (.agg [.int .i64, .bool]) up)])) none:=
 start (Ztv at0 mo dn ha ba to dw up) fun C hC=>tgo hC ZbU ZEm (by simp[Zw8];omega)
theorem Zjy(xs:List Int)(h:xs.length≤1000000):Zan Tryz.prog 81 [.list (.ints .i64 xs)] (.row 0 0) (some ⟨3,1, .ints .i64 xs⟩):=
 start (ZtN xs) fun C hC=>tgo hC ZbU ZC2 (by simp[ZzJ];omega)
theorem Zo4(xs:List Int)(h:xs.length≤1000000):Zan Tryz.prog 81 [.list (.ints .i64 xs)] (.list (.ints .i64 xs)) ZB0:=Zun (Zjy xs h) rfl rfl
theorem Zjb{C:Ctx}(hC:C.P=Tryz.prog)(xs ys:List Int)(hl:xs.length≤1000000∧xs.length=ys.length):∀m k:Nat,k+m=xs.length→Ev C (Zg3 xs ys k) (Ze3 xs ys k) (ZbT 29 (.bool (decide (xs.drop k=ys.drop k))) none)
 |0,k,hk=>tgo hC ZbU Zht (by
  rw[List.drop_of_length_le (by omega),List.drop_of_length_le (by omega)]
  simp[ZdA,show ¬(k:Int)<xs.length by omega])
 |m+1,k,hk=>by
  have ih:=Zjb hC xs ys hl m (k+1) (by omega)
  rw[Zrq (show k<xs.length by omega),Zrq (show k<ys.length by omega)]
  refine tgo hC ZbU Zht ?_
  by_cases h:xs.getD k 0=ys.getD k 0
  ·simp[-List.getD_eq_getElem?_getD,ZdA,show(k:Int)<xs.length by omega,show k<xs.length by omega,show k<ys.length by omega,h]
   exact⟨by omega,by simpa using ih⟩
  ·simp[-List.getD_eq_getElem?_getD,ZdA,show(k:Int)<xs.length by omega,show k<xs.length by omega,show k<ys.length by omega,h]
theorem ZoZ(xs ys:List Int)(hl:xs.length≤1000000):Zan Tryz.prog 29 [.list (.ints .i64 xs), .list (.ints .i64 ys)] (.bool (decide (xs=ys))) none:=
 start (Zva xs ys) fun C hC=>tgo hC ZbU ZEl (by
  by_cases h:xs.length=ys.length
  ·simp[ZvJ,h]
   have:=Zjb hC xs ys ⟨hl,h⟩ xs.length 0 (by omega)
   simpa using this
  ·have:xs≠ys:=fun e=>h (by rw[e])
   simp[ZvJ,this,show ¬((xs.length:Int)=ys.length) by omega])
theorem ZjD{C:Ctx}(hC:C.P=Tryz.prog)(xs ys:List AV)(hl:xs.length≤1000000∧xs.length=ys.length):∀m k:Nat,k+m=xs.length→Ev C (ZgP xs ys k) (ZeI xs ys k) (ZbT 22 (.bool (ZcY eq2 (xs.drop k) (ys.drop k))) none)
 |0,k,hk=>tgo hC ZbU ZhX (by
  rw[List.drop_of_length_le (by omega),List.drop_of_length_le (by omega)]
  simp[Zdv,show ¬(k:Int)<xs.length by omega,ZcY])
 |m+1,k,hk=>by
  have ih:=ZjD hC xs ys hl m (k+1) (by omega)
  rw[ZmC (show k<xs.length by omega),ZmC (show k<ys.length by omega),ZcY]
  refine tgo hC ZbU ZhX ?_
  by_cases h:eq2 (xs.getD k .top) (ys.getD k .top)=true
  ·rw[h,Bool.true_and]
   simp[-List.getD_eq_getElem?_getD,eq2]at h
   simp[-List.getD_eq_getElem?_getD,Zdv,show(k:Int)<xs.length by omega,show k<xs.length by omega,show k<ys.length by omega,h]
   exact⟨by omega,by simpa using ih⟩
  ·rw[(by simpa using h:eq2 (xs.getD k .top) (ys.getD k .top)=false),Bool.false_and]
   simp only[eq2,decide_eq_true_eq,not_and]at h
   simp[-List.getD_eq_getElem?_getD,Zdv,show(k:Int)<xs.length by omega,show k<xs.length by omega,show k<ys.length by omega]
   exact fun h1 h2=>absurd h2 (h h1)
theorem Zlv{e:AV→AV→Bool}{xs ys:List AV}(h:xs.length≠ys.length):ZcY e xs ys=false:=by
 cases hb:ZcY e xs ys
 ·rfl
 ·exact absurd (Zkj hb) h
theorem Zol(xs ys:List AV)(hl:xs.length≤1000000):Zan Tryz.prog 22 [.list (.big (.agg [.int .i64, .int .i64]) xs), .list (.big (.agg [.int .i64, .int .i64]) ys)] (.bool (ZcY eq2 xs ys)) none:=
 start (Zwe xs ys) fun C hC=>tgo hC ZbU ZDp (by
  by_cases h:xs.length=ys.length
  ·simp[Zv9,h]
   have:=ZjD hC xs ys ⟨hl,h⟩ xs.length 0 (by omega)
   simpa using this
  ·simp[Zv9,Zlv h,show ¬((xs.length:Int)=ys.length) by omega])
theorem Zqr(n:Nat)(x:Int):List.replicate n x++[x]=List.replicate (n+1) x:=by
 rw[List.replicate_succ']
theorem Zl5{C:Ctx}(hC:C.P=Tryz.prog)(ms ks rs:List AV)(hl:ks.length≤1000000):∀m k:Nat,k+m=ks.length→Ev C (ZgJ ms ks rs k (List.replicate k (-1))) (Zfm ms ks rs k (List.replicate k (-1))) (ZwS 77 (.agg (.gen [.int .i64 0, .int .i64 0, .list (.ints .i64 (List.replicate ks.length (-1)))])) none)
 |0,k,hk=>ZAe hC ZbU Zia (by
  have:k=ks.length:=by omega
  subst this
  simp[Ze1]
  exact .same _)
 |m+1,k,hk=>by
  have ih:=Zl5 hC ms ks rs hl m (k+1) (by omega)
  rw[←Zqr]at ih
  refine ZAe hC ZbU Zia ?_
  simp[Ze1,show(k:Int)<ks.length by omega,AV.bx,Zah]
  exact⟨by omega,by simpa using ih⟩
theorem Zqx(ms ks rs:List AV)(hl:ks.length≤1000000):Zan Tryz.prog 77 [.agg (.gen [.list (.big .str ms), .list (.big (.agg [.str, .int .i64]) ks), .list (.big (.agg [.str, .int .i64, .int .i64, .int .i64, .int .i64]) rs)])] (.agg (.gen [.int .i64 0, .int .i64 0, .list (.ints .i64 (List.replicate ks.length (-1)))])) none:=
 ZrF (ZtY ms ks rs) fun C hC=>ZAe hC ZbU ZC3 (by
  simp only[ZxP]
  refine ZAe hC ZbU Znp ?_
  by_cases h:ks.length=0
  ·simp[Zfk,h]
   exact .agg' ⟨.same _, .same _, .nil _ rfl,trivial⟩
  ·have:=Zl5 hC ms ks rs hl (ks.length-1) 1 (by omega)
   simp[Zfk,show 0<ks.length by omega,AV.bx,Zah]
   simpa using this)
def k28:Ctr:=⟨28,0,fun _ a=>match a with |[.agg (.gen [.list (.big .str ms), .list (.big (.agg [.str, .int .i64]) ks), .list (.big (.agg [.str, .int .i64, .int .i64, .int .i64, .int .i64]) rs)]), .list (.big (.agg [.int .i64, .int .i64, .int .i64]) l)]=>some (decide (Zax ms ks rs=true∧l.length≤1000000), .int .i64 (ZlQ ms ks rs l),none) |_=>none⟩
theorem ZyP:k28.OK Tryz.prog:=fun pa args r fr h=>by
 simp only[k28]at h
 split at h
 ·simp only[Option.some.injEq,Prod.mk.injEq,decide_eq_true_eq]at h
  obtain⟨h0,rfl,rfl⟩:=h
  exact ZpR _ _ _ _ h0
 ·cases h
def k19:Ctr:=⟨19,0,fun _ a=>match a with |[.agg (.gen [.list (.big .str ms), .list (.big (.agg [.str, .int .i64]) ks), .list (.big (.agg [.str, .int .i64, .int .i64, .int .i64, .int .i64]) rs), .list (.big (.agg [.int .i64, .int .i64, .int .i64]) l), .int .i64 wn, .int .i64 fl])]=>some (decide (Zax ms ks rs=true∧l.length≤1000000), .int .i64 (upE ms ks rs l wn fl),none) |_=>none⟩
theorem Zzg:k19.OK Tryz.prog:=fun pa args r fr h=>by
 simp only[k19]at h
 split at h
 ·simp only[Option.some.injEq,Prod.mk.injEq,decide_eq_true_eq]at h
  obtain⟨h0,rfl,rfl⟩:=h
  exact ZpQ _ _ _ _ _ _ h0
 ·cases h
def k36:Ctr:=⟨36,0,fun _ a=>match a with |[.agg (.gen [.list (.big .str ms), .list (.big (.agg [.str, .int .i64]) ks), .list (.big (.agg [.str, .int .i64, .int .i64, .int .i64, .int .i64]) rs), .list (.big (.agg [.int .i64, .int .i64, .int .i64]) l), .int .i64 wn, .int .i64 fl])]=>some (decide (Zax ms ks rs=true∧l.length≤1000000), .int .i64 (upE ms ks rs l wn fl),none) |_=>none⟩
theorem ZyG:k36.OK Tryz.prog:=fun pa args r fr h=>by
 simp only[k36]at h
 split at h
 ·simp only[Option.some.injEq,Prod.mk.injEq,decide_eq_true_eq]at h
  obtain⟨h0,rfl,rfl⟩:=h
  exact Zrg _ _ _ _ _ _ h0
 ·cases h
def k33:Ctr:=⟨33,0,fun _ a=>match a with |[.agg (.gen [.list (.big .str ms), .list (.big (.agg [.str, .int .i64]) ks), .list (.big (.agg [.str, .int .i64, .int .i64, .int .i64, .int .i64]) rs), .list (.big (.agg [.int .i64, .int .i64, .int .i64]) l), .int .i64 wn, .int .i64 fl])]=>some (decide (Zax ms ks rs=true∧l.length≤1000000), .tup [.agg (.gen [.int .i64 0, .int .i64 0, .list (.big (.agg [.int .i64, .int .i64]) []), .bool false, .int .i64 0, .bool false, .list (.ints .i64 []), .list (.big (.agg [.int .i64, .bool]) [])]), .int .i64 (upE ms ks rs l wn fl)],none) |_=>none⟩
theorem ZzU:k33.OK Tryz.prog:=fun pa args r fr h=>by
 simp only[k33]at h
 split at h
 ·simp only[Option.some.injEq,Prod.mk.injEq,decide_eq_true_eq]at h
  obtain⟨h0,rfl,rfl⟩:=h
  exact Zqf _ _ _ _ _ _ h0
 ·cases h
def k38:Ctr:=⟨38,0,fun _ a=>match a with |[.agg (.gen [.int .i64 ek, .int .i64 en])]=>some (true, .int .i64 (evE ek en),none) |_=>none⟩
theorem ZAP:k38.OK Tryz.prog:=fun pa args r fr h=>by
 simp only[k38]at h
 split at h
 ·cases h
  exact Zuh _ _
 ·cases h
def k37:Ctr:=⟨37,0,fun _ a=>match a with |[.agg (.gen [.int .i64 ek, .int .i64 en])]=>some (true, .int .i64 (evE ek en),none) |_=>none⟩
theorem ZA3:k37.OK Tryz.prog:=fun pa args r fr h=>by
 simp only[k37]at h
 split at h
 ·cases h
  exact ZsT _ _
 ·cases h
def k84:Ctr:=⟨84,0,fun _ a=>match a with |[.int .i64 n]=>some (true, .bool (Zur n),none) |_=>none⟩
theorem ZBb:k84.OK Tryz.prog:=fun pa args r fr h=>by
 simp only[k84]at h
 split at h
 ·cases h
  exact Zrm _
 ·cases h
def k97:Ctr:=⟨97,0,fun _ a=>match a with |[.int .i64 n]=>some (true, .bool (Zab n 2 6),none) |_=>none⟩
theorem ZAU:k97.OK Tryz.prog:=fun pa args r fr h=>by
 simp only[k97]at h
 split at h
 ·cases h
  exact Zp3 _
 ·cases h
def k14:Ctr:=⟨14,0,fun _ a=>match a with |[.agg (.gen [.list (.big .str ms), .list (.big (.agg [.str, .int .i64]) ks), .list (.big (.agg [.str, .int .i64, .int .i64, .int .i64, .int .i64]) rs), .list (.big (.agg [.int .i64, .int .i64, .int .i64]) l), .int .i64 _, .int .i64 _])]=>some (true, .bool (ZhR ms ks rs l),none) |_=>none⟩
theorem ZBl:k14.OK Tryz.prog:=fun pa args r fr h=>by
 simp only[k14]at h
 split at h
 ·cases h
  exact Znl _ _ _ _ _ _
 ·cases h
def k32:Ctr:=⟨32,0,fun _ a=>match a with |[.agg (.gen [.int .i64 _, .int .i64 _, .list (.big (.agg [.int .i64, .int .i64]) dn), .bool _, .int .i64 _, .bool _, .list (.ints .i64 dw), .list (.big (.agg [.int .i64, .bool]) up)])]=>some (true, .bool (Zie dn dw up),none) |_=>none⟩
theorem ZBV:k32.OK Tryz.prog:=fun pa args r fr h=>by
 simp only[k32]at h
 split at h
 ·cases h
  exact ZmK _ _ _ _ _ _ _ _
 ·cases h
def k16:Ctr:=⟨16,0,fun _ a=>match a with |[.agg (.gen [.list (.big .str ms), .list (.big (.agg [.str, .int .i64]) ks), .list (.big (.agg [.str, .int .i64, .int .i64, .int .i64, .int .i64]) rs), .list (.big (.agg [.int .i64, .int .i64, .int .i64]) l), .int .i64 wn, .int .i64 fl])]=>some (decide (ms.length≤1000000∧ks.length≤1000000∧rs.length≤1000000∧l.length≤1000000), .agg (.gen [.list (.big .str ms), .list (.big (.agg [.str, .int .i64]) ks), .list (.big (.agg [.str, .int .i64, .int .i64, .int .i64, .int .i64]) rs), .list (.big (.agg [.int .i64, .int .i64, .int .i64]) l), .int .i64 wn, .int .i64 fl]),none) |_=>none⟩
theorem Zyq:k16.OK Tryz.prog:=fun pa args r fr h=>by
 simp only[k16]at h
 split at h
 ·simp only[Option.some.injEq,Prod.mk.injEq,decide_eq_true_eq]at h
  obtain⟨h0,rfl,rfl⟩:=h
  exact Zqt _ _ _ _ _ _ h0
 ·cases h
def k35:Ctr:=⟨35,0,fun _ a=>match a with |[.agg (.gen [.int .i64 at0, .int .i64 mo, .list (.big (.agg [.int .i64, .int .i64]) dn), .bool ha, .int .i64 ba, .bool to, .list (.ints .i64 dw), .list (.big (.agg [.int .i64, .bool]) up)])]=>some (decide (dn.length≤1000000∧dw.length≤1000000∧up.length≤1000000), .agg (.gen [.int .i64 at0, .int .i64 mo, .list (.big (.agg [.int .i64, .int .i64]) dn), .bool ha, .int .i64 ba, .bool to, .list (.ints .i64 dw), .list (.big (.agg [.int .i64, .bool]) up)]),none) |_=>none⟩
theorem ZBt:k35.OK Tryz.prog:=fun pa args r fr h=>by
 simp only[k35]at h
 split at h
 ·simp only[Option.some.injEq,Prod.mk.injEq,decide_eq_true_eq]at h
  obtain⟨h0,rfl,rfl⟩:=h
  exact ZqE _ _ _ _ _ _ _ _ h0
 ·cases h
def k29:Ctr:=⟨29,0,fun _ a=>match a with |[.list (.ints .i64 xs), .list (.ints .i64 ys)]=>some (decide (xs.length≤1000000), .bool (decide (xs=ys)),none) |_=>none⟩
theorem Zz8:k29.OK Tryz.prog:=fun pa args r fr h=>by
 simp only[k29]at h
 split at h
 ·simp only[Option.some.injEq,Prod.mk.injEq,decide_eq_true_eq]at h
  obtain⟨h0,rfl,rfl⟩:=h
  exact ZoZ _ _ h0
 ·cases h
def k22:Ctr:=⟨22,0,fun _ a=>match a with |[.list (.big (.agg [.int .i64, .int .i64]) xs), .list (.big (.agg [.int .i64, .int .i64]) ys)]=>some (decide (xs.length≤1000000), .bool (ZcY eq2 xs ys),none) |_=>none⟩
theorem Zx1:k22.OK Tryz.prog:=fun pa args r fr h=>by
 simp only[k22]at h
 split at h
 ·simp only[Option.some.injEq,Prod.mk.injEq,decide_eq_true_eq]at h
  obtain⟨h0,rfl,rfl⟩:=h
  exact Zol _ _ h0
 ·cases h
def k77:Ctr:=⟨77,0,fun _ a=>match a with |[.agg (.gen [.list (.big .str _), .list (.big (.agg [.str, .int .i64]) ks), .list (.big (.agg [.str, .int .i64, .int .i64, .int .i64, .int .i64]) _)])]=>some (decide (ks.length≤1000000), .agg (.gen [.int .i64 0, .int .i64 0, .list (.ints .i64 (List.replicate ks.length (-1)))]),none) |_=>none⟩
theorem ZBa:k77.OK Tryz.prog:=fun pa args r fr h=>by
 simp only[k77]at h
 split at h
 ·simp only[Option.some.injEq,Prod.mk.injEq,decide_eq_true_eq]at h
  obtain⟨h0,rfl,rfl⟩:=h
  exact Zqx _ _ _ h0
 ·cases h
def B9:List Ctr:=[k28,k19,k36,k33,k38,k37,k84,k97,k14,k32,k16,k35,k29,k22,k77]++B8
theorem ZCo:ZaI Tryz.prog B9:=⟨ZyP,⟨Zzg,⟨ZyG,⟨ZzU,⟨ZAP,⟨ZA3,⟨ZBb,⟨ZAU,⟨ZBl,⟨ZBV,⟨Zyq,⟨ZBt,⟨Zz8,⟨Zx1,⟨ZBa,ZbU⟩⟩⟩⟩⟩⟩⟩⟩⟩⟩⟩⟩⟩⟩⟩
end Go.Proofs.YtkeoeooghhjibaaGreatDoor
/- A copy, owned or a value, as the path says; a row of one value. No condition. -/
namespace Go.Proofs.YtkeoeooghhjibaaGreatDoor
def k81b:Ctr:=⟨81,1,fun pa a=>match pa with
 |[]=>none
 |b::_=>(match a with
  |[.list (.ints .i64 xs)]=>some (decide (xs.length≤1000000),(match b with |true=>.row 0 0 |false=>.list (.ints .i64 xs)),(match b with |true=>some ⟨3,1, .ints .i64 xs⟩ |false=>ZB0))
  |_=>none)⟩
theorem Zv6:k81b.OK Tryz.prog:=fun pa args r fr h=>by
 simp only[k81b]at h
 split at h
 ·simp at h
 ·split at h
  ·simp only[Option.some.injEq,Prod.mk.injEq,decide_eq_true_eq]at h
   obtain⟨h0,rfl,rfl⟩:=h
   split
   ·exact Zjy _ h0
   ·exact Zo4 _ h0
  ·cases h
theorem ZnU(xs:List Int)(n:Int)(h:xs=[-1]∧0≤n∧n≤8):Zan Tryz.prog 121 [.list (.ints .i64 xs), .int .i64 n] (.row 0 0) (some ⟨3,1, .ints .i64 (List.replicate n.toNat (-1))⟩):=by
 obtain⟨rfl,h1,h2⟩:=h
 obtain⟨m,rfl⟩:∃m:Nat,n=m:=⟨n.toNat,by omega⟩
 have h3:m≤8:=by omega
 match m,h3 with
 |0,_=>exact ZAu
 |1,_=>exact Zw0
 |2,_=>exact ZBB
 |3,_=>exact Zvi
 |4,_=>exact ZvT
 |5,_=>exact ZtR
 |6,_=>exact ZwK
 |7,_=>exact Zu1
 |8,_=>exact ZsK
def k121:Ctr:=⟨121,0,fun _ a=>match a with |[.list (.ints .i64 xs), .int .i64 n]=>some (decide (xs=[-1]∧0≤n∧n≤8), .row 0 0,some ⟨3,1, .ints .i64 (List.replicate n.toNat (-1))⟩) |_=>none⟩
theorem ZsN:k121.OK Tryz.prog:=fun pa args r fr h=>by
 simp only[k121]at h
 split at h
 ·simp only[Option.some.injEq,Prod.mk.injEq,decide_eq_true_eq]at h
  obtain⟨h0,rfl,rfl⟩:=h
  exact ZnU _ _ h0
 ·cases h
def Ba:List Ctr:=[k81b,k121]++B9
theorem Zmu:ZaI Tryz.prog Ba:=⟨Zv6,⟨ZsN,ZCo⟩⟩
end Go.Proofs.YtkeoeooghhjibaaGreatDoor
/- Paths of functions, printed by the explorer (Gx). No condition. -/
namespace Go.Proofs.YtkeoeooghhjibaaGreatDoor
set_option maxRecDepth 100000
set_option linter.unusedVariables false
def ZzS(ms ks rs:List AV)(a b:Int)(xs:List Int)(k t:Int):AFrame:={ fn:=78,N:=34,env:=[(0,AV.agg (Row.gen [.list (Row.big .str ms), .list (Row.big (.agg [.str, .int .i64]) ks), .list (Row.big (.agg [.str, .int .i64, .int .i64, .int .i64, .int .i64]) rs)])),(1,AV.agg (Row.gen [.int .i64 a, .int .i64 b, .list (.ints .i64 xs)])),(2,AV.int .i64 k),(3,AV.int .i64 t)],todo:=[.code a78.code],defs:=[],rnd:=none,ret:=false,res:=[ARes.cell 8 true 3] }
def ZF6(ms ks rs:List AV)(a b:Int)(xs:List Int)(k t:Int):List AFrame:=[(ZzS ms ks rs a b xs k t)]
theorem Zvr(ms ks rs:List AV)(a b:Int)(xs:List Int)(k t:Int):Zaq tab 78 [AV.agg (Row.gen [.list (Row.big .str ms), .list (Row.big (.agg [.str, .int .i64]) ks), .list (Row.big (.agg [.str, .int .i64, .int .i64, .int .i64, .int .i64]) rs)]),AV.agg (Row.gen [.int .i64 a, .int .i64 b, .list (.ints .i64 xs)]),AV.int .i64 k,AV.int .i64 t]=some (ZzS ms ks rs a b xs k t):=rfl
def ZAc(A:Ar)(K:KT)(F:FT)(ms ks rs:List AV)(a b:Int)(xs:List Int)(k t:Int):Prop:=rB [decide (List.length xs≤1000000)] (rB [Zaf (Zaf (A.le 0 k) (Nat.blt (A.nat k) (A.lenA ks))) true,Zaf (Nat.blt (A.nat k) (A.len xs)) true,Zaf (A.le 0 k) (Nat.blt (A.nat k) (A.len xs))] (bB (A.not (A.eq ((A.nthA ks (A.nat k)).cellAt 1).toI (-1))) (F (AV.agg (Row.gen [.int .i64 ((A.nthA ks (A.nat k)).cellAt 1).toI, .int .i64 t, .list (.ints .i64 (A.set xs (A.nat k) t))])) (none)) (F (AV.agg (Row.gen [.int .i64 a, .int .i64 t, .list (.ints .i64 (A.set xs (A.nat k) t))])) (none))))
theorem ZDV{A:Ar}{K:KT}{F:FT}{M:MT}{ms ks rs:List AV}{a b:Int}{xs:List Int}{k t:Int} :ZaD A tab Ba 78 K F M (.run 7 (.ty (.run 27 (.tf (.run 11 (.fn)) (.run 7 (.fn)))))) (ZF6 ms ks rs a b xs k t) []=ZAc A K F ms ks rs a b xs k t:=by kernel_rfl
def Zz3(at0 mo:Int)(dn:List AV)(ha:Bool)(ba:Int)(to:Bool)(dw:List Int)(up:List AV)(at1 mo1:Int)(dn1:List AV)(ha1:Bool)(ba1:Int)(to1:Bool)(dw1:List Int)(up1:List AV):AFrame:={ fn:=21,N:=82,env:=[(0,AV.agg (Row.gen [.int .i64 at0, .int .i64 mo, .list (Row.big (.agg [.int .i64, .int .i64]) dn), .bool ha, .int .i64 ba, .bool to, .list (.ints .i64 dw), .list (Row.big (.agg [.int .i64, .bool]) up)])),(1,AV.agg (Row.gen [.int .i64 at1, .int .i64 mo1, .list (Row.big (.agg [.int .i64, .int .i64]) dn1), .bool ha1, .int .i64 ba1, .bool to1, .list (.ints .i64 dw1), .list (Row.big (.agg [.int .i64, .bool]) up1)]))],todo:=[.code a21.code],defs:=[],rnd:=none,ret:=false,res:=[ARes.tmp 4] }
def ZIo(at0 mo:Int)(dn:List AV)(ha:Bool)(ba:Int)(to:Bool)(dw:List Int)(up:List AV)(at1 mo1:Int)(dn1:List AV)(ha1:Bool)(ba1:Int)(to1:Bool)(dw1:List Int)(up1:List AV):List AFrame:=[(Zz3 at0 mo dn ha ba to dw up at1 mo1 dn1 ha1 ba1 to1 dw1 up1)]
theorem Zte(at0 mo:Int)(dn:List AV)(ha:Bool)(ba:Int)(to:Bool)(dw:List Int)(up:List AV)(at1 mo1:Int)(dn1:List AV)(ha1:Bool)(ba1:Int)(to1:Bool)(dw1:List Int)(up1:List AV):Zaq tab 21 [AV.agg (Row.gen [.int .i64 at0, .int .i64 mo, .list (Row.big (.agg [.int .i64, .int .i64]) dn), .bool ha, .int .i64 ba, .bool to, .list (.ints .i64 dw), .list (Row.big (.agg [.int .i64, .bool]) up)]),AV.agg (Row.gen [.int .i64 at1, .int .i64 mo1, .list (Row.big (.agg [.int .i64, .int .i64]) dn1), .bool ha1, .int .i64 ba1, .bool to1, .list (.ints .i64 dw1), .list (Row.big (.agg [.int .i64, .bool]) up1)])]=some (Zz3 at0 mo dn ha ba to dw up at1 mo1 dn1 ha1 ba1 to1 dw1 up1):=rfl
def Zhd(at0 mo:Int)(dn:List AV)(ha:Bool)(ba:Int)(to:Bool)(dw:List Int)(up:List AV)(at1 mo1:Int)(dn1:List AV)(ha1:Bool)(ba1:Int)(to1:Bool)(dw1:List Int)(up1:List AV)(n0:Int):List AFrame:=[{ fn:=21,N:=82,env:=[(2,AV.ptr 21003 0 0 0),(3,AV.ptr 21004 0 0 0),(5,AV.int .i64 n0)],todo:=.code (ACode.gh [] ZxS)::ZDc,defs:=[],rnd:=none,ret:=false,res:=[ARes.tmp 4] }]
def ZeU(at0 mo:Int)(dn:List AV)(ha:Bool)(ba:Int)(to:Bool)(dw:List Int)(up:List AV)(at1 mo1:Int)(dn1:List AV)(ha1:Bool)(ba1:Int)(to1:Bool)(dw1:List Int)(up1:List AV)(n0:Int):Zac:=[(21003,{ base:=0,blks:=[Blk.row 37 8 (Row.gen [AV.agg (Row.gen [AV.int .i64 at0,AV.int .i64 mo,AV.list (Row.big (.agg [.int .i64, .int .i64]) dn),AV.bool ha,AV.int .i64 ba,AV.bool to,AV.list (.ints .i64 dw),AV.list (Row.big (.agg [.int .i64, .bool]) up)])])] }),(21004,{ base:=0,blks:=[Blk.row 37 8 (Row.gen [AV.agg (Row.gen [AV.int .i64 at1,AV.int .i64 mo1,AV.list (Row.big (.agg [.int .i64, .int .i64]) dn1),AV.bool ha1,AV.int .i64 ba1,AV.bool to1,AV.list (.ints .i64 dw1),AV.list (Row.big (.agg [.int .i64, .bool]) up1)])])] })]
abbrev Zif(at0 mo:Int)(dn:List AV)(ha:Bool)(ba:Int)(to:Bool)(dw:List Int)(up:List AV)(at1 mo1:Int)(dn1:List AV)(ha1:Bool)(ba1:Int)(to1:Bool)(dw1:List Int)(up1:List AV)(n0:Int):List AFrame×Zac:=(Zhd at0 mo dn ha ba to dw up at1 mo1 dn1 ha1 ba1 to1 dw1 up1 n0,ZeU at0 mo dn ha ba to dw up at1 mo1 dn1 ha1 ba1 to1 dw1 up1 n0)
def ZAM(A:Ar)(K:KT)(F:FT)(at0 mo:Int)(dn:List AV)(ha:Bool)(ba:Int)(to:Bool)(dw:List Int)(up:List AV)(at1 mo1:Int)(dn1:List AV)(ha1:Bool)(ba1:Int)(to1:Bool)(dw1:List Int)(up1:List AV):Prop:=bB (A.not (A.eq at0 at1)) (F (AV.bool false) (none)) (bB (A.not (A.eq mo mo1)) (F (AV.bool false) (none)) (rB [decide (List.length dn≤1000000)] (bB (A.not (ZcY eq2 dn dn1)) (F (AV.bool false) (none)) (bB (A.not (Decidable.rec (fun h=>(fun x=>false) h) (fun h=>(fun x=>true) h) (instDecidableEqBool ha ha1))) (F (AV.bool false) (none)) (bB (A.not (A.eq ba ba1)) (F (AV.bool false) (none)) (bB (A.not (Decidable.rec (fun h=>(fun x=>false) h) (fun h=>(fun x=>true) h) (instDecidableEqBool to to1))) (F (AV.bool false) (none)) (rB [decide (List.length dw≤1000000)] (bB (A.not (decide (dw=dw1))) (F (AV.bool false) (none)) (bB (A.not (A.eq (A.int (A.lenA up)) (A.int (A.lenA up1)))) (F (AV.bool false) (none)) (K (Zif (at0) (mo) (dn) (ha) (ba) (to) (dw) (up) (at1) (mo1) (dn1) (ha1) (ba1) (to1) (dw1) (up1) (0))))))))))))
theorem ZEg{A:Ar}{K:KT}{F:FT}{M:MT}{at0 mo:Int}{dn:List AV}{ha:Bool}{ba:Int}{to:Bool}{dw:List Int}{up:List AV}{at1 mo1:Int}{dn1:List AV}{ha1:Bool}{ba1:Int}{to1:Bool}{dw1:List Int}{up1:List AV} :ZaD A tab Ba 21 K F M (.run 15 (.tf (.ty (.ty (.ty (.ty (.ty (.run 1 (.ty (.ty (.ty (.ty (.ty (.ty (.ty (.run 1 (.ty (.ty (.ty (.ty (.ty (.ty (.run 1 (.ty (.ty (.ty (.ty (.ty (.ty (.run 1 (.ty (.ty (.ty (.ty (.ty (.ty (.run 1 (.ty (.ty (.ty (.ty (.ty (.ty (.ty (.run 1 (.ty (.ty (.ty (.ty (.ty (.ty (.ty (.ty (.run 2 (.ty (.run 5 (.fn))))))))))))))))))))))))))))))))))))))))))))))))))))))) (.fy (.fy (.fy (.fy (.fy (.run 1 (.tf (.ty (.ty (.ty (.ty (.ty (.ty (.run 1 (.ty (.ty (.ty (.ty (.ty (.ty (.run 1 (.ty (.ty (.ty (.ty (.ty (.ty (.run 1 (.ty (.ty (.ty (.ty (.ty (.ty (.run 1 (.ty (.ty (.ty (.ty (.ty (.ty (.ty (.run 1 (.ty (.ty (.ty (.ty (.ty (.ty (.ty (.ty (.run 2 (.ty (.run 5 (.fn)))))))))))))))))))))))))))))))))))))))))))))))) (.fy (.fy (.fy (.fy (.fy (.fy (.run 1 (.tf (.ty (.ty (.ty (.ty (.ty (.run 1 (.ty (.ty (.ty (.ty (.ty (.ty (.run 1 (.ty (.ty (.ty (.ty (.ty (.ty (.run 1 (.ty (.ty (.ty (.ty (.ty (.ty (.ty (.run 1 (.ty (.ty (.ty (.ty (.ty (.ty (.ty (.ty (.run 2 (.ty (.run 5 (.fn)))))))))))))))))))))))))))))))))))))))) (.fy (.fy (.fy (.fy (.fy (.run 1 (.tf (.ty (.ty (.ty (.ty (.ty (.run 1 (.ty (.ty (.ty (.ty (.ty (.ty (.run 1 (.ty (.ty (.ty (.ty (.ty (.ty (.ty (.run 1 (.ty (.ty (.ty (.ty (.ty (.ty (.ty (.ty (.run 2 (.ty (.run 5 (.fn))))))))))))))))))))))))))))))))) (.fy (.fy (.fy (.fy (.fy (.run 1 (.tf (.ty (.ty (.ty (.ty (.ty (.run 1 (.ty (.ty (.ty (.ty (.ty (.ty (.ty (.run 1 (.ty (.ty (.ty (.ty (.ty (.ty (.ty (.ty (.run 2 (.ty (.run 5 (.fn)))))))))))))))))))))))))) (.fy (.fy (.fy (.fy (.fy (.run 1 (.tf (.ty (.ty (.ty (.ty (.ty (.ty (.run 1 (.ty (.ty (.ty (.ty (.ty (.ty (.ty (.ty (.run 2 (.ty (.run 5 (.fn))))))))))))))))))) (.fy (.fy (.fy (.fy (.fy (.fy (.run 1 (.tf (.ty (.ty (.ty (.ty (.ty (.ty (.ty (.run 2 (.ty (.run 5 (.fn))))))))))) (.fy (.fy (.fy (.fy (.fy (.fy (.fy (.run 2 (.tf (.run 5 (.fn)) (.run 9 (.hd))))))))))))))))))))))))))))))))))))))))))))))))))))))))) (ZIo at0 mo dn ha ba to dw up at1 mo1 dn1 ha1 ba1 to1 dw1 up1) []=ZAM A K F at0 mo dn ha ba to dw up at1 mo1 dn1 ha1 ba1 to1 dw1 up1:=by kernel_rfl
def ZeT(A:Ar)(K:KT)(F:FT)(at0 mo:Int)(dn:List AV)(ha:Bool)(ba:Int)(to:Bool)(dw:List Int)(up:List AV)(at1 mo1:Int)(dn1:List AV)(ha1:Bool)(ba1:Int)(to1:Bool)(dw1:List Int)(up1:List AV)(n0:Int):Prop:=bB (A.lt n0 (A.int (A.lenA up))) (rB [Zaf (Zaf (A.le 0 n0) (Nat.blt (A.nat n0) (A.lenA up1))) true,Zaf (Zaf (A.le 0 n0) (Nat.blt (A.nat n0) (A.lenA up))) true] (bB (A.not (Zaf (A.eq ((A.nthA up (A.nat n0)).cellAt 0).toI ((A.nthA up1 (A.nat n0)).cellAt 0).toI) (Decidable.rec (fun h=>(fun x=>false) h) (fun h=>(fun x=>true) h) (instDecidableEqBool ((A.nthA up (A.nat n0)).cellAt 1).toB ((A.nthA up1 (A.nat n0)).cellAt 1).toB)))) (F (AV.bool false) (none)) (rB [A.inR .i64 (A.add n0 1)] (K (Zif (at0) (mo) (dn) (ha) (ba) (to) (dw) (up) (at1) (mo1) (dn1) (ha1) (ba1) (to1) (dw1) (up1) (A.add n0 1)))))) (F (AV.bool true) (none))
theorem Zid{A:Ar}{K:KT}{F:FT}{M:MT}{at0 mo:Int}{dn:List AV}{ha:Bool}{ba:Int}{to:Bool}{dw:List Int}{up:List AV}{at1 mo1:Int}{dn1:List AV}{ha1:Bool}{ba1:Int}{to1:Bool}{dw1:List Int}{up1:List AV}{n0:Int} :ZaD A tab Ba 21 K F M (.run 10 (.tf (.run 6 (.tf (.run 5 (.fn)) (.run 9 (.hd)))) (.run 6 (.fn)))) (Zhd at0 mo dn ha ba to dw up at1 mo1 dn1 ha1 ba1 to1 dw1 up1 n0) (ZeU at0 mo dn ha ba to dw up at1 mo1 dn1 ha1 ba1 to1 dw1 up1 n0)=ZeT A K F at0 mo dn ha ba to dw up at1 mo1 dn1 ha1 ba1 to1 dw1 up1 n0:=by kernel_rfl
def ZsG(ms ks rs:List AV)(a t:Int)(xs:List Int)(s:List UInt8)(r1 r2 r3 r4 b:Int):AFrame:={ fn:=122,N:=26,env:=[(0,AV.eptr (AV.agg (Row.gen [.list (Row.big .str ms), .list (Row.big (.agg [.str, .int .i64]) ks), .list (Row.big (.agg [.str, .int .i64, .int .i64, .int .i64, .int .i64]) rs), .int .i64 a, .int .i64 t, .list (.ints .i64 xs)])) 0),(1,AV.agg (Row.gen [.str s, .int .i64 r1, .int .i64 r2, .int .i64 r3, .int .i64 r4])),(2,AV.int .i64 b)],todo:=[.code a122.code],defs:=[],rnd:=none,ret:=false,res:=[ARes.tmp 6] }
def ZCO(ms ks rs:List AV)(a t:Int)(xs:List Int)(s:List UInt8)(r1 r2 r3 r4 b:Int):List AFrame:=[(ZsG ms ks rs a t xs s r1 r2 r3 r4 b)]
theorem Zp5(ms ks rs:List AV)(a t:Int)(xs:List Int)(s:List UInt8)(r1 r2 r3 r4 b:Int):Zaq tab 122 [AV.eptr (AV.agg (Row.gen [.list (Row.big .str ms), .list (Row.big (.agg [.str, .int .i64]) ks), .list (Row.big (.agg [.str, .int .i64, .int .i64, .int .i64, .int .i64]) rs), .int .i64 a, .int .i64 t, .list (.ints .i64 xs)])) 0,AV.agg (Row.gen [.str s, .int .i64 r1, .int .i64 r2, .int .i64 r3, .int .i64 r4]),AV.int .i64 b]=some (ZsG ms ks rs a t xs s r1 r2 r3 r4 b):=rfl
def ZsC(A:Ar)(K:KT)(F:FT)(ms ks rs:List AV)(a t:Int)(xs:List Int)(s:List UInt8)(r1 r2 r3 r4 b:Int):Prop:=qB [A.eq r2 (-1),A.eq r1 b] (F (AV.bool true) (none)) (qB [!A.eq r2 (-1),A.eq r1 b] (F (AV.bool (A.eq r2 a)) (none)) (rB [!A.eq r1 b] (F (AV.bool false) (none))))
theorem ZxR{A:Ar}{K:KT}{F:FT}{M:MT}{ms ks rs:List AV}{a t:Int}{xs:List Int}{s:List UInt8}{r1 r2 r3 r4 b:Int} :ZaD A tab Ba 122 K F M (.run 6 (.alt [true,true] (.run 2 (.fn)) (.alt [true,false] (.run 2 (.fn)) (.fy (.run 2 (.fn)))))) (ZCO ms ks rs a t xs s r1 r2 r3 r4 b) []=ZsC A K F ms ks rs a t xs s r1 r2 r3 r4 b:=by kernel_rfl
end Go.Proofs.YtkeoeooghhjibaaGreatDoor
/- Contracts as a list. No condition. -/
namespace Go.Proofs.YtkeoeooghhjibaaGreatDoor
theorem ZEO(a b:Bool):(Decidable.rec (fun h=>(fun x=>false) h) (fun h=>(fun x=>true) h) (instDecidableEqBool a b):Bool)=decide (a=b):=by cases a<;>cases b<;>rfl
def exM(ks:List AV)(a k:Int):Int:=if Zal ks k 1= -1 then a else Zal ks k 1
theorem Zrs(ms ks rs:List AV)(a b:Int)(xs:List Int)(k t:Int)(h:xs.length≤1000000∧0≤k∧k<ks.length∧k<xs.length):Zan Tryz.prog 78 [.agg (.gen [.list (.big .str ms), .list (.big (.agg [.str, .int .i64]) ks), .list (.big (.agg [.str, .int .i64, .int .i64, .int .i64, .int .i64]) rs)]), .agg (.gen [.int .i64 a, .int .i64 b, .list (.ints .i64 xs)]), .int .i64 k, .int .i64 t] (.agg (.gen [.int .i64 (exM ks a k), .int .i64 t, .list (.ints .i64 (xs.set k.toNat t))])) none:=
 start (Zvr ms ks rs a b xs k t) fun C hC=>tgo hC Zmu ZDV (by
  have e:((ks.getD k.toNat .top).cellAt 1).toI=Zal ks k 1:=rfl
  have h1:k.toNat<ks.length:=by omega
  have h2:k.toNat<xs.length:=by omega
  by_cases hf:Zal ks k 1= -1<;>simp[-List.getD_eq_getElem?_getD,ZAc,e,h,h1,h2,hf,exM])
def ZD2(a b r1 r2:Int):Bool:=decide (r1=b∧(r2= -1∨r2=a))
theorem ZoN(ms ks rs:List AV)(a t:Int)(xs:List Int)(s:List UInt8)(r1 r2 r3 r4 b:Int):Zan Tryz.prog 122 [.eptr (.agg (.gen [.list (.big .str ms), .list (.big (.agg [.str, .int .i64]) ks), .list (.big (.agg [.str, .int .i64, .int .i64, .int .i64, .int .i64]) rs), .int .i64 a, .int .i64 t, .list (.ints .i64 xs)])) 0, .agg (.gen [.str s, .int .i64 r1, .int .i64 r2, .int .i64 r3, .int .i64 r4]), .int .i64 b] (.bool (ZD2 a b r1 r2)) none:=
 start (Zp5 ms ks rs a t xs s r1 r2 r3 r4 b) fun C hC=>tgo hC Zmu ZxR (by
  by_cases h1:r1=b<;>by_cases h2:r2= -1<;>by_cases h3:r2=a<;>simp_all[ZsC,ZD2])
def eqR(x y:AV):Bool:=decide ((x.cellAt 0).toI=(y.cellAt 0).toI∧(x.cellAt 1).toB=(y.cellAt 1).toB)
def ZoP(at0 mo:Int)(dn:List AV)(ha:Bool)(ba:Int)(to:Bool)(dw:List Int)(up:List AV)(at1 mo1:Int)(dn1:List AV)(ha1:Bool)(ba1:Int)(to1:Bool)(dw1:List Int)(up1:List AV):Bool:=
 decide (at0=at1∧mo=mo1∧ZcY eq2 dn dn1=true∧ha=ha1∧ba=ba1∧to=to1∧dw=dw1)&&ZcY eqR up up1
theorem Zju{C:Ctx}(hC:C.P=Tryz.prog)(at0 mo:Int)(dn:List AV)(ha:Bool)(ba:Int)(to:Bool)(dw:List Int)(up:List AV)(at1 mo1:Int)(dn1:List AV)(ha1:Bool)(ba1:Int)(to1:Bool)(dw1:List Int)(up1:List AV)(hl:up.length≤1000000∧up.length=up1.length):∀m k:Nat,k+m=up.length→Ev C (Zhd at0 mo dn ha ba to dw up at1 mo1 dn1 ha1 ba1 to1 dw1 up1 k) (ZeU at0 mo dn ha ba to dw up at1 mo1 dn1 ha1 ba1 to1 dw1 up1 k) (ZbT 21 (.bool (ZcY eqR (up.drop k) (up1.drop k))) none)
 |0,k,hk=>tgo hC Zmu Zid (by
  rw[List.drop_of_length_le (by omega),List.drop_of_length_le (by omega)]
  simp[ZeT,show ¬(k:Int)<up.length by omega,ZcY])
 |m+1,k,hk=>by
  have ih:=Zju hC at0 mo dn ha ba to dw up at1 mo1 dn1 ha1 ba1 to1 dw1 up1 hl m (k+1) (by omega)
  rw[ZmC (show k<up.length by omega),ZmC (show k<up1.length by omega),ZcY]
  refine tgo hC Zmu Zid ?_
  unfold ZeT
  simp only[ZEO]
  by_cases h:eqR (up.getD k .top) (up1.getD k .top)=true
  ·rw[h,Bool.true_and]
   simp[-List.getD_eq_getElem?_getD,eqR]at h
   simp[-List.getD_eq_getElem?_getD,show(k:Int)<up.length by omega,show k<up.length by omega,show k<up1.length by omega,h]
   exact⟨by omega,by simpa using ih⟩
  ·rw[(by simpa using h:eqR (up.getD k .top) (up1.getD k .top)=false),Bool.false_and]
   simp only[eqR,decide_eq_true_eq,not_and]at h
   simp[-List.getD_eq_getElem?_getD,show(k:Int)<up.length by omega,show k<up.length by omega,show k<up1.length by omega]
   exact fun h1 h2=>absurd (by simpa using h2) (h h1)
theorem Zjv(at0 mo:Int)(dn:List AV)(ha:Bool)(ba:Int)(to:Bool)(dw:List Int)(up:List AV)(at1 mo1:Int)(dn1:List AV)(ha1:Bool)(ba1:Int)(to1:Bool)(dw1:List Int)(up1:List AV)(hl:dn.length≤1000000∧dw.length≤1000000∧up.length≤1000000):Zan Tryz.prog 21 [.agg (.gen [.int .i64 at0, .int .i64 mo, .list (.big (.agg [.int .i64, .int .i64]) dn), .bool ha, .int .i64 ba, .bool to, .list (.ints .i64 dw), .list (.big (.agg [.int .i64, .bool]) up)]), .agg (.gen [.int .i64 at1, .int .i64 mo1, .list (.big (.agg [.int .i64, .int .i64]) dn1), .bool ha1, .int .i64 ba1, .bool to1, .list (.ints .i64 dw1), .list (.big (.agg [.int .i64, .bool]) up1)])] (.bool (ZoP at0 mo dn ha ba to dw up at1 mo1 dn1 ha1 ba1 to1 dw1 up1)) none:=
 start (Zte at0 mo dn ha ba to dw up at1 mo1 dn1 ha1 ba1 to1 dw1 up1) fun C hC=>tgo hC Zmu ZEg (by
  unfold ZAM ZoP
  simp only[ZEO]
  by_cases h1:at0=at1
  ·by_cases h2:mo=mo1
   ·by_cases h3:ZcY eq2 dn dn1=true
    ·by_cases h4:ha=ha1
     ·by_cases h5:ba=ba1
      ·by_cases h6:to=to1
       ·by_cases h7:dw=dw1
        ·by_cases h8:up.length=up1.length
         ·have:=Zju hC at0 mo dn ha ba to dw up at1 mo1 dn1 ha1 ba1 to1 dw1 up1 ⟨hl.2.2,h8⟩ up.length 0 (by omega)
          simp only[List.drop_zero]at this
          subst h1 h2 h4 h5 h6 h7
          simp[hl,h3,h8]
          simpa using this
         ·subst h1 h2 h4 h5 h6 h7
          simp[hl,h3,Zlv h8,show ¬((up.length:Int)=up1.length) by omega]
        ·simp[hl,h1,h2,h3,h4,h5,h6,h7]
       ·simp[hl,h1,h2,h3,h4,h5,h6]
      ·simp[hl,h1,h2,h3,h4,h5]
     ·simp[hl,h1,h2,h3,h4]
    ·simp[hl,h1,h2,h3]
   ·simp[h1,h2]
  ·simp[h1])
def k78:Ctr:=⟨78,0,fun _ a=>match a with |[.agg (.gen [.list (.big .str _), .list (.big (.agg [.str, .int .i64]) ks), .list (.big (.agg [.str, .int .i64, .int .i64, .int .i64, .int .i64]) _)]), .agg (.gen [.int .i64 a, .int .i64 _, .list (.ints .i64 xs)]), .int .i64 k, .int .i64 t]=>some (decide (xs.length≤1000000∧0≤k∧k<ks.length∧k<xs.length), .agg (.gen [.int .i64 (exM ks a k), .int .i64 t, .list (.ints .i64 (xs.set k.toNat t))]),none) |_=>none⟩
theorem ZAt:k78.OK Tryz.prog:=fun pa args r fr h=>by
 simp only[k78]at h
 split at h
 ·simp only[Option.some.injEq,Prod.mk.injEq,decide_eq_true_eq]at h
  obtain⟨h0,rfl,rfl⟩:=h
  exact Zrs _ _ _ _ _ _ _ _ h0
 ·cases h
def k122:Ctr:=⟨122,0,fun _ a=>match a with |[.eptr (.agg (.gen [.list (.big .str _), .list (.big (.agg [.str, .int .i64]) _), .list (.big (.agg [.str, .int .i64, .int .i64, .int .i64, .int .i64]) _), .int .i64 a, .int .i64 _, .list (.ints .i64 _)])) 0, .agg (.gen [.str _, .int .i64 r1, .int .i64 r2, .int .i64 _, .int .i64 _]), .int .i64 b]=>some (true, .bool (ZD2 a b r1 r2),none) |_=>none⟩
theorem Zty:k122.OK Tryz.prog:=fun pa args r fr h=>by
 simp only[k122]at h
 split at h
 ·cases h
  exact ZoN _ _ _ _ _ _ _ _ _ _ _ _
 ·cases h
def k21:Ctr:=⟨21,0,fun _ a=>match a with |[.agg (.gen [.int .i64 at0, .int .i64 mo, .list (.big (.agg [.int .i64, .int .i64]) dn), .bool ha, .int .i64 ba, .bool to, .list (.ints .i64 dw), .list (.big (.agg [.int .i64, .bool]) up)]), .agg (.gen [.int .i64 at1, .int .i64 mo1, .list (.big (.agg [.int .i64, .int .i64]) dn1), .bool ha1, .int .i64 ba1, .bool to1, .list (.ints .i64 dw1), .list (.big (.agg [.int .i64, .bool]) up1)])]=>some (decide (dn.length≤1000000∧dw.length≤1000000∧up.length≤1000000), .bool (ZoP at0 mo dn ha ba to dw up at1 mo1 dn1 ha1 ba1 to1 dw1 up1),none) |_=>none⟩
theorem Zzn:k21.OK Tryz.prog:=fun pa args r fr h=>by
 simp only[k21]at h
 split at h
 ·simp only[Option.some.injEq,Prod.mk.injEq,decide_eq_true_eq]at h
  obtain⟨h0,rfl,rfl⟩:=h
  exact Zjv _ _ _ _ _ _ _ _ _ _ _ _ _ _ _ _ h0
 ·cases h
def Bb:List Ctr:=[k78,k122,k21]++Ba
theorem Zrb:ZaI Tryz.prog Bb:=⟨ZAt,⟨Zty,⟨Zzn,Zmu⟩⟩⟩
end Go.Proofs.YtkeoeooghhjibaaGreatDoor
/- Paths of functions, printed by the explorer (Gx). No condition. -/
namespace Go.Proofs.YtkeoeooghhjibaaGreatDoor
set_option maxRecDepth 100000
set_option linter.unusedVariables false
def ZA9(ms ks rs:List AV)(a b:Int)(xs:List Int)(q:Int):AFrame:={ fn:=91,N:=66,env:=[(0,AV.eptr (AV.agg (Row.gen [.list (Row.big .str ms), .list (Row.big (.agg [.str, .int .i64]) ks), .list (Row.big (.agg [.str, .int .i64, .int .i64, .int .i64, .int .i64]) rs), .int .i64 a, .int .i64 b, .list (.ints .i64 xs)])) 0),(1,AV.int .i64 q)],todo:=[.code a91.code],defs:=[],rnd:=none,ret:=false,res:=[ARes.tmp 4] }
def ZF9(ms ks rs:List AV)(a b:Int)(xs:List Int)(q:Int):List AFrame:=[(ZA9 ms ks rs a b xs q)]
theorem Zv0(ms ks rs:List AV)(a b:Int)(xs:List Int)(q:Int):Zaq tab 91 [AV.eptr (AV.agg (Row.gen [.list (Row.big .str ms), .list (Row.big (.agg [.str, .int .i64]) ks), .list (Row.big (.agg [.str, .int .i64, .int .i64, .int .i64, .int .i64]) rs), .int .i64 a, .int .i64 b, .list (.ints .i64 xs)])) 0,AV.int .i64 q]=some (ZA9 ms ks rs a b xs q):=rfl
def Zex(ms ks rs:List AV)(a b:Int)(xs:List Int)(q n0 n1:Int):List AFrame:=[{ fn:=91,N:=66,env:=[(0,AV.eptr (AV.agg (Row.gen [.list (Row.big .str ms), .list (Row.big (.agg [.str, .int .i64]) ks), .list (Row.big (.agg [.str, .int .i64, .int .i64, .int .i64, .int .i64]) rs), .int .i64 a, .int .i64 b, .list (.ints .i64 xs)])) 0),(1,AV.int .i64 q),(11,AV.list (Row.big (.agg [.str, .int .i64, .int .i64, .int .i64, .int .i64]) rs)),(12,AV.int .i64 n0),(13,AV.int .i64 n1)],todo:=.code (ACode.gh [] ZAO)::ZCi,defs:=[],rnd:=none,ret:=false,res:=[ARes.tmp 4] }]
def Zdx(ms ks rs:List AV)(a b:Int)(xs:List Int)(q n0 n1:Int):Zac:=[]
abbrev ZbA(ms ks rs:List AV)(a b:Int)(xs:List Int)(q n0 n1:Int):List AFrame×Zac:=(Zex ms ks rs a b xs q n0 n1,Zdx ms ks rs a b xs q n0 n1)
def Zzs(A:Ar)(K:KT)(F:FT)(ms ks rs:List AV)(a b:Int)(xs:List Int)(q:Int):Prop:=K (ZbA (ms) (ks) (rs) (a) (b) (xs) (q) (A.int (A.lenA rs)) (0))
theorem ZDq{A:Ar}{K:KT}{F:FT}{M:MT}{ms ks rs:List AV}{a b:Int}{xs:List Int}{q:Int} :ZaD A tab Bb 91 K F M (.run 18 (.hd)) (ZF9 ms ks rs a b xs q) []=Zzs A K F ms ks rs a b xs q:=by kernel_rfl
def Zfq(A:Ar)(K:KT)(F:FT)(ms ks rs:List AV)(a b:Int)(xs:List Int)(q n0 n1:Int):Prop:=bB (A.lt n1 n0) (rB [Zaf (Zaf (A.le 0 n1) (Nat.blt (A.nat n1) (A.lenA rs))) true] (qB [A.eq ((A.nthA rs (A.nat n1)).cellAt 2).toI (-1),A.eq ((A.nthA rs (A.nat n1)).cellAt 1).toI q] (rB [!A.not true] (qB [A.eq ((A.nthA rs (A.nat n1)).cellAt 3).toI (-1)] (rB [Zaf (Zaf (A.le 0 n1) (Nat.blt (A.nat n1) (A.lenA rs))) true] (F (AV.eptr (AV.agg (Row.gen [.str ((A.nthA rs (A.nat n1)).cellAt 0).toS, .int .i64 ((A.nthA rs (A.nat n1)).cellAt 1).toI, .int .i64 ((A.nthA rs (A.nat n1)).cellAt 2).toI, .int .i64 ((A.nthA rs (A.nat n1)).cellAt 3).toI, .int .i64 ((A.nthA rs (A.nat n1)).cellAt 4).toI])) 0) (none))) (qB [A.inR .i64 (A.sub b (A.nth xs (A.nat ((A.nthA rs (A.nat n1)).cellAt 3).toI))),Zaf (Zaf (A.le 0 ((A.nthA rs (A.nat n1)).cellAt 3).toI) (Nat.blt (A.nat ((A.nthA rs (A.nat n1)).cellAt 3).toI) (A.len xs))) true,A.not (A.eq (A.nth xs (A.nat ((A.nthA rs (A.nat n1)).cellAt 3).toI)) (-1)),Zaf (Zaf (A.le 0 ((A.nthA rs (A.nat n1)).cellAt 3).toI) (Nat.blt (A.nat ((A.nthA rs (A.nat n1)).cellAt 3).toI) (A.len xs))) true,!A.eq ((A.nthA rs (A.nat n1)).cellAt 3).toI (-1)] (bB (A.lt (A.sub b (A.nth xs (A.nat ((A.nthA rs (A.nat n1)).cellAt 3).toI))) ((A.nthA rs (A.nat n1)).cellAt 4).toI) (rB [Zaf (Zaf (A.le 0 n1) (Nat.blt (A.nat n1) (A.lenA rs))) true] (F (AV.eptr (AV.agg (Row.gen [.str ((A.nthA rs (A.nat n1)).cellAt 0).toS, .int .i64 ((A.nthA rs (A.nat n1)).cellAt 1).toI, .int .i64 ((A.nthA rs (A.nat n1)).cellAt 2).toI, .int .i64 ((A.nthA rs (A.nat n1)).cellAt 3).toI, .int .i64 ((A.nthA rs (A.nat n1)).cellAt 4).toI])) 0) (none))) (rB [A.inR .i64 (A.add n1 1)] (K (ZbA (ms) (ks) (rs) (a) (b) (xs) (q) (n0) (A.add n1 1))))) (rB [!A.not (A.eq (A.nth xs (A.nat ((A.nthA rs (A.nat n1)).cellAt 3).toI)) (-1)),Zaf (Zaf (A.le 0 ((A.nthA rs (A.nat n1)).cellAt 3).toI) (Nat.blt (A.nat ((A.nthA rs (A.nat n1)).cellAt 3).toI) (A.len xs))) true,!A.eq ((A.nthA rs (A.nat n1)).cellAt 3).toI (-1)] (rB [A.inR .i64 (A.add n1 1)] (K (ZbA (ms) (ks) (rs) (a) (b) (xs) (q) (n0) (A.add n1 1)))))))) (qB [!A.eq ((A.nthA rs (A.nat n1)).cellAt 2).toI (-1),A.eq ((A.nthA rs (A.nat n1)).cellAt 1).toI q] (bB (A.not (A.eq ((A.nthA rs (A.nat n1)).cellAt 2).toI a)) (rB [A.inR .i64 (A.add n1 1)] (K (ZbA (ms) (ks) (rs) (a) (b) (xs) (q) (n0) (A.add n1 1)))) (qB [A.eq ((A.nthA rs (A.nat n1)).cellAt 3).toI (-1)] (rB [Zaf (Zaf (A.le 0 n1) (Nat.blt (A.nat n1) (A.lenA rs))) true] (F (AV.eptr (AV.agg (Row.gen [.str ((A.nthA rs (A.nat n1)).cellAt 0).toS, .int .i64 ((A.nthA rs (A.nat n1)).cellAt 1).toI, .int .i64 ((A.nthA rs (A.nat n1)).cellAt 2).toI, .int .i64 ((A.nthA rs (A.nat n1)).cellAt 3).toI, .int .i64 ((A.nthA rs (A.nat n1)).cellAt 4).toI])) 0) (none))) (qB [A.inR .i64 (A.sub b (A.nth xs (A.nat ((A.nthA rs (A.nat n1)).cellAt 3).toI))),Zaf (Zaf (A.le 0 ((A.nthA rs (A.nat n1)).cellAt 3).toI) (Nat.blt (A.nat ((A.nthA rs (A.nat n1)).cellAt 3).toI) (A.len xs))) true,A.not (A.eq (A.nth xs (A.nat ((A.nthA rs (A.nat n1)).cellAt 3).toI)) (-1)),Zaf (Zaf (A.le 0 ((A.nthA rs (A.nat n1)).cellAt 3).toI) (Nat.blt (A.nat ((A.nthA rs (A.nat n1)).cellAt 3).toI) (A.len xs))) true,!A.eq ((A.nthA rs (A.nat n1)).cellAt 3).toI (-1)] (bB (A.lt (A.sub b (A.nth xs (A.nat ((A.nthA rs (A.nat n1)).cellAt 3).toI))) ((A.nthA rs (A.nat n1)).cellAt 4).toI) (rB [Zaf (Zaf (A.le 0 n1) (Nat.blt (A.nat n1) (A.lenA rs))) true] (F (AV.eptr (AV.agg (Row.gen [.str ((A.nthA rs (A.nat n1)).cellAt 0).toS, .int .i64 ((A.nthA rs (A.nat n1)).cellAt 1).toI, .int .i64 ((A.nthA rs (A.nat n1)).cellAt 2).toI, .int .i64 ((A.nthA rs (A.nat n1)).cellAt 3).toI, .int .i64 ((A.nthA rs (A.nat n1)).cellAt 4).toI])) 0) (none))) (rB [A.inR .i64 (A.add n1 1)] (K (ZbA (ms) (ks) (rs) (a) (b) (xs) (q) (n0) (A.add n1 1))))) (rB [!A.not (A.eq (A.nth xs (A.nat ((A.nthA rs (A.nat n1)).cellAt 3).toI)) (-1)),Zaf (Zaf (A.le 0 ((A.nthA rs (A.nat n1)).cellAt 3).toI) (Nat.blt (A.nat ((A.nthA rs (A.nat n1)).cellAt 3).toI) (A.len xs))) true,!A.eq ((A.nthA rs (A.nat n1)).cellAt 3).toI (-1)] (rB [A.inR .i64 (A.add n1 1)] (K (ZbA (ms) (ks) (rs) (a) (b) (xs) (q) (n0) (A.add n1 1)))))))) (rB [!A.eq ((A.nthA rs (A.nat n1)).cellAt 1).toI q] (rB [A.not false] (rB [A.inR .i64 (A.add n1 1)] (K (ZbA (ms) (ks) (rs) (a) (b) (xs) (q) (n0) (A.add n1 1))))))))) (F (AV.val (Go.Value.pointer none)) (none))
theorem Zix{A:Ar}{K:KT}{F:FT}{M:MT}{ms ks rs:List AV}{a b:Int}{xs:List Int}{q n0 n1:Int} :ZaD A tab Bb 91 K F M (.run 6 (.tf (.run 25 (.alt [true,true] (.run 5 (.fy (.run 2 (.alt [true] (.run 1 (.ty (.run 13 (.fn)))) (.alt [false,true] (.run 1 (.tf (.run 13 (.fn)) (.run 8 (.hd)))) (.alt [false,false] (.run 1 (.fy (.run 8 (.hd)))) (.no))))))) (.alt [true,false] (.run 5 (.tf (.run 7 (.hd)) (.run 2 (.alt [true] (.run 1 (.ty (.run 13 (.fn)))) (.alt [false,true] (.run 1 (.tf (.run 13 (.fn)) (.run 8 (.hd)))) (.alt [false,false] (.run 1 (.fy (.run 8 (.hd)))) (.no))))))) (.fy (.run 5 (.ty (.run 7 (.hd)))))))) (.run 6 (.fn)))) (Zex ms ks rs a b xs q n0 n1) (Zdx ms ks rs a b xs q n0 n1)=Zfq A K F ms ks rs a b xs q n0 n1:=by kernel_rfl
end Go.Proofs.YtkeoeooghhjibaaGreatDoor
/- Contracts as a list. No condition. -/
namespace Go.Proofs.YtkeoeooghhjibaaGreatDoor
def Zho(rs:List AV)(a b:Int)(xs:List Int)(k:Int):Nat→Nat→Nat
 |0,i=>i
 |m+1,i=>if ZjO rs a b xs k i=true then i else Zho rs a b xs k m (i+1)
def Zc4(rs:List AV)(a b:Int)(xs:List Int)(k:Int):Bool:=decide (Zho rs a b xs k rs.length 0=rs.length)
def ZqC(rs:List AV)(i:Nat):AV:=.eptr (.agg (.gen [.str (Zaw rs i), .int .i64 (Zal rs i 1), .int .i64 (Zal rs i 2), .int .i64 (Zal rs i 3), .int .i64 (Zal rs i 4)])) 0
def Zhm(rs:List AV)(a b:Int)(xs:List Int)(k:Int)(m i:Nat):AV:=if Zho rs a b xs k m i=i+m then .val (.pointer none)else ZqC rs (Zho rs a b xs k m i)
theorem Zmr(rs:List AV)(a b:Int)(xs:List Int)(k:Int)(m i:Nat):Zhm rs a b xs k (m+1) i=if ZjO rs a b xs k i=true then ZqC rs i else Zhm rs a b xs k m (i+1):=by
 unfold Zhm
 simp only[Zho]
 split
 ·rw[if_neg (by omega)]
 ·rw[show i+(m+1)=i+1+m by omega]
theorem Zge{C:Ctx}(hC:C.P=Tryz.prog)(ms ks rs:List AV)(a b:Int)(xs:List Int)(q:Int)(hg:ZbR rs b xs=true):∀m k:Nat,k+m=rs.length→Ev C (Zex ms ks rs a b xs q rs.length k) (Zdx ms ks rs a b xs q rs.length k) (ZbT 91 (Zhm rs a b xs q m k) none)
 |0,k,hk=>tgo hC Zrb Zix (by simp[Zfq,show ¬(k:Int)<rs.length by omega,Zhm,Zho])
 |m+1,k,hk=>by
  have hlt:(k:Int)<rs.length:=by omega
  have hlt2:k<rs.length:=by omega
  have e0:((rs.getD k .top).cellAt 0).toS=Zaw rs k:=rfl
  have e1:((rs.getD k .top).cellAt 1).toI=Zal rs k 1:=rfl
  have e2:((rs.getD k .top).cellAt 2).toI=Zal rs k 2:=rfl
  have e3:((rs.getD k .top).cellAt 3).toI=Zal rs k 3:=rfl
  have e4:((rs.getD k .top).cellAt 4).toI=Zal rs k 4:=rfl
  have ih:=Zge hC ms ks rs a b xs q hg m (k+1) (by omega)
  refine tgo hC Zrb Zix ?_
  simp[-List.getD_eq_getElem?_getD,Zfq,e0,e1,e2,e3,e4,hlt,hlt2]
  obtain⟨V,hV⟩:∃V,V=Zhm rs a b xs q (m+1) k:=⟨_,rfl⟩
  rw[←hV]
  rw[Zmr]at hV
  simp only[ZjO,ZqC,decide_eq_true_eq]at hV
  have g:=ZlC hg hlt2
  clear e0 e1 e2 e3 e4 hg
  generalize Zaw rs k=nm at*
  generalize Zal rs k 1=f1 at*
  generalize Zal rs k 2=f2 at*
  generalize Zal rs k 3=f3 at*
  generalize Zal rs k 4=f4 at*
  generalize xs.getD f3.toNat 0=t at*
  have r3: -9223372036854775808≤(k:Int)+1∧(k:Int)+1≤9223372036854775807:=by omega
  have r1:f3≠ -1→(0≤f3∧f3.toNat<xs.length)∧(-9223372036854775808≤b-t∧b-t≤9223372036854775807):=by omega
  have ih':Ev C (Zex ms ks rs a b xs q rs.length (k+1)) (Zdx ms ks rs a b xs q rs.length (k+1)) (ZbT 91 (Zhm rs a b xs q m (k+1)) none):=ih
  clear hk hlt hlt2 g ih
  by_cases h1:f1=q<;>by_cases h2:f2= -1<;>by_cases h3:f2=a<;>by_cases h4:f3= -1<;>by_cases h5:t= -1<;>by_cases h6:b-t<f4<;>simp_all<;>(intro h7;omega)
theorem Zo7(ms ks rs:List AV)(a b:Int)(xs:List Int)(q:Int)(hg:ZbR rs b xs=true):Zan Tryz.prog 91 [.eptr (.agg (.gen [.list (.big .str ms), .list (.big (.agg [.str, .int .i64]) ks), .list (.big (.agg [.str, .int .i64, .int .i64, .int .i64, .int .i64]) rs), .int .i64 a, .int .i64 b, .list (.ints .i64 xs)])) 0, .int .i64 q] (Zhm rs a b xs q rs.length 0) none:=
 start (Zv0 ms ks rs a b xs q) fun C hC=>tgo hC Zrb ZDq (by
  have:=Zge hC ms ks rs a b xs q hg rs.length 0 (by omega)
  simpa[Zzs]using this)
def ZEF(c:Bool)(rs:List AV)(a b:Int)(xs:List Int)(q:Int):AV:=match c with |true=>.val (.pointer none) |false=>ZqC rs (Zho rs a b xs q rs.length 0)
theorem Zt5{c:Bool}{rs:List AV}{a b:Int}{xs:List Int}{q:Int}(h:Zc4 rs a b xs q=c):ZEF c rs a b xs q=Zhm rs a b xs q rs.length 0:=by
 subst h
 unfold ZEF Zhm Zc4
 by_cases h:Zho rs a b xs q rs.length 0=rs.length
 ·rw[decide_eq_true h,if_pos (by omega)]
 ·rw[decide_eq_false h,if_neg (by omega)]
def k91b:Ctr:=⟨91,1,fun pa a=>match pa with
 |[]=>none
 |c::_=>(match a with
  |[.eptr (.agg (.gen [.list (.big .str _), .list (.big (.agg [.str, .int .i64]) _), .list (.big (.agg [.str, .int .i64, .int .i64, .int .i64, .int .i64]) rs), .int .i64 a, .int .i64 b, .list (.ints .i64 xs)])) 0, .int .i64 q]=>some (decide (ZbR rs b xs=true∧Zc4 rs a b xs q=c),ZEF c rs a b xs q,none)
  |_=>none)⟩
theorem ZtF:k91b.OK Tryz.prog:=fun pa args r fr h=>by
 simp only[k91b]at h
 split at h
 ·cases h
 ·split at h
  ·simp only[Option.some.injEq,Prod.mk.injEq,decide_eq_true_eq]at h
   obtain⟨⟨h0,h1⟩,rfl,rfl⟩:=h
   rw[Zt5 h1]
   exact Zo7 _ _ _ _ _ _ _ h0
  ·cases h
def Bc0:List Ctr:=[k91b]++Bb
theorem Zz2:ZaI Tryz.prog Bc0:=⟨ZtF,Zrb⟩
def Bc:List Ctr:=[]++Bc0
theorem ZxB:ZaI Tryz.prog Bc:=Zz2
end Go.Proofs.YtkeoeooghhjibaaGreatDoor
/- Paths of functions, printed by the explorer (Gx). No condition. -/
namespace Go.Proofs.YtkeoeooghhjibaaGreatDoor
set_option maxRecDepth 100000
set_option linter.unusedVariables false
def Zr7(ms ks rs:List AV)(a t:Int)(xs:List Int)(c d e:Int):AFrame:={ fn:=123,N:=24,env:=[(0,AV.eptr (AV.agg (Row.gen [.list (Row.big .str ms), .list (Row.big (.agg [.str, .int .i64]) ks), .list (Row.big (.agg [.str, .int .i64, .int .i64, .int .i64, .int .i64]) rs), .int .i64 a, .int .i64 t, .list (.ints .i64 xs)])) 0),(1,AV.agg (Row.gen [.int .i64 c, .int .i64 d, .int .i64 e]))],todo:=[.code a123.code],defs:=[],rnd:=none,ret:=false,res:=[ARes.tmp 4] }
def ZDI(ms ks rs:List AV)(a t:Int)(xs:List Int)(c d e:Int):List AFrame:=[(Zr7 ms ks rs a t xs c d e)]
theorem Zql(ms ks rs:List AV)(a t:Int)(xs:List Int)(c d e:Int):Zaq tab 123 [AV.eptr (AV.agg (Row.gen [.list (Row.big .str ms), .list (Row.big (.agg [.str, .int .i64]) ks), .list (Row.big (.agg [.str, .int .i64, .int .i64, .int .i64, .int .i64]) rs), .int .i64 a, .int .i64 t, .list (.ints .i64 xs)])) 0,AV.agg (Row.gen [.int .i64 c, .int .i64 d, .int .i64 e])]=some (Zr7 ms ks rs a t xs c d e):=rfl
def Zoe(A:Ar)(K:KT)(F:FT)(ms ks rs:List AV)(a t:Int)(xs:List Int)(c d e:Int):Prop:=qB [decide (ZbR rs t xs=true∧Zc4 rs a t xs c=true),Zab t d e] (F (AV.bool true) (none)) (qB [decide (ZbR rs t xs=true∧Zc4 rs a t xs c=false),Zab t d e] (F (AV.bool false) (none)) (rB [!Zab t d e] (F (AV.bool false) (none))))
theorem ZAq{A:Ar}{K:KT}{F:FT}{M:MT}{ms ks rs:List AV}{a t:Int}{xs:List Int}{c d e:Int} :ZaD A tab Bc 123 K F M (.run 6 (.alt [true,true] (.run 2 (.fn)) (.alt [true,false] (.run 2 (.fn)) (.fy (.run 2 (.fn)))))) (ZDI ms ks rs a t xs c d e) []=Zoe A K F ms ks rs a t xs c d e:=by kernel_rfl
end Go.Proofs.YtkeoeooghhjibaaGreatDoor
/- Contracts as a list. No condition. -/
namespace Go.Proofs.YtkeoeooghhjibaaGreatDoor
def Zok(rs:List AV)(a t:Int)(xs:List Int)(c d e:Int):Bool:=Zab t d e&&Zc4 rs a t xs c
theorem ZnD(ms ks rs:List AV)(a t:Int)(xs:List Int)(c d e:Int)(h:Zab t d e=false∨ZbR rs t xs=true):Zan Tryz.prog 123 [.eptr (.agg (.gen [.list (.big .str ms), .list (.big (.agg [.str, .int .i64]) ks), .list (.big (.agg [.str, .int .i64, .int .i64, .int .i64, .int .i64]) rs), .int .i64 a, .int .i64 t, .list (.ints .i64 xs)])) 0, .agg (.gen [.int .i64 c, .int .i64 d, .int .i64 e])] (.bool (Zok rs a t xs c d e)) none:=
 start (Zql ms ks rs a t xs c d e) fun C hC=>tgo hC ZxB ZAq (by
  unfold Zok
  cases h1:Zab t d e
  ·simp[Zoe,h1]
  ·have hg:ZbR rs t xs=true:=by simpa[h1]using h
   cases h2:Zc4 rs a t xs c<;>simp[Zoe,h1,h2,hg])
def k123:Ctr:=⟨123,0,fun _ a=>match a with |[.eptr (.agg (.gen [.list (.big .str _), .list (.big (.agg [.str, .int .i64]) _), .list (.big (.agg [.str, .int .i64, .int .i64, .int .i64, .int .i64]) rs), .int .i64 a, .int .i64 t, .list (.ints .i64 xs)])) 0, .agg (.gen [.int .i64 c, .int .i64 d, .int .i64 e])]=>some (decide (Zab t d e=false∨ZbR rs t xs=true), .bool (Zok rs a t xs c d e),none) |_=>none⟩
theorem Zwi:k123.OK Tryz.prog:=fun pa args r fr h=>by
 simp only[k123]at h
 split at h
 ·simp only[Option.some.injEq,Prod.mk.injEq,decide_eq_true_eq]at h
  obtain⟨h0,rfl,rfl⟩:=h
  exact ZnD _ _ _ _ _ _ _ _ _ h0
 ·cases h
def Bd:List Ctr:=[k123]++Bc
theorem ZDa:ZaI Tryz.prog Bd:=⟨Zwi,ZxB⟩
end Go.Proofs.YtkeoeooghhjibaaGreatDoor
/- Contracts as a list. No condition. -/
namespace Go.Proofs.YtkeoeooghhjibaaGreatDoor
theorem ZnT{e n:Int}{l:List AV}(h:ZbL e n l=0):e=0∧0<l.length∧l.length≤12∧∀i<l.length,Zhk n l i=0:=by
 unfold ZbL ZeC at h
 split at h
 ·rename_i hh
  have h0:=firstE_zero.1 hh
  simp only[List.mem_cons,List.not_mem_nil,or_false,forall_eq_or_imp,forall_eq]at h0
  obtain⟨h1,h2,h3⟩:=h0
  have h2:=Zbn h2 (by decide)
  have h3:=Zbn h3 (by decide)
  simp only[decide_eq_true_eq]at h2 h3
  refine⟨h1,by omega,by omega,fun i hi=>?_⟩
  have key:∀(m k:Nat),k+m=l.length→pE (Zfp (Zhk n l) m k)=0→∀i,k≤i→i<l.length→Zhk n l i=0:=by
   intro m
   induction m with
   |zero=>intro k hk _ i hi1 hi2;omega
   |succ m ih=>
    intro k hk hs i hi1 hi2
    rw[Zfp]at hs
    split at hs
    ·rename_i hz
     by_cases hik:i=k
     ·rw[hik];exact hz
     ·exact ih (k+1) (by omega) hs i (by omega) hi2
    ·rename_i hz;exact absurd hs hz
  exact key l.length 0 (by omega) h i (by omega) hi
 ·rename_i hh;exact absurd h hh
theorem Zqv{n:Int}{l:List AV}{i:Nat}(h:Zhk n l i=0):(0≤Zal l i 0∧Zal l i 0<n)∧(0≤Zal l i 1∧Zal l i 1≤1000000000000)∧(0≤Zal l i 2∧Zal l i 2≤1000000000000)∧Zal l i 1≤Zal l i 2:=by
 unfold Zhk ZlG at h
 have h0:=firstE_zero.1 h
 simp only[List.mem_cons,List.not_mem_nil,or_false,forall_eq_or_imp,forall_eq]at h0
 obtain⟨h1,h2,h3⟩:=h0
 have h1:=within_iff.1 (Zbn h1 (by decide))
 have h2:=Zbn h2 (by decide)
 have h3:=Zbn h3 (by decide)
 simp only[Bool.and_eq_true,within_iff,decide_eq_true_eq]at h2 h3
 omega
structure OkF (ms ks rs l:List AV):Prop where
 model:ZaA ms ks rs=0
 ks1:1≤ks.length∧ks.length≤8
 rs1:rs.length≤10
 l1:0<l.length∧l.length≤12
 act:∀i<l.length,(0≤Zal l i 0∧Zal l i 0<ks.length)∧(0≤Zal l i 1∧Zal l i 1≤1000000000000)∧(0≤Zal l i 2∧Zal l i 2≤1000000000000)∧Zal l i 1≤Zal l i 2
 rule:∀i<rs.length,(0≤Zal rs i 1∧Zal rs i 1<ks.length)∧(-1≤Zal rs i 3∧Zal rs i 3<ks.length)∧(1≤Zal rs i 4∧Zal rs i 4≤1000000)
 name:∀i<rs.length,ZaQ (Zaw rs i)=true
theorem okF{ms ks rs l:List AV}(h:ZlQ ms ks rs l=0):OkF ms ks rs l:=by
 obtain⟨h1,h2,h3,h4⟩:=ZnT h
 obtain⟨g1,g2,g3,_,_,g6⟩:=Znh h1
 exact⟨h1,g2,g3,⟨h2,h3⟩,fun i hi=>Zqv (h4 i hi),fun i hi=>⟨(Zgi (g6 i hi).2).1,(Zgi (g6 i hi).2).2.2.1,(Zgi (g6 i hi).2).2.2.2.1⟩,fun i hi=>(g6 i hi).1⟩
def Be:List Ctr:=Bd
theorem ZDZ:ZaI Tryz.prog Be:=ZDa
end Go.Proofs.YtkeoeooghhjibaaGreatDoor
/- Contracts as a list. No condition. -/
namespace Go.Proofs.YtkeoeooghhjibaaGreatDoor
structure OkT (ks:List AV) (t:Int) (xs:List Int):Prop where
 len:xs.length=ks.length
 all:∀x∈xs, -1≤x∧x≤t
 lo:0≤t
 hi:t≤1000000000000
theorem OkT.at{ks:List AV}{t:Int}{xs:List Int}(h:OkT ks t xs){k:Nat}(hk:k<xs.length): -1≤xs.getD k 0∧xs.getD k 0≤t:=by
 refine h.all _ ?_
 rw[List.getD_eq_getElem?_getD,List.getElem?_eq_getElem hk];exact List.getElem_mem hk
theorem OkT.set{ks:List AV}{t t':Int}{xs:List Int}(h:OkT ks t xs)(h1:t≤t')(h2:t'≤1000000000000)(k:Nat):OkT ks t' (xs.set k t'):=by
 refine⟨by simpa using h.len,fun x hx=>?_,by have:=h.lo;omega,h2⟩
 rcases List.mem_or_eq_of_mem_set hx with hx |rfl
 ·have:=h.all x hx;omega
 ·have:=h.lo;omega
theorem OkT.forb{ms ks rs l:List AV}(hf:OkF ms ks rs l){t t':Int}{xs:List Int}(h:OkT ks t xs)(h1:t≤t')(h2:t'≤1000000000000):ZbR rs t' xs=true:=by
 simp only[ZbR,Bool.and_eq_true,List.all_eq_true,decide_eq_true_eq,List.mem_range]
 refine⟨⟨fun i hi=>?_,fun x hx=>?_⟩,by have:=h.lo;omega,h2,by have:=hf.rs1;omega⟩
 ·have:=(hf.rule i hi).2.1;have:=h.len;omega
 ·have:=h.all x hx;omega
section
variable {C:Ctx}(hC:C.P=Tryz.prog)(ms ks rs l:List AV)(hf:OkF ms ks rs l)
include hC hf
end
theorem ZIJ{ms ks rs l:List AV}(_:OkF ms ks rs l):OkT ks 0 (List.replicate ks.length (-1)):=⟨by simp,fun x hx=>by rw[List.eq_of_mem_replicate hx];omega,by omega,by omega⟩
def Bf:List Ctr:=Be
theorem ZD0:ZaI Tryz.prog Bf:=ZDZ
end Go.Proofs.YtkeoeooghhjibaaGreatDoor
/- The earliest time: the least feasible candidate. No condition. -/
namespace Go.Proofs.YtkeoeooghhjibaaGreatDoor
theorem Zj0{rs:List AV}{a t:Int}{xs:List Int}{c:Int} :∀(m i:Nat),Zho rs a t xs c m i=i+m↔∀j,i≤j→j<i+m→ZjO rs a t xs c j=false
 |0,i=>⟨fun _ j h1 h2=>by omega,fun _=>rfl⟩
 |m+1,i=>by
  unfold Zho
  have ih:=Zj0 (rs:=rs) (a:=a) (t:=t) (xs:=xs) (c:=c) m (i+1)
  constructor
  ·intro h j h1 h2
   split at h
   ·omega
   ·rename_i hb
    by_cases hj:j=i
    ·subst hj;simpa using hb
    ·exact ih.1 (by omega) j (by omega) (by omega)
  ·intro h
   rw[if_neg (by rw[h i (by omega) (by omega)];simp)]
   have:=ih.2 fun j h1 h2=>h j (by omega) (by omega)
   omega
theorem Znb{rs:List AV}{a t:Int}{xs:List Int}{c:Int} :Zc4 rs a t xs c=true↔∀i<rs.length,ZjO rs a t xs c i=false:=by
 unfold Zc4
 rw[decide_eq_true_eq]
 have:=Zj0 (rs:=rs) (a:=a) (t:=t) (xs:=xs) (c:=c) rs.length 0
 rw[Nat.zero_add]at this
 rw[this]
 exact⟨fun h i hi=>h i (Nat.zero_le _) hi,fun h j _ hj=>h j hj⟩
theorem Zkm{rs:List AV}{a t:Int}{xs:List Int}{c:Int}(hn:∀i<rs.length,Zaw rs i≠[]):∀(m i:Nat),i+m=rs.length→(ZeO rs a t xs c m i=[]↔∀j,i≤j→j<rs.length→ZjO rs a t xs c j=false)
 |0,i,h=>⟨fun _ j h1 h2=>by omega,fun _=>rfl⟩
 |m+1,i,h=>by
  unfold ZeO
  have ih:=Zkm (a:=a) (t:=t) (xs:=xs) (c:=c) hn m (i+1) (by omega)
  constructor
  ·intro hh j h1 h2
   split at hh
   ·exact absurd hh (hn i (by omega))
   ·rename_i hb
    by_cases hj:j=i
    ·subst hj;simpa using hb
    ·exact ih.1 hh j (by omega) h2
  ·intro hh
   rw[if_neg (by rw[hh i (by omega) (by omega)];simp)]
   exact ih.2 fun j h1 h2=>hh j (by omega) h2
theorem Znm{rs:List AV}{a t:Int}{xs:List Int}{c:Int}(hn:∀i<rs.length,Zaw rs i≠[]):ZeO rs a t xs c rs.length 0=[]↔Zc4 rs a t xs c=true:=by
 rw[Zkm hn rs.length 0 (by omega),Znb]
 exact⟨fun h i hi=>h i (Nat.zero_le _) hi,fun h j _ hj=>h j hj⟩
end Go.Proofs.YtkeoeooghhjibaaGreatDoor
/- Contracts as a list. No condition. -/
namespace Go.Proofs.YtkeoeooghhjibaaGreatDoor
def ZIn(rs:List AV)(b:Int)(xs:List Int)(d e:Int):Bool:=ZbR rs b xs&&((List.range rs.length).all fun i=>decide (1≤Zal rs i 4∧Zal rs i 4≤1000000∧Zaw rs i≠[]))&&decide (0≤d∧d≤1000000000000∧e≤1000000000000)
section
variable {C:Ctx}(hC:C.P=Tryz.prog)(ms ks rs:List AV)(a b:Int)(xs:List Int)(c d e:Int)(hg:ZIn rs b xs d e=true)
include hC hg
end
def Bg:List Ctr:=Bf
theorem ZD6:ZaI Tryz.prog Bg:=ZD0
end Go.Proofs.YtkeoeooghhjibaaGreatDoor
/- Contracts as a list. No condition. -/
namespace Go.Proofs.YtkeoeooghhjibaaGreatDoor
def tfG(ks rs l:List AV)(b:Int)(xs:List Int):Bool:=ZbR rs b xs&&((List.range rs.length).all fun i=>decide (1≤Zal rs i 4∧Zal rs i 4≤1000000∧Zaw rs i≠[]))&&((List.range l.length).all fun i=>decide ((0≤Zal l i 0∧Zal l i 0<ks.length)∧(0≤Zal l i 1∧Zal l i 1≤1000000000000)∧Zal l i 2≤1000000000000))&&decide (xs.length=ks.length∧xs.length≤1000000∧l.length≤1000000)
structure OkX (ks rs l:List AV) (b:Int) (xs:List Int):Prop where
 forb:ZbR rs b xs=true
 rule:∀i<rs.length,1≤Zal rs i 4∧Zal rs i 4≤1000000∧Zaw rs i≠[]
 act:∀i<l.length,(0≤Zal l i 0∧Zal l i 0<ks.length)∧(0≤Zal l i 1∧Zal l i 1≤1000000000000)∧Zal l i 2≤1000000000000
 len:xs.length=ks.length∧xs.length≤1000000∧l.length≤1000000
theorem tfG_iff{ks rs l:List AV}{b:Int}{xs:List Int} :tfG ks rs l b xs=true↔OkX ks rs l b xs:=by
 simp only[tfG,Bool.and_eq_true,List.all_eq_true,decide_eq_true_eq,List.mem_range]
 exact⟨fun h=>⟨h.1.1.1,h.1.1.2,h.1.2,h.2⟩,fun h=>⟨⟨⟨h.forb,h.rule⟩,h.act⟩,h.len⟩⟩
theorem OkX.next{ks rs l:List AV}{b t:Int}{xs:List Int}(h:OkX ks rs l b xs)(h1:b≤t)(h2:t≤1000000000000)(k:Nat):OkX ks rs l t (xs.set k t):=by
 refine⟨?_,h.rule,h.act,by simpa using h.len⟩
 have hf:=h.forb
 simp only[ZbR,Bool.and_eq_true,List.all_eq_true,decide_eq_true_eq,List.mem_range]at hf⊢
 refine⟨⟨fun i hi=>by simpa using hf.1.1 i hi,fun x hx=>?_⟩,by omega,h2,hf.2.2.2⟩
 rcases List.mem_or_eq_of_mem_set hx with hx |rfl
 ·have:=hf.1.2 x hx;omega
 ·omega
section
variable {C:Ctx}(hC:C.P=Tryz.prog)(ms ks rs l:List AV)
include hC
end
def Bh:List Ctr:=Bg
theorem ZCy:ZaI Tryz.prog Bh:=ZD6
end Go.Proofs.YtkeoeooghhjibaaGreatDoor
/- Contracts as a list. No condition. -/
namespace Go.Proofs.YtkeoeooghhjibaaGreatDoor
theorem Zps{s:List UInt8}(h:ZaQ s=true):s≠[]:=fun e=>by subst e;revert h;decide
theorem OkF.tf{ms ks rs l:List AV}(hf:OkF ms ks rs l):tfG ks rs l 0 (List.replicate ks.length (-1))=true:=by
 have hT:=ZIJ hf
 refine tfG_iff.2 ⟨hT.forb (ms:=ms) (l:=l) hf (Int.le_refl _) (by omega),fun i hi=>?_,fun i hi=>?_,?_⟩
 ·have:=(hf.rule i hi).2.2
  exact⟨this.1,this.2,Zps (hf.name i hi)⟩
 ·have:=hf.act i hi;omega
 ·have:=hf.ks1;have:=hf.l1;simp;omega
def Bi:List Ctr:=Bh
theorem Zhl:ZaI Tryz.prog Bi:=ZCy
end Go.Proofs.YtkeoeooghhjibaaGreatDoor
/- Paths of functions, printed by the explorer (Gx). No condition. -/
namespace Go.Proofs.YtkeoeooghhjibaaGreatDoor
set_option maxRecDepth 100000
set_option linter.unusedVariables false
def ZsF(xs:List Int):AFrame:={ fn:=140,N:=8,env:=[(0,AV.list (.ints .i64 xs))],todo:=[.code a140.code],defs:=[],rnd:=none,ret:=false,res:=[ARes.tmp 2] }
def ZCV(xs:List Int):List AFrame:=[(ZsF xs)]
theorem Zrw(xs:List Int):Zaq tab 140 [AV.list (.ints .i64 xs)]=some (ZsF xs):=rfl
def Zr4(A:Ar)(K:KT)(F:FT)(xs:List Int):Prop:=rB [Nat.blt 0 (A.len xs)] (rB [Nat.ble (0+A.len xs) 4294967296,List.all [] fun x=>AV.bx x&&Nat.beq (Zah A x) 1] (F (AV.row 0 0) (some { e:=3,sz:=1,r:=.ints .i64 xs })))
theorem ZBd{A:Ar}{K:KT}{F:FT}{M:MT}{xs:List Int} :ZaD A tab Bi 140 K F M (.run 10 (.fy (.run 9 (.fn)))) (ZCV xs) []=Zr4 A K F xs:=by kernel_rfl
def ZoW(cap:Nat):AFrame:={ fn:=140,N:=8,env:=[(0,AV.val (Go.Value.slice none 0 cap))],todo:=[.code a140.code],defs:=[],rnd:=none,ret:=false,res:=[ARes.tmp 2] }
def ZAb(cap:Nat):List AFrame:=[(ZoW cap)]
theorem Zn2(cap:Nat):Zaq tab 140 [AV.val (Go.Value.slice none 0 cap)]=some (ZoW cap):=rfl
def Zor(A:Ar)(K:KT)(F:FT)(cap:Nat):Prop:=F (AV.nils) (none)
theorem Zut{A:Ar}{K:KT}{F:FT}{M:MT}{cap:Nat} :ZaD A tab Bi 140 K F M (.run 10 (.ty (.run 5 (.fn)))) (ZAb cap) []=Zor A K F cap:=by kernel_rfl
def Zoa(ad:Go.Addr)(cap:Nat):AFrame:={ fn:=140,N:=8,env:=[(0,AV.val (Go.Value.slice (some ad) 0 cap))],todo:=[.code a140.code],defs:=[],rnd:=none,ret:=false,res:=[ARes.tmp 2] }
def ZAx(ad:Go.Addr)(cap:Nat):List AFrame:=[(Zoa ad cap)]
theorem Zpa(ad:Go.Addr)(cap:Nat):Zaq tab 140 [AV.val (Go.Value.slice (some ad) 0 cap)]=some (Zoa ad cap):=rfl
def Zn1(A:Ar)(K:KT)(F:FT)(ad:Go.Addr)(cap:Nat):Prop:=rB [List.all [] fun x=>AV.bx x&&Nat.beq (Zah A x) 1] (F (AV.row 0 0) (some { e:=3,sz:=1,r:=Row.gen [] }))
theorem ZwG{A:Ar}{K:KT}{F:FT}{M:MT}{ad:Go.Addr}{cap:Nat} :ZaD A tab Bi 140 K F M (.run 10 (.fy (.run 9 (.fn)))) (ZAx ad cap) []=Zn1 A K F ad cap:=by kernel_rfl
def Zr5(xs:List AV):AFrame:={ fn:=153,N:=8,env:=[(0,AV.list (Row.big (.agg [.int .i64, .int .i64]) xs))],todo:=[.code a153.code],defs:=[],rnd:=none,ret:=false,res:=[ARes.tmp 2] }
def ZCs(xs:List AV):List AFrame:=[(Zr5 xs)]
theorem ZqD(xs:List AV):Zaq tab 153 [AV.list (Row.big (.agg [.int .i64, .int .i64]) xs)]=some (Zr5 xs):=rfl
def Zsp(A:Ar)(K:KT)(F:FT)(xs:List AV):Prop:=rB [Nat.blt 0 (A.lenA xs)] (rB [Nat.ble (0+A.lenA xs) 4294967296,List.all [] fun x=>AV.bx x&&Nat.beq (Zah A x) 2] (F (AV.row 0 0) (some { e:=78,sz:=2,r:=Row.big (.agg [.int .i64, .int .i64]) xs })))
theorem ZyO{A:Ar}{K:KT}{F:FT}{M:MT}{xs:List AV} :ZaD A tab Bi 153 K F M (.run 10 (.fy (.run 9 (.fn)))) (ZCs xs) []=Zsp A K F xs:=by kernel_rfl
def Zov(cap:Nat):AFrame:={ fn:=153,N:=8,env:=[(0,AV.val (Go.Value.slice none 0 cap))],todo:=[.code a153.code],defs:=[],rnd:=none,ret:=false,res:=[ARes.tmp 2] }
def ZAZ(cap:Nat):List AFrame:=[(Zov cap)]
theorem ZnF(cap:Nat):Zaq tab 153 [AV.val (Go.Value.slice none 0 cap)]=some (Zov cap):=rfl
def ZoU(A:Ar)(K:KT)(F:FT)(cap:Nat):Prop:=F (AV.nils) (none)
theorem Zs2{A:Ar}{K:KT}{F:FT}{M:MT}{cap:Nat} :ZaD A tab Bi 153 K F M (.run 10 (.ty (.run 5 (.fn)))) (ZAZ cap) []=ZoU A K F cap:=by kernel_rfl
def ZnO(ad:Go.Addr)(cap:Nat):AFrame:={ fn:=153,N:=8,env:=[(0,AV.val (Go.Value.slice (some ad) 0 cap))],todo:=[.code a153.code],defs:=[],rnd:=none,ret:=false,res:=[ARes.tmp 2] }
def ZzG(ad:Go.Addr)(cap:Nat):List AFrame:=[(ZnO ad cap)]
theorem ZoV(ad:Go.Addr)(cap:Nat):Zaq tab 153 [AV.val (Go.Value.slice (some ad) 0 cap)]=some (ZnO ad cap):=rfl
def Zoy(A:Ar)(K:KT)(F:FT)(ad:Go.Addr)(cap:Nat):Prop:=rB [List.all [] fun x=>AV.bx x&&Nat.beq (Zah A x) 2] (F (AV.row 0 0) (some { e:=78,sz:=2,r:=Row.gen [] }))
theorem Zuc{A:Ar}{K:KT}{F:FT}{M:MT}{ad:Go.Addr}{cap:Nat} :ZaD A tab Bi 153 K F M (.run 10 (.fy (.run 9 (.fn)))) (ZzG ad cap) []=Zoy A K F ad cap:=by kernel_rfl
def Zr8(xs:List AV):AFrame:={ fn:=154,N:=8,env:=[(0,AV.list (Row.big (.agg [.int .i64, .bool]) xs))],todo:=[.code a154.code],defs:=[],rnd:=none,ret:=false,res:=[ARes.tmp 2] }
def ZCQ(xs:List AV):List AFrame:=[(Zr8 xs)]
theorem Zqc(xs:List AV):Zaq tab 154 [AV.list (Row.big (.agg [.int .i64, .bool]) xs)]=some (Zr8 xs):=rfl
def ZrR(A:Ar)(K:KT)(F:FT)(xs:List AV):Prop:=rB [Nat.blt 0 (A.lenA xs)] (rB [Nat.ble (0+A.lenA xs) 4294967296,List.all [] fun x=>AV.bx x&&Nat.beq (Zah A x) 2] (F (AV.row 0 0) (some { e:=129,sz:=2,r:=Row.big (.agg [.int .i64, .bool]) xs })))
theorem ZBk{A:Ar}{K:KT}{F:FT}{M:MT}{xs:List AV} :ZaD A tab Bi 154 K F M (.run 10 (.fy (.run 9 (.fn)))) (ZCQ xs) []=ZrR A K F xs:=by kernel_rfl
def ZnS(cap:Nat):AFrame:={ fn:=154,N:=8,env:=[(0,AV.val (Go.Value.slice none 0 cap))],todo:=[.code a154.code],defs:=[],rnd:=none,ret:=false,res:=[ARes.tmp 2] }
def ZwX(cap:Nat):List AFrame:=[(ZnS cap)]
theorem ZpJ(cap:Nat):Zaq tab 154 [AV.val (Go.Value.slice none 0 cap)]=some (ZnS cap):=rfl
def Zom(A:Ar)(K:KT)(F:FT)(cap:Nat):Prop:=F (AV.nils) (none)
theorem Ztd{A:Ar}{K:KT}{F:FT}{M:MT}{cap:Nat} :ZaD A tab Bi 154 K F M (.run 10 (.ty (.run 5 (.fn)))) (ZwX cap) []=Zom A K F cap:=by kernel_rfl
def Zpc(ad:Go.Addr)(cap:Nat):AFrame:={ fn:=154,N:=8,env:=[(0,AV.val (Go.Value.slice (some ad) 0 cap))],todo:=[.code a154.code],defs:=[],rnd:=none,ret:=false,res:=[ARes.tmp 2] }
def ZBe(ad:Go.Addr)(cap:Nat):List AFrame:=[(Zpc ad cap)]
theorem ZoQ(ad:Go.Addr)(cap:Nat):Zaq tab 154 [AV.val (Go.Value.slice (some ad) 0 cap)]=some (Zpc ad cap):=rfl
def Zpi(A:Ar)(K:KT)(F:FT)(ad:Go.Addr)(cap:Nat):Prop:=rB [List.all [] fun x=>AV.bx x&&Nat.beq (Zah A x) 2] (F (AV.row 0 0) (some { e:=129,sz:=2,r:=Row.gen [] }))
theorem Zs7{A:Ar}{K:KT}{F:FT}{M:MT}{ad:Go.Addr}{cap:Nat} :ZaD A tab Bi 154 K F M (.run 10 (.fy (.run 9 (.fn)))) (ZBe ad cap) []=Zpi A K F ad cap:=by kernel_rfl
end Go.Proofs.YtkeoeooghhjibaaGreatDoor
/- Contracts as a list. No condition. -/
namespace Go.Proofs.YtkeoeooghhjibaaGreatDoor
theorem Zks(xs:List Int)(h:xs.length≤1000000):Zan Tryz.prog 140 [.list (.ints .i64 xs)] (.row 0 0) (some ⟨3,1, .ints .i64 xs⟩):=by
 by_cases h0:xs=[]
 ·subst h0
  refine ZeJ rfl fun ad cap=>?_
  cases ad with
  |none=>exact ZiD (r0:=.nils) (start (Zn2 cap) fun C hC=>tgo hC Zhl Zut (by simp[Zor])) rfl rfl (by omega)
  |some ad=>exact ZiA (r:=.gen []) (start (Zpa ad cap) fun C hC=>tgo hC Zhl ZwG (by simp[Zn1])) (by omega) rfl
 ·have:=List.length_pos_iff.2 h0
  exact start (Zrw xs) fun C hC=>tgo hC Zhl ZBd (by simp[Zr4];omega)
theorem Zk2(xs:List AV)(h:xs.length≤1000000):Zan Tryz.prog 153 [.list (.big (.agg [.int .i64, .int .i64]) xs)] (.row 0 0) (some ⟨78,2, .big (.agg [.int .i64, .int .i64]) xs⟩):=by
 by_cases h0:xs=[]
 ·subst h0
  refine ZeJ rfl fun ad cap=>?_
  cases ad with
  |none=>exact ZiD (r0:=.nils) (start (ZnF cap) fun C hC=>tgo hC Zhl Zs2 (by simp[ZoU])) rfl rfl (by omega)
  |some ad=>exact ZiA (r:=.gen []) (start (ZoV ad cap) fun C hC=>tgo hC Zhl Zuc (by simp[Zoy])) (by omega) rfl
 ·have:=List.length_pos_iff.2 h0
  exact start (ZqD xs) fun C hC=>tgo hC Zhl ZyO (by simp[Zsp];omega)
theorem ZkI(xs:List AV)(h:xs.length≤1000000):Zan Tryz.prog 154 [.list (.big (.agg [.int .i64, .bool]) xs)] (.row 0 0) (some ⟨129,2, .big (.agg [.int .i64, .bool]) xs⟩):=by
 by_cases h0:xs=[]
 ·subst h0
  refine ZeJ rfl fun ad cap=>?_
  cases ad with
  |none=>exact ZiD (r0:=.nils) (start (ZpJ cap) fun C hC=>tgo hC Zhl Ztd (by simp[Zom])) rfl rfl (by omega)
  |some ad=>exact ZiA (r:=.gen []) (start (ZoQ ad cap) fun C hC=>tgo hC Zhl Zs7 (by simp[Zpi])) (by omega) rfl
 ·have:=List.length_pos_iff.2 h0
  exact start (Zqc xs) fun C hC=>tgo hC Zhl ZBk (by simp[ZrR];omega)
def k140:Ctr:=⟨140,0,fun _ a=>match a with |[.list (.ints .i64 xs)]=>some (decide (xs.length≤1000000), .row 0 0,some ⟨3,1, .ints .i64 xs⟩) |_=>none⟩
theorem ZuM:k140.OK Tryz.prog:=fun pa args r fr h=>by
 simp only[k140]at h
 split at h
 ·simp only[Option.some.injEq,Prod.mk.injEq,decide_eq_true_eq]at h
  obtain⟨h0,rfl,rfl⟩:=h
  exact Zks _ h0
 ·cases h
def k153:Ctr:=⟨153,0,fun _ a=>match a with |[.list (.big (.agg [.int .i64, .int .i64]) xs)]=>some (decide (xs.length≤1000000), .row 0 0,some ⟨78,2, .big (.agg [.int .i64, .int .i64]) xs⟩) |_=>none⟩
theorem ZsQ:k153.OK Tryz.prog:=fun pa args r fr h=>by
 simp only[k153]at h
 split at h
 ·simp only[Option.some.injEq,Prod.mk.injEq,decide_eq_true_eq]at h
  obtain⟨h0,rfl,rfl⟩:=h
  exact Zk2 _ h0
 ·cases h
def k154:Ctr:=⟨154,0,fun _ a=>match a with |[.list (.big (.agg [.int .i64, .bool]) xs)]=>some (decide (xs.length≤1000000), .row 0 0,some ⟨129,2, .big (.agg [.int .i64, .bool]) xs⟩) |_=>none⟩
theorem ZtQ:k154.OK Tryz.prog:=fun pa args r fr h=>by
 simp only[k154]at h
 split at h
 ·simp only[Option.some.injEq,Prod.mk.injEq,decide_eq_true_eq]at h
  obtain⟨h0,rfl,rfl⟩:=h
  exact ZkI _ h0
 ·cases h
def Bj:List Ctr:=[k140,k153,k154]++Bi
theorem ZqF:ZaI Tryz.prog Bj:=⟨ZuM,⟨ZsQ,⟨ZtQ,Zhl⟩⟩⟩
end Go.Proofs.YtkeoeooghhjibaaGreatDoor
/- Paths of functions, printed by the explorer (Gx). No condition. -/
namespace Go.Proofs.YtkeoeooghhjibaaGreatDoor
set_option maxRecDepth 100000
set_option linter.unusedVariables false
def ZzD(ms ks rs l:List AV)(wn fl:Int)(dn:List AV):AFrame:={ fn:=85,N:=32,env:=[(0,AV.agg (Row.gen [.list (Row.big .str ms), .list (Row.big (.agg [.str, .int .i64]) ks), .list (Row.big (.agg [.str, .int .i64, .int .i64, .int .i64, .int .i64]) rs), .list (Row.big (.agg [.int .i64, .int .i64, .int .i64]) l), .int .i64 wn, .int .i64 fl])),(1,AV.list (Row.big (.agg [.int .i64, .int .i64]) dn))],todo:=[.code a85.code],defs:=[],rnd:=none,ret:=false,res:=[ARes.cell 4 true 3] }
def ZIN(ms ks rs l:List AV)(wn fl:Int)(dn:List AV):List AFrame:=[(ZzD ms ks rs l wn fl dn)]
theorem Zvh(ms ks rs l:List AV)(wn fl:Int)(dn:List AV):Zaq tab 85 [AV.agg (Row.gen [.list (Row.big .str ms), .list (Row.big (.agg [.str, .int .i64]) ks), .list (Row.big (.agg [.str, .int .i64, .int .i64, .int .i64, .int .i64]) rs), .list (Row.big (.agg [.int .i64, .int .i64, .int .i64]) l), .int .i64 wn, .int .i64 fl]),AV.list (Row.big (.agg [.int .i64, .int .i64]) dn)]=some (ZzD ms ks rs l wn fl dn):=rfl
def ZgH(ms ks rs l:List AV)(wn fl:Int)(dn:List AV)(l0:List Int)(n1 n2 n3:Int):List AFrame:=[{ fn:=85,N:=32,env:=[(1,AV.list (Row.big (.agg [.int .i64, .int .i64]) dn)),(2,AV.ptr 85003 0 0 0),(4,AV.ptr 85005 0 0 0),(5,AV.ptr 85006 0 0 0),(6,AV.int .i64 n1)],todo:=.code (ACode.gh [] Zyx)::ZEE,defs:=[],rnd:=none,ret:=false,res:=[ARes.cell 4 true 3] }]
def ZeV(ms ks rs l:List AV)(wn fl:Int)(dn:List AV)(l0:List Int)(n1 n2 n3:Int):Zac:=[(85003,{ base:=0,blks:=[Blk.row 29 6 (Row.gen [AV.agg (Row.gen [AV.list (Row.big .str ms),AV.list (Row.big (.agg [.str, .int .i64]) ks),AV.list (Row.big (.agg [.str, .int .i64, .int .i64, .int .i64, .int .i64]) rs),AV.list (Row.big (.agg [.int .i64, .int .i64, .int .i64]) l),AV.int .i64 wn,AV.int .i64 fl])])] }),(85005,{ base:=0,blks:=[Blk.row 76 3 (Row.gen [AV.agg (Row.gen [AV.int .i64 0,AV.int .i64 0,AV.nils])])] }),(85006,{ base:=0,blks:=[Blk.row 76 3 (Row.gen [AV.agg (Row.gen [AV.int .i64 n2,AV.int .i64 n3,AV.list (.ints .i64 l0)])])] })]
abbrev Zh0(ms ks rs l:List AV)(wn fl:Int)(dn:List AV)(l0:List Int)(n1 n2 n3:Int):List AFrame×Zac:=(ZgH ms ks rs l wn fl dn l0 n1 n2 n3,ZeV ms ks rs l wn fl dn l0 n1 n2 n3)
def ZBH(A:Ar)(K:KT)(F:FT)(ms ks rs l:List AV)(wn fl:Int)(dn:List AV):Prop:=rB [decide (List.length ks≤1000000)] (K (Zh0 (ms) (ks) (rs) (l) (wn) (fl) (dn) (List.replicate (List.length ks) (-1)) (0) (0) (0)))
theorem ZCY{A:Ar}{K:KT}{F:FT}{M:MT}{ms ks rs l:List AV}{wn fl:Int}{dn:List AV} :ZaD A tab Bj 85 K F M (.run 21 (.hd)) (ZIN ms ks rs l wn fl dn) []=ZBH A K F ms ks rs l wn fl dn:=by kernel_rfl
def ZeP(A:Ar)(K:KT)(F:FT)(ms ks rs l:List AV)(wn fl:Int)(dn:List AV)(l0:List Int)(n1 n2 n3:Int):Prop:=bB (A.lt n1 (A.int (A.lenA dn))) (rB [A.inR .i64 (A.add n1 1),decide (List.length l0≤1000000∧0≤AV.toI (AV.cellAt (A.nthA l (A.nat n1)) 0)∧AV.toI (AV.cellAt (A.nthA l (A.nat n1)) 0)< ↑(List.length ks)∧AV.toI (AV.cellAt (A.nthA l (A.nat n1)) 0)< ↑(List.length l0)),Zaf (Zaf (A.le 0 n1) (Nat.blt (A.nat n1) (A.lenA dn))) true,Zaf (Zaf (A.le 0 n1) (Nat.blt (A.nat n1) (A.lenA l))) true] (K (Zh0 (ms) (ks) (rs) (l) (wn) (fl) (dn) (List.set l0 (Int.toNat ((A.nthA l (A.nat n1)).cellAt 0).toI) ((A.nthA dn (A.nat n1)).cellAt 1).toI) (A.add n1 1) (exM ks n2 ((A.nthA l (A.nat n1)).cellAt 0).toI) ((A.nthA dn (A.nat n1)).cellAt 1).toI))) (F (AV.agg (Row.gen [.int .i64 n2, .int .i64 n3, .list (.ints .i64 l0)])) (none))
theorem ZhJ{A:Ar}{K:KT}{F:FT}{M:MT}{ms ks rs l:List AV}{wn fl:Int}{dn:List AV}{l0:List Int}{n1 n2 n3:Int} :ZaD A tab Bj 85 K F M (.run 9 (.tf (.run 12 (.hd)) (.run 7 (.fn)))) (ZgH ms ks rs l wn fl dn l0 n1 n2 n3) (ZeV ms ks rs l wn fl dn l0 n1 n2 n3)=ZeP A K F ms ks rs l wn fl dn l0 n1 n2 n3:=by kernel_rfl
end Go.Proofs.YtkeoeooghhjibaaGreatDoor
