/- CheckModel of the reference. No condition. -/
import Derived.Test.YtkeoeooghhjibaaDoorPj
import Derived.KernelRfl
namespace Go.Proofs.YtkeoeooghhjibaaDoor
theorem Zpc{nm:List UInt8}{ex:Int}{xs:List AV}(h:ZaP nm=false):ZbS nm ex xs=4:=by simp[ZbS,Zan,Zaa,h]
theorem Zpu{nm:List UInt8}{ex:Int}{xs:List AV}(h:ZaP nm=true)(h2:ZfM xs nm=true):ZbS nm ex xs=5:=by
 have h3:std.hasS xs nm=true:=h2
 simp[-Zcw,ZbS,Zan,Zaa,h,h3]
theorem Zoz{nm:List UInt8}{ex:Int}{xs:List AV}(h:ZaP nm=true)(h2:ZfM xs nm=false):ZbS nm ex xs=ex:=by
 have h3:std.hasS xs nm=false:=h2
 by_cases h4:ex=0<;>simp[-Zcw,ZbS,Zan,Zaa,h,h3,h4]
theorem ZdX{n m:Int}(hm:0≤m):ZfS n m=Zaf n (-1) (m-1):=by
 unfold ZfS Zaf
 by_cases h:n= -1
 ·rw[if_pos h,decide_eq_true (by omega)]
 ·rw[if_neg h]
  by_cases h2:0≤n∧n≤m-1
  ·rw[decide_eq_true h2,decide_eq_true (by omega)]
  ·rw[decide_eq_false h2,decide_eq_false (by omega)]
theorem Ze2(nm:Nat→List UInt8)(ex:Nat→Int)(m k:Nat)(xs:List AV)(p:Int)(d:AV):Zbn p (Za7 nm ex (m+1) k xs) d=if ZbS (nm k) (ex k) xs=0 then Zbn p (Za7 nm ex m (k+1) (xs++[.str (nm k)])) d else Za4 p k (ZbS (nm k) (ex k) xs):=by
 rw[Za7];split<;>rfl
theorem Zdj(nm:List UInt8)(ex:Int)(xs:List AV):ZbS nm ex xs=if ZaP nm=true then(if ZfM xs nm=true then 5 else ex)else 4:=by
 by_cases h:ZaP nm=true
 ·by_cases h2:ZfM xs nm=true
  ·rw[if_pos h,if_pos h2,Zpu h h2]
  ·rw[if_pos h,if_neg h2,Zoz h (by simpa using h2)]
 ·rw[if_neg h,Zpc (by simpa using h)]
theorem Zjy(rs:List AV)(k n m:Nat):Zbw rs k n m=if Zaf (Zbd rs k 1) 0 ((n:Int)-1)=true∧Zaf (Zbd rs k 2) (-1) ((m:Int)-1)=true∧Zaf (Zbd rs k 3) (-1) ((n:Int)-1)=true then(if Zaf (Zbd rs k 4) 1 1000000=true then(if Zbd rs k 3= -1∧¬Zbd rs k 4=1 then 3 else 0)else 2)else 6:=by
 rw[Zbw,ZdX (by omega),ZdX (by omega)]
 by_cases h1:Zaf (Zbd rs k 1) 0 ((n:Int)-1)=true<;>by_cases h2:Zaf (Zbd rs k 2) (-1) ((m:Int)-1)=true<;>by_cases h3:Zaf (Zbd rs k 3) (-1) ((n:Int)-1)=true<;>by_cases h4:Zaf (Zbd rs k 4) 1 1000000=true<;>by_cases h5:Zbd rs k 3= -1<;>by_cases h6:Zbd rs k 4=1<;>simp_all[Zan,Zaa]
theorem ZmM{xs ys:List AV}(h:xs.map AV.toS=ys.map AV.toS){s:List UInt8} :ZfM xs s=ZfM ys s:=by
 have e:∀l:List AV,ZfM l s=(l.map AV.toS).any (· ==s):=fun l=>by simp[ZfM,List.any_map,Function.comp_def]
 rw[e,e,h]
theorem ZjO(ks:List AV)(k m:Nat):Zb8 ks k m=if Zaf (Zbd ks k 1) (-1) ((m:Int)-1)=true then 0 else 6:=by
 rw[Zb8,ZdX (by omega)];split<;>simp_all[Zaa]
section
variable {C:Ctx}(hC:C.P=Tryd.prog)(ms ks rs:List AV)(hs:ZaG ms ks rs=true)
include hC hs
theorem Zq7:∀(m k:Nat) (xs:List AV),k+m=rs.length→xs.length≤k→Ev C (Zfa ms ks rs k xs) (ZdK ms ks rs k xs)
 (ZcP 11 (Zbn 3 (Za7 (fun k=>Zav rs k) (fun k=>Zbw rs k ks.length ms.length) m k xs) (Za4 0 0 0)) none)
 |0,k,xs,hk,hx=>tgo hC ZeE ZgC (by simp[ZdM,show ¬(k:Int)<rs.length by omega];rfl)
 |m+1,k,xs,hk,hx=>by
  have hs':=hs
  simp only[ZaG,Bool.and_eq_true,decide_eq_true_eq]at hs'
  have hn:=Zby hs'.1.2 (show k<rs.length by omega)
  have hlt:(k:Int)<rs.length:=by omega
  have hlt2:k<rs.length:=by omega
  have e0:((rs.getD k .top).cellAt 0).toS=Zav rs k:=rfl
  have e1:((rs.getD k .top).cellAt 1).toI=Zbd rs k 1:=rfl
  have e2:((rs.getD k .top).cellAt 2).toI=Zbd rs k 2:=rfl
  have e3:((rs.getD k .top).cellAt 3).toI=Zbd rs k 3:=rfl
  have e4:((rs.getD k .top).cellAt 4).toI=Zbd rs k 4:=rfl
  have ih:=Zq7 m (k+1) (xs++[.str (Zav rs k)]) (by omega) (by simp;omega)
  obtain⟨V,hV⟩:∃V,V=Zbn 3 (Za7 (fun k=>Zav rs k) (fun k=>Zbw rs k ks.length ms.length) (m+1) k xs) (Za4 0 0 0):=⟨_,rfl⟩
  rw[←hV]
  rw[Ze2,Zdj,Zjy]at hV
  refine tgo hC ZeE ZgC ?_
  simp[-List.getD_eq_getElem?_getD,ZdM,e0,e1,e2,e3,e4,hlt,hlt2,hn,AV.bx,Zai]
  clear e0 e1 e2 e3 e4 hs
  replace hs':=hs'.2
  generalize Zav rs k=nm at*
  generalize Zbd rs k 1=f1 at*
  generalize Zbd rs k 2=f2 at*
  generalize Zbd rs k 3=f3 at*
  generalize Zbd rs k 4=f4 at*
  repeat' (first |split |apply And.intro)
  all_goals first |omega |skip
  all_goals (clear hs';simp_all[Za4])
theorem Zsy:∀m:Nat,m=rs.length→Ev C (Zdq ms ks rs) (ZcM ms ks rs)
 (ZcP 11 (Zbn 3 (Za7 (fun k=>Zav rs k) (fun k=>Zbw rs k ks.length ms.length) m 0 []) (Za4 0 0 0)) none)
 |0,hk=>tgo hC ZeE Zgs (by simp[Zei,←hk];rfl)
 |m+1,hk=>by
  have hs':=hs
  simp only[ZaG,Bool.and_eq_true,decide_eq_true_eq]at hs'
  have hn:=Zby hs'.1.2 (show 0<rs.length by omega)
  have hlt:(0:Int)<rs.length:=by omega
  have hlt2:0<rs.length:=by omega
  have e0:((rs.getD 0 .top).cellAt 0).toS=Zav rs 0:=rfl
  have e1:((rs.getD 0 .top).cellAt 1).toI=Zbd rs 0 1:=rfl
  have e2:((rs.getD 0 .top).cellAt 2).toI=Zbd rs 0 2:=rfl
  have e3:((rs.getD 0 .top).cellAt 3).toI=Zbd rs 0 3:=rfl
  have e4:((rs.getD 0 .top).cellAt 4).toI=Zbd rs 0 4:=rfl
  have ih:=Zq7 hC ms ks rs hs m 1 [.str (Zav rs 0)] (by omega) (by simp)
  obtain⟨V,hV⟩:∃V,V=Zbn 3 (Za7 (fun k=>Zav rs k) (fun k=>Zbw rs k ks.length ms.length) (m+1) 0 []) (Za4 0 0 0):=⟨_,rfl⟩
  rw[←hV]
  rw[Ze2,Zdj,Zjy]at hV
  refine tgo hC ZeE Zgs ?_
  simp[-List.getD_eq_getElem?_getD,Zei,e0,e1,e2,e3,e4,hlt,hlt2,hn,AV.bx,Zai]
  clear e0 e1 e2 e3 e4 hs
  replace hs':=hs'.2
  generalize Zav rs 0=nm at*
  generalize Zbd rs 0 1=f1 at*
  generalize Zbd rs 0 2=f2 at*
  generalize Zbd rs 0 3=f3 at*
  generalize Zbd rs 0 4=f4 at*
  repeat' (first |split |apply And.intro)
  all_goals first |omega |skip
  all_goals (clear hs';simp_all[Za4,ZfM])
end
def dB(ms ks rs:List AV):AV:=if 10<rs.length then Za4 3 0 8 else Zlg ms ks rs
theorem ZtP(ms ks rs:List AV):(if ZbG (decide (0≤(rs.length:Int))) (decide ((rs.length:Int)≤10))=0 then Zlg ms ks rs else Za4 3 0 (ZbG (decide (0≤(rs.length:Int))) (decide ((rs.length:Int)≤10))))=dB ms ks rs:=by
 unfold dB
 by_cases h:10<rs.length
 ·rw[if_pos h,decide_eq_true (by omega:(0:Int)≤(rs.length:Int)),decide_eq_false (by omega:¬(rs.length:Int)≤10)];rfl
 ·rw[if_neg h,decide_eq_true (by omega:(0:Int)≤(rs.length:Int)),decide_eq_true (by omega:(rs.length:Int)≤10)];rfl
def dA(ms ks rs:List AV):AV:=if ks.length=0 then Za4 2 0 10 else if 8<ks.length then Za4 2 0 8 else Zmj ms ks rs
theorem ZtN(ms ks rs:List AV):(if ZbG (decide (1≤(ks.length:Int))) (decide ((ks.length:Int)≤8))=0 then Zmj ms ks rs else Za4 2 0 (ZbG (decide (1≤(ks.length:Int))) (decide ((ks.length:Int)≤8))))=dA ms ks rs:=by
 unfold dA
 by_cases h:ks.length=0
 ·rw[if_pos h,decide_eq_false (by omega:¬(1:Int)≤(ks.length:Int))];rfl
 ·rw[if_neg h,decide_eq_true (by omega:(1:Int)≤(ks.length:Int))]
  by_cases h2:8<ks.length
  ·rw[if_pos h2,decide_eq_false (by omega:¬(ks.length:Int)≤8)];rfl
  ·rw[if_neg h2,decide_eq_true (by omega:(ks.length:Int)≤8)];rfl
theorem ZlZ(ms ks rs:List AV):Zc6 ms ks rs=if ms.length=0 then Za4 1 0 10 else if 6<ms.length then Za4 1 0 8 else Zo1 ms ks rs:=by
 unfold Zc6
 by_cases h:ms.length=0
 ·rw[if_pos h,decide_eq_false (by omega:¬(1:Int)≤(ms.length:Int))];rfl
 ·rw[if_neg h,decide_eq_true (by omega:(1:Int)≤(ms.length:Int))]
  by_cases h2:6<ms.length
  ·rw[if_pos h2,decide_eq_false (by omega:¬(ms.length:Int)≤6)];rfl
  ·rw[if_neg h2,decide_eq_true (by omega:(ms.length:Int)≤6)];rfl
section
variable {C:Ctx}(hC:C.P=Tryd.prog)(ms ks rs:List AV)(hs:ZaG ms ks rs=true)
include hC hs
theorem Zq1:Ev C (Zdq ms ks rs) (ZcM ms ks rs) (ZcP 11 (Zlg ms ks rs) none):=Zsy hC ms ks rs hs _ rfl
theorem ZrQ:∀(m k:Nat) (xs:List AV),k+m=ks.length→xs.length≤k→Ev C (ZfI ms ks rs k xs) (Zd5 ms ks rs k xs)
 (ZcP 11 (Zbn 2 (Za7 (fun k=>Zav ks k) (fun k=>Zb8 ks k ms.length) m k xs) (dB ms ks rs)) none)
 |0,k,xs,hk,hx=>by
  refine tgo hC ZeE Zgt ?_
  by_cases h:10<rs.length
  ·simp[ZcL,show ¬(k:Int)<ks.length by omega,Za7,Zbn,dB,h,show(10:Int)<rs.length by omega,Za4]
  ·simp[ZcL,show ¬(k:Int)<ks.length by omega,Za7,Zbn,dB,h,show ¬(10:Int)<rs.length by omega]
   exact Zq1 hC ms ks rs hs
 |m+1,k,xs,hk,hx=>by
  have hs':=hs
  simp only[ZaG,Bool.and_eq_true,decide_eq_true_eq]at hs'
  have hn:=Zby hs'.1.1.2 (show k<ks.length by omega)
  have hlt:(k:Int)<ks.length:=by omega
  have hlt2:k<ks.length:=by omega
  have e0:((ks.getD k .top).cellAt 0).toS=Zav ks k:=rfl
  have e1:((ks.getD k .top).cellAt 1).toI=Zbd ks k 1:=rfl
  have ih:=ZrQ m (k+1) (xs++[.str (Zav ks k)]) (by omega) (by simp;omega)
  obtain⟨V,hV⟩:∃V,V=Zbn 2 (Za7 (fun k=>Zav ks k) (fun k=>Zb8 ks k ms.length) (m+1) k xs) (dB ms ks rs):=⟨_,rfl⟩
  rw[←hV]
  rw[Ze2,Zdj,ZjO]at hV
  refine tgo hC ZeE Zgt ?_
  simp[-List.getD_eq_getElem?_getD,ZcL,e0,e1,hlt,hlt2,hn,AV.bx,Zai]
  clear e0 e1 hs
  replace hs':=hs'.2
  generalize Zav ks k=nm at*
  generalize Zbd ks k 1=f1 at*
  repeat' (first |split |apply And.intro)
  all_goals first |omega |skip
  all_goals (clear hs';simp_all[Za4])
theorem Zq3:∀m:Nat,m=ks.length→Ev C (Zdx ms ks rs) (ZcU ms ks rs)
 (ZcP 11 (Zbn 2 (Za7 (fun k=>Zav ks k) (fun k=>Zb8 ks k ms.length) m 0 []) (dB ms ks rs)) none)
 |0,hk=>by
  refine tgo hC ZeE Zf8 ?_
  by_cases h:10<rs.length
  ·simp[ZcR,←hk,Za7,Zbn,dB,h,show(10:Int)<rs.length by omega,Za4]
  ·simp[ZcR,←hk,Za7,Zbn,dB,h,show ¬(10:Int)<rs.length by omega]
   exact Zq1 hC ms ks rs hs
 |m+1,hk=>by
  have hs':=hs
  simp only[ZaG,Bool.and_eq_true,decide_eq_true_eq]at hs'
  have hn:=Zby hs'.1.1.2 (show 0<ks.length by omega)
  have hlt:(0:Int)<ks.length:=by omega
  have hlt2:0<ks.length:=by omega
  have e0:((ks.getD 0 .top).cellAt 0).toS=Zav ks 0:=rfl
  have e1:((ks.getD 0 .top).cellAt 1).toI=Zbd ks 0 1:=rfl
  have ih:=ZrQ hC ms ks rs hs m 1 [.str (Zav ks 0)] (by omega) (by simp)
  obtain⟨V,hV⟩:∃V,V=Zbn 2 (Za7 (fun k=>Zav ks k) (fun k=>Zb8 ks k ms.length) (m+1) 0 []) (dB ms ks rs):=⟨_,rfl⟩
  rw[←hV]
  rw[Ze2,Zdj,ZjO]at hV
  refine tgo hC ZeE Zf8 ?_
  simp[-List.getD_eq_getElem?_getD,ZcR,e0,e1,hlt,hlt2,hn,AV.bx,Zai]
  clear e0 e1 hs
  replace hs':=hs'.2
  generalize Zav ks 0=nm at*
  generalize Zbd ks 0 1=f1 at*
  repeat' (first |split |apply And.intro)
  all_goals first |omega |skip
  all_goals (clear hs';simp_all[Za4,ZfM])
theorem Zu1:Ev C (Zdx ms ks rs) (ZcU ms ks rs) (ZcP 11 (Zmj ms ks rs) none):=by
 have:=Zq3 hC ms ks rs hs _ rfl
 rw[←ZtP]at this
 exact this
theorem ZsE:∀(m k:Nat) (xs:List AV),k+m=ms.length→xs.map AV.toS=(ms.take k).map AV.toS→Ev C (Ze6 ms ks rs k) (Zd7 ms ks rs k)
 (ZcP 11 (Zbn 1 (Za7 (fun k=>ZaV ms k) (fun _=>0) m k xs) (dA ms ks rs)) none)
 |0,k,xs,hk,hx=>by
  refine tgo hC ZeE Zgv ?_
  by_cases h0:ks.length=0
  ·simp[Zb1,show ¬(k:Int)<ms.length by omega,Za7,Zbn,dA,h0,Za4]
  ·by_cases h:8<ks.length
   ·simp[Zb1,show ¬(k:Int)<ms.length by omega,Za7,Zbn,dA,h0,h,show(8:Int)<ks.length by omega,Za4]
   ·simp[Zb1,show ¬(k:Int)<ms.length by omega,Za7,Zbn,dA,h0,h,show ¬(8:Int)<ks.length by omega]
    exact Zu1 hC ms ks rs hs
 |m+1,k,xs,hk,hx=>by
  have hs':=hs
  simp only[ZaG,Bool.and_eq_true,decide_eq_true_eq]at hs'
  have hn:=Zgc hs'.1.1.1 (show k<ms.length by omega)
  have hlt:(k:Int)<ms.length:=by omega
  have hlt2:k<ms.length:=by omega
  have e0:(ms.getD k .top).toS=ZaV ms k:=rfl
  have ih:=ZsE m (k+1) (xs++[.str (ZaV ms k)]) (by omega) (by
   rw[List.map_append,hx,List.take_succ_eq_append_getElem hlt2,List.map_append]
   congr 1
   simp[ZaV,AV.toS,hlt2])
  have hh:ZfM (ms.take k) (ZaV ms k)=ZfM xs (ZaV ms k):=ZmM hx.symm
  obtain⟨V,hV⟩:∃V,V=Zbn 1 (Za7 (fun k=>ZaV ms k) (fun _=>0) (m+1) k xs) (dA ms ks rs):=⟨_,rfl⟩
  rw[←hV]
  rw[Ze2,Zdj]at hV
  refine tgo hC ZeE Zgv ?_
  simp[-List.getD_eq_getElem?_getD,Zb1,e0,hlt,hlt2,hn,hh]
  clear e0 hs hx hh
  replace hs':=hs'.2
  generalize ZaV ms k=nm at*
  repeat' (first |split |apply And.intro)
  all_goals first |omega |skip
  all_goals (clear hs';simp_all[Za4])
end
theorem ZnB(ms ks rs:List AV)(hs:ZaG ms ks rs=true):Zas Tryd.prog 11 [.agg (.gen [.list (.big .str ms), .list (.big (.agg [.str, .int .i64]) ks), .list (.big (.agg [.str, .int .i64, .int .i64, .int .i64, .int .i64]) rs)])] (.tup [.agg (.gen [.int .i64 (ZfA ms ks rs), .int .i64 (ZeX ms ks rs)]), .int .i64 (ZaH ms ks rs)]) none:=by
 rw[show AV.tup [.agg (.gen [.int .i64 (ZfA ms ks rs), .int .i64 (ZeX ms ks rs)]), .int .i64 (ZaH ms ks rs)]=Zc6 ms ks rs from(ZhE ms ks rs).eq.symm]
 refine start (ZpG ms ks rs) fun C hC=>tgo hC ZeE ZvK ?_
 rw[ZlZ]
 by_cases h0:ms.length=0
 ·simp[ZnE,h0,Za4]
 ·by_cases h:6<ms.length
  ·simp[ZnE,h0,h,show(6:Int)<ms.length by omega,Za4]
  ·simp[ZnE,h0,h,show ¬(6:Int)<ms.length by omega]
   have:=ZsE hC ms ks rs hs ms.length 0 [] (by omega) (by simp)
   rw[Zo1,ZtN]
   exact this
end Go.Proofs.YtkeoeooghhjibaaDoor
/- Contracts as a list. No condition. -/
namespace Go.Proofs.YtkeoeooghhjibaaDoor
def k11:Ctr:=⟨11,0,fun _ a=>match a with |[.agg (.gen [.list (.big .str ms), .list (.big (.agg [.str, .int .i64]) ks), .list (.big (.agg [.str, .int .i64, .int .i64, .int .i64, .int .i64]) rs)])]=>some (decide (ZaG ms ks rs=true), .tup [.agg (.gen [.int .i64 (ZfA ms ks rs), .int .i64 (ZeX ms ks rs)]), .int .i64 (ZaH ms ks rs)],none) |_=>none⟩
theorem Zqu:k11.OK Tryd.prog:=fun pa args r fr h=>by
 simp only[k11]at h
 split at h
 ·simp only[Option.some.injEq,Prod.mk.injEq,decide_eq_true_eq]at h
  obtain⟨h0,rfl,rfl⟩:=h
  exact ZnB _ _ _ h0
 ·cases h
def B7:List Ctr:=[k11]++B6
theorem Zt6:Za2 Tryd.prog B7:=⟨Zqu,ZeE⟩
end Go.Proofs.YtkeoeooghhjibaaDoor
/- Contracts as a list. No condition. -/
namespace Go.Proofs.YtkeoeooghhjibaaDoor
def pI:AV→Int
 | .tup [.int _ i,_]=>i
 |_=>0
def pE:AV→Int
 | .tup [_, .int _ e]=>e
 |_=>0
def isP(v:AV):Prop:=∃i e,v=Ziv i e
theorem isP.eq{v:AV}(h:isP v):v=Ziv (pI v) (pE v):=by
 obtain⟨i,e,rfl⟩:=h
 rfl
theorem Zhg{f:Nat→Int} :∀m k,isP (ZeP f m k)
 |0,_=>⟨_,_,rfl⟩
 |m+1,k=>by
  unfold ZeP
  split
  ·exact Zhg m (k+1)
  ·exact⟨_,_,rfl⟩
theorem Zno(e n:Int)(l:List AV):isP (ZdS e n l):=by
 unfold ZdS
 split
 ·exact Zhg _ _
 ·exact⟨_,_,rfl⟩
def ZfO(e n:Int)(l:List AV):Int:=pI (ZdS e n l)
def ZfR(e n:Int)(l:List AV):Int:=pE (ZdS e n l)
theorem ZlK(e n:Int)(l:List AV):ZdS e n l=.tup [.int .i64 (ZfO e n l), .int .i64 (ZfR e n l)]:=(Zno e n l).eq
theorem Znw{e n:Int}{l:List AV}(h:e≠0):ZfO e n l=0∧ZfR e n l=e:=by
 have:ZeC e l=e:=by simp[ZeC,Zan,h]
 simp[ZfO,ZfR,ZdS,this,h,Ziv,pI,pE]
theorem Zlz(ms ks rs l:List AV)(hs:ZaG ms ks rs=true∧l.length≤1000000):Zas Tryd.prog 9 [.agg (.gen [.list (.big .str ms), .list (.big (.agg [.str, .int .i64]) ks), .list (.big (.agg [.str, .int .i64, .int .i64, .int .i64, .int .i64]) rs)]), .list (.big (.agg [.int .i64, .int .i64, .int .i64]) l)] (.tup [.int .i64 (ZfO (ZaH ms ks rs) ks.length l), .int .i64 (ZfR (ZaH ms ks rs) ks.length l)]) none:=by
 rw[←ZlK]
 exact Znk ms ks rs l hs.1 hs.2
theorem Zj5(ms ks rs l:List AV)(hs:ks.length≤1000000∧l.length≤1000000):Zas Tryd.prog 12 [.agg (.gen [.list (.big .str ms), .list (.big (.agg [.str, .int .i64]) ks), .list (.big (.agg [.str, .int .i64, .int .i64, .int .i64, .int .i64]) rs)]), .list (.big (.agg [.int .i64, .int .i64, .int .i64]) l)] (.tup [.int .i64 (ZfO 0 ks.length l), .int .i64 (ZfR 0 ks.length l)]) none:=by
 rw[←ZlK]
 exact Zmr ms ks rs l hs.1 hs.2
def k9:Ctr:=⟨9,0,fun _ a=>match a with |[.agg (.gen [.list (.big .str ms), .list (.big (.agg [.str, .int .i64]) ks), .list (.big (.agg [.str, .int .i64, .int .i64, .int .i64, .int .i64]) rs)]), .list (.big (.agg [.int .i64, .int .i64, .int .i64]) l)]=>some (decide (ZaG ms ks rs=true∧l.length≤1000000), .tup [.int .i64 (ZfO (ZaH ms ks rs) ks.length l), .int .i64 (ZfR (ZaH ms ks rs) ks.length l)],none) |_=>none⟩
theorem ZtB:k9.OK Tryd.prog:=fun pa args r fr h=>by
 simp only[k9]at h
 split at h
 ·simp only[Option.some.injEq,Prod.mk.injEq,decide_eq_true_eq]at h
  obtain⟨h0,rfl,rfl⟩:=h
  exact Zlz _ _ _ _ h0
 ·cases h
def k12:Ctr:=⟨12,0,fun _ a=>match a with |[.agg (.gen [.list (.big .str _), .list (.big (.agg [.str, .int .i64]) ks), .list (.big (.agg [.str, .int .i64, .int .i64, .int .i64, .int .i64]) _)]), .list (.big (.agg [.int .i64, .int .i64, .int .i64]) l)]=>some (decide (ks.length≤1000000∧l.length≤1000000), .tup [.int .i64 (ZfO 0 ks.length l), .int .i64 (ZfR 0 ks.length l)],none) |_=>none⟩
theorem Zri:k12.OK Tryd.prog:=fun pa args r fr h=>by
 simp only[k12]at h
 split at h
 ·simp only[Option.some.injEq,Prod.mk.injEq,decide_eq_true_eq]at h
  obtain⟨h0,rfl,rfl⟩:=h
  exact Zj5 _ _ _ _ h0
 ·cases h
def k5:Ctr:=⟨5,0,fun _ a=>match a with |[]=>some (true, .bool true,none) |_=>none⟩
theorem ZtO:k5.OK Tryd.prog:=fun pa args r fr h=>by
 simp only[k5]at h
 split at h
 ·cases h
  exact Zne
 ·cases h
def B8:List Ctr:=[k9,k12,k5]++B7
theorem ZuS:Za2 Tryd.prog B8:=⟨ZtB,⟨Zri,⟨ZtO,Zt6⟩⟩⟩
end Go.Proofs.YtkeoeooghhjibaaDoor
/- Paths of functions, printed by the explorer (Gx). No condition. -/
namespace Go.Proofs.YtkeoeooghhjibaaDoor
set_option maxRecDepth 100000
set_option linter.unusedVariables false
def Zv1(ms:List AV)(ks:List AV)(rs:List AV)(l:List AV):AFrame:={ fn:=3,N:=65,env:=[(0,AV.agg (Row.gen [.list (Row.big .str ms), .list (Row.big (.agg [.str, .int .i64]) ks), .list (Row.big (.agg [.str, .int .i64, .int .i64, .int .i64, .int .i64]) rs)])),(1,AV.list (Row.big (.agg [.int .i64, .int .i64, .int .i64]) l))],todo:=[.code a3.code],defs:=[],rnd:=none,ret:=false,res:=[ARes.tmp 4] }
def f3e(ms:List AV)(ks:List AV)(rs:List AV)(l:List AV):List AFrame:=[(Zv1 ms ks rs l)]
theorem Zqp(ms:List AV)(ks:List AV)(rs:List AV)(l:List AV):ZaD tab 3 [AV.agg (Row.gen [.list (Row.big .str ms), .list (Row.big (.agg [.str, .int .i64]) ks), .list (Row.big (.agg [.str, .int .i64, .int .i64, .int .i64, .int .i64]) rs)]),AV.list (Row.big (.agg [.int .i64, .int .i64, .int .i64]) l)]=some (Zv1 ms ks rs l):=rfl
def ZwA(A:Ar)(K:KT)(F:FT)(ms:List AV)(ks:List AV)(rs:List AV)(l:List AV):Prop:=rB [!A.not true] (bB (A.not (Zmx ms ks rs)) (F (AV.bool true) (none)) (bB (A.lt 14 (A.int (A.lenA l))) (F (AV.bool true) (none)) (rB [decide (ZaG ms ks rs=true),decide (ZaG ms ks rs=true∧List.length l≤1000000),decide (List.length l≤1000000),decide (List.length ms≤1000000∧List.length ks≤1000000∧List.length rs≤1000000),decide (ZaG ms ks rs=true),decide (List.length ms≤1000000∧List.length ks≤1000000∧List.length rs≤1000000)] (bB (A.not (A.eq (ZaH ms ks rs) (ZaH ms ks rs))) (F (AV.bool false) (none)) (bB (A.not (Zag (A.eq (ZfA ms ks rs) (ZfA ms ks rs)) (A.eq (ZeX ms ks rs) (ZeX ms ks rs)))) (F (AV.bool false) (none)) (bB (A.eq (ZaH ms ks rs) 0) (rB [decide (List.length ks≤1000000∧List.length l≤1000000)] (bB (A.eq (ZfR (ZaH ms ks rs) (↑(List.length ks)) l) (ZfR 0 (↑(List.length ks)) l)) (F (AV.bool (A.eq (ZfO (ZaH ms ks rs) (↑(List.length ks)) l) (ZfO 0 (↑(List.length ks)) l))) (none)) (F (AV.bool false) (none)))) (bB (A.eq (ZfR (ZaH ms ks rs) (↑(List.length ks)) l) (ZaH ms ks rs)) (F (AV.bool (A.eq (ZfO (ZaH ms ks rs) (↑(List.length ks)) l) 0)) (none)) (F (AV.bool false) (none)))))))))
theorem Zw7{A:Ar}{K:KT}{F:FT}{M:MT}{ms:List AV}{ks:List AV}{rs:List AV}{l:List AV} :ZcA A tab B8 3 K F M (.run 11 (.fy (.run 8 (.tf (.ty (.ty (.ty (.run 2 (.ty (.run 5 (.fn))))))) (.fy (.fy (.fy (.run 2 (.tf (.run 5 (.fn)) (.run 46 (.tf (.ty (.ty (.ty (.run 2 (.ty (.run 5 (.fn))))))) (.fy (.fy (.fy (.run 2 (.tf (.run 5 (.fn)) (.run 11 (.tf (.run 16 (.tf (.ty (.ty (.ty (.run 4 (.fn))))) (.fy (.fy (.fy (.run 4 (.fn))))))) (.run 7 (.tf (.ty (.ty (.ty (.run 4 (.fn))))) (.fy (.fy (.fy (.run 4 (.fn))))))))))))))))))))))))) (f3e ms ks rs l) []=ZwA A K F ms ks rs l:=by kernel_rfl
end Go.Proofs.YtkeoeooghhjibaaDoor
/- The laws on models and on rules, walked. No condition. -/
namespace Go.Proofs.YtkeoeooghhjibaaDoor
theorem ZlJ{ms ks rs:List AV}(h:Zmx ms ks rs=true):ZaG ms ks rs=true∧ms.length≤8∧ks.length≤10∧rs.length≤12:=by
 simp only[Zmx,Bool.and_eq_true,decide_eq_true_eq,List.all_eq_true,ZqN,ZkW]at h
 obtain⟨h1,h2,h3,h4⟩:=h
 simp only[ZaG,Bool.and_eq_true,decide_eq_true_eq,List.all_eq_true]
 refine⟨⟨⟨⟨fun x hx=>?_,fun x hx=>?_⟩,fun x hx=>?_⟩,by omega⟩,h1⟩
 ·have:=h2 x hx;omega
 ·have:=h3 x hx;omega
 ·have:=h4 x hx;omega
theorem Zla(ms ks rs l:List AV):Zas Tryd.prog 3 [.agg (.gen [.list (.big .str ms), .list (.big (.agg [.str, .int .i64]) ks), .list (.big (.agg [.str, .int .i64, .int .i64, .int .i64, .int .i64]) rs)]), .list (.big (.agg [.int .i64, .int .i64, .int .i64]) l)] (.bool true) none:=
 start (Zqp ms ks rs l) fun C hC=>tgo hC ZuS Zw7 (by
  unfold ZwA
  by_cases hf:Zmx ms ks rs=true
  ·obtain⟨h1,h2,h3,h4⟩:=ZlJ hf
   by_cases hl:14<l.length
   ·simp[hf,show(14:Int)<l.length by omega]
   ·have g1:ms.length≤1000000:=by omega
    have g2:ks.length≤1000000:=by omega
    have g3:rs.length≤1000000:=by omega
    have g4:l.length≤1000000:=by omega
    by_cases he:ZaH ms ks rs=0
    ·simp[hf,show ¬(14:Int)<l.length by omega,h1,g1,g2,g3,g4,he]
    ·simp[hf,show ¬(14:Int)<l.length by omega,h1,g1,g2,g3,g4,he,Znw he]
  ·simp[hf])
end Go.Proofs.YtkeoeooghhjibaaDoor
