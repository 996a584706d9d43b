/- CheckModel of the reference. No condition. -/
import Derived.Test.YtkeoeooghhjibaaGreatDoorPj
import Derived.KernelRfl
namespace Go.Proofs.YtkeoeooghhjibaaGreatDoor
theorem Zye{nm:List UInt8}{ex:Int}{xs:List AV}(h:ZaS nm=false):Zc4 nm ex xs=4:=by simp[Zc4,Zao,Zad,h]
theorem Zw0{nm:List UInt8}{ex:Int}{xs:List AV}(h:ZaS nm=true)(h2:ZjP xs nm=true):Zc4 nm ex xs=5:=by
 have h3:std.hasS xs nm=true:=h2
 simp[-Zex,Zc4,Zao,Zad,h,h3]
theorem ZyW{nm:List UInt8}{ex:Int}{xs:List AV}(h:ZaS nm=true)(h2:ZjP xs nm=false):Zc4 nm ex xs=ex:=by
 have h3:std.hasS xs nm=false:=h2
 by_cases h4:ex=0<;>simp[-Zex,Zc4,Zao,Zad,h,h3,h4]
theorem Zg1{n m:Int}(hm:0≤m):ZjO n m=Zan n (-1) (m-1):=by
 unfold ZjO Zan
 by_cases h:n= -1
 ·rw[if_pos h,decide_eq_true (by omega)]
 ·rw[if_neg h]
  by_cases h2:0≤n∧n≤m-1
  ·rw[decide_eq_true h2,decide_eq_true (by omega)]
  ·rw[decide_eq_false h2,decide_eq_false (by omega)]
theorem ZgO(nm:Nat→List UInt8)(ex:Nat→Int)(m k:Nat)(xs:List AV)(p:Int)(d:AV):ZbG p (Zbm nm ex (m+1) k xs) d=if Zc4 (nm k) (ex k) xs=0 then ZbG p (Zbm nm ex m (k+1) (xs++[.str (nm k)])) d else Zbi p k (Zc4 (nm k) (ex k) xs):=by
 rw[Zbm];split<;>rfl
theorem ZfV(nm:List UInt8)(ex:Int)(xs:List AV):Zc4 nm ex xs=if ZaS nm=true then(if ZjP xs nm=true then 5 else ex)else 4:=by
 by_cases h:ZaS nm=true
 ·by_cases h2:ZjP xs nm=true
  ·rw[if_pos h,if_pos h2,Zw0 h h2]
  ·rw[if_pos h,if_neg h2,ZyW h (by simpa using h2)]
 ·rw[if_neg h,Zye (by simpa using h)]
theorem ZlC(rs:List AV)(k n m:Nat):ZbR rs k n m=if Zan (ZaR rs k 1) 0 ((n:Int)-1)=true∧Zan (ZaR rs k 2) (-1) ((m:Int)-1)=true∧Zan (ZaR rs k 3) (-1) ((n:Int)-1)=true then(if Zan (ZaR rs k 4) 1 1000000=true then(if ZaR rs k 3= -1∧¬ZaR rs k 4=1 then 3 else 0)else 2)else 6:=by
 rw[ZbR,Zg1 (by omega),Zg1 (by omega)]
 by_cases h1:Zan (ZaR rs k 1) 0 ((n:Int)-1)=true<;>by_cases h2:Zan (ZaR rs k 2) (-1) ((m:Int)-1)=true<;>by_cases h3:Zan (ZaR rs k 3) (-1) ((n:Int)-1)=true<;>by_cases h4:Zan (ZaR rs k 4) 1 1000000=true<;>by_cases h5:ZaR rs k 3= -1<;>by_cases h6:ZaR rs k 4=1<;>simp_all[Zao,Zad]
theorem Zt0{xs ys:List AV}(h:xs.map AV.toS=ys.map AV.toS){s:List UInt8} :ZjP xs s=ZjP ys s:=by
 have e:∀l:List AV,ZjP l s=(l.map AV.toS).any (· ==s):=fun l=>by simp[ZjP,List.any_map,Function.comp_def]
 rw[e,e,h]
theorem ZoO(ks:List AV)(k m:Nat):Zc7 ks k m=if Zan (ZaR ks k 1) (-1) ((m:Int)-1)=true then 0 else 6:=by
 rw[Zc7,Zg1 (by omega)];split<;>simp_all[Zad]
section
variable {C:Ctx}(hC:C.P=Tryz.prog)(ms ks rs:List AV)(hs:ZaI ms ks rs=true)
include hC hs
theorem ZEE:∀(m k:Nat) (xs:List AV),k+m=rs.length→xs.length≤k→Ev C (ZfE ms ks rs k xs) (Zev ms ks rs k xs)
 (ZbH 119 (ZbG 3 (Zbm (fun k=>Zax rs k) (fun k=>ZbR rs k ks.length ms.length) m k xs) (Zbi 0 0 0)) none)
 |0,k,xs,hk,hx=>tgo hC Zh5 ZhJ (by simp[ZdX,show ¬(k:Int)<rs.length by omega];rfl)
 |m+1,k,xs,hk,hx=>by
  have hs':=hs
  simp only[ZaI,Bool.and_eq_true,decide_eq_true_eq]at hs'
  have hn:=Zcj hs'.1.2 (show k<rs.length by omega)
  have hlt:(k:Int)<rs.length:=by omega
  have hlt2:k<rs.length:=by omega
  have e0:((rs.getD k .top).cellAt 0).toS=Zax rs k:=rfl
  have e1:((rs.getD k .top).cellAt 1).toI=ZaR rs k 1:=rfl
  have e2:((rs.getD k .top).cellAt 2).toI=ZaR rs k 2:=rfl
  have e3:((rs.getD k .top).cellAt 3).toI=ZaR rs k 3:=rfl
  have e4:((rs.getD k .top).cellAt 4).toI=ZaR rs k 4:=rfl
  have ih:=ZEE m (k+1) (xs++[.str (Zax rs k)]) (by omega) (by simp;omega)
  obtain⟨V,hV⟩:∃V,V=ZbG 3 (Zbm (fun k=>Zax rs k) (fun k=>ZbR rs k ks.length ms.length) (m+1) k xs) (Zbi 0 0 0):=⟨_,rfl⟩
  rw[←hV]
  rw[ZgO,ZfV,ZlC]at hV
  refine tgo hC Zh5 ZhJ ?_
  simp[-List.getD_eq_getElem?_getD,ZdX,e0,e1,e2,e3,e4,hlt,hlt2,hn,AV.bx,Zab]
  clear e0 e1 e2 e3 e4 hs
  replace hs':=hs'.2
  generalize Zax rs k=nm at*
  generalize ZaR rs k 1=f1 at*
  generalize ZaR rs k 2=f2 at*
  generalize ZaR rs k 3=f3 at*
  generalize ZaR rs k 4=f4 at*
  repeat' (first |split |apply And.intro)
  all_goals first |omega |skip
  all_goals (clear hs';simp_all[Zbi])
theorem ZAN:∀m:Nat,m=rs.length→Ev C (ZdA ms ks rs) (ZcI ms ks rs)
 (ZbH 119 (ZbG 3 (Zbm (fun k=>Zax rs k) (fun k=>ZbR rs k ks.length ms.length) m 0 []) (Zbi 0 0 0)) none)
 |0,hk=>tgo hC Zh5 Zhl (by simp[Zef,←hk];rfl)
 |m+1,hk=>by
  have hs':=hs
  simp only[ZaI,Bool.and_eq_true,decide_eq_true_eq]at hs'
  have hn:=Zcj hs'.1.2 (show 0<rs.length by omega)
  have hlt:(0:Int)<rs.length:=by omega
  have hlt2:0<rs.length:=by omega
  have e0:((rs.getD 0 .top).cellAt 0).toS=Zax rs 0:=rfl
  have e1:((rs.getD 0 .top).cellAt 1).toI=ZaR rs 0 1:=rfl
  have e2:((rs.getD 0 .top).cellAt 2).toI=ZaR rs 0 2:=rfl
  have e3:((rs.getD 0 .top).cellAt 3).toI=ZaR rs 0 3:=rfl
  have e4:((rs.getD 0 .top).cellAt 4).toI=ZaR rs 0 4:=rfl
  have ih:=ZEE hC ms ks rs hs m 1 [.str (Zax rs 0)] (by omega) (by simp)
  obtain⟨V,hV⟩:∃V,V=ZbG 3 (Zbm (fun k=>Zax rs k) (fun k=>ZbR rs k ks.length ms.length) (m+1) 0 []) (Zbi 0 0 0):=⟨_,rfl⟩
  rw[←hV]
  rw[ZgO,ZfV,ZlC]at hV
  refine tgo hC Zh5 Zhl ?_
  simp[-List.getD_eq_getElem?_getD,Zef,e0,e1,e2,e3,e4,hlt,hlt2,hn,AV.bx,Zab]
  clear e0 e1 e2 e3 e4 hs
  replace hs':=hs'.2
  generalize Zax rs 0=nm at*
  generalize ZaR rs 0 1=f1 at*
  generalize ZaR rs 0 2=f2 at*
  generalize ZaR rs 0 3=f3 at*
  generalize ZaR rs 0 4=f4 at*
  repeat' (first |split |apply And.intro)
  all_goals first |omega |skip
  all_goals (clear hs';simp_all[Zbi,ZjP])
end
def dB(ms ks rs:List AV):AV:=if 10<rs.length then Zbi 3 0 8 else ZpT ms ks rs
theorem ZAB(ms ks rs:List AV):(if Zcu (decide (0≤(rs.length:Int))) (decide ((rs.length:Int)≤10))=0 then ZpT ms ks rs else Zbi 3 0 (Zcu (decide (0≤(rs.length:Int))) (decide ((rs.length:Int)≤10))))=dB ms ks rs:=by
 unfold dB
 by_cases h:10<rs.length
 ·rw[if_pos h,decide_eq_true (by omega:(0:Int)≤(rs.length:Int)),decide_eq_false (by omega:¬(rs.length:Int)≤10)];rfl
 ·rw[if_neg h,decide_eq_true (by omega:(0:Int)≤(rs.length:Int)),decide_eq_true (by omega:(rs.length:Int)≤10)];rfl
def dA(ms ks rs:List AV):AV:=if ks.length=0 then Zbi 2 0 10 else if 8<ks.length then Zbi 2 0 8 else ZnW ms ks rs
theorem ZEq(ms ks rs:List AV):(if Zcu (decide (1≤(ks.length:Int))) (decide ((ks.length:Int)≤8))=0 then ZnW ms ks rs else Zbi 2 0 (Zcu (decide (1≤(ks.length:Int))) (decide ((ks.length:Int)≤8))))=dA ms ks rs:=by
 unfold dA
 by_cases h:ks.length=0
 ·rw[if_pos h,decide_eq_false (by omega:¬(1:Int)≤(ks.length:Int))];rfl
 ·rw[if_neg h,decide_eq_true (by omega:(1:Int)≤(ks.length:Int))]
  by_cases h2:8<ks.length
  ·rw[if_pos h2,decide_eq_false (by omega:¬(ks.length:Int)≤8)];rfl
  ·rw[if_neg h2,decide_eq_true (by omega:(ks.length:Int)≤8)];rfl
theorem ZmC(ms ks rs:List AV):Zd6 ms ks rs=if ms.length=0 then Zbi 1 0 10 else if 6<ms.length then Zbi 1 0 8 else Zrm ms ks rs:=by
 unfold Zd6
 by_cases h:ms.length=0
 ·rw[if_pos h,decide_eq_false (by omega:¬(1:Int)≤(ms.length:Int))];rfl
 ·rw[if_neg h,decide_eq_true (by omega:(1:Int)≤(ms.length:Int))]
  by_cases h2:6<ms.length
  ·rw[if_pos h2,decide_eq_false (by omega:¬(ms.length:Int)≤6)];rfl
  ·rw[if_neg h2,decide_eq_true (by omega:(ms.length:Int)≤6)];rfl
section
variable {C:Ctx}(hC:C.P=Tryz.prog)(ms ks rs:List AV)(hs:ZaI ms ks rs=true)
include hC hs
theorem ZEY:Ev C (ZdA ms ks rs) (ZcI ms ks rs) (ZbH 119 (ZpT ms ks rs) none):=ZAN hC ms ks rs hs _ rfl
theorem ZBO:∀(m k:Nat) (xs:List AV),k+m=ks.length→xs.length≤k→Ev C (Ze9 ms ks rs k xs) (ZdT ms ks rs k xs)
 (ZbH 119 (ZbG 2 (Zbm (fun k=>Zax ks k) (fun k=>Zc7 ks k ms.length) m k xs) (dB ms ks rs)) none)
 |0,k,xs,hk,hx=>by
  refine tgo hC Zh5 Zhn ?_
  by_cases h:10<rs.length
  ·simp[ZcE,show ¬(k:Int)<ks.length by omega,Zbm,ZbG,dB,h,show(10:Int)<rs.length by omega,Zbi]
  ·simp[ZcE,show ¬(k:Int)<ks.length by omega,Zbm,ZbG,dB,h,show ¬(10:Int)<rs.length by omega]
   exact ZEY hC ms ks rs hs
 |m+1,k,xs,hk,hx=>by
  have hs':=hs
  simp only[ZaI,Bool.and_eq_true,decide_eq_true_eq]at hs'
  have hn:=Zcj hs'.1.1.2 (show k<ks.length by omega)
  have hlt:(k:Int)<ks.length:=by omega
  have hlt2:k<ks.length:=by omega
  have e0:((ks.getD k .top).cellAt 0).toS=Zax ks k:=rfl
  have e1:((ks.getD k .top).cellAt 1).toI=ZaR ks k 1:=rfl
  have ih:=ZBO m (k+1) (xs++[.str (Zax ks k)]) (by omega) (by simp;omega)
  obtain⟨V,hV⟩:∃V,V=ZbG 2 (Zbm (fun k=>Zax ks k) (fun k=>Zc7 ks k ms.length) (m+1) k xs) (dB ms ks rs):=⟨_,rfl⟩
  rw[←hV]
  rw[ZgO,ZfV,ZoO]at hV
  refine tgo hC Zh5 Zhn ?_
  simp[-List.getD_eq_getElem?_getD,ZcE,e0,e1,hlt,hlt2,hn,AV.bx,Zab]
  clear e0 e1 hs
  replace hs':=hs'.2
  generalize Zax ks k=nm at*
  generalize ZaR ks k 1=f1 at*
  repeat' (first |split |apply And.intro)
  all_goals first |omega |skip
  all_goals (clear hs';simp_all[Zbi])
theorem ZEx:∀m:Nat,m=ks.length→Ev C (ZdB ms ks rs) (ZcH ms ks rs)
 (ZbH 119 (ZbG 2 (Zbm (fun k=>Zax ks k) (fun k=>Zc7 ks k ms.length) m 0 []) (dB ms ks rs)) none)
 |0,hk=>by
  refine tgo hC Zh5 ZhI ?_
  by_cases h:10<rs.length
  ·simp[ZcU,←hk,Zbm,ZbG,dB,h,show(10:Int)<rs.length by omega,Zbi]
  ·simp[ZcU,←hk,Zbm,ZbG,dB,h,show ¬(10:Int)<rs.length by omega]
   exact ZEY hC ms ks rs hs
 |m+1,hk=>by
  have hs':=hs
  simp only[ZaI,Bool.and_eq_true,decide_eq_true_eq]at hs'
  have hn:=Zcj hs'.1.1.2 (show 0<ks.length by omega)
  have hlt:(0:Int)<ks.length:=by omega
  have hlt2:0<ks.length:=by omega
  have e0:((ks.getD 0 .top).cellAt 0).toS=Zax ks 0:=rfl
  have e1:((ks.getD 0 .top).cellAt 1).toI=ZaR ks 0 1:=rfl
  have ih:=ZBO hC ms ks rs hs m 1 [.str (Zax ks 0)] (by omega) (by simp)
  obtain⟨V,hV⟩:∃V,V=ZbG 2 (Zbm (fun k=>Zax ks k) (fun k=>Zc7 ks k ms.length) (m+1) 0 []) (dB ms ks rs):=⟨_,rfl⟩
  rw[←hV]
  rw[ZgO,ZfV,ZoO]at hV
  refine tgo hC Zh5 ZhI ?_
  simp[-List.getD_eq_getElem?_getD,ZcU,e0,e1,hlt,hlt2,hn,AV.bx,Zab]
  clear e0 e1 hs
  replace hs':=hs'.2
  generalize Zax ks 0=nm at*
  generalize ZaR ks 0 1=f1 at*
  repeat' (first |split |apply And.intro)
  all_goals first |omega |skip
  all_goals (clear hs';simp_all[Zbi,ZjP])
theorem ZFQ:Ev C (ZdB ms ks rs) (ZcH ms ks rs) (ZbH 119 (ZnW ms ks rs) none):=by
 have:=ZEx hC ms ks rs hs _ rfl
 rw[←ZAB]at this
 exact this
theorem ZCb:∀(m k:Nat) (xs:List AV),k+m=ms.length→xs.map AV.toS=(ms.take k).map AV.toS→Ev C (Zff ms ks rs k) (Zeg ms ks rs k)
 (ZbH 119 (ZbG 1 (Zbm (fun k=>Za2 ms k) (fun _=>0) m k xs) (dA ms ks rs)) none)
 |0,k,xs,hk,hx=>by
  refine tgo hC Zh5 Zhr ?_
  by_cases h0:ks.length=0
  ·simp[ZbV,show ¬(k:Int)<ms.length by omega,Zbm,ZbG,dA,h0,Zbi]
  ·by_cases h:8<ks.length
   ·simp[ZbV,show ¬(k:Int)<ms.length by omega,Zbm,ZbG,dA,h0,h,show(8:Int)<ks.length by omega,Zbi]
   ·simp[ZbV,show ¬(k:Int)<ms.length by omega,Zbm,ZbG,dA,h0,h,show ¬(8:Int)<ks.length by omega]
    exact ZFQ hC ms ks rs hs
 |m+1,k,xs,hk,hx=>by
  have hs':=hs
  simp only[ZaI,Bool.and_eq_true,decide_eq_true_eq]at hs'
  have hn:=Zk2 hs'.1.1.1 (show k<ms.length by omega)
  have hlt:(k:Int)<ms.length:=by omega
  have hlt2:k<ms.length:=by omega
  have e0:(ms.getD k .top).toS=Za2 ms k:=rfl
  have ih:=ZCb m (k+1) (xs++[.str (Za2 ms k)]) (by omega) (by
   rw[List.map_append,hx,List.take_succ_eq_append_getElem hlt2,List.map_append]
   congr 1
   simp[Za2,AV.toS,hlt2])
  have hh:ZjP (ms.take k) (Za2 ms k)=ZjP xs (Za2 ms k):=Zt0 hx.symm
  obtain⟨V,hV⟩:∃V,V=ZbG 1 (Zbm (fun k=>Za2 ms k) (fun _=>0) (m+1) k xs) (dA ms ks rs):=⟨_,rfl⟩
  rw[←hV]
  rw[ZgO,ZfV]at hV
  refine tgo hC Zh5 Zhr ?_
  simp[-List.getD_eq_getElem?_getD,ZbV,e0,hlt,hlt2,hn,hh]
  clear e0 hs hx hh
  replace hs':=hs'.2
  generalize Za2 ms k=nm at*
  repeat' (first |split |apply And.intro)
  all_goals first |omega |skip
  all_goals (clear hs';simp_all[Zbi])
end
theorem ZtM(ms ks rs:List AV)(hs:ZaI ms ks rs=true):Zat Tryz.prog 119 [.agg (.gen [.list (.big .str ms), .list (.big (.agg [.str, .int .i64]) ks), .list (.big (.agg [.str, .int .i64, .int .i64, .int .i64, .int .i64]) rs)])] (.tup [.agg (.gen [.int .i64 (Zmf ms ks rs), .int .i64 (Zmg ms ks rs)]), .int .i64 (Zaj ms ks rs)]) none:=by
 rw[show AV.tup [.agg (.gen [.int .i64 (Zmf ms ks rs), .int .i64 (Zmg ms ks rs)]), .int .i64 (Zaj ms ks rs)]=Zd6 ms ks rs from(Zna ms ks rs).eq.symm]
 refine start (ZtL ms ks rs) fun C hC=>tgo hC Zh5 ZCf ?_
 rw[ZmC]
 by_cases h0:ms.length=0
 ·simp[Zpz,h0,Zbi]
 ·by_cases h:6<ms.length
  ·simp[Zpz,h0,h,show(6:Int)<ms.length by omega,Zbi]
  ·simp[Zpz,h0,h,show ¬(6:Int)<ms.length by omega]
   have:=ZCb hC ms ks rs hs ms.length 0 [] (by omega) (by simp)
   rw[Zrm,ZEq]
   exact this
end Go.Proofs.YtkeoeooghhjibaaGreatDoor
/- ForbiddenBy of both packages. No condition. -/
namespace Go.Proofs.YtkeoeooghhjibaaGreatDoor
def ZqE(rs:List AV)(b:Int)(xs:List Int):Bool:=((List.range rs.length).all fun i=>decide (-1≤ZaR rs i 3∧ZaR rs i 3<xs.length))&&(xs.all fun x=>decide (-1≤x∧x≤b))&&decide (0≤b∧b≤1000000000000∧rs.length≤1000000)
theorem ZhN{b:Bool}{e:Int}(h:Zad b e=0)(he:e≠0):b=true:=by
 cases b
 ·exact absurd h he
 ·rfl
theorem ZlO{nm:Nat→List UInt8}{ex:Nat→Int}{p:Int}{d:AV} :∀(m k:Nat) (xs:List AV),mE (ZbG p (Zbm nm ex m k xs) d)=0→mE d=0∧∀i,k≤i→i<k+m→ZaS (nm i)=true∧ex i=0
 |0,k,xs,h=>⟨h,fun i h1 h2=>by omega⟩
 |m+1,k,xs,h=>by
  rw[ZgO]at h
  split at h
  ·rename_i hs
   obtain⟨h1,h2⟩:=ZlO m (k+1) _ h
   refine⟨h1,fun i h3 h4=>?_⟩
   by_cases hi:i=k
   ·subst hi
    obtain⟨g1,_,g3⟩:=ZvS hs
    exact⟨ZhN g1 (by decide),g3⟩
   ·exact h2 i (by omega) (by omega)
  ·rename_i hs
   exact absurd h hs
theorem Zp1{ms ks rs:List AV}(h:Zaj ms ks rs=0):(1≤ms.length∧ms.length≤6)∧(1≤ks.length∧ks.length≤8)∧rs.length≤10∧(∀i<ms.length,ZaS (Za2 ms i)=true)∧(∀i<ks.length,ZaS (Zax ks i)=true∧Zc7 ks i ms.length=0)∧(∀i<rs.length,ZaS (Zax rs i)=true∧ZbR rs i ks.length ms.length=0):=by
 unfold Zaj at h
 rw[ZmC]at h
 split at h
 ·cases h
 ·split at h
  ·cases h
  ·rw[Zrm,ZEq]at h
   obtain⟨h1,h2⟩:=ZlO _ _ _ h
   unfold dA at h1
   split at h1
   ·cases h1
   ·split at h1
    ·cases h1
    ·rw[ZnW,ZAB]at h1
     obtain⟨h3,h4⟩:=ZlO _ _ _ h1
     unfold dB at h3
     split at h3
     ·cases h3
     ·obtain⟨_,h5⟩:=ZlO _ _ _ h3
      exact⟨by omega,by omega,by omega,fun i hi=>(h2 i (by omega) (by omega)).1,fun i hi=>h4 i (by omega) (by omega),fun i hi=>h5 i (by omega) (by omega)⟩
theorem within_iff{n a b:Int} :Zan n a b=true↔a≤n∧n≤b:=by simp[Zan]
theorem ZsS{rs:List AV}{i n m:Nat}(h:ZbR rs i n m=0):(0≤ZaR rs i 1∧ZaR rs i 1<n)∧(-1≤ZaR rs i 2∧ZaR rs i 2<m)∧(-1≤ZaR rs i 3∧ZaR rs i 3<n)∧(1≤ZaR rs i 4∧ZaR rs i 4≤1000000)∧(ZaR rs i 3= -1→ZaR rs i 4=1):=by
 rw[ZlC]at h
 simp only[within_iff]at h
 split at h
 ·split at h
  ·split at h
   ·cases h
   ·rename_i h1 h2 h3
    exact⟨by omega,by omega,by omega,by omega,fun h4=>by simpa[h4]using h3⟩
  ·cases h
 ·cases h
end Go.Proofs.YtkeoeooghhjibaaGreatDoor
/- Contracts as a list. No condition. -/
namespace Go.Proofs.YtkeoeooghhjibaaGreatDoor
def k119:Ctr:=⟨119,0,fun _ a=>match a with |[.agg (.gen [.list (.big .str ms), .list (.big (.agg [.str, .int .i64]) ks), .list (.big (.agg [.str, .int .i64, .int .i64, .int .i64, .int .i64]) rs)])]=>some (decide (ZaI ms ks rs=true), .tup [.agg (.gen [.int .i64 (Zmf ms ks rs), .int .i64 (Zmg ms ks rs)]), .int .i64 (Zaj ms ks rs)],none) |_=>none⟩
theorem ZyA:k119.OK Tryz.prog:=fun pa args r fr h=>by
 simp only[k119]at h
 split at h
 ·simp only[Option.some.injEq,Prod.mk.injEq,decide_eq_true_eq]at h
  obtain⟨h0,rfl,rfl⟩:=h
  exact ZtM _ _ _ h0
 ·cases h
def B7:List Ctr:=[k119]++B6
theorem ZDT:Zaw Tryz.prog B7:=⟨ZyA,Zh5⟩
end Go.Proofs.YtkeoeooghhjibaaGreatDoor
/- Paths of functions, printed by the explorer (Gx). No condition. -/
namespace Go.Proofs.YtkeoeooghhjibaaGreatDoor
set_option maxRecDepth 100000
set_option linter.unusedVariables false
def ZDk(ms ks rs:List AV):AFrame:={ fn:=65,N:=11,env:=[(0,AV.agg (Row.gen [.list (Row.big .str ms), .list (Row.big (.agg [.str, .int .i64]) ks), .list (Row.big (.agg [.str, .int .i64, .int .i64, .int .i64, .int .i64]) rs)]))],todo:=[.code a65.code],defs:=[],rnd:=none,ret:=false,res:=[ARes.tmp 2] }
def ZJK(ms ks rs:List AV):List AFrame:=[(ZDk ms ks rs)]
theorem Zyb(ms ks rs:List AV):ZaB tab 65 [AV.agg (Row.gen [.list (Row.big .str ms), .list (Row.big (.agg [.str, .int .i64]) ks), .list (Row.big (.agg [.str, .int .i64, .int .i64, .int .i64, .int .i64]) rs)])]=some (ZDk ms ks rs):=rfl
def ZDt(A:Ar)(K:KT)(F:FT)(ms ks rs:List AV):Prop:=rB [decide (ZaI ms ks rs=true)] (F (AV.int .i64 (Zaj ms ks rs)) (none))
theorem ZGD{A:Ar}{K:KT}{F:FT}{M:MT}{ms ks rs:List AV} :ZaG A tab B7 65 K F M (.run 23 (.fn)) (ZJK ms ks rs) []=ZDt A K F ms ks rs:=by kernel_rfl
end Go.Proofs.YtkeoeooghhjibaaGreatDoor
/- Calls at given values. Printed by facts.py. -/
namespace Go.Proofs.YtkeoeooghhjibaaGreatDoor
set_option maxRecDepth 1000000
def aw0:Fact:=⟨66,[],(.agg (.gen [(.list (.big .str [(.str [115,97,102,101]),(.str [99,114,117,105,115,101]),(.str [98,117,114,110])])),(.list (.big (.agg [.str,(.int .i64)]) [(.agg (.gen [(.str [119,97,107,101]),(.int .i64 1)])),(.agg (.gen [(.str [102,105,114,101]),(.int .i64 2)])),(.agg (.gen [(.str [115,116,111,112]),(.int .i64 1)])),(.agg (.gen [(.str [112,105,110,103]),(.int .i64 (-1))]))])),(.list (.big (.agg [.str,(.int .i64),(.int .i64),(.int .i64),(.int .i64)]) [(.agg (.gen [(.str [99,111,108,100]),(.int .i64 1),(.int .i64 0),(.int .i64 (-1)),(.int .i64 1)])),(.agg (.gen [(.str [104,101,97,116]),(.int .i64 1),(.int .i64 (-1)),(.int .i64 2),(.int .i64 50)]))])),(.list (.big (.agg [(.int .i64),(.int .i64),(.int .i64)]) [(.agg (.gen [(.int .i64 0),(.int .i64 0),(.int .i64 100)])),(.agg (.gen [(.int .i64 1),(.int .i64 20),(.int .i64 200)])),(.agg (.gen [(.int .i64 2),(.int .i64 30),(.int .i64 300)])),(.agg (.gen [(.int .i64 1),(.int .i64 40),(.int .i64 400)]))])),(.int .i64 2),(.int .i64 2)])),none⟩
theorem ZC9:Zat Tryz.prog aw0.f aw0.args aw0.r aw0.fr:=Zaf (n:=100000) (l:=[]) follows Zah trivial (by kernel_rfl)
def aw1:Fact:=⟨68,[(.bool true),(.int .i64 10)],(.int .i64 0),none⟩
theorem Zrw:Zat Tryz.prog aw1.f aw1.args aw1.r aw1.fr:=Zaf (n:=100000) (l:=[]) follows Zah trivial (by kernel_rfl)
def aw2:Fact:=⟨68,[(.bool true),(.int .i64 8)],(.int .i64 0),none⟩
theorem ZpI:Zat Tryz.prog aw2.f aw2.args aw2.r aw2.fr:=Zaf (n:=100000) (l:=[]) follows Zah trivial (by kernel_rfl)
def aw3:Fact:=⟨67,[(.list (.ints .i64 [0,0]))],(.int .i64 0),none⟩
theorem ZoD:Zat Tryz.prog aw3.f aw3.args aw3.r aw3.fr:=Zaf (n:=100000) (l:=[]) follows Zah trivial (by kernel_rfl)
def aw4:Fact:=⟨160,[(.int .i64 0),(.eptr (.agg (.gen [(.list (.big .str [(.str [115,97,102,101]),(.str [99,114,117,105,115,101]),(.str [98,117,114,110])])),(.list (.big (.agg [.str,(.int .i64)]) [(.agg (.gen [(.str [119,97,107,101]),(.int .i64 1)])),(.agg (.gen [(.str [102,105,114,101]),(.int .i64 2)])),(.agg (.gen [(.str [115,116,111,112]),(.int .i64 1)])),(.agg (.gen [(.str [112,105,110,103]),(.int .i64 (-1))]))])),(.list (.big (.agg [.str,(.int .i64),(.int .i64),(.int .i64),(.int .i64)]) [(.agg (.gen [(.str [99,111,108,100]),(.int .i64 1),(.int .i64 0),(.int .i64 (-1)),(.int .i64 1)])),(.agg (.gen [(.str [104,101,97,116]),(.int .i64 1),(.int .i64 (-1)),(.int .i64 2),(.int .i64 50)]))]))])) 0)],(.str [115,97,102,101]),none⟩
theorem ZBr:Zat Tryz.prog aw4.f aw4.args aw4.r aw4.fr:=Zaf (n:=100000) (l:=[]) follows Zah trivial (by kernel_rfl)
def aw5:Fact:=⟨182,[(.str [115,97,102,101])],(.bool true),none⟩
theorem ZBm:Zat Tryz.prog aw5.f aw5.args aw5.r aw5.fr:=Zaf (n:=100000) (l:=[]) follows Zah trivial (by kernel_rfl)
def aw6:Fact:=⟨68,[(.bool true),(.int .i64 4)],(.int .i64 0),none⟩
theorem ZAD:Zat Tryz.prog aw6.f aw6.args aw6.r aw6.fr:=Zaf (n:=100000) (l:=[]) follows Zah trivial (by kernel_rfl)
def aw7:Fact:=⟨68,[(.bool true),(.int .i64 5)],(.int .i64 0),none⟩
theorem ZAv:Zat Tryz.prog aw7.f aw7.args aw7.r aw7.fr:=Zaf (n:=100000) (l:=[]) follows Zah trivial (by kernel_rfl)
def aw8:Fact:=⟨161,[(.int .i64 0)],(.int .i64 0),none⟩
theorem ZCy:Zat Tryz.prog aw8.f aw8.args aw8.r aw8.fr:=Zaf (n:=100000) (l:=[]) follows Zah trivial (by kernel_rfl)
def aw9:Fact:=⟨67,[(.list (.ints .i64 [0,0,0]))],(.int .i64 0),none⟩
theorem ZhX:Zat Tryz.prog aw9.f aw9.args aw9.r aw9.fr:=Zaf (n:=100000) (l:=[]) follows Zah trivial (by kernel_rfl)
def aw10:Fact:=⟨160,[(.int .i64 1),(.eptr (.agg (.gen [(.list (.big .str [(.str [115,97,102,101]),(.str [99,114,117,105,115,101]),(.str [98,117,114,110])])),(.list (.big (.agg [.str,(.int .i64)]) [(.agg (.gen [(.str [119,97,107,101]),(.int .i64 1)])),(.agg (.gen [(.str [102,105,114,101]),(.int .i64 2)])),(.agg (.gen [(.str [115,116,111,112]),(.int .i64 1)])),(.agg (.gen [(.str [112,105,110,103]),(.int .i64 (-1))]))])),(.list (.big (.agg [.str,(.int .i64),(.int .i64),(.int .i64),(.int .i64)]) [(.agg (.gen [(.str [99,111,108,100]),(.int .i64 1),(.int .i64 0),(.int .i64 (-1)),(.int .i64 1)])),(.agg (.gen [(.str [104,101,97,116]),(.int .i64 1),(.int .i64 (-1)),(.int .i64 2),(.int .i64 50)]))]))])) 0)],(.str [99,114,117,105,115,101]),none⟩
theorem ZyS:Zat Tryz.prog aw10.f aw10.args aw10.r aw10.fr:=Zaf (n:=100000) (l:=[]) follows Zah trivial (by kernel_rfl)
def aw11:Fact:=⟨182,[(.str [99,114,117,105,115,101])],(.bool true),none⟩
theorem Zzm:Zat Tryz.prog aw11.f aw11.args aw11.r aw11.fr:=Zaf (n:=100000) (l:=[]) follows Zah trivial (by kernel_rfl)
def aw12:Fact:=⟨161,[(.int .i64 1)],(.int .i64 0),none⟩
theorem ZyV:Zat Tryz.prog aw12.f aw12.args aw12.r aw12.fr:=Zaf (n:=100000) (l:=[]) follows Zah trivial (by kernel_rfl)
def aw13:Fact:=⟨160,[(.int .i64 2),(.eptr (.agg (.gen [(.list (.big .str [(.str [115,97,102,101]),(.str [99,114,117,105,115,101]),(.str [98,117,114,110])])),(.list (.big (.agg [.str,(.int .i64)]) [(.agg (.gen [(.str [119,97,107,101]),(.int .i64 1)])),(.agg (.gen [(.str [102,105,114,101]),(.int .i64 2)])),(.agg (.gen [(.str [115,116,111,112]),(.int .i64 1)])),(.agg (.gen [(.str [112,105,110,103]),(.int .i64 (-1))]))])),(.list (.big (.agg [.str,(.int .i64),(.int .i64),(.int .i64),(.int .i64)]) [(.agg (.gen [(.str [99,111,108,100]),(.int .i64 1),(.int .i64 0),(.int .i64 (-1)),(.int .i64 1)])),(.agg (.gen [(.str [104,101,97,116]),(.int .i64 1),(.int .i64 (-1)),(.int .i64 2),(.int .i64 50)]))]))])) 0)],(.str [98,117,114,110]),none⟩
theorem ZwR:Zat Tryz.prog aw13.f aw13.args aw13.r aw13.fr:=Zaf (n:=100000) (l:=[]) follows Zah trivial (by kernel_rfl)
def aw14:Fact:=⟨182,[(.str [98,117,114,110])],(.bool true),none⟩
theorem Zzv:Zat Tryz.prog aw14.f aw14.args aw14.r aw14.fr:=Zaf (n:=100000) (l:=[]) follows Zah trivial (by kernel_rfl)
def aw15:Fact:=⟨161,[(.int .i64 2)],(.int .i64 0),none⟩
theorem ZzT:Zat Tryz.prog aw15.f aw15.args aw15.r aw15.fr:=Zaf (n:=100000) (l:=[]) follows Zah trivial (by kernel_rfl)
def aw16:Fact:=⟨162,[(.int .i64 0),(.eptr (.agg (.gen [(.list (.big .str [(.str [115,97,102,101]),(.str [99,114,117,105,115,101]),(.str [98,117,114,110])])),(.list (.big (.agg [.str,(.int .i64)]) [(.agg (.gen [(.str [119,97,107,101]),(.int .i64 1)])),(.agg (.gen [(.str [102,105,114,101]),(.int .i64 2)])),(.agg (.gen [(.str [115,116,111,112]),(.int .i64 1)])),(.agg (.gen [(.str [112,105,110,103]),(.int .i64 (-1))]))])),(.list (.big (.agg [.str,(.int .i64),(.int .i64),(.int .i64),(.int .i64)]) [(.agg (.gen [(.str [99,111,108,100]),(.int .i64 1),(.int .i64 0),(.int .i64 (-1)),(.int .i64 1)])),(.agg (.gen [(.str [104,101,97,116]),(.int .i64 1),(.int .i64 (-1)),(.int .i64 2),(.int .i64 50)]))]))])) 0)],(.str [119,97,107,101]),none⟩
theorem ZyX:Zat Tryz.prog aw16.f aw16.args aw16.r aw16.fr:=Zaf (n:=100000) (l:=[]) follows Zah trivial (by kernel_rfl)
def aw17:Fact:=⟨182,[(.str [119,97,107,101])],(.bool true),none⟩
theorem Zyn:Zat Tryz.prog aw17.f aw17.args aw17.r aw17.fr:=Zaf (n:=100000) (l:=[]) follows Zah trivial (by kernel_rfl)
def aw18:Fact:=⟨82,[(.int .i64 1),(.int .i64 0),(.int .i64 2)],(.bool true),none⟩
theorem Zyv:Zat Tryz.prog aw18.f aw18.args aw18.r aw18.fr:=Zaf (n:=100000) (l:=[]) follows Zah trivial (by kernel_rfl)
def aw19:Fact:=⟨158,[(.int .i64 1),(.int .i64 3)],(.bool true),none⟩
theorem ZsW:Zat Tryz.prog aw19.f aw19.args aw19.r aw19.fr:=Zaf (n:=100000) (l:=[aw18]) follows Zah ⟨Zyv,trivial⟩ (by kernel_rfl)
def aw20:Fact:=⟨68,[(.bool true),(.int .i64 6)],(.int .i64 0),none⟩
theorem Zds:Zat Tryz.prog aw20.f aw20.args aw20.r aw20.fr:=Zaf (n:=100000) (l:=[]) follows Zah trivial (by kernel_rfl)
def aw21:Fact:=⟨163,[(.int .i64 0),(.eptr (.fn 158 []) 0),(.eptr (.agg (.gen [(.list (.big .str [(.str [115,97,102,101]),(.str [99,114,117,105,115,101]),(.str [98,117,114,110])])),(.list (.big (.agg [.str,(.int .i64)]) [(.agg (.gen [(.str [119,97,107,101]),(.int .i64 1)])),(.agg (.gen [(.str [102,105,114,101]),(.int .i64 2)])),(.agg (.gen [(.str [115,116,111,112]),(.int .i64 1)])),(.agg (.gen [(.str [112,105,110,103]),(.int .i64 (-1))]))])),(.list (.big (.agg [.str,(.int .i64),(.int .i64),(.int .i64),(.int .i64)]) [(.agg (.gen [(.str [99,111,108,100]),(.int .i64 1),(.int .i64 0),(.int .i64 (-1)),(.int .i64 1)])),(.agg (.gen [(.str [104,101,97,116]),(.int .i64 1),(.int .i64 (-1)),(.int .i64 2),(.int .i64 50)]))]))])) 0),(.eptr (.int .i64 3) 0)],(.int .i64 0),none⟩
theorem ZzR:Zat Tryz.prog aw21.f aw21.args aw21.r aw21.fr:=Zaf (n:=100000) (l:=[aw19,aw20]) follows Zah ⟨ZsW,⟨Zds,trivial⟩⟩ (by kernel_rfl)
def aw22:Fact:=⟨162,[(.int .i64 1),(.eptr (.agg (.gen [(.list (.big .str [(.str [115,97,102,101]),(.str [99,114,117,105,115,101]),(.str [98,117,114,110])])),(.list (.big (.agg [.str,(.int .i64)]) [(.agg (.gen [(.str [119,97,107,101]),(.int .i64 1)])),(.agg (.gen [(.str [102,105,114,101]),(.int .i64 2)])),(.agg (.gen [(.str [115,116,111,112]),(.int .i64 1)])),(.agg (.gen [(.str [112,105,110,103]),(.int .i64 (-1))]))])),(.list (.big (.agg [.str,(.int .i64),(.int .i64),(.int .i64),(.int .i64)]) [(.agg (.gen [(.str [99,111,108,100]),(.int .i64 1),(.int .i64 0),(.int .i64 (-1)),(.int .i64 1)])),(.agg (.gen [(.str [104,101,97,116]),(.int .i64 1),(.int .i64 (-1)),(.int .i64 2),(.int .i64 50)]))]))])) 0)],(.str [102,105,114,101]),none⟩
theorem Zzz:Zat Tryz.prog aw22.f aw22.args aw22.r aw22.fr:=Zaf (n:=100000) (l:=[]) follows Zah trivial (by kernel_rfl)
def aw23:Fact:=⟨182,[(.str [102,105,114,101])],(.bool true),none⟩
theorem ZxA:Zat Tryz.prog aw23.f aw23.args aw23.r aw23.fr:=Zaf (n:=100000) (l:=[]) follows Zah trivial (by kernel_rfl)
def aw24:Fact:=⟨82,[(.int .i64 2),(.int .i64 0),(.int .i64 2)],(.bool true),none⟩
theorem ZxK:Zat Tryz.prog aw24.f aw24.args aw24.r aw24.fr:=Zaf (n:=100000) (l:=[]) follows Zah trivial (by kernel_rfl)
def aw25:Fact:=⟨158,[(.int .i64 2),(.int .i64 3)],(.bool true),none⟩
theorem Zx2:Zat Tryz.prog aw25.f aw25.args aw25.r aw25.fr:=Zaf (n:=100000) (l:=[aw24]) follows Zah ⟨ZxK,trivial⟩ (by kernel_rfl)
def aw26:Fact:=⟨163,[(.int .i64 1),(.eptr (.fn 158 []) 0),(.eptr (.agg (.gen [(.list (.big .str [(.str [115,97,102,101]),(.str [99,114,117,105,115,101]),(.str [98,117,114,110])])),(.list (.big (.agg [.str,(.int .i64)]) [(.agg (.gen [(.str [119,97,107,101]),(.int .i64 1)])),(.agg (.gen [(.str [102,105,114,101]),(.int .i64 2)])),(.agg (.gen [(.str [115,116,111,112]),(.int .i64 1)])),(.agg (.gen [(.str [112,105,110,103]),(.int .i64 (-1))]))])),(.list (.big (.agg [.str,(.int .i64),(.int .i64),(.int .i64),(.int .i64)]) [(.agg (.gen [(.str [99,111,108,100]),(.int .i64 1),(.int .i64 0),(.int .i64 (-1)),(.int .i64 1)])),(.agg (.gen [(.str [104,101,97,116]),(.int .i64 1),(.int .i64 (-1)),(.int .i64 2),(.int .i64 50)]))]))])) 0),(.eptr (.int .i64 3) 0)],(.int .i64 0),none⟩
theorem Zw7:Zat Tryz.prog aw26.f aw26.args aw26.r aw26.fr:=Zaf (n:=100000) (l:=[aw25,aw20]) follows Zah ⟨Zx2,⟨Zds,trivial⟩⟩ (by kernel_rfl)
def aw27:Fact:=⟨162,[(.int .i64 2),(.eptr (.agg (.gen [(.list (.big .str [(.str [115,97,102,101]),(.str [99,114,117,105,115,101]),(.str [98,117,114,110])])),(.list (.big (.agg [.str,(.int .i64)]) [(.agg (.gen [(.str [119,97,107,101]),(.int .i64 1)])),(.agg (.gen [(.str [102,105,114,101]),(.int .i64 2)])),(.agg (.gen [(.str [115,116,111,112]),(.int .i64 1)])),(.agg (.gen [(.str [112,105,110,103]),(.int .i64 (-1))]))])),(.list (.big (.agg [.str,(.int .i64),(.int .i64),(.int .i64),(.int .i64)]) [(.agg (.gen [(.str [99,111,108,100]),(.int .i64 1),(.int .i64 0),(.int .i64 (-1)),(.int .i64 1)])),(.agg (.gen [(.str [104,101,97,116]),(.int .i64 1),(.int .i64 (-1)),(.int .i64 2),(.int .i64 50)]))]))])) 0)],(.str [115,116,111,112]),none⟩
theorem ZxY:Zat Tryz.prog aw27.f aw27.args aw27.r aw27.fr:=Zaf (n:=100000) (l:=[]) follows Zah trivial (by kernel_rfl)
def aw28:Fact:=⟨182,[(.str [115,116,111,112])],(.bool true),none⟩
theorem ZzH:Zat Tryz.prog aw28.f aw28.args aw28.r aw28.fr:=Zaf (n:=100000) (l:=[]) follows Zah trivial (by kernel_rfl)
def aw29:Fact:=⟨163,[(.int .i64 2),(.eptr (.fn 158 []) 0),(.eptr (.agg (.gen [(.list (.big .str [(.str [115,97,102,101]),(.str [99,114,117,105,115,101]),(.str [98,117,114,110])])),(.list (.big (.agg [.str,(.int .i64)]) [(.agg (.gen [(.str [119,97,107,101]),(.int .i64 1)])),(.agg (.gen [(.str [102,105,114,101]),(.int .i64 2)])),(.agg (.gen [(.str [115,116,111,112]),(.int .i64 1)])),(.agg (.gen [(.str [112,105,110,103]),(.int .i64 (-1))]))])),(.list (.big (.agg [.str,(.int .i64),(.int .i64),(.int .i64),(.int .i64)]) [(.agg (.gen [(.str [99,111,108,100]),(.int .i64 1),(.int .i64 0),(.int .i64 (-1)),(.int .i64 1)])),(.agg (.gen [(.str [104,101,97,116]),(.int .i64 1),(.int .i64 (-1)),(.int .i64 2),(.int .i64 50)]))]))])) 0),(.eptr (.int .i64 3) 0)],(.int .i64 0),none⟩
theorem Zza:Zat Tryz.prog aw29.f aw29.args aw29.r aw29.fr:=Zaf (n:=100000) (l:=[aw19,aw20]) follows Zah ⟨ZsW,⟨Zds,trivial⟩⟩ (by kernel_rfl)
def aw30:Fact:=⟨162,[(.int .i64 3),(.eptr (.agg (.gen [(.list (.big .str [(.str [115,97,102,101]),(.str [99,114,117,105,115,101]),(.str [98,117,114,110])])),(.list (.big (.agg [.str,(.int .i64)]) [(.agg (.gen [(.str [119,97,107,101]),(.int .i64 1)])),(.agg (.gen [(.str [102,105,114,101]),(.int .i64 2)])),(.agg (.gen [(.str [115,116,111,112]),(.int .i64 1)])),(.agg (.gen [(.str [112,105,110,103]),(.int .i64 (-1))]))])),(.list (.big (.agg [.str,(.int .i64),(.int .i64),(.int .i64),(.int .i64)]) [(.agg (.gen [(.str [99,111,108,100]),(.int .i64 1),(.int .i64 0),(.int .i64 (-1)),(.int .i64 1)])),(.agg (.gen [(.str [104,101,97,116]),(.int .i64 1),(.int .i64 (-1)),(.int .i64 2),(.int .i64 50)]))]))])) 0)],(.str [112,105,110,103]),none⟩
theorem Zy4:Zat Tryz.prog aw30.f aw30.args aw30.r aw30.fr:=Zaf (n:=100000) (l:=[]) follows Zah trivial (by kernel_rfl)
def aw31:Fact:=⟨182,[(.str [112,105,110,103])],(.bool true),none⟩
theorem Zx9:Zat Tryz.prog aw31.f aw31.args aw31.r aw31.fr:=Zaf (n:=100000) (l:=[]) follows Zah trivial (by kernel_rfl)
def aw32:Fact:=⟨158,[(.int .i64 (-1)),(.int .i64 3)],(.bool true),none⟩
theorem ZsA:Zat Tryz.prog aw32.f aw32.args aw32.r aw32.fr:=Zaf (n:=100000) (l:=[]) follows Zah trivial (by kernel_rfl)
def aw33:Fact:=⟨163,[(.int .i64 3),(.eptr (.fn 158 []) 0),(.eptr (.agg (.gen [(.list (.big .str [(.str [115,97,102,101]),(.str [99,114,117,105,115,101]),(.str [98,117,114,110])])),(.list (.big (.agg [.str,(.int .i64)]) [(.agg (.gen [(.str [119,97,107,101]),(.int .i64 1)])),(.agg (.gen [(.str [102,105,114,101]),(.int .i64 2)])),(.agg (.gen [(.str [115,116,111,112]),(.int .i64 1)])),(.agg (.gen [(.str [112,105,110,103]),(.int .i64 (-1))]))])),(.list (.big (.agg [.str,(.int .i64),(.int .i64),(.int .i64),(.int .i64)]) [(.agg (.gen [(.str [99,111,108,100]),(.int .i64 1),(.int .i64 0),(.int .i64 (-1)),(.int .i64 1)])),(.agg (.gen [(.str [104,101,97,116]),(.int .i64 1),(.int .i64 (-1)),(.int .i64 2),(.int .i64 50)]))]))])) 0),(.eptr (.int .i64 3) 0)],(.int .i64 0),none⟩
theorem Zx8:Zat Tryz.prog aw33.f aw33.args aw33.r aw33.fr:=Zaf (n:=100000) (l:=[aw32,aw20]) follows Zah ⟨ZsA,⟨Zds,trivial⟩⟩ (by kernel_rfl)
def aw34:Fact:=⟨164,[(.int .i64 0),(.eptr (.agg (.gen [(.list (.big .str [(.str [115,97,102,101]),(.str [99,114,117,105,115,101]),(.str [98,117,114,110])])),(.list (.big (.agg [.str,(.int .i64)]) [(.agg (.gen [(.str [119,97,107,101]),(.int .i64 1)])),(.agg (.gen [(.str [102,105,114,101]),(.int .i64 2)])),(.agg (.gen [(.str [115,116,111,112]),(.int .i64 1)])),(.agg (.gen [(.str [112,105,110,103]),(.int .i64 (-1))]))])),(.list (.big (.agg [.str,(.int .i64),(.int .i64),(.int .i64),(.int .i64)]) [(.agg (.gen [(.str [99,111,108,100]),(.int .i64 1),(.int .i64 0),(.int .i64 (-1)),(.int .i64 1)])),(.agg (.gen [(.str [104,101,97,116]),(.int .i64 1),(.int .i64 (-1)),(.int .i64 2),(.int .i64 50)]))]))])) 0)],(.str [99,111,108,100]),none⟩
theorem ZxW:Zat Tryz.prog aw34.f aw34.args aw34.r aw34.fr:=Zaf (n:=100000) (l:=[]) follows Zah trivial (by kernel_rfl)
def aw35:Fact:=⟨182,[(.str [99,111,108,100])],(.bool true),none⟩
theorem Zyp:Zat Tryz.prog aw35.f aw35.args aw35.r aw35.fr:=Zaf (n:=100000) (l:=[]) follows Zah trivial (by kernel_rfl)
def aw36:Fact:=⟨82,[(.int .i64 1),(.int .i64 0),(.int .i64 3)],(.bool true),none⟩
theorem Zi9:Zat Tryz.prog aw36.f aw36.args aw36.r aw36.fr:=Zaf (n:=100000) (l:=[]) follows Zah trivial (by kernel_rfl)
def aw37:Fact:=⟨82,[(.int .i64 0),(.int .i64 0),(.int .i64 2)],(.bool true),none⟩
theorem Zs0:Zat Tryz.prog aw37.f aw37.args aw37.r aw37.fr:=Zaf (n:=100000) (l:=[]) follows Zah trivial (by kernel_rfl)
def aw38:Fact:=⟨158,[(.int .i64 0),(.int .i64 3)],(.bool true),none⟩
theorem ZyN:Zat Tryz.prog aw38.f aw38.args aw38.r aw38.fr:=Zaf (n:=100000) (l:=[aw37]) follows Zah ⟨Zs0,trivial⟩ (by kernel_rfl)
def aw39:Fact:=⟨158,[(.int .i64 (-1)),(.int .i64 4)],(.bool true),none⟩
theorem ZyF:Zat Tryz.prog aw39.f aw39.args aw39.r aw39.fr:=Zaf (n:=100000) (l:=[]) follows Zah trivial (by kernel_rfl)
def aw40:Fact:=⟨82,[(.int .i64 1),(.int .i64 1),(.int .i64 1000000)],(.bool true),none⟩
theorem ZwH:Zat Tryz.prog aw40.f aw40.args aw40.r aw40.fr:=Zaf (n:=100000) (l:=[]) follows Zah trivial (by kernel_rfl)
def aw41:Fact:=⟨68,[(.bool true),(.int .i64 2)],(.int .i64 0),none⟩
theorem Zca:Zat Tryz.prog aw41.f aw41.args aw41.r aw41.fr:=Zaf (n:=100000) (l:=[]) follows Zah trivial (by kernel_rfl)
def aw42:Fact:=⟨68,[(.bool true),(.int .i64 3)],(.int .i64 0),none⟩
theorem ZrZ:Zat Tryz.prog aw42.f aw42.args aw42.r aw42.fr:=Zaf (n:=100000) (l:=[]) follows Zah trivial (by kernel_rfl)
def aw43:Fact:=⟨165,[(.int .i64 0),(.eptr (.agg (.gen [(.list (.big .str [(.str [115,97,102,101]),(.str [99,114,117,105,115,101]),(.str [98,117,114,110])])),(.list (.big (.agg [.str,(.int .i64)]) [(.agg (.gen [(.str [119,97,107,101]),(.int .i64 1)])),(.agg (.gen [(.str [102,105,114,101]),(.int .i64 2)])),(.agg (.gen [(.str [115,116,111,112]),(.int .i64 1)])),(.agg (.gen [(.str [112,105,110,103]),(.int .i64 (-1))]))])),(.list (.big (.agg [.str,(.int .i64),(.int .i64),(.int .i64),(.int .i64)]) [(.agg (.gen [(.str [99,111,108,100]),(.int .i64 1),(.int .i64 0),(.int .i64 (-1)),(.int .i64 1)])),(.agg (.gen [(.str [104,101,97,116]),(.int .i64 1),(.int .i64 (-1)),(.int .i64 2),(.int .i64 50)]))]))])) 0),(.eptr (.int .i64 4) 0),(.eptr (.fn 158 []) 0),(.eptr (.int .i64 3) 0)],(.int .i64 0),none⟩
theorem ZxB:Zat Tryz.prog aw43.f aw43.args aw43.r aw43.fr:=Zaf (n:=100000) (l:=[aw36,aw38,aw39,aw20,aw40,aw41,aw42,aw9]) follows Zah ⟨Zi9,⟨ZyN,⟨ZyF,⟨Zds,⟨ZwH,⟨Zca,⟨ZrZ,⟨ZhX,trivial⟩⟩⟩⟩⟩⟩⟩⟩ (by kernel_rfl)
def aw44:Fact:=⟨164,[(.int .i64 1),(.eptr (.agg (.gen [(.list (.big .str [(.str [115,97,102,101]),(.str [99,114,117,105,115,101]),(.str [98,117,114,110])])),(.list (.big (.agg [.str,(.int .i64)]) [(.agg (.gen [(.str [119,97,107,101]),(.int .i64 1)])),(.agg (.gen [(.str [102,105,114,101]),(.int .i64 2)])),(.agg (.gen [(.str [115,116,111,112]),(.int .i64 1)])),(.agg (.gen [(.str [112,105,110,103]),(.int .i64 (-1))]))])),(.list (.big (.agg [.str,(.int .i64),(.int .i64),(.int .i64),(.int .i64)]) [(.agg (.gen [(.str [99,111,108,100]),(.int .i64 1),(.int .i64 0),(.int .i64 (-1)),(.int .i64 1)])),(.agg (.gen [(.str [104,101,97,116]),(.int .i64 1),(.int .i64 (-1)),(.int .i64 2),(.int .i64 50)]))]))])) 0)],(.str [104,101,97,116]),none⟩
theorem Zyq:Zat Tryz.prog aw44.f aw44.args aw44.r aw44.fr:=Zaf (n:=100000) (l:=[]) follows Zah trivial (by kernel_rfl)
def aw45:Fact:=⟨182,[(.str [104,101,97,116])],(.bool true),none⟩
theorem ZwT:Zat Tryz.prog aw45.f aw45.args aw45.r aw45.fr:=Zaf (n:=100000) (l:=[]) follows Zah trivial (by kernel_rfl)
def aw46:Fact:=⟨82,[(.int .i64 2),(.int .i64 0),(.int .i64 3)],(.bool true),none⟩
theorem Zta:Zat Tryz.prog aw46.f aw46.args aw46.r aw46.fr:=Zaf (n:=100000) (l:=[]) follows Zah trivial (by kernel_rfl)
def aw47:Fact:=⟨158,[(.int .i64 2),(.int .i64 4)],(.bool true),none⟩
theorem ZwK:Zat Tryz.prog aw47.f aw47.args aw47.r aw47.fr:=Zaf (n:=100000) (l:=[aw46]) follows Zah ⟨Zta,trivial⟩ (by kernel_rfl)
def aw48:Fact:=⟨82,[(.int .i64 50),(.int .i64 1),(.int .i64 1000000)],(.bool true),none⟩
theorem ZxT:Zat Tryz.prog aw48.f aw48.args aw48.r aw48.fr:=Zaf (n:=100000) (l:=[]) follows Zah trivial (by kernel_rfl)
def aw49:Fact:=⟨165,[(.int .i64 1),(.eptr (.agg (.gen [(.list (.big .str [(.str [115,97,102,101]),(.str [99,114,117,105,115,101]),(.str [98,117,114,110])])),(.list (.big (.agg [.str,(.int .i64)]) [(.agg (.gen [(.str [119,97,107,101]),(.int .i64 1)])),(.agg (.gen [(.str [102,105,114,101]),(.int .i64 2)])),(.agg (.gen [(.str [115,116,111,112]),(.int .i64 1)])),(.agg (.gen [(.str [112,105,110,103]),(.int .i64 (-1))]))])),(.list (.big (.agg [.str,(.int .i64),(.int .i64),(.int .i64),(.int .i64)]) [(.agg (.gen [(.str [99,111,108,100]),(.int .i64 1),(.int .i64 0),(.int .i64 (-1)),(.int .i64 1)])),(.agg (.gen [(.str [104,101,97,116]),(.int .i64 1),(.int .i64 (-1)),(.int .i64 2),(.int .i64 50)]))]))])) 0),(.eptr (.int .i64 4) 0),(.eptr (.fn 158 []) 0),(.eptr (.int .i64 3) 0)],(.int .i64 0),none⟩
theorem Zxf:Zat Tryz.prog aw49.f aw49.args aw49.r aw49.fr:=Zaf (n:=100000) (l:=[aw36,aw32,aw47,aw20,aw48,aw41,aw42,aw9]) follows Zah ⟨Zi9,⟨ZsA,⟨ZwK,⟨Zds,⟨ZxT,⟨Zca,⟨ZrZ,⟨ZhX,trivial⟩⟩⟩⟩⟩⟩⟩⟩ (by kernel_rfl)
def aw50:Fact:=⟨136,[(.agg (.gen [(.list (.big .str [(.str [115,97,102,101]),(.str [99,114,117,105,115,101]),(.str [98,117,114,110])])),(.list (.big (.agg [.str,(.int .i64)]) [(.agg (.gen [(.str [119,97,107,101]),(.int .i64 1)])),(.agg (.gen [(.str [102,105,114,101]),(.int .i64 2)])),(.agg (.gen [(.str [115,116,111,112]),(.int .i64 1)])),(.agg (.gen [(.str [112,105,110,103]),(.int .i64 (-1))]))])),(.list (.big (.agg [.str,(.int .i64),(.int .i64),(.int .i64),(.int .i64)]) [(.agg (.gen [(.str [99,111,108,100]),(.int .i64 1),(.int .i64 0),(.int .i64 (-1)),(.int .i64 1)])),(.agg (.gen [(.str [104,101,97,116]),(.int .i64 1),(.int .i64 (-1)),(.int .i64 2),(.int .i64 50)]))]))]))],(.tup [(.agg (.gen [(.int .i64 0),(.int .i64 0)])),(.int .i64 0)]),none⟩
theorem ZwO:Zat Tryz.prog aw50.f aw50.args aw50.r aw50.fr:=Zaf (n:=100000) (l:=[aw1,aw2,aw3,aw4,aw5,aw6,aw7,aw8,aw9,aw10,aw11,aw12,aw13,aw14,aw15,aw16,aw17,aw21,aw22,aw23,aw26,aw27,aw28,aw29,aw30,aw31,aw33,aw34,aw35,aw43,aw44,aw45,aw49]) follows Zah ⟨Zrw,⟨ZpI,⟨ZoD,⟨ZBr,⟨ZBm,⟨ZAD,⟨ZAv,⟨ZCy,⟨ZhX,⟨ZyS,⟨Zzm,⟨ZyV,⟨ZwR,⟨Zzv,⟨ZzT,⟨ZyX,⟨Zyn,⟨ZzR,⟨Zzz,⟨ZxA,⟨Zw7,⟨ZxY,⟨ZzH,⟨Zza,⟨Zy4,⟨Zx9,⟨Zx8,⟨ZxW,⟨Zyp,⟨ZxB,⟨Zyq,⟨ZwT,⟨Zxf,trivial⟩⟩⟩⟩⟩⟩⟩⟩⟩⟩⟩⟩⟩⟩⟩⟩⟩⟩⟩⟩⟩⟩⟩⟩⟩⟩⟩⟩⟩⟩⟩⟩⟩ (by kernel_rfl)
def aw51:Fact:=⟨88,[(.agg (.gen [(.list (.big .str [(.str [115,97,102,101]),(.str [99,114,117,105,115,101]),(.str [98,117,114,110])])),(.list (.big (.agg [.str,(.int .i64)]) [(.agg (.gen [(.str [119,97,107,101]),(.int .i64 1)])),(.agg (.gen [(.str [102,105,114,101]),(.int .i64 2)])),(.agg (.gen [(.str [115,116,111,112]),(.int .i64 1)])),(.agg (.gen [(.str [112,105,110,103]),(.int .i64 (-1))]))])),(.list (.big (.agg [.str,(.int .i64),(.int .i64),(.int .i64),(.int .i64)]) [(.agg (.gen [(.str [99,111,108,100]),(.int .i64 1),(.int .i64 0),(.int .i64 (-1)),(.int .i64 1)])),(.agg (.gen [(.str [104,101,97,116]),(.int .i64 1),(.int .i64 (-1)),(.int .i64 2),(.int .i64 50)]))]))]))],(.int .i64 0),none⟩
theorem ZrE:Zat Tryz.prog aw51.f aw51.args aw51.r aw51.fr:=Zaf (n:=100000) (l:=[aw50]) follows Zah ⟨ZwO,trivial⟩ (by kernel_rfl)
def aw52:Fact:=⟨82,[(.int .i64 0),(.int .i64 0),(.int .i64 3)],(.bool true),none⟩
theorem ZxR:Zat Tryz.prog aw52.f aw52.args aw52.r aw52.fr:=Zaf (n:=100000) (l:=[]) follows Zah trivial (by kernel_rfl)
def aw53:Fact:=⟨68,[(.bool true),(.int .i64 15)],(.int .i64 0),none⟩
theorem Ziz:Zat Tryz.prog aw53.f aw53.args aw53.r aw53.fr:=Zaf (n:=100000) (l:=[]) follows Zah trivial (by kernel_rfl)
def aw54:Fact:=⟨82,[(.int .i64 0),(.int .i64 0),(.int .i64 1000000000000)],(.bool true),none⟩
theorem Zxw:Zat Tryz.prog aw54.f aw54.args aw54.r aw54.fr:=Zaf (n:=100000) (l:=[]) follows Zah trivial (by kernel_rfl)
def aw55:Fact:=⟨89,[(.int .i64 0)],(.bool true),none⟩
theorem Zsp:Zat Tryz.prog aw55.f aw55.args aw55.r aw55.fr:=Zaf (n:=100000) (l:=[aw54]) follows Zah ⟨Zxw,trivial⟩ (by kernel_rfl)
def aw56:Fact:=⟨82,[(.int .i64 100),(.int .i64 0),(.int .i64 1000000000000)],(.bool true),none⟩
theorem ZwS:Zat Tryz.prog aw56.f aw56.args aw56.r aw56.fr:=Zaf (n:=100000) (l:=[]) follows Zah trivial (by kernel_rfl)
def aw57:Fact:=⟨89,[(.int .i64 100)],(.bool true),none⟩
theorem ZyZ:Zat Tryz.prog aw57.f aw57.args aw57.r aw57.fr:=Zaf (n:=100000) (l:=[aw56]) follows Zah ⟨ZwS,trivial⟩ (by kernel_rfl)
def aw58:Fact:=⟨68,[(.bool true),(.int .i64 9)],(.int .i64 0),none⟩
theorem ZlA:Zat Tryz.prog aw58.f aw58.args aw58.r aw58.fr:=Zaf (n:=100000) (l:=[]) follows Zah trivial (by kernel_rfl)
def aw59:Fact:=⟨120,[(.agg (.gen [(.list (.big .str [(.str [115,97,102,101]),(.str [99,114,117,105,115,101]),(.str [98,117,114,110])])),(.list (.big (.agg [.str,(.int .i64)]) [(.agg (.gen [(.str [119,97,107,101]),(.int .i64 1)])),(.agg (.gen [(.str [102,105,114,101]),(.int .i64 2)])),(.agg (.gen [(.str [115,116,111,112]),(.int .i64 1)])),(.agg (.gen [(.str [112,105,110,103]),(.int .i64 (-1))]))])),(.list (.big (.agg [.str,(.int .i64),(.int .i64),(.int .i64),(.int .i64)]) [(.agg (.gen [(.str [99,111,108,100]),(.int .i64 1),(.int .i64 0),(.int .i64 (-1)),(.int .i64 1)])),(.agg (.gen [(.str [104,101,97,116]),(.int .i64 1),(.int .i64 (-1)),(.int .i64 2),(.int .i64 50)]))]))])),(.agg (.gen [(.int .i64 0),(.int .i64 0),(.int .i64 100)]))],(.int .i64 0),none⟩
theorem ZzG:Zat Tryz.prog aw59.f aw59.args aw59.r aw59.fr:=Zaf (n:=100000) (l:=[aw52,aw53,aw55,aw57,aw41,aw58,aw9]) follows Zah ⟨ZxR,⟨Ziz,⟨Zsp,⟨ZyZ,⟨Zca,⟨ZlA,⟨ZhX,trivial⟩⟩⟩⟩⟩⟩⟩ (by kernel_rfl)
def aw60:Fact:=⟨82,[(.int .i64 20),(.int .i64 0),(.int .i64 1000000000000)],(.bool true),none⟩
theorem Zxg:Zat Tryz.prog aw60.f aw60.args aw60.r aw60.fr:=Zaf (n:=100000) (l:=[]) follows Zah trivial (by kernel_rfl)
def aw61:Fact:=⟨89,[(.int .i64 20)],(.bool true),none⟩
theorem ZyO:Zat Tryz.prog aw61.f aw61.args aw61.r aw61.fr:=Zaf (n:=100000) (l:=[aw60]) follows Zah ⟨Zxg,trivial⟩ (by kernel_rfl)
def aw62:Fact:=⟨82,[(.int .i64 200),(.int .i64 0),(.int .i64 1000000000000)],(.bool true),none⟩
theorem Zy7:Zat Tryz.prog aw62.f aw62.args aw62.r aw62.fr:=Zaf (n:=100000) (l:=[]) follows Zah trivial (by kernel_rfl)
def aw63:Fact:=⟨89,[(.int .i64 200)],(.bool true),none⟩
theorem ZyT:Zat Tryz.prog aw63.f aw63.args aw63.r aw63.fr:=Zaf (n:=100000) (l:=[aw62]) follows Zah ⟨Zy7,trivial⟩ (by kernel_rfl)
def aw64:Fact:=⟨120,[(.agg (.gen [(.list (.big .str [(.str [115,97,102,101]),(.str [99,114,117,105,115,101]),(.str [98,117,114,110])])),(.list (.big (.agg [.str,(.int .i64)]) [(.agg (.gen [(.str [119,97,107,101]),(.int .i64 1)])),(.agg (.gen [(.str [102,105,114,101]),(.int .i64 2)])),(.agg (.gen [(.str [115,116,111,112]),(.int .i64 1)])),(.agg (.gen [(.str [112,105,110,103]),(.int .i64 (-1))]))])),(.list (.big (.agg [.str,(.int .i64),(.int .i64),(.int .i64),(.int .i64)]) [(.agg (.gen [(.str [99,111,108,100]),(.int .i64 1),(.int .i64 0),(.int .i64 (-1)),(.int .i64 1)])),(.agg (.gen [(.str [104,101,97,116]),(.int .i64 1),(.int .i64 (-1)),(.int .i64 2),(.int .i64 50)]))]))])),(.agg (.gen [(.int .i64 1),(.int .i64 20),(.int .i64 200)]))],(.int .i64 0),none⟩
theorem ZxU:Zat Tryz.prog aw64.f aw64.args aw64.r aw64.fr:=Zaf (n:=100000) (l:=[aw36,aw53,aw61,aw63,aw41,aw58,aw9]) follows Zah ⟨Zi9,⟨Ziz,⟨ZyO,⟨ZyT,⟨Zca,⟨ZlA,⟨ZhX,trivial⟩⟩⟩⟩⟩⟩⟩ (by kernel_rfl)
def aw65:Fact:=⟨82,[(.int .i64 30),(.int .i64 0),(.int .i64 1000000000000)],(.bool true),none⟩
theorem Zw8:Zat Tryz.prog aw65.f aw65.args aw65.r aw65.fr:=Zaf (n:=100000) (l:=[]) follows Zah trivial (by kernel_rfl)
def aw66:Fact:=⟨89,[(.int .i64 30)],(.bool true),none⟩
theorem Zzr:Zat Tryz.prog aw66.f aw66.args aw66.r aw66.fr:=Zaf (n:=100000) (l:=[aw65]) follows Zah ⟨Zw8,trivial⟩ (by kernel_rfl)
def aw67:Fact:=⟨82,[(.int .i64 300),(.int .i64 0),(.int .i64 1000000000000)],(.bool true),none⟩
theorem ZyG:Zat Tryz.prog aw67.f aw67.args aw67.r aw67.fr:=Zaf (n:=100000) (l:=[]) follows Zah trivial (by kernel_rfl)
def aw68:Fact:=⟨89,[(.int .i64 300)],(.bool true),none⟩
theorem ZxZ:Zat Tryz.prog aw68.f aw68.args aw68.r aw68.fr:=Zaf (n:=100000) (l:=[aw67]) follows Zah ⟨ZyG,trivial⟩ (by kernel_rfl)
def aw69:Fact:=⟨120,[(.agg (.gen [(.list (.big .str [(.str [115,97,102,101]),(.str [99,114,117,105,115,101]),(.str [98,117,114,110])])),(.list (.big (.agg [.str,(.int .i64)]) [(.agg (.gen [(.str [119,97,107,101]),(.int .i64 1)])),(.agg (.gen [(.str [102,105,114,101]),(.int .i64 2)])),(.agg (.gen [(.str [115,116,111,112]),(.int .i64 1)])),(.agg (.gen [(.str [112,105,110,103]),(.int .i64 (-1))]))])),(.list (.big (.agg [.str,(.int .i64),(.int .i64),(.int .i64),(.int .i64)]) [(.agg (.gen [(.str [99,111,108,100]),(.int .i64 1),(.int .i64 0),(.int .i64 (-1)),(.int .i64 1)])),(.agg (.gen [(.str [104,101,97,116]),(.int .i64 1),(.int .i64 (-1)),(.int .i64 2),(.int .i64 50)]))]))])),(.agg (.gen [(.int .i64 2),(.int .i64 30),(.int .i64 300)]))],(.int .i64 0),none⟩
theorem Zxe:Zat Tryz.prog aw69.f aw69.args aw69.r aw69.fr:=Zaf (n:=100000) (l:=[aw46,aw53,aw66,aw68,aw41,aw58,aw9]) follows Zah ⟨Zta,⟨Ziz,⟨Zzr,⟨ZxZ,⟨Zca,⟨ZlA,⟨ZhX,trivial⟩⟩⟩⟩⟩⟩⟩ (by kernel_rfl)
def aw70:Fact:=⟨82,[(.int .i64 40),(.int .i64 0),(.int .i64 1000000000000)],(.bool true),none⟩
theorem Zxu:Zat Tryz.prog aw70.f aw70.args aw70.r aw70.fr:=Zaf (n:=100000) (l:=[]) follows Zah trivial (by kernel_rfl)
def aw71:Fact:=⟨89,[(.int .i64 40)],(.bool true),none⟩
theorem ZxX:Zat Tryz.prog aw71.f aw71.args aw71.r aw71.fr:=Zaf (n:=100000) (l:=[aw70]) follows Zah ⟨Zxu,trivial⟩ (by kernel_rfl)
def aw72:Fact:=⟨82,[(.int .i64 400),(.int .i64 0),(.int .i64 1000000000000)],(.bool true),none⟩
theorem ZyU:Zat Tryz.prog aw72.f aw72.args aw72.r aw72.fr:=Zaf (n:=100000) (l:=[]) follows Zah trivial (by kernel_rfl)
def aw73:Fact:=⟨89,[(.int .i64 400)],(.bool true),none⟩
theorem Zxi:Zat Tryz.prog aw73.f aw73.args aw73.r aw73.fr:=Zaf (n:=100000) (l:=[aw72]) follows Zah ⟨ZyU,trivial⟩ (by kernel_rfl)
def aw74:Fact:=⟨120,[(.agg (.gen [(.list (.big .str [(.str [115,97,102,101]),(.str [99,114,117,105,115,101]),(.str [98,117,114,110])])),(.list (.big (.agg [.str,(.int .i64)]) [(.agg (.gen [(.str [119,97,107,101]),(.int .i64 1)])),(.agg (.gen [(.str [102,105,114,101]),(.int .i64 2)])),(.agg (.gen [(.str [115,116,111,112]),(.int .i64 1)])),(.agg (.gen [(.str [112,105,110,103]),(.int .i64 (-1))]))])),(.list (.big (.agg [.str,(.int .i64),(.int .i64),(.int .i64),(.int .i64)]) [(.agg (.gen [(.str [99,111,108,100]),(.int .i64 1),(.int .i64 0),(.int .i64 (-1)),(.int .i64 1)])),(.agg (.gen [(.str [104,101,97,116]),(.int .i64 1),(.int .i64 (-1)),(.int .i64 2),(.int .i64 50)]))]))])),(.agg (.gen [(.int .i64 1),(.int .i64 40),(.int .i64 400)]))],(.int .i64 0),none⟩
theorem ZyR:Zat Tryz.prog aw74.f aw74.args aw74.r aw74.fr:=Zaf (n:=100000) (l:=[aw36,aw53,aw71,aw73,aw41,aw58,aw9]) follows Zah ⟨Zi9,⟨Ziz,⟨ZxX,⟨Zxi,⟨Zca,⟨ZlA,⟨ZhX,trivial⟩⟩⟩⟩⟩⟩⟩ (by kernel_rfl)
def aw75:Fact:=⟨71,[(.agg (.gen [(.list (.big .str [(.str [115,97,102,101]),(.str [99,114,117,105,115,101]),(.str [98,117,114,110])])),(.list (.big (.agg [.str,(.int .i64)]) [(.agg (.gen [(.str [119,97,107,101]),(.int .i64 1)])),(.agg (.gen [(.str [102,105,114,101]),(.int .i64 2)])),(.agg (.gen [(.str [115,116,111,112]),(.int .i64 1)])),(.agg (.gen [(.str [112,105,110,103]),(.int .i64 (-1))]))])),(.list (.big (.agg [.str,(.int .i64),(.int .i64),(.int .i64),(.int .i64)]) [(.agg (.gen [(.str [99,111,108,100]),(.int .i64 1),(.int .i64 0),(.int .i64 (-1)),(.int .i64 1)])),(.agg (.gen [(.str [104,101,97,116]),(.int .i64 1),(.int .i64 (-1)),(.int .i64 2),(.int .i64 50)]))]))])),(.list (.big (.agg [(.int .i64),(.int .i64),(.int .i64)]) [(.agg (.gen [(.int .i64 0),(.int .i64 0),(.int .i64 100)])),(.agg (.gen [(.int .i64 1),(.int .i64 20),(.int .i64 200)])),(.agg (.gen [(.int .i64 2),(.int .i64 30),(.int .i64 300)])),(.agg (.gen [(.int .i64 1),(.int .i64 40),(.int .i64 400)]))]))],(.tup [(.int .i64 0),(.int .i64 0)]),none⟩
theorem Zre:Zat Tryz.prog aw75.f aw75.args aw75.r aw75.fr:=Zaf (n:=100000) (l:=[aw51,aw1,aw2,aw9,aw59,aw64,aw69,aw74]) follows Zah ⟨ZrE,⟨Zrw,⟨ZpI,⟨ZhX,⟨ZzG,⟨ZxU,⟨Zxe,⟨ZyR,trivial⟩⟩⟩⟩⟩⟩⟩⟩ (by kernel_rfl)
def aw76:Fact:=⟨179,[(.int .u64 1),(.int .u64 4)],(.tup [(.int .u64 0),(.int .u64 4)]),none⟩
theorem ZxV:Zat Tryz.prog aw76.f aw76.args aw76.r aw76.fr:=Zaf (n:=100000) (l:=[]) follows Zah trivial (by kernel_rfl)
def aw77:Fact:=⟨152,[(.int .u64 1),(.int .u64 4)],(.tup [(.int .u64 0),(.int .u64 4)]),none⟩
theorem Zy6:Zat Tryz.prog aw77.f aw77.args aw77.r aw77.fr:=Zaf (n:=100000) (l:=[aw76]) follows Zah ⟨ZxV,trivial⟩ (by kernel_rfl)
def aw78:Fact:=⟨121,[(.list (.ints .i64 [(-1)])),(.int .i64 4)],(.row 0 0),(some ⟨3,1,(.ints .i64 [(-1),(-1),(-1),(-1)])⟩)⟩
theorem ZnJ:Zat Tryz.prog aw78.f aw78.args aw78.r aw78.fr:=Zaf (n:=100000) (l:=[aw77]) follows Zah ⟨Zy6,trivial⟩ (by kernel_rfl)
def aw79:Fact:=⟨122,[(.eptr (.agg (.gen [(.list (.big .str [(.str [115,97,102,101]),(.str [99,114,117,105,115,101]),(.str [98,117,114,110])])),(.list (.big (.agg [.str,(.int .i64)]) [(.agg (.gen [(.str [119,97,107,101]),(.int .i64 1)])),(.agg (.gen [(.str [102,105,114,101]),(.int .i64 2)])),(.agg (.gen [(.str [115,116,111,112]),(.int .i64 1)])),(.agg (.gen [(.str [112,105,110,103]),(.int .i64 (-1))]))])),(.list (.big (.agg [.str,(.int .i64),(.int .i64),(.int .i64),(.int .i64)]) [(.agg (.gen [(.str [99,111,108,100]),(.int .i64 1),(.int .i64 0),(.int .i64 (-1)),(.int .i64 1)])),(.agg (.gen [(.str [104,101,97,116]),(.int .i64 1),(.int .i64 (-1)),(.int .i64 2),(.int .i64 50)]))])),(.int .i64 0),(.int .i64 0),(.list (.ints .i64 [(-1),(-1),(-1),(-1)]))])) 0),(.agg (.gen [(.str [104,101,97,116]),(.int .i64 1),(.int .i64 (-1)),(.int .i64 2),(.int .i64 50)])),(.int .i64 0)],(.bool false),none⟩
theorem ZxF:Zat Tryz.prog aw79.f aw79.args aw79.r aw79.fr:=Zaf (n:=100000) (l:=[]) follows Zah trivial (by kernel_rfl)
def aw80:Fact:=⟨82,[(.int .i64 0),(.int .i64 0),(.int .i64 100)],(.bool true),none⟩
theorem Zy2:Zat Tryz.prog aw80.f aw80.args aw80.r aw80.fr:=Zaf (n:=100000) (l:=[]) follows Zah trivial (by kernel_rfl)
def aw81:Fact:=⟨91,[(.eptr (.agg (.gen [(.list (.big .str [(.str [115,97,102,101]),(.str [99,114,117,105,115,101]),(.str [98,117,114,110])])),(.list (.big (.agg [.str,(.int .i64)]) [(.agg (.gen [(.str [119,97,107,101]),(.int .i64 1)])),(.agg (.gen [(.str [102,105,114,101]),(.int .i64 2)])),(.agg (.gen [(.str [115,116,111,112]),(.int .i64 1)])),(.agg (.gen [(.str [112,105,110,103]),(.int .i64 (-1))]))])),(.list (.big (.agg [.str,(.int .i64),(.int .i64),(.int .i64),(.int .i64)]) [(.agg (.gen [(.str [99,111,108,100]),(.int .i64 1),(.int .i64 0),(.int .i64 (-1)),(.int .i64 1)])),(.agg (.gen [(.str [104,101,97,116]),(.int .i64 1),(.int .i64 (-1)),(.int .i64 2),(.int .i64 50)]))])),(.int .i64 0),(.int .i64 0),(.list (.ints .i64 [(-1),(-1),(-1),(-1)]))])) 0),(.int .i64 0)],(.val (.pointer none)),none⟩
theorem Zxh:Zat Tryz.prog aw81.f aw81.args aw81.r aw81.fr:=Zaf (n:=100000) (l:=[]) follows Zah trivial (by kernel_rfl)
def aw82:Fact:=⟨123,[(.eptr (.agg (.gen [(.list (.big .str [(.str [115,97,102,101]),(.str [99,114,117,105,115,101]),(.str [98,117,114,110])])),(.list (.big (.agg [.str,(.int .i64)]) [(.agg (.gen [(.str [119,97,107,101]),(.int .i64 1)])),(.agg (.gen [(.str [102,105,114,101]),(.int .i64 2)])),(.agg (.gen [(.str [115,116,111,112]),(.int .i64 1)])),(.agg (.gen [(.str [112,105,110,103]),(.int .i64 (-1))]))])),(.list (.big (.agg [.str,(.int .i64),(.int .i64),(.int .i64),(.int .i64)]) [(.agg (.gen [(.str [99,111,108,100]),(.int .i64 1),(.int .i64 0),(.int .i64 (-1)),(.int .i64 1)])),(.agg (.gen [(.str [104,101,97,116]),(.int .i64 1),(.int .i64 (-1)),(.int .i64 2),(.int .i64 50)]))])),(.int .i64 0),(.int .i64 0),(.list (.ints .i64 [(-1),(-1),(-1),(-1)]))])) 0),(.agg (.gen [(.int .i64 0),(.int .i64 0),(.int .i64 100)]))],(.bool true),none⟩
theorem Znv:Zat Tryz.prog aw82.f aw82.args aw82.r aw82.fr:=Zaf (n:=100000) (l:=[aw80,aw81]) follows Zah ⟨Zy2,⟨Zxh,trivial⟩⟩ (by kernel_rfl)
def aw83:Fact:=⟨122,[(.eptr (.agg (.gen [(.list (.big .str [(.str [115,97,102,101]),(.str [99,114,117,105,115,101]),(.str [98,117,114,110])])),(.list (.big (.agg [.str,(.int .i64)]) [(.agg (.gen [(.str [119,97,107,101]),(.int .i64 1)])),(.agg (.gen [(.str [102,105,114,101]),(.int .i64 2)])),(.agg (.gen [(.str [115,116,111,112]),(.int .i64 1)])),(.agg (.gen [(.str [112,105,110,103]),(.int .i64 (-1))]))])),(.list (.big (.agg [.str,(.int .i64),(.int .i64),(.int .i64),(.int .i64)]) [(.agg (.gen [(.str [99,111,108,100]),(.int .i64 1),(.int .i64 0),(.int .i64 (-1)),(.int .i64 1)])),(.agg (.gen [(.str [104,101,97,116]),(.int .i64 1),(.int .i64 (-1)),(.int .i64 2),(.int .i64 50)]))])),(.int .i64 1),(.int .i64 20),(.list (.ints .i64 [0,(-1),(-1),(-1)]))])) 0),(.agg (.gen [(.str [104,101,97,116]),(.int .i64 1),(.int .i64 (-1)),(.int .i64 2),(.int .i64 50)])),(.int .i64 1)],(.bool true),none⟩
theorem Zww:Zat Tryz.prog aw83.f aw83.args aw83.r aw83.fr:=Zaf (n:=100000) (l:=[]) follows Zah trivial (by kernel_rfl)
def aw84:Fact:=⟨82,[(.int .i64 20),(.int .i64 20),(.int .i64 200)],(.bool true),none⟩
theorem Zzl:Zat Tryz.prog aw84.f aw84.args aw84.r aw84.fr:=Zaf (n:=100000) (l:=[]) follows Zah trivial (by kernel_rfl)
def aw85:Fact:=⟨91,[(.eptr (.agg (.gen [(.list (.big .str [(.str [115,97,102,101]),(.str [99,114,117,105,115,101]),(.str [98,117,114,110])])),(.list (.big (.agg [.str,(.int .i64)]) [(.agg (.gen [(.str [119,97,107,101]),(.int .i64 1)])),(.agg (.gen [(.str [102,105,114,101]),(.int .i64 2)])),(.agg (.gen [(.str [115,116,111,112]),(.int .i64 1)])),(.agg (.gen [(.str [112,105,110,103]),(.int .i64 (-1))]))])),(.list (.big (.agg [.str,(.int .i64),(.int .i64),(.int .i64),(.int .i64)]) [(.agg (.gen [(.str [99,111,108,100]),(.int .i64 1),(.int .i64 0),(.int .i64 (-1)),(.int .i64 1)])),(.agg (.gen [(.str [104,101,97,116]),(.int .i64 1),(.int .i64 (-1)),(.int .i64 2),(.int .i64 50)]))])),(.int .i64 1),(.int .i64 20),(.list (.ints .i64 [0,(-1),(-1),(-1)]))])) 0),(.int .i64 1)],(.val (.pointer none)),none⟩
theorem ZyH:Zat Tryz.prog aw85.f aw85.args aw85.r aw85.fr:=Zaf (n:=100000) (l:=[]) follows Zah trivial (by kernel_rfl)
def aw86:Fact:=⟨123,[(.eptr (.agg (.gen [(.list (.big .str [(.str [115,97,102,101]),(.str [99,114,117,105,115,101]),(.str [98,117,114,110])])),(.list (.big (.agg [.str,(.int .i64)]) [(.agg (.gen [(.str [119,97,107,101]),(.int .i64 1)])),(.agg (.gen [(.str [102,105,114,101]),(.int .i64 2)])),(.agg (.gen [(.str [115,116,111,112]),(.int .i64 1)])),(.agg (.gen [(.str [112,105,110,103]),(.int .i64 (-1))]))])),(.list (.big (.agg [.str,(.int .i64),(.int .i64),(.int .i64),(.int .i64)]) [(.agg (.gen [(.str [99,111,108,100]),(.int .i64 1),(.int .i64 0),(.int .i64 (-1)),(.int .i64 1)])),(.agg (.gen [(.str [104,101,97,116]),(.int .i64 1),(.int .i64 (-1)),(.int .i64 2),(.int .i64 50)]))])),(.int .i64 1),(.int .i64 20),(.list (.ints .i64 [0,(-1),(-1),(-1)]))])) 0),(.agg (.gen [(.int .i64 1),(.int .i64 20),(.int .i64 200)]))],(.bool true),none⟩
theorem ZzV:Zat Tryz.prog aw86.f aw86.args aw86.r aw86.fr:=Zaf (n:=100000) (l:=[aw84,aw85]) follows Zah ⟨Zzl,⟨ZyH,trivial⟩⟩ (by kernel_rfl)
def aw87:Fact:=⟨122,[(.eptr (.agg (.gen [(.list (.big .str [(.str [115,97,102,101]),(.str [99,114,117,105,115,101]),(.str [98,117,114,110])])),(.list (.big (.agg [.str,(.int .i64)]) [(.agg (.gen [(.str [119,97,107,101]),(.int .i64 1)])),(.agg (.gen [(.str [102,105,114,101]),(.int .i64 2)])),(.agg (.gen [(.str [115,116,111,112]),(.int .i64 1)])),(.agg (.gen [(.str [112,105,110,103]),(.int .i64 (-1))]))])),(.list (.big (.agg [.str,(.int .i64),(.int .i64),(.int .i64),(.int .i64)]) [(.agg (.gen [(.str [99,111,108,100]),(.int .i64 1),(.int .i64 0),(.int .i64 (-1)),(.int .i64 1)])),(.agg (.gen [(.str [104,101,97,116]),(.int .i64 1),(.int .i64 (-1)),(.int .i64 2),(.int .i64 50)]))])),(.int .i64 2),(.int .i64 30),(.list (.ints .i64 [0,20,(-1),(-1)]))])) 0),(.agg (.gen [(.str [104,101,97,116]),(.int .i64 1),(.int .i64 (-1)),(.int .i64 2),(.int .i64 50)])),(.int .i64 2)],(.bool false),none⟩
theorem Zy3:Zat Tryz.prog aw87.f aw87.args aw87.r aw87.fr:=Zaf (n:=100000) (l:=[]) follows Zah trivial (by kernel_rfl)
def aw88:Fact:=⟨82,[(.int .i64 30),(.int .i64 30),(.int .i64 300)],(.bool true),none⟩
theorem Zze:Zat Tryz.prog aw88.f aw88.args aw88.r aw88.fr:=Zaf (n:=100000) (l:=[]) follows Zah trivial (by kernel_rfl)
def aw89:Fact:=⟨91,[(.eptr (.agg (.gen [(.list (.big .str [(.str [115,97,102,101]),(.str [99,114,117,105,115,101]),(.str [98,117,114,110])])),(.list (.big (.agg [.str,(.int .i64)]) [(.agg (.gen [(.str [119,97,107,101]),(.int .i64 1)])),(.agg (.gen [(.str [102,105,114,101]),(.int .i64 2)])),(.agg (.gen [(.str [115,116,111,112]),(.int .i64 1)])),(.agg (.gen [(.str [112,105,110,103]),(.int .i64 (-1))]))])),(.list (.big (.agg [.str,(.int .i64),(.int .i64),(.int .i64),(.int .i64)]) [(.agg (.gen [(.str [99,111,108,100]),(.int .i64 1),(.int .i64 0),(.int .i64 (-1)),(.int .i64 1)])),(.agg (.gen [(.str [104,101,97,116]),(.int .i64 1),(.int .i64 (-1)),(.int .i64 2),(.int .i64 50)]))])),(.int .i64 2),(.int .i64 30),(.list (.ints .i64 [0,20,(-1),(-1)]))])) 0),(.int .i64 2)],(.val (.pointer none)),none⟩
theorem Zxd:Zat Tryz.prog aw89.f aw89.args aw89.r aw89.fr:=Zaf (n:=100000) (l:=[]) follows Zah trivial (by kernel_rfl)
def aw90:Fact:=⟨123,[(.eptr (.agg (.gen [(.list (.big .str [(.str [115,97,102,101]),(.str [99,114,117,105,115,101]),(.str [98,117,114,110])])),(.list (.big (.agg [.str,(.int .i64)]) [(.agg (.gen [(.str [119,97,107,101]),(.int .i64 1)])),(.agg (.gen [(.str [102,105,114,101]),(.int .i64 2)])),(.agg (.gen [(.str [115,116,111,112]),(.int .i64 1)])),(.agg (.gen [(.str [112,105,110,103]),(.int .i64 (-1))]))])),(.list (.big (.agg [.str,(.int .i64),(.int .i64),(.int .i64),(.int .i64)]) [(.agg (.gen [(.str [99,111,108,100]),(.int .i64 1),(.int .i64 0),(.int .i64 (-1)),(.int .i64 1)])),(.agg (.gen [(.str [104,101,97,116]),(.int .i64 1),(.int .i64 (-1)),(.int .i64 2),(.int .i64 50)]))])),(.int .i64 2),(.int .i64 30),(.list (.ints .i64 [0,20,(-1),(-1)]))])) 0),(.agg (.gen [(.int .i64 2),(.int .i64 30),(.int .i64 300)]))],(.bool true),none⟩
theorem ZzB:Zat Tryz.prog aw90.f aw90.args aw90.r aw90.fr:=Zaf (n:=100000) (l:=[aw88,aw89]) follows Zah ⟨Zze,⟨Zxd,trivial⟩⟩ (by kernel_rfl)
def aw91:Fact:=⟨122,[(.eptr (.agg (.gen [(.list (.big .str [(.str [115,97,102,101]),(.str [99,114,117,105,115,101]),(.str [98,117,114,110])])),(.list (.big (.agg [.str,(.int .i64)]) [(.agg (.gen [(.str [119,97,107,101]),(.int .i64 1)])),(.agg (.gen [(.str [102,105,114,101]),(.int .i64 2)])),(.agg (.gen [(.str [115,116,111,112]),(.int .i64 1)])),(.agg (.gen [(.str [112,105,110,103]),(.int .i64 (-1))]))])),(.list (.big (.agg [.str,(.int .i64),(.int .i64),(.int .i64),(.int .i64)]) [(.agg (.gen [(.str [99,111,108,100]),(.int .i64 1),(.int .i64 0),(.int .i64 (-1)),(.int .i64 1)])),(.agg (.gen [(.str [104,101,97,116]),(.int .i64 1),(.int .i64 (-1)),(.int .i64 2),(.int .i64 50)]))])),(.int .i64 1),(.int .i64 40),(.list (.ints .i64 [0,20,30,(-1)]))])) 0),(.agg (.gen [(.str [104,101,97,116]),(.int .i64 1),(.int .i64 (-1)),(.int .i64 2),(.int .i64 50)])),(.int .i64 1)],(.bool true),none⟩
theorem Zw3:Zat Tryz.prog aw91.f aw91.args aw91.r aw91.fr:=Zaf (n:=100000) (l:=[]) follows Zah trivial (by kernel_rfl)
def aw92:Fact:=⟨82,[(.int .i64 80),(.int .i64 40),(.int .i64 400)],(.bool true),none⟩
theorem Zxj:Zat Tryz.prog aw92.f aw92.args aw92.r aw92.fr:=Zaf (n:=100000) (l:=[]) follows Zah trivial (by kernel_rfl)
def aw93:Fact:=⟨91,[(.eptr (.agg (.gen [(.list (.big .str [(.str [115,97,102,101]),(.str [99,114,117,105,115,101]),(.str [98,117,114,110])])),(.list (.big (.agg [.str,(.int .i64)]) [(.agg (.gen [(.str [119,97,107,101]),(.int .i64 1)])),(.agg (.gen [(.str [102,105,114,101]),(.int .i64 2)])),(.agg (.gen [(.str [115,116,111,112]),(.int .i64 1)])),(.agg (.gen [(.str [112,105,110,103]),(.int .i64 (-1))]))])),(.list (.big (.agg [.str,(.int .i64),(.int .i64),(.int .i64),(.int .i64)]) [(.agg (.gen [(.str [99,111,108,100]),(.int .i64 1),(.int .i64 0),(.int .i64 (-1)),(.int .i64 1)])),(.agg (.gen [(.str [104,101,97,116]),(.int .i64 1),(.int .i64 (-1)),(.int .i64 2),(.int .i64 50)]))])),(.int .i64 1),(.int .i64 80),(.list (.ints .i64 [0,20,30,(-1)]))])) 0),(.int .i64 1)],(.val (.pointer none)),none⟩
theorem Zxo:Zat Tryz.prog aw93.f aw93.args aw93.r aw93.fr:=Zaf (n:=100000) (l:=[]) follows Zah trivial (by kernel_rfl)
def aw94:Fact:=⟨123,[(.eptr (.agg (.gen [(.list (.big .str [(.str [115,97,102,101]),(.str [99,114,117,105,115,101]),(.str [98,117,114,110])])),(.list (.big (.agg [.str,(.int .i64)]) [(.agg (.gen [(.str [119,97,107,101]),(.int .i64 1)])),(.agg (.gen [(.str [102,105,114,101]),(.int .i64 2)])),(.agg (.gen [(.str [115,116,111,112]),(.int .i64 1)])),(.agg (.gen [(.str [112,105,110,103]),(.int .i64 (-1))]))])),(.list (.big (.agg [.str,(.int .i64),(.int .i64),(.int .i64),(.int .i64)]) [(.agg (.gen [(.str [99,111,108,100]),(.int .i64 1),(.int .i64 0),(.int .i64 (-1)),(.int .i64 1)])),(.agg (.gen [(.str [104,101,97,116]),(.int .i64 1),(.int .i64 (-1)),(.int .i64 2),(.int .i64 50)]))])),(.int .i64 1),(.int .i64 80),(.list (.ints .i64 [0,20,30,(-1)]))])) 0),(.agg (.gen [(.int .i64 1),(.int .i64 40),(.int .i64 400)]))],(.bool true),none⟩
theorem Zzs:Zat Tryz.prog aw94.f aw94.args aw94.r aw94.fr:=Zaf (n:=100000) (l:=[aw92,aw93]) follows Zah ⟨Zxj,⟨Zxo,trivial⟩⟩ (by kernel_rfl)
def aw95:Fact:=⟨24,[(.agg (.gen [(.list (.big .str [(.str [115,97,102,101]),(.str [99,114,117,105,115,101]),(.str [98,117,114,110])])),(.list (.big (.agg [.str,(.int .i64)]) [(.agg (.gen [(.str [119,97,107,101]),(.int .i64 1)])),(.agg (.gen [(.str [102,105,114,101]),(.int .i64 2)])),(.agg (.gen [(.str [115,116,111,112]),(.int .i64 1)])),(.agg (.gen [(.str [112,105,110,103]),(.int .i64 (-1))]))])),(.list (.big (.agg [.str,(.int .i64),(.int .i64),(.int .i64),(.int .i64)]) [(.agg (.gen [(.str [99,111,108,100]),(.int .i64 1),(.int .i64 0),(.int .i64 (-1)),(.int .i64 1)])),(.agg (.gen [(.str [104,101,97,116]),(.int .i64 1),(.int .i64 (-1)),(.int .i64 2),(.int .i64 50)]))]))])),(.list (.big (.agg [(.int .i64),(.int .i64),(.int .i64)]) [(.agg (.gen [(.int .i64 0),(.int .i64 0),(.int .i64 100)])),(.agg (.gen [(.int .i64 1),(.int .i64 20),(.int .i64 200)])),(.agg (.gen [(.int .i64 2),(.int .i64 30),(.int .i64 300)])),(.agg (.gen [(.int .i64 1),(.int .i64 40),(.int .i64 400)]))]))],(.tup [(.row 0 0),(.int .i64 0)]),(some ⟨3,1,(.ints .i64 [0,20,30,80])⟩)⟩
theorem ZyP:Zat Tryz.prog aw95.f aw95.args aw95.r aw95.fr:=Zaf (n:=100000) (l:=[aw75,aw78,aw79,aw82,aw83,aw86,aw87,aw90,aw91,aw94]) follows Zah ⟨Zre,⟨ZnJ,⟨ZxF,⟨Znv,⟨Zww,⟨ZzV,⟨Zy3,⟨ZzB,⟨Zw3,⟨Zzs,trivial⟩⟩⟩⟩⟩⟩⟩⟩⟩⟩ (by kernel_rfl)
def aw96:Fact:=⟨87,[(.int .i64 (-1)),(.eptr (.agg (.gen [(.int .i64 0),(.int .i64 0),(.list (.ints .i64 [(-1),(-1),(-1),(-1)]))])) 0)],(.bool false),none⟩
theorem ZzJ:Zat Tryz.prog aw96.f aw96.args aw96.r aw96.fr:=Zaf (n:=100000) (l:=[]) follows Zah trivial (by kernel_rfl)
def aw97:Fact:=⟨137,[(.list (.ints .i64 [(-1),(-1),(-1),(-1)])),(.fn 87 [(.eptr (.agg (.gen [(.int .i64 0),(.int .i64 0),(.list (.ints .i64 [(-1),(-1),(-1),(-1)]))])) 0)])],(.int .i64 (-1)),none⟩
theorem ZxI:Zat Tryz.prog aw97.f aw97.args aw97.r aw97.fr:=Zaf (n:=100000) (l:=[aw96]) follows Zah ⟨ZzJ,trivial⟩ (by kernel_rfl)
def aw98:Fact:=⟨90,[(.list (.ints .i64 [(-1),(-1),(-1),(-1)])),(.fn 87 [(.eptr (.agg (.gen [(.int .i64 0),(.int .i64 0),(.list (.ints .i64 [(-1),(-1),(-1),(-1)]))])) 0)])],(.bool false),none⟩
theorem ZxD:Zat Tryz.prog aw98.f aw98.args aw98.r aw98.fr:=Zaf (n:=100000) (l:=[aw97]) follows Zah ⟨ZxI,trivial⟩ (by kernel_rfl)
def aw99:Fact:=⟨67,[(.list (.ints .i64 [0,0,0,0,0,0]))],(.int .i64 0),none⟩
theorem ZwW:Zat Tryz.prog aw99.f aw99.args aw99.r aw99.fr:=Zaf (n:=100000) (l:=[]) follows Zah trivial (by kernel_rfl)
def aw100:Fact:=⟨42,[(.agg (.gen [(.list (.big .str [(.str [115,97,102,101]),(.str [99,114,117,105,115,101]),(.str [98,117,114,110])])),(.list (.big (.agg [.str,(.int .i64)]) [(.agg (.gen [(.str [119,97,107,101]),(.int .i64 1)])),(.agg (.gen [(.str [102,105,114,101]),(.int .i64 2)])),(.agg (.gen [(.str [115,116,111,112]),(.int .i64 1)])),(.agg (.gen [(.str [112,105,110,103]),(.int .i64 (-1))]))])),(.list (.big (.agg [.str,(.int .i64),(.int .i64),(.int .i64),(.int .i64)]) [(.agg (.gen [(.str [99,111,108,100]),(.int .i64 1),(.int .i64 0),(.int .i64 (-1)),(.int .i64 1)])),(.agg (.gen [(.str [104,101,97,116]),(.int .i64 1),(.int .i64 (-1)),(.int .i64 2),(.int .i64 50)]))]))])),(.agg (.gen [(.int .i64 0),(.int .i64 0),(.list (.ints .i64 [(-1),(-1),(-1),(-1)]))])),(.int .i64 1)],(.tup [(.str [99,111,108,100]),(.int .i64 0)]),none⟩
theorem Zul:Zat Tryz.prog aw100.f aw100.args aw100.r aw100.fr:=Zaf (n:=100000) (l:=[aw51,aw37,aw20,aw55,aw41,aw1,aw98,aw36,aw53,aw99]) follows Zah ⟨ZrE,⟨Zs0,⟨Zds,⟨Zsp,⟨Zca,⟨Zrw,⟨ZxD,⟨Zi9,⟨Ziz,⟨ZwW,trivial⟩⟩⟩⟩⟩⟩⟩⟩⟩⟩ (by kernel_rfl)
def aw101:Fact:=⟨82,[(.int .i64 2),(.int .i64 1),(.int .i64 6)],(.bool true),none⟩
theorem ZtS:Zat Tryz.prog aw101.f aw101.args aw101.r aw101.fr:=Zaf (n:=100000) (l:=[]) follows Zah trivial (by kernel_rfl)
def aw102:Fact:=⟨36,[(.agg (.gen [(.list (.big .str [(.str [115,97,102,101]),(.str [99,114,117,105,115,101]),(.str [98,117,114,110])])),(.list (.big (.agg [.str,(.int .i64)]) [(.agg (.gen [(.str [119,97,107,101]),(.int .i64 1)])),(.agg (.gen [(.str [102,105,114,101]),(.int .i64 2)])),(.agg (.gen [(.str [115,116,111,112]),(.int .i64 1)])),(.agg (.gen [(.str [112,105,110,103]),(.int .i64 (-1))]))])),(.list (.big (.agg [.str,(.int .i64),(.int .i64),(.int .i64),(.int .i64)]) [(.agg (.gen [(.str [99,111,108,100]),(.int .i64 1),(.int .i64 0),(.int .i64 (-1)),(.int .i64 1)])),(.agg (.gen [(.str [104,101,97,116]),(.int .i64 1),(.int .i64 (-1)),(.int .i64 2),(.int .i64 50)]))])),(.list (.big (.agg [(.int .i64),(.int .i64),(.int .i64)]) [(.agg (.gen [(.int .i64 0),(.int .i64 0),(.int .i64 100)])),(.agg (.gen [(.int .i64 1),(.int .i64 20),(.int .i64 200)])),(.agg (.gen [(.int .i64 2),(.int .i64 30),(.int .i64 300)])),(.agg (.gen [(.int .i64 1),(.int .i64 40),(.int .i64 400)]))])),(.int .i64 2),(.int .i64 2)]))],(.int .i64 0),none⟩
theorem ZpG:Zat Tryz.prog aw102.f aw102.args aw102.r aw102.fr:=Zaf (n:=100000) (l:=[aw75,aw101,aw41,aw3]) follows Zah ⟨Zre,⟨ZtS,⟨Zca,⟨ZoD,trivial⟩⟩⟩⟩ (by kernel_rfl)
def aw103:Fact:=⟨83,[],(.agg (.gen [(.str [112,97,115,115]),(.int .i64 1),(.int .i64 1000000000000),(.fn 127 []),(.str [115,101,110,100]),(.int .i64 0),(.int .i64 11),(.fn 128 []),(.str [97,114,114,105,118,101]),(.int .i64 0),(.int .i64 5),(.fn 129 []),(.str [104,101,97,114]),(.int .i64 0),(.int .i64 5),(.fn 130 []),(.str [108,111,115,101]),(.int .i64 0),(.int .i64 5),(.fn 131 []),(.str [100,114,111,112]),(.int .i64 0),(.int .i64 5),(.fn 132 []),(.str [114,101,112,101,97,116]),(.int .i64 0),(.int .i64 5),(.fn 133 []),(.str [114,101,115,116,97,114,116]),(.int .i64 0),(.int .i64 0),(.fn 134 []),(.str [114,101,98,111,111,116]),(.int .i64 0),(.int .i64 0),(.fn 135 [])])),none⟩
theorem Zdv:Zat Tryz.prog aw103.f aw103.args aw103.r aw103.fr:=Zaf (n:=100000) (l:=[]) follows Zah trivial (by kernel_rfl)
def aw104:Fact:=⟨82,[(.int .i64 1),(.int .i64 0),(.int .i64 8)],(.bool true),none⟩
theorem Zt1:Zat Tryz.prog aw104.f aw104.args aw104.r aw104.fr:=Zaf (n:=100000) (l:=[]) follows Zah trivial (by kernel_rfl)
def aw105:Fact:=⟨82,[(.int .i64 0),(.int .i64 0),(.int .i64 11)],(.bool true),none⟩
theorem Zts:Zat Tryz.prog aw105.f aw105.args aw105.r aw105.fr:=Zaf (n:=100000) (l:=[]) follows Zah trivial (by kernel_rfl)
def aw106:Fact:=⟨37,[(.agg (.gen [(.int .i64 1),(.int .i64 0)]))],(.int .i64 0),none⟩
theorem ZoQ:Zat Tryz.prog aw106.f aw106.args aw106.r aw106.fr:=Zaf (n:=100000) (l:=[aw103,aw104,aw105,aw41]) follows Zah ⟨Zdv,⟨Zt1,⟨Zts,⟨Zca,trivial⟩⟩⟩⟩ (by kernel_rfl)
def aw107:Fact:=⟨68,[(.bool true),(.int .i64 21)],(.int .i64 0),none⟩
theorem ZoN:Zat Tryz.prog aw107.f aw107.args aw107.r aw107.fr:=Zaf (n:=100000) (l:=[]) follows Zah trivial (by kernel_rfl)
def aw108:Fact:=⟨82,[(.int .i64 0),(.int .i64 0),(.int .i64 1)],(.bool true),none⟩
theorem ZoZ:Zat Tryz.prog aw108.f aw108.args aw108.r aw108.fr:=Zaf (n:=100000) (l:=[]) follows Zah trivial (by kernel_rfl)
def aw109:Fact:=⟨68,[(.bool true),(.int .i64 26)],(.int .i64 0),none⟩
theorem Zpr:Zat Tryz.prog aw109.f aw109.args aw109.r aw109.fr:=Zaf (n:=100000) (l:=[]) follows Zah trivial (by kernel_rfl)
def aw110:Fact:=⟨68,[(.bool true),(.int .i64 16)],(.int .i64 0),none⟩
theorem Zo9:Zat Tryz.prog aw110.f aw110.args aw110.r aw110.fr:=Zaf (n:=100000) (l:=[]) follows Zah trivial (by kernel_rfl)
def aw111:Fact:=⟨67,[(.list (.ints .i64 [0,0,0,0]))],(.int .i64 0),none⟩
theorem Zpi:Zat Tryz.prog aw111.f aw111.args aw111.r aw111.fr:=Zaf (n:=100000) (l:=[]) follows Zah trivial (by kernel_rfl)
def aw112:Fact:=⟨82,[(.int .i64 2),(.int .i64 0),(.int .i64 8)],(.bool true),none⟩
theorem Ztw:Zat Tryz.prog aw112.f aw112.args aw112.r aw112.fr:=Zaf (n:=100000) (l:=[]) follows Zah trivial (by kernel_rfl)
def aw113:Fact:=⟨82,[(.int .i64 0),(.int .i64 0),(.int .i64 5)],(.bool true),none⟩
theorem ZlK:Zat Tryz.prog aw113.f aw113.args aw113.r aw113.fr:=Zaf (n:=100000) (l:=[]) follows Zah trivial (by kernel_rfl)
def aw114:Fact:=⟨37,[(.agg (.gen [(.int .i64 2),(.int .i64 0)]))],(.int .i64 0),none⟩
theorem Zpf:Zat Tryz.prog aw114.f aw114.args aw114.r aw114.fr:=Zaf (n:=100000) (l:=[aw103,aw112,aw113,aw41]) follows Zah ⟨Zdv,⟨Ztw,⟨ZlK,⟨Zca,trivial⟩⟩⟩⟩ (by kernel_rfl)
def aw115:Fact:=⟨82,[(.int .i64 5),(.int .i64 0),(.int .i64 8)],(.bool true),none⟩
theorem ZtH:Zat Tryz.prog aw115.f aw115.args aw115.r aw115.fr:=Zaf (n:=100000) (l:=[]) follows Zah trivial (by kernel_rfl)
def aw116:Fact:=⟨37,[(.agg (.gen [(.int .i64 5),(.int .i64 0)]))],(.int .i64 0),none⟩
theorem Zox:Zat Tryz.prog aw116.f aw116.args aw116.r aw116.fr:=Zaf (n:=100000) (l:=[aw103,aw115,aw113,aw41]) follows Zah ⟨Zdv,⟨ZtH,⟨ZlK,⟨Zca,trivial⟩⟩⟩⟩ (by kernel_rfl)
def aw117:Fact:=⟨82,[(.int .i64 3),(.int .i64 0),(.int .i64 8)],(.bool true),none⟩
theorem ZtB:Zat Tryz.prog aw117.f aw117.args aw117.r aw117.fr:=Zaf (n:=100000) (l:=[]) follows Zah trivial (by kernel_rfl)
def aw118:Fact:=⟨37,[(.agg (.gen [(.int .i64 3),(.int .i64 0)]))],(.int .i64 0),none⟩
theorem ZoT:Zat Tryz.prog aw118.f aw118.args aw118.r aw118.fr:=Zaf (n:=100000) (l:=[aw103,aw117,aw113,aw41]) follows Zah ⟨Zdv,⟨ZtB,⟨ZlK,⟨Zca,trivial⟩⟩⟩⟩ (by kernel_rfl)
def aw119:Fact:=⟨15,[(.agg (.gen [(.list (.big .str [(.str [115,97,102,101]),(.str [99,114,117,105,115,101]),(.str [98,117,114,110])])),(.list (.big (.agg [.str,(.int .i64)]) [(.agg (.gen [(.str [119,97,107,101]),(.int .i64 1)])),(.agg (.gen [(.str [102,105,114,101]),(.int .i64 2)])),(.agg (.gen [(.str [115,116,111,112]),(.int .i64 1)])),(.agg (.gen [(.str [112,105,110,103]),(.int .i64 (-1))]))])),(.list (.big (.agg [.str,(.int .i64),(.int .i64),(.int .i64),(.int .i64)]) [(.agg (.gen [(.str [99,111,108,100]),(.int .i64 1),(.int .i64 0),(.int .i64 (-1)),(.int .i64 1)])),(.agg (.gen [(.str [104,101,97,116]),(.int .i64 1),(.int .i64 (-1)),(.int .i64 2),(.int .i64 50)]))])),(.list (.big (.agg [(.int .i64),(.int .i64),(.int .i64)]) [(.agg (.gen [(.int .i64 0),(.int .i64 0),(.int .i64 100)])),(.agg (.gen [(.int .i64 1),(.int .i64 20),(.int .i64 200)])),(.agg (.gen [(.int .i64 2),(.int .i64 30),(.int .i64 300)])),(.agg (.gen [(.int .i64 1),(.int .i64 40),(.int .i64 400)]))])),(.int .i64 2),(.int .i64 2)])),(.list (.big (.agg [(.int .i64),(.int .i64)]) [(.agg (.gen [(.int .i64 1),(.int .i64 0)])),(.agg (.gen [(.int .i64 2),(.int .i64 0)])),(.agg (.gen [(.int .i64 5),(.int .i64 0)])),(.agg (.gen [(.int .i64 1),(.int .i64 0)])),(.agg (.gen [(.int .i64 2),(.int .i64 0)])),(.agg (.gen [(.int .i64 3),(.int .i64 0)]))]))],(.tup [(.agg (.gen [(.int .i64 0),(.int .i64 1),(.list (.big (.agg [(.int .i64),(.int .i64)]) [(.agg (.gen [(.int .i64 0),(.int .i64 0)]))])),(.bool false),(.int .i64 1),(.bool false),(.list (.ints .i64 [])),(.list (.big (.agg [(.int .i64), .bool]) []))])),(.int .i64 0),(.int .i64 0)]),none⟩
theorem ZtX:Zat Tryz.prog aw119.f aw119.args aw119.r aw119.fr:=Zph (n:=100000) (d:=3) (l:=[aw102,aw2,aw3,aw78,aw106,aw103,aw20,aw107,aw108,aw109,aw110,aw111,aw114,aw82,aw116,aw118]) follows Zah ⟨ZpG,⟨ZpI,⟨ZoD,⟨ZnJ,⟨ZoQ,⟨Zdv,⟨Zds,⟨ZoN,⟨ZoZ,⟨Zpr,⟨Zo9,⟨Zpi,⟨Zpf,⟨Znv,⟨Zox,⟨ZoT,trivial⟩⟩⟩⟩⟩⟩⟩⟩⟩⟩⟩⟩⟩⟩⟩⟩ (by kernel_rfl)
def aw120:Fact:=⟨29,[(.list (.ints .i64 [0,20,30,80])),(.list (.ints .i64 [0,20,30,80]))],(.bool true),none⟩
theorem ZtD:Zat Tryz.prog aw120.f aw120.args aw120.r aw120.fr:=Zaf (n:=100000) (l:=[]) follows Zah trivial (by kernel_rfl)
def aw121:Fact:=⟨22,[(.list (.big (.agg [(.int .i64),(.int .i64)]) [(.agg (.gen [(.int .i64 0),(.int .i64 0)]))])),(.list (.big (.agg [(.int .i64),(.int .i64)]) [(.agg (.gen [(.int .i64 0),(.int .i64 0)]))]))],(.bool true),none⟩
theorem ZuP:Zat Tryz.prog aw121.f aw121.args aw121.r aw121.fr:=Zaf (n:=100000) (l:=[]) follows Zah trivial (by kernel_rfl)
def aw122:Fact:=⟨82,[(.int .i64 0),(.int .i64 0),(.int .i64 8)],(.bool true),none⟩
theorem Zue:Zat Tryz.prog aw122.f aw122.args aw122.r aw122.fr:=Zaf (n:=100000) (l:=[]) follows Zah trivial (by kernel_rfl)
def aw123:Fact:=⟨198,[(.int .i64 20)],(.str [50,48]),none⟩
theorem Ztn:Zat Tryz.prog aw123.f aw123.args aw123.r aw123.fr:=Zaf (n:=100000) (l:=[]) follows Zah trivial (by kernel_rfl)
def aw124:Fact:=⟨183,[(.int .i64 20),(.int .i64 10)],(.str [50,48]),none⟩
theorem Zuf:Zat Tryz.prog aw124.f aw124.args aw124.r aw124.fr:=Zaf (n:=100000) (l:=[aw123]) follows Zah ⟨Ztn,trivial⟩ (by kernel_rfl)
def aw125:Fact:=⟨166,[(.int .i64 20)],(.str [50,48]),none⟩
theorem ZuB:Zat Tryz.prog aw125.f aw125.args aw125.r aw125.fr:=Zaf (n:=100000) (l:=[aw124]) follows Zah ⟨Zuf,trivial⟩ (by kernel_rfl)
def aw126:Fact:=⟨138,[(.int .i64 20)],(.str [50,48]),none⟩
theorem ZtN:Zat Tryz.prog aw126.f aw126.args aw126.r aw126.fr:=Zaf (n:=100000) (l:=[aw125]) follows Zah ⟨ZuB,trivial⟩ (by kernel_rfl)
def aw127:Fact:=⟨113,[(.list (.big .str [(.str [50,48])])),(.str [32])],(.str [50,48]),none⟩
theorem Zui:Zat Tryz.prog aw127.f aw127.args aw127.r aw127.fr:=Zaf (n:=100000) (l:=[]) follows Zah trivial (by kernel_rfl)
def aw128:Fact:=⟨105,[(.list (.ints .i64 [20]))],(.str [50,48]),none⟩
theorem ZuS:Zat Tryz.prog aw128.f aw128.args aw128.r aw128.fr:=Zaf (n:=100000) (l:=[aw126,aw127]) follows Zah ⟨ZtN,⟨Zui,trivial⟩⟩ (by kernel_rfl)
def aw129:Fact:=⟨53,[(.agg (.gen [(.int .i64 0),(.int .i64 20)]))],(.str [112,97,115,115,32,50,48]),none⟩
theorem Ztp:Zat Tryz.prog aw129.f aw129.args aw129.r aw129.fr:=Zaf (n:=100000) (l:=[aw103,aw122,aw128]) follows Zah ⟨Zdv,⟨Zue,⟨ZuS,trivial⟩⟩⟩ (by kernel_rfl)
def aw130:Fact:=⟨13,[],(.bool true),none⟩
theorem ZtY:Zat Tryz.prog aw130.f aw130.args aw130.r aw130.fr:=Zph (n:=100000) (d:=3) (l:=[aw0,aw95,aw100,aw119,aw102,aw2,aw3,aw78,aw106,aw103,aw20,aw107,aw108,aw109,aw110,aw111,aw114,aw82,aw116,aw118,aw120,aw121,aw129]) follows Zah ⟨ZC9,⟨ZyP,⟨Zul,⟨ZtX,⟨ZpG,⟨ZpI,⟨ZoD,⟨ZnJ,⟨ZoQ,⟨Zdv,⟨Zds,⟨ZoN,⟨ZoZ,⟨Zpr,⟨Zo9,⟨Zpi,⟨Zpf,⟨Znv,⟨Zox,⟨ZoT,⟨ZtD,⟨ZuP,⟨Ztp,trivial⟩⟩⟩⟩⟩⟩⟩⟩⟩⟩⟩⟩⟩⟩⟩⟩⟩⟩⟩⟩⟩⟩⟩ (by kernel_rfl)
theorem awake_ok:Zat Tryz.prog aw130.f aw130.args aw130.r aw130.fr:=ZtY
end Go.Proofs.YtkeoeooghhjibaaGreatDoor
/- Contracts as a list. No condition. -/
namespace Go.Proofs.YtkeoeooghhjibaaGreatDoor
theorem Zpk(ms ks rs:List AV)(h:ZaI ms ks rs=true):Zat Tryz.prog 65 [.agg (.gen [.list (.big .str ms), .list (.big (.agg [.str, .int .i64]) ks), .list (.big (.agg [.str, .int .i64, .int .i64, .int .i64, .int .i64]) rs)])] (.int .i64 (Zaj ms ks rs)) none:=
 start (Zyb ms ks rs) fun C hC=>tgo hC ZDT ZGD (by simp[ZDt,h])
def pI:AV→Int
 | .tup [.int _ i,_]=>i
 |_=>0
def pE:AV→Int
 | .tup [_, .int _ e]=>e
 |_=>0
def isP(v:AV):Prop:=∃i e,v=ZBt i e
theorem isP.eq{v:AV}(h:isP v):v=ZBt (pI v) (pE v):=by
 obtain⟨i,e,rfl⟩:=h
 rfl
def k65:Ctr:=⟨65,0,fun _ a=>match a with |[.agg (.gen [.list (.big .str ms), .list (.big (.agg [.str, .int .i64]) ks), .list (.big (.agg [.str, .int .i64, .int .i64, .int .i64, .int .i64]) rs)])]=>some (decide (ZaI ms ks rs=true), .int .i64 (Zaj ms ks rs),none) |_=>none⟩
theorem ZEB:k65.OK Tryz.prog:=fun pa args r fr h=>by
 simp only[k65]at h
 split at h
 ·simp only[Option.some.injEq,Prod.mk.injEq,decide_eq_true_eq]at h
  obtain⟨h0,rfl,rfl⟩:=h
  exact Zpk _ _ _ h0
 ·cases h
def k13:Ctr:=⟨13,0,fun _ a=>match a with |[]=>some (true, .bool true,none) |_=>none⟩
theorem ZAC:k13.OK Tryz.prog:=fun pa args r fr h=>by
 simp only[k13]at h
 split at h
 ·cases h
  exact awake_ok
 ·cases h
def B8:List Ctr:=[k65,k13]++B7
theorem ZFq:Zaw Tryz.prog B8:=⟨ZEB,⟨ZAC,ZDT⟩⟩
end Go.Proofs.YtkeoeooghhjibaaGreatDoor
/- Contracts as a list. No condition. -/
namespace Go.Proofs.YtkeoeooghhjibaaGreatDoor
def Zcg(e:AV→AV→Bool):List AV→List AV→Bool
 |[],[]=>true
 |x::xs,y::ys=>e x y&&Zcg e xs ys
 |_,_=>false
theorem ZmM{e:AV→AV→Bool} :∀ {xs ys:List AV},Zcg e xs ys=true→xs.length=ys.length
 |[],[],_=>rfl
 |x::xs,y::ys,h=>by
  simp only[Zcg,Bool.and_eq_true]at h
  simp[ZmM h.2]
 |[],y::ys,h=>by cases h
 |x::xs,[],h=>by cases h
theorem ZjU{xs:List AV}{k:Nat}(h:k<xs.length):xs.drop k=xs.getD k .top::xs.drop (k+1):=by
 rw[List.drop_eq_getElem_cons h,List.getD_eq_getElem?_getD,List.getElem?_eq_getElem h];rfl
theorem ZlE{e:AV→AV→Bool}{xs ys:List AV}(h:xs.length≠ys.length):Zcg e xs ys=false:=by
 cases hb:Zcg e xs ys
 ·rfl
 ·exact absurd (ZmM hb) h
def B9:List Ctr:=B8
theorem ZHa:Zaw Tryz.prog B9:=ZFq
end Go.Proofs.YtkeoeooghhjibaaGreatDoor
/- A copy, owned or a value, as the path says; a row of one value. No condition. -/
namespace Go.Proofs.YtkeoeooghhjibaaGreatDoor
def Ba:List Ctr:=B9
theorem ZGP:Zaw Tryz.prog Ba:=ZHa
end Go.Proofs.YtkeoeooghhjibaaGreatDoor
/- Contracts as a list. No condition. -/
namespace Go.Proofs.YtkeoeooghhjibaaGreatDoor
def Bb:List Ctr:=Ba
theorem ZFY:Zaw Tryz.prog Bb:=ZGP
end Go.Proofs.YtkeoeooghhjibaaGreatDoor
/- Contracts as a list. No condition. -/
namespace Go.Proofs.YtkeoeooghhjibaaGreatDoor
def Bc0:List Ctr:=Bb
theorem ZDp:Zaw Tryz.prog Bc0:=ZFY
def Bc:List Ctr:=[]++Bc0
theorem ZHc:Zaw Tryz.prog Bc:=ZDp
end Go.Proofs.YtkeoeooghhjibaaGreatDoor
/- Contracts as a list. No condition. -/
namespace Go.Proofs.YtkeoeooghhjibaaGreatDoor
def Bd:List Ctr:=Bc
theorem ZGV:Zaw Tryz.prog Bd:=ZHc
end Go.Proofs.YtkeoeooghhjibaaGreatDoor
/- Contracts as a list. No condition. -/
namespace Go.Proofs.YtkeoeooghhjibaaGreatDoor
structure OkF (ms ks rs l:List AV):Prop where
 model:Zaj ms ks rs=0
 ks1:1≤ks.length∧ks.length≤8
 rs1:rs.length≤10
 l1:0<l.length∧l.length≤12
 act:∀i<l.length,(0≤ZaR l i 0∧ZaR l i 0<ks.length)∧(0≤ZaR l i 1∧ZaR l i 1≤1000000000000)∧(0≤ZaR l i 2∧ZaR l i 2≤1000000000000)∧ZaR l i 1≤ZaR l i 2
 rule:∀i<rs.length,(0≤ZaR rs i 1∧ZaR rs i 1<ks.length)∧(-1≤ZaR rs i 3∧ZaR rs i 3<ks.length)∧(1≤ZaR rs i 4∧ZaR rs i 4≤1000000)
 name:∀i<rs.length,ZaS (Zax rs i)=true
def Be:List Ctr:=Bd
theorem ZGz:Zaw Tryz.prog Be:=ZGV
end Go.Proofs.YtkeoeooghhjibaaGreatDoor
/- Contracts as a list. No condition. -/
namespace Go.Proofs.YtkeoeooghhjibaaGreatDoor
structure OkT (ks:List AV) (t:Int) (xs:List Int):Prop where
 len:xs.length=ks.length
 all:∀x∈xs, -1≤x∧x≤t
 lo:0≤t
 hi:t≤1000000000000
theorem OkT.at{ks:List AV}{t:Int}{xs:List Int}(h:OkT ks t xs){k:Nat}(hk:k<xs.length): -1≤xs.getD k 0∧xs.getD k 0≤t:=by
 refine h.all _ ?_
 rw[List.getD_eq_getElem?_getD,List.getElem?_eq_getElem hk];exact List.getElem_mem hk
theorem OkT.set{ks:List AV}{t t':Int}{xs:List Int}(h:OkT ks t xs)(h1:t≤t')(h2:t'≤1000000000000)(k:Nat):OkT ks t' (xs.set k t'):=by
 refine⟨by simpa using h.len,fun x hx=>?_,by have:=h.lo;omega,h2⟩
 rcases List.mem_or_eq_of_mem_set hx with hx |rfl
 ·have:=h.all x hx;omega
 ·have:=h.lo;omega
theorem OkT.forb{ms ks rs l:List AV}(hf:OkF ms ks rs l){t t':Int}{xs:List Int}(h:OkT ks t xs)(h1:t≤t')(h2:t'≤1000000000000):ZqE rs t' xs=true:=by
 simp only[ZqE,Bool.and_eq_true,List.all_eq_true,decide_eq_true_eq,List.mem_range]
 refine⟨⟨fun i hi=>?_,fun x hx=>?_⟩,by have:=h.lo;omega,h2,by have:=hf.rs1;omega⟩
 ·have:=(hf.rule i hi).2.1;have:=h.len;omega
 ·have:=h.all x hx;omega
section
variable {C:Ctx}(hC:C.P=Tryz.prog)(ms ks rs l:List AV)(hf:OkF ms ks rs l)
include hC hf
end
theorem ZLz{ms ks rs l:List AV}(_:OkF ms ks rs l):OkT ks 0 (List.replicate ks.length (-1)):=⟨by simp,fun x hx=>by rw[List.eq_of_mem_replicate hx];omega,by omega,by omega⟩
def Bf:List Ctr:=Be
theorem ZF6:Zaw Tryz.prog Bf:=ZGz
end Go.Proofs.YtkeoeooghhjibaaGreatDoor
