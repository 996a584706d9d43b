/- CheckModel of the reference. No condition. -/
import Derived.Test.YtkeoeooghhjibaaGreatDoorPj
import Derived.KernelRfl
namespace Go.Proofs.YtkeoeooghhjibaaGreatDoor
theorem ZwL{nm:List UInt8}{ex:Int}{xs:List AV}(h:ZaT nm=false):ZcG nm ex xs=4:=by simp[ZcG,Zaf,Zaa,h]
theorem ZtZ{nm:List UInt8}{ex:Int}{xs:List AV}(h:ZaT nm=true)(h2:Zhv xs nm=true):ZcG nm ex xs=5:=by
 have h3:std.hasS xs nm=true:=h2
 simp[-Zdi,ZcG,Zaf,Zaa,h,h3]
theorem Zvb{nm:List UInt8}{ex:Int}{xs:List AV}(h:ZaT nm=true)(h2:Zhv xs nm=false):ZcG nm ex xs=ex:=by
 have h3:std.hasS xs nm=false:=h2
 by_cases h4:ex=0<;>simp[-Zdi,ZcG,Zaf,Zaa,h,h3,h4]
theorem Zfk{n m:Int}(hm:0≤m):ZhA n m=Zab n (-1) (m-1):=by
 unfold ZhA Zab
 by_cases h:n= -1
 ·rw[if_pos h,decide_eq_true (by omega)]
 ·rw[if_neg h]
  by_cases h2:0≤n∧n≤m-1
  ·rw[decide_eq_true h2,decide_eq_true (by omega)]
  ·rw[decide_eq_false h2,decide_eq_false (by omega)]
theorem Zfs(nm:Nat→List UInt8)(ex:Nat→Int)(m k:Nat)(xs:List AV)(p:Int)(d:AV):ZbD p (Zbj nm ex (m+1) k xs) d=if ZcG (nm k) (ex k) xs=0 then ZbD p (Zbj nm ex m (k+1) (xs++[.str (nm k)])) d else Zbk p k (ZcG (nm k) (ex k) xs):=by
 rw[Zbj];split<;>rfl
theorem ZeH(nm:List UInt8)(ex:Int)(xs:List AV):ZcG nm ex xs=if ZaT nm=true then(if Zhv xs nm=true then 5 else ex)else 4:=by
 by_cases h:ZaT nm=true
 ·by_cases h2:Zhv xs nm=true
  ·rw[if_pos h,if_pos h2,ZtZ h h2]
  ·rw[if_pos h,if_neg h2,Zvb h (by simpa using h2)]
 ·rw[if_neg h,ZwL (by simpa using h)]
theorem Zjx(rs:List AV)(k n m:Nat):ZbQ rs k n m=if Zab (Zaj rs k 1) 0 ((n:Int)-1)=true∧Zab (Zaj rs k 2) (-1) ((m:Int)-1)=true∧Zab (Zaj rs k 3) (-1) ((n:Int)-1)=true then(if Zab (Zaj rs k 4) 1 1000000=true then(if Zaj rs k 3= -1∧¬Zaj rs k 4=1 then 3 else 0)else 2)else 6:=by
 rw[ZbQ,Zfk (by omega),Zfk (by omega)]
 by_cases h1:Zab (Zaj rs k 1) 0 ((n:Int)-1)=true<;>by_cases h2:Zab (Zaj rs k 2) (-1) ((m:Int)-1)=true<;>by_cases h3:Zab (Zaj rs k 3) (-1) ((n:Int)-1)=true<;>by_cases h4:Zab (Zaj rs k 4) 1 1000000=true<;>by_cases h5:Zaj rs k 3= -1<;>by_cases h6:Zaj rs k 4=1<;>simp_all[Zaf,Zaa]
theorem Zsd{xs ys:List AV}(h:xs.map AV.toS=ys.map AV.toS){s:List UInt8} :Zhv xs s=Zhv ys s:=by
 have e:∀l:List AV,Zhv l s=(l.map AV.toS).any (· ==s):=fun l=>by simp[Zhv,List.any_map,Function.comp_def]
 rw[e,e,h]
theorem Zm2(ks:List AV)(k m:Nat):ZcO ks k m=if Zab (Zaj ks k 1) (-1) ((m:Int)-1)=true then 0 else 6:=by
 rw[ZcO,Zfk (by omega)];split<;>simp_all[Zaa]
section
variable {C:Ctx}(hC:C.P=Tryz.prog)(ms ks rs:List AV)(hs:Zax ms ks rs=true)
include hC hs
theorem ZzU:∀(m k:Nat) (xs:List AV),k+m=rs.length→xs.length≤k→Ev C (Zeg ms ks rs k xs) (ZdN ms ks rs k xs)
 (Zcq 119 (ZbD 3 (Zbj (fun k=>Zay rs k) (fun k=>ZbQ rs k ks.length ms.length) m k xs) (Zbk 0 0 0)) none)
 |0,k,xs,hk,hx=>tgo hC Zf8 ZfX (by simp[ZdA,show ¬(k:Int)<rs.length by omega];rfl)
 |m+1,k,xs,hk,hx=>by
  have hs':=hs
  simp only[Zax,Bool.and_eq_true,decide_eq_true_eq]at hs'
  have hn:=Zb7 hs'.1.2 (show k<rs.length by omega)
  have hlt:(k:Int)<rs.length:=by omega
  have hlt2:k<rs.length:=by omega
  have e0:((rs.getD k .top).cellAt 0).toS=Zay rs k:=rfl
  have e1:((rs.getD k .top).cellAt 1).toI=Zaj rs k 1:=rfl
  have e2:((rs.getD k .top).cellAt 2).toI=Zaj rs k 2:=rfl
  have e3:((rs.getD k .top).cellAt 3).toI=Zaj rs k 3:=rfl
  have e4:((rs.getD k .top).cellAt 4).toI=Zaj rs k 4:=rfl
  have ih:=ZzU m (k+1) (xs++[.str (Zay rs k)]) (by omega) (by simp;omega)
  obtain⟨V,hV⟩:∃V,V=ZbD 3 (Zbj (fun k=>Zay rs k) (fun k=>ZbQ rs k ks.length ms.length) (m+1) k xs) (Zbk 0 0 0):=⟨_,rfl⟩
  rw[←hV]
  rw[Zfs,ZeH,Zjx]at hV
  refine tgo hC Zf8 ZfX ?_
  simp[-List.getD_eq_getElem?_getD,ZdA,e0,e1,e2,e3,e4,hlt,hlt2,hn,AV.bx,Zad]
  clear e0 e1 e2 e3 e4 hs
  replace hs':=hs'.2
  generalize Zay rs k=nm at*
  generalize Zaj rs k 1=f1 at*
  generalize Zaj rs k 2=f2 at*
  generalize Zaj rs k 3=f3 at*
  generalize Zaj rs k 4=f4 at*
  repeat' (first |split |apply And.intro)
  all_goals first |omega |skip
  all_goals (clear hs';simp_all[Zbk])
theorem Zx7:∀m:Nat,m=rs.length→Ev C (Zc4 ms ks rs) (Zcs ms ks rs)
 (Zcq 119 (ZbD 3 (Zbj (fun k=>Zay rs k) (fun k=>ZbQ rs k ks.length ms.length) m 0 []) (Zbk 0 0 0)) none)
 |0,hk=>tgo hC Zf8 Zf1 (by simp[ZdK,←hk];rfl)
 |m+1,hk=>by
  have hs':=hs
  simp only[Zax,Bool.and_eq_true,decide_eq_true_eq]at hs'
  have hn:=Zb7 hs'.1.2 (show 0<rs.length by omega)
  have hlt:(0:Int)<rs.length:=by omega
  have hlt2:0<rs.length:=by omega
  have e0:((rs.getD 0 .top).cellAt 0).toS=Zay rs 0:=rfl
  have e1:((rs.getD 0 .top).cellAt 1).toI=Zaj rs 0 1:=rfl
  have e2:((rs.getD 0 .top).cellAt 2).toI=Zaj rs 0 2:=rfl
  have e3:((rs.getD 0 .top).cellAt 3).toI=Zaj rs 0 3:=rfl
  have e4:((rs.getD 0 .top).cellAt 4).toI=Zaj rs 0 4:=rfl
  have ih:=ZzU hC ms ks rs hs m 1 [.str (Zay rs 0)] (by omega) (by simp)
  obtain⟨V,hV⟩:∃V,V=ZbD 3 (Zbj (fun k=>Zay rs k) (fun k=>ZbQ rs k ks.length ms.length) (m+1) 0 []) (Zbk 0 0 0):=⟨_,rfl⟩
  rw[←hV]
  rw[Zfs,ZeH,Zjx]at hV
  refine tgo hC Zf8 Zf1 ?_
  simp[-List.getD_eq_getElem?_getD,ZdK,e0,e1,e2,e3,e4,hlt,hlt2,hn,AV.bx,Zad]
  clear e0 e1 e2 e3 e4 hs
  replace hs':=hs'.2
  generalize Zay rs 0=nm at*
  generalize Zaj rs 0 1=f1 at*
  generalize Zaj rs 0 2=f2 at*
  generalize Zaj rs 0 3=f3 at*
  generalize Zaj rs 0 4=f4 at*
  repeat' (first |split |apply And.intro)
  all_goals first |omega |skip
  all_goals (clear hs';simp_all[Zbk,Zhv])
end
def dB(ms ks rs:List AV):AV:=if 10<rs.length then Zbk 3 0 8 else ZpO ms ks rs
theorem ZAL(ms ks rs:List AV):(if Zca (decide (0≤(rs.length:Int))) (decide ((rs.length:Int)≤10))=0 then ZpO ms ks rs else Zbk 3 0 (Zca (decide (0≤(rs.length:Int))) (decide ((rs.length:Int)≤10))))=dB ms ks rs:=by
 unfold dB
 by_cases h:10<rs.length
 ·rw[if_pos h,decide_eq_true (by omega:(0:Int)≤(rs.length:Int)),decide_eq_false (by omega:¬(rs.length:Int)≤10)];rfl
 ·rw[if_neg h,decide_eq_true (by omega:(0:Int)≤(rs.length:Int)),decide_eq_true (by omega:(rs.length:Int)≤10)];rfl
def dA(ms ks rs:List AV):AV:=if ks.length=0 then Zbk 2 0 10 else if 8<ks.length then Zbk 2 0 8 else Znb ms ks rs
theorem ZCa(ms ks rs:List AV):(if Zca (decide (1≤(ks.length:Int))) (decide ((ks.length:Int)≤8))=0 then Znb ms ks rs else Zbk 2 0 (Zca (decide (1≤(ks.length:Int))) (decide ((ks.length:Int)≤8))))=dA ms ks rs:=by
 unfold dA
 by_cases h:ks.length=0
 ·rw[if_pos h,decide_eq_false (by omega:¬(1:Int)≤(ks.length:Int))];rfl
 ·rw[if_neg h,decide_eq_true (by omega:(1:Int)≤(ks.length:Int))]
  by_cases h2:8<ks.length
  ·rw[if_pos h2,decide_eq_false (by omega:¬(ks.length:Int)≤8)];rfl
  ·rw[if_neg h2,decide_eq_true (by omega:(ks.length:Int)≤8)];rfl
theorem ZjI(ms ks rs:List AV):Zeb ms ks rs=if ms.length=0 then Zbk 1 0 10 else if 6<ms.length then Zbk 1 0 8 else Zq4 ms ks rs:=by
 unfold Zeb
 by_cases h:ms.length=0
 ·rw[if_pos h,decide_eq_false (by omega:¬(1:Int)≤(ms.length:Int))];rfl
 ·rw[if_neg h,decide_eq_true (by omega:(1:Int)≤(ms.length:Int))]
  by_cases h2:6<ms.length
  ·rw[if_pos h2,decide_eq_false (by omega:¬(ms.length:Int)≤6)];rfl
  ·rw[if_neg h2,decide_eq_true (by omega:(ms.length:Int)≤6)];rfl
section
variable {C:Ctx}(hC:C.P=Tryz.prog)(ms ks rs:List AV)(hs:Zax ms ks rs=true)
include hC hs
theorem ZBP:Ev C (Zc4 ms ks rs) (Zcs ms ks rs) (Zcq 119 (ZpO ms ks rs) none):=Zx7 hC ms ks rs hs _ rfl
theorem ZzI:∀(m k:Nat) (xs:List AV),k+m=ks.length→xs.length≤k→Ev C (Zel ms ks rs k xs) (ZdG ms ks rs k xs)
 (Zcq 119 (ZbD 2 (Zbj (fun k=>Zay ks k) (fun k=>ZcO ks k ms.length) m k xs) (dB ms ks rs)) none)
 |0,k,xs,hk,hx=>by
  refine tgo hC Zf8 ZfR ?_
  by_cases h:10<rs.length
  ·simp[Zcw,show ¬(k:Int)<ks.length by omega,Zbj,ZbD,dB,h,show(10:Int)<rs.length by omega,Zbk]
  ·simp[Zcw,show ¬(k:Int)<ks.length by omega,Zbj,ZbD,dB,h,show ¬(10:Int)<rs.length by omega]
   exact ZBP hC ms ks rs hs
 |m+1,k,xs,hk,hx=>by
  have hs':=hs
  simp only[Zax,Bool.and_eq_true,decide_eq_true_eq]at hs'
  have hn:=Zb7 hs'.1.1.2 (show k<ks.length by omega)
  have hlt:(k:Int)<ks.length:=by omega
  have hlt2:k<ks.length:=by omega
  have e0:((ks.getD k .top).cellAt 0).toS=Zay ks k:=rfl
  have e1:((ks.getD k .top).cellAt 1).toI=Zaj ks k 1:=rfl
  have ih:=ZzI m (k+1) (xs++[.str (Zay ks k)]) (by omega) (by simp;omega)
  obtain⟨V,hV⟩:∃V,V=ZbD 2 (Zbj (fun k=>Zay ks k) (fun k=>ZcO ks k ms.length) (m+1) k xs) (dB ms ks rs):=⟨_,rfl⟩
  rw[←hV]
  rw[Zfs,ZeH,Zm2]at hV
  refine tgo hC Zf8 ZfR ?_
  simp[-List.getD_eq_getElem?_getD,Zcw,e0,e1,hlt,hlt2,hn,AV.bx,Zad]
  clear e0 e1 hs
  replace hs':=hs'.2
  generalize Zay ks k=nm at*
  generalize Zaj ks k 1=f1 at*
  repeat' (first |split |apply And.intro)
  all_goals first |omega |skip
  all_goals (clear hs';simp_all[Zbk])
theorem ZAU:∀m:Nat,m=ks.length→Ev C (Zc6 ms ks rs) (Zct ms ks rs)
 (Zcq 119 (ZbD 2 (Zbj (fun k=>Zay ks k) (fun k=>ZcO ks k ms.length) m 0 []) (dB ms ks rs)) none)
 |0,hk=>by
  refine tgo hC Zf8 ZfN ?_
  by_cases h:10<rs.length
  ·simp[Zcx,←hk,Zbj,ZbD,dB,h,show(10:Int)<rs.length by omega,Zbk]
  ·simp[Zcx,←hk,Zbj,ZbD,dB,h,show ¬(10:Int)<rs.length by omega]
   exact ZBP hC ms ks rs hs
 |m+1,hk=>by
  have hs':=hs
  simp only[Zax,Bool.and_eq_true,decide_eq_true_eq]at hs'
  have hn:=Zb7 hs'.1.1.2 (show 0<ks.length by omega)
  have hlt:(0:Int)<ks.length:=by omega
  have hlt2:0<ks.length:=by omega
  have e0:((ks.getD 0 .top).cellAt 0).toS=Zay ks 0:=rfl
  have e1:((ks.getD 0 .top).cellAt 1).toI=Zaj ks 0 1:=rfl
  have ih:=ZzI hC ms ks rs hs m 1 [.str (Zay ks 0)] (by omega) (by simp)
  obtain⟨V,hV⟩:∃V,V=ZbD 2 (Zbj (fun k=>Zay ks k) (fun k=>ZcO ks k ms.length) (m+1) 0 []) (dB ms ks rs):=⟨_,rfl⟩
  rw[←hV]
  rw[Zfs,ZeH,Zm2]at hV
  refine tgo hC Zf8 ZfN ?_
  simp[-List.getD_eq_getElem?_getD,Zcx,e0,e1,hlt,hlt2,hn,AV.bx,Zad]
  clear e0 e1 hs
  replace hs':=hs'.2
  generalize Zay ks 0=nm at*
  generalize Zaj ks 0 1=f1 at*
  repeat' (first |split |apply And.intro)
  all_goals first |omega |skip
  all_goals (clear hs';simp_all[Zbk,Zhv])
theorem ZCM:Ev C (Zc6 ms ks rs) (Zct ms ks rs) (Zcq 119 (Znb ms ks rs) none):=by
 have:=ZAU hC ms ks rs hs _ rfl
 rw[←ZAL]at this
 exact this
theorem Zzu:∀(m k:Nat) (xs:List AV),k+m=ms.length→xs.map AV.toS=(ms.take k).map AV.toS→Ev C (Zeq ms ks rs k) (Zdo ms ks rs k)
 (Zcq 119 (ZbD 1 (Zbj (fun k=>Za6 ms k) (fun _=>0) m k xs) (dA ms ks rs)) none)
 |0,k,xs,hk,hx=>by
  refine tgo hC Zf8 ZfZ ?_
  by_cases h0:ks.length=0
  ·simp[ZbU,show ¬(k:Int)<ms.length by omega,Zbj,ZbD,dA,h0,Zbk]
  ·by_cases h:8<ks.length
   ·simp[ZbU,show ¬(k:Int)<ms.length by omega,Zbj,ZbD,dA,h0,h,show(8:Int)<ks.length by omega,Zbk]
   ·simp[ZbU,show ¬(k:Int)<ms.length by omega,Zbj,ZbD,dA,h0,h,show ¬(8:Int)<ks.length by omega]
    exact ZCM hC ms ks rs hs
 |m+1,k,xs,hk,hx=>by
  have hs':=hs
  simp only[Zax,Bool.and_eq_true,decide_eq_true_eq]at hs'
  have hn:=Zie hs'.1.1.1 (show k<ms.length by omega)
  have hlt:(k:Int)<ms.length:=by omega
  have hlt2:k<ms.length:=by omega
  have e0:(ms.getD k .top).toS=Za6 ms k:=rfl
  have ih:=Zzu m (k+1) (xs++[.str (Za6 ms k)]) (by omega) (by
   rw[List.map_append,hx,List.take_succ_eq_append_getElem hlt2,List.map_append]
   congr 1
   simp[Za6,AV.toS,hlt2])
  have hh:Zhv (ms.take k) (Za6 ms k)=Zhv xs (Za6 ms k):=Zsd hx.symm
  obtain⟨V,hV⟩:∃V,V=ZbD 1 (Zbj (fun k=>Za6 ms k) (fun _=>0) (m+1) k xs) (dA ms ks rs):=⟨_,rfl⟩
  rw[←hV]
  rw[Zfs,ZeH]at hV
  refine tgo hC Zf8 ZfZ ?_
  simp[-List.getD_eq_getElem?_getD,ZbU,e0,hlt,hlt2,hn,hh]
  clear e0 hs hx hh
  replace hs':=hs'.2
  generalize Za6 ms k=nm at*
  repeat' (first |split |apply And.intro)
  all_goals first |omega |skip
  all_goals (clear hs';simp_all[Zbk])
end
theorem Zqx(ms ks rs:List AV)(hs:Zax ms ks rs=true):Zao Tryz.prog 119 [.agg (.gen [.list (.big .str ms), .list (.big (.agg [.str, .int .i64]) ks), .list (.big (.agg [.str, .int .i64, .int .i64, .int .i64, .int .i64]) rs)])] (.tup [.agg (.gen [.int .i64 (ZkF ms ks rs), .int .i64 (ZjK ms ks rs)]), .int .i64 (ZaC ms ks rs)]) none:=by
 rw[show AV.tup [.agg (.gen [.int .i64 (ZkF ms ks rs), .int .i64 (ZjK ms ks rs)]), .int .i64 (ZaC ms ks rs)]=Zeb ms ks rs from(Zkv ms ks rs).eq.symm]
 refine start (ZrL ms ks rs) fun C hC=>tgo hC Zf8 ZCo ?_
 rw[ZjI]
 by_cases h0:ms.length=0
 ·simp[ZmC,h0,Zbk]
 ·by_cases h:6<ms.length
  ·simp[ZmC,h0,h,show(6:Int)<ms.length by omega,Zbk]
  ·simp[ZmC,h0,h,show ¬(6:Int)<ms.length by omega]
   have:=Zzu hC ms ks rs hs ms.length 0 [] (by omega) (by simp)
   rw[Zq4,ZCa]
   exact this
end Go.Proofs.YtkeoeooghhjibaaGreatDoor
/- ForbiddenBy of both packages. No condition. -/
namespace Go.Proofs.YtkeoeooghhjibaaGreatDoor
def ZjE(rs:List AV)(a b:Int)(xs:List Int)(k:Int)(i:Nat):Bool:=decide (Zaj rs i 1=k∧(Zaj rs i 2= -1∨Zaj rs i 2=a)∧(Zaj rs i 3= -1∨(xs.getD (Zaj rs i 3).toNat 0≠ -1∧b-xs.getD (Zaj rs i 3).toNat 0<Zaj rs i 4)))
def ZbS(rs:List AV)(b:Int)(xs:List Int):Bool:=((List.range rs.length).all fun i=>decide (-1≤Zaj rs i 3∧Zaj rs i 3<xs.length))&&(xs.all fun x=>decide (-1≤x∧x≤b))&&decide (0≤b∧b≤1000000000000∧rs.length≤1000000)
theorem ZrQ{rs:List AV}{b:Int}{xs:List Int}(h:ZbS rs b xs=true){k:Nat}(hk:k<rs.length):(-1≤Zaj rs k 3∧Zaj rs k 3<xs.length)∧(Zaj rs k 3≠ -1→ -1≤xs.getD (Zaj rs k 3).toNat 0∧xs.getD (Zaj rs k 3).toNat 0≤b)∧0≤b∧b≤1000000000000∧rs.length≤1000000:=by
 simp only[ZbS,Bool.and_eq_true,List.all_eq_true,decide_eq_true_eq,List.mem_range]at h
 obtain⟨⟨h1,h2⟩,h3⟩:=h
 refine⟨h1 k hk,fun h4=>?_,h3⟩
 have h5:=h1 k hk
 have h6:(Zaj rs k 3).toNat<xs.length:=by omega
 refine h2 _ ?_
 rw[List.getD_eq_getElem?_getD,List.getElem?_eq_getElem h6];exact List.getElem_mem h6
theorem firstE_zero:∀ {l:List Int},Zaf l=0↔∀x∈l,x=0
 |[]=>by simp[Zaf]
 |x::l=>by
  have ih:=firstE_zero (l:=l)
  by_cases h:x=0
  ·simp[Zaf,h,ih]
  ·simp[Zaf,h]
theorem ZaN{b:Bool}{e:Int}(h:Zaa b e=0)(he:e≠0):b=true:=by
 cases b
 ·exact absurd h he
 ·rfl
theorem ZiU{nm:Nat→List UInt8}{ex:Nat→Int}{p:Int}{d:AV} :∀(m k:Nat) (xs:List AV),mE (ZbD p (Zbj nm ex m k xs) d)=0→mE d=0∧∀i,k≤i→i<k+m→ZaT (nm i)=true∧ex i=0
 |0,k,xs,h=>⟨h,fun i h1 h2=>by omega⟩
 |m+1,k,xs,h=>by
  rw[Zfs]at h
  split at h
  ·rename_i hs
   obtain⟨h1,h2⟩:=ZiU m (k+1) _ h
   refine⟨h1,fun i h3 h4=>?_⟩
   by_cases hi:i=k
   ·subst hi
    obtain⟨g1,_,g3⟩:=Zs1 hs
    exact⟨ZaN g1 (by decide),g3⟩
   ·exact h2 i (by omega) (by omega)
  ·rename_i hs
   exact absurd h hs
theorem Znm{ms ks rs:List AV}(h:ZaC ms ks rs=0):(1≤ms.length∧ms.length≤6)∧(1≤ks.length∧ks.length≤8)∧rs.length≤10∧(∀i<ms.length,ZaT (Za6 ms i)=true)∧(∀i<ks.length,ZaT (Zay ks i)=true∧ZcO ks i ms.length=0)∧(∀i<rs.length,ZaT (Zay rs i)=true∧ZbQ rs i ks.length ms.length=0):=by
 unfold ZaC at h
 rw[ZjI]at h
 split at h
 ·cases h
 ·split at h
  ·cases h
  ·rw[Zq4,ZCa]at h
   obtain⟨h1,h2⟩:=ZiU _ _ _ h
   unfold dA at h1
   split at h1
   ·cases h1
   ·split at h1
    ·cases h1
    ·rw[Znb,ZAL]at h1
     obtain⟨h3,h4⟩:=ZiU _ _ _ h1
     unfold dB at h3
     split at h3
     ·cases h3
     ·obtain⟨_,h5⟩:=ZiU _ _ _ h3
      exact⟨by omega,by omega,by omega,fun i hi=>(h2 i (by omega) (by omega)).1,fun i hi=>h4 i (by omega) (by omega),fun i hi=>h5 i (by omega) (by omega)⟩
theorem within_iff{n a b:Int} :Zab n a b=true↔a≤n∧n≤b:=by simp[Zab]
theorem Zhc{rs:List AV}{i n m:Nat}(h:ZbQ rs i n m=0):(0≤Zaj rs i 1∧Zaj rs i 1<n)∧(-1≤Zaj rs i 2∧Zaj rs i 2<m)∧(-1≤Zaj rs i 3∧Zaj rs i 3<n)∧(1≤Zaj rs i 4∧Zaj rs i 4≤1000000)∧(Zaj rs i 3= -1→Zaj rs i 4=1):=by
 rw[Zjx]at h
 simp only[within_iff]at h
 split at h
 ·split at h
  ·split at h
   ·cases h
   ·rename_i h1 h2 h3
    exact⟨by omega,by omega,by omega,by omega,fun h4=>by simpa[h4]using h3⟩
  ·cases h
 ·cases h
end Go.Proofs.YtkeoeooghhjibaaGreatDoor
/- Contracts as a list. No condition. -/
namespace Go.Proofs.YtkeoeooghhjibaaGreatDoor
def k119:Ctr:=⟨119,0,fun _ a=>match a with |[.agg (.gen [.list (.big .str ms), .list (.big (.agg [.str, .int .i64]) ks), .list (.big (.agg [.str, .int .i64, .int .i64, .int .i64, .int .i64]) rs)])]=>some (decide (Zax ms ks rs=true), .tup [.agg (.gen [.int .i64 (ZkF ms ks rs), .int .i64 (ZjK ms ks rs)]), .int .i64 (ZaC ms ks rs)],none) |_=>none⟩
theorem ZtP:k119.OK Tryz.prog:=fun pa args r fr h=>by
 simp only[k119]at h
 split at h
 ·simp only[Option.some.injEq,Prod.mk.injEq,decide_eq_true_eq]at h
  obtain⟨h0,rfl,rfl⟩:=h
  exact Zqx _ _ _ h0
 ·cases h
def B7:List Ctr:=[k119]++B6
theorem Zyd:ZaD Tryz.prog B7:=⟨ZtP,Zf8⟩
end Go.Proofs.YtkeoeooghhjibaaGreatDoor
/- Paths of functions, printed by the explorer (Gx). No condition. -/
namespace Go.Proofs.YtkeoeooghhjibaaGreatDoor
set_option maxRecDepth 100000
set_option linter.unusedVariables false
def ZCg(ms ks rs:List AV):AFrame:={ fn:=65,N:=11,env:=[(0,AV.agg (Row.gen [.list (Row.big .str ms), .list (Row.big (.agg [.str, .int .i64]) ks), .list (Row.big (.agg [.str, .int .i64, .int .i64, .int .i64, .int .i64]) rs)]))],todo:=[.code a65.code],defs:=[],rnd:=none,ret:=false,res:=[ARes.tmp 2] }
def ZJh(ms ks rs:List AV):List AFrame:=[(ZCg ms ks rs)]
theorem Zvf(ms ks rs:List AV):Zat tab 65 [AV.agg (Row.gen [.list (Row.big .str ms), .list (Row.big (.agg [.str, .int .i64]) ks), .list (Row.big (.agg [.str, .int .i64, .int .i64, .int .i64, .int .i64]) rs)])]=some (ZCg ms ks rs):=rfl
def ZBA(A:Ar)(K:KT)(F:FT)(ms ks rs:List AV):Prop:=rB [decide (Zax ms ks rs=true)] (F (AV.int .i64 (ZaC ms ks rs)) (none))
theorem ZEH{A:Ar}{K:KT}{F:FT}{M:MT}{ms ks rs:List AV} :ZaK A tab B7 65 K F M (.run 23 (.fn)) (ZJh ms ks rs) []=ZBA A K F ms ks rs:=by kernel_rfl
end Go.Proofs.YtkeoeooghhjibaaGreatDoor
/- Calls at given values. Printed by facts.py. -/
namespace Go.Proofs.YtkeoeooghhjibaaGreatDoor
set_option maxRecDepth 1000000
def aw0:Fact:=⟨66,[],(.agg (.gen [(.list (.big .str [(.str [115,97,102,101]),(.str [99,114,117,105,115,101]),(.str [98,117,114,110])])),(.list (.big (.agg [.str,(.int .i64)]) [(.agg (.gen [(.str [119,97,107,101]),(.int .i64 1)])),(.agg (.gen [(.str [102,105,114,101]),(.int .i64 2)])),(.agg (.gen [(.str [115,116,111,112]),(.int .i64 1)])),(.agg (.gen [(.str [112,105,110,103]),(.int .i64 (-1))]))])),(.list (.big (.agg [.str,(.int .i64),(.int .i64),(.int .i64),(.int .i64)]) [(.agg (.gen [(.str [99,111,108,100]),(.int .i64 1),(.int .i64 0),(.int .i64 (-1)),(.int .i64 1)])),(.agg (.gen [(.str [104,101,97,116]),(.int .i64 1),(.int .i64 (-1)),(.int .i64 2),(.int .i64 50)]))])),(.list (.big (.agg [(.int .i64),(.int .i64),(.int .i64)]) [(.agg (.gen [(.int .i64 0),(.int .i64 0),(.int .i64 100)])),(.agg (.gen [(.int .i64 1),(.int .i64 20),(.int .i64 200)])),(.agg (.gen [(.int .i64 2),(.int .i64 30),(.int .i64 300)])),(.agg (.gen [(.int .i64 1),(.int .i64 40),(.int .i64 400)]))])),(.int .i64 2),(.int .i64 2)])),none⟩
theorem ZBV:Zao Tryz.prog aw0.f aw0.args aw0.r aw0.fr:=Zae (n:=100000) (l:=[]) follows Zag trivial (by kernel_rfl)
def aw1:Fact:=⟨68,[(.bool true),(.int .i64 10)],(.int .i64 0),none⟩
theorem Zox:Zao Tryz.prog aw1.f aw1.args aw1.r aw1.fr:=Zae (n:=100000) (l:=[]) follows Zag trivial (by kernel_rfl)
def aw2:Fact:=⟨68,[(.bool true),(.int .i64 8)],(.int .i64 0),none⟩
theorem Zmq:Zao Tryz.prog aw2.f aw2.args aw2.r aw2.fr:=Zae (n:=100000) (l:=[]) follows Zag trivial (by kernel_rfl)
def aw3:Fact:=⟨67,[(.list (.ints .i64 [0,0]))],(.int .i64 0),none⟩
theorem Zm8:Zao Tryz.prog aw3.f aw3.args aw3.r aw3.fr:=Zae (n:=100000) (l:=[]) follows Zag trivial (by kernel_rfl)
def aw4:Fact:=⟨160,[(.int .i64 0),(.eptr (.agg (.gen [(.list (.big .str [(.str [115,97,102,101]),(.str [99,114,117,105,115,101]),(.str [98,117,114,110])])),(.list (.big (.agg [.str,(.int .i64)]) [(.agg (.gen [(.str [119,97,107,101]),(.int .i64 1)])),(.agg (.gen [(.str [102,105,114,101]),(.int .i64 2)])),(.agg (.gen [(.str [115,116,111,112]),(.int .i64 1)])),(.agg (.gen [(.str [112,105,110,103]),(.int .i64 (-1))]))])),(.list (.big (.agg [.str,(.int .i64),(.int .i64),(.int .i64),(.int .i64)]) [(.agg (.gen [(.str [99,111,108,100]),(.int .i64 1),(.int .i64 0),(.int .i64 (-1)),(.int .i64 1)])),(.agg (.gen [(.str [104,101,97,116]),(.int .i64 1),(.int .i64 (-1)),(.int .i64 2),(.int .i64 50)]))]))])) 0)],(.str [115,97,102,101]),none⟩
theorem ZzV:Zao Tryz.prog aw4.f aw4.args aw4.r aw4.fr:=Zae (n:=100000) (l:=[]) follows Zag trivial (by kernel_rfl)
def aw5:Fact:=⟨182,[(.str [115,97,102,101])],(.bool true),none⟩
theorem ZAG:Zao Tryz.prog aw5.f aw5.args aw5.r aw5.fr:=Zae (n:=100000) (l:=[]) follows Zag trivial (by kernel_rfl)
def aw6:Fact:=⟨68,[(.bool true),(.int .i64 4)],(.int .i64 0),none⟩
theorem ZB8:Zao Tryz.prog aw6.f aw6.args aw6.r aw6.fr:=Zae (n:=100000) (l:=[]) follows Zag trivial (by kernel_rfl)
def aw7:Fact:=⟨68,[(.bool true),(.int .i64 5)],(.int .i64 0),none⟩
theorem Zze:Zao Tryz.prog aw7.f aw7.args aw7.r aw7.fr:=Zae (n:=100000) (l:=[]) follows Zag trivial (by kernel_rfl)
def aw8:Fact:=⟨161,[(.int .i64 0)],(.int .i64 0),none⟩
theorem Zzj:Zao Tryz.prog aw8.f aw8.args aw8.r aw8.fr:=Zae (n:=100000) (l:=[]) follows Zag trivial (by kernel_rfl)
def aw9:Fact:=⟨67,[(.list (.ints .i64 [0,0,0]))],(.int .i64 0),none⟩
theorem ZfT:Zao Tryz.prog aw9.f aw9.args aw9.r aw9.fr:=Zae (n:=100000) (l:=[]) follows Zag trivial (by kernel_rfl)
def aw10:Fact:=⟨160,[(.int .i64 1),(.eptr (.agg (.gen [(.list (.big .str [(.str [115,97,102,101]),(.str [99,114,117,105,115,101]),(.str [98,117,114,110])])),(.list (.big (.agg [.str,(.int .i64)]) [(.agg (.gen [(.str [119,97,107,101]),(.int .i64 1)])),(.agg (.gen [(.str [102,105,114,101]),(.int .i64 2)])),(.agg (.gen [(.str [115,116,111,112]),(.int .i64 1)])),(.agg (.gen [(.str [112,105,110,103]),(.int .i64 (-1))]))])),(.list (.big (.agg [.str,(.int .i64),(.int .i64),(.int .i64),(.int .i64)]) [(.agg (.gen [(.str [99,111,108,100]),(.int .i64 1),(.int .i64 0),(.int .i64 (-1)),(.int .i64 1)])),(.agg (.gen [(.str [104,101,97,116]),(.int .i64 1),(.int .i64 (-1)),(.int .i64 2),(.int .i64 50)]))]))])) 0)],(.str [99,114,117,105,115,101]),none⟩
theorem ZtB:Zao Tryz.prog aw10.f aw10.args aw10.r aw10.fr:=Zae (n:=100000) (l:=[]) follows Zag trivial (by kernel_rfl)
def aw11:Fact:=⟨182,[(.str [99,114,117,105,115,101])],(.bool true),none⟩
theorem ZvP:Zao Tryz.prog aw11.f aw11.args aw11.r aw11.fr:=Zae (n:=100000) (l:=[]) follows Zag trivial (by kernel_rfl)
def aw12:Fact:=⟨161,[(.int .i64 1)],(.int .i64 0),none⟩
theorem Zur:Zao Tryz.prog aw12.f aw12.args aw12.r aw12.fr:=Zae (n:=100000) (l:=[]) follows Zag trivial (by kernel_rfl)
def aw13:Fact:=⟨160,[(.int .i64 2),(.eptr (.agg (.gen [(.list (.big .str [(.str [115,97,102,101]),(.str [99,114,117,105,115,101]),(.str [98,117,114,110])])),(.list (.big (.agg [.str,(.int .i64)]) [(.agg (.gen [(.str [119,97,107,101]),(.int .i64 1)])),(.agg (.gen [(.str [102,105,114,101]),(.int .i64 2)])),(.agg (.gen [(.str [115,116,111,112]),(.int .i64 1)])),(.agg (.gen [(.str [112,105,110,103]),(.int .i64 (-1))]))])),(.list (.big (.agg [.str,(.int .i64),(.int .i64),(.int .i64),(.int .i64)]) [(.agg (.gen [(.str [99,111,108,100]),(.int .i64 1),(.int .i64 0),(.int .i64 (-1)),(.int .i64 1)])),(.agg (.gen [(.str [104,101,97,116]),(.int .i64 1),(.int .i64 (-1)),(.int .i64 2),(.int .i64 50)]))]))])) 0)],(.str [98,117,114,110]),none⟩
theorem Zw3:Zao Tryz.prog aw13.f aw13.args aw13.r aw13.fr:=Zae (n:=100000) (l:=[]) follows Zag trivial (by kernel_rfl)
def aw14:Fact:=⟨182,[(.str [98,117,114,110])],(.bool true),none⟩
theorem Zu1:Zao Tryz.prog aw14.f aw14.args aw14.r aw14.fr:=Zae (n:=100000) (l:=[]) follows Zag trivial (by kernel_rfl)
def aw15:Fact:=⟨161,[(.int .i64 2)],(.int .i64 0),none⟩
theorem ZwV:Zao Tryz.prog aw15.f aw15.args aw15.r aw15.fr:=Zae (n:=100000) (l:=[]) follows Zag trivial (by kernel_rfl)
def aw16:Fact:=⟨162,[(.int .i64 0),(.eptr (.agg (.gen [(.list (.big .str [(.str [115,97,102,101]),(.str [99,114,117,105,115,101]),(.str [98,117,114,110])])),(.list (.big (.agg [.str,(.int .i64)]) [(.agg (.gen [(.str [119,97,107,101]),(.int .i64 1)])),(.agg (.gen [(.str [102,105,114,101]),(.int .i64 2)])),(.agg (.gen [(.str [115,116,111,112]),(.int .i64 1)])),(.agg (.gen [(.str [112,105,110,103]),(.int .i64 (-1))]))])),(.list (.big (.agg [.str,(.int .i64),(.int .i64),(.int .i64),(.int .i64)]) [(.agg (.gen [(.str [99,111,108,100]),(.int .i64 1),(.int .i64 0),(.int .i64 (-1)),(.int .i64 1)])),(.agg (.gen [(.str [104,101,97,116]),(.int .i64 1),(.int .i64 (-1)),(.int .i64 2),(.int .i64 50)]))]))])) 0)],(.str [119,97,107,101]),none⟩
theorem Zut:Zao Tryz.prog aw16.f aw16.args aw16.r aw16.fr:=Zae (n:=100000) (l:=[]) follows Zag trivial (by kernel_rfl)
def aw17:Fact:=⟨182,[(.str [119,97,107,101])],(.bool true),none⟩
theorem Zud:Zao Tryz.prog aw17.f aw17.args aw17.r aw17.fr:=Zae (n:=100000) (l:=[]) follows Zag trivial (by kernel_rfl)
def aw18:Fact:=⟨82,[(.int .i64 1),(.int .i64 0),(.int .i64 2)],(.bool true),none⟩
theorem ZvE:Zao Tryz.prog aw18.f aw18.args aw18.r aw18.fr:=Zae (n:=100000) (l:=[]) follows Zag trivial (by kernel_rfl)
def aw19:Fact:=⟨158,[(.int .i64 1),(.int .i64 3)],(.bool true),none⟩
theorem Zqj:Zao Tryz.prog aw19.f aw19.args aw19.r aw19.fr:=Zae (n:=100000) (l:=[aw18]) follows Zag ⟨ZvE,trivial⟩ (by kernel_rfl)
def aw20:Fact:=⟨68,[(.bool true),(.int .i64 6)],(.int .i64 0),none⟩
theorem Zc2:Zao Tryz.prog aw20.f aw20.args aw20.r aw20.fr:=Zae (n:=100000) (l:=[]) follows Zag trivial (by kernel_rfl)
def aw21:Fact:=⟨163,[(.int .i64 0),(.eptr (.fn 158 []) 0),(.eptr (.agg (.gen [(.list (.big .str [(.str [115,97,102,101]),(.str [99,114,117,105,115,101]),(.str [98,117,114,110])])),(.list (.big (.agg [.str,(.int .i64)]) [(.agg (.gen [(.str [119,97,107,101]),(.int .i64 1)])),(.agg (.gen [(.str [102,105,114,101]),(.int .i64 2)])),(.agg (.gen [(.str [115,116,111,112]),(.int .i64 1)])),(.agg (.gen [(.str [112,105,110,103]),(.int .i64 (-1))]))])),(.list (.big (.agg [.str,(.int .i64),(.int .i64),(.int .i64),(.int .i64)]) [(.agg (.gen [(.str [99,111,108,100]),(.int .i64 1),(.int .i64 0),(.int .i64 (-1)),(.int .i64 1)])),(.agg (.gen [(.str [104,101,97,116]),(.int .i64 1),(.int .i64 (-1)),(.int .i64 2),(.int .i64 50)]))]))])) 0),(.eptr (.int .i64 3) 0)],(.int .i64 0),none⟩
theorem Zxe:Zao Tryz.prog aw21.f aw21.args aw21.r aw21.fr:=Zae (n:=100000) (l:=[aw19,aw20]) follows Zag ⟨Zqj,⟨Zc2,trivial⟩⟩ (by kernel_rfl)
def aw22:Fact:=⟨162,[(.int .i64 1),(.eptr (.agg (.gen [(.list (.big .str [(.str [115,97,102,101]),(.str [99,114,117,105,115,101]),(.str [98,117,114,110])])),(.list (.big (.agg [.str,(.int .i64)]) [(.agg (.gen [(.str [119,97,107,101]),(.int .i64 1)])),(.agg (.gen [(.str [102,105,114,101]),(.int .i64 2)])),(.agg (.gen [(.str [115,116,111,112]),(.int .i64 1)])),(.agg (.gen [(.str [112,105,110,103]),(.int .i64 (-1))]))])),(.list (.big (.agg [.str,(.int .i64),(.int .i64),(.int .i64),(.int .i64)]) [(.agg (.gen [(.str [99,111,108,100]),(.int .i64 1),(.int .i64 0),(.int .i64 (-1)),(.int .i64 1)])),(.agg (.gen [(.str [104,101,97,116]),(.int .i64 1),(.int .i64 (-1)),(.int .i64 2),(.int .i64 50)]))]))])) 0)],(.str [102,105,114,101]),none⟩
theorem Zxt:Zao Tryz.prog aw22.f aw22.args aw22.r aw22.fr:=Zae (n:=100000) (l:=[]) follows Zag trivial (by kernel_rfl)
def aw23:Fact:=⟨182,[(.str [102,105,114,101])],(.bool true),none⟩
theorem Zwl:Zao Tryz.prog aw23.f aw23.args aw23.r aw23.fr:=Zae (n:=100000) (l:=[]) follows Zag trivial (by kernel_rfl)
def aw24:Fact:=⟨82,[(.int .i64 2),(.int .i64 0),(.int .i64 2)],(.bool true),none⟩
theorem ZtC:Zao Tryz.prog aw24.f aw24.args aw24.r aw24.fr:=Zae (n:=100000) (l:=[]) follows Zag trivial (by kernel_rfl)
def aw25:Fact:=⟨158,[(.int .i64 2),(.int .i64 3)],(.bool true),none⟩
theorem ZtO:Zao Tryz.prog aw25.f aw25.args aw25.r aw25.fr:=Zae (n:=100000) (l:=[aw24]) follows Zag ⟨ZtC,trivial⟩ (by kernel_rfl)
def aw26:Fact:=⟨163,[(.int .i64 1),(.eptr (.fn 158 []) 0),(.eptr (.agg (.gen [(.list (.big .str [(.str [115,97,102,101]),(.str [99,114,117,105,115,101]),(.str [98,117,114,110])])),(.list (.big (.agg [.str,(.int .i64)]) [(.agg (.gen [(.str [119,97,107,101]),(.int .i64 1)])),(.agg (.gen [(.str [102,105,114,101]),(.int .i64 2)])),(.agg (.gen [(.str [115,116,111,112]),(.int .i64 1)])),(.agg (.gen [(.str [112,105,110,103]),(.int .i64 (-1))]))])),(.list (.big (.agg [.str,(.int .i64),(.int .i64),(.int .i64),(.int .i64)]) [(.agg (.gen [(.str [99,111,108,100]),(.int .i64 1),(.int .i64 0),(.int .i64 (-1)),(.int .i64 1)])),(.agg (.gen [(.str [104,101,97,116]),(.int .i64 1),(.int .i64 (-1)),(.int .i64 2),(.int .i64 50)]))]))])) 0),(.eptr (.int .i64 3) 0)],(.int .i64 0),none⟩
theorem Zw9:Zao Tryz.prog aw26.f aw26.args aw26.r aw26.fr:=Zae (n:=100000) (l:=[aw25,aw20]) follows Zag ⟨ZtO,⟨Zc2,trivial⟩⟩ (by kernel_rfl)
def aw27:Fact:=⟨162,[(.int .i64 2),(.eptr (.agg (.gen [(.list (.big .str [(.str [115,97,102,101]),(.str [99,114,117,105,115,101]),(.str [98,117,114,110])])),(.list (.big (.agg [.str,(.int .i64)]) [(.agg (.gen [(.str [119,97,107,101]),(.int .i64 1)])),(.agg (.gen [(.str [102,105,114,101]),(.int .i64 2)])),(.agg (.gen [(.str [115,116,111,112]),(.int .i64 1)])),(.agg (.gen [(.str [112,105,110,103]),(.int .i64 (-1))]))])),(.list (.big (.agg [.str,(.int .i64),(.int .i64),(.int .i64),(.int .i64)]) [(.agg (.gen [(.str [99,111,108,100]),(.int .i64 1),(.int .i64 0),(.int .i64 (-1)),(.int .i64 1)])),(.agg (.gen [(.str [104,101,97,116]),(.int .i64 1),(.int .i64 (-1)),(.int .i64 2),(.int .i64 50)]))]))])) 0)],(.str [115,116,111,112]),none⟩
theorem Zuk:Zao Tryz.prog aw27.f aw27.args aw27.r aw27.fr:=Zae (n:=100000) (l:=[]) follows Zag trivial (by kernel_rfl)
def aw28:Fact:=⟨182,[(.str [115,116,111,112])],(.bool true),none⟩
theorem ZxA:Zao Tryz.prog aw28.f aw28.args aw28.r aw28.fr:=Zae (n:=100000) (l:=[]) follows Zag trivial (by kernel_rfl)
def aw29:Fact:=⟨163,[(.int .i64 2),(.eptr (.fn 158 []) 0),(.eptr (.agg (.gen [(.list (.big .str [(.str [115,97,102,101]),(.str [99,114,117,105,115,101]),(.str [98,117,114,110])])),(.list (.big (.agg [.str,(.int .i64)]) [(.agg (.gen [(.str [119,97,107,101]),(.int .i64 1)])),(.agg (.gen [(.str [102,105,114,101]),(.int .i64 2)])),(.agg (.gen [(.str [115,116,111,112]),(.int .i64 1)])),(.agg (.gen [(.str [112,105,110,103]),(.int .i64 (-1))]))])),(.list (.big (.agg [.str,(.int .i64),(.int .i64),(.int .i64),(.int .i64)]) [(.agg (.gen [(.str [99,111,108,100]),(.int .i64 1),(.int .i64 0),(.int .i64 (-1)),(.int .i64 1)])),(.agg (.gen [(.str [104,101,97,116]),(.int .i64 1),(.int .i64 (-1)),(.int .i64 2),(.int .i64 50)]))]))])) 0),(.eptr (.int .i64 3) 0)],(.int .i64 0),none⟩
theorem ZuI:Zao Tryz.prog aw29.f aw29.args aw29.r aw29.fr:=Zae (n:=100000) (l:=[aw19,aw20]) follows Zag ⟨Zqj,⟨Zc2,trivial⟩⟩ (by kernel_rfl)
def aw30:Fact:=⟨162,[(.int .i64 3),(.eptr (.agg (.gen [(.list (.big .str [(.str [115,97,102,101]),(.str [99,114,117,105,115,101]),(.str [98,117,114,110])])),(.list (.big (.agg [.str,(.int .i64)]) [(.agg (.gen [(.str [119,97,107,101]),(.int .i64 1)])),(.agg (.gen [(.str [102,105,114,101]),(.int .i64 2)])),(.agg (.gen [(.str [115,116,111,112]),(.int .i64 1)])),(.agg (.gen [(.str [112,105,110,103]),(.int .i64 (-1))]))])),(.list (.big (.agg [.str,(.int .i64),(.int .i64),(.int .i64),(.int .i64)]) [(.agg (.gen [(.str [99,111,108,100]),(.int .i64 1),(.int .i64 0),(.int .i64 (-1)),(.int .i64 1)])),(.agg (.gen [(.str [104,101,97,116]),(.int .i64 1),(.int .i64 (-1)),(.int .i64 2),(.int .i64 50)]))]))])) 0)],(.str [112,105,110,103]),none⟩
theorem Zxi:Zao Tryz.prog aw30.f aw30.args aw30.r aw30.fr:=Zae (n:=100000) (l:=[]) follows Zag trivial (by kernel_rfl)
def aw31:Fact:=⟨182,[(.str [112,105,110,103])],(.bool true),none⟩
theorem Zw4:Zao Tryz.prog aw31.f aw31.args aw31.r aw31.fr:=Zae (n:=100000) (l:=[]) follows Zag trivial (by kernel_rfl)
def aw32:Fact:=⟨158,[(.int .i64 (-1)),(.int .i64 3)],(.bool true),none⟩
theorem Zo5:Zao Tryz.prog aw32.f aw32.args aw32.r aw32.fr:=Zae (n:=100000) (l:=[]) follows Zag trivial (by kernel_rfl)
def aw33:Fact:=⟨163,[(.int .i64 3),(.eptr (.fn 158 []) 0),(.eptr (.agg (.gen [(.list (.big .str [(.str [115,97,102,101]),(.str [99,114,117,105,115,101]),(.str [98,117,114,110])])),(.list (.big (.agg [.str,(.int .i64)]) [(.agg (.gen [(.str [119,97,107,101]),(.int .i64 1)])),(.agg (.gen [(.str [102,105,114,101]),(.int .i64 2)])),(.agg (.gen [(.str [115,116,111,112]),(.int .i64 1)])),(.agg (.gen [(.str [112,105,110,103]),(.int .i64 (-1))]))])),(.list (.big (.agg [.str,(.int .i64),(.int .i64),(.int .i64),(.int .i64)]) [(.agg (.gen [(.str [99,111,108,100]),(.int .i64 1),(.int .i64 0),(.int .i64 (-1)),(.int .i64 1)])),(.agg (.gen [(.str [104,101,97,116]),(.int .i64 1),(.int .i64 (-1)),(.int .i64 2),(.int .i64 50)]))]))])) 0),(.eptr (.int .i64 3) 0)],(.int .i64 0),none⟩
theorem Zuy:Zao Tryz.prog aw33.f aw33.args aw33.r aw33.fr:=Zae (n:=100000) (l:=[aw32,aw20]) follows Zag ⟨Zo5,⟨Zc2,trivial⟩⟩ (by kernel_rfl)
def aw34:Fact:=⟨164,[(.int .i64 0),(.eptr (.agg (.gen [(.list (.big .str [(.str [115,97,102,101]),(.str [99,114,117,105,115,101]),(.str [98,117,114,110])])),(.list (.big (.agg [.str,(.int .i64)]) [(.agg (.gen [(.str [119,97,107,101]),(.int .i64 1)])),(.agg (.gen [(.str [102,105,114,101]),(.int .i64 2)])),(.agg (.gen [(.str [115,116,111,112]),(.int .i64 1)])),(.agg (.gen [(.str [112,105,110,103]),(.int .i64 (-1))]))])),(.list (.big (.agg [.str,(.int .i64),(.int .i64),(.int .i64),(.int .i64)]) [(.agg (.gen [(.str [99,111,108,100]),(.int .i64 1),(.int .i64 0),(.int .i64 (-1)),(.int .i64 1)])),(.agg (.gen [(.str [104,101,97,116]),(.int .i64 1),(.int .i64 (-1)),(.int .i64 2),(.int .i64 50)]))]))])) 0)],(.str [99,111,108,100]),none⟩
theorem ZuT:Zao Tryz.prog aw34.f aw34.args aw34.r aw34.fr:=Zae (n:=100000) (l:=[]) follows Zag trivial (by kernel_rfl)
def aw35:Fact:=⟨182,[(.str [99,111,108,100])],(.bool true),none⟩
theorem Zv8:Zao Tryz.prog aw35.f aw35.args aw35.r aw35.fr:=Zae (n:=100000) (l:=[]) follows Zag trivial (by kernel_rfl)
def aw36:Fact:=⟨82,[(.int .i64 1),(.int .i64 0),(.int .i64 3)],(.bool true),none⟩
theorem ZgE:Zao Tryz.prog aw36.f aw36.args aw36.r aw36.fr:=Zae (n:=100000) (l:=[]) follows Zag trivial (by kernel_rfl)
def aw37:Fact:=⟨82,[(.int .i64 0),(.int .i64 0),(.int .i64 2)],(.bool true),none⟩
theorem Zqo:Zao Tryz.prog aw37.f aw37.args aw37.r aw37.fr:=Zae (n:=100000) (l:=[]) follows Zag trivial (by kernel_rfl)
def aw38:Fact:=⟨158,[(.int .i64 0),(.int .i64 3)],(.bool true),none⟩
theorem ZtX:Zao Tryz.prog aw38.f aw38.args aw38.r aw38.fr:=Zae (n:=100000) (l:=[aw37]) follows Zag ⟨Zqo,trivial⟩ (by kernel_rfl)
def aw39:Fact:=⟨158,[(.int .i64 (-1)),(.int .i64 4)],(.bool true),none⟩
theorem Zui:Zao Tryz.prog aw39.f aw39.args aw39.r aw39.fr:=Zae (n:=100000) (l:=[]) follows Zag trivial (by kernel_rfl)
def aw40:Fact:=⟨82,[(.int .i64 1),(.int .i64 1),(.int .i64 1000000)],(.bool true),none⟩
theorem Zxw:Zao Tryz.prog aw40.f aw40.args aw40.r aw40.fr:=Zae (n:=100000) (l:=[]) follows Zag trivial (by kernel_rfl)
def aw41:Fact:=⟨68,[(.bool true),(.int .i64 2)],(.int .i64 0),none⟩
theorem ZbY:Zao Tryz.prog aw41.f aw41.args aw41.r aw41.fr:=Zae (n:=100000) (l:=[]) follows Zag trivial (by kernel_rfl)
def aw42:Fact:=⟨68,[(.bool true),(.int .i64 3)],(.int .i64 0),none⟩
theorem ZpF:Zao Tryz.prog aw42.f aw42.args aw42.r aw42.fr:=Zae (n:=100000) (l:=[]) follows Zag trivial (by kernel_rfl)
def aw43:Fact:=⟨165,[(.int .i64 0),(.eptr (.agg (.gen [(.list (.big .str [(.str [115,97,102,101]),(.str [99,114,117,105,115,101]),(.str [98,117,114,110])])),(.list (.big (.agg [.str,(.int .i64)]) [(.agg (.gen [(.str [119,97,107,101]),(.int .i64 1)])),(.agg (.gen [(.str [102,105,114,101]),(.int .i64 2)])),(.agg (.gen [(.str [115,116,111,112]),(.int .i64 1)])),(.agg (.gen [(.str [112,105,110,103]),(.int .i64 (-1))]))])),(.list (.big (.agg [.str,(.int .i64),(.int .i64),(.int .i64),(.int .i64)]) [(.agg (.gen [(.str [99,111,108,100]),(.int .i64 1),(.int .i64 0),(.int .i64 (-1)),(.int .i64 1)])),(.agg (.gen [(.str [104,101,97,116]),(.int .i64 1),(.int .i64 (-1)),(.int .i64 2),(.int .i64 50)]))]))])) 0),(.eptr (.int .i64 4) 0),(.eptr (.fn 158 []) 0),(.eptr (.int .i64 3) 0)],(.int .i64 0),none⟩
theorem ZuA:Zao Tryz.prog aw43.f aw43.args aw43.r aw43.fr:=Zae (n:=100000) (l:=[aw36,aw38,aw39,aw20,aw40,aw41,aw42,aw9]) follows Zag ⟨ZgE,⟨ZtX,⟨Zui,⟨Zc2,⟨Zxw,⟨ZbY,⟨ZpF,⟨ZfT,trivial⟩⟩⟩⟩⟩⟩⟩⟩ (by kernel_rfl)
def aw44:Fact:=⟨164,[(.int .i64 1),(.eptr (.agg (.gen [(.list (.big .str [(.str [115,97,102,101]),(.str [99,114,117,105,115,101]),(.str [98,117,114,110])])),(.list (.big (.agg [.str,(.int .i64)]) [(.agg (.gen [(.str [119,97,107,101]),(.int .i64 1)])),(.agg (.gen [(.str [102,105,114,101]),(.int .i64 2)])),(.agg (.gen [(.str [115,116,111,112]),(.int .i64 1)])),(.agg (.gen [(.str [112,105,110,103]),(.int .i64 (-1))]))])),(.list (.big (.agg [.str,(.int .i64),(.int .i64),(.int .i64),(.int .i64)]) [(.agg (.gen [(.str [99,111,108,100]),(.int .i64 1),(.int .i64 0),(.int .i64 (-1)),(.int .i64 1)])),(.agg (.gen [(.str [104,101,97,116]),(.int .i64 1),(.int .i64 (-1)),(.int .i64 2),(.int .i64 50)]))]))])) 0)],(.str [104,101,97,116]),none⟩
theorem Zwj:Zao Tryz.prog aw44.f aw44.args aw44.r aw44.fr:=Zae (n:=100000) (l:=[]) follows Zag trivial (by kernel_rfl)
def aw45:Fact:=⟨182,[(.str [104,101,97,116])],(.bool true),none⟩
theorem Zvg:Zao Tryz.prog aw45.f aw45.args aw45.r aw45.fr:=Zae (n:=100000) (l:=[]) follows Zag trivial (by kernel_rfl)
def aw46:Fact:=⟨82,[(.int .i64 2),(.int .i64 0),(.int .i64 3)],(.bool true),none⟩
theorem Zpe:Zao Tryz.prog aw46.f aw46.args aw46.r aw46.fr:=Zae (n:=100000) (l:=[]) follows Zag trivial (by kernel_rfl)
def aw47:Fact:=⟨158,[(.int .i64 2),(.int .i64 4)],(.bool true),none⟩
theorem ZwG:Zao Tryz.prog aw47.f aw47.args aw47.r aw47.fr:=Zae (n:=100000) (l:=[aw46]) follows Zag ⟨Zpe,trivial⟩ (by kernel_rfl)
def aw48:Fact:=⟨82,[(.int .i64 50),(.int .i64 1),(.int .i64 1000000)],(.bool true),none⟩
theorem Zt4:Zao Tryz.prog aw48.f aw48.args aw48.r aw48.fr:=Zae (n:=100000) (l:=[]) follows Zag trivial (by kernel_rfl)
def aw49:Fact:=⟨165,[(.int .i64 1),(.eptr (.agg (.gen [(.list (.big .str [(.str [115,97,102,101]),(.str [99,114,117,105,115,101]),(.str [98,117,114,110])])),(.list (.big (.agg [.str,(.int .i64)]) [(.agg (.gen [(.str [119,97,107,101]),(.int .i64 1)])),(.agg (.gen [(.str [102,105,114,101]),(.int .i64 2)])),(.agg (.gen [(.str [115,116,111,112]),(.int .i64 1)])),(.agg (.gen [(.str [112,105,110,103]),(.int .i64 (-1))]))])),(.list (.big (.agg [.str,(.int .i64),(.int .i64),(.int .i64),(.int .i64)]) [(.agg (.gen [(.str [99,111,108,100]),(.int .i64 1),(.int .i64 0),(.int .i64 (-1)),(.int .i64 1)])),(.agg (.gen [(.str [104,101,97,116]),(.int .i64 1),(.int .i64 (-1)),(.int .i64 2),(.int .i64 50)]))]))])) 0),(.eptr (.int .i64 4) 0),(.eptr (.fn 158 []) 0),(.eptr (.int .i64 3) 0)],(.int .i64 0),none⟩
theorem ZuG:Zao Tryz.prog aw49.f aw49.args aw49.r aw49.fr:=Zae (n:=100000) (l:=[aw36,aw32,aw47,aw20,aw48,aw41,aw42,aw9]) follows Zag ⟨ZgE,⟨Zo5,⟨ZwG,⟨Zc2,⟨Zt4,⟨ZbY,⟨ZpF,⟨ZfT,trivial⟩⟩⟩⟩⟩⟩⟩⟩ (by kernel_rfl)
def aw50:Fact:=⟨136,[(.agg (.gen [(.list (.big .str [(.str [115,97,102,101]),(.str [99,114,117,105,115,101]),(.str [98,117,114,110])])),(.list (.big (.agg [.str,(.int .i64)]) [(.agg (.gen [(.str [119,97,107,101]),(.int .i64 1)])),(.agg (.gen [(.str [102,105,114,101]),(.int .i64 2)])),(.agg (.gen [(.str [115,116,111,112]),(.int .i64 1)])),(.agg (.gen [(.str [112,105,110,103]),(.int .i64 (-1))]))])),(.list (.big (.agg [.str,(.int .i64),(.int .i64),(.int .i64),(.int .i64)]) [(.agg (.gen [(.str [99,111,108,100]),(.int .i64 1),(.int .i64 0),(.int .i64 (-1)),(.int .i64 1)])),(.agg (.gen [(.str [104,101,97,116]),(.int .i64 1),(.int .i64 (-1)),(.int .i64 2),(.int .i64 50)]))]))]))],(.tup [(.agg (.gen [(.int .i64 0),(.int .i64 0)])),(.int .i64 0)]),none⟩
theorem Zxy:Zao Tryz.prog aw50.f aw50.args aw50.r aw50.fr:=Zae (n:=100000) (l:=[aw1,aw2,aw3,aw4,aw5,aw6,aw7,aw8,aw9,aw10,aw11,aw12,aw13,aw14,aw15,aw16,aw17,aw21,aw22,aw23,aw26,aw27,aw28,aw29,aw30,aw31,aw33,aw34,aw35,aw43,aw44,aw45,aw49]) follows Zag ⟨Zox,⟨Zmq,⟨Zm8,⟨ZzV,⟨ZAG,⟨ZB8,⟨Zze,⟨Zzj,⟨ZfT,⟨ZtB,⟨ZvP,⟨Zur,⟨Zw3,⟨Zu1,⟨ZwV,⟨Zut,⟨Zud,⟨Zxe,⟨Zxt,⟨Zwl,⟨Zw9,⟨Zuk,⟨ZxA,⟨ZuI,⟨Zxi,⟨Zw4,⟨Zuy,⟨ZuT,⟨Zv8,⟨ZuA,⟨Zwj,⟨Zvg,⟨ZuG,trivial⟩⟩⟩⟩⟩⟩⟩⟩⟩⟩⟩⟩⟩⟩⟩⟩⟩⟩⟩⟩⟩⟩⟩⟩⟩⟩⟩⟩⟩⟩⟩⟩⟩ (by kernel_rfl)
def aw51:Fact:=⟨88,[(.agg (.gen [(.list (.big .str [(.str [115,97,102,101]),(.str [99,114,117,105,115,101]),(.str [98,117,114,110])])),(.list (.big (.agg [.str,(.int .i64)]) [(.agg (.gen [(.str [119,97,107,101]),(.int .i64 1)])),(.agg (.gen [(.str [102,105,114,101]),(.int .i64 2)])),(.agg (.gen [(.str [115,116,111,112]),(.int .i64 1)])),(.agg (.gen [(.str [112,105,110,103]),(.int .i64 (-1))]))])),(.list (.big (.agg [.str,(.int .i64),(.int .i64),(.int .i64),(.int .i64)]) [(.agg (.gen [(.str [99,111,108,100]),(.int .i64 1),(.int .i64 0),(.int .i64 (-1)),(.int .i64 1)])),(.agg (.gen [(.str [104,101,97,116]),(.int .i64 1),(.int .i64 (-1)),(.int .i64 2),(.int .i64 50)]))]))]))],(.int .i64 0),none⟩
theorem ZoB:Zao Tryz.prog aw51.f aw51.args aw51.r aw51.fr:=Zae (n:=100000) (l:=[aw50]) follows Zag ⟨Zxy,trivial⟩ (by kernel_rfl)
def aw52:Fact:=⟨82,[(.int .i64 0),(.int .i64 0),(.int .i64 3)],(.bool true),none⟩
theorem ZwA:Zao Tryz.prog aw52.f aw52.args aw52.r aw52.fr:=Zae (n:=100000) (l:=[]) follows Zag trivial (by kernel_rfl)
def aw53:Fact:=⟨68,[(.bool true),(.int .i64 15)],(.int .i64 0),none⟩
theorem Zg4:Zao Tryz.prog aw53.f aw53.args aw53.r aw53.fr:=Zae (n:=100000) (l:=[]) follows Zag trivial (by kernel_rfl)
def aw54:Fact:=⟨82,[(.int .i64 0),(.int .i64 0),(.int .i64 1000000000000)],(.bool true),none⟩
theorem Zw7:Zao Tryz.prog aw54.f aw54.args aw54.r aw54.fr:=Zae (n:=100000) (l:=[]) follows Zag trivial (by kernel_rfl)
def aw55:Fact:=⟨89,[(.int .i64 0)],(.bool true),none⟩
theorem Zqk:Zao Tryz.prog aw55.f aw55.args aw55.r aw55.fr:=Zae (n:=100000) (l:=[aw54]) follows Zag ⟨Zw7,trivial⟩ (by kernel_rfl)
def aw56:Fact:=⟨82,[(.int .i64 100),(.int .i64 0),(.int .i64 1000000000000)],(.bool true),none⟩
theorem Zuq:Zao Tryz.prog aw56.f aw56.args aw56.r aw56.fr:=Zae (n:=100000) (l:=[]) follows Zag trivial (by kernel_rfl)
def aw57:Fact:=⟨89,[(.int .i64 100)],(.bool true),none⟩
theorem ZtG:Zao Tryz.prog aw57.f aw57.args aw57.r aw57.fr:=Zae (n:=100000) (l:=[aw56]) follows Zag ⟨Zuq,trivial⟩ (by kernel_rfl)
def aw58:Fact:=⟨68,[(.bool true),(.int .i64 9)],(.int .i64 0),none⟩
theorem Zjy:Zao Tryz.prog aw58.f aw58.args aw58.r aw58.fr:=Zae (n:=100000) (l:=[]) follows Zag trivial (by kernel_rfl)
def aw59:Fact:=⟨120,[(.agg (.gen [(.list (.big .str [(.str [115,97,102,101]),(.str [99,114,117,105,115,101]),(.str [98,117,114,110])])),(.list (.big (.agg [.str,(.int .i64)]) [(.agg (.gen [(.str [119,97,107,101]),(.int .i64 1)])),(.agg (.gen [(.str [102,105,114,101]),(.int .i64 2)])),(.agg (.gen [(.str [115,116,111,112]),(.int .i64 1)])),(.agg (.gen [(.str [112,105,110,103]),(.int .i64 (-1))]))])),(.list (.big (.agg [.str,(.int .i64),(.int .i64),(.int .i64),(.int .i64)]) [(.agg (.gen [(.str [99,111,108,100]),(.int .i64 1),(.int .i64 0),(.int .i64 (-1)),(.int .i64 1)])),(.agg (.gen [(.str [104,101,97,116]),(.int .i64 1),(.int .i64 (-1)),(.int .i64 2),(.int .i64 50)]))]))])),(.agg (.gen [(.int .i64 0),(.int .i64 0),(.int .i64 100)]))],(.int .i64 0),none⟩
theorem ZtA:Zao Tryz.prog aw59.f aw59.args aw59.r aw59.fr:=Zae (n:=100000) (l:=[aw52,aw53,aw55,aw57,aw41,aw58,aw9]) follows Zag ⟨ZwA,⟨Zg4,⟨Zqk,⟨ZtG,⟨ZbY,⟨Zjy,⟨ZfT,trivial⟩⟩⟩⟩⟩⟩⟩ (by kernel_rfl)
def aw60:Fact:=⟨82,[(.int .i64 20),(.int .i64 0),(.int .i64 1000000000000)],(.bool true),none⟩
theorem Zv7:Zao Tryz.prog aw60.f aw60.args aw60.r aw60.fr:=Zae (n:=100000) (l:=[]) follows Zag trivial (by kernel_rfl)
def aw61:Fact:=⟨89,[(.int .i64 20)],(.bool true),none⟩
theorem ZvM:Zao Tryz.prog aw61.f aw61.args aw61.r aw61.fr:=Zae (n:=100000) (l:=[aw60]) follows Zag ⟨Zv7,trivial⟩ (by kernel_rfl)
def aw62:Fact:=⟨82,[(.int .i64 200),(.int .i64 0),(.int .i64 1000000000000)],(.bool true),none⟩
theorem ZwU:Zao Tryz.prog aw62.f aw62.args aw62.r aw62.fr:=Zae (n:=100000) (l:=[]) follows Zag trivial (by kernel_rfl)
def aw63:Fact:=⟨89,[(.int .i64 200)],(.bool true),none⟩
theorem ZwX:Zao Tryz.prog aw63.f aw63.args aw63.r aw63.fr:=Zae (n:=100000) (l:=[aw62]) follows Zag ⟨ZwU,trivial⟩ (by kernel_rfl)
def aw64:Fact:=⟨120,[(.agg (.gen [(.list (.big .str [(.str [115,97,102,101]),(.str [99,114,117,105,115,101]),(.str [98,117,114,110])])),(.list (.big (.agg [.str,(.int .i64)]) [(.agg (.gen [(.str [119,97,107,101]),(.int .i64 1)])),(.agg (.gen [(.str [102,105,114,101]),(.int .i64 2)])),(.agg (.gen [(.str [115,116,111,112]),(.int .i64 1)])),(.agg (.gen [(.str [112,105,110,103]),(.int .i64 (-1))]))])),(.list (.big (.agg [.str,(.int .i64),(.int .i64),(.int .i64),(.int .i64)]) [(.agg (.gen [(.str [99,111,108,100]),(.int .i64 1),(.int .i64 0),(.int .i64 (-1)),(.int .i64 1)])),(.agg (.gen [(.str [104,101,97,116]),(.int .i64 1),(.int .i64 (-1)),(.int .i64 2),(.int .i64 50)]))]))])),(.agg (.gen [(.int .i64 1),(.int .i64 20),(.int .i64 200)]))],(.int .i64 0),none⟩
theorem ZvB:Zao Tryz.prog aw64.f aw64.args aw64.r aw64.fr:=Zae (n:=100000) (l:=[aw36,aw53,aw61,aw63,aw41,aw58,aw9]) follows Zag ⟨ZgE,⟨Zg4,⟨ZvM,⟨ZwX,⟨ZbY,⟨Zjy,⟨ZfT,trivial⟩⟩⟩⟩⟩⟩⟩ (by kernel_rfl)
def aw65:Fact:=⟨82,[(.int .i64 30),(.int .i64 0),(.int .i64 1000000000000)],(.bool true),none⟩
theorem Zw5:Zao Tryz.prog aw65.f aw65.args aw65.r aw65.fr:=Zae (n:=100000) (l:=[]) follows Zag trivial (by kernel_rfl)
def aw66:Fact:=⟨89,[(.int .i64 30)],(.bool true),none⟩
theorem Zwi:Zao Tryz.prog aw66.f aw66.args aw66.r aw66.fr:=Zae (n:=100000) (l:=[aw65]) follows Zag ⟨Zw5,trivial⟩ (by kernel_rfl)
def aw67:Fact:=⟨82,[(.int .i64 300),(.int .i64 0),(.int .i64 1000000000000)],(.bool true),none⟩
theorem Zxf:Zao Tryz.prog aw67.f aw67.args aw67.r aw67.fr:=Zae (n:=100000) (l:=[]) follows Zag trivial (by kernel_rfl)
def aw68:Fact:=⟨89,[(.int .i64 300)],(.bool true),none⟩
theorem Zw2:Zao Tryz.prog aw68.f aw68.args aw68.r aw68.fr:=Zae (n:=100000) (l:=[aw67]) follows Zag ⟨Zxf,trivial⟩ (by kernel_rfl)
def aw69:Fact:=⟨120,[(.agg (.gen [(.list (.big .str [(.str [115,97,102,101]),(.str [99,114,117,105,115,101]),(.str [98,117,114,110])])),(.list (.big (.agg [.str,(.int .i64)]) [(.agg (.gen [(.str [119,97,107,101]),(.int .i64 1)])),(.agg (.gen [(.str [102,105,114,101]),(.int .i64 2)])),(.agg (.gen [(.str [115,116,111,112]),(.int .i64 1)])),(.agg (.gen [(.str [112,105,110,103]),(.int .i64 (-1))]))])),(.list (.big (.agg [.str,(.int .i64),(.int .i64),(.int .i64),(.int .i64)]) [(.agg (.gen [(.str [99,111,108,100]),(.int .i64 1),(.int .i64 0),(.int .i64 (-1)),(.int .i64 1)])),(.agg (.gen [(.str [104,101,97,116]),(.int .i64 1),(.int .i64 (-1)),(.int .i64 2),(.int .i64 50)]))]))])),(.agg (.gen [(.int .i64 2),(.int .i64 30),(.int .i64 300)]))],(.int .i64 0),none⟩
theorem Zwq:Zao Tryz.prog aw69.f aw69.args aw69.r aw69.fr:=Zae (n:=100000) (l:=[aw46,aw53,aw66,aw68,aw41,aw58,aw9]) follows Zag ⟨Zpe,⟨Zg4,⟨Zwi,⟨Zw2,⟨ZbY,⟨Zjy,⟨ZfT,trivial⟩⟩⟩⟩⟩⟩⟩ (by kernel_rfl)
def aw70:Fact:=⟨82,[(.int .i64 40),(.int .i64 0),(.int .i64 1000000000000)],(.bool true),none⟩
theorem ZvA:Zao Tryz.prog aw70.f aw70.args aw70.r aw70.fr:=Zae (n:=100000) (l:=[]) follows Zag trivial (by kernel_rfl)
def aw71:Fact:=⟨89,[(.int .i64 40)],(.bool true),none⟩
theorem Zuw:Zao Tryz.prog aw71.f aw71.args aw71.r aw71.fr:=Zae (n:=100000) (l:=[aw70]) follows Zag ⟨ZvA,trivial⟩ (by kernel_rfl)
def aw72:Fact:=⟨82,[(.int .i64 400),(.int .i64 0),(.int .i64 1000000000000)],(.bool true),none⟩
theorem ZvX:Zao Tryz.prog aw72.f aw72.args aw72.r aw72.fr:=Zae (n:=100000) (l:=[]) follows Zag trivial (by kernel_rfl)
def aw73:Fact:=⟨89,[(.int .i64 400)],(.bool true),none⟩
theorem Zu7:Zao Tryz.prog aw73.f aw73.args aw73.r aw73.fr:=Zae (n:=100000) (l:=[aw72]) follows Zag ⟨ZvX,trivial⟩ (by kernel_rfl)
def aw74:Fact:=⟨120,[(.agg (.gen [(.list (.big .str [(.str [115,97,102,101]),(.str [99,114,117,105,115,101]),(.str [98,117,114,110])])),(.list (.big (.agg [.str,(.int .i64)]) [(.agg (.gen [(.str [119,97,107,101]),(.int .i64 1)])),(.agg (.gen [(.str [102,105,114,101]),(.int .i64 2)])),(.agg (.gen [(.str [115,116,111,112]),(.int .i64 1)])),(.agg (.gen [(.str [112,105,110,103]),(.int .i64 (-1))]))])),(.list (.big (.agg [.str,(.int .i64),(.int .i64),(.int .i64),(.int .i64)]) [(.agg (.gen [(.str [99,111,108,100]),(.int .i64 1),(.int .i64 0),(.int .i64 (-1)),(.int .i64 1)])),(.agg (.gen [(.str [104,101,97,116]),(.int .i64 1),(.int .i64 (-1)),(.int .i64 2),(.int .i64 50)]))]))])),(.agg (.gen [(.int .i64 1),(.int .i64 40),(.int .i64 400)]))],(.int .i64 0),none⟩
theorem Zxl:Zao Tryz.prog aw74.f aw74.args aw74.r aw74.fr:=Zae (n:=100000) (l:=[aw36,aw53,aw71,aw73,aw41,aw58,aw9]) follows Zag ⟨ZgE,⟨Zg4,⟨Zuw,⟨Zu7,⟨ZbY,⟨Zjy,⟨ZfT,trivial⟩⟩⟩⟩⟩⟩⟩ (by kernel_rfl)
def aw75:Fact:=⟨71,[(.agg (.gen [(.list (.big .str [(.str [115,97,102,101]),(.str [99,114,117,105,115,101]),(.str [98,117,114,110])])),(.list (.big (.agg [.str,(.int .i64)]) [(.agg (.gen [(.str [119,97,107,101]),(.int .i64 1)])),(.agg (.gen [(.str [102,105,114,101]),(.int .i64 2)])),(.agg (.gen [(.str [115,116,111,112]),(.int .i64 1)])),(.agg (.gen [(.str [112,105,110,103]),(.int .i64 (-1))]))])),(.list (.big (.agg [.str,(.int .i64),(.int .i64),(.int .i64),(.int .i64)]) [(.agg (.gen [(.str [99,111,108,100]),(.int .i64 1),(.int .i64 0),(.int .i64 (-1)),(.int .i64 1)])),(.agg (.gen [(.str [104,101,97,116]),(.int .i64 1),(.int .i64 (-1)),(.int .i64 2),(.int .i64 50)]))]))])),(.list (.big (.agg [(.int .i64),(.int .i64),(.int .i64)]) [(.agg (.gen [(.int .i64 0),(.int .i64 0),(.int .i64 100)])),(.agg (.gen [(.int .i64 1),(.int .i64 20),(.int .i64 200)])),(.agg (.gen [(.int .i64 2),(.int .i64 30),(.int .i64 300)])),(.agg (.gen [(.int .i64 1),(.int .i64 40),(.int .i64 400)]))]))],(.tup [(.int .i64 0),(.int .i64 0)]),none⟩
theorem ZpW:Zao Tryz.prog aw75.f aw75.args aw75.r aw75.fr:=Zae (n:=100000) (l:=[aw51,aw1,aw2,aw9,aw59,aw64,aw69,aw74]) follows Zag ⟨ZoB,⟨Zox,⟨Zmq,⟨ZfT,⟨ZtA,⟨ZvB,⟨Zwq,⟨Zxl,trivial⟩⟩⟩⟩⟩⟩⟩⟩ (by kernel_rfl)
def aw76:Fact:=⟨179,[(.int .u64 1),(.int .u64 4)],(.tup [(.int .u64 0),(.int .u64 4)]),none⟩
theorem ZwQ:Zao Tryz.prog aw76.f aw76.args aw76.r aw76.fr:=Zae (n:=100000) (l:=[]) follows Zag trivial (by kernel_rfl)
def aw77:Fact:=⟨152,[(.int .u64 1),(.int .u64 4)],(.tup [(.int .u64 0),(.int .u64 4)]),none⟩
theorem Zt3:Zao Tryz.prog aw77.f aw77.args aw77.r aw77.fr:=Zae (n:=100000) (l:=[aw76]) follows Zag ⟨ZwQ,trivial⟩ (by kernel_rfl)
def aw78:Fact:=⟨121,[(.list (.ints .i64 [(-1)])),(.int .i64 4)],(.row 0 0),(some ⟨3,1,(.ints .i64 [(-1),(-1),(-1),(-1)])⟩)⟩
theorem ZlG:Zao Tryz.prog aw78.f aw78.args aw78.r aw78.fr:=Zae (n:=100000) (l:=[aw77]) follows Zag ⟨Zt3,trivial⟩ (by kernel_rfl)
def aw79:Fact:=⟨122,[(.eptr (.agg (.gen [(.list (.big .str [(.str [115,97,102,101]),(.str [99,114,117,105,115,101]),(.str [98,117,114,110])])),(.list (.big (.agg [.str,(.int .i64)]) [(.agg (.gen [(.str [119,97,107,101]),(.int .i64 1)])),(.agg (.gen [(.str [102,105,114,101]),(.int .i64 2)])),(.agg (.gen [(.str [115,116,111,112]),(.int .i64 1)])),(.agg (.gen [(.str [112,105,110,103]),(.int .i64 (-1))]))])),(.list (.big (.agg [.str,(.int .i64),(.int .i64),(.int .i64),(.int .i64)]) [(.agg (.gen [(.str [99,111,108,100]),(.int .i64 1),(.int .i64 0),(.int .i64 (-1)),(.int .i64 1)])),(.agg (.gen [(.str [104,101,97,116]),(.int .i64 1),(.int .i64 (-1)),(.int .i64 2),(.int .i64 50)]))])),(.int .i64 0),(.int .i64 0),(.list (.ints .i64 [(-1),(-1),(-1),(-1)]))])) 0),(.agg (.gen [(.str [104,101,97,116]),(.int .i64 1),(.int .i64 (-1)),(.int .i64 2),(.int .i64 50)])),(.int .i64 0)],(.bool false),none⟩
theorem ZuO:Zao Tryz.prog aw79.f aw79.args aw79.r aw79.fr:=Zae (n:=100000) (l:=[]) follows Zag trivial (by kernel_rfl)
def aw80:Fact:=⟨82,[(.int .i64 0),(.int .i64 0),(.int .i64 100)],(.bool true),none⟩
theorem Zvq:Zao Tryz.prog aw80.f aw80.args aw80.r aw80.fr:=Zae (n:=100000) (l:=[]) follows Zag trivial (by kernel_rfl)
def aw81:Fact:=⟨91,[(.eptr (.agg (.gen [(.list (.big .str [(.str [115,97,102,101]),(.str [99,114,117,105,115,101]),(.str [98,117,114,110])])),(.list (.big (.agg [.str,(.int .i64)]) [(.agg (.gen [(.str [119,97,107,101]),(.int .i64 1)])),(.agg (.gen [(.str [102,105,114,101]),(.int .i64 2)])),(.agg (.gen [(.str [115,116,111,112]),(.int .i64 1)])),(.agg (.gen [(.str [112,105,110,103]),(.int .i64 (-1))]))])),(.list (.big (.agg [.str,(.int .i64),(.int .i64),(.int .i64),(.int .i64)]) [(.agg (.gen [(.str [99,111,108,100]),(.int .i64 1),(.int .i64 0),(.int .i64 (-1)),(.int .i64 1)])),(.agg (.gen [(.str [104,101,97,116]),(.int .i64 1),(.int .i64 (-1)),(.int .i64 2),(.int .i64 50)]))])),(.int .i64 0),(.int .i64 0),(.list (.ints .i64 [(-1),(-1),(-1),(-1)]))])) 0),(.int .i64 0)],(.val (.pointer none)),none⟩
theorem ZuB:Zao Tryz.prog aw81.f aw81.args aw81.r aw81.fr:=Zae (n:=100000) (l:=[]) follows Zag trivial (by kernel_rfl)
def aw82:Fact:=⟨123,[(.eptr (.agg (.gen [(.list (.big .str [(.str [115,97,102,101]),(.str [99,114,117,105,115,101]),(.str [98,117,114,110])])),(.list (.big (.agg [.str,(.int .i64)]) [(.agg (.gen [(.str [119,97,107,101]),(.int .i64 1)])),(.agg (.gen [(.str [102,105,114,101]),(.int .i64 2)])),(.agg (.gen [(.str [115,116,111,112]),(.int .i64 1)])),(.agg (.gen [(.str [112,105,110,103]),(.int .i64 (-1))]))])),(.list (.big (.agg [.str,(.int .i64),(.int .i64),(.int .i64),(.int .i64)]) [(.agg (.gen [(.str [99,111,108,100]),(.int .i64 1),(.int .i64 0),(.int .i64 (-1)),(.int .i64 1)])),(.agg (.gen [(.str [104,101,97,116]),(.int .i64 1),(.int .i64 (-1)),(.int .i64 2),(.int .i64 50)]))])),(.int .i64 0),(.int .i64 0),(.list (.ints .i64 [(-1),(-1),(-1),(-1)]))])) 0),(.agg (.gen [(.int .i64 0),(.int .i64 0),(.int .i64 100)]))],(.bool true),none⟩
theorem Zlq:Zao Tryz.prog aw82.f aw82.args aw82.r aw82.fr:=Zae (n:=100000) (l:=[aw80,aw81]) follows Zag ⟨Zvq,⟨ZuB,trivial⟩⟩ (by kernel_rfl)
def aw83:Fact:=⟨122,[(.eptr (.agg (.gen [(.list (.big .str [(.str [115,97,102,101]),(.str [99,114,117,105,115,101]),(.str [98,117,114,110])])),(.list (.big (.agg [.str,(.int .i64)]) [(.agg (.gen [(.str [119,97,107,101]),(.int .i64 1)])),(.agg (.gen [(.str [102,105,114,101]),(.int .i64 2)])),(.agg (.gen [(.str [115,116,111,112]),(.int .i64 1)])),(.agg (.gen [(.str [112,105,110,103]),(.int .i64 (-1))]))])),(.list (.big (.agg [.str,(.int .i64),(.int .i64),(.int .i64),(.int .i64)]) [(.agg (.gen [(.str [99,111,108,100]),(.int .i64 1),(.int .i64 0),(.int .i64 (-1)),(.int .i64 1)])),(.agg (.gen [(.str [104,101,97,116]),(.int .i64 1),(.int .i64 (-1)),(.int .i64 2),(.int .i64 50)]))])),(.int .i64 1),(.int .i64 20),(.list (.ints .i64 [0,(-1),(-1),(-1)]))])) 0),(.agg (.gen [(.str [104,101,97,116]),(.int .i64 1),(.int .i64 (-1)),(.int .i64 2),(.int .i64 50)])),(.int .i64 1)],(.bool true),none⟩
theorem Zv0:Zao Tryz.prog aw83.f aw83.args aw83.r aw83.fr:=Zae (n:=100000) (l:=[]) follows Zag trivial (by kernel_rfl)
def aw84:Fact:=⟨82,[(.int .i64 20),(.int .i64 20),(.int .i64 200)],(.bool true),none⟩
theorem Zt1:Zao Tryz.prog aw84.f aw84.args aw84.r aw84.fr:=Zae (n:=100000) (l:=[]) follows Zag trivial (by kernel_rfl)
def aw85:Fact:=⟨91,[(.eptr (.agg (.gen [(.list (.big .str [(.str [115,97,102,101]),(.str [99,114,117,105,115,101]),(.str [98,117,114,110])])),(.list (.big (.agg [.str,(.int .i64)]) [(.agg (.gen [(.str [119,97,107,101]),(.int .i64 1)])),(.agg (.gen [(.str [102,105,114,101]),(.int .i64 2)])),(.agg (.gen [(.str [115,116,111,112]),(.int .i64 1)])),(.agg (.gen [(.str [112,105,110,103]),(.int .i64 (-1))]))])),(.list (.big (.agg [.str,(.int .i64),(.int .i64),(.int .i64),(.int .i64)]) [(.agg (.gen [(.str [99,111,108,100]),(.int .i64 1),(.int .i64 0),(.int .i64 (-1)),(.int .i64 1)])),(.agg (.gen [(.str [104,101,97,116]),(.int .i64 1),(.int .i64 (-1)),(.int .i64 2),(.int .i64 50)]))])),(.int .i64 1),(.int .i64 20),(.list (.ints .i64 [0,(-1),(-1),(-1)]))])) 0),(.int .i64 1)],(.val (.pointer none)),none⟩
theorem ZtR:Zao Tryz.prog aw85.f aw85.args aw85.r aw85.fr:=Zae (n:=100000) (l:=[]) follows Zag trivial (by kernel_rfl)
def aw86:Fact:=⟨123,[(.eptr (.agg (.gen [(.list (.big .str [(.str [115,97,102,101]),(.str [99,114,117,105,115,101]),(.str [98,117,114,110])])),(.list (.big (.agg [.str,(.int .i64)]) [(.agg (.gen [(.str [119,97,107,101]),(.int .i64 1)])),(.agg (.gen [(.str [102,105,114,101]),(.int .i64 2)])),(.agg (.gen [(.str [115,116,111,112]),(.int .i64 1)])),(.agg (.gen [(.str [112,105,110,103]),(.int .i64 (-1))]))])),(.list (.big (.agg [.str,(.int .i64),(.int .i64),(.int .i64),(.int .i64)]) [(.agg (.gen [(.str [99,111,108,100]),(.int .i64 1),(.int .i64 0),(.int .i64 (-1)),(.int .i64 1)])),(.agg (.gen [(.str [104,101,97,116]),(.int .i64 1),(.int .i64 (-1)),(.int .i64 2),(.int .i64 50)]))])),(.int .i64 1),(.int .i64 20),(.list (.ints .i64 [0,(-1),(-1),(-1)]))])) 0),(.agg (.gen [(.int .i64 1),(.int .i64 20),(.int .i64 200)]))],(.bool true),none⟩
theorem ZvF:Zao Tryz.prog aw86.f aw86.args aw86.r aw86.fr:=Zae (n:=100000) (l:=[aw84,aw85]) follows Zag ⟨Zt1,⟨ZtR,trivial⟩⟩ (by kernel_rfl)
def aw87:Fact:=⟨122,[(.eptr (.agg (.gen [(.list (.big .str [(.str [115,97,102,101]),(.str [99,114,117,105,115,101]),(.str [98,117,114,110])])),(.list (.big (.agg [.str,(.int .i64)]) [(.agg (.gen [(.str [119,97,107,101]),(.int .i64 1)])),(.agg (.gen [(.str [102,105,114,101]),(.int .i64 2)])),(.agg (.gen [(.str [115,116,111,112]),(.int .i64 1)])),(.agg (.gen [(.str [112,105,110,103]),(.int .i64 (-1))]))])),(.list (.big (.agg [.str,(.int .i64),(.int .i64),(.int .i64),(.int .i64)]) [(.agg (.gen [(.str [99,111,108,100]),(.int .i64 1),(.int .i64 0),(.int .i64 (-1)),(.int .i64 1)])),(.agg (.gen [(.str [104,101,97,116]),(.int .i64 1),(.int .i64 (-1)),(.int .i64 2),(.int .i64 50)]))])),(.int .i64 2),(.int .i64 30),(.list (.ints .i64 [0,20,(-1),(-1)]))])) 0),(.agg (.gen [(.str [104,101,97,116]),(.int .i64 1),(.int .i64 (-1)),(.int .i64 2),(.int .i64 50)])),(.int .i64 2)],(.bool false),none⟩
theorem Zt2:Zao Tryz.prog aw87.f aw87.args aw87.r aw87.fr:=Zae (n:=100000) (l:=[]) follows Zag trivial (by kernel_rfl)
def aw88:Fact:=⟨82,[(.int .i64 30),(.int .i64 30),(.int .i64 300)],(.bool true),none⟩
theorem ZwH:Zao Tryz.prog aw88.f aw88.args aw88.r aw88.fr:=Zae (n:=100000) (l:=[]) follows Zag trivial (by kernel_rfl)
def aw89:Fact:=⟨91,[(.eptr (.agg (.gen [(.list (.big .str [(.str [115,97,102,101]),(.str [99,114,117,105,115,101]),(.str [98,117,114,110])])),(.list (.big (.agg [.str,(.int .i64)]) [(.agg (.gen [(.str [119,97,107,101]),(.int .i64 1)])),(.agg (.gen [(.str [102,105,114,101]),(.int .i64 2)])),(.agg (.gen [(.str [115,116,111,112]),(.int .i64 1)])),(.agg (.gen [(.str [112,105,110,103]),(.int .i64 (-1))]))])),(.list (.big (.agg [.str,(.int .i64),(.int .i64),(.int .i64),(.int .i64)]) [(.agg (.gen [(.str [99,111,108,100]),(.int .i64 1),(.int .i64 0),(.int .i64 (-1)),(.int .i64 1)])),(.agg (.gen [(.str [104,101,97,116]),(.int .i64 1),(.int .i64 (-1)),(.int .i64 2),(.int .i64 50)]))])),(.int .i64 2),(.int .i64 30),(.list (.ints .i64 [0,20,(-1),(-1)]))])) 0),(.int .i64 2)],(.val (.pointer none)),none⟩
theorem Zwo:Zao Tryz.prog aw89.f aw89.args aw89.r aw89.fr:=Zae (n:=100000) (l:=[]) follows Zag trivial (by kernel_rfl)
def aw90:Fact:=⟨123,[(.eptr (.agg (.gen [(.list (.big .str [(.str [115,97,102,101]),(.str [99,114,117,105,115,101]),(.str [98,117,114,110])])),(.list (.big (.agg [.str,(.int .i64)]) [(.agg (.gen [(.str [119,97,107,101]),(.int .i64 1)])),(.agg (.gen [(.str [102,105,114,101]),(.int .i64 2)])),(.agg (.gen [(.str [115,116,111,112]),(.int .i64 1)])),(.agg (.gen [(.str [112,105,110,103]),(.int .i64 (-1))]))])),(.list (.big (.agg [.str,(.int .i64),(.int .i64),(.int .i64),(.int .i64)]) [(.agg (.gen [(.str [99,111,108,100]),(.int .i64 1),(.int .i64 0),(.int .i64 (-1)),(.int .i64 1)])),(.agg (.gen [(.str [104,101,97,116]),(.int .i64 1),(.int .i64 (-1)),(.int .i64 2),(.int .i64 50)]))])),(.int .i64 2),(.int .i64 30),(.list (.ints .i64 [0,20,(-1),(-1)]))])) 0),(.agg (.gen [(.int .i64 2),(.int .i64 30),(.int .i64 300)]))],(.bool true),none⟩
theorem ZuF:Zao Tryz.prog aw90.f aw90.args aw90.r aw90.fr:=Zae (n:=100000) (l:=[aw88,aw89]) follows Zag ⟨ZwH,⟨Zwo,trivial⟩⟩ (by kernel_rfl)
def aw91:Fact:=⟨122,[(.eptr (.agg (.gen [(.list (.big .str [(.str [115,97,102,101]),(.str [99,114,117,105,115,101]),(.str [98,117,114,110])])),(.list (.big (.agg [.str,(.int .i64)]) [(.agg (.gen [(.str [119,97,107,101]),(.int .i64 1)])),(.agg (.gen [(.str [102,105,114,101]),(.int .i64 2)])),(.agg (.gen [(.str [115,116,111,112]),(.int .i64 1)])),(.agg (.gen [(.str [112,105,110,103]),(.int .i64 (-1))]))])),(.list (.big (.agg [.str,(.int .i64),(.int .i64),(.int .i64),(.int .i64)]) [(.agg (.gen [(.str [99,111,108,100]),(.int .i64 1),(.int .i64 0),(.int .i64 (-1)),(.int .i64 1)])),(.agg (.gen [(.str [104,101,97,116]),(.int .i64 1),(.int .i64 (-1)),(.int .i64 2),(.int .i64 50)]))])),(.int .i64 1),(.int .i64 40),(.list (.ints .i64 [0,20,30,(-1)]))])) 0),(.agg (.gen [(.str [104,101,97,116]),(.int .i64 1),(.int .i64 (-1)),(.int .i64 2),(.int .i64 50)])),(.int .i64 1)],(.bool true),none⟩
theorem Zwf:Zao Tryz.prog aw91.f aw91.args aw91.r aw91.fr:=Zae (n:=100000) (l:=[]) follows Zag trivial (by kernel_rfl)
def aw92:Fact:=⟨82,[(.int .i64 80),(.int .i64 40),(.int .i64 400)],(.bool true),none⟩
theorem Zup:Zao Tryz.prog aw92.f aw92.args aw92.r aw92.fr:=Zae (n:=100000) (l:=[]) follows Zag trivial (by kernel_rfl)
def aw93:Fact:=⟨91,[(.eptr (.agg (.gen [(.list (.big .str [(.str [115,97,102,101]),(.str [99,114,117,105,115,101]),(.str [98,117,114,110])])),(.list (.big (.agg [.str,(.int .i64)]) [(.agg (.gen [(.str [119,97,107,101]),(.int .i64 1)])),(.agg (.gen [(.str [102,105,114,101]),(.int .i64 2)])),(.agg (.gen [(.str [115,116,111,112]),(.int .i64 1)])),(.agg (.gen [(.str [112,105,110,103]),(.int .i64 (-1))]))])),(.list (.big (.agg [.str,(.int .i64),(.int .i64),(.int .i64),(.int .i64)]) [(.agg (.gen [(.str [99,111,108,100]),(.int .i64 1),(.int .i64 0),(.int .i64 (-1)),(.int .i64 1)])),(.agg (.gen [(.str [104,101,97,116]),(.int .i64 1),(.int .i64 (-1)),(.int .i64 2),(.int .i64 50)]))])),(.int .i64 1),(.int .i64 80),(.list (.ints .i64 [0,20,30,(-1)]))])) 0),(.int .i64 1)],(.val (.pointer none)),none⟩
theorem ZwC:Zao Tryz.prog aw93.f aw93.args aw93.r aw93.fr:=Zae (n:=100000) (l:=[]) follows Zag trivial (by kernel_rfl)
def aw94:Fact:=⟨123,[(.eptr (.agg (.gen [(.list (.big .str [(.str [115,97,102,101]),(.str [99,114,117,105,115,101]),(.str [98,117,114,110])])),(.list (.big (.agg [.str,(.int .i64)]) [(.agg (.gen [(.str [119,97,107,101]),(.int .i64 1)])),(.agg (.gen [(.str [102,105,114,101]),(.int .i64 2)])),(.agg (.gen [(.str [115,116,111,112]),(.int .i64 1)])),(.agg (.gen [(.str [112,105,110,103]),(.int .i64 (-1))]))])),(.list (.big (.agg [.str,(.int .i64),(.int .i64),(.int .i64),(.int .i64)]) [(.agg (.gen [(.str [99,111,108,100]),(.int .i64 1),(.int .i64 0),(.int .i64 (-1)),(.int .i64 1)])),(.agg (.gen [(.str [104,101,97,116]),(.int .i64 1),(.int .i64 (-1)),(.int .i64 2),(.int .i64 50)]))])),(.int .i64 1),(.int .i64 80),(.list (.ints .i64 [0,20,30,(-1)]))])) 0),(.agg (.gen [(.int .i64 1),(.int .i64 40),(.int .i64 400)]))],(.bool true),none⟩
theorem ZuC:Zao Tryz.prog aw94.f aw94.args aw94.r aw94.fr:=Zae (n:=100000) (l:=[aw92,aw93]) follows Zag ⟨Zup,⟨ZwC,trivial⟩⟩ (by kernel_rfl)
def aw95:Fact:=⟨24,[(.agg (.gen [(.list (.big .str [(.str [115,97,102,101]),(.str [99,114,117,105,115,101]),(.str [98,117,114,110])])),(.list (.big (.agg [.str,(.int .i64)]) [(.agg (.gen [(.str [119,97,107,101]),(.int .i64 1)])),(.agg (.gen [(.str [102,105,114,101]),(.int .i64 2)])),(.agg (.gen [(.str [115,116,111,112]),(.int .i64 1)])),(.agg (.gen [(.str [112,105,110,103]),(.int .i64 (-1))]))])),(.list (.big (.agg [.str,(.int .i64),(.int .i64),(.int .i64),(.int .i64)]) [(.agg (.gen [(.str [99,111,108,100]),(.int .i64 1),(.int .i64 0),(.int .i64 (-1)),(.int .i64 1)])),(.agg (.gen [(.str [104,101,97,116]),(.int .i64 1),(.int .i64 (-1)),(.int .i64 2),(.int .i64 50)]))]))])),(.list (.big (.agg [(.int .i64),(.int .i64),(.int .i64)]) [(.agg (.gen [(.int .i64 0),(.int .i64 0),(.int .i64 100)])),(.agg (.gen [(.int .i64 1),(.int .i64 20),(.int .i64 200)])),(.agg (.gen [(.int .i64 2),(.int .i64 30),(.int .i64 300)])),(.agg (.gen [(.int .i64 1),(.int .i64 40),(.int .i64 400)]))]))],(.tup [(.row 0 0),(.int .i64 0)]),(some ⟨3,1,(.ints .i64 [0,20,30,80])⟩)⟩
theorem ZtT:Zao Tryz.prog aw95.f aw95.args aw95.r aw95.fr:=Zae (n:=100000) (l:=[aw75,aw78,aw79,aw82,aw83,aw86,aw87,aw90,aw91,aw94]) follows Zag ⟨ZpW,⟨ZlG,⟨ZuO,⟨Zlq,⟨Zv0,⟨ZvF,⟨Zt2,⟨ZuF,⟨Zwf,⟨ZuC,trivial⟩⟩⟩⟩⟩⟩⟩⟩⟩⟩ (by kernel_rfl)
def aw96:Fact:=⟨87,[(.int .i64 (-1)),(.eptr (.agg (.gen [(.int .i64 0),(.int .i64 0),(.list (.ints .i64 [(-1),(-1),(-1),(-1)]))])) 0)],(.bool false),none⟩
theorem ZtL:Zao Tryz.prog aw96.f aw96.args aw96.r aw96.fr:=Zae (n:=100000) (l:=[]) follows Zag trivial (by kernel_rfl)
def aw97:Fact:=⟨137,[(.list (.ints .i64 [(-1),(-1),(-1),(-1)])),(.fn 87 [(.eptr (.agg (.gen [(.int .i64 0),(.int .i64 0),(.list (.ints .i64 [(-1),(-1),(-1),(-1)]))])) 0)])],(.int .i64 (-1)),none⟩
theorem Zul:Zao Tryz.prog aw97.f aw97.args aw97.r aw97.fr:=Zae (n:=100000) (l:=[aw96]) follows Zag ⟨ZtL,trivial⟩ (by kernel_rfl)
def aw98:Fact:=⟨90,[(.list (.ints .i64 [(-1),(-1),(-1),(-1)])),(.fn 87 [(.eptr (.agg (.gen [(.int .i64 0),(.int .i64 0),(.list (.ints .i64 [(-1),(-1),(-1),(-1)]))])) 0)])],(.bool false),none⟩
theorem ZwD:Zao Tryz.prog aw98.f aw98.args aw98.r aw98.fr:=Zae (n:=100000) (l:=[aw97]) follows Zag ⟨Zul,trivial⟩ (by kernel_rfl)
def aw99:Fact:=⟨67,[(.list (.ints .i64 [0,0,0,0,0,0]))],(.int .i64 0),none⟩
theorem ZvN:Zao Tryz.prog aw99.f aw99.args aw99.r aw99.fr:=Zae (n:=100000) (l:=[]) follows Zag trivial (by kernel_rfl)
def aw100:Fact:=⟨42,[(.agg (.gen [(.list (.big .str [(.str [115,97,102,101]),(.str [99,114,117,105,115,101]),(.str [98,117,114,110])])),(.list (.big (.agg [.str,(.int .i64)]) [(.agg (.gen [(.str [119,97,107,101]),(.int .i64 1)])),(.agg (.gen [(.str [102,105,114,101]),(.int .i64 2)])),(.agg (.gen [(.str [115,116,111,112]),(.int .i64 1)])),(.agg (.gen [(.str [112,105,110,103]),(.int .i64 (-1))]))])),(.list (.big (.agg [.str,(.int .i64),(.int .i64),(.int .i64),(.int .i64)]) [(.agg (.gen [(.str [99,111,108,100]),(.int .i64 1),(.int .i64 0),(.int .i64 (-1)),(.int .i64 1)])),(.agg (.gen [(.str [104,101,97,116]),(.int .i64 1),(.int .i64 (-1)),(.int .i64 2),(.int .i64 50)]))]))])),(.agg (.gen [(.int .i64 0),(.int .i64 0),(.list (.ints .i64 [(-1),(-1),(-1),(-1)]))])),(.int .i64 1)],(.tup [(.str [99,111,108,100]),(.int .i64 0)]),none⟩
theorem Zri:Zao Tryz.prog aw100.f aw100.args aw100.r aw100.fr:=Zae (n:=100000) (l:=[aw51,aw37,aw20,aw55,aw41,aw1,aw98,aw36,aw53,aw99]) follows Zag ⟨ZoB,⟨Zqo,⟨Zc2,⟨Zqk,⟨ZbY,⟨Zox,⟨ZwD,⟨ZgE,⟨Zg4,⟨ZvN,trivial⟩⟩⟩⟩⟩⟩⟩⟩⟩⟩ (by kernel_rfl)
def aw101:Fact:=⟨82,[(.int .i64 2),(.int .i64 1),(.int .i64 6)],(.bool true),none⟩
theorem Zr5:Zao Tryz.prog aw101.f aw101.args aw101.r aw101.fr:=Zae (n:=100000) (l:=[]) follows Zag trivial (by kernel_rfl)
def aw102:Fact:=⟨36,[(.agg (.gen [(.list (.big .str [(.str [115,97,102,101]),(.str [99,114,117,105,115,101]),(.str [98,117,114,110])])),(.list (.big (.agg [.str,(.int .i64)]) [(.agg (.gen [(.str [119,97,107,101]),(.int .i64 1)])),(.agg (.gen [(.str [102,105,114,101]),(.int .i64 2)])),(.agg (.gen [(.str [115,116,111,112]),(.int .i64 1)])),(.agg (.gen [(.str [112,105,110,103]),(.int .i64 (-1))]))])),(.list (.big (.agg [.str,(.int .i64),(.int .i64),(.int .i64),(.int .i64)]) [(.agg (.gen [(.str [99,111,108,100]),(.int .i64 1),(.int .i64 0),(.int .i64 (-1)),(.int .i64 1)])),(.agg (.gen [(.str [104,101,97,116]),(.int .i64 1),(.int .i64 (-1)),(.int .i64 2),(.int .i64 50)]))])),(.list (.big (.agg [(.int .i64),(.int .i64),(.int .i64)]) [(.agg (.gen [(.int .i64 0),(.int .i64 0),(.int .i64 100)])),(.agg (.gen [(.int .i64 1),(.int .i64 20),(.int .i64 200)])),(.agg (.gen [(.int .i64 2),(.int .i64 30),(.int .i64 300)])),(.agg (.gen [(.int .i64 1),(.int .i64 40),(.int .i64 400)]))])),(.int .i64 2),(.int .i64 2)]))],(.int .i64 0),none⟩
theorem Zm4:Zao Tryz.prog aw102.f aw102.args aw102.r aw102.fr:=Zae (n:=100000) (l:=[aw75,aw101,aw41,aw3]) follows Zag ⟨ZpW,⟨Zr5,⟨ZbY,⟨Zm8,trivial⟩⟩⟩⟩ (by kernel_rfl)
def aw103:Fact:=⟨83,[],(.agg (.gen [(.str [112,97,115,115]),(.int .i64 1),(.int .i64 1000000000000),(.fn 127 []),(.str [115,101,110,100]),(.int .i64 0),(.int .i64 11),(.fn 128 []),(.str [97,114,114,105,118,101]),(.int .i64 0),(.int .i64 5),(.fn 129 []),(.str [104,101,97,114]),(.int .i64 0),(.int .i64 5),(.fn 130 []),(.str [108,111,115,101]),(.int .i64 0),(.int .i64 5),(.fn 131 []),(.str [100,114,111,112]),(.int .i64 0),(.int .i64 5),(.fn 132 []),(.str [114,101,112,101,97,116]),(.int .i64 0),(.int .i64 5),(.fn 133 []),(.str [114,101,115,116,97,114,116]),(.int .i64 0),(.int .i64 0),(.fn 134 []),(.str [114,101,98,111,111,116]),(.int .i64 0),(.int .i64 0),(.fn 135 [])])),none⟩
theorem Zcu:Zao Tryz.prog aw103.f aw103.args aw103.r aw103.fr:=Zae (n:=100000) (l:=[]) follows Zag trivial (by kernel_rfl)
def aw104:Fact:=⟨82,[(.int .i64 1),(.int .i64 0),(.int .i64 8)],(.bool true),none⟩
theorem Zrp:Zao Tryz.prog aw104.f aw104.args aw104.r aw104.fr:=Zae (n:=100000) (l:=[]) follows Zag trivial (by kernel_rfl)
def aw105:Fact:=⟨82,[(.int .i64 0),(.int .i64 0),(.int .i64 11)],(.bool true),none⟩
theorem ZrT:Zao Tryz.prog aw105.f aw105.args aw105.r aw105.fr:=Zae (n:=100000) (l:=[]) follows Zag trivial (by kernel_rfl)
def aw106:Fact:=⟨37,[(.agg (.gen [(.int .i64 1),(.int .i64 0)]))],(.int .i64 0),none⟩
theorem ZmY:Zao Tryz.prog aw106.f aw106.args aw106.r aw106.fr:=Zae (n:=100000) (l:=[aw103,aw104,aw105,aw41]) follows Zag ⟨Zcu,⟨Zrp,⟨ZrT,⟨ZbY,trivial⟩⟩⟩⟩ (by kernel_rfl)
def aw107:Fact:=⟨68,[(.bool true),(.int .i64 21)],(.int .i64 0),none⟩
theorem Zmu:Zao Tryz.prog aw107.f aw107.args aw107.r aw107.fr:=Zae (n:=100000) (l:=[]) follows Zag trivial (by kernel_rfl)
def aw108:Fact:=⟨82,[(.int .i64 0),(.int .i64 0),(.int .i64 1)],(.bool true),none⟩
theorem Zl4:Zao Tryz.prog aw108.f aw108.args aw108.r aw108.fr:=Zae (n:=100000) (l:=[]) follows Zag trivial (by kernel_rfl)
def aw109:Fact:=⟨68,[(.bool true),(.int .i64 26)],(.int .i64 0),none⟩
theorem ZmA:Zao Tryz.prog aw109.f aw109.args aw109.r aw109.fr:=Zae (n:=100000) (l:=[]) follows Zag trivial (by kernel_rfl)
def aw110:Fact:=⟨68,[(.bool true),(.int .i64 16)],(.int .i64 0),none⟩
theorem ZmB:Zao Tryz.prog aw110.f aw110.args aw110.r aw110.fr:=Zae (n:=100000) (l:=[]) follows Zag trivial (by kernel_rfl)
def aw111:Fact:=⟨67,[(.list (.ints .i64 [0,0,0,0]))],(.int .i64 0),none⟩
theorem Zmj:Zao Tryz.prog aw111.f aw111.args aw111.r aw111.fr:=Zae (n:=100000) (l:=[]) follows Zag trivial (by kernel_rfl)
def aw112:Fact:=⟨82,[(.int .i64 2),(.int .i64 0),(.int .i64 8)],(.bool true),none⟩
theorem Zsm:Zao Tryz.prog aw112.f aw112.args aw112.r aw112.fr:=Zae (n:=100000) (l:=[]) follows Zag trivial (by kernel_rfl)
def aw113:Fact:=⟨82,[(.int .i64 0),(.int .i64 0),(.int .i64 5)],(.bool true),none⟩
theorem Zi4:Zao Tryz.prog aw113.f aw113.args aw113.r aw113.fr:=Zae (n:=100000) (l:=[]) follows Zag trivial (by kernel_rfl)
def aw114:Fact:=⟨37,[(.agg (.gen [(.int .i64 2),(.int .i64 0)]))],(.int .i64 0),none⟩
theorem ZlY:Zao Tryz.prog aw114.f aw114.args aw114.r aw114.fr:=Zae (n:=100000) (l:=[aw103,aw112,aw113,aw41]) follows Zag ⟨Zcu,⟨Zsm,⟨Zi4,⟨ZbY,trivial⟩⟩⟩⟩ (by kernel_rfl)
def aw115:Fact:=⟨82,[(.int .i64 5),(.int .i64 0),(.int .i64 8)],(.bool true),none⟩
theorem ZrY:Zao Tryz.prog aw115.f aw115.args aw115.r aw115.fr:=Zae (n:=100000) (l:=[]) follows Zag trivial (by kernel_rfl)
def aw116:Fact:=⟨37,[(.agg (.gen [(.int .i64 5),(.int .i64 0)]))],(.int .i64 0),none⟩
theorem Zmf:Zao Tryz.prog aw116.f aw116.args aw116.r aw116.fr:=Zae (n:=100000) (l:=[aw103,aw115,aw113,aw41]) follows Zag ⟨Zcu,⟨ZrY,⟨Zi4,⟨ZbY,trivial⟩⟩⟩⟩ (by kernel_rfl)
def aw117:Fact:=⟨82,[(.int .i64 3),(.int .i64 0),(.int .i64 8)],(.bool true),none⟩
theorem Zsb:Zao Tryz.prog aw117.f aw117.args aw117.r aw117.fr:=Zae (n:=100000) (l:=[]) follows Zag trivial (by kernel_rfl)
def aw118:Fact:=⟨37,[(.agg (.gen [(.int .i64 3),(.int .i64 0)]))],(.int .i64 0),none⟩
theorem ZlV:Zao Tryz.prog aw118.f aw118.args aw118.r aw118.fr:=Zae (n:=100000) (l:=[aw103,aw117,aw113,aw41]) follows Zag ⟨Zcu,⟨Zsb,⟨Zi4,⟨ZbY,trivial⟩⟩⟩⟩ (by kernel_rfl)
def aw119:Fact:=⟨15,[(.agg (.gen [(.list (.big .str [(.str [115,97,102,101]),(.str [99,114,117,105,115,101]),(.str [98,117,114,110])])),(.list (.big (.agg [.str,(.int .i64)]) [(.agg (.gen [(.str [119,97,107,101]),(.int .i64 1)])),(.agg (.gen [(.str [102,105,114,101]),(.int .i64 2)])),(.agg (.gen [(.str [115,116,111,112]),(.int .i64 1)])),(.agg (.gen [(.str [112,105,110,103]),(.int .i64 (-1))]))])),(.list (.big (.agg [.str,(.int .i64),(.int .i64),(.int .i64),(.int .i64)]) [(.agg (.gen [(.str [99,111,108,100]),(.int .i64 1),(.int .i64 0),(.int .i64 (-1)),(.int .i64 1)])),(.agg (.gen [(.str [104,101,97,116]),(.int .i64 1),(.int .i64 (-1)),(.int .i64 2),(.int .i64 50)]))])),(.list (.big (.agg [(.int .i64),(.int .i64),(.int .i64)]) [(.agg (.gen [(.int .i64 0),(.int .i64 0),(.int .i64 100)])),(.agg (.gen [(.int .i64 1),(.int .i64 20),(.int .i64 200)])),(.agg (.gen [(.int .i64 2),(.int .i64 30),(.int .i64 300)])),(.agg (.gen [(.int .i64 1),(.int .i64 40),(.int .i64 400)]))])),(.int .i64 2),(.int .i64 2)])),(.list (.big (.agg [(.int .i64),(.int .i64)]) [(.agg (.gen [(.int .i64 1),(.int .i64 0)])),(.agg (.gen [(.int .i64 2),(.int .i64 0)])),(.agg (.gen [(.int .i64 5),(.int .i64 0)])),(.agg (.gen [(.int .i64 1),(.int .i64 0)])),(.agg (.gen [(.int .i64 2),(.int .i64 0)])),(.agg (.gen [(.int .i64 3),(.int .i64 0)]))]))],(.tup [(.agg (.gen [(.int .i64 0),(.int .i64 1),(.list (.big (.agg [(.int .i64),(.int .i64)]) [(.agg (.gen [(.int .i64 0),(.int .i64 0)]))])),(.bool false),(.int .i64 1),(.bool false),(.list (.ints .i64 [])),(.list (.big (.agg [(.int .i64), .bool]) []))])),(.int .i64 0),(.int .i64 0)]),none⟩
theorem ZqP:Zao Tryz.prog aw119.f aw119.args aw119.r aw119.fr:=Zmg (n:=100000) (d:=3) (l:=[aw102,aw2,aw3,aw78,aw106,aw103,aw20,aw107,aw108,aw109,aw110,aw111,aw114,aw82,aw116,aw118]) follows Zag ⟨Zm4,⟨Zmq,⟨Zm8,⟨ZlG,⟨ZmY,⟨Zcu,⟨Zc2,⟨Zmu,⟨Zl4,⟨ZmA,⟨ZmB,⟨Zmj,⟨ZlY,⟨Zlq,⟨Zmf,⟨ZlV,trivial⟩⟩⟩⟩⟩⟩⟩⟩⟩⟩⟩⟩⟩⟩⟩⟩ (by kernel_rfl)
def aw120:Fact:=⟨29,[(.list (.ints .i64 [0,20,30,80])),(.list (.ints .i64 [0,20,30,80]))],(.bool true),none⟩
theorem Zr0:Zao Tryz.prog aw120.f aw120.args aw120.r aw120.fr:=Zae (n:=100000) (l:=[]) follows Zag trivial (by kernel_rfl)
def aw121:Fact:=⟨22,[(.list (.big (.agg [(.int .i64),(.int .i64)]) [(.agg (.gen [(.int .i64 0),(.int .i64 0)]))])),(.list (.big (.agg [(.int .i64),(.int .i64)]) [(.agg (.gen [(.int .i64 0),(.int .i64 0)]))]))],(.bool true),none⟩
theorem Zra:Zao Tryz.prog aw121.f aw121.args aw121.r aw121.fr:=Zae (n:=100000) (l:=[]) follows Zag trivial (by kernel_rfl)
def aw122:Fact:=⟨82,[(.int .i64 0),(.int .i64 0),(.int .i64 8)],(.bool true),none⟩
theorem ZrJ:Zao Tryz.prog aw122.f aw122.args aw122.r aw122.fr:=Zae (n:=100000) (l:=[]) follows Zag trivial (by kernel_rfl)
def aw123:Fact:=⟨198,[(.int .i64 20)],(.str [50,48]),none⟩
theorem ZrO:Zao Tryz.prog aw123.f aw123.args aw123.r aw123.fr:=Zae (n:=100000) (l:=[]) follows Zag trivial (by kernel_rfl)
def aw124:Fact:=⟨183,[(.int .i64 20),(.int .i64 10)],(.str [50,48]),none⟩
theorem ZrC:Zao Tryz.prog aw124.f aw124.args aw124.r aw124.fr:=Zae (n:=100000) (l:=[aw123]) follows Zag ⟨ZrO,trivial⟩ (by kernel_rfl)
def aw125:Fact:=⟨166,[(.int .i64 20)],(.str [50,48]),none⟩
theorem Zsj:Zao Tryz.prog aw125.f aw125.args aw125.r aw125.fr:=Zae (n:=100000) (l:=[aw124]) follows Zag ⟨ZrC,trivial⟩ (by kernel_rfl)
def aw126:Fact:=⟨138,[(.int .i64 20)],(.str [50,48]),none⟩
theorem ZqU:Zao Tryz.prog aw126.f aw126.args aw126.r aw126.fr:=Zae (n:=100000) (l:=[aw125]) follows Zag ⟨Zsj,trivial⟩ (by kernel_rfl)
def aw127:Fact:=⟨113,[(.list (.big .str [(.str [50,48])])),(.str [32])],(.str [50,48]),none⟩
theorem ZqW:Zao Tryz.prog aw127.f aw127.args aw127.r aw127.fr:=Zae (n:=100000) (l:=[]) follows Zag trivial (by kernel_rfl)
def aw128:Fact:=⟨105,[(.list (.ints .i64 [20]))],(.str [50,48]),none⟩
theorem ZqC:Zao Tryz.prog aw128.f aw128.args aw128.r aw128.fr:=Zae (n:=100000) (l:=[aw126,aw127]) follows Zag ⟨ZqU,⟨ZqW,trivial⟩⟩ (by kernel_rfl)
def aw129:Fact:=⟨53,[(.agg (.gen [(.int .i64 0),(.int .i64 20)]))],(.str [112,97,115,115,32,50,48]),none⟩
theorem ZqJ:Zao Tryz.prog aw129.f aw129.args aw129.r aw129.fr:=Zae (n:=100000) (l:=[aw103,aw122,aw128]) follows Zag ⟨Zcu,⟨ZrJ,⟨ZqC,trivial⟩⟩⟩ (by kernel_rfl)
def aw130:Fact:=⟨13,[],(.bool true),none⟩
theorem Zrj:Zao Tryz.prog aw130.f aw130.args aw130.r aw130.fr:=Zmg (n:=100000) (d:=3) (l:=[aw0,aw95,aw100,aw119,aw102,aw2,aw3,aw78,aw106,aw103,aw20,aw107,aw108,aw109,aw110,aw111,aw114,aw82,aw116,aw118,aw120,aw121,aw129]) follows Zag ⟨ZBV,⟨ZtT,⟨Zri,⟨ZqP,⟨Zm4,⟨Zmq,⟨Zm8,⟨ZlG,⟨ZmY,⟨Zcu,⟨Zc2,⟨Zmu,⟨Zl4,⟨ZmA,⟨ZmB,⟨Zmj,⟨ZlY,⟨Zlq,⟨Zmf,⟨ZlV,⟨Zr0,⟨Zra,⟨ZqJ,trivial⟩⟩⟩⟩⟩⟩⟩⟩⟩⟩⟩⟩⟩⟩⟩⟩⟩⟩⟩⟩⟩⟩⟩ (by kernel_rfl)
theorem awake_ok:Zao Tryz.prog aw130.f aw130.args aw130.r aw130.fr:=Zrj
end Go.Proofs.YtkeoeooghhjibaaGreatDoor
/- Contracts as a list. No condition. -/
namespace Go.Proofs.YtkeoeooghhjibaaGreatDoor
theorem ZqX(ms ks rs:List AV)(h:Zax ms ks rs=true):Zao Tryz.prog 65 [.agg (.gen [.list (.big .str ms), .list (.big (.agg [.str, .int .i64]) ks), .list (.big (.agg [.str, .int .i64, .int .i64, .int .i64, .int .i64]) rs)])] (.int .i64 (ZaC ms ks rs)) none:=
 start (Zvf ms ks rs) fun C hC=>tgo hC Zyd ZEH (by simp[ZBA,h])
def pI:AV→Int
 | .tup [.int _ i,_]=>i
 |_=>0
def pE:AV→Int
 | .tup [_, .int _ e]=>e
 |_=>0
def isP(v:AV):Prop:=∃i e,v=ZlU i e
theorem isP.eq{v:AV}(h:isP v):v=ZlU (pI v) (pE v):=by
 obtain⟨i,e,rfl⟩:=h
 rfl
theorem ZjC{f:Nat→Int} :∀m k,isP (Zfj f m k)
 |0,_=>⟨_,_,rfl⟩
 |m+1,k=>by
  unfold Zfj
  split
  ·exact ZjC m (k+1)
  ·exact⟨_,_,rfl⟩
theorem Zq9(e n:Int)(l:List AV):isP (ZeM e n l):=by
 unfold ZeM
 split
 ·exact ZjC _ _
 ·exact⟨_,_,rfl⟩
def Zk6(e n:Int)(l:List AV):Int:=pI (ZeM e n l)
def ZbA(e n:Int)(l:List AV):Int:=pE (ZeM e n l)
theorem Zpd(e n:Int)(l:List AV):ZeM e n l=.tup [.int .i64 (Zk6 e n l), .int .i64 (ZbA e n l)]:=(Zq9 e n l).eq
theorem ZmW{e n:Int}{l:List AV}(h:e≠0):Zk6 e n l=0∧ZbA e n l=e:=by
 have:Zgb e l=e:=by simp[Zgb,Zaf,h]
 simp[Zk6,ZbA,ZeM,this,h,ZlU,pI,pE]
theorem Zp6(ms ks rs l:List AV)(hs:Zax ms ks rs=true∧l.length≤1000000):Zao Tryz.prog 71 [.agg (.gen [.list (.big .str ms), .list (.big (.agg [.str, .int .i64]) ks), .list (.big (.agg [.str, .int .i64, .int .i64, .int .i64, .int .i64]) rs)]), .list (.big (.agg [.int .i64, .int .i64, .int .i64]) l)] (.tup [.int .i64 (Zk6 (ZaC ms ks rs) ks.length l), .int .i64 (ZbA (ZaC ms ks rs) ks.length l)]) none:=by
 rw[←Zpd]
 exact Zr4 ms ks rs l hs.1 hs.2
theorem Zn1(ms ks rs l:List AV)(hs:ks.length≤1000000∧l.length≤1000000):Zao Tryz.prog 76 [.agg (.gen [.list (.big .str ms), .list (.big (.agg [.str, .int .i64]) ks), .list (.big (.agg [.str, .int .i64, .int .i64, .int .i64, .int .i64]) rs)]), .list (.big (.agg [.int .i64, .int .i64, .int .i64]) l)] (.tup [.int .i64 (Zk6 0 ks.length l), .int .i64 (ZbA 0 ks.length l)]) none:=by
 rw[←Zpd]
 exact ZpQ ms ks rs l hs.1 hs.2
def k65:Ctr:=⟨65,0,fun _ a=>match a with |[.agg (.gen [.list (.big .str ms), .list (.big (.agg [.str, .int .i64]) ks), .list (.big (.agg [.str, .int .i64, .int .i64, .int .i64, .int .i64]) rs)])]=>some (decide (Zax ms ks rs=true), .int .i64 (ZaC ms ks rs),none) |_=>none⟩
theorem ZBp:k65.OK Tryz.prog:=fun pa args r fr h=>by
 simp only[k65]at h
 split at h
 ·simp only[Option.some.injEq,Prod.mk.injEq,decide_eq_true_eq]at h
  obtain⟨h0,rfl,rfl⟩:=h
  exact ZqX _ _ _ h0
 ·cases h
def k71:Ctr:=⟨71,0,fun _ a=>match a with |[.agg (.gen [.list (.big .str ms), .list (.big (.agg [.str, .int .i64]) ks), .list (.big (.agg [.str, .int .i64, .int .i64, .int .i64, .int .i64]) rs)]), .list (.big (.agg [.int .i64, .int .i64, .int .i64]) l)]=>some (decide (Zax ms ks rs=true∧l.length≤1000000), .tup [.int .i64 (Zk6 (ZaC ms ks rs) ks.length l), .int .i64 (ZbA (ZaC ms ks rs) ks.length l)],none) |_=>none⟩
theorem ZzQ:k71.OK Tryz.prog:=fun pa args r fr h=>by
 simp only[k71]at h
 split at h
 ·simp only[Option.some.injEq,Prod.mk.injEq,decide_eq_true_eq]at h
  obtain⟨h0,rfl,rfl⟩:=h
  exact Zp6 _ _ _ _ h0
 ·cases h
def k76:Ctr:=⟨76,0,fun _ a=>match a with |[.agg (.gen [.list (.big .str _), .list (.big (.agg [.str, .int .i64]) ks), .list (.big (.agg [.str, .int .i64, .int .i64, .int .i64, .int .i64]) _)]), .list (.big (.agg [.int .i64, .int .i64, .int .i64]) l)]=>some (decide (ks.length≤1000000∧l.length≤1000000), .tup [.int .i64 (Zk6 0 ks.length l), .int .i64 (ZbA 0 ks.length l)],none) |_=>none⟩
theorem Zys:k76.OK Tryz.prog:=fun pa args r fr h=>by
 simp only[k76]at h
 split at h
 ·simp only[Option.some.injEq,Prod.mk.injEq,decide_eq_true_eq]at h
  obtain⟨h0,rfl,rfl⟩:=h
  exact Zn1 _ _ _ _ h0
 ·cases h
def k13:Ctr:=⟨13,0,fun _ a=>match a with |[]=>some (true, .bool true,none) |_=>none⟩
theorem ZB9:k13.OK Tryz.prog:=fun pa args r fr h=>by
 simp only[k13]at h
 split at h
 ·cases h
  exact awake_ok
 ·cases h
def B8:List Ctr:=[k65,k71,k76,k13]++B7
theorem ZhD:ZaD Tryz.prog B8:=⟨ZBp,⟨ZzQ,⟨Zys,⟨ZB9,Zyd⟩⟩⟩⟩
end Go.Proofs.YtkeoeooghhjibaaGreatDoor
