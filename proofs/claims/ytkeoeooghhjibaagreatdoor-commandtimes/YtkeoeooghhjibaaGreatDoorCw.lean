/- CheckModel of the reference. No condition. -/
import Derived.Test.YtkeoeooghhjibaaGreatDoorPj
import Derived.KernelRfl
namespace Go.Proofs.YtkeoeooghhjibaaGreatDoor
theorem Ztj{nm:List UInt8}{ex:Int}{xs:List AV}(h:ZaM nm=false):Zcv nm ex xs=4:=by simp[Zcv,Zas,Zaa,h]
theorem Zvs{nm:List UInt8}{ex:Int}{xs:List AV}(h:ZaM nm=true)(h2:Zhr xs nm=true):Zcv nm ex xs=5:=by
 have h3:std.hasS xs nm=true:=h2
 simp[-Zdi,Zcv,Zas,Zaa,h,h3]
theorem Zv3{nm:List UInt8}{ex:Int}{xs:List AV}(h:ZaM nm=true)(h2:Zhr xs nm=false):Zcv nm ex xs=ex:=by
 have h3:std.hasS xs nm=false:=h2
 by_cases h4:ex=0<;>simp[-Zdi,Zcv,Zas,Zaa,h,h3,h4]
theorem Ze8{n m:Int}(hm:0≤m):Zht n m=Zae n (-1) (m-1):=by
 unfold Zht Zae
 by_cases h:n= -1
 ·rw[if_pos h,decide_eq_true (by omega)]
 ·rw[if_neg h]
  by_cases h2:0≤n∧n≤m-1
  ·rw[decide_eq_true h2,decide_eq_true (by omega)]
  ·rw[decide_eq_false h2,decide_eq_false (by omega)]
theorem Ze4(nm:Nat→List UInt8)(ex:Nat→Int)(m k:Nat)(xs:List AV)(p:Int)(d:AV):Zbx p (Zbg nm ex (m+1) k xs) d=if Zcv (nm k) (ex k) xs=0 then Zbx p (Zbg nm ex m (k+1) (xs++[.str (nm k)])) d else Zbf p k (Zcv (nm k) (ex k) xs):=by
 rw[Zbg];split<;>rfl
theorem ZeI(nm:List UInt8)(ex:Int)(xs:List AV):Zcv nm ex xs=if ZaM nm=true then(if Zhr xs nm=true then 5 else ex)else 4:=by
 by_cases h:ZaM nm=true
 ·by_cases h2:Zhr xs nm=true
  ·rw[if_pos h,if_pos h2,Zvs h h2]
  ·rw[if_pos h,if_neg h2,Zv3 h (by simpa using h2)]
 ·rw[if_neg h,Ztj (by simpa using h)]
theorem Zjl(rs:List AV)(k n m:Nat):ZbM rs k n m=if Zae (Zag rs k 1) 0 ((n:Int)-1)=true∧Zae (Zag rs k 2) (-1) ((m:Int)-1)=true∧Zae (Zag rs k 3) (-1) ((n:Int)-1)=true then(if Zae (Zag rs k 4) 1 1000000=true then(if Zag rs k 3= -1∧¬Zag rs k 4=1 then 3 else 0)else 2)else 6:=by
 rw[ZbM,Ze8 (by omega),Ze8 (by omega)]
 by_cases h1:Zae (Zag rs k 1) 0 ((n:Int)-1)=true<;>by_cases h2:Zae (Zag rs k 2) (-1) ((m:Int)-1)=true<;>by_cases h3:Zae (Zag rs k 3) (-1) ((n:Int)-1)=true<;>by_cases h4:Zae (Zag rs k 4) 1 1000000=true<;>by_cases h5:Zag rs k 3= -1<;>by_cases h6:Zag rs k 4=1<;>simp_all[Zas,Zaa]
theorem ZqO{xs ys:List AV}(h:xs.map AV.toS=ys.map AV.toS){s:List UInt8} :Zhr xs s=Zhr ys s:=by
 have e:∀l:List AV,Zhr l s=(l.map AV.toS).any (· ==s):=fun l=>by simp[Zhr,List.any_map,Function.comp_def]
 rw[e,e,h]
theorem Zmp(ks:List AV)(k m:Nat):ZcK ks k m=if Zae (Zag ks k 1) (-1) ((m:Int)-1)=true then 0 else 6:=by
 rw[ZcK,Ze8 (by omega)];split<;>simp_all[Zaa]
section
variable {C:Ctx}(hC:C.P=Tryz.prog)(ms ks rs:List AV)(hs:ZaB ms ks rs=true)
include hC hs
theorem ZwJ:∀(m k:Nat) (xs:List AV),k+m=rs.length→xs.length≤k→Ev C (Zes ms ks rs k xs) (ZdD ms ks rs k xs)
 (Zb3 119 (Zbx 3 (Zbg (fun k=>Zau rs k) (fun k=>ZbM rs k ks.length ms.length) m k xs) (Zbf 0 0 0)) none)
 |0,k,xs,hk,hx=>tgo hC Zen ZfT (by simp[Zdm,show ¬(k:Int)<rs.length by omega];rfl)
 |m+1,k,xs,hk,hx=>by
  have hs':=hs
  simp only[ZaB,Bool.and_eq_true,decide_eq_true_eq]at hs'
  have hn:=Zb1 hs'.1.2 (show k<rs.length by omega)
  have hlt:(k:Int)<rs.length:=by omega
  have hlt2:k<rs.length:=by omega
  have e0:((rs.getD k .top).cellAt 0).toS=Zau rs k:=rfl
  have e1:((rs.getD k .top).cellAt 1).toI=Zag rs k 1:=rfl
  have e2:((rs.getD k .top).cellAt 2).toI=Zag rs k 2:=rfl
  have e3:((rs.getD k .top).cellAt 3).toI=Zag rs k 3:=rfl
  have e4:((rs.getD k .top).cellAt 4).toI=Zag rs k 4:=rfl
  have ih:=ZwJ m (k+1) (xs++[.str (Zau rs k)]) (by omega) (by simp;omega)
  obtain⟨V,hV⟩:∃V,V=Zbx 3 (Zbg (fun k=>Zau rs k) (fun k=>ZbM rs k ks.length ms.length) (m+1) k xs) (Zbf 0 0 0):=⟨_,rfl⟩
  rw[←hV]
  rw[Ze4,ZeI,Zjl]at hV
  refine tgo hC Zen ZfT ?_
  simp[-List.getD_eq_getElem?_getD,Zdm,e0,e1,e2,e3,e4,hlt,hlt2,hn,AV.bx,Zai]
  clear e0 e1 e2 e3 e4 hs
  replace hs':=hs'.2
  generalize Zau rs k=nm at*
  generalize Zag rs k 1=f1 at*
  generalize Zag rs k 2=f2 at*
  generalize Zag rs k 3=f3 at*
  generalize Zag rs k 4=f4 at*
  repeat' (first |split |apply And.intro)
  all_goals first |omega |skip
  all_goals (clear hs';simp_all[Zbf])
theorem Zxw:∀m:Nat,m=rs.length→Ev C (ZcU ms ks rs) (Zcn ms ks rs)
 (Zb3 119 (Zbx 3 (Zbg (fun k=>Zau rs k) (fun k=>ZbM rs k ks.length ms.length) m 0 []) (Zbf 0 0 0)) none)
 |0,hk=>tgo hC Zen Zf3 (by simp[Zdl,←hk];rfl)
 |m+1,hk=>by
  have hs':=hs
  simp only[ZaB,Bool.and_eq_true,decide_eq_true_eq]at hs'
  have hn:=Zb1 hs'.1.2 (show 0<rs.length by omega)
  have hlt:(0:Int)<rs.length:=by omega
  have hlt2:0<rs.length:=by omega
  have e0:((rs.getD 0 .top).cellAt 0).toS=Zau rs 0:=rfl
  have e1:((rs.getD 0 .top).cellAt 1).toI=Zag rs 0 1:=rfl
  have e2:((rs.getD 0 .top).cellAt 2).toI=Zag rs 0 2:=rfl
  have e3:((rs.getD 0 .top).cellAt 3).toI=Zag rs 0 3:=rfl
  have e4:((rs.getD 0 .top).cellAt 4).toI=Zag rs 0 4:=rfl
  have ih:=ZwJ hC ms ks rs hs m 1 [.str (Zau rs 0)] (by omega) (by simp)
  obtain⟨V,hV⟩:∃V,V=Zbx 3 (Zbg (fun k=>Zau rs k) (fun k=>ZbM rs k ks.length ms.length) (m+1) 0 []) (Zbf 0 0 0):=⟨_,rfl⟩
  rw[←hV]
  rw[Ze4,ZeI,Zjl]at hV
  refine tgo hC Zen Zf3 ?_
  simp[-List.getD_eq_getElem?_getD,Zdl,e0,e1,e2,e3,e4,hlt,hlt2,hn,AV.bx,Zai]
  clear e0 e1 e2 e3 e4 hs
  replace hs':=hs'.2
  generalize Zau rs 0=nm at*
  generalize Zag rs 0 1=f1 at*
  generalize Zag rs 0 2=f2 at*
  generalize Zag rs 0 3=f3 at*
  generalize Zag rs 0 4=f4 at*
  repeat' (first |split |apply And.intro)
  all_goals first |omega |skip
  all_goals (clear hs';simp_all[Zbf,Zhr])
end
def dB(ms ks rs:List AV):AV:=if 10<rs.length then Zbf 3 0 8 else ZpB ms ks rs
theorem ZyB(ms ks rs:List AV):(if Zce (decide (0≤(rs.length:Int))) (decide ((rs.length:Int)≤10))=0 then ZpB ms ks rs else Zbf 3 0 (Zce (decide (0≤(rs.length:Int))) (decide ((rs.length:Int)≤10))))=dB ms ks rs:=by
 unfold dB
 by_cases h:10<rs.length
 ·rw[if_pos h,decide_eq_true (by omega:(0:Int)≤(rs.length:Int)),decide_eq_false (by omega:¬(rs.length:Int)≤10)];rfl
 ·rw[if_neg h,decide_eq_true (by omega:(0:Int)≤(rs.length:Int)),decide_eq_true (by omega:(rs.length:Int)≤10)];rfl
def dA(ms ks rs:List AV):AV:=if ks.length=0 then Zbf 2 0 10 else if 8<ks.length then Zbf 2 0 8 else Zm5 ms ks rs
theorem ZAB(ms ks rs:List AV):(if Zce (decide (1≤(ks.length:Int))) (decide ((ks.length:Int)≤8))=0 then Zm5 ms ks rs else Zbf 2 0 (Zce (decide (1≤(ks.length:Int))) (decide ((ks.length:Int)≤8))))=dA ms ks rs:=by
 unfold dA
 by_cases h:ks.length=0
 ·rw[if_pos h,decide_eq_false (by omega:¬(1:Int)≤(ks.length:Int))];rfl
 ·rw[if_neg h,decide_eq_true (by omega:(1:Int)≤(ks.length:Int))]
  by_cases h2:8<ks.length
  ·rw[if_pos h2,decide_eq_false (by omega:¬(ks.length:Int)≤8)];rfl
  ·rw[if_neg h2,decide_eq_true (by omega:(ks.length:Int)≤8)];rfl
theorem Zkw(ms ks rs:List AV):Zeb ms ks rs=if ms.length=0 then Zbf 1 0 10 else if 6<ms.length then Zbf 1 0 8 else Zrj ms ks rs:=by
 unfold Zeb
 by_cases h:ms.length=0
 ·rw[if_pos h,decide_eq_false (by omega:¬(1:Int)≤(ms.length:Int))];rfl
 ·rw[if_neg h,decide_eq_true (by omega:(1:Int)≤(ms.length:Int))]
  by_cases h2:6<ms.length
  ·rw[if_pos h2,decide_eq_false (by omega:¬(ms.length:Int)≤6)];rfl
  ·rw[if_neg h2,decide_eq_true (by omega:(ms.length:Int)≤6)];rfl
section
variable {C:Ctx}(hC:C.P=Tryz.prog)(ms ks rs:List AV)(hs:ZaB ms ks rs=true)
include hC hs
theorem ZwC:Ev C (ZcU ms ks rs) (Zcn ms ks rs) (Zb3 119 (ZpB ms ks rs) none):=Zxw hC ms ks rs hs _ rfl
theorem ZzC:∀(m k:Nat) (xs:List AV),k+m=ks.length→xs.length≤k→Ev C (Zek ms ks rs k xs) (Zdn ms ks rs k xs)
 (Zb3 119 (Zbx 2 (Zbg (fun k=>Zau ks k) (fun k=>ZcK ks k ms.length) m k xs) (dB ms ks rs)) none)
 |0,k,xs,hk,hx=>by
  refine tgo hC Zen Zga ?_
  by_cases h:10<rs.length
  ·simp[Zcj,show ¬(k:Int)<ks.length by omega,Zbg,Zbx,dB,h,show(10:Int)<rs.length by omega,Zbf]
  ·simp[Zcj,show ¬(k:Int)<ks.length by omega,Zbg,Zbx,dB,h,show ¬(10:Int)<rs.length by omega]
   exact ZwC hC ms ks rs hs
 |m+1,k,xs,hk,hx=>by
  have hs':=hs
  simp only[ZaB,Bool.and_eq_true,decide_eq_true_eq]at hs'
  have hn:=Zb1 hs'.1.1.2 (show k<ks.length by omega)
  have hlt:(k:Int)<ks.length:=by omega
  have hlt2:k<ks.length:=by omega
  have e0:((ks.getD k .top).cellAt 0).toS=Zau ks k:=rfl
  have e1:((ks.getD k .top).cellAt 1).toI=Zag ks k 1:=rfl
  have ih:=ZzC m (k+1) (xs++[.str (Zau ks k)]) (by omega) (by simp;omega)
  obtain⟨V,hV⟩:∃V,V=Zbx 2 (Zbg (fun k=>Zau ks k) (fun k=>ZcK ks k ms.length) (m+1) k xs) (dB ms ks rs):=⟨_,rfl⟩
  rw[←hV]
  rw[Ze4,ZeI,Zmp]at hV
  refine tgo hC Zen Zga ?_
  simp[-List.getD_eq_getElem?_getD,Zcj,e0,e1,hlt,hlt2,hn,AV.bx,Zai]
  clear e0 e1 hs
  replace hs':=hs'.2
  generalize Zau ks k=nm at*
  generalize Zag ks k 1=f1 at*
  repeat' (first |split |apply And.intro)
  all_goals first |omega |skip
  all_goals (clear hs';simp_all[Zbf])
theorem ZAT:∀m:Nat,m=ks.length→Ev C (ZcY ms ks rs) (Zci ms ks rs)
 (Zb3 119 (Zbx 2 (Zbg (fun k=>Zau ks k) (fun k=>ZcK ks k ms.length) m 0 []) (dB ms ks rs)) none)
 |0,hk=>by
  refine tgo hC Zen Zf1 ?_
  by_cases h:10<rs.length
  ·simp[Zcl,←hk,Zbg,Zbx,dB,h,show(10:Int)<rs.length by omega,Zbf]
  ·simp[Zcl,←hk,Zbg,Zbx,dB,h,show ¬(10:Int)<rs.length by omega]
   exact ZwC hC ms ks rs hs
 |m+1,hk=>by
  have hs':=hs
  simp only[ZaB,Bool.and_eq_true,decide_eq_true_eq]at hs'
  have hn:=Zb1 hs'.1.1.2 (show 0<ks.length by omega)
  have hlt:(0:Int)<ks.length:=by omega
  have hlt2:0<ks.length:=by omega
  have e0:((ks.getD 0 .top).cellAt 0).toS=Zau ks 0:=rfl
  have e1:((ks.getD 0 .top).cellAt 1).toI=Zag ks 0 1:=rfl
  have ih:=ZzC hC ms ks rs hs m 1 [.str (Zau ks 0)] (by omega) (by simp)
  obtain⟨V,hV⟩:∃V,V=Zbx 2 (Zbg (fun k=>Zau ks k) (fun k=>ZcK ks k ms.length) (m+1) 0 []) (dB ms ks rs):=⟨_,rfl⟩
  rw[←hV]
  rw[Ze4,ZeI,Zmp]at hV
  refine tgo hC Zen Zf1 ?_
  simp[-List.getD_eq_getElem?_getD,Zcl,e0,e1,hlt,hlt2,hn,AV.bx,Zai]
  clear e0 e1 hs
  replace hs':=hs'.2
  generalize Zau ks 0=nm at*
  generalize Zag ks 0 1=f1 at*
  repeat' (first |split |apply And.intro)
  all_goals first |omega |skip
  all_goals (clear hs';simp_all[Zbf,Zhr])
theorem ZC0:Ev C (ZcY ms ks rs) (Zci ms ks rs) (Zb3 119 (Zm5 ms ks rs) none):=by
 have:=ZAT hC ms ks rs hs _ rfl
 rw[←ZyB]at this
 exact this
theorem Zz4:∀(m k:Nat) (xs:List AV),k+m=ms.length→xs.map AV.toS=(ms.take k).map AV.toS→Ev C (Zem ms ks rs k) (Zdo ms ks rs k)
 (Zb3 119 (Zbx 1 (Zbg (fun k=>Za2 ms k) (fun _=>0) m k xs) (dA ms ks rs)) none)
 |0,k,xs,hk,hx=>by
  refine tgo hC Zen Zf4 ?_
  by_cases h0:ks.length=0
  ·simp[ZbK,show ¬(k:Int)<ms.length by omega,Zbg,Zbx,dA,h0,Zbf]
  ·by_cases h:8<ks.length
   ·simp[ZbK,show ¬(k:Int)<ms.length by omega,Zbg,Zbx,dA,h0,h,show(8:Int)<ks.length by omega,Zbf]
   ·simp[ZbK,show ¬(k:Int)<ms.length by omega,Zbg,Zbx,dA,h0,h,show ¬(8:Int)<ks.length by omega]
    exact ZC0 hC ms ks rs hs
 |m+1,k,xs,hk,hx=>by
  have hs':=hs
  simp only[ZaB,Bool.and_eq_true,decide_eq_true_eq]at hs'
  have hn:=Ziw hs'.1.1.1 (show k<ms.length by omega)
  have hlt:(k:Int)<ms.length:=by omega
  have hlt2:k<ms.length:=by omega
  have e0:(ms.getD k .top).toS=Za2 ms k:=rfl
  have ih:=Zz4 m (k+1) (xs++[.str (Za2 ms k)]) (by omega) (by
   rw[List.map_append,hx,List.take_succ_eq_append_getElem hlt2,List.map_append]
   congr 1
   simp[Za2,AV.toS,hlt2])
  have hh:Zhr (ms.take k) (Za2 ms k)=Zhr xs (Za2 ms k):=ZqO hx.symm
  obtain⟨V,hV⟩:∃V,V=Zbx 1 (Zbg (fun k=>Za2 ms k) (fun _=>0) (m+1) k xs) (dA ms ks rs):=⟨_,rfl⟩
  rw[←hV]
  rw[Ze4,ZeI]at hV
  refine tgo hC Zen Zf4 ?_
  simp[-List.getD_eq_getElem?_getD,ZbK,e0,hlt,hlt2,hn,hh]
  clear e0 hs hx hh
  replace hs':=hs'.2
  generalize Za2 ms k=nm at*
  repeat' (first |split |apply And.intro)
  all_goals first |omega |skip
  all_goals (clear hs';simp_all[Zbf])
end
theorem Zq5(ms ks rs:List AV)(hs:ZaB ms ks rs=true):Zan Tryz.prog 119 [.agg (.gen [.list (.big .str ms), .list (.big (.agg [.str, .int .i64]) ks), .list (.big (.agg [.str, .int .i64, .int .i64, .int .i64, .int .i64]) rs)])] (.tup [.agg (.gen [.int .i64 (Zkk ms ks rs), .int .i64 (Zkn ms ks rs)]), .int .i64 (ZaJ ms ks rs)]) none:=by
 rw[show AV.tup [.agg (.gen [.int .i64 (Zkk ms ks rs), .int .i64 (Zkn ms ks rs)]), .int .i64 (ZaJ ms ks rs)]=Zeb ms ks rs from(Zkx ms ks rs).eq.symm]
 refine start (Zp2 ms ks rs) fun C hC=>tgo hC Zen ZAF ?_
 rw[Zkw]
 by_cases h0:ms.length=0
 ·simp[Zmm,h0,Zbf]
 ·by_cases h:6<ms.length
  ·simp[Zmm,h0,h,show(6:Int)<ms.length by omega,Zbf]
  ·simp[Zmm,h0,h,show ¬(6:Int)<ms.length by omega]
   have:=Zz4 hC ms ks rs hs ms.length 0 [] (by omega) (by simp)
   rw[Zrj,ZAB]
   exact this
end Go.Proofs.YtkeoeooghhjibaaGreatDoor
/- ForbiddenBy of both packages. No condition. -/
namespace Go.Proofs.YtkeoeooghhjibaaGreatDoor
def Zhw(rs:List AV)(a b:Int)(xs:List Int)(k:Int)(i:Nat):Bool:=decide (Zag rs i 1=k∧(Zag rs i 2= -1∨Zag rs i 2=a)∧(Zag rs i 3= -1∨(xs.getD (Zag rs i 3).toNat 0≠ -1∧b-xs.getD (Zag rs i 3).toNat 0<Zag rs i 4)))
def Zc7(rs:List AV)(a b:Int)(xs:List Int)(k:Int):Nat→Nat→List UInt8
 |0,_=>[]
 |m+1,i=>if Zhw rs a b xs k i=true then Zau rs i else Zc7 rs a b xs k m (i+1)
def Zba(rs:List AV)(b:Int)(xs:List Int):Bool:=((List.range rs.length).all fun i=>decide (-1≤Zag rs i 3∧Zag rs i 3<xs.length))&&(xs.all fun x=>decide (-1≤x∧x≤b))&&decide (0≤b∧b≤1000000000000∧rs.length≤1000000)
theorem Zgs{rs:List AV}{b:Int}{xs:List Int}(h:Zba rs b xs=true){k:Nat}(hk:k<rs.length):(-1≤Zag rs k 3∧Zag rs k 3<xs.length)∧(Zag rs k 3≠ -1→ -1≤xs.getD (Zag rs k 3).toNat 0∧xs.getD (Zag rs k 3).toNat 0≤b)∧0≤b∧b≤1000000000000∧rs.length≤1000000:=by
 simp only[Zba,Bool.and_eq_true,List.all_eq_true,decide_eq_true_eq,List.mem_range]at h
 obtain⟨⟨h1,h2⟩,h3⟩:=h
 refine⟨h1 k hk,fun h4=>?_,h3⟩
 have h5:=h1 k hk
 have h6:(Zag rs k 3).toNat<xs.length:=by omega
 refine h2 _ ?_
 rw[List.getD_eq_getElem?_getD,List.getElem?_eq_getElem h6];exact List.getElem_mem h6
theorem ZjD{C:Ctx}(hC:C.P=Tryz.prog)(ms ks rs:List AV)(a b:Int)(xs:List Int)(q:Int)(hg:Zba rs b xs=true):∀m k:Nat,k+m=rs.length→Ev C (Zex ms ks rs a b xs q k) (ZdX ms ks rs a b xs q k) (Zb3 86 (.str (Zc7 rs a b xs q m k)) none)
 |0,k,hk=>tgo hC Zen Zin (by simp[Ze1,show ¬(k:Int)<rs.length by omega];rfl)
 |m+1,k,hk=>by
  have hlt:(k:Int)<rs.length:=by omega
  have hlt2:k<rs.length:=by omega
  have e0:((rs.getD k .top).cellAt 0).toS=Zau rs k:=rfl
  have e1:((rs.getD k .top).cellAt 1).toI=Zag rs k 1:=rfl
  have e2:((rs.getD k .top).cellAt 2).toI=Zag rs k 2:=rfl
  have e3:((rs.getD k .top).cellAt 3).toI=Zag rs k 3:=rfl
  have e4:((rs.getD k .top).cellAt 4).toI=Zag rs k 4:=rfl
  have ih:=ZjD hC ms ks rs a b xs q hg m (k+1) (by omega)
  refine tgo hC Zen Zin ?_
  simp[-List.getD_eq_getElem?_getD,Ze1,e0,e1,e2,e3,e4,hlt,hlt2]
  obtain⟨V,hV⟩:∃V,V=Zc7 rs a b xs q (m+1) k:=⟨_,rfl⟩
  rw[←hV]
  simp only[Zc7,Zhw,decide_eq_true_eq]at hV
  have g:=Zgs hg hlt2
  clear e0 e1 e2 e3 e4 hg
  generalize Zau rs k=nm at*
  generalize Zag rs k 1=f1 at*
  generalize Zag rs k 2=f2 at*
  generalize Zag rs k 3=f3 at*
  generalize Zag rs k 4=f4 at*
  generalize xs.getD f3.toNat 0=t at*
  have r3: -9223372036854775808≤(k:Int)+1∧(k:Int)+1≤9223372036854775807:=by omega
  have r1:f3≠ -1→(0≤f3∧f3.toNat<xs.length)∧(-9223372036854775808≤b-t∧b-t≤9223372036854775807):=by omega
  have ih':Ev C (Zex ms ks rs a b xs q (k+1)) (ZdX ms ks rs a b xs q (k+1)) (Zb3 86 (.str (Zc7 rs a b xs q m (k+1))) none):=ih
  clear hk hlt hlt2 g ih
  by_cases h1:f1=q<;>by_cases h2:f2= -1<;>by_cases h3:f2=a<;>by_cases h4:f3= -1<;>by_cases h5:t= -1<;>by_cases h6:b-t<f4<;>simp_all<;>(intro h7;omega)
theorem Zn4(ms ks rs:List AV)(a b:Int)(xs:List Int)(q:Int)(hg:Zba rs b xs=true):Zan Tryz.prog 86 [.agg (.gen [.list (.big .str ms), .list (.big (.agg [.str, .int .i64]) ks), .list (.big (.agg [.str, .int .i64, .int .i64, .int .i64, .int .i64]) rs)]), .agg (.gen [.int .i64 a, .int .i64 b, .list (.ints .i64 xs)]), .int .i64 q] (.str (Zc7 rs a b xs q rs.length 0)) none:=
 start (ZuU ms ks rs a b xs q) fun C hC=>tgo hC Zen ZCB (ZjD hC ms ks rs a b xs q hg rs.length 0 (by omega))
theorem firstE_zero:∀ {l:List Int},Zas l=0↔∀x∈l,x=0
 |[]=>by simp[Zas]
 |x::l=>by
  have ih:=firstE_zero (l:=l)
  by_cases h:x=0
  ·simp[Zas,h,ih]
  ·simp[Zas,h]
theorem Zbq{b:Bool}{e:Int}(h:Zaa b e=0)(he:e≠0):b=true:=by
 cases b
 ·exact absurd h he
 ·rfl
theorem Zi4{nm:Nat→List UInt8}{ex:Nat→Int}{p:Int}{d:AV} :∀(m k:Nat) (xs:List AV),mE (Zbx p (Zbg nm ex m k xs) d)=0→mE d=0∧∀i,k≤i→i<k+m→ZaM (nm i)=true∧ex i=0
 |0,k,xs,h=>⟨h,fun i h1 h2=>by omega⟩
 |m+1,k,xs,h=>by
  rw[Ze4]at h
  split at h
  ·rename_i hs
   obtain⟨h1,h2⟩:=Zi4 m (k+1) _ h
   refine⟨h1,fun i h3 h4=>?_⟩
   by_cases hi:i=k
   ·subst hi
    obtain⟨g1,_,g3⟩:=ZrL hs
    exact⟨Zbq g1 (by decide),g3⟩
   ·exact h2 i (by omega) (by omega)
  ·rename_i hs
   exact absurd h hs
theorem ZmW{ms ks rs:List AV}(h:ZaJ ms ks rs=0):(1≤ms.length∧ms.length≤6)∧(1≤ks.length∧ks.length≤8)∧rs.length≤10∧(∀i<ms.length,ZaM (Za2 ms i)=true)∧(∀i<ks.length,ZaM (Zau ks i)=true∧ZcK ks i ms.length=0)∧(∀i<rs.length,ZaM (Zau rs i)=true∧ZbM rs i ks.length ms.length=0):=by
 unfold ZaJ at h
 rw[Zkw]at h
 split at h
 ·cases h
 ·split at h
  ·cases h
  ·rw[Zrj,ZAB]at h
   obtain⟨h1,h2⟩:=Zi4 _ _ _ h
   unfold dA at h1
   split at h1
   ·cases h1
   ·split at h1
    ·cases h1
    ·rw[Zm5,ZyB]at h1
     obtain⟨h3,h4⟩:=Zi4 _ _ _ h1
     unfold dB at h3
     split at h3
     ·cases h3
     ·obtain⟨_,h5⟩:=Zi4 _ _ _ h3
      exact⟨by omega,by omega,by omega,fun i hi=>(h2 i (by omega) (by omega)).1,fun i hi=>h4 i (by omega) (by omega),fun i hi=>h5 i (by omega) (by omega)⟩
theorem within_iff{n a b:Int} :Zae n a b=true↔a≤n∧n≤b:=by simp[Zae]
theorem ZgF{rs:List AV}{i n m:Nat}(h:ZbM rs i n m=0):(0≤Zag rs i 1∧Zag rs i 1<n)∧(-1≤Zag rs i 2∧Zag rs i 2<m)∧(-1≤Zag rs i 3∧Zag rs i 3<n)∧(1≤Zag rs i 4∧Zag rs i 4≤1000000)∧(Zag rs i 3= -1→Zag rs i 4=1):=by
 rw[Zjl]at h
 simp only[within_iff]at h
 split at h
 ·split at h
  ·split at h
   ·cases h
   ·rename_i h1 h2 h3
    exact⟨by omega,by omega,by omega,by omega,fun h4=>by simpa[h4]using h3⟩
  ·cases h
 ·cases h
end Go.Proofs.YtkeoeooghhjibaaGreatDoor
/- Contracts as a list. No condition. -/
namespace Go.Proofs.YtkeoeooghhjibaaGreatDoor
def k119:Ctr:=⟨119,0,fun _ a=>match a with |[.agg (.gen [.list (.big .str ms), .list (.big (.agg [.str, .int .i64]) ks), .list (.big (.agg [.str, .int .i64, .int .i64, .int .i64, .int .i64]) rs)])]=>some (decide (ZaB ms ks rs=true), .tup [.agg (.gen [.int .i64 (Zkk ms ks rs), .int .i64 (Zkn ms ks rs)]), .int .i64 (ZaJ ms ks rs)],none) |_=>none⟩
theorem ZsI:k119.OK Tryz.prog:=fun pa args r fr h=>by
 simp only[k119]at h
 split at h
 ·simp only[Option.some.injEq,Prod.mk.injEq,decide_eq_true_eq]at h
  obtain⟨h0,rfl,rfl⟩:=h
  exact Zq5 _ _ _ h0
 ·cases h
def k86:Ctr:=⟨86,0,fun _ a=>match a with |[.agg (.gen [.list (.big .str _), .list (.big (.agg [.str, .int .i64]) _), .list (.big (.agg [.str, .int .i64, .int .i64, .int .i64, .int .i64]) rs)]), .agg (.gen [.int .i64 a, .int .i64 b, .list (.ints .i64 xs)]), .int .i64 q]=>some (decide (Zba rs b xs=true), .str (Zc7 rs a b xs q rs.length 0),none) |_=>none⟩
theorem ZAP:k86.OK Tryz.prog:=fun pa args r fr h=>by
 simp only[k86]at h
 split at h
 ·simp only[Option.some.injEq,Prod.mk.injEq,decide_eq_true_eq]at h
  obtain⟨h0,rfl,rfl⟩:=h
  exact Zn4 _ _ _ _ _ _ _ h0
 ·cases h
def B7:List Ctr:=[k119,k86]++B6
theorem ZwO:ZaK Tryz.prog B7:=⟨ZsI,⟨ZAP,Zen⟩⟩
end Go.Proofs.YtkeoeooghhjibaaGreatDoor
/- Paths of functions, printed by the explorer (Gx). No condition. -/
namespace Go.Proofs.YtkeoeooghhjibaaGreatDoor
set_option maxRecDepth 100000
set_option linter.unusedVariables false
def ZxL(ms ks rs:List AV):AFrame:={ fn:=65,N:=11,env:=[(0,AV.agg (Row.gen [.list (Row.big .str ms), .list (Row.big (.agg [.str, .int .i64]) ks), .list (Row.big (.agg [.str, .int .i64, .int .i64, .int .i64, .int .i64]) rs)]))],todo:=[.code a65.code],defs:=[],rnd:=none,ret:=false,res:=[ARes.tmp 2] }
def ZFZ(ms ks rs:List AV):List AFrame:=[(ZxL ms ks rs)]
theorem ZsA(ms ks rs:List AV):Zat tab 65 [AV.agg (Row.gen [.list (Row.big .str ms), .list (Row.big (.agg [.str, .int .i64]) ks), .list (Row.big (.agg [.str, .int .i64, .int .i64, .int .i64, .int .i64]) rs)])]=some (ZxL ms ks rs):=rfl
def ZyP(A:Ar)(K:KT)(F:FT)(ms ks rs:List AV):Prop:=rB [decide (ZaB ms ks rs=true)] (F (AV.int .i64 (ZaJ ms ks rs)) (none))
theorem ZBY{A:Ar}{K:KT}{F:FT}{M:MT}{ms ks rs:List AV} :ZaI A tab B7 65 K F M (.run 23 (.fn)) (ZFZ ms ks rs) []=ZyP A K F ms ks rs:=by kernel_rfl
end Go.Proofs.YtkeoeooghhjibaaGreatDoor
/- Contracts as a list. No condition. -/
namespace Go.Proofs.YtkeoeooghhjibaaGreatDoor
theorem ZpW(ms ks rs:List AV)(h:ZaB ms ks rs=true):Zan Tryz.prog 65 [.agg (.gen [.list (.big .str ms), .list (.big (.agg [.str, .int .i64]) ks), .list (.big (.agg [.str, .int .i64, .int .i64, .int .i64, .int .i64]) rs)])] (.int .i64 (ZaJ ms ks rs)) none:=
 start (ZsA ms ks rs) fun C hC=>tgo hC ZwO ZBY (by simp[ZyP,h])
def pI:AV→Int
 | .tup [.int _ i,_]=>i
 |_=>0
def pE:AV→Int
 | .tup [_, .int _ e]=>e
 |_=>0
def isP(v:AV):Prop:=∃i e,v=Zln i e
theorem isP.eq{v:AV}(h:isP v):v=Zln (pI v) (pE v):=by
 obtain⟨i,e,rfl⟩:=h
 rfl
theorem Zkf{f:Nat→Int} :∀m k,isP (ZeW f m k)
 |0,_=>⟨_,_,rfl⟩
 |m+1,k=>by
  unfold ZeW
  split
  ·exact Zkf m (k+1)
  ·exact⟨_,_,rfl⟩
theorem Zq7(e n:Int)(l:List AV):isP (ZeR e n l):=by
 unfold ZeR
 split
 ·exact Zkf _ _
 ·exact⟨_,_,rfl⟩
def Zla(e n:Int)(l:List AV):Int:=pI (ZeR e n l)
def Zdq(e n:Int)(l:List AV):Int:=pE (ZeR e n l)
theorem Zpc(e n:Int)(l:List AV):ZeR e n l=.tup [.int .i64 (Zla e n l), .int .i64 (Zdq e n l)]:=(Zq7 e n l).eq
theorem ZqN{e n:Int}{l:List AV}(h:e≠0):Zla e n l=0∧Zdq e n l=e:=by
 have:Zgh e l=e:=by simp[Zgh,Zas,h]
 simp[Zla,Zdq,ZeR,this,h,Zln,pI,pE]
theorem Zpe(ms ks rs l:List AV)(hs:ZaB ms ks rs=true∧l.length≤1000000):Zan Tryz.prog 71 [.agg (.gen [.list (.big .str ms), .list (.big (.agg [.str, .int .i64]) ks), .list (.big (.agg [.str, .int .i64, .int .i64, .int .i64, .int .i64]) rs)]), .list (.big (.agg [.int .i64, .int .i64, .int .i64]) l)] (.tup [.int .i64 (Zla (ZaJ ms ks rs) ks.length l), .int .i64 (Zdq (ZaJ ms ks rs) ks.length l)]) none:=by
 rw[←Zpc]
 exact ZpY ms ks rs l hs.1 hs.2
theorem ZnE(ms ks rs l:List AV)(hs:ks.length≤1000000∧l.length≤1000000):Zan Tryz.prog 76 [.agg (.gen [.list (.big .str ms), .list (.big (.agg [.str, .int .i64]) ks), .list (.big (.agg [.str, .int .i64, .int .i64, .int .i64, .int .i64]) rs)]), .list (.big (.agg [.int .i64, .int .i64, .int .i64]) l)] (.tup [.int .i64 (Zla 0 ks.length l), .int .i64 (Zdq 0 ks.length l)]) none:=by
 rw[←Zpc]
 exact Zor ms ks rs l hs.1 hs.2
def k65:Ctr:=⟨65,0,fun _ a=>match a with |[.agg (.gen [.list (.big .str ms), .list (.big (.agg [.str, .int .i64]) ks), .list (.big (.agg [.str, .int .i64, .int .i64, .int .i64, .int .i64]) rs)])]=>some (decide (ZaB ms ks rs=true), .int .i64 (ZaJ ms ks rs),none) |_=>none⟩
theorem Zyh:k65.OK Tryz.prog:=fun pa args r fr h=>by
 simp only[k65]at h
 split at h
 ·simp only[Option.some.injEq,Prod.mk.injEq,decide_eq_true_eq]at h
  obtain⟨h0,rfl,rfl⟩:=h
  exact ZpW _ _ _ h0
 ·cases h
def k71:Ctr:=⟨71,0,fun _ a=>match a with |[.agg (.gen [.list (.big .str ms), .list (.big (.agg [.str, .int .i64]) ks), .list (.big (.agg [.str, .int .i64, .int .i64, .int .i64, .int .i64]) rs)]), .list (.big (.agg [.int .i64, .int .i64, .int .i64]) l)]=>some (decide (ZaB ms ks rs=true∧l.length≤1000000), .tup [.int .i64 (Zla (ZaJ ms ks rs) ks.length l), .int .i64 (Zdq (ZaJ ms ks rs) ks.length l)],none) |_=>none⟩
theorem ZAc:k71.OK Tryz.prog:=fun pa args r fr h=>by
 simp only[k71]at h
 split at h
 ·simp only[Option.some.injEq,Prod.mk.injEq,decide_eq_true_eq]at h
  obtain⟨h0,rfl,rfl⟩:=h
  exact Zpe _ _ _ _ h0
 ·cases h
def k76:Ctr:=⟨76,0,fun _ a=>match a with |[.agg (.gen [.list (.big .str _), .list (.big (.agg [.str, .int .i64]) ks), .list (.big (.agg [.str, .int .i64, .int .i64, .int .i64, .int .i64]) _)]), .list (.big (.agg [.int .i64, .int .i64, .int .i64]) l)]=>some (decide (ks.length≤1000000∧l.length≤1000000), .tup [.int .i64 (Zla 0 ks.length l), .int .i64 (Zdq 0 ks.length l)],none) |_=>none⟩
theorem Zxg:k76.OK Tryz.prog:=fun pa args r fr h=>by
 simp only[k76]at h
 split at h
 ·simp only[Option.some.injEq,Prod.mk.injEq,decide_eq_true_eq]at h
  obtain⟨h0,rfl,rfl⟩:=h
  exact ZnE _ _ _ _ h0
 ·cases h
def k13:Ctr:=⟨13,0,fun _ a=>match a with |[]=>some (true, .bool true,none) |_=>none⟩
theorem ZxP:k13.OK Tryz.prog:=fun pa args r fr h=>by
 simp only[k13]at h
 split at h
 ·cases h
  exact awake_ok
 ·cases h
def B8:List Ctr:=[k65,k71,k76,k13]++B7
theorem Zhx:ZaK Tryz.prog B8:=⟨Zyh,⟨ZAc,⟨Zxg,⟨ZxP,ZwO⟩⟩⟩⟩
end Go.Proofs.YtkeoeooghhjibaaGreatDoor
/- Paths of functions, printed by the explorer (Gx). No condition. -/
namespace Go.Proofs.YtkeoeooghhjibaaGreatDoor
set_option maxRecDepth 100000
set_option linter.unusedVariables false
def Zx0(ms ks rs l:List AV):AFrame:={ fn:=28,N:=20,env:=[(0,AV.agg (Row.gen [.list (Row.big .str ms), .list (Row.big (.agg [.str, .int .i64]) ks), .list (Row.big (.agg [.str, .int .i64, .int .i64, .int .i64, .int .i64]) rs)])),(1,AV.list (Row.big (.agg [.int .i64, .int .i64, .int .i64]) l))],todo:=[.code a28.code],defs:=[],rnd:=none,ret:=false,res:=[ARes.tmp 4] }
def ZFl(ms ks rs l:List AV):List AFrame:=[(Zx0 ms ks rs l)]
theorem Zv8(ms ks rs l:List AV):Zat tab 28 [AV.agg (Row.gen [.list (Row.big .str ms), .list (Row.big (.agg [.str, .int .i64]) ks), .list (Row.big (.agg [.str, .int .i64, .int .i64, .int .i64, .int .i64]) rs)]),AV.list (Row.big (.agg [.int .i64, .int .i64, .int .i64]) l)]=some (Zx0 ms ks rs l):=rfl
def Zw1(A:Ar)(K:KT)(F:FT)(ms ks rs l:List AV):Prop:=rB [decide (ZaB ms ks rs=true)] (bB (A.not (A.eq (ZaJ ms ks rs) 0)) (F (AV.int .i64 (ZaJ ms ks rs)) (none)) (rB [decide (List.length ks≤1000000∧List.length l≤1000000)] (F (AV.int .i64 (Zdq 0 (↑(List.length ks)) l)) (none))))
theorem ZC4{A:Ar}{K:KT}{F:FT}{M:MT}{ms ks rs l:List AV} :ZaI A tab B8 28 K F M (.run 17 (.tf (.run 6 (.fn)) (.run 19 (.fn)))) (ZFl ms ks rs l) []=Zw1 A K F ms ks rs l:=by kernel_rfl
def ZxV(xs ys:List Int):AFrame:={ fn:=29,N:=26,env:=[(0,AV.list (.ints .i64 xs)),(1,AV.list (.ints .i64 ys))],todo:=[.code a29.code],defs:=[],rnd:=none,ret:=false,res:=[ARes.tmp 4] }
def ZEU(xs ys:List Int):List AFrame:=[(ZxV xs ys)]
theorem Zwk(xs ys:List Int):Zat tab 29 [AV.list (.ints .i64 xs),AV.list (.ints .i64 ys)]=some (ZxV xs ys):=rfl
def ZgT(xs ys:List Int)(n0:Int):List AFrame:=[{ fn:=29,N:=26,env:=[(0,AV.list (.ints .i64 xs)),(1,AV.list (.ints .i64 ys)),(5,AV.int .i64 n0)],todo:=.code (ACode.gh [] Zxr)::ZBn,defs:=[],rnd:=none,ret:=false,res:=[ARes.tmp 4] }]
def ZfD(xs ys:List Int)(n0:Int):Zab:=[]
abbrev ZiK(xs ys:List Int)(n0:Int):List AFrame×Zab:=(ZgT xs ys n0,ZfD xs ys n0)
def ZuN(A:Ar)(K:KT)(F:FT)(xs ys:List Int):Prop:=bB (A.not (A.eq (A.int (A.len xs)) (A.int (A.len ys)))) (F (AV.bool false) (none)) (K (ZiK (xs) (ys) (0)))
theorem ZCs{A:Ar}{K:KT}{F:FT}{M:MT}{xs ys:List Int} :ZaI A tab B8 29 K F M (.run 13 (.tf (.run 5 (.fn)) (.run 9 (.hd)))) (ZEU xs ys) []=ZuN A K F xs ys:=by kernel_rfl
def ZdU(A:Ar)(K:KT)(F:FT)(xs ys:List Int)(n0:Int):Prop:=bB (A.lt n0 (A.int (A.len xs))) (rB [Zaf (Zaf (A.le 0 n0) (Nat.blt (A.nat n0) (A.len ys))) true,Zaf (Zaf (A.le 0 n0) (Nat.blt (A.nat n0) (A.len xs))) true] (bB (A.not (A.eq (A.nth xs (A.nat n0)) (A.nth ys (A.nat n0)))) (F (AV.bool false) (none)) (rB [A.inR .i64 (A.add n0 1)] (K (ZiK (xs) (ys) (A.add n0 1)))))) (F (AV.bool true) (none))
theorem Ziz{A:Ar}{K:KT}{F:FT}{M:MT}{xs ys:List Int}{n0:Int} :ZaI A tab B8 29 K F M (.run 9 (.tf (.run 6 (.tf (.run 5 (.fn)) (.run 9 (.hd)))) (.run 6 (.fn)))) (ZgT xs ys n0) (ZfD xs ys n0)=ZdU A K F xs ys n0:=by kernel_rfl
def Zze(ms ks rs:List AV):AFrame:={ fn:=77,N:=19,env:=[(0,AV.agg (Row.gen [.list (Row.big .str ms), .list (Row.big (.agg [.str, .int .i64]) ks), .list (Row.big (.agg [.str, .int .i64, .int .i64, .int .i64, .int .i64]) rs)]))],todo:=[.code a77.code],defs:=[],rnd:=none,ret:=false,res:=[ARes.cell 2 true 3] }
def ZGc(ms ks rs:List AV):List AFrame:=[(Zze ms ks rs)]
theorem ZsJ(ms ks rs:List AV):Zat tab 77 [AV.agg (Row.gen [.list (Row.big .str ms), .list (Row.big (.agg [.str, .int .i64]) ks), .list (Row.big (.agg [.str, .int .i64, .int .i64, .int .i64, .int .i64]) rs)])]=some (Zze ms ks rs):=rfl
def Zky(ms ks rs:List AV):List AFrame:=[{ fn:=77,N:=19,env:=[(1,AV.ptr 77002 0 0 0),(2,AV.ptr 77003 0 0 0),(3,AV.ptr 77004 0 0 0),(4,AV.int .i64 0)],todo:=.code (ACode.gh [] ZsQ)::Zz2,defs:=[],rnd:=none,ret:=false,res:=[ARes.cell 2 true 3] }]
def ZiH(ms ks rs:List AV):Zab:=[(77002,{ base:=0,blks:=[Blk.row 26 3 (Row.gen [AV.agg (Row.gen [AV.list (Row.big .str ms),AV.list (Row.big (.agg [.str, .int .i64]) ks),AV.list (Row.big (.agg [.str, .int .i64, .int .i64, .int .i64, .int .i64]) rs)])])] }),(77003,{ base:=0,blks:=[Blk.row 76 3 (Row.gen [AV.agg (Row.gen [AV.int .i64 0,AV.int .i64 0,AV.nils])])] }),(77004,{ base:=0,blks:=[Blk.row 76 3 (Row.gen [AV.agg (Row.gen [AV.int .i64 0,AV.int .i64 0,AV.nils])])] })]
abbrev ZmD(ms ks rs:List AV):List AFrame×Zab:=(Zky ms ks rs,ZiH ms ks rs)
def ZgB(ms ks rs:List AV)(n0:Int)(l1:List Int):List AFrame:=[{ fn:=77,N:=19,env:=[(1,AV.ptr 77002 0 0 0),(2,AV.ptr 77003 0 0 0),(3,AV.ptr 77004 0 0 0),(4,AV.int .i64 n0)],todo:=.code (ACode.gh [] ZsQ)::Zz2,defs:=[],rnd:=none,ret:=false,res:=[ARes.cell 2 true 3] }]
def Zfy(ms ks rs:List AV)(n0:Int)(l1:List Int):Zab:=[(77002,{ base:=0,blks:=[Blk.row 26 3 (Row.gen [AV.agg (Row.gen [AV.list (Row.big .str ms),AV.list (Row.big (.agg [.str, .int .i64]) ks),AV.list (Row.big (.agg [.str, .int .i64, .int .i64, .int .i64, .int .i64]) rs)])])] }),(77003,{ base:=0,blks:=[Blk.row 76 3 (Row.gen [AV.agg (Row.gen [AV.int .i64 0,AV.int .i64 0,AV.nils])])] }),(77004,{ base:=0,blks:=[Blk.row 76 3 (Row.gen [AV.agg (Row.gen [AV.int .i64 0,AV.int .i64 0,AV.row 77017 0])])] }),(77017,{ base:=0,blks:=[Blk.row 3 1 (.ints .i64 l1)] })]
abbrev ZiI(ms ks rs:List AV)(n0:Int)(l1:List Int):List AFrame×Zab:=(ZgB ms ks rs n0 l1,Zfy ms ks rs n0 l1)
def Zyb(A:Ar)(K:KT)(F:FT)(ms ks rs:List AV):Prop:=K (ZmD (ms) (ks) (rs))
theorem ZCY{A:Ar}{K:KT}{F:FT}{M:MT}{ms ks rs:List AV} :ZaI A tab B8 77 K F M (.run 19 (.hd)) (ZGc ms ks rs) []=Zyb A K F ms ks rs:=by kernel_rfl
def Ze5(A:Ar)(K:KT)(F:FT)(ms ks rs:List AV):Prop:=bB (A.lt 0 (A.int (A.lenA ks))) (rB [A.inR .i64 (A.add 0 1),Zaf (Nat.ble (A.len [-1]) 4294967296) (Nat.blt 0 (A.len [-1])),List.all [AV.int .i64 (-1)] fun x=>AV.bx x&&Nat.beq (Zai A x) 1] (K (ZiI (ms) (ks) (rs) (A.add 0 1) ([-1])))) (F (AV.agg (Row.gen [.int .i64 0, .int .i64 0,AV.nils])) (none))
theorem ZnN{A:Ar}{K:KT}{F:FT}{M:MT}{ms ks rs:List AV} :ZaI A tab B8 77 K F M (.run 10 (.tf (.run 19 (.hd)) (.run 7 (.fn)))) (Zky ms ks rs) (ZiH ms ks rs)=Ze5 A K F ms ks rs:=by kernel_rfl
def Zfz(A:Ar)(K:KT)(F:FT)(ms ks rs:List AV)(n0:Int)(l1:List Int):Prop:=bB (A.lt n0 (A.int (A.lenA ks))) (rB [A.inR .i64 (A.add n0 1),Nat.ble (A.len l1+A.len [-1]) 4294967296,List.all [AV.int .i64 (-1)] fun x=>AV.bx x&&Nat.beq (Zai A x) 1] (K (ZiI (ms) (ks) (rs) (A.add n0 1) (A.app l1 [-1])))) (F (AV.agg (Row.gen [.int .i64 0, .int .i64 0, .list (.ints .i64 l1)])) (none))
theorem ZiM{A:Ar}{K:KT}{F:FT}{M:MT}{ms ks rs:List AV}{n0:Int}{l1:List Int} :ZaI A tab B8 77 K F M (.run 10 (.tf (.run 19 (.hd)) (.run 7 (.fn)))) (ZgB ms ks rs n0 l1) (Zfy ms ks rs n0 l1)=Zfz A K F ms ks rs n0 l1:=by kernel_rfl
def Zyd(xs:List Int):AFrame:={ fn:=81,N:=6,env:=[(0,AV.list (.ints .i64 xs))],todo:=[.code a81.code],defs:=[],rnd:=none,ret:=false,res:=[ARes.tmp 2] }
def ZGC(xs:List Int):List AFrame:=[(Zyd xs)]
theorem Zu0(xs:List Int):Zat tab 81 [AV.list (.ints .i64 xs)]=some (Zyd xs):=rfl
def ZwT(A:Ar)(K:KT)(F:FT)(xs:List Int):Prop:=rB [Nat.ble (0+A.len xs) 4294967296,List.all [] fun x=>AV.bx x&&Nat.beq (Zai A x) 1] (F (AV.row 0 0) (some { e:=3,sz:=1,r:=.ints .i64 xs }))
theorem ZCI{A:Ar}{K:KT}{F:FT}{M:MT}{xs:List Int} :ZaI A tab B8 81 K F M (.run 12 (.fn)) (ZGC xs) []=ZwT A K F xs:=by kernel_rfl
end Go.Proofs.YtkeoeooghhjibaaGreatDoor
/- Contracts as a list. No condition. -/
namespace Go.Proofs.YtkeoeooghhjibaaGreatDoor
theorem Zo6{ms ks rs:List AV}(h:ZpO ms ks rs=true):ZaB ms ks rs=true∧ms.length≤8∧ks.length≤10∧rs.length≤12:=by
 simp only[ZpO,Bool.and_eq_true,decide_eq_true_eq,List.all_eq_true,ZyM,ZnW]at h
 obtain⟨h1,h2,h3,h4⟩:=h
 simp only[ZaB,Bool.and_eq_true,decide_eq_true_eq,List.all_eq_true]
 refine⟨⟨⟨⟨fun x hx=>?_,fun x hx=>?_⟩,fun x hx=>?_⟩,by omega⟩,h1⟩
 ·have:=h2 x hx;omega
 ·have:=h3 x hx;omega
 ·have:=h4 x hx;omega
def Zew(ms ks rs l:List AV):Int:=Zdq (ZaJ ms ks rs) ks.length l
theorem ZqH{ms ks rs:List AV}(h:ZaB ms ks rs=true):ms.length≤1000000∧ks.length≤1000000∧rs.length≤1000000:=by
 simp only[ZaB,Bool.and_eq_true,decide_eq_true_eq]at h
 exact h.2
theorem ZqE{xs:List Int}{k:Nat}(h:k<xs.length):xs.drop k=xs.getD k 0::xs.drop (k+1):=by
 rw[List.drop_eq_getElem_cons h,List.getD_eq_getElem?_getD,List.getElem?_eq_getElem h];rfl
theorem Zqd(ms ks rs l:List AV)(h:ZaB ms ks rs=true∧l.length≤1000000):Zan Tryz.prog 28 [.agg (.gen [.list (.big .str ms), .list (.big (.agg [.str, .int .i64]) ks), .list (.big (.agg [.str, .int .i64, .int .i64, .int .i64, .int .i64]) rs)]), .list (.big (.agg [.int .i64, .int .i64, .int .i64]) l)] (.int .i64 (Zew ms ks rs l)) none:=
 start (Zv8 ms ks rs l) fun C hC=>tgo hC Zhx ZC4 (by
  have:=ZqH h.1
  by_cases he:ZaJ ms ks rs=0<;>simp[Zw1,h.1,h.2,he,Zew,ZqN,this])
theorem bxA(a b:Int):([AV.int .i64 a,AV.int .i64 b].all fun x=>AV.bx x&&Nat.beq (Zai std x) 1)=true:=rfl
theorem Zkr(xs:List Int)(h:xs.length≤1000000):Zan Tryz.prog 81 [.list (.ints .i64 xs)] (.row 0 0) (some ⟨3,1, .ints .i64 xs⟩):=
 start (Zu0 xs) fun C hC=>tgo hC Zhx ZCI (by simp[ZwT];omega)
theorem ZoD(xs:List Int)(h:xs.length≤1000000):Zan Tryz.prog 81 [.list (.ints .i64 xs)] (.list (.ints .i64 xs)) Zl2:=Zt2 (Zkr xs h) rfl rfl
theorem Zj6{C:Ctx}(hC:C.P=Tryz.prog)(xs ys:List Int)(hl:xs.length≤1000000∧xs.length=ys.length):∀m k:Nat,k+m=xs.length→Ev C (ZgT xs ys k) (ZfD xs ys k) (Zb3 29 (.bool (decide (xs.drop k=ys.drop k))) none)
 |0,k,hk=>tgo hC Zhx Ziz (by
  rw[List.drop_of_length_le (by omega),List.drop_of_length_le (by omega)]
  simp[ZdU,show ¬(k:Int)<xs.length by omega])
 |m+1,k,hk=>by
  have ih:=Zj6 hC xs ys hl m (k+1) (by omega)
  rw[ZqE (show k<xs.length by omega),ZqE (show k<ys.length by omega)]
  refine tgo hC Zhx Ziz ?_
  by_cases h:xs.getD k 0=ys.getD k 0
  ·simp[-List.getD_eq_getElem?_getD,ZdU,show(k:Int)<xs.length by omega,show k<xs.length by omega,show k<ys.length by omega,h]
   exact⟨by omega,by simpa using ih⟩
  ·simp[-List.getD_eq_getElem?_getD,ZdU,show(k:Int)<xs.length by omega,show k<xs.length by omega,show k<ys.length by omega,h]
theorem ZpD(xs ys:List Int)(hl:xs.length≤1000000):Zan Tryz.prog 29 [.list (.ints .i64 xs), .list (.ints .i64 ys)] (.bool (decide (xs=ys))) none:=
 start (Zwk xs ys) fun C hC=>tgo hC Zhx ZCs (by
  by_cases h:xs.length=ys.length
  ·simp[ZuN,h]
   have:=Zj6 hC xs ys ⟨hl,h⟩ xs.length 0 (by omega)
   simpa using this
  ·have:xs≠ys:=fun e=>h (by rw[e])
   simp[ZuN,this,show ¬((xs.length:Int)=ys.length) by omega])
theorem ZpQ(n:Nat)(x:Int):List.replicate n x++[x]=List.replicate (n+1) x:=by
 rw[List.replicate_succ']
theorem Zl1{C:Ctx}(hC:C.P=Tryz.prog)(ms ks rs:List AV)(hl:ks.length≤1000000):∀m k:Nat,k+m=ks.length→Ev C (ZgB ms ks rs k (List.replicate k (-1))) (Zfy ms ks rs k (List.replicate k (-1))) (Zwm 77 (.agg (.gen [.int .i64 0, .int .i64 0, .list (.ints .i64 (List.replicate ks.length (-1)))])) none)
 |0,k,hk=>ZBa hC Zhx ZiM (by
  have:k=ks.length:=by omega
  subst this
  simp[Zfz]
  exact .same _)
 |m+1,k,hk=>by
  have ih:=Zl1 hC ms ks rs hl m (k+1) (by omega)
  rw[←ZpQ]at ih
  refine ZBa hC Zhx ZiM ?_
  simp[Zfz,show(k:Int)<ks.length by omega,AV.bx,Zai]
  exact⟨by omega,by simpa using ih⟩
theorem Zqp(ms ks rs:List AV)(hl:ks.length≤1000000):Zan Tryz.prog 77 [.agg (.gen [.list (.big .str ms), .list (.big (.agg [.str, .int .i64]) ks), .list (.big (.agg [.str, .int .i64, .int .i64, .int .i64, .int .i64]) rs)])] (.agg (.gen [.int .i64 0, .int .i64 0, .list (.ints .i64 (List.replicate ks.length (-1)))])) none:=
 ZzW (ZsJ ms ks rs) fun C hC=>ZBa hC Zhx ZCY (by
  simp only[Zyb]
  refine ZBa hC Zhx ZnN ?_
  by_cases h:ks.length=0
  ·simp[Ze5,h]
   exact .agg' ⟨.same _, .same _, .nil _ rfl,trivial⟩
  ·have:=Zl1 hC ms ks rs hl (ks.length-1) 1 (by omega)
   simp[Ze5,show 0<ks.length by omega,AV.bx,Zai]
   simpa using this)
def k28:Ctr:=⟨28,0,fun _ a=>match a with |[.agg (.gen [.list (.big .str ms), .list (.big (.agg [.str, .int .i64]) ks), .list (.big (.agg [.str, .int .i64, .int .i64, .int .i64, .int .i64]) rs)]), .list (.big (.agg [.int .i64, .int .i64, .int .i64]) l)]=>some (decide (ZaB ms ks rs=true∧l.length≤1000000), .int .i64 (Zew ms ks rs l),none) |_=>none⟩
theorem Zzm:k28.OK Tryz.prog:=fun pa args r fr h=>by
 simp only[k28]at h
 split at h
 ·simp only[Option.some.injEq,Prod.mk.injEq,decide_eq_true_eq]at h
  obtain⟨h0,rfl,rfl⟩:=h
  exact Zqd _ _ _ _ h0
 ·cases h
def k29:Ctr:=⟨29,0,fun _ a=>match a with |[.list (.ints .i64 xs), .list (.ints .i64 ys)]=>some (decide (xs.length≤1000000), .bool (decide (xs=ys)),none) |_=>none⟩
theorem Zzf:k29.OK Tryz.prog:=fun pa args r fr h=>by
 simp only[k29]at h
 split at h
 ·simp only[Option.some.injEq,Prod.mk.injEq,decide_eq_true_eq]at h
  obtain⟨h0,rfl,rfl⟩:=h
  exact ZpD _ _ h0
 ·cases h
def k77:Ctr:=⟨77,0,fun _ a=>match a with |[.agg (.gen [.list (.big .str _), .list (.big (.agg [.str, .int .i64]) ks), .list (.big (.agg [.str, .int .i64, .int .i64, .int .i64, .int .i64]) _)])]=>some (decide (ks.length≤1000000), .agg (.gen [.int .i64 0, .int .i64 0, .list (.ints .i64 (List.replicate ks.length (-1)))]),none) |_=>none⟩
theorem ZwI:k77.OK Tryz.prog:=fun pa args r fr h=>by
 simp only[k77]at h
 split at h
 ·simp only[Option.some.injEq,Prod.mk.injEq,decide_eq_true_eq]at h
  obtain⟨h0,rfl,rfl⟩:=h
  exact Zqp _ _ _ h0
 ·cases h
def B9:List Ctr:=[k28,k29,k77]++B8
theorem ZCL:ZaK Tryz.prog B9:=⟨Zzm,⟨Zzf,⟨ZwI,Zhx⟩⟩⟩
end Go.Proofs.YtkeoeooghhjibaaGreatDoor
/- A copy, owned or a value, as the path says; a row of one value. No condition. -/
namespace Go.Proofs.YtkeoeooghhjibaaGreatDoor
def k81b:Ctr:=⟨81,1,fun pa a=>match pa with
 |[]=>none
 |b::_=>(match a with
  |[.list (.ints .i64 xs)]=>some (decide (xs.length≤1000000),(match b with |true=>.row 0 0 |false=>.list (.ints .i64 xs)),(match b with |true=>some ⟨3,1, .ints .i64 xs⟩ |false=>Zl2))
  |_=>none)⟩
theorem ZsP:k81b.OK Tryz.prog:=fun pa args r fr h=>by
 simp only[k81b]at h
 split at h
 ·simp at h
 ·split at h
  ·simp only[Option.some.injEq,Prod.mk.injEq,decide_eq_true_eq]at h
   obtain⟨h0,rfl,rfl⟩:=h
   split
   ·exact Zkr _ h0
   ·exact ZoD _ h0
  ·cases h
theorem ZpG(xs:List Int)(n:Int)(h:xs=[-1]∧0≤n∧n≤8):Zan Tryz.prog 121 [.list (.ints .i64 xs), .int .i64 n] (.row 0 0) (some ⟨3,1, .ints .i64 (List.replicate n.toNat (-1))⟩):=by
 obtain⟨rfl,h1,h2⟩:=h
 obtain⟨m,rfl⟩:∃m:Nat,n=m:=⟨n.toNat,by omega⟩
 have h3:m≤8:=by omega
 match m,h3 with
 |0,_=>exact ZwY
 |1,_=>exact ZwV
 |2,_=>exact ZxF
 |3,_=>exact Zs8
 |4,_=>exact ZvR
 |5,_=>exact Zt1
 |6,_=>exact ZsG
 |7,_=>exact ZsD
 |8,_=>exact ZtZ
def k121:Ctr:=⟨121,0,fun _ a=>match a with |[.list (.ints .i64 xs), .int .i64 n]=>some (decide (xs=[-1]∧0≤n∧n≤8), .row 0 0,some ⟨3,1, .ints .i64 (List.replicate n.toNat (-1))⟩) |_=>none⟩
theorem Zwg:k121.OK Tryz.prog:=fun pa args r fr h=>by
 simp only[k121]at h
 split at h
 ·simp only[Option.some.injEq,Prod.mk.injEq,decide_eq_true_eq]at h
  obtain⟨h0,rfl,rfl⟩:=h
  exact ZpG _ _ h0
 ·cases h
def Ba:List Ctr:=[k81b,k121]++B9
theorem Zub:ZaK Tryz.prog Ba:=⟨ZsP,⟨Zwg,ZCL⟩⟩
end Go.Proofs.YtkeoeooghhjibaaGreatDoor
/- Paths of functions, printed by the explorer (Gx). No condition. -/
namespace Go.Proofs.YtkeoeooghhjibaaGreatDoor
set_option maxRecDepth 100000
set_option linter.unusedVariables false
def ZzB(ms ks rs:List AV)(a b:Int)(xs:List Int)(k t:Int):AFrame:={ fn:=78,N:=34,env:=[(0,AV.agg (Row.gen [.list (Row.big .str ms), .list (Row.big (.agg [.str, .int .i64]) ks), .list (Row.big (.agg [.str, .int .i64, .int .i64, .int .i64, .int .i64]) rs)])),(1,AV.agg (Row.gen [.int .i64 a, .int .i64 b, .list (.ints .i64 xs)])),(2,AV.int .i64 k),(3,AV.int .i64 t)],todo:=[.code a78.code],defs:=[],rnd:=none,ret:=false,res:=[ARes.cell 8 true 3] }
def ZEI(ms ks rs:List AV)(a b:Int)(xs:List Int)(k t:Int):List AFrame:=[(ZzB ms ks rs a b xs k t)]
theorem ZtA(ms ks rs:List AV)(a b:Int)(xs:List Int)(k t:Int):Zat tab 78 [AV.agg (Row.gen [.list (Row.big .str ms), .list (Row.big (.agg [.str, .int .i64]) ks), .list (Row.big (.agg [.str, .int .i64, .int .i64, .int .i64, .int .i64]) rs)]),AV.agg (Row.gen [.int .i64 a, .int .i64 b, .list (.ints .i64 xs)]),AV.int .i64 k,AV.int .i64 t]=some (ZzB ms ks rs a b xs k t):=rfl
def ZwN(A:Ar)(K:KT)(F:FT)(ms ks rs:List AV)(a b:Int)(xs:List Int)(k t:Int):Prop:=rB [decide (List.length xs≤1000000)] (rB [Zaf (Zaf (A.le 0 k) (Nat.blt (A.nat k) (A.lenA ks))) true,Zaf (Nat.blt (A.nat k) (A.len xs)) true,Zaf (A.le 0 k) (Nat.blt (A.nat k) (A.len xs))] (bB (A.not (A.eq ((A.nthA ks (A.nat k)).cellAt 1).toI (-1))) (F (AV.agg (Row.gen [.int .i64 ((A.nthA ks (A.nat k)).cellAt 1).toI, .int .i64 t, .list (.ints .i64 (A.set xs (A.nat k) t))])) (none)) (F (AV.agg (Row.gen [.int .i64 a, .int .i64 t, .list (.ints .i64 (A.set xs (A.nat k) t))])) (none))))
theorem ZBq{A:Ar}{K:KT}{F:FT}{M:MT}{ms ks rs:List AV}{a b:Int}{xs:List Int}{k t:Int} :ZaI A tab Ba 78 K F M (.run 7 (.ty (.run 27 (.tf (.run 11 (.fn)) (.run 7 (.fn)))))) (ZEI ms ks rs a b xs k t) []=ZwN A K F ms ks rs a b xs k t:=by kernel_rfl
def ZrQ(ms ks rs:List AV)(a t:Int)(xs:List Int)(s:List UInt8)(r1 r2 r3 r4 b:Int):AFrame:={ fn:=122,N:=26,env:=[(0,AV.eptr (AV.agg (Row.gen [.list (Row.big .str ms), .list (Row.big (.agg [.str, .int .i64]) ks), .list (Row.big (.agg [.str, .int .i64, .int .i64, .int .i64, .int .i64]) rs), .int .i64 a, .int .i64 t, .list (.ints .i64 xs)])) 0),(1,AV.agg (Row.gen [.str s, .int .i64 r1, .int .i64 r2, .int .i64 r3, .int .i64 r4])),(2,AV.int .i64 b)],todo:=[.code a122.code],defs:=[],rnd:=none,ret:=false,res:=[ARes.tmp 6] }
def ZCG(ms ks rs:List AV)(a t:Int)(xs:List Int)(s:List UInt8)(r1 r2 r3 r4 b:Int):List AFrame:=[(ZrQ ms ks rs a t xs s r1 r2 r3 r4 b)]
theorem ZqB(ms ks rs:List AV)(a t:Int)(xs:List Int)(s:List UInt8)(r1 r2 r3 r4 b:Int):Zat tab 122 [AV.eptr (AV.agg (Row.gen [.list (Row.big .str ms), .list (Row.big (.agg [.str, .int .i64]) ks), .list (Row.big (.agg [.str, .int .i64, .int .i64, .int .i64, .int .i64]) rs), .int .i64 a, .int .i64 t, .list (.ints .i64 xs)])) 0,AV.agg (Row.gen [.str s, .int .i64 r1, .int .i64 r2, .int .i64 r3, .int .i64 r4]),AV.int .i64 b]=some (ZrQ ms ks rs a t xs s r1 r2 r3 r4 b):=rfl
def Zss(A:Ar)(K:KT)(F:FT)(ms ks rs:List AV)(a t:Int)(xs:List Int)(s:List UInt8)(r1 r2 r3 r4 b:Int):Prop:=qB [A.eq r2 (-1),A.eq r1 b] (F (AV.bool true) (none)) (qB [!A.eq r2 (-1),A.eq r1 b] (F (AV.bool (A.eq r2 a)) (none)) (rB [!A.eq r1 b] (F (AV.bool false) (none))))
theorem ZxY{A:Ar}{K:KT}{F:FT}{M:MT}{ms ks rs:List AV}{a t:Int}{xs:List Int}{s:List UInt8}{r1 r2 r3 r4 b:Int} :ZaI A tab Ba 122 K F M (.run 6 (.alt [true,true] (.run 2 (.fn)) (.alt [true,false] (.run 2 (.fn)) (.fy (.run 2 (.fn)))))) (ZCG ms ks rs a t xs s r1 r2 r3 r4 b) []=Zss A K F ms ks rs a t xs s r1 r2 r3 r4 b:=by kernel_rfl
end Go.Proofs.YtkeoeooghhjibaaGreatDoor
/- Contracts as a list. No condition. -/
namespace Go.Proofs.YtkeoeooghhjibaaGreatDoor
def exM(ks:List AV)(a k:Int):Int:=if Zag ks k 1= -1 then a else Zag ks k 1
theorem Zqh(ms ks rs:List AV)(a b:Int)(xs:List Int)(k t:Int)(h:xs.length≤1000000∧0≤k∧k<ks.length∧k<xs.length):Zan Tryz.prog 78 [.agg (.gen [.list (.big .str ms), .list (.big (.agg [.str, .int .i64]) ks), .list (.big (.agg [.str, .int .i64, .int .i64, .int .i64, .int .i64]) rs)]), .agg (.gen [.int .i64 a, .int .i64 b, .list (.ints .i64 xs)]), .int .i64 k, .int .i64 t] (.agg (.gen [.int .i64 (exM ks a k), .int .i64 t, .list (.ints .i64 (xs.set k.toNat t))])) none:=
 start (ZtA ms ks rs a b xs k t) fun C hC=>tgo hC Zub ZBq (by
  have e:((ks.getD k.toNat .top).cellAt 1).toI=Zag ks k 1:=rfl
  have h1:k.toNat<ks.length:=by omega
  have h2:k.toNat<xs.length:=by omega
  by_cases hf:Zag ks k 1= -1<;>simp[-List.getD_eq_getElem?_getD,ZwN,e,h,h1,h2,hf,exM])
def Zmj(a b r1 r2:Int):Bool:=decide (r1=b∧(r2= -1∨r2=a))
theorem ZoF(ms ks rs:List AV)(a t:Int)(xs:List Int)(s:List UInt8)(r1 r2 r3 r4 b:Int):Zan Tryz.prog 122 [.eptr (.agg (.gen [.list (.big .str ms), .list (.big (.agg [.str, .int .i64]) ks), .list (.big (.agg [.str, .int .i64, .int .i64, .int .i64, .int .i64]) rs), .int .i64 a, .int .i64 t, .list (.ints .i64 xs)])) 0, .agg (.gen [.str s, .int .i64 r1, .int .i64 r2, .int .i64 r3, .int .i64 r4]), .int .i64 b] (.bool (Zmj a b r1 r2)) none:=
 start (ZqB ms ks rs a t xs s r1 r2 r3 r4 b) fun C hC=>tgo hC Zub ZxY (by
  by_cases h1:r1=b<;>by_cases h2:r2= -1<;>by_cases h3:r2=a<;>simp_all[Zss,Zmj])
def k78:Ctr:=⟨78,0,fun _ a=>match a with |[.agg (.gen [.list (.big .str _), .list (.big (.agg [.str, .int .i64]) ks), .list (.big (.agg [.str, .int .i64, .int .i64, .int .i64, .int .i64]) _)]), .agg (.gen [.int .i64 a, .int .i64 _, .list (.ints .i64 xs)]), .int .i64 k, .int .i64 t]=>some (decide (xs.length≤1000000∧0≤k∧k<ks.length∧k<xs.length), .agg (.gen [.int .i64 (exM ks a k), .int .i64 t, .list (.ints .i64 (xs.set k.toNat t))]),none) |_=>none⟩
theorem ZzV:k78.OK Tryz.prog:=fun pa args r fr h=>by
 simp only[k78]at h
 split at h
 ·simp only[Option.some.injEq,Prod.mk.injEq,decide_eq_true_eq]at h
  obtain⟨h0,rfl,rfl⟩:=h
  exact Zqh _ _ _ _ _ _ _ _ h0
 ·cases h
def k122:Ctr:=⟨122,0,fun _ a=>match a with |[.eptr (.agg (.gen [.list (.big .str _), .list (.big (.agg [.str, .int .i64]) _), .list (.big (.agg [.str, .int .i64, .int .i64, .int .i64, .int .i64]) _), .int .i64 a, .int .i64 _, .list (.ints .i64 _)])) 0, .agg (.gen [.str _, .int .i64 r1, .int .i64 r2, .int .i64 _, .int .i64 _]), .int .i64 b]=>some (true, .bool (Zmj a b r1 r2),none) |_=>none⟩
theorem Zv1:k122.OK Tryz.prog:=fun pa args r fr h=>by
 simp only[k122]at h
 split at h
 ·cases h
  exact ZoF _ _ _ _ _ _ _ _ _ _ _ _
 ·cases h
def Bb:List Ctr:=[k78,k122]++Ba
theorem ZqQ:ZaK Tryz.prog Bb:=⟨ZzV,⟨Zv1,Zub⟩⟩
end Go.Proofs.YtkeoeooghhjibaaGreatDoor
/- Paths of functions, printed by the explorer (Gx). No condition. -/
namespace Go.Proofs.YtkeoeooghhjibaaGreatDoor
set_option maxRecDepth 100000
set_option linter.unusedVariables false
def ZAN(ms ks rs:List AV)(a t:Int)(xs:List Int)(q:Int):AFrame:={ fn:=91,N:=66,env:=[(0,AV.eptr (AV.agg (Row.gen [.list (Row.big .str ms), .list (Row.big (.agg [.str, .int .i64]) ks), .list (Row.big (.agg [.str, .int .i64, .int .i64, .int .i64, .int .i64]) rs), .int .i64 a, .int .i64 t, .list (.ints .i64 xs)])) 0),(1,AV.int .i64 q)],todo:=[.code a91.code],defs:=[],rnd:=none,ret:=false,res:=[ARes.tmp 4] }
def ZE3(ms ks rs:List AV)(a t:Int)(xs:List Int)(q:Int):List AFrame:=[(ZAN ms ks rs a t xs q)]
theorem Zu7(ms ks rs:List AV)(a t:Int)(xs:List Int)(q:Int):Zat tab 91 [AV.eptr (AV.agg (Row.gen [.list (Row.big .str ms), .list (Row.big (.agg [.str, .int .i64]) ks), .list (Row.big (.agg [.str, .int .i64, .int .i64, .int .i64, .int .i64]) rs), .int .i64 a, .int .i64 t, .list (.ints .i64 xs)])) 0,AV.int .i64 q]=some (ZAN ms ks rs a t xs q):=rfl
def ZeS(ms ks rs:List AV)(a t:Int)(xs:List Int)(q n0 n1:Int):List AFrame:=[{ fn:=91,N:=66,env:=[(0,AV.eptr (AV.agg (Row.gen [.list (Row.big .str ms), .list (Row.big (.agg [.str, .int .i64]) ks), .list (Row.big (.agg [.str, .int .i64, .int .i64, .int .i64, .int .i64]) rs), .int .i64 a, .int .i64 t, .list (.ints .i64 xs)])) 0),(1,AV.int .i64 q),(11,AV.list (Row.big (.agg [.str, .int .i64, .int .i64, .int .i64, .int .i64]) rs)),(12,AV.int .i64 n0),(13,AV.int .i64 n1)],todo:=.code (ACode.gh [] Zzs)::ZCf,defs:=[],rnd:=none,ret:=false,res:=[ARes.tmp 4] }]
def Zd3(ms ks rs:List AV)(a t:Int)(xs:List Int)(q n0 n1:Int):Zab:=[]
abbrev ZbE(ms ks rs:List AV)(a t:Int)(xs:List Int)(q n0 n1:Int):List AFrame×Zab:=(ZeS ms ks rs a t xs q n0 n1,Zd3 ms ks rs a t xs q n0 n1)
def ZxT(A:Ar)(K:KT)(F:FT)(ms ks rs:List AV)(a t:Int)(xs:List Int)(q:Int):Prop:=K (ZbE (ms) (ks) (rs) (a) (t) (xs) (q) (A.int (A.lenA rs)) (0))
theorem ZCk{A:Ar}{K:KT}{F:FT}{M:MT}{ms ks rs:List AV}{a t:Int}{xs:List Int}{q:Int} :ZaI A tab Bb 91 K F M (.run 18 (.hd)) (ZE3 ms ks rs a t xs q) []=ZxT A K F ms ks rs a t xs q:=by kernel_rfl
def Zfj(A:Ar)(K:KT)(F:FT)(ms ks rs:List AV)(a t:Int)(xs:List Int)(q n0 n1:Int):Prop:=bB (A.lt n1 n0) (rB [Zaf (Zaf (A.le 0 n1) (Nat.blt (A.nat n1) (A.lenA rs))) true] (qB [A.eq ((A.nthA rs (A.nat n1)).cellAt 2).toI (-1),A.eq ((A.nthA rs (A.nat n1)).cellAt 1).toI q] (rB [!A.not true] (qB [A.eq ((A.nthA rs (A.nat n1)).cellAt 3).toI (-1)] (rB [Zaf (Zaf (A.le 0 n1) (Nat.blt (A.nat n1) (A.lenA rs))) true] (F (AV.eptr (AV.agg (Row.gen [.str ((A.nthA rs (A.nat n1)).cellAt 0).toS, .int .i64 ((A.nthA rs (A.nat n1)).cellAt 1).toI, .int .i64 ((A.nthA rs (A.nat n1)).cellAt 2).toI, .int .i64 ((A.nthA rs (A.nat n1)).cellAt 3).toI, .int .i64 ((A.nthA rs (A.nat n1)).cellAt 4).toI])) 0) (none))) (qB [A.inR .i64 (A.sub t (A.nth xs (A.nat ((A.nthA rs (A.nat n1)).cellAt 3).toI))),Zaf (Zaf (A.le 0 ((A.nthA rs (A.nat n1)).cellAt 3).toI) (Nat.blt (A.nat ((A.nthA rs (A.nat n1)).cellAt 3).toI) (A.len xs))) true,A.not (A.eq (A.nth xs (A.nat ((A.nthA rs (A.nat n1)).cellAt 3).toI)) (-1)),Zaf (Zaf (A.le 0 ((A.nthA rs (A.nat n1)).cellAt 3).toI) (Nat.blt (A.nat ((A.nthA rs (A.nat n1)).cellAt 3).toI) (A.len xs))) true,!A.eq ((A.nthA rs (A.nat n1)).cellAt 3).toI (-1)] (bB (A.lt (A.sub t (A.nth xs (A.nat ((A.nthA rs (A.nat n1)).cellAt 3).toI))) ((A.nthA rs (A.nat n1)).cellAt 4).toI) (rB [Zaf (Zaf (A.le 0 n1) (Nat.blt (A.nat n1) (A.lenA rs))) true] (F (AV.eptr (AV.agg (Row.gen [.str ((A.nthA rs (A.nat n1)).cellAt 0).toS, .int .i64 ((A.nthA rs (A.nat n1)).cellAt 1).toI, .int .i64 ((A.nthA rs (A.nat n1)).cellAt 2).toI, .int .i64 ((A.nthA rs (A.nat n1)).cellAt 3).toI, .int .i64 ((A.nthA rs (A.nat n1)).cellAt 4).toI])) 0) (none))) (rB [A.inR .i64 (A.add n1 1)] (K (ZbE (ms) (ks) (rs) (a) (t) (xs) (q) (n0) (A.add n1 1))))) (rB [!A.not (A.eq (A.nth xs (A.nat ((A.nthA rs (A.nat n1)).cellAt 3).toI)) (-1)),Zaf (Zaf (A.le 0 ((A.nthA rs (A.nat n1)).cellAt 3).toI) (Nat.blt (A.nat ((A.nthA rs (A.nat n1)).cellAt 3).toI) (A.len xs))) true,!A.eq ((A.nthA rs (A.nat n1)).cellAt 3).toI (-1)] (rB [A.inR .i64 (A.add n1 1)] (K (ZbE (ms) (ks) (rs) (a) (t) (xs) (q) (n0) (A.add n1 1)))))))) (qB [!A.eq ((A.nthA rs (A.nat n1)).cellAt 2).toI (-1),A.eq ((A.nthA rs (A.nat n1)).cellAt 1).toI q] (bB (A.not (A.eq ((A.nthA rs (A.nat n1)).cellAt 2).toI a)) (rB [A.inR .i64 (A.add n1 1)] (K (ZbE (ms) (ks) (rs) (a) (t) (xs) (q) (n0) (A.add n1 1)))) (qB [A.eq ((A.nthA rs (A.nat n1)).cellAt 3).toI (-1)] (rB [Zaf (Zaf (A.le 0 n1) (Nat.blt (A.nat n1) (A.lenA rs))) true] (F (AV.eptr (AV.agg (Row.gen [.str ((A.nthA rs (A.nat n1)).cellAt 0).toS, .int .i64 ((A.nthA rs (A.nat n1)).cellAt 1).toI, .int .i64 ((A.nthA rs (A.nat n1)).cellAt 2).toI, .int .i64 ((A.nthA rs (A.nat n1)).cellAt 3).toI, .int .i64 ((A.nthA rs (A.nat n1)).cellAt 4).toI])) 0) (none))) (qB [A.inR .i64 (A.sub t (A.nth xs (A.nat ((A.nthA rs (A.nat n1)).cellAt 3).toI))),Zaf (Zaf (A.le 0 ((A.nthA rs (A.nat n1)).cellAt 3).toI) (Nat.blt (A.nat ((A.nthA rs (A.nat n1)).cellAt 3).toI) (A.len xs))) true,A.not (A.eq (A.nth xs (A.nat ((A.nthA rs (A.nat n1)).cellAt 3).toI)) (-1)),Zaf (Zaf (A.le 0 ((A.nthA rs (A.nat n1)).cellAt 3).toI) (Nat.blt (A.nat ((A.nthA rs (A.nat n1)).cellAt 3).toI) (A.len xs))) true,!A.eq ((A.nthA rs (A.nat n1)).cellAt 3).toI (-1)] (bB (A.lt (A.sub t (A.nth xs (A.nat ((A.nthA rs (A.nat n1)).cellAt 3).toI))) ((A.nthA rs (A.nat n1)).cellAt 4).toI) (rB [Zaf (Zaf (A.le 0 n1) (Nat.blt (A.nat n1) (A.lenA rs))) true] (F (AV.eptr (AV.agg (Row.gen [.str ((A.nthA rs (A.nat n1)).cellAt 0).toS, .int .i64 ((A.nthA rs (A.nat n1)).cellAt 1).toI, .int .i64 ((A.nthA rs (A.nat n1)).cellAt 2).toI, .int .i64 ((A.nthA rs (A.nat n1)).cellAt 3).toI, .int .i64 ((A.nthA rs (A.nat n1)).cellAt 4).toI])) 0) (none))) (rB [A.inR .i64 (A.add n1 1)] (K (ZbE (ms) (ks) (rs) (a) (t) (xs) (q) (n0) (A.add n1 1))))) (rB [!A.not (A.eq (A.nth xs (A.nat ((A.nthA rs (A.nat n1)).cellAt 3).toI)) (-1)),Zaf (Zaf (A.le 0 ((A.nthA rs (A.nat n1)).cellAt 3).toI) (Nat.blt (A.nat ((A.nthA rs (A.nat n1)).cellAt 3).toI) (A.len xs))) true,!A.eq ((A.nthA rs (A.nat n1)).cellAt 3).toI (-1)] (rB [A.inR .i64 (A.add n1 1)] (K (ZbE (ms) (ks) (rs) (a) (t) (xs) (q) (n0) (A.add n1 1)))))))) (rB [!A.eq ((A.nthA rs (A.nat n1)).cellAt 1).toI q] (rB [A.not false] (rB [A.inR .i64 (A.add n1 1)] (K (ZbE (ms) (ks) (rs) (a) (t) (xs) (q) (n0) (A.add n1 1))))))))) (F (AV.val (Go.Value.pointer none)) (none))
theorem Zh6{A:Ar}{K:KT}{F:FT}{M:MT}{ms ks rs:List AV}{a t:Int}{xs:List Int}{q n0 n1:Int} :ZaI A tab Bb 91 K F M (.run 6 (.tf (.run 25 (.alt [true,true] (.run 5 (.fy (.run 2 (.alt [true] (.run 1 (.ty (.run 13 (.fn)))) (.alt [false,true] (.run 1 (.tf (.run 13 (.fn)) (.run 8 (.hd)))) (.alt [false,false] (.run 1 (.fy (.run 8 (.hd)))) (.no))))))) (.alt [true,false] (.run 5 (.tf (.run 7 (.hd)) (.run 2 (.alt [true] (.run 1 (.ty (.run 13 (.fn)))) (.alt [false,true] (.run 1 (.tf (.run 13 (.fn)) (.run 8 (.hd)))) (.alt [false,false] (.run 1 (.fy (.run 8 (.hd)))) (.no))))))) (.fy (.run 5 (.ty (.run 7 (.hd)))))))) (.run 6 (.fn)))) (ZeS ms ks rs a t xs q n0 n1) (Zd3 ms ks rs a t xs q n0 n1)=Zfj A K F ms ks rs a t xs q n0 n1:=by kernel_rfl
end Go.Proofs.YtkeoeooghhjibaaGreatDoor
/- Contracts as a list. No condition. -/
namespace Go.Proofs.YtkeoeooghhjibaaGreatDoor
def ZhC(rs:List AV)(a b:Int)(xs:List Int)(k:Int):Nat→Nat→Nat
 |0,i=>i
 |m+1,i=>if Zhw rs a b xs k i=true then i else ZhC rs a b xs k m (i+1)
def ZcI(rs:List AV)(a b:Int)(xs:List Int)(k:Int):Bool:=decide (ZhC rs a b xs k rs.length 0=rs.length)
def Zri(rs:List AV)(i:Nat):AV:=.eptr (.agg (.gen [.str (Zau rs i), .int .i64 (Zag rs i 1), .int .i64 (Zag rs i 2), .int .i64 (Zag rs i 3), .int .i64 (Zag rs i 4)])) 0
def ZhA(rs:List AV)(a b:Int)(xs:List Int)(k:Int)(m i:Nat):AV:=if ZhC rs a b xs k m i=i+m then .val (.pointer none)else Zri rs (ZhC rs a b xs k m i)
theorem ZmQ(rs:List AV)(a b:Int)(xs:List Int)(k:Int)(m i:Nat):ZhA rs a b xs k (m+1) i=if Zhw rs a b xs k i=true then Zri rs i else ZhA rs a b xs k m (i+1):=by
 unfold ZhA
 simp only[ZhC]
 split
 ·rw[if_neg (by omega)]
 ·rw[show i+(m+1)=i+1+m by omega]
theorem Zho{C:Ctx}(hC:C.P=Tryz.prog)(ms ks rs:List AV)(a b:Int)(xs:List Int)(q:Int)(hg:Zba rs b xs=true):∀m k:Nat,k+m=rs.length→Ev C (ZeS ms ks rs a b xs q rs.length k) (Zd3 ms ks rs a b xs q rs.length k) (Zb3 91 (ZhA rs a b xs q m k) none)
 |0,k,hk=>tgo hC ZqQ Zh6 (by simp[Zfj,show ¬(k:Int)<rs.length by omega,ZhA,ZhC])
 |m+1,k,hk=>by
  have hlt:(k:Int)<rs.length:=by omega
  have hlt2:k<rs.length:=by omega
  have e0:((rs.getD k .top).cellAt 0).toS=Zau rs k:=rfl
  have e1:((rs.getD k .top).cellAt 1).toI=Zag rs k 1:=rfl
  have e2:((rs.getD k .top).cellAt 2).toI=Zag rs k 2:=rfl
  have e3:((rs.getD k .top).cellAt 3).toI=Zag rs k 3:=rfl
  have e4:((rs.getD k .top).cellAt 4).toI=Zag rs k 4:=rfl
  have ih:=Zho hC ms ks rs a b xs q hg m (k+1) (by omega)
  refine tgo hC ZqQ Zh6 ?_
  simp[-List.getD_eq_getElem?_getD,Zfj,e0,e1,e2,e3,e4,hlt,hlt2]
  obtain⟨V,hV⟩:∃V,V=ZhA rs a b xs q (m+1) k:=⟨_,rfl⟩
  rw[←hV]
  rw[ZmQ]at hV
  simp only[Zhw,Zri,decide_eq_true_eq]at hV
  have g:=Zgs hg hlt2
  clear e0 e1 e2 e3 e4 hg
  generalize Zau rs k=nm at*
  generalize Zag rs k 1=f1 at*
  generalize Zag rs k 2=f2 at*
  generalize Zag rs k 3=f3 at*
  generalize Zag rs k 4=f4 at*
  generalize xs.getD f3.toNat 0=t at*
  have r3: -9223372036854775808≤(k:Int)+1∧(k:Int)+1≤9223372036854775807:=by omega
  have r1:f3≠ -1→(0≤f3∧f3.toNat<xs.length)∧(-9223372036854775808≤b-t∧b-t≤9223372036854775807):=by omega
  have ih':Ev C (ZeS ms ks rs a b xs q rs.length (k+1)) (Zd3 ms ks rs a b xs q rs.length (k+1)) (Zb3 91 (ZhA rs a b xs q m (k+1)) none):=ih
  clear hk hlt hlt2 g ih
  by_cases h1:f1=q<;>by_cases h2:f2= -1<;>by_cases h3:f2=a<;>by_cases h4:f3= -1<;>by_cases h5:t= -1<;>by_cases h6:b-t<f4<;>simp_all<;>(intro h7;omega)
theorem Zoo(ms ks rs:List AV)(a b:Int)(xs:List Int)(q:Int)(hg:Zba rs b xs=true):Zan Tryz.prog 91 [.eptr (.agg (.gen [.list (.big .str ms), .list (.big (.agg [.str, .int .i64]) ks), .list (.big (.agg [.str, .int .i64, .int .i64, .int .i64, .int .i64]) rs), .int .i64 a, .int .i64 b, .list (.ints .i64 xs)])) 0, .int .i64 q] (ZhA rs a b xs q rs.length 0) none:=
 start (Zu7 ms ks rs a b xs q) fun C hC=>tgo hC ZqQ ZCk (by
  have:=Zho hC ms ks rs a b xs q hg rs.length 0 (by omega)
  simpa[ZxT]using this)
def ZCp(c:Bool)(rs:List AV)(a b:Int)(xs:List Int)(q:Int):AV:=match c with |true=>.val (.pointer none) |false=>Zri rs (ZhC rs a b xs q rs.length 0)
theorem ZvD{c:Bool}{rs:List AV}{a b:Int}{xs:List Int}{q:Int}(h:ZcI rs a b xs q=c):ZCp c rs a b xs q=ZhA rs a b xs q rs.length 0:=by
 subst h
 unfold ZCp ZhA ZcI
 by_cases h:ZhC rs a b xs q rs.length 0=rs.length
 ·rw[decide_eq_true h,if_pos (by omega)]
 ·rw[decide_eq_false h,if_neg (by omega)]
def k91b:Ctr:=⟨91,1,fun pa a=>match pa with
 |[]=>none
 |c::_=>(match a with
  |[.eptr (.agg (.gen [.list (.big .str _), .list (.big (.agg [.str, .int .i64]) _), .list (.big (.agg [.str, .int .i64, .int .i64, .int .i64, .int .i64]) rs), .int .i64 a, .int .i64 b, .list (.ints .i64 xs)])) 0, .int .i64 q]=>some (decide (Zba rs b xs=true∧ZcI rs a b xs q=c),ZCp c rs a b xs q,none)
  |_=>none)⟩
theorem Zvn:k91b.OK Tryz.prog:=fun pa args r fr h=>by
 simp only[k91b]at h
 split at h
 ·cases h
 ·split at h
  ·simp only[Option.some.injEq,Prod.mk.injEq,decide_eq_true_eq]at h
   obtain⟨⟨h0,h1⟩,rfl,rfl⟩:=h
   rw[ZvD h1]
   exact Zoo _ _ _ _ _ _ _ h0
  ·cases h
def Bc0:List Ctr:=[k91b]++Bb
theorem ZyK:ZaK Tryz.prog Bc0:=⟨Zvn,ZqQ⟩
def Bc:List Ctr:=[]++Bc0
theorem Zxu:ZaK Tryz.prog Bc:=ZyK
end Go.Proofs.YtkeoeooghhjibaaGreatDoor
/- Paths of functions, printed by the explorer (Gx). No condition. -/
namespace Go.Proofs.YtkeoeooghhjibaaGreatDoor
set_option maxRecDepth 100000
set_option linter.unusedVariables false
def Zsi(ms ks rs:List AV)(a t:Int)(xs:List Int)(c d e:Int):AFrame:={ fn:=123,N:=24,env:=[(0,AV.eptr (AV.agg (Row.gen [.list (Row.big .str ms), .list (Row.big (.agg [.str, .int .i64]) ks), .list (Row.big (.agg [.str, .int .i64, .int .i64, .int .i64, .int .i64]) rs), .int .i64 a, .int .i64 t, .list (.ints .i64 xs)])) 0),(1,AV.agg (Row.gen [.int .i64 c, .int .i64 d, .int .i64 e]))],todo:=[.code a123.code],defs:=[],rnd:=none,ret:=false,res:=[ARes.tmp 4] }
def ZCS(ms ks rs:List AV)(a t:Int)(xs:List Int)(c d e:Int):List AFrame:=[(Zsi ms ks rs a t xs c d e)]
theorem Zq0(ms ks rs:List AV)(a t:Int)(xs:List Int)(c d e:Int):Zat tab 123 [AV.eptr (AV.agg (Row.gen [.list (Row.big .str ms), .list (Row.big (.agg [.str, .int .i64]) ks), .list (Row.big (.agg [.str, .int .i64, .int .i64, .int .i64, .int .i64]) rs), .int .i64 a, .int .i64 t, .list (.ints .i64 xs)])) 0,AV.agg (Row.gen [.int .i64 c, .int .i64 d, .int .i64 e])]=some (Zsi ms ks rs a t xs c d e):=rfl
def Zon(A:Ar)(K:KT)(F:FT)(ms ks rs:List AV)(a t:Int)(xs:List Int)(c d e:Int):Prop:=qB [decide (Zba rs t xs=true∧ZcI rs a t xs c=true),Zae t d e] (F (AV.bool true) (none)) (qB [decide (Zba rs t xs=true∧ZcI rs a t xs c=false),Zae t d e] (F (AV.bool false) (none)) (rB [!Zae t d e] (F (AV.bool false) (none))))
theorem Zxn{A:Ar}{K:KT}{F:FT}{M:MT}{ms ks rs:List AV}{a t:Int}{xs:List Int}{c d e:Int} :ZaI A tab Bc 123 K F M (.run 6 (.alt [true,true] (.run 2 (.fn)) (.alt [true,false] (.run 2 (.fn)) (.fy (.run 2 (.fn)))))) (ZCS ms ks rs a t xs c d e) []=Zon A K F ms ks rs a t xs c d e:=by kernel_rfl
end Go.Proofs.YtkeoeooghhjibaaGreatDoor
/- Contracts as a list. No condition. -/
namespace Go.Proofs.YtkeoeooghhjibaaGreatDoor
def Zh5(rs:List AV)(a t:Int)(xs:List Int)(c d e:Int):Bool:=Zae t d e&&ZcI rs a t xs c
theorem Zpz(ms ks rs:List AV)(a t:Int)(xs:List Int)(c d e:Int)(h:Zae t d e=false∨Zba rs t xs=true):Zan Tryz.prog 123 [.eptr (.agg (.gen [.list (.big .str ms), .list (.big (.agg [.str, .int .i64]) ks), .list (.big (.agg [.str, .int .i64, .int .i64, .int .i64, .int .i64]) rs), .int .i64 a, .int .i64 t, .list (.ints .i64 xs)])) 0, .agg (.gen [.int .i64 c, .int .i64 d, .int .i64 e])] (.bool (Zh5 rs a t xs c d e)) none:=
 start (Zq0 ms ks rs a t xs c d e) fun C hC=>tgo hC Zxu Zxn (by
  unfold Zh5
  cases h1:Zae t d e
  ·simp[Zon,h1]
  ·have hg:Zba rs t xs=true:=by simpa[h1]using h
   cases h2:ZcI rs a t xs c<;>simp[Zon,h1,h2,hg])
def k123:Ctr:=⟨123,0,fun _ a=>match a with |[.eptr (.agg (.gen [.list (.big .str _), .list (.big (.agg [.str, .int .i64]) _), .list (.big (.agg [.str, .int .i64, .int .i64, .int .i64, .int .i64]) rs), .int .i64 a, .int .i64 t, .list (.ints .i64 xs)])) 0, .agg (.gen [.int .i64 c, .int .i64 d, .int .i64 e])]=>some (decide (Zae t d e=false∨Zba rs t xs=true), .bool (Zh5 rs a t xs c d e),none) |_=>none⟩
theorem Zwi:k123.OK Tryz.prog:=fun pa args r fr h=>by
 simp only[k123]at h
 split at h
 ·simp only[Option.some.injEq,Prod.mk.injEq,decide_eq_true_eq]at h
  obtain⟨h0,rfl,rfl⟩:=h
  exact Zpz _ _ _ _ _ _ _ _ _ h0
 ·cases h
def Bd:List Ctr:=[k123]++Bc
theorem ZbL:ZaK Tryz.prog Bd:=⟨Zwi,Zxu⟩
end Go.Proofs.YtkeoeooghhjibaaGreatDoor
