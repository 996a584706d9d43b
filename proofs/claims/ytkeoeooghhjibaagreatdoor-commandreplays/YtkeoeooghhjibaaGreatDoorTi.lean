/- CheckModel of the reference. No condition. -/
import Derived.Test.YtkeoeooghhjibaaGreatDoorPj
import Derived.KernelRfl
namespace Go.Proofs.YtkeoeooghhjibaaGreatDoor
theorem Ztr{nm:List UInt8}{ex:Int}{xs:List AV}(h:ZaU nm=false):Zcz nm ex xs=4:=by simp[Zcz,Zai,Zaa,h]
theorem Zwg{nm:List UInt8}{ex:Int}{xs:List AV}(h:ZaU nm=true)(h2:Zhz xs nm=true):Zcz nm ex xs=5:=by
 have h3:std.hasS xs nm=true:=h2
 simp[-Zdn,Zcz,Zai,Zaa,h,h3]
theorem Zuh{nm:List UInt8}{ex:Int}{xs:List AV}(h:ZaU nm=true)(h2:Zhz xs nm=false):Zcz nm ex xs=ex:=by
 have h3:std.hasS xs nm=false:=h2
 by_cases h4:ex=0<;>simp[-Zdn,Zcz,Zai,Zaa,h,h3,h4]
theorem Zfr{n m:Int}(hm:0≤m):ZhD n m=Zab n (-1) (m-1):=by
 unfold ZhD Zab
 by_cases h:n= -1
 ·rw[if_pos h,decide_eq_true (by omega)]
 ·rw[if_neg h]
  by_cases h2:0≤n∧n≤m-1
  ·rw[decide_eq_true h2,decide_eq_true (by omega)]
  ·rw[decide_eq_false h2,decide_eq_false (by omega)]
theorem Zft(nm:Nat→List UInt8)(ex:Nat→Int)(m k:Nat)(xs:List AV)(p:Int)(d:AV):ZbB p (Zbl nm ex (m+1) k xs) d=if Zcz (nm k) (ex k) xs=0 then ZbB p (Zbl nm ex m (k+1) (xs++[.str (nm k)])) d else Zbk p k (Zcz (nm k) (ex k) xs):=by
 rw[Zbl];split<;>rfl
theorem ZeJ(nm:List UInt8)(ex:Int)(xs:List AV):Zcz nm ex xs=if ZaU nm=true then(if Zhz xs nm=true then 5 else ex)else 4:=by
 by_cases h:ZaU nm=true
 ·by_cases h2:Zhz xs nm=true
  ·rw[if_pos h,if_pos h2,Zwg h h2]
  ·rw[if_pos h,if_neg h2,Zuh h (by simpa using h2)]
 ·rw[if_neg h,Ztr (by simpa using h)]
theorem Zjd(rs:List AV)(k n m:Nat):ZbT rs k n m=if Zab (Zaj rs k 1) 0 ((n:Int)-1)=true∧Zab (Zaj rs k 2) (-1) ((m:Int)-1)=true∧Zab (Zaj rs k 3) (-1) ((n:Int)-1)=true then(if Zab (Zaj rs k 4) 1 1000000=true then(if Zaj rs k 3= -1∧¬Zaj rs k 4=1 then 3 else 0)else 2)else 6:=by
 rw[ZbT,Zfr (by omega),Zfr (by omega)]
 by_cases h1:Zab (Zaj rs k 1) 0 ((n:Int)-1)=true<;>by_cases h2:Zab (Zaj rs k 2) (-1) ((m:Int)-1)=true<;>by_cases h3:Zab (Zaj rs k 3) (-1) ((n:Int)-1)=true<;>by_cases h4:Zab (Zaj rs k 4) 1 1000000=true<;>by_cases h5:Zaj rs k 3= -1<;>by_cases h6:Zaj rs k 4=1<;>simp_all[Zai,Zaa]
theorem Zrj{xs ys:List AV}(h:xs.map AV.toS=ys.map AV.toS){s:List UInt8} :Zhz xs s=Zhz ys s:=by
 have e:∀l:List AV,Zhz l s=(l.map AV.toS).any (· ==s):=fun l=>by simp[Zhz,List.any_map,Function.comp_def]
 rw[e,e,h]
theorem Zmc(ks:List AV)(k m:Nat):Zc0 ks k m=if Zab (Zaj ks k 1) (-1) ((m:Int)-1)=true then 0 else 6:=by
 rw[Zc0,Zfr (by omega)];split<;>simp_all[Zaa]
section
variable {C:Ctx}(hC:C.P=Tryz.prog)(ms ks rs:List AV)(hs:ZaA ms ks rs=true)
include hC hs
theorem Zz1:∀(m k:Nat) (xs:List AV),k+m=rs.length→xs.length≤k→Ev C (Zee ms ks rs k xs) (Zdo ms ks rs k xs)
 (ZcD 119 (ZbB 3 (Zbl (fun k=>Zay rs k) (fun k=>ZbT rs k ks.length ms.length) m k xs) (Zbk 0 0 0)) none)
 |0,k,xs,hk,hx=>tgo hC Zew ZfQ (by simp[Zdk,show ¬(k:Int)<rs.length by omega];rfl)
 |m+1,k,xs,hk,hx=>by
  have hs':=hs
  simp only[ZaA,Bool.and_eq_true,decide_eq_true_eq]at hs'
  have hn:=Zb1 hs'.1.2 (show k<rs.length by omega)
  have hlt:(k:Int)<rs.length:=by omega
  have hlt2:k<rs.length:=by omega
  have e0:((rs.getD k .top).cellAt 0).toS=Zay rs k:=rfl
  have e1:((rs.getD k .top).cellAt 1).toI=Zaj rs k 1:=rfl
  have e2:((rs.getD k .top).cellAt 2).toI=Zaj rs k 2:=rfl
  have e3:((rs.getD k .top).cellAt 3).toI=Zaj rs k 3:=rfl
  have e4:((rs.getD k .top).cellAt 4).toI=Zaj rs k 4:=rfl
  have ih:=Zz1 m (k+1) (xs++[.str (Zay rs k)]) (by omega) (by simp;omega)
  obtain⟨V,hV⟩:∃V,V=ZbB 3 (Zbl (fun k=>Zay rs k) (fun k=>ZbT rs k ks.length ms.length) (m+1) k xs) (Zbk 0 0 0):=⟨_,rfl⟩
  rw[←hV]
  rw[Zft,ZeJ,Zjd]at hV
  refine tgo hC Zew ZfQ ?_
  simp[-List.getD_eq_getElem?_getD,Zdk,e0,e1,e2,e3,e4,hlt,hlt2,hn,AV.bx,Zae]
  clear e0 e1 e2 e3 e4 hs
  replace hs':=hs'.2
  generalize Zay rs k=nm at*
  generalize Zaj rs k 1=f1 at*
  generalize Zaj rs k 2=f2 at*
  generalize Zaj rs k 3=f3 at*
  generalize Zaj rs k 4=f4 at*
  repeat' (first |split |apply And.intro)
  all_goals first |omega |skip
  all_goals (clear hs';simp_all[Zbk])
theorem Zy3:∀m:Nat,m=rs.length→Ev C (Zc3 ms ks rs) (Zcv ms ks rs)
 (ZcD 119 (ZbB 3 (Zbl (fun k=>Zay rs k) (fun k=>ZbT rs k ks.length ms.length) m 0 []) (Zbk 0 0 0)) none)
 |0,hk=>tgo hC Zew Zge (by simp[Zdj,←hk];rfl)
 |m+1,hk=>by
  have hs':=hs
  simp only[ZaA,Bool.and_eq_true,decide_eq_true_eq]at hs'
  have hn:=Zb1 hs'.1.2 (show 0<rs.length by omega)
  have hlt:(0:Int)<rs.length:=by omega
  have hlt2:0<rs.length:=by omega
  have e0:((rs.getD 0 .top).cellAt 0).toS=Zay rs 0:=rfl
  have e1:((rs.getD 0 .top).cellAt 1).toI=Zaj rs 0 1:=rfl
  have e2:((rs.getD 0 .top).cellAt 2).toI=Zaj rs 0 2:=rfl
  have e3:((rs.getD 0 .top).cellAt 3).toI=Zaj rs 0 3:=rfl
  have e4:((rs.getD 0 .top).cellAt 4).toI=Zaj rs 0 4:=rfl
  have ih:=Zz1 hC ms ks rs hs m 1 [.str (Zay rs 0)] (by omega) (by simp)
  obtain⟨V,hV⟩:∃V,V=ZbB 3 (Zbl (fun k=>Zay rs k) (fun k=>ZbT rs k ks.length ms.length) (m+1) 0 []) (Zbk 0 0 0):=⟨_,rfl⟩
  rw[←hV]
  rw[Zft,ZeJ,Zjd]at hV
  refine tgo hC Zew Zge ?_
  simp[-List.getD_eq_getElem?_getD,Zdj,e0,e1,e2,e3,e4,hlt,hlt2,hn,AV.bx,Zae]
  clear e0 e1 e2 e3 e4 hs
  replace hs':=hs'.2
  generalize Zay rs 0=nm at*
  generalize Zaj rs 0 1=f1 at*
  generalize Zaj rs 0 2=f2 at*
  generalize Zaj rs 0 3=f3 at*
  generalize Zaj rs 0 4=f4 at*
  repeat' (first |split |apply And.intro)
  all_goals first |omega |skip
  all_goals (clear hs';simp_all[Zbk,Zhz])
end
def dB(ms ks rs:List AV):AV:=if 10<rs.length then Zbk 3 0 8 else ZoB ms ks rs
theorem ZAm(ms ks rs:List AV):(if Zcg (decide (0≤(rs.length:Int))) (decide ((rs.length:Int)≤10))=0 then ZoB ms ks rs else Zbk 3 0 (Zcg (decide (0≤(rs.length:Int))) (decide ((rs.length:Int)≤10))))=dB ms ks rs:=by
 unfold dB
 by_cases h:10<rs.length
 ·rw[if_pos h,decide_eq_true (by omega:(0:Int)≤(rs.length:Int)),decide_eq_false (by omega:¬(rs.length:Int)≤10)];rfl
 ·rw[if_neg h,decide_eq_true (by omega:(0:Int)≤(rs.length:Int)),decide_eq_true (by omega:(rs.length:Int)≤10)];rfl
def dA(ms ks rs:List AV):AV:=if ks.length=0 then Zbk 2 0 10 else if 8<ks.length then Zbk 2 0 8 else ZnK ms ks rs
theorem Zyl(ms ks rs:List AV):(if Zcg (decide (1≤(ks.length:Int))) (decide ((ks.length:Int)≤8))=0 then ZnK ms ks rs else Zbk 2 0 (Zcg (decide (1≤(ks.length:Int))) (decide ((ks.length:Int)≤8))))=dA ms ks rs:=by
 unfold dA
 by_cases h:ks.length=0
 ·rw[if_pos h,decide_eq_false (by omega:¬(1:Int)≤(ks.length:Int))];rfl
 ·rw[if_neg h,decide_eq_true (by omega:(1:Int)≤(ks.length:Int))]
  by_cases h2:8<ks.length
  ·rw[if_pos h2,decide_eq_false (by omega:¬(ks.length:Int)≤8)];rfl
  ·rw[if_neg h2,decide_eq_true (by omega:(ks.length:Int)≤8)];rfl
theorem Zkx(ms ks rs:List AV):Zec ms ks rs=if ms.length=0 then Zbk 1 0 10 else if 6<ms.length then Zbk 1 0 8 else Zr1 ms ks rs:=by
 unfold Zec
 by_cases h:ms.length=0
 ·rw[if_pos h,decide_eq_false (by omega:¬(1:Int)≤(ms.length:Int))];rfl
 ·rw[if_neg h,decide_eq_true (by omega:(1:Int)≤(ms.length:Int))]
  by_cases h2:6<ms.length
  ·rw[if_pos h2,decide_eq_false (by omega:¬(ms.length:Int)≤6)];rfl
  ·rw[if_neg h2,decide_eq_true (by omega:(ms.length:Int)≤6)];rfl
section
variable {C:Ctx}(hC:C.P=Tryz.prog)(ms ks rs:List AV)(hs:ZaA ms ks rs=true)
include hC hs
theorem ZB4:Ev C (Zc3 ms ks rs) (Zcv ms ks rs) (ZcD 119 (ZoB ms ks rs) none):=Zy3 hC ms ks rs hs _ rfl
theorem ZCr:∀(m k:Nat) (xs:List AV),k+m=ks.length→xs.length≤k→Ev C (Zeo ms ks rs k xs) (Zdx ms ks rs k xs)
 (ZcD 119 (ZbB 2 (Zbl (fun k=>Zay ks k) (fun k=>Zc0 ks k ms.length) m k xs) (dB ms ks rs)) none)
 |0,k,xs,hk,hx=>by
  refine tgo hC Zew ZfT ?_
  by_cases h:10<rs.length
  ·simp[Zcr,show ¬(k:Int)<ks.length by omega,Zbl,ZbB,dB,h,show(10:Int)<rs.length by omega,Zbk]
  ·simp[Zcr,show ¬(k:Int)<ks.length by omega,Zbl,ZbB,dB,h,show ¬(10:Int)<rs.length by omega]
   exact ZB4 hC ms ks rs hs
 |m+1,k,xs,hk,hx=>by
  have hs':=hs
  simp only[ZaA,Bool.and_eq_true,decide_eq_true_eq]at hs'
  have hn:=Zb1 hs'.1.1.2 (show k<ks.length by omega)
  have hlt:(k:Int)<ks.length:=by omega
  have hlt2:k<ks.length:=by omega
  have e0:((ks.getD k .top).cellAt 0).toS=Zay ks k:=rfl
  have e1:((ks.getD k .top).cellAt 1).toI=Zaj ks k 1:=rfl
  have ih:=ZCr m (k+1) (xs++[.str (Zay ks k)]) (by omega) (by simp;omega)
  obtain⟨V,hV⟩:∃V,V=ZbB 2 (Zbl (fun k=>Zay ks k) (fun k=>Zc0 ks k ms.length) (m+1) k xs) (dB ms ks rs):=⟨_,rfl⟩
  rw[←hV]
  rw[Zft,ZeJ,Zmc]at hV
  refine tgo hC Zew ZfT ?_
  simp[-List.getD_eq_getElem?_getD,Zcr,e0,e1,hlt,hlt2,hn,AV.bx,Zae]
  clear e0 e1 hs
  replace hs':=hs'.2
  generalize Zay ks k=nm at*
  generalize Zaj ks k 1=f1 at*
  repeat' (first |split |apply And.intro)
  all_goals first |omega |skip
  all_goals (clear hs';simp_all[Zbk])
theorem Zyt:∀m:Nat,m=ks.length→Ev C (Zc2 ms ks rs) (Zcl ms ks rs)
 (ZcD 119 (ZbB 2 (Zbl (fun k=>Zay ks k) (fun k=>Zc0 ks k ms.length) m 0 []) (dB ms ks rs)) none)
 |0,hk=>by
  refine tgo hC Zew Zf6 ?_
  by_cases h:10<rs.length
  ·simp[Zcm,←hk,Zbl,ZbB,dB,h,show(10:Int)<rs.length by omega,Zbk]
  ·simp[Zcm,←hk,Zbl,ZbB,dB,h,show ¬(10:Int)<rs.length by omega]
   exact ZB4 hC ms ks rs hs
 |m+1,hk=>by
  have hs':=hs
  simp only[ZaA,Bool.and_eq_true,decide_eq_true_eq]at hs'
  have hn:=Zb1 hs'.1.1.2 (show 0<ks.length by omega)
  have hlt:(0:Int)<ks.length:=by omega
  have hlt2:0<ks.length:=by omega
  have e0:((ks.getD 0 .top).cellAt 0).toS=Zay ks 0:=rfl
  have e1:((ks.getD 0 .top).cellAt 1).toI=Zaj ks 0 1:=rfl
  have ih:=ZCr hC ms ks rs hs m 1 [.str (Zay ks 0)] (by omega) (by simp)
  obtain⟨V,hV⟩:∃V,V=ZbB 2 (Zbl (fun k=>Zay ks k) (fun k=>Zc0 ks k ms.length) (m+1) 0 []) (dB ms ks rs):=⟨_,rfl⟩
  rw[←hV]
  rw[Zft,ZeJ,Zmc]at hV
  refine tgo hC Zew Zf6 ?_
  simp[-List.getD_eq_getElem?_getD,Zcm,e0,e1,hlt,hlt2,hn,AV.bx,Zae]
  clear e0 e1 hs
  replace hs':=hs'.2
  generalize Zay ks 0=nm at*
  generalize Zaj ks 0 1=f1 at*
  repeat' (first |split |apply And.intro)
  all_goals first |omega |skip
  all_goals (clear hs';simp_all[Zbk,Zhz])
theorem ZDq:Ev C (Zc2 ms ks rs) (Zcl ms ks rs) (ZcD 119 (ZnK ms ks rs) none):=by
 have:=Zyt hC ms ks rs hs _ rfl
 rw[←ZAm]at this
 exact this
theorem ZB2:∀(m k:Nat) (xs:List AV),k+m=ms.length→xs.map AV.toS=(ms.take k).map AV.toS→Ev C (Zes ms ks rs k) (Zdq ms ks rs k)
 (ZcD 119 (ZbB 1 (Zbl (fun k=>Za8 ms k) (fun _=>0) m k xs) (dA ms ks rs)) none)
 |0,k,xs,hk,hx=>by
  refine tgo hC Zew ZfP ?_
  by_cases h0:ks.length=0
  ·simp[ZbN,show ¬(k:Int)<ms.length by omega,Zbl,ZbB,dA,h0,Zbk]
  ·by_cases h:8<ks.length
   ·simp[ZbN,show ¬(k:Int)<ms.length by omega,Zbl,ZbB,dA,h0,h,show(8:Int)<ks.length by omega,Zbk]
   ·simp[ZbN,show ¬(k:Int)<ms.length by omega,Zbl,ZbB,dA,h0,h,show ¬(8:Int)<ks.length by omega]
    exact ZDq hC ms ks rs hs
 |m+1,k,xs,hk,hx=>by
  have hs':=hs
  simp only[ZaA,Bool.and_eq_true,decide_eq_true_eq]at hs'
  have hn:=Zit hs'.1.1.1 (show k<ms.length by omega)
  have hlt:(k:Int)<ms.length:=by omega
  have hlt2:k<ms.length:=by omega
  have e0:(ms.getD k .top).toS=Za8 ms k:=rfl
  have ih:=ZB2 m (k+1) (xs++[.str (Za8 ms k)]) (by omega) (by
   rw[List.map_append,hx,List.take_succ_eq_append_getElem hlt2,List.map_append]
   congr 1
   simp[Za8,AV.toS,hlt2])
  have hh:Zhz (ms.take k) (Za8 ms k)=Zhz xs (Za8 ms k):=Zrj hx.symm
  obtain⟨V,hV⟩:∃V,V=ZbB 1 (Zbl (fun k=>Za8 ms k) (fun _=>0) (m+1) k xs) (dA ms ks rs):=⟨_,rfl⟩
  rw[←hV]
  rw[Zft,ZeJ]at hV
  refine tgo hC Zew ZfP ?_
  simp[-List.getD_eq_getElem?_getD,ZbN,e0,hlt,hlt2,hn,hh]
  clear e0 hs hx hh
  replace hs':=hs'.2
  generalize Za8 ms k=nm at*
  repeat' (first |split |apply And.intro)
  all_goals first |omega |skip
  all_goals (clear hs';simp_all[Zbk])
end
theorem Zq0(ms ks rs:List AV)(hs:ZaA ms ks rs=true):Zao Tryz.prog 119 [.agg (.gen [.list (.big .str ms), .list (.big (.agg [.str, .int .i64]) ks), .list (.big (.agg [.str, .int .i64, .int .i64, .int .i64, .int .i64]) rs)])] (.tup [.agg (.gen [.int .i64 (Zkr ms ks rs), .int .i64 (Zj0 ms ks rs)]), .int .i64 (ZaL ms ks rs)]) none:=by
 rw[show AV.tup [.agg (.gen [.int .i64 (Zkr ms ks rs), .int .i64 (Zj0 ms ks rs)]), .int .i64 (ZaL ms ks rs)]=Zec ms ks rs from(ZjA ms ks rs).eq.symm]
 refine start (Zr2 ms ks rs) fun C hC=>tgo hC Zew ZCX ?_
 rw[Zkx]
 by_cases h0:ms.length=0
 ·simp[ZmP,h0,Zbk]
 ·by_cases h:6<ms.length
  ·simp[ZmP,h0,h,show(6:Int)<ms.length by omega,Zbk]
  ·simp[ZmP,h0,h,show ¬(6:Int)<ms.length by omega]
   have:=ZB2 hC ms ks rs hs ms.length 0 [] (by omega) (by simp)
   rw[Zr1,Zyl]
   exact this
end Go.Proofs.YtkeoeooghhjibaaGreatDoor
/- ForbiddenBy of both packages. No condition. -/
namespace Go.Proofs.YtkeoeooghhjibaaGreatDoor
def Zj7(rs:List AV)(a b:Int)(xs:List Int)(k:Int)(i:Nat):Bool:=decide (Zaj rs i 1=k∧(Zaj rs i 2= -1∨Zaj rs i 2=a)∧(Zaj rs i 3= -1∨(xs.getD (Zaj rs i 3).toNat 0≠ -1∧b-xs.getD (Zaj rs i 3).toNat 0<Zaj rs i 4)))
def Zgl(rs:List AV)(a b:Int)(xs:List Int)(k:Int):Nat→Nat→List UInt8
 |0,_=>[]
 |m+1,i=>if Zj7 rs a b xs k i=true then Zay rs i else Zgl rs a b xs k m (i+1)
def ZbX(rs:List AV)(b:Int)(xs:List Int):Bool:=((List.range rs.length).all fun i=>decide (-1≤Zaj rs i 3∧Zaj rs i 3<xs.length))&&(xs.all fun x=>decide (-1≤x∧x≤b))&&decide (0≤b∧b≤1000000000000∧rs.length≤1000000)
theorem ZmK{rs:List AV}{b:Int}{xs:List Int}(h:ZbX rs b xs=true){k:Nat}(hk:k<rs.length):(-1≤Zaj rs k 3∧Zaj rs k 3<xs.length)∧(Zaj rs k 3≠ -1→ -1≤xs.getD (Zaj rs k 3).toNat 0∧xs.getD (Zaj rs k 3).toNat 0≤b)∧0≤b∧b≤1000000000000∧rs.length≤1000000:=by
 simp only[ZbX,Bool.and_eq_true,List.all_eq_true,decide_eq_true_eq,List.mem_range]at h
 obtain⟨⟨h1,h2⟩,h3⟩:=h
 refine⟨h1 k hk,fun h4=>?_,h3⟩
 have h5:=h1 k hk
 have h6:(Zaj rs k 3).toNat<xs.length:=by omega
 refine h2 _ ?_
 rw[List.getD_eq_getElem?_getD,List.getElem?_eq_getElem h6];exact List.getElem_mem h6
theorem Zj8{C:Ctx}(hC:C.P=Tryz.prog)(ms ks rs:List AV)(a b:Int)(xs:List Int)(q:Int)(hg:ZbX rs b xs=true):∀m k:Nat,k+m=rs.length→Ev C (ZeR ms ks rs a b xs q k) (ZdR ms ks rs a b xs q k) (ZcD 86 (.str (Zgl rs a b xs q m k)) none)
 |0,k,hk=>tgo hC Zew ZhV (by simp[Zfz,show ¬(k:Int)<rs.length by omega];rfl)
 |m+1,k,hk=>by
  have hlt:(k:Int)<rs.length:=by omega
  have hlt2:k<rs.length:=by omega
  have e0:((rs.getD k .top).cellAt 0).toS=Zay rs k:=rfl
  have e1:((rs.getD k .top).cellAt 1).toI=Zaj rs k 1:=rfl
  have e2:((rs.getD k .top).cellAt 2).toI=Zaj rs k 2:=rfl
  have e3:((rs.getD k .top).cellAt 3).toI=Zaj rs k 3:=rfl
  have e4:((rs.getD k .top).cellAt 4).toI=Zaj rs k 4:=rfl
  have ih:=Zj8 hC ms ks rs a b xs q hg m (k+1) (by omega)
  refine tgo hC Zew ZhV ?_
  simp[-List.getD_eq_getElem?_getD,Zfz,e0,e1,e2,e3,e4,hlt,hlt2]
  obtain⟨V,hV⟩:∃V,V=Zgl rs a b xs q (m+1) k:=⟨_,rfl⟩
  rw[←hV]
  simp only[Zgl,Zj7,decide_eq_true_eq]at hV
  have g:=ZmK hg hlt2
  clear e0 e1 e2 e3 e4 hg
  generalize Zay rs k=nm at*
  generalize Zaj rs k 1=f1 at*
  generalize Zaj rs k 2=f2 at*
  generalize Zaj rs k 3=f3 at*
  generalize Zaj rs k 4=f4 at*
  generalize xs.getD f3.toNat 0=t at*
  have r3: -9223372036854775808≤(k:Int)+1∧(k:Int)+1≤9223372036854775807:=by omega
  have r1:f3≠ -1→(0≤f3∧f3.toNat<xs.length)∧(-9223372036854775808≤b-t∧b-t≤9223372036854775807):=by omega
  have ih':Ev C (ZeR ms ks rs a b xs q (k+1)) (ZdR ms ks rs a b xs q (k+1)) (ZcD 86 (.str (Zgl rs a b xs q m (k+1))) none):=ih
  clear hk hlt hlt2 g ih
  by_cases h1:f1=q<;>by_cases h2:f2= -1<;>by_cases h3:f2=a<;>by_cases h4:f3= -1<;>by_cases h5:t= -1<;>by_cases h6:b-t<f4<;>simp_all<;>(intro h7;omega)
theorem Zp4(ms ks rs:List AV)(a b:Int)(xs:List Int)(q:Int)(hg:ZbX rs b xs=true):Zao Tryz.prog 86 [.agg (.gen [.list (.big .str ms), .list (.big (.agg [.str, .int .i64]) ks), .list (.big (.agg [.str, .int .i64, .int .i64, .int .i64, .int .i64]) rs)]), .agg (.gen [.int .i64 a, .int .i64 b, .list (.ints .i64 xs)]), .int .i64 q] (.str (Zgl rs a b xs q rs.length 0)) none:=
 start (ZvT ms ks rs a b xs q) fun C hC=>tgo hC Zew ZFH (Zj8 hC ms ks rs a b xs q hg rs.length 0 (by omega))
theorem firstE_zero:∀ {l:List Int},Zai l=0↔∀x∈l,x=0
 |[]=>by simp[Zai]
 |x::l=>by
  have ih:=firstE_zero (l:=l)
  by_cases h:x=0
  ·simp[Zai,h,ih]
  ·simp[Zai,h]
theorem ZaN{b:Bool}{e:Int}(h:Zaa b e=0)(he:e≠0):b=true:=by
 cases b
 ·exact absurd h he
 ·rfl
theorem Zja{nm:Nat→List UInt8}{ex:Nat→Int}{p:Int}{d:AV} :∀(m k:Nat) (xs:List AV),mE (ZbB p (Zbl nm ex m k xs) d)=0→mE d=0∧∀i,k≤i→i<k+m→ZaU (nm i)=true∧ex i=0
 |0,k,xs,h=>⟨h,fun i h1 h2=>by omega⟩
 |m+1,k,xs,h=>by
  rw[Zft]at h
  split at h
  ·rename_i hs
   obtain⟨h1,h2⟩:=Zja m (k+1) _ h
   refine⟨h1,fun i h3 h4=>?_⟩
   by_cases hi:i=k
   ·subst hi
    obtain⟨g1,_,g3⟩:=ZsO hs
    exact⟨ZaN g1 (by decide),g3⟩
   ·exact h2 i (by omega) (by omega)
  ·rename_i hs
   exact absurd h hs
theorem Zn0{ms ks rs:List AV}(h:ZaL ms ks rs=0):(1≤ms.length∧ms.length≤6)∧(1≤ks.length∧ks.length≤8)∧rs.length≤10∧(∀i<ms.length,ZaU (Za8 ms i)=true)∧(∀i<ks.length,ZaU (Zay ks i)=true∧Zc0 ks i ms.length=0)∧(∀i<rs.length,ZaU (Zay rs i)=true∧ZbT rs i ks.length ms.length=0):=by
 unfold ZaL at h
 rw[Zkx]at h
 split at h
 ·cases h
 ·split at h
  ·cases h
  ·rw[Zr1,Zyl]at h
   obtain⟨h1,h2⟩:=Zja _ _ _ h
   unfold dA at h1
   split at h1
   ·cases h1
   ·split at h1
    ·cases h1
    ·rw[ZnK,ZAm]at h1
     obtain⟨h3,h4⟩:=Zja _ _ _ h1
     unfold dB at h3
     split at h3
     ·cases h3
     ·obtain⟨_,h5⟩:=Zja _ _ _ h3
      exact⟨by omega,by omega,by omega,fun i hi=>(h2 i (by omega) (by omega)).1,fun i hi=>h4 i (by omega) (by omega),fun i hi=>h5 i (by omega) (by omega)⟩
theorem within_iff{n a b:Int} :Zab n a b=true↔a≤n∧n≤b:=by simp[Zab]
theorem ZgT{rs:List AV}{i n m:Nat}(h:ZbT rs i n m=0):(0≤Zaj rs i 1∧Zaj rs i 1<n)∧(-1≤Zaj rs i 2∧Zaj rs i 2<m)∧(-1≤Zaj rs i 3∧Zaj rs i 3<n)∧(1≤Zaj rs i 4∧Zaj rs i 4≤1000000)∧(Zaj rs i 3= -1→Zaj rs i 4=1):=by
 rw[Zjd]at h
 simp only[within_iff]at h
 split at h
 ·split at h
  ·split at h
   ·cases h
   ·rename_i h1 h2 h3
    exact⟨by omega,by omega,by omega,by omega,fun h4=>by simpa[h4]using h3⟩
  ·cases h
 ·cases h
end Go.Proofs.YtkeoeooghhjibaaGreatDoor
/- Contracts as a list. No condition. -/
namespace Go.Proofs.YtkeoeooghhjibaaGreatDoor
def k119:Ctr:=⟨119,0,fun _ a=>match a with |[.agg (.gen [.list (.big .str ms), .list (.big (.agg [.str, .int .i64]) ks), .list (.big (.agg [.str, .int .i64, .int .i64, .int .i64, .int .i64]) rs)])]=>some (decide (ZaA ms ks rs=true), .tup [.agg (.gen [.int .i64 (Zkr ms ks rs), .int .i64 (Zj0 ms ks rs)]), .int .i64 (ZaL ms ks rs)],none) |_=>none⟩
theorem ZuJ:k119.OK Tryz.prog:=fun pa args r fr h=>by
 simp only[k119]at h
 split at h
 ·simp only[Option.some.injEq,Prod.mk.injEq,decide_eq_true_eq]at h
  obtain⟨h0,rfl,rfl⟩:=h
  exact Zq0 _ _ _ h0
 ·cases h
def k86:Ctr:=⟨86,0,fun _ a=>match a with |[.agg (.gen [.list (.big .str _), .list (.big (.agg [.str, .int .i64]) _), .list (.big (.agg [.str, .int .i64, .int .i64, .int .i64, .int .i64]) rs)]), .agg (.gen [.int .i64 a, .int .i64 b, .list (.ints .i64 xs)]), .int .i64 q]=>some (decide (ZbX rs b xs=true), .str (Zgl rs a b xs q rs.length 0),none) |_=>none⟩
theorem ZCk:k86.OK Tryz.prog:=fun pa args r fr h=>by
 simp only[k86]at h
 split at h
 ·simp only[Option.some.injEq,Prod.mk.injEq,decide_eq_true_eq]at h
  obtain⟨h0,rfl,rfl⟩:=h
  exact Zp4 _ _ _ _ _ _ _ h0
 ·cases h
def B7:List Ctr:=[k119,k86]++B6
theorem Zz5:ZaD Tryz.prog B7:=⟨ZuJ,⟨ZCk,Zew⟩⟩
end Go.Proofs.YtkeoeooghhjibaaGreatDoor
/- Paths of functions, printed by the explorer (Gx). No condition. -/
namespace Go.Proofs.YtkeoeooghhjibaaGreatDoor
set_option maxRecDepth 100000
set_option linter.unusedVariables false
def Zyg(ms ks rs:List AV):AFrame:={ fn:=65,N:=11,env:=[(0,AV.agg (Row.gen [.list (Row.big .str ms), .list (Row.big (.agg [.str, .int .i64]) ks), .list (Row.big (.agg [.str, .int .i64, .int .i64, .int .i64, .int .i64]) rs)]))],todo:=[.code a65.code],defs:=[],rnd:=none,ret:=false,res:=[ARes.tmp 2] }
def ZIw(ms ks rs:List AV):List AFrame:=[(Zyg ms ks rs)]
theorem Zuu(ms ks rs:List AV):Zar tab 65 [AV.agg (Row.gen [.list (Row.big .str ms), .list (Row.big (.agg [.str, .int .i64]) ks), .list (Row.big (.agg [.str, .int .i64, .int .i64, .int .i64, .int .i64]) rs)])]=some (Zyg ms ks rs):=rfl
def ZBj(A:Ar)(K:KT)(F:FT)(ms ks rs:List AV):Prop:=rB [decide (ZaA ms ks rs=true)] (F (AV.int .i64 (ZaL ms ks rs)) (none))
theorem ZDD{A:Ar}{K:KT}{F:FT}{M:MT}{ms ks rs:List AV} :ZaH A tab B7 65 K F M (.run 23 (.fn)) (ZIw ms ks rs) []=ZBj A K F ms ks rs:=by kernel_rfl
end Go.Proofs.YtkeoeooghhjibaaGreatDoor
/- Calls at given values. Printed by facts.py. -/
namespace Go.Proofs.YtkeoeooghhjibaaGreatDoor
set_option maxRecDepth 1000000
def aw0:Fact:=⟨66,[],(.agg (.gen [(.list (.big .str [(.str [115,97,102,101]),(.str [99,114,117,105,115,101]),(.str [98,117,114,110])])),(.list (.big (.agg [.str,(.int .i64)]) [(.agg (.gen [(.str [119,97,107,101]),(.int .i64 1)])),(.agg (.gen [(.str [102,105,114,101]),(.int .i64 2)])),(.agg (.gen [(.str [115,116,111,112]),(.int .i64 1)])),(.agg (.gen [(.str [112,105,110,103]),(.int .i64 (-1))]))])),(.list (.big (.agg [.str,(.int .i64),(.int .i64),(.int .i64),(.int .i64)]) [(.agg (.gen [(.str [99,111,108,100]),(.int .i64 1),(.int .i64 0),(.int .i64 (-1)),(.int .i64 1)])),(.agg (.gen [(.str [104,101,97,116]),(.int .i64 1),(.int .i64 (-1)),(.int .i64 2),(.int .i64 50)]))])),(.list (.big (.agg [(.int .i64),(.int .i64),(.int .i64)]) [(.agg (.gen [(.int .i64 0),(.int .i64 0),(.int .i64 100)])),(.agg (.gen [(.int .i64 1),(.int .i64 20),(.int .i64 200)])),(.agg (.gen [(.int .i64 2),(.int .i64 30),(.int .i64 300)])),(.agg (.gen [(.int .i64 1),(.int .i64 40),(.int .i64 400)]))])),(.int .i64 2),(.int .i64 2)])),none⟩
theorem ZBt:Zao Tryz.prog aw0.f aw0.args aw0.r aw0.fr:=Zad (n:=100000) (l:=[]) follows Zaf trivial (by kernel_rfl)
def aw1:Fact:=⟨68,[(.bool true),(.int .i64 10)],(.int .i64 0),none⟩
theorem ZoR:Zao Tryz.prog aw1.f aw1.args aw1.r aw1.fr:=Zad (n:=100000) (l:=[]) follows Zaf trivial (by kernel_rfl)
def aw2:Fact:=⟨68,[(.bool true),(.int .i64 8)],(.int .i64 0),none⟩
theorem Zl8:Zao Tryz.prog aw2.f aw2.args aw2.r aw2.fr:=Zad (n:=100000) (l:=[]) follows Zaf trivial (by kernel_rfl)
def aw3:Fact:=⟨67,[(.list (.ints .i64 [0,0]))],(.int .i64 0),none⟩
theorem Zms:Zao Tryz.prog aw3.f aw3.args aw3.r aw3.fr:=Zad (n:=100000) (l:=[]) follows Zaf trivial (by kernel_rfl)
def aw4:Fact:=⟨160,[(.int .i64 0),(.eptr (.agg (.gen [(.list (.big .str [(.str [115,97,102,101]),(.str [99,114,117,105,115,101]),(.str [98,117,114,110])])),(.list (.big (.agg [.str,(.int .i64)]) [(.agg (.gen [(.str [119,97,107,101]),(.int .i64 1)])),(.agg (.gen [(.str [102,105,114,101]),(.int .i64 2)])),(.agg (.gen [(.str [115,116,111,112]),(.int .i64 1)])),(.agg (.gen [(.str [112,105,110,103]),(.int .i64 (-1))]))])),(.list (.big (.agg [.str,(.int .i64),(.int .i64),(.int .i64),(.int .i64)]) [(.agg (.gen [(.str [99,111,108,100]),(.int .i64 1),(.int .i64 0),(.int .i64 (-1)),(.int .i64 1)])),(.agg (.gen [(.str [104,101,97,116]),(.int .i64 1),(.int .i64 (-1)),(.int .i64 2),(.int .i64 50)]))]))])) 0)],(.str [115,97,102,101]),none⟩
theorem Zzn:Zao Tryz.prog aw4.f aw4.args aw4.r aw4.fr:=Zad (n:=100000) (l:=[]) follows Zaf trivial (by kernel_rfl)
def aw5:Fact:=⟨182,[(.str [115,97,102,101])],(.bool true),none⟩
theorem ZAY:Zao Tryz.prog aw5.f aw5.args aw5.r aw5.fr:=Zad (n:=100000) (l:=[]) follows Zaf trivial (by kernel_rfl)
def aw6:Fact:=⟨68,[(.bool true),(.int .i64 4)],(.int .i64 0),none⟩
theorem ZzZ:Zao Tryz.prog aw6.f aw6.args aw6.r aw6.fr:=Zad (n:=100000) (l:=[]) follows Zaf trivial (by kernel_rfl)
def aw7:Fact:=⟨68,[(.bool true),(.int .i64 5)],(.int .i64 0),none⟩
theorem ZB5:Zao Tryz.prog aw7.f aw7.args aw7.r aw7.fr:=Zad (n:=100000) (l:=[]) follows Zaf trivial (by kernel_rfl)
def aw8:Fact:=⟨161,[(.int .i64 0)],(.int .i64 0),none⟩
theorem ZAV:Zao Tryz.prog aw8.f aw8.args aw8.r aw8.fr:=Zad (n:=100000) (l:=[]) follows Zaf trivial (by kernel_rfl)
def aw9:Fact:=⟨67,[(.list (.ints .i64 [0,0,0]))],(.int .i64 0),none⟩
theorem ZfL:Zao Tryz.prog aw9.f aw9.args aw9.r aw9.fr:=Zad (n:=100000) (l:=[]) follows Zaf trivial (by kernel_rfl)
def aw10:Fact:=⟨160,[(.int .i64 1),(.eptr (.agg (.gen [(.list (.big .str [(.str [115,97,102,101]),(.str [99,114,117,105,115,101]),(.str [98,117,114,110])])),(.list (.big (.agg [.str,(.int .i64)]) [(.agg (.gen [(.str [119,97,107,101]),(.int .i64 1)])),(.agg (.gen [(.str [102,105,114,101]),(.int .i64 2)])),(.agg (.gen [(.str [115,116,111,112]),(.int .i64 1)])),(.agg (.gen [(.str [112,105,110,103]),(.int .i64 (-1))]))])),(.list (.big (.agg [.str,(.int .i64),(.int .i64),(.int .i64),(.int .i64)]) [(.agg (.gen [(.str [99,111,108,100]),(.int .i64 1),(.int .i64 0),(.int .i64 (-1)),(.int .i64 1)])),(.agg (.gen [(.str [104,101,97,116]),(.int .i64 1),(.int .i64 (-1)),(.int .i64 2),(.int .i64 50)]))]))])) 0)],(.str [99,114,117,105,115,101]),none⟩
theorem ZuE:Zao Tryz.prog aw10.f aw10.args aw10.r aw10.fr:=Zad (n:=100000) (l:=[]) follows Zaf trivial (by kernel_rfl)
def aw11:Fact:=⟨182,[(.str [99,114,117,105,115,101])],(.bool true),none⟩
theorem Zw6:Zao Tryz.prog aw11.f aw11.args aw11.r aw11.fr:=Zad (n:=100000) (l:=[]) follows Zaf trivial (by kernel_rfl)
def aw12:Fact:=⟨161,[(.int .i64 1)],(.int .i64 0),none⟩
theorem ZwJ:Zao Tryz.prog aw12.f aw12.args aw12.r aw12.fr:=Zad (n:=100000) (l:=[]) follows Zaf trivial (by kernel_rfl)
def aw13:Fact:=⟨160,[(.int .i64 2),(.eptr (.agg (.gen [(.list (.big .str [(.str [115,97,102,101]),(.str [99,114,117,105,115,101]),(.str [98,117,114,110])])),(.list (.big (.agg [.str,(.int .i64)]) [(.agg (.gen [(.str [119,97,107,101]),(.int .i64 1)])),(.agg (.gen [(.str [102,105,114,101]),(.int .i64 2)])),(.agg (.gen [(.str [115,116,111,112]),(.int .i64 1)])),(.agg (.gen [(.str [112,105,110,103]),(.int .i64 (-1))]))])),(.list (.big (.agg [.str,(.int .i64),(.int .i64),(.int .i64),(.int .i64)]) [(.agg (.gen [(.str [99,111,108,100]),(.int .i64 1),(.int .i64 0),(.int .i64 (-1)),(.int .i64 1)])),(.agg (.gen [(.str [104,101,97,116]),(.int .i64 1),(.int .i64 (-1)),(.int .i64 2),(.int .i64 50)]))]))])) 0)],(.str [98,117,114,110]),none⟩
theorem ZwK:Zao Tryz.prog aw13.f aw13.args aw13.r aw13.fr:=Zad (n:=100000) (l:=[]) follows Zaf trivial (by kernel_rfl)
def aw14:Fact:=⟨182,[(.str [98,117,114,110])],(.bool true),none⟩
theorem Zu1:Zao Tryz.prog aw14.f aw14.args aw14.r aw14.fr:=Zad (n:=100000) (l:=[]) follows Zaf trivial (by kernel_rfl)
def aw15:Fact:=⟨161,[(.int .i64 2)],(.int .i64 0),none⟩
theorem ZuW:Zao Tryz.prog aw15.f aw15.args aw15.r aw15.fr:=Zad (n:=100000) (l:=[]) follows Zaf trivial (by kernel_rfl)
def aw16:Fact:=⟨162,[(.int .i64 0),(.eptr (.agg (.gen [(.list (.big .str [(.str [115,97,102,101]),(.str [99,114,117,105,115,101]),(.str [98,117,114,110])])),(.list (.big (.agg [.str,(.int .i64)]) [(.agg (.gen [(.str [119,97,107,101]),(.int .i64 1)])),(.agg (.gen [(.str [102,105,114,101]),(.int .i64 2)])),(.agg (.gen [(.str [115,116,111,112]),(.int .i64 1)])),(.agg (.gen [(.str [112,105,110,103]),(.int .i64 (-1))]))])),(.list (.big (.agg [.str,(.int .i64),(.int .i64),(.int .i64),(.int .i64)]) [(.agg (.gen [(.str [99,111,108,100]),(.int .i64 1),(.int .i64 0),(.int .i64 (-1)),(.int .i64 1)])),(.agg (.gen [(.str [104,101,97,116]),(.int .i64 1),(.int .i64 (-1)),(.int .i64 2),(.int .i64 50)]))]))])) 0)],(.str [119,97,107,101]),none⟩
theorem ZwV:Zao Tryz.prog aw16.f aw16.args aw16.r aw16.fr:=Zad (n:=100000) (l:=[]) follows Zaf trivial (by kernel_rfl)
def aw17:Fact:=⟨182,[(.str [119,97,107,101])],(.bool true),none⟩
theorem Zxh:Zao Tryz.prog aw17.f aw17.args aw17.r aw17.fr:=Zad (n:=100000) (l:=[]) follows Zaf trivial (by kernel_rfl)
def aw18:Fact:=⟨82,[(.int .i64 1),(.int .i64 0),(.int .i64 2)],(.bool true),none⟩
theorem Zvt:Zao Tryz.prog aw18.f aw18.args aw18.r aw18.fr:=Zad (n:=100000) (l:=[]) follows Zaf trivial (by kernel_rfl)
def aw19:Fact:=⟨158,[(.int .i64 1),(.int .i64 3)],(.bool true),none⟩
theorem ZpM:Zao Tryz.prog aw19.f aw19.args aw19.r aw19.fr:=Zad (n:=100000) (l:=[aw18]) follows Zaf ⟨Zvt,trivial⟩ (by kernel_rfl)
def aw20:Fact:=⟨68,[(.bool true),(.int .i64 6)],(.int .i64 0),none⟩
theorem Zc4:Zao Tryz.prog aw20.f aw20.args aw20.r aw20.fr:=Zad (n:=100000) (l:=[]) follows Zaf trivial (by kernel_rfl)
def aw21:Fact:=⟨163,[(.int .i64 0),(.eptr (.fn 158 []) 0),(.eptr (.agg (.gen [(.list (.big .str [(.str [115,97,102,101]),(.str [99,114,117,105,115,101]),(.str [98,117,114,110])])),(.list (.big (.agg [.str,(.int .i64)]) [(.agg (.gen [(.str [119,97,107,101]),(.int .i64 1)])),(.agg (.gen [(.str [102,105,114,101]),(.int .i64 2)])),(.agg (.gen [(.str [115,116,111,112]),(.int .i64 1)])),(.agg (.gen [(.str [112,105,110,103]),(.int .i64 (-1))]))])),(.list (.big (.agg [.str,(.int .i64),(.int .i64),(.int .i64),(.int .i64)]) [(.agg (.gen [(.str [99,111,108,100]),(.int .i64 1),(.int .i64 0),(.int .i64 (-1)),(.int .i64 1)])),(.agg (.gen [(.str [104,101,97,116]),(.int .i64 1),(.int .i64 (-1)),(.int .i64 2),(.int .i64 50)]))]))])) 0),(.eptr (.int .i64 3) 0)],(.int .i64 0),none⟩
theorem Zu6:Zao Tryz.prog aw21.f aw21.args aw21.r aw21.fr:=Zad (n:=100000) (l:=[aw19,aw20]) follows Zaf ⟨ZpM,⟨Zc4,trivial⟩⟩ (by kernel_rfl)
def aw22:Fact:=⟨162,[(.int .i64 1),(.eptr (.agg (.gen [(.list (.big .str [(.str [115,97,102,101]),(.str [99,114,117,105,115,101]),(.str [98,117,114,110])])),(.list (.big (.agg [.str,(.int .i64)]) [(.agg (.gen [(.str [119,97,107,101]),(.int .i64 1)])),(.agg (.gen [(.str [102,105,114,101]),(.int .i64 2)])),(.agg (.gen [(.str [115,116,111,112]),(.int .i64 1)])),(.agg (.gen [(.str [112,105,110,103]),(.int .i64 (-1))]))])),(.list (.big (.agg [.str,(.int .i64),(.int .i64),(.int .i64),(.int .i64)]) [(.agg (.gen [(.str [99,111,108,100]),(.int .i64 1),(.int .i64 0),(.int .i64 (-1)),(.int .i64 1)])),(.agg (.gen [(.str [104,101,97,116]),(.int .i64 1),(.int .i64 (-1)),(.int .i64 2),(.int .i64 50)]))]))])) 0)],(.str [102,105,114,101]),none⟩
theorem Zwf:Zao Tryz.prog aw22.f aw22.args aw22.r aw22.fr:=Zad (n:=100000) (l:=[]) follows Zaf trivial (by kernel_rfl)
def aw23:Fact:=⟨182,[(.str [102,105,114,101])],(.bool true),none⟩
theorem ZuD:Zao Tryz.prog aw23.f aw23.args aw23.r aw23.fr:=Zad (n:=100000) (l:=[]) follows Zaf trivial (by kernel_rfl)
def aw24:Fact:=⟨82,[(.int .i64 2),(.int .i64 0),(.int .i64 2)],(.bool true),none⟩
theorem Zxr:Zao Tryz.prog aw24.f aw24.args aw24.r aw24.fr:=Zad (n:=100000) (l:=[]) follows Zaf trivial (by kernel_rfl)
def aw25:Fact:=⟨158,[(.int .i64 2),(.int .i64 3)],(.bool true),none⟩
theorem ZuH:Zao Tryz.prog aw25.f aw25.args aw25.r aw25.fr:=Zad (n:=100000) (l:=[aw24]) follows Zaf ⟨Zxr,trivial⟩ (by kernel_rfl)
def aw26:Fact:=⟨163,[(.int .i64 1),(.eptr (.fn 158 []) 0),(.eptr (.agg (.gen [(.list (.big .str [(.str [115,97,102,101]),(.str [99,114,117,105,115,101]),(.str [98,117,114,110])])),(.list (.big (.agg [.str,(.int .i64)]) [(.agg (.gen [(.str [119,97,107,101]),(.int .i64 1)])),(.agg (.gen [(.str [102,105,114,101]),(.int .i64 2)])),(.agg (.gen [(.str [115,116,111,112]),(.int .i64 1)])),(.agg (.gen [(.str [112,105,110,103]),(.int .i64 (-1))]))])),(.list (.big (.agg [.str,(.int .i64),(.int .i64),(.int .i64),(.int .i64)]) [(.agg (.gen [(.str [99,111,108,100]),(.int .i64 1),(.int .i64 0),(.int .i64 (-1)),(.int .i64 1)])),(.agg (.gen [(.str [104,101,97,116]),(.int .i64 1),(.int .i64 (-1)),(.int .i64 2),(.int .i64 50)]))]))])) 0),(.eptr (.int .i64 3) 0)],(.int .i64 0),none⟩
theorem ZtO:Zao Tryz.prog aw26.f aw26.args aw26.r aw26.fr:=Zad (n:=100000) (l:=[aw25,aw20]) follows Zaf ⟨ZuH,⟨Zc4,trivial⟩⟩ (by kernel_rfl)
def aw27:Fact:=⟨162,[(.int .i64 2),(.eptr (.agg (.gen [(.list (.big .str [(.str [115,97,102,101]),(.str [99,114,117,105,115,101]),(.str [98,117,114,110])])),(.list (.big (.agg [.str,(.int .i64)]) [(.agg (.gen [(.str [119,97,107,101]),(.int .i64 1)])),(.agg (.gen [(.str [102,105,114,101]),(.int .i64 2)])),(.agg (.gen [(.str [115,116,111,112]),(.int .i64 1)])),(.agg (.gen [(.str [112,105,110,103]),(.int .i64 (-1))]))])),(.list (.big (.agg [.str,(.int .i64),(.int .i64),(.int .i64),(.int .i64)]) [(.agg (.gen [(.str [99,111,108,100]),(.int .i64 1),(.int .i64 0),(.int .i64 (-1)),(.int .i64 1)])),(.agg (.gen [(.str [104,101,97,116]),(.int .i64 1),(.int .i64 (-1)),(.int .i64 2),(.int .i64 50)]))]))])) 0)],(.str [115,116,111,112]),none⟩
theorem Zwl:Zao Tryz.prog aw27.f aw27.args aw27.r aw27.fr:=Zad (n:=100000) (l:=[]) follows Zaf trivial (by kernel_rfl)
def aw28:Fact:=⟨182,[(.str [115,116,111,112])],(.bool true),none⟩
theorem ZwG:Zao Tryz.prog aw28.f aw28.args aw28.r aw28.fr:=Zad (n:=100000) (l:=[]) follows Zaf trivial (by kernel_rfl)
def aw29:Fact:=⟨163,[(.int .i64 2),(.eptr (.fn 158 []) 0),(.eptr (.agg (.gen [(.list (.big .str [(.str [115,97,102,101]),(.str [99,114,117,105,115,101]),(.str [98,117,114,110])])),(.list (.big (.agg [.str,(.int .i64)]) [(.agg (.gen [(.str [119,97,107,101]),(.int .i64 1)])),(.agg (.gen [(.str [102,105,114,101]),(.int .i64 2)])),(.agg (.gen [(.str [115,116,111,112]),(.int .i64 1)])),(.agg (.gen [(.str [112,105,110,103]),(.int .i64 (-1))]))])),(.list (.big (.agg [.str,(.int .i64),(.int .i64),(.int .i64),(.int .i64)]) [(.agg (.gen [(.str [99,111,108,100]),(.int .i64 1),(.int .i64 0),(.int .i64 (-1)),(.int .i64 1)])),(.agg (.gen [(.str [104,101,97,116]),(.int .i64 1),(.int .i64 (-1)),(.int .i64 2),(.int .i64 50)]))]))])) 0),(.eptr (.int .i64 3) 0)],(.int .i64 0),none⟩
theorem Zt7:Zao Tryz.prog aw29.f aw29.args aw29.r aw29.fr:=Zad (n:=100000) (l:=[aw19,aw20]) follows Zaf ⟨ZpM,⟨Zc4,trivial⟩⟩ (by kernel_rfl)
def aw30:Fact:=⟨162,[(.int .i64 3),(.eptr (.agg (.gen [(.list (.big .str [(.str [115,97,102,101]),(.str [99,114,117,105,115,101]),(.str [98,117,114,110])])),(.list (.big (.agg [.str,(.int .i64)]) [(.agg (.gen [(.str [119,97,107,101]),(.int .i64 1)])),(.agg (.gen [(.str [102,105,114,101]),(.int .i64 2)])),(.agg (.gen [(.str [115,116,111,112]),(.int .i64 1)])),(.agg (.gen [(.str [112,105,110,103]),(.int .i64 (-1))]))])),(.list (.big (.agg [.str,(.int .i64),(.int .i64),(.int .i64),(.int .i64)]) [(.agg (.gen [(.str [99,111,108,100]),(.int .i64 1),(.int .i64 0),(.int .i64 (-1)),(.int .i64 1)])),(.agg (.gen [(.str [104,101,97,116]),(.int .i64 1),(.int .i64 (-1)),(.int .i64 2),(.int .i64 50)]))]))])) 0)],(.str [112,105,110,103]),none⟩
theorem ZvJ:Zao Tryz.prog aw30.f aw30.args aw30.r aw30.fr:=Zad (n:=100000) (l:=[]) follows Zaf trivial (by kernel_rfl)
def aw31:Fact:=⟨182,[(.str [112,105,110,103])],(.bool true),none⟩
theorem ZtF:Zao Tryz.prog aw31.f aw31.args aw31.r aw31.fr:=Zad (n:=100000) (l:=[]) follows Zaf trivial (by kernel_rfl)
def aw32:Fact:=⟨158,[(.int .i64 (-1)),(.int .i64 3)],(.bool true),none⟩
theorem Zqd:Zao Tryz.prog aw32.f aw32.args aw32.r aw32.fr:=Zad (n:=100000) (l:=[]) follows Zaf trivial (by kernel_rfl)
def aw33:Fact:=⟨163,[(.int .i64 3),(.eptr (.fn 158 []) 0),(.eptr (.agg (.gen [(.list (.big .str [(.str [115,97,102,101]),(.str [99,114,117,105,115,101]),(.str [98,117,114,110])])),(.list (.big (.agg [.str,(.int .i64)]) [(.agg (.gen [(.str [119,97,107,101]),(.int .i64 1)])),(.agg (.gen [(.str [102,105,114,101]),(.int .i64 2)])),(.agg (.gen [(.str [115,116,111,112]),(.int .i64 1)])),(.agg (.gen [(.str [112,105,110,103]),(.int .i64 (-1))]))])),(.list (.big (.agg [.str,(.int .i64),(.int .i64),(.int .i64),(.int .i64)]) [(.agg (.gen [(.str [99,111,108,100]),(.int .i64 1),(.int .i64 0),(.int .i64 (-1)),(.int .i64 1)])),(.agg (.gen [(.str [104,101,97,116]),(.int .i64 1),(.int .i64 (-1)),(.int .i64 2),(.int .i64 50)]))]))])) 0),(.eptr (.int .i64 3) 0)],(.int .i64 0),none⟩
theorem ZwH:Zao Tryz.prog aw33.f aw33.args aw33.r aw33.fr:=Zad (n:=100000) (l:=[aw32,aw20]) follows Zaf ⟨Zqd,⟨Zc4,trivial⟩⟩ (by kernel_rfl)
def aw34:Fact:=⟨164,[(.int .i64 0),(.eptr (.agg (.gen [(.list (.big .str [(.str [115,97,102,101]),(.str [99,114,117,105,115,101]),(.str [98,117,114,110])])),(.list (.big (.agg [.str,(.int .i64)]) [(.agg (.gen [(.str [119,97,107,101]),(.int .i64 1)])),(.agg (.gen [(.str [102,105,114,101]),(.int .i64 2)])),(.agg (.gen [(.str [115,116,111,112]),(.int .i64 1)])),(.agg (.gen [(.str [112,105,110,103]),(.int .i64 (-1))]))])),(.list (.big (.agg [.str,(.int .i64),(.int .i64),(.int .i64),(.int .i64)]) [(.agg (.gen [(.str [99,111,108,100]),(.int .i64 1),(.int .i64 0),(.int .i64 (-1)),(.int .i64 1)])),(.agg (.gen [(.str [104,101,97,116]),(.int .i64 1),(.int .i64 (-1)),(.int .i64 2),(.int .i64 50)]))]))])) 0)],(.str [99,111,108,100]),none⟩
theorem Zw3:Zao Tryz.prog aw34.f aw34.args aw34.r aw34.fr:=Zad (n:=100000) (l:=[]) follows Zaf trivial (by kernel_rfl)
def aw35:Fact:=⟨182,[(.str [99,111,108,100])],(.bool true),none⟩
theorem ZuV:Zao Tryz.prog aw35.f aw35.args aw35.r aw35.fr:=Zad (n:=100000) (l:=[]) follows Zaf trivial (by kernel_rfl)
def aw36:Fact:=⟨82,[(.int .i64 1),(.int .i64 0),(.int .i64 3)],(.bool true),none⟩
theorem ZgS:Zao Tryz.prog aw36.f aw36.args aw36.r aw36.fr:=Zad (n:=100000) (l:=[]) follows Zaf trivial (by kernel_rfl)
def aw37:Fact:=⟨82,[(.int .i64 0),(.int .i64 0),(.int .i64 2)],(.bool true),none⟩
theorem Zoq:Zao Tryz.prog aw37.f aw37.args aw37.r aw37.fr:=Zad (n:=100000) (l:=[]) follows Zaf trivial (by kernel_rfl)
def aw38:Fact:=⟨158,[(.int .i64 0),(.int .i64 3)],(.bool true),none⟩
theorem ZuM:Zao Tryz.prog aw38.f aw38.args aw38.r aw38.fr:=Zad (n:=100000) (l:=[aw37]) follows Zaf ⟨Zoq,trivial⟩ (by kernel_rfl)
def aw39:Fact:=⟨158,[(.int .i64 (-1)),(.int .i64 4)],(.bool true),none⟩
theorem Zxm:Zao Tryz.prog aw39.f aw39.args aw39.r aw39.fr:=Zad (n:=100000) (l:=[]) follows Zaf trivial (by kernel_rfl)
def aw40:Fact:=⟨82,[(.int .i64 1),(.int .i64 1),(.int .i64 1000000)],(.bool true),none⟩
theorem ZwF:Zao Tryz.prog aw40.f aw40.args aw40.r aw40.fr:=Zad (n:=100000) (l:=[]) follows Zaf trivial (by kernel_rfl)
def aw41:Fact:=⟨68,[(.bool true),(.int .i64 2)],(.int .i64 0),none⟩
theorem ZbW:Zao Tryz.prog aw41.f aw41.args aw41.r aw41.fr:=Zad (n:=100000) (l:=[]) follows Zaf trivial (by kernel_rfl)
def aw42:Fact:=⟨68,[(.bool true),(.int .i64 3)],(.int .i64 0),none⟩
theorem Zo4:Zao Tryz.prog aw42.f aw42.args aw42.r aw42.fr:=Zad (n:=100000) (l:=[]) follows Zaf trivial (by kernel_rfl)
def aw43:Fact:=⟨165,[(.int .i64 0),(.eptr (.agg (.gen [(.list (.big .str [(.str [115,97,102,101]),(.str [99,114,117,105,115,101]),(.str [98,117,114,110])])),(.list (.big (.agg [.str,(.int .i64)]) [(.agg (.gen [(.str [119,97,107,101]),(.int .i64 1)])),(.agg (.gen [(.str [102,105,114,101]),(.int .i64 2)])),(.agg (.gen [(.str [115,116,111,112]),(.int .i64 1)])),(.agg (.gen [(.str [112,105,110,103]),(.int .i64 (-1))]))])),(.list (.big (.agg [.str,(.int .i64),(.int .i64),(.int .i64),(.int .i64)]) [(.agg (.gen [(.str [99,111,108,100]),(.int .i64 1),(.int .i64 0),(.int .i64 (-1)),(.int .i64 1)])),(.agg (.gen [(.str [104,101,97,116]),(.int .i64 1),(.int .i64 (-1)),(.int .i64 2),(.int .i64 50)]))]))])) 0),(.eptr (.int .i64 4) 0),(.eptr (.fn 158 []) 0),(.eptr (.int .i64 3) 0)],(.int .i64 0),none⟩
theorem Zws:Zao Tryz.prog aw43.f aw43.args aw43.r aw43.fr:=Zad (n:=100000) (l:=[aw36,aw38,aw39,aw20,aw40,aw41,aw42,aw9]) follows Zaf ⟨ZgS,⟨ZuM,⟨Zxm,⟨Zc4,⟨ZwF,⟨ZbW,⟨Zo4,⟨ZfL,trivial⟩⟩⟩⟩⟩⟩⟩⟩ (by kernel_rfl)
def aw44:Fact:=⟨164,[(.int .i64 1),(.eptr (.agg (.gen [(.list (.big .str [(.str [115,97,102,101]),(.str [99,114,117,105,115,101]),(.str [98,117,114,110])])),(.list (.big (.agg [.str,(.int .i64)]) [(.agg (.gen [(.str [119,97,107,101]),(.int .i64 1)])),(.agg (.gen [(.str [102,105,114,101]),(.int .i64 2)])),(.agg (.gen [(.str [115,116,111,112]),(.int .i64 1)])),(.agg (.gen [(.str [112,105,110,103]),(.int .i64 (-1))]))])),(.list (.big (.agg [.str,(.int .i64),(.int .i64),(.int .i64),(.int .i64)]) [(.agg (.gen [(.str [99,111,108,100]),(.int .i64 1),(.int .i64 0),(.int .i64 (-1)),(.int .i64 1)])),(.agg (.gen [(.str [104,101,97,116]),(.int .i64 1),(.int .i64 (-1)),(.int .i64 2),(.int .i64 50)]))]))])) 0)],(.str [104,101,97,116]),none⟩
theorem Zv2:Zao Tryz.prog aw44.f aw44.args aw44.r aw44.fr:=Zad (n:=100000) (l:=[]) follows Zaf trivial (by kernel_rfl)
def aw45:Fact:=⟨182,[(.str [104,101,97,116])],(.bool true),none⟩
theorem Ztp:Zao Tryz.prog aw45.f aw45.args aw45.r aw45.fr:=Zad (n:=100000) (l:=[]) follows Zaf trivial (by kernel_rfl)
def aw46:Fact:=⟨82,[(.int .i64 2),(.int .i64 0),(.int .i64 3)],(.bool true),none⟩
theorem ZpC:Zao Tryz.prog aw46.f aw46.args aw46.r aw46.fr:=Zad (n:=100000) (l:=[]) follows Zaf trivial (by kernel_rfl)
def aw47:Fact:=⟨158,[(.int .i64 2),(.int .i64 4)],(.bool true),none⟩
theorem ZuQ:Zao Tryz.prog aw47.f aw47.args aw47.r aw47.fr:=Zad (n:=100000) (l:=[aw46]) follows Zaf ⟨ZpC,trivial⟩ (by kernel_rfl)
def aw48:Fact:=⟨82,[(.int .i64 50),(.int .i64 1),(.int .i64 1000000)],(.bool true),none⟩
theorem Zwx:Zao Tryz.prog aw48.f aw48.args aw48.r aw48.fr:=Zad (n:=100000) (l:=[]) follows Zaf trivial (by kernel_rfl)
def aw49:Fact:=⟨165,[(.int .i64 1),(.eptr (.agg (.gen [(.list (.big .str [(.str [115,97,102,101]),(.str [99,114,117,105,115,101]),(.str [98,117,114,110])])),(.list (.big (.agg [.str,(.int .i64)]) [(.agg (.gen [(.str [119,97,107,101]),(.int .i64 1)])),(.agg (.gen [(.str [102,105,114,101]),(.int .i64 2)])),(.agg (.gen [(.str [115,116,111,112]),(.int .i64 1)])),(.agg (.gen [(.str [112,105,110,103]),(.int .i64 (-1))]))])),(.list (.big (.agg [.str,(.int .i64),(.int .i64),(.int .i64),(.int .i64)]) [(.agg (.gen [(.str [99,111,108,100]),(.int .i64 1),(.int .i64 0),(.int .i64 (-1)),(.int .i64 1)])),(.agg (.gen [(.str [104,101,97,116]),(.int .i64 1),(.int .i64 (-1)),(.int .i64 2),(.int .i64 50)]))]))])) 0),(.eptr (.int .i64 4) 0),(.eptr (.fn 158 []) 0),(.eptr (.int .i64 3) 0)],(.int .i64 0),none⟩
theorem ZuI:Zao Tryz.prog aw49.f aw49.args aw49.r aw49.fr:=Zad (n:=100000) (l:=[aw36,aw32,aw47,aw20,aw48,aw41,aw42,aw9]) follows Zaf ⟨ZgS,⟨Zqd,⟨ZuQ,⟨Zc4,⟨Zwx,⟨ZbW,⟨Zo4,⟨ZfL,trivial⟩⟩⟩⟩⟩⟩⟩⟩ (by kernel_rfl)
def aw50:Fact:=⟨136,[(.agg (.gen [(.list (.big .str [(.str [115,97,102,101]),(.str [99,114,117,105,115,101]),(.str [98,117,114,110])])),(.list (.big (.agg [.str,(.int .i64)]) [(.agg (.gen [(.str [119,97,107,101]),(.int .i64 1)])),(.agg (.gen [(.str [102,105,114,101]),(.int .i64 2)])),(.agg (.gen [(.str [115,116,111,112]),(.int .i64 1)])),(.agg (.gen [(.str [112,105,110,103]),(.int .i64 (-1))]))])),(.list (.big (.agg [.str,(.int .i64),(.int .i64),(.int .i64),(.int .i64)]) [(.agg (.gen [(.str [99,111,108,100]),(.int .i64 1),(.int .i64 0),(.int .i64 (-1)),(.int .i64 1)])),(.agg (.gen [(.str [104,101,97,116]),(.int .i64 1),(.int .i64 (-1)),(.int .i64 2),(.int .i64 50)]))]))]))],(.tup [(.agg (.gen [(.int .i64 0),(.int .i64 0)])),(.int .i64 0)]),none⟩
theorem Zt0:Zao Tryz.prog aw50.f aw50.args aw50.r aw50.fr:=Zad (n:=100000) (l:=[aw1,aw2,aw3,aw4,aw5,aw6,aw7,aw8,aw9,aw10,aw11,aw12,aw13,aw14,aw15,aw16,aw17,aw21,aw22,aw23,aw26,aw27,aw28,aw29,aw30,aw31,aw33,aw34,aw35,aw43,aw44,aw45,aw49]) follows Zaf ⟨ZoR,⟨Zl8,⟨Zms,⟨Zzn,⟨ZAY,⟨ZzZ,⟨ZB5,⟨ZAV,⟨ZfL,⟨ZuE,⟨Zw6,⟨ZwJ,⟨ZwK,⟨Zu1,⟨ZuW,⟨ZwV,⟨Zxh,⟨Zu6,⟨Zwf,⟨ZuD,⟨ZtO,⟨Zwl,⟨ZwG,⟨Zt7,⟨ZvJ,⟨ZtF,⟨ZwH,⟨Zw3,⟨ZuV,⟨Zws,⟨Zv2,⟨Ztp,⟨ZuI,trivial⟩⟩⟩⟩⟩⟩⟩⟩⟩⟩⟩⟩⟩⟩⟩⟩⟩⟩⟩⟩⟩⟩⟩⟩⟩⟩⟩⟩⟩⟩⟩⟩⟩ (by kernel_rfl)
def aw51:Fact:=⟨88,[(.agg (.gen [(.list (.big .str [(.str [115,97,102,101]),(.str [99,114,117,105,115,101]),(.str [98,117,114,110])])),(.list (.big (.agg [.str,(.int .i64)]) [(.agg (.gen [(.str [119,97,107,101]),(.int .i64 1)])),(.agg (.gen [(.str [102,105,114,101]),(.int .i64 2)])),(.agg (.gen [(.str [115,116,111,112]),(.int .i64 1)])),(.agg (.gen [(.str [112,105,110,103]),(.int .i64 (-1))]))])),(.list (.big (.agg [.str,(.int .i64),(.int .i64),(.int .i64),(.int .i64)]) [(.agg (.gen [(.str [99,111,108,100]),(.int .i64 1),(.int .i64 0),(.int .i64 (-1)),(.int .i64 1)])),(.agg (.gen [(.str [104,101,97,116]),(.int .i64 1),(.int .i64 (-1)),(.int .i64 2),(.int .i64 50)]))]))]))],(.int .i64 0),none⟩
theorem Zp2:Zao Tryz.prog aw51.f aw51.args aw51.r aw51.fr:=Zad (n:=100000) (l:=[aw50]) follows Zaf ⟨Zt0,trivial⟩ (by kernel_rfl)
def aw52:Fact:=⟨82,[(.int .i64 0),(.int .i64 0),(.int .i64 3)],(.bool true),none⟩
theorem Zxa:Zao Tryz.prog aw52.f aw52.args aw52.r aw52.fr:=Zad (n:=100000) (l:=[]) follows Zaf trivial (by kernel_rfl)
def aw53:Fact:=⟨68,[(.bool true),(.int .i64 15)],(.int .i64 0),none⟩
theorem Zgz:Zao Tryz.prog aw53.f aw53.args aw53.r aw53.fr:=Zad (n:=100000) (l:=[]) follows Zaf trivial (by kernel_rfl)
def aw54:Fact:=⟨82,[(.int .i64 0),(.int .i64 0),(.int .i64 1000000000000)],(.bool true),none⟩
theorem Zt2:Zao Tryz.prog aw54.f aw54.args aw54.r aw54.fr:=Zad (n:=100000) (l:=[]) follows Zaf trivial (by kernel_rfl)
def aw55:Fact:=⟨89,[(.int .i64 0)],(.bool true),none⟩
theorem Zp9:Zao Tryz.prog aw55.f aw55.args aw55.r aw55.fr:=Zad (n:=100000) (l:=[aw54]) follows Zaf ⟨Zt2,trivial⟩ (by kernel_rfl)
def aw56:Fact:=⟨82,[(.int .i64 100),(.int .i64 0),(.int .i64 1000000000000)],(.bool true),none⟩
theorem Zve:Zao Tryz.prog aw56.f aw56.args aw56.r aw56.fr:=Zad (n:=100000) (l:=[]) follows Zaf trivial (by kernel_rfl)
def aw57:Fact:=⟨89,[(.int .i64 100)],(.bool true),none⟩
theorem Zvi:Zao Tryz.prog aw57.f aw57.args aw57.r aw57.fr:=Zad (n:=100000) (l:=[aw56]) follows Zaf ⟨Zve,trivial⟩ (by kernel_rfl)
def aw58:Fact:=⟨68,[(.bool true),(.int .i64 9)],(.int .i64 0),none⟩
theorem ZiT:Zao Tryz.prog aw58.f aw58.args aw58.r aw58.fr:=Zad (n:=100000) (l:=[]) follows Zaf trivial (by kernel_rfl)
def aw59:Fact:=⟨120,[(.agg (.gen [(.list (.big .str [(.str [115,97,102,101]),(.str [99,114,117,105,115,101]),(.str [98,117,114,110])])),(.list (.big (.agg [.str,(.int .i64)]) [(.agg (.gen [(.str [119,97,107,101]),(.int .i64 1)])),(.agg (.gen [(.str [102,105,114,101]),(.int .i64 2)])),(.agg (.gen [(.str [115,116,111,112]),(.int .i64 1)])),(.agg (.gen [(.str [112,105,110,103]),(.int .i64 (-1))]))])),(.list (.big (.agg [.str,(.int .i64),(.int .i64),(.int .i64),(.int .i64)]) [(.agg (.gen [(.str [99,111,108,100]),(.int .i64 1),(.int .i64 0),(.int .i64 (-1)),(.int .i64 1)])),(.agg (.gen [(.str [104,101,97,116]),(.int .i64 1),(.int .i64 (-1)),(.int .i64 2),(.int .i64 50)]))]))])),(.agg (.gen [(.int .i64 0),(.int .i64 0),(.int .i64 100)]))],(.int .i64 0),none⟩
theorem ZvB:Zao Tryz.prog aw59.f aw59.args aw59.r aw59.fr:=Zad (n:=100000) (l:=[aw52,aw53,aw55,aw57,aw41,aw58,aw9]) follows Zaf ⟨Zxa,⟨Zgz,⟨Zp9,⟨Zvi,⟨ZbW,⟨ZiT,⟨ZfL,trivial⟩⟩⟩⟩⟩⟩⟩ (by kernel_rfl)
def aw60:Fact:=⟨82,[(.int .i64 20),(.int .i64 0),(.int .i64 1000000000000)],(.bool true),none⟩
theorem ZvN:Zao Tryz.prog aw60.f aw60.args aw60.r aw60.fr:=Zad (n:=100000) (l:=[]) follows Zaf trivial (by kernel_rfl)
def aw61:Fact:=⟨89,[(.int .i64 20)],(.bool true),none⟩
theorem Ztn:Zao Tryz.prog aw61.f aw61.args aw61.r aw61.fr:=Zad (n:=100000) (l:=[aw60]) follows Zaf ⟨ZvN,trivial⟩ (by kernel_rfl)
def aw62:Fact:=⟨82,[(.int .i64 200),(.int .i64 0),(.int .i64 1000000000000)],(.bool true),none⟩
theorem ZtK:Zao Tryz.prog aw62.f aw62.args aw62.r aw62.fr:=Zad (n:=100000) (l:=[]) follows Zaf trivial (by kernel_rfl)
def aw63:Fact:=⟨89,[(.int .i64 200)],(.bool true),none⟩
theorem ZvI:Zao Tryz.prog aw63.f aw63.args aw63.r aw63.fr:=Zad (n:=100000) (l:=[aw62]) follows Zaf ⟨ZtK,trivial⟩ (by kernel_rfl)
def aw64:Fact:=⟨120,[(.agg (.gen [(.list (.big .str [(.str [115,97,102,101]),(.str [99,114,117,105,115,101]),(.str [98,117,114,110])])),(.list (.big (.agg [.str,(.int .i64)]) [(.agg (.gen [(.str [119,97,107,101]),(.int .i64 1)])),(.agg (.gen [(.str [102,105,114,101]),(.int .i64 2)])),(.agg (.gen [(.str [115,116,111,112]),(.int .i64 1)])),(.agg (.gen [(.str [112,105,110,103]),(.int .i64 (-1))]))])),(.list (.big (.agg [.str,(.int .i64),(.int .i64),(.int .i64),(.int .i64)]) [(.agg (.gen [(.str [99,111,108,100]),(.int .i64 1),(.int .i64 0),(.int .i64 (-1)),(.int .i64 1)])),(.agg (.gen [(.str [104,101,97,116]),(.int .i64 1),(.int .i64 (-1)),(.int .i64 2),(.int .i64 50)]))]))])),(.agg (.gen [(.int .i64 1),(.int .i64 20),(.int .i64 200)]))],(.int .i64 0),none⟩
theorem Zu8:Zao Tryz.prog aw64.f aw64.args aw64.r aw64.fr:=Zad (n:=100000) (l:=[aw36,aw53,aw61,aw63,aw41,aw58,aw9]) follows Zaf ⟨ZgS,⟨Zgz,⟨Ztn,⟨ZvI,⟨ZbW,⟨ZiT,⟨ZfL,trivial⟩⟩⟩⟩⟩⟩⟩ (by kernel_rfl)
def aw65:Fact:=⟨82,[(.int .i64 30),(.int .i64 0),(.int .i64 1000000000000)],(.bool true),none⟩
theorem ZvW:Zao Tryz.prog aw65.f aw65.args aw65.r aw65.fr:=Zad (n:=100000) (l:=[]) follows Zaf trivial (by kernel_rfl)
def aw66:Fact:=⟨89,[(.int .i64 30)],(.bool true),none⟩
theorem Zty:Zao Tryz.prog aw66.f aw66.args aw66.r aw66.fr:=Zad (n:=100000) (l:=[aw65]) follows Zaf ⟨ZvW,trivial⟩ (by kernel_rfl)
def aw67:Fact:=⟨82,[(.int .i64 300),(.int .i64 0),(.int .i64 1000000000000)],(.bool true),none⟩
theorem Zwe:Zao Tryz.prog aw67.f aw67.args aw67.r aw67.fr:=Zad (n:=100000) (l:=[]) follows Zaf trivial (by kernel_rfl)
def aw68:Fact:=⟨89,[(.int .i64 300)],(.bool true),none⟩
theorem Zw8:Zao Tryz.prog aw68.f aw68.args aw68.r aw68.fr:=Zad (n:=100000) (l:=[aw67]) follows Zaf ⟨Zwe,trivial⟩ (by kernel_rfl)
def aw69:Fact:=⟨120,[(.agg (.gen [(.list (.big .str [(.str [115,97,102,101]),(.str [99,114,117,105,115,101]),(.str [98,117,114,110])])),(.list (.big (.agg [.str,(.int .i64)]) [(.agg (.gen [(.str [119,97,107,101]),(.int .i64 1)])),(.agg (.gen [(.str [102,105,114,101]),(.int .i64 2)])),(.agg (.gen [(.str [115,116,111,112]),(.int .i64 1)])),(.agg (.gen [(.str [112,105,110,103]),(.int .i64 (-1))]))])),(.list (.big (.agg [.str,(.int .i64),(.int .i64),(.int .i64),(.int .i64)]) [(.agg (.gen [(.str [99,111,108,100]),(.int .i64 1),(.int .i64 0),(.int .i64 (-1)),(.int .i64 1)])),(.agg (.gen [(.str [104,101,97,116]),(.int .i64 1),(.int .i64 (-1)),(.int .i64 2),(.int .i64 50)]))]))])),(.agg (.gen [(.int .i64 2),(.int .i64 30),(.int .i64 300)]))],(.int .i64 0),none⟩
theorem Zvf:Zao Tryz.prog aw69.f aw69.args aw69.r aw69.fr:=Zad (n:=100000) (l:=[aw46,aw53,aw66,aw68,aw41,aw58,aw9]) follows Zaf ⟨ZpC,⟨Zgz,⟨Zty,⟨Zw8,⟨ZbW,⟨ZiT,⟨ZfL,trivial⟩⟩⟩⟩⟩⟩⟩ (by kernel_rfl)
def aw70:Fact:=⟨82,[(.int .i64 40),(.int .i64 0),(.int .i64 1000000000000)],(.bool true),none⟩
theorem Zuc:Zao Tryz.prog aw70.f aw70.args aw70.r aw70.fr:=Zad (n:=100000) (l:=[]) follows Zaf trivial (by kernel_rfl)
def aw71:Fact:=⟨89,[(.int .i64 40)],(.bool true),none⟩
theorem Zu0:Zao Tryz.prog aw71.f aw71.args aw71.r aw71.fr:=Zad (n:=100000) (l:=[aw70]) follows Zaf ⟨Zuc,trivial⟩ (by kernel_rfl)
def aw72:Fact:=⟨82,[(.int .i64 400),(.int .i64 0),(.int .i64 1000000000000)],(.bool true),none⟩
theorem Ztt:Zao Tryz.prog aw72.f aw72.args aw72.r aw72.fr:=Zad (n:=100000) (l:=[]) follows Zaf trivial (by kernel_rfl)
def aw73:Fact:=⟨89,[(.int .i64 400)],(.bool true),none⟩
theorem Zt1:Zao Tryz.prog aw73.f aw73.args aw73.r aw73.fr:=Zad (n:=100000) (l:=[aw72]) follows Zaf ⟨Ztt,trivial⟩ (by kernel_rfl)
def aw74:Fact:=⟨120,[(.agg (.gen [(.list (.big .str [(.str [115,97,102,101]),(.str [99,114,117,105,115,101]),(.str [98,117,114,110])])),(.list (.big (.agg [.str,(.int .i64)]) [(.agg (.gen [(.str [119,97,107,101]),(.int .i64 1)])),(.agg (.gen [(.str [102,105,114,101]),(.int .i64 2)])),(.agg (.gen [(.str [115,116,111,112]),(.int .i64 1)])),(.agg (.gen [(.str [112,105,110,103]),(.int .i64 (-1))]))])),(.list (.big (.agg [.str,(.int .i64),(.int .i64),(.int .i64),(.int .i64)]) [(.agg (.gen [(.str [99,111,108,100]),(.int .i64 1),(.int .i64 0),(.int .i64 (-1)),(.int .i64 1)])),(.agg (.gen [(.str [104,101,97,116]),(.int .i64 1),(.int .i64 (-1)),(.int .i64 2),(.int .i64 50)]))]))])),(.agg (.gen [(.int .i64 1),(.int .i64 40),(.int .i64 400)]))],(.int .i64 0),none⟩
theorem ZvA:Zao Tryz.prog aw74.f aw74.args aw74.r aw74.fr:=Zad (n:=100000) (l:=[aw36,aw53,aw71,aw73,aw41,aw58,aw9]) follows Zaf ⟨ZgS,⟨Zgz,⟨Zu0,⟨Zt1,⟨ZbW,⟨ZiT,⟨ZfL,trivial⟩⟩⟩⟩⟩⟩⟩ (by kernel_rfl)
def aw75:Fact:=⟨71,[(.agg (.gen [(.list (.big .str [(.str [115,97,102,101]),(.str [99,114,117,105,115,101]),(.str [98,117,114,110])])),(.list (.big (.agg [.str,(.int .i64)]) [(.agg (.gen [(.str [119,97,107,101]),(.int .i64 1)])),(.agg (.gen [(.str [102,105,114,101]),(.int .i64 2)])),(.agg (.gen [(.str [115,116,111,112]),(.int .i64 1)])),(.agg (.gen [(.str [112,105,110,103]),(.int .i64 (-1))]))])),(.list (.big (.agg [.str,(.int .i64),(.int .i64),(.int .i64),(.int .i64)]) [(.agg (.gen [(.str [99,111,108,100]),(.int .i64 1),(.int .i64 0),(.int .i64 (-1)),(.int .i64 1)])),(.agg (.gen [(.str [104,101,97,116]),(.int .i64 1),(.int .i64 (-1)),(.int .i64 2),(.int .i64 50)]))]))])),(.list (.big (.agg [(.int .i64),(.int .i64),(.int .i64)]) [(.agg (.gen [(.int .i64 0),(.int .i64 0),(.int .i64 100)])),(.agg (.gen [(.int .i64 1),(.int .i64 20),(.int .i64 200)])),(.agg (.gen [(.int .i64 2),(.int .i64 30),(.int .i64 300)])),(.agg (.gen [(.int .i64 1),(.int .i64 40),(.int .i64 400)]))]))],(.tup [(.int .i64 0),(.int .i64 0)]),none⟩
theorem Zpv:Zao Tryz.prog aw75.f aw75.args aw75.r aw75.fr:=Zad (n:=100000) (l:=[aw51,aw1,aw2,aw9,aw59,aw64,aw69,aw74]) follows Zaf ⟨Zp2,⟨ZoR,⟨Zl8,⟨ZfL,⟨ZvB,⟨Zu8,⟨Zvf,⟨ZvA,trivial⟩⟩⟩⟩⟩⟩⟩⟩ (by kernel_rfl)
def aw76:Fact:=⟨179,[(.int .u64 1),(.int .u64 4)],(.tup [(.int .u64 0),(.int .u64 4)]),none⟩
theorem Zv4:Zao Tryz.prog aw76.f aw76.args aw76.r aw76.fr:=Zad (n:=100000) (l:=[]) follows Zaf trivial (by kernel_rfl)
def aw77:Fact:=⟨152,[(.int .u64 1),(.int .u64 4)],(.tup [(.int .u64 0),(.int .u64 4)]),none⟩
theorem ZtS:Zao Tryz.prog aw77.f aw77.args aw77.r aw77.fr:=Zad (n:=100000) (l:=[aw76]) follows Zaf ⟨Zv4,trivial⟩ (by kernel_rfl)
def aw78:Fact:=⟨121,[(.list (.ints .i64 [(-1)])),(.int .i64 4)],(.row 0 0),(some ⟨3,1,(.ints .i64 [(-1),(-1),(-1),(-1)])⟩)⟩
theorem Zlr:Zao Tryz.prog aw78.f aw78.args aw78.r aw78.fr:=Zad (n:=100000) (l:=[aw77]) follows Zaf ⟨ZtS,trivial⟩ (by kernel_rfl)
def aw79:Fact:=⟨122,[(.eptr (.agg (.gen [(.list (.big .str [(.str [115,97,102,101]),(.str [99,114,117,105,115,101]),(.str [98,117,114,110])])),(.list (.big (.agg [.str,(.int .i64)]) [(.agg (.gen [(.str [119,97,107,101]),(.int .i64 1)])),(.agg (.gen [(.str [102,105,114,101]),(.int .i64 2)])),(.agg (.gen [(.str [115,116,111,112]),(.int .i64 1)])),(.agg (.gen [(.str [112,105,110,103]),(.int .i64 (-1))]))])),(.list (.big (.agg [.str,(.int .i64),(.int .i64),(.int .i64),(.int .i64)]) [(.agg (.gen [(.str [99,111,108,100]),(.int .i64 1),(.int .i64 0),(.int .i64 (-1)),(.int .i64 1)])),(.agg (.gen [(.str [104,101,97,116]),(.int .i64 1),(.int .i64 (-1)),(.int .i64 2),(.int .i64 50)]))])),(.int .i64 0),(.int .i64 0),(.list (.ints .i64 [(-1),(-1),(-1),(-1)]))])) 0),(.agg (.gen [(.str [104,101,97,116]),(.int .i64 1),(.int .i64 (-1)),(.int .i64 2),(.int .i64 50)])),(.int .i64 0)],(.bool false),none⟩
theorem ZvH:Zao Tryz.prog aw79.f aw79.args aw79.r aw79.fr:=Zad (n:=100000) (l:=[]) follows Zaf trivial (by kernel_rfl)
def aw80:Fact:=⟨82,[(.int .i64 0),(.int .i64 0),(.int .i64 100)],(.bool true),none⟩
theorem Zwj:Zao Tryz.prog aw80.f aw80.args aw80.r aw80.fr:=Zad (n:=100000) (l:=[]) follows Zaf trivial (by kernel_rfl)
def aw81:Fact:=⟨91,[(.eptr (.agg (.gen [(.list (.big .str [(.str [115,97,102,101]),(.str [99,114,117,105,115,101]),(.str [98,117,114,110])])),(.list (.big (.agg [.str,(.int .i64)]) [(.agg (.gen [(.str [119,97,107,101]),(.int .i64 1)])),(.agg (.gen [(.str [102,105,114,101]),(.int .i64 2)])),(.agg (.gen [(.str [115,116,111,112]),(.int .i64 1)])),(.agg (.gen [(.str [112,105,110,103]),(.int .i64 (-1))]))])),(.list (.big (.agg [.str,(.int .i64),(.int .i64),(.int .i64),(.int .i64)]) [(.agg (.gen [(.str [99,111,108,100]),(.int .i64 1),(.int .i64 0),(.int .i64 (-1)),(.int .i64 1)])),(.agg (.gen [(.str [104,101,97,116]),(.int .i64 1),(.int .i64 (-1)),(.int .i64 2),(.int .i64 50)]))])),(.int .i64 0),(.int .i64 0),(.list (.ints .i64 [(-1),(-1),(-1),(-1)]))])) 0),(.int .i64 0)],(.val (.pointer none)),none⟩
theorem ZvS:Zao Tryz.prog aw81.f aw81.args aw81.r aw81.fr:=Zad (n:=100000) (l:=[]) follows Zaf trivial (by kernel_rfl)
def aw82:Fact:=⟨123,[(.eptr (.agg (.gen [(.list (.big .str [(.str [115,97,102,101]),(.str [99,114,117,105,115,101]),(.str [98,117,114,110])])),(.list (.big (.agg [.str,(.int .i64)]) [(.agg (.gen [(.str [119,97,107,101]),(.int .i64 1)])),(.agg (.gen [(.str [102,105,114,101]),(.int .i64 2)])),(.agg (.gen [(.str [115,116,111,112]),(.int .i64 1)])),(.agg (.gen [(.str [112,105,110,103]),(.int .i64 (-1))]))])),(.list (.big (.agg [.str,(.int .i64),(.int .i64),(.int .i64),(.int .i64)]) [(.agg (.gen [(.str [99,111,108,100]),(.int .i64 1),(.int .i64 0),(.int .i64 (-1)),(.int .i64 1)])),(.agg (.gen [(.str [104,101,97,116]),(.int .i64 1),(.int .i64 (-1)),(.int .i64 2),(.int .i64 50)]))])),(.int .i64 0),(.int .i64 0),(.list (.ints .i64 [(-1),(-1),(-1),(-1)]))])) 0),(.agg (.gen [(.int .i64 0),(.int .i64 0),(.int .i64 100)]))],(.bool true),none⟩
theorem ZkV:Zao Tryz.prog aw82.f aw82.args aw82.r aw82.fr:=Zad (n:=100000) (l:=[aw80,aw81]) follows Zaf ⟨Zwj,⟨ZvS,trivial⟩⟩ (by kernel_rfl)
def aw83:Fact:=⟨122,[(.eptr (.agg (.gen [(.list (.big .str [(.str [115,97,102,101]),(.str [99,114,117,105,115,101]),(.str [98,117,114,110])])),(.list (.big (.agg [.str,(.int .i64)]) [(.agg (.gen [(.str [119,97,107,101]),(.int .i64 1)])),(.agg (.gen [(.str [102,105,114,101]),(.int .i64 2)])),(.agg (.gen [(.str [115,116,111,112]),(.int .i64 1)])),(.agg (.gen [(.str [112,105,110,103]),(.int .i64 (-1))]))])),(.list (.big (.agg [.str,(.int .i64),(.int .i64),(.int .i64),(.int .i64)]) [(.agg (.gen [(.str [99,111,108,100]),(.int .i64 1),(.int .i64 0),(.int .i64 (-1)),(.int .i64 1)])),(.agg (.gen [(.str [104,101,97,116]),(.int .i64 1),(.int .i64 (-1)),(.int .i64 2),(.int .i64 50)]))])),(.int .i64 1),(.int .i64 20),(.list (.ints .i64 [0,(-1),(-1),(-1)]))])) 0),(.agg (.gen [(.str [104,101,97,116]),(.int .i64 1),(.int .i64 (-1)),(.int .i64 2),(.int .i64 50)])),(.int .i64 1)],(.bool true),none⟩
theorem ZtE:Zao Tryz.prog aw83.f aw83.args aw83.r aw83.fr:=Zad (n:=100000) (l:=[]) follows Zaf trivial (by kernel_rfl)
def aw84:Fact:=⟨82,[(.int .i64 20),(.int .i64 20),(.int .i64 200)],(.bool true),none⟩
theorem ZuB:Zao Tryz.prog aw84.f aw84.args aw84.r aw84.fr:=Zad (n:=100000) (l:=[]) follows Zaf trivial (by kernel_rfl)
def aw85:Fact:=⟨91,[(.eptr (.agg (.gen [(.list (.big .str [(.str [115,97,102,101]),(.str [99,114,117,105,115,101]),(.str [98,117,114,110])])),(.list (.big (.agg [.str,(.int .i64)]) [(.agg (.gen [(.str [119,97,107,101]),(.int .i64 1)])),(.agg (.gen [(.str [102,105,114,101]),(.int .i64 2)])),(.agg (.gen [(.str [115,116,111,112]),(.int .i64 1)])),(.agg (.gen [(.str [112,105,110,103]),(.int .i64 (-1))]))])),(.list (.big (.agg [.str,(.int .i64),(.int .i64),(.int .i64),(.int .i64)]) [(.agg (.gen [(.str [99,111,108,100]),(.int .i64 1),(.int .i64 0),(.int .i64 (-1)),(.int .i64 1)])),(.agg (.gen [(.str [104,101,97,116]),(.int .i64 1),(.int .i64 (-1)),(.int .i64 2),(.int .i64 50)]))])),(.int .i64 1),(.int .i64 20),(.list (.ints .i64 [0,(-1),(-1),(-1)]))])) 0),(.int .i64 1)],(.val (.pointer none)),none⟩
theorem ZtQ:Zao Tryz.prog aw85.f aw85.args aw85.r aw85.fr:=Zad (n:=100000) (l:=[]) follows Zaf trivial (by kernel_rfl)
def aw86:Fact:=⟨123,[(.eptr (.agg (.gen [(.list (.big .str [(.str [115,97,102,101]),(.str [99,114,117,105,115,101]),(.str [98,117,114,110])])),(.list (.big (.agg [.str,(.int .i64)]) [(.agg (.gen [(.str [119,97,107,101]),(.int .i64 1)])),(.agg (.gen [(.str [102,105,114,101]),(.int .i64 2)])),(.agg (.gen [(.str [115,116,111,112]),(.int .i64 1)])),(.agg (.gen [(.str [112,105,110,103]),(.int .i64 (-1))]))])),(.list (.big (.agg [.str,(.int .i64),(.int .i64),(.int .i64),(.int .i64)]) [(.agg (.gen [(.str [99,111,108,100]),(.int .i64 1),(.int .i64 0),(.int .i64 (-1)),(.int .i64 1)])),(.agg (.gen [(.str [104,101,97,116]),(.int .i64 1),(.int .i64 (-1)),(.int .i64 2),(.int .i64 50)]))])),(.int .i64 1),(.int .i64 20),(.list (.ints .i64 [0,(-1),(-1),(-1)]))])) 0),(.agg (.gen [(.int .i64 1),(.int .i64 20),(.int .i64 200)]))],(.bool true),none⟩
theorem ZvM:Zao Tryz.prog aw86.f aw86.args aw86.r aw86.fr:=Zad (n:=100000) (l:=[aw84,aw85]) follows Zaf ⟨ZuB,⟨ZtQ,trivial⟩⟩ (by kernel_rfl)
def aw87:Fact:=⟨122,[(.eptr (.agg (.gen [(.list (.big .str [(.str [115,97,102,101]),(.str [99,114,117,105,115,101]),(.str [98,117,114,110])])),(.list (.big (.agg [.str,(.int .i64)]) [(.agg (.gen [(.str [119,97,107,101]),(.int .i64 1)])),(.agg (.gen [(.str [102,105,114,101]),(.int .i64 2)])),(.agg (.gen [(.str [115,116,111,112]),(.int .i64 1)])),(.agg (.gen [(.str [112,105,110,103]),(.int .i64 (-1))]))])),(.list (.big (.agg [.str,(.int .i64),(.int .i64),(.int .i64),(.int .i64)]) [(.agg (.gen [(.str [99,111,108,100]),(.int .i64 1),(.int .i64 0),(.int .i64 (-1)),(.int .i64 1)])),(.agg (.gen [(.str [104,101,97,116]),(.int .i64 1),(.int .i64 (-1)),(.int .i64 2),(.int .i64 50)]))])),(.int .i64 2),(.int .i64 30),(.list (.ints .i64 [0,20,(-1),(-1)]))])) 0),(.agg (.gen [(.str [104,101,97,116]),(.int .i64 1),(.int .i64 (-1)),(.int .i64 2),(.int .i64 50)])),(.int .i64 2)],(.bool false),none⟩
theorem ZvK:Zao Tryz.prog aw87.f aw87.args aw87.r aw87.fr:=Zad (n:=100000) (l:=[]) follows Zaf trivial (by kernel_rfl)
def aw88:Fact:=⟨82,[(.int .i64 30),(.int .i64 30),(.int .i64 300)],(.bool true),none⟩
theorem ZuG:Zao Tryz.prog aw88.f aw88.args aw88.r aw88.fr:=Zad (n:=100000) (l:=[]) follows Zaf trivial (by kernel_rfl)
def aw89:Fact:=⟨91,[(.eptr (.agg (.gen [(.list (.big .str [(.str [115,97,102,101]),(.str [99,114,117,105,115,101]),(.str [98,117,114,110])])),(.list (.big (.agg [.str,(.int .i64)]) [(.agg (.gen [(.str [119,97,107,101]),(.int .i64 1)])),(.agg (.gen [(.str [102,105,114,101]),(.int .i64 2)])),(.agg (.gen [(.str [115,116,111,112]),(.int .i64 1)])),(.agg (.gen [(.str [112,105,110,103]),(.int .i64 (-1))]))])),(.list (.big (.agg [.str,(.int .i64),(.int .i64),(.int .i64),(.int .i64)]) [(.agg (.gen [(.str [99,111,108,100]),(.int .i64 1),(.int .i64 0),(.int .i64 (-1)),(.int .i64 1)])),(.agg (.gen [(.str [104,101,97,116]),(.int .i64 1),(.int .i64 (-1)),(.int .i64 2),(.int .i64 50)]))])),(.int .i64 2),(.int .i64 30),(.list (.ints .i64 [0,20,(-1),(-1)]))])) 0),(.int .i64 2)],(.val (.pointer none)),none⟩
theorem ZvD:Zao Tryz.prog aw89.f aw89.args aw89.r aw89.fr:=Zad (n:=100000) (l:=[]) follows Zaf trivial (by kernel_rfl)
def aw90:Fact:=⟨123,[(.eptr (.agg (.gen [(.list (.big .str [(.str [115,97,102,101]),(.str [99,114,117,105,115,101]),(.str [98,117,114,110])])),(.list (.big (.agg [.str,(.int .i64)]) [(.agg (.gen [(.str [119,97,107,101]),(.int .i64 1)])),(.agg (.gen [(.str [102,105,114,101]),(.int .i64 2)])),(.agg (.gen [(.str [115,116,111,112]),(.int .i64 1)])),(.agg (.gen [(.str [112,105,110,103]),(.int .i64 (-1))]))])),(.list (.big (.agg [.str,(.int .i64),(.int .i64),(.int .i64),(.int .i64)]) [(.agg (.gen [(.str [99,111,108,100]),(.int .i64 1),(.int .i64 0),(.int .i64 (-1)),(.int .i64 1)])),(.agg (.gen [(.str [104,101,97,116]),(.int .i64 1),(.int .i64 (-1)),(.int .i64 2),(.int .i64 50)]))])),(.int .i64 2),(.int .i64 30),(.list (.ints .i64 [0,20,(-1),(-1)]))])) 0),(.agg (.gen [(.int .i64 2),(.int .i64 30),(.int .i64 300)]))],(.bool true),none⟩
theorem Zt8:Zao Tryz.prog aw90.f aw90.args aw90.r aw90.fr:=Zad (n:=100000) (l:=[aw88,aw89]) follows Zaf ⟨ZuG,⟨ZvD,trivial⟩⟩ (by kernel_rfl)
def aw91:Fact:=⟨122,[(.eptr (.agg (.gen [(.list (.big .str [(.str [115,97,102,101]),(.str [99,114,117,105,115,101]),(.str [98,117,114,110])])),(.list (.big (.agg [.str,(.int .i64)]) [(.agg (.gen [(.str [119,97,107,101]),(.int .i64 1)])),(.agg (.gen [(.str [102,105,114,101]),(.int .i64 2)])),(.agg (.gen [(.str [115,116,111,112]),(.int .i64 1)])),(.agg (.gen [(.str [112,105,110,103]),(.int .i64 (-1))]))])),(.list (.big (.agg [.str,(.int .i64),(.int .i64),(.int .i64),(.int .i64)]) [(.agg (.gen [(.str [99,111,108,100]),(.int .i64 1),(.int .i64 0),(.int .i64 (-1)),(.int .i64 1)])),(.agg (.gen [(.str [104,101,97,116]),(.int .i64 1),(.int .i64 (-1)),(.int .i64 2),(.int .i64 50)]))])),(.int .i64 1),(.int .i64 40),(.list (.ints .i64 [0,20,30,(-1)]))])) 0),(.agg (.gen [(.str [104,101,97,116]),(.int .i64 1),(.int .i64 (-1)),(.int .i64 2),(.int .i64 50)])),(.int .i64 1)],(.bool true),none⟩
theorem ZtU:Zao Tryz.prog aw91.f aw91.args aw91.r aw91.fr:=Zad (n:=100000) (l:=[]) follows Zaf trivial (by kernel_rfl)
def aw92:Fact:=⟨82,[(.int .i64 80),(.int .i64 40),(.int .i64 400)],(.bool true),none⟩
theorem Zwy:Zao Tryz.prog aw92.f aw92.args aw92.r aw92.fr:=Zad (n:=100000) (l:=[]) follows Zaf trivial (by kernel_rfl)
def aw93:Fact:=⟨91,[(.eptr (.agg (.gen [(.list (.big .str [(.str [115,97,102,101]),(.str [99,114,117,105,115,101]),(.str [98,117,114,110])])),(.list (.big (.agg [.str,(.int .i64)]) [(.agg (.gen [(.str [119,97,107,101]),(.int .i64 1)])),(.agg (.gen [(.str [102,105,114,101]),(.int .i64 2)])),(.agg (.gen [(.str [115,116,111,112]),(.int .i64 1)])),(.agg (.gen [(.str [112,105,110,103]),(.int .i64 (-1))]))])),(.list (.big (.agg [.str,(.int .i64),(.int .i64),(.int .i64),(.int .i64)]) [(.agg (.gen [(.str [99,111,108,100]),(.int .i64 1),(.int .i64 0),(.int .i64 (-1)),(.int .i64 1)])),(.agg (.gen [(.str [104,101,97,116]),(.int .i64 1),(.int .i64 (-1)),(.int .i64 2),(.int .i64 50)]))])),(.int .i64 1),(.int .i64 80),(.list (.ints .i64 [0,20,30,(-1)]))])) 0),(.int .i64 1)],(.val (.pointer none)),none⟩
theorem Zwz:Zao Tryz.prog aw93.f aw93.args aw93.r aw93.fr:=Zad (n:=100000) (l:=[]) follows Zaf trivial (by kernel_rfl)
def aw94:Fact:=⟨123,[(.eptr (.agg (.gen [(.list (.big .str [(.str [115,97,102,101]),(.str [99,114,117,105,115,101]),(.str [98,117,114,110])])),(.list (.big (.agg [.str,(.int .i64)]) [(.agg (.gen [(.str [119,97,107,101]),(.int .i64 1)])),(.agg (.gen [(.str [102,105,114,101]),(.int .i64 2)])),(.agg (.gen [(.str [115,116,111,112]),(.int .i64 1)])),(.agg (.gen [(.str [112,105,110,103]),(.int .i64 (-1))]))])),(.list (.big (.agg [.str,(.int .i64),(.int .i64),(.int .i64),(.int .i64)]) [(.agg (.gen [(.str [99,111,108,100]),(.int .i64 1),(.int .i64 0),(.int .i64 (-1)),(.int .i64 1)])),(.agg (.gen [(.str [104,101,97,116]),(.int .i64 1),(.int .i64 (-1)),(.int .i64 2),(.int .i64 50)]))])),(.int .i64 1),(.int .i64 80),(.list (.ints .i64 [0,20,30,(-1)]))])) 0),(.agg (.gen [(.int .i64 1),(.int .i64 40),(.int .i64 400)]))],(.bool true),none⟩
theorem Zuo:Zao Tryz.prog aw94.f aw94.args aw94.r aw94.fr:=Zad (n:=100000) (l:=[aw92,aw93]) follows Zaf ⟨Zwy,⟨Zwz,trivial⟩⟩ (by kernel_rfl)
def aw95:Fact:=⟨24,[(.agg (.gen [(.list (.big .str [(.str [115,97,102,101]),(.str [99,114,117,105,115,101]),(.str [98,117,114,110])])),(.list (.big (.agg [.str,(.int .i64)]) [(.agg (.gen [(.str [119,97,107,101]),(.int .i64 1)])),(.agg (.gen [(.str [102,105,114,101]),(.int .i64 2)])),(.agg (.gen [(.str [115,116,111,112]),(.int .i64 1)])),(.agg (.gen [(.str [112,105,110,103]),(.int .i64 (-1))]))])),(.list (.big (.agg [.str,(.int .i64),(.int .i64),(.int .i64),(.int .i64)]) [(.agg (.gen [(.str [99,111,108,100]),(.int .i64 1),(.int .i64 0),(.int .i64 (-1)),(.int .i64 1)])),(.agg (.gen [(.str [104,101,97,116]),(.int .i64 1),(.int .i64 (-1)),(.int .i64 2),(.int .i64 50)]))]))])),(.list (.big (.agg [(.int .i64),(.int .i64),(.int .i64)]) [(.agg (.gen [(.int .i64 0),(.int .i64 0),(.int .i64 100)])),(.agg (.gen [(.int .i64 1),(.int .i64 20),(.int .i64 200)])),(.agg (.gen [(.int .i64 2),(.int .i64 30),(.int .i64 300)])),(.agg (.gen [(.int .i64 1),(.int .i64 40),(.int .i64 400)]))]))],(.tup [(.row 0 0),(.int .i64 0)]),(some ⟨3,1,(.ints .i64 [0,20,30,80])⟩)⟩
theorem ZvE:Zao Tryz.prog aw95.f aw95.args aw95.r aw95.fr:=Zad (n:=100000) (l:=[aw75,aw78,aw79,aw82,aw83,aw86,aw87,aw90,aw91,aw94]) follows Zaf ⟨Zpv,⟨Zlr,⟨ZvH,⟨ZkV,⟨ZtE,⟨ZvM,⟨ZvK,⟨Zt8,⟨ZtU,⟨Zuo,trivial⟩⟩⟩⟩⟩⟩⟩⟩⟩⟩ (by kernel_rfl)
def aw96:Fact:=⟨87,[(.int .i64 (-1)),(.eptr (.agg (.gen [(.int .i64 0),(.int .i64 0),(.list (.ints .i64 [(-1),(-1),(-1),(-1)]))])) 0)],(.bool false),none⟩
theorem Zww:Zao Tryz.prog aw96.f aw96.args aw96.r aw96.fr:=Zad (n:=100000) (l:=[]) follows Zaf trivial (by kernel_rfl)
def aw97:Fact:=⟨137,[(.list (.ints .i64 [(-1),(-1),(-1),(-1)])),(.fn 87 [(.eptr (.agg (.gen [(.int .i64 0),(.int .i64 0),(.list (.ints .i64 [(-1),(-1),(-1),(-1)]))])) 0)])],(.int .i64 (-1)),none⟩
theorem ZvF:Zao Tryz.prog aw97.f aw97.args aw97.r aw97.fr:=Zad (n:=100000) (l:=[aw96]) follows Zaf ⟨Zww,trivial⟩ (by kernel_rfl)
def aw98:Fact:=⟨90,[(.list (.ints .i64 [(-1),(-1),(-1),(-1)])),(.fn 87 [(.eptr (.agg (.gen [(.int .i64 0),(.int .i64 0),(.list (.ints .i64 [(-1),(-1),(-1),(-1)]))])) 0)])],(.bool false),none⟩
theorem ZwD:Zao Tryz.prog aw98.f aw98.args aw98.r aw98.fr:=Zad (n:=100000) (l:=[aw97]) follows Zaf ⟨ZvF,trivial⟩ (by kernel_rfl)
def aw99:Fact:=⟨67,[(.list (.ints .i64 [0,0,0,0,0,0]))],(.int .i64 0),none⟩
theorem Zv9:Zao Tryz.prog aw99.f aw99.args aw99.r aw99.fr:=Zad (n:=100000) (l:=[]) follows Zaf trivial (by kernel_rfl)
def aw100:Fact:=⟨42,[(.agg (.gen [(.list (.big .str [(.str [115,97,102,101]),(.str [99,114,117,105,115,101]),(.str [98,117,114,110])])),(.list (.big (.agg [.str,(.int .i64)]) [(.agg (.gen [(.str [119,97,107,101]),(.int .i64 1)])),(.agg (.gen [(.str [102,105,114,101]),(.int .i64 2)])),(.agg (.gen [(.str [115,116,111,112]),(.int .i64 1)])),(.agg (.gen [(.str [112,105,110,103]),(.int .i64 (-1))]))])),(.list (.big (.agg [.str,(.int .i64),(.int .i64),(.int .i64),(.int .i64)]) [(.agg (.gen [(.str [99,111,108,100]),(.int .i64 1),(.int .i64 0),(.int .i64 (-1)),(.int .i64 1)])),(.agg (.gen [(.str [104,101,97,116]),(.int .i64 1),(.int .i64 (-1)),(.int .i64 2),(.int .i64 50)]))]))])),(.agg (.gen [(.int .i64 0),(.int .i64 0),(.list (.ints .i64 [(-1),(-1),(-1),(-1)]))])),(.int .i64 1)],(.tup [(.str [99,111,108,100]),(.int .i64 0)]),none⟩
theorem ZqA:Zao Tryz.prog aw100.f aw100.args aw100.r aw100.fr:=Zad (n:=100000) (l:=[aw51,aw37,aw20,aw55,aw41,aw1,aw98,aw36,aw53,aw99]) follows Zaf ⟨Zp2,⟨Zoq,⟨Zc4,⟨Zp9,⟨ZbW,⟨ZoR,⟨ZwD,⟨ZgS,⟨Zgz,⟨Zv9,trivial⟩⟩⟩⟩⟩⟩⟩⟩⟩⟩ (by kernel_rfl)
def aw101:Fact:=⟨82,[(.int .i64 2),(.int .i64 1),(.int .i64 6)],(.bool true),none⟩
theorem Zsc:Zao Tryz.prog aw101.f aw101.args aw101.r aw101.fr:=Zad (n:=100000) (l:=[]) follows Zaf trivial (by kernel_rfl)
def aw102:Fact:=⟨36,[(.agg (.gen [(.list (.big .str [(.str [115,97,102,101]),(.str [99,114,117,105,115,101]),(.str [98,117,114,110])])),(.list (.big (.agg [.str,(.int .i64)]) [(.agg (.gen [(.str [119,97,107,101]),(.int .i64 1)])),(.agg (.gen [(.str [102,105,114,101]),(.int .i64 2)])),(.agg (.gen [(.str [115,116,111,112]),(.int .i64 1)])),(.agg (.gen [(.str [112,105,110,103]),(.int .i64 (-1))]))])),(.list (.big (.agg [.str,(.int .i64),(.int .i64),(.int .i64),(.int .i64)]) [(.agg (.gen [(.str [99,111,108,100]),(.int .i64 1),(.int .i64 0),(.int .i64 (-1)),(.int .i64 1)])),(.agg (.gen [(.str [104,101,97,116]),(.int .i64 1),(.int .i64 (-1)),(.int .i64 2),(.int .i64 50)]))])),(.list (.big (.agg [(.int .i64),(.int .i64),(.int .i64)]) [(.agg (.gen [(.int .i64 0),(.int .i64 0),(.int .i64 100)])),(.agg (.gen [(.int .i64 1),(.int .i64 20),(.int .i64 200)])),(.agg (.gen [(.int .i64 2),(.int .i64 30),(.int .i64 300)])),(.agg (.gen [(.int .i64 1),(.int .i64 40),(.int .i64 400)]))])),(.int .i64 2),(.int .i64 2)]))],(.int .i64 0),none⟩
theorem Zmq:Zao Tryz.prog aw102.f aw102.args aw102.r aw102.fr:=Zad (n:=100000) (l:=[aw75,aw101,aw41,aw3]) follows Zaf ⟨Zpv,⟨Zsc,⟨ZbW,⟨Zms,trivial⟩⟩⟩⟩ (by kernel_rfl)
def aw103:Fact:=⟨83,[],(.agg (.gen [(.str [112,97,115,115]),(.int .i64 1),(.int .i64 1000000000000),(.fn 127 []),(.str [115,101,110,100]),(.int .i64 0),(.int .i64 11),(.fn 128 []),(.str [97,114,114,105,118,101]),(.int .i64 0),(.int .i64 5),(.fn 129 []),(.str [104,101,97,114]),(.int .i64 0),(.int .i64 5),(.fn 130 []),(.str [108,111,115,101]),(.int .i64 0),(.int .i64 5),(.fn 131 []),(.str [100,114,111,112]),(.int .i64 0),(.int .i64 5),(.fn 132 []),(.str [114,101,112,101,97,116]),(.int .i64 0),(.int .i64 5),(.fn 133 []),(.str [114,101,115,116,97,114,116]),(.int .i64 0),(.int .i64 0),(.fn 134 []),(.str [114,101,98,111,111,116]),(.int .i64 0),(.int .i64 0),(.fn 135 [])])),none⟩
theorem Zco:Zao Tryz.prog aw103.f aw103.args aw103.r aw103.fr:=Zad (n:=100000) (l:=[]) follows Zaf trivial (by kernel_rfl)
def aw104:Fact:=⟨82,[(.int .i64 1),(.int .i64 0),(.int .i64 8)],(.bool true),none⟩
theorem Zry:Zao Tryz.prog aw104.f aw104.args aw104.r aw104.fr:=Zad (n:=100000) (l:=[]) follows Zaf trivial (by kernel_rfl)
def aw105:Fact:=⟨82,[(.int .i64 0),(.int .i64 0),(.int .i64 11)],(.bool true),none⟩
theorem Zrm:Zao Tryz.prog aw105.f aw105.args aw105.r aw105.fr:=Zad (n:=100000) (l:=[]) follows Zaf trivial (by kernel_rfl)
def aw106:Fact:=⟨37,[(.agg (.gen [(.int .i64 1),(.int .i64 0)]))],(.int .i64 0),none⟩
theorem ZmB:Zao Tryz.prog aw106.f aw106.args aw106.r aw106.fr:=Zad (n:=100000) (l:=[aw103,aw104,aw105,aw41]) follows Zaf ⟨Zco,⟨Zry,⟨Zrm,⟨ZbW,trivial⟩⟩⟩⟩ (by kernel_rfl)
def aw107:Fact:=⟨68,[(.bool true),(.int .i64 21)],(.int .i64 0),none⟩
theorem ZmG:Zao Tryz.prog aw107.f aw107.args aw107.r aw107.fr:=Zad (n:=100000) (l:=[]) follows Zaf trivial (by kernel_rfl)
def aw108:Fact:=⟨82,[(.int .i64 0),(.int .i64 0),(.int .i64 1)],(.bool true),none⟩
theorem ZlX:Zao Tryz.prog aw108.f aw108.args aw108.r aw108.fr:=Zad (n:=100000) (l:=[]) follows Zaf trivial (by kernel_rfl)
def aw109:Fact:=⟨68,[(.bool true),(.int .i64 26)],(.int .i64 0),none⟩
theorem ZlZ:Zao Tryz.prog aw109.f aw109.args aw109.r aw109.fr:=Zad (n:=100000) (l:=[]) follows Zaf trivial (by kernel_rfl)
def aw110:Fact:=⟨68,[(.bool true),(.int .i64 16)],(.int .i64 0),none⟩
theorem Zmo:Zao Tryz.prog aw110.f aw110.args aw110.r aw110.fr:=Zad (n:=100000) (l:=[]) follows Zaf trivial (by kernel_rfl)
def aw111:Fact:=⟨67,[(.list (.ints .i64 [0,0,0,0]))],(.int .i64 0),none⟩
theorem ZlS:Zao Tryz.prog aw111.f aw111.args aw111.r aw111.fr:=Zad (n:=100000) (l:=[]) follows Zaf trivial (by kernel_rfl)
def aw112:Fact:=⟨82,[(.int .i64 2),(.int .i64 0),(.int .i64 8)],(.bool true),none⟩
theorem Zq1:Zao Tryz.prog aw112.f aw112.args aw112.r aw112.fr:=Zad (n:=100000) (l:=[]) follows Zaf trivial (by kernel_rfl)
def aw113:Fact:=⟨82,[(.int .i64 0),(.int .i64 0),(.int .i64 5)],(.bool true),none⟩
theorem Zi0:Zao Tryz.prog aw113.f aw113.args aw113.r aw113.fr:=Zad (n:=100000) (l:=[]) follows Zaf trivial (by kernel_rfl)
def aw114:Fact:=⟨37,[(.agg (.gen [(.int .i64 2),(.int .i64 0)]))],(.int .i64 0),none⟩
theorem Zmj:Zao Tryz.prog aw114.f aw114.args aw114.r aw114.fr:=Zad (n:=100000) (l:=[aw103,aw112,aw113,aw41]) follows Zaf ⟨Zco,⟨Zq1,⟨Zi0,⟨ZbW,trivial⟩⟩⟩⟩ (by kernel_rfl)
def aw115:Fact:=⟨82,[(.int .i64 5),(.int .i64 0),(.int .i64 8)],(.bool true),none⟩
theorem Zsf:Zao Tryz.prog aw115.f aw115.args aw115.r aw115.fr:=Zad (n:=100000) (l:=[]) follows Zaf trivial (by kernel_rfl)
def aw116:Fact:=⟨37,[(.agg (.gen [(.int .i64 5),(.int .i64 0)]))],(.int .i64 0),none⟩
theorem ZlV:Zao Tryz.prog aw116.f aw116.args aw116.r aw116.fr:=Zad (n:=100000) (l:=[aw103,aw115,aw113,aw41]) follows Zaf ⟨Zco,⟨Zsf,⟨Zi0,⟨ZbW,trivial⟩⟩⟩⟩ (by kernel_rfl)
def aw117:Fact:=⟨82,[(.int .i64 3),(.int .i64 0),(.int .i64 8)],(.bool true),none⟩
theorem Zr8:Zao Tryz.prog aw117.f aw117.args aw117.r aw117.fr:=Zad (n:=100000) (l:=[]) follows Zaf trivial (by kernel_rfl)
def aw118:Fact:=⟨37,[(.agg (.gen [(.int .i64 3),(.int .i64 0)]))],(.int .i64 0),none⟩
theorem Zmb:Zao Tryz.prog aw118.f aw118.args aw118.r aw118.fr:=Zad (n:=100000) (l:=[aw103,aw117,aw113,aw41]) follows Zaf ⟨Zco,⟨Zr8,⟨Zi0,⟨ZbW,trivial⟩⟩⟩⟩ (by kernel_rfl)
def aw119:Fact:=⟨15,[(.agg (.gen [(.list (.big .str [(.str [115,97,102,101]),(.str [99,114,117,105,115,101]),(.str [98,117,114,110])])),(.list (.big (.agg [.str,(.int .i64)]) [(.agg (.gen [(.str [119,97,107,101]),(.int .i64 1)])),(.agg (.gen [(.str [102,105,114,101]),(.int .i64 2)])),(.agg (.gen [(.str [115,116,111,112]),(.int .i64 1)])),(.agg (.gen [(.str [112,105,110,103]),(.int .i64 (-1))]))])),(.list (.big (.agg [.str,(.int .i64),(.int .i64),(.int .i64),(.int .i64)]) [(.agg (.gen [(.str [99,111,108,100]),(.int .i64 1),(.int .i64 0),(.int .i64 (-1)),(.int .i64 1)])),(.agg (.gen [(.str [104,101,97,116]),(.int .i64 1),(.int .i64 (-1)),(.int .i64 2),(.int .i64 50)]))])),(.list (.big (.agg [(.int .i64),(.int .i64),(.int .i64)]) [(.agg (.gen [(.int .i64 0),(.int .i64 0),(.int .i64 100)])),(.agg (.gen [(.int .i64 1),(.int .i64 20),(.int .i64 200)])),(.agg (.gen [(.int .i64 2),(.int .i64 30),(.int .i64 300)])),(.agg (.gen [(.int .i64 1),(.int .i64 40),(.int .i64 400)]))])),(.int .i64 2),(.int .i64 2)])),(.list (.big (.agg [(.int .i64),(.int .i64)]) [(.agg (.gen [(.int .i64 1),(.int .i64 0)])),(.agg (.gen [(.int .i64 2),(.int .i64 0)])),(.agg (.gen [(.int .i64 5),(.int .i64 0)])),(.agg (.gen [(.int .i64 1),(.int .i64 0)])),(.agg (.gen [(.int .i64 2),(.int .i64 0)])),(.agg (.gen [(.int .i64 3),(.int .i64 0)]))]))],(.tup [(.agg (.gen [(.int .i64 0),(.int .i64 1),(.list (.big (.agg [(.int .i64),(.int .i64)]) [(.agg (.gen [(.int .i64 0),(.int .i64 0)]))])),(.bool false),(.int .i64 1),(.bool false),(.list (.ints .i64 [])),(.list (.big (.agg [(.int .i64), .bool]) []))])),(.int .i64 0),(.int .i64 0)]),none⟩
theorem ZqT:Zao Tryz.prog aw119.f aw119.args aw119.r aw119.fr:=ZmA (n:=100000) (d:=3) (l:=[aw102,aw2,aw3,aw78,aw106,aw103,aw20,aw107,aw108,aw109,aw110,aw111,aw114,aw82,aw116,aw118]) follows Zaf ⟨Zmq,⟨Zl8,⟨Zms,⟨Zlr,⟨ZmB,⟨Zco,⟨Zc4,⟨ZmG,⟨ZlX,⟨ZlZ,⟨Zmo,⟨ZlS,⟨Zmj,⟨ZkV,⟨ZlV,⟨Zmb,trivial⟩⟩⟩⟩⟩⟩⟩⟩⟩⟩⟩⟩⟩⟩⟩⟩ (by kernel_rfl)
def aw120:Fact:=⟨29,[(.list (.ints .i64 [0,20,30,80])),(.list (.ints .i64 [0,20,30,80]))],(.bool true),none⟩
theorem Zsa:Zao Tryz.prog aw120.f aw120.args aw120.r aw120.fr:=Zad (n:=100000) (l:=[]) follows Zaf trivial (by kernel_rfl)
def aw121:Fact:=⟨22,[(.list (.big (.agg [(.int .i64),(.int .i64)]) [(.agg (.gen [(.int .i64 0),(.int .i64 0)]))])),(.list (.big (.agg [(.int .i64),(.int .i64)]) [(.agg (.gen [(.int .i64 0),(.int .i64 0)]))]))],(.bool true),none⟩
theorem Zr0:Zao Tryz.prog aw121.f aw121.args aw121.r aw121.fr:=Zad (n:=100000) (l:=[]) follows Zaf trivial (by kernel_rfl)
def aw122:Fact:=⟨82,[(.int .i64 0),(.int .i64 0),(.int .i64 8)],(.bool true),none⟩
theorem Zq6:Zao Tryz.prog aw122.f aw122.args aw122.r aw122.fr:=Zad (n:=100000) (l:=[]) follows Zaf trivial (by kernel_rfl)
def aw123:Fact:=⟨198,[(.int .i64 20)],(.str [50,48]),none⟩
theorem Zru:Zao Tryz.prog aw123.f aw123.args aw123.r aw123.fr:=Zad (n:=100000) (l:=[]) follows Zaf trivial (by kernel_rfl)
def aw124:Fact:=⟨183,[(.int .i64 20),(.int .i64 10)],(.str [50,48]),none⟩
theorem ZrU:Zao Tryz.prog aw124.f aw124.args aw124.r aw124.fr:=Zad (n:=100000) (l:=[aw123]) follows Zaf ⟨Zru,trivial⟩ (by kernel_rfl)
def aw125:Fact:=⟨166,[(.int .i64 20)],(.str [50,48]),none⟩
theorem Zrw:Zao Tryz.prog aw125.f aw125.args aw125.r aw125.fr:=Zad (n:=100000) (l:=[aw124]) follows Zaf ⟨ZrU,trivial⟩ (by kernel_rfl)
def aw126:Fact:=⟨138,[(.int .i64 20)],(.str [50,48]),none⟩
theorem ZrW:Zao Tryz.prog aw126.f aw126.args aw126.r aw126.fr:=Zad (n:=100000) (l:=[aw125]) follows Zaf ⟨Zrw,trivial⟩ (by kernel_rfl)
def aw127:Fact:=⟨113,[(.list (.big .str [(.str [50,48])])),(.str [32])],(.str [50,48]),none⟩
theorem ZrK:Zao Tryz.prog aw127.f aw127.args aw127.r aw127.fr:=Zad (n:=100000) (l:=[]) follows Zaf trivial (by kernel_rfl)
def aw128:Fact:=⟨105,[(.list (.ints .i64 [20]))],(.str [50,48]),none⟩
theorem ZrV:Zao Tryz.prog aw128.f aw128.args aw128.r aw128.fr:=Zad (n:=100000) (l:=[aw126,aw127]) follows Zaf ⟨ZrW,⟨ZrK,trivial⟩⟩ (by kernel_rfl)
def aw129:Fact:=⟨53,[(.agg (.gen [(.int .i64 0),(.int .i64 20)]))],(.str [112,97,115,115,32,50,48]),none⟩
theorem Zqz:Zao Tryz.prog aw129.f aw129.args aw129.r aw129.fr:=Zad (n:=100000) (l:=[aw103,aw122,aw128]) follows Zaf ⟨Zco,⟨Zq6,⟨ZrV,trivial⟩⟩⟩ (by kernel_rfl)
def aw130:Fact:=⟨13,[],(.bool true),none⟩
theorem ZrM:Zao Tryz.prog aw130.f aw130.args aw130.r aw130.fr:=ZmA (n:=100000) (d:=3) (l:=[aw0,aw95,aw100,aw119,aw102,aw2,aw3,aw78,aw106,aw103,aw20,aw107,aw108,aw109,aw110,aw111,aw114,aw82,aw116,aw118,aw120,aw121,aw129]) follows Zaf ⟨ZBt,⟨ZvE,⟨ZqA,⟨ZqT,⟨Zmq,⟨Zl8,⟨Zms,⟨Zlr,⟨ZmB,⟨Zco,⟨Zc4,⟨ZmG,⟨ZlX,⟨ZlZ,⟨Zmo,⟨ZlS,⟨Zmj,⟨ZkV,⟨ZlV,⟨Zmb,⟨Zsa,⟨Zr0,⟨Zqz,trivial⟩⟩⟩⟩⟩⟩⟩⟩⟩⟩⟩⟩⟩⟩⟩⟩⟩⟩⟩⟩⟩⟩⟩ (by kernel_rfl)
theorem awake_ok:Zao Tryz.prog aw130.f aw130.args aw130.r aw130.fr:=ZrM
end Go.Proofs.YtkeoeooghhjibaaGreatDoor
