/- Contracts as a list. No condition. -/
import Derived.Test.YtkeoeooghhjibaaGreatDoorQe
import Derived.KernelRfl
namespace Go.Proofs.YtkeoeooghhjibaaGreatDoor
theorem Zo3{P:Program}{f:FuncId}{args args':List AV}{r:AV}{fr:Option Fresh}(h:Zan P f args r fr)(hw:WkA args' args):Zan P f args' r fr:=fun w okA L vs hargs hok=>
 h w okA L vs ⟨by rw[←hw.spec.1];exact hargs.1,fun j y v hy hv=>by
  have hj:j<args'.length:=by rw[hw.spec.1];exact(List.getElem?_eq_some_iff.1 hy).1
  exact(hw.spec.2 j _ y (List.getElem?_eq_getElem hj) hy).rel (hargs.2 j _ v (List.getElem?_eq_getElem hj) hv)⟩ hok
theorem Zvj(at0 mo:Int)(dn:List AV)(ha:Bool)(ba:Int)(to:Bool)(dw:List Int)(up:List AV)(at1 mo1:Int)(ha1:Bool)(ba1:Int)(to1:Bool)(hl:dn.length≤1000000∧dw.length≤1000000∧up.length≤1000000):Zan Tryz.prog 21 [.agg (.gen [.int .i64 at0, .int .i64 mo, .list (.big (.agg [.int .i64, .int .i64]) dn), .bool ha, .int .i64 ba, .bool to, .list (.ints .i64 dw), .list (.big (.agg [.int .i64, .bool]) up)]), .agg (.gen [.int .i64 at1, .int .i64 mo1, .nils, .bool ha1, .int .i64 ba1, .bool to1, .nils, .nils])] (.bool (ZoP at0 mo dn ha ba to dw up at1 mo1 [] ha1 ba1 to1 [] [])) none:=
 Zo3 (Zjv at0 mo dn ha ba to dw up at1 mo1 [] ha1 ba1 to1 [] [] hl) ⟨.same _,Wk.agg' ⟨.same _, .same _, .nil _ rfl, .same _, .same _, .same _, .nil _ rfl, .nil _ rfl,trivial⟩,trivial⟩
theorem ZE9(a b c d e:Int):([AV.int .i64 a,AV.int .i64 b,AV.int .i64 c,AV.int .i64 d,AV.int .i64 e].all fun x=>AV.bx x&&Nat.beq (Zah std x) 1)=true:=rfl
theorem ZIf(a:Int):([AV.int .i64 a].all fun x=>AV.bx x&&Nat.beq (Zah std x) 1)=true:=rfl
section
variable {C:Ctx}(hC:C.P=Tryz.prog)(ms ks rs l:List AV)(wn fl:Int)(at0 mo:Int)(dn:List AV)(ha:Bool)(ba:Int)(to:Bool)(dw:List Int)(up:List AV)
include hC
theorem ZDf(n3 n6:Int)(l1:List Int)(hl:up.length≤1000000):∀(m k:Nat) (e:Int),k+m=up.length→Ev C (Zg1 ms ks rs l wn fl at0 mo dn ha ba to dw up l1 n3 n6 e up.length k) (Zfo ms ks rs l wn fl at0 mo dn ha ba to dw up l1 n3 n6 e up.length k) (ZbT 34 (.int .i64 (if e=0 then upR n6 ha (up.drop k)else e)) none)
 |0,k,e,hk=>tgo hC ZdR ZhA (by
  rw[List.drop_of_length_le (by omega)]
  by_cases he:e=0<;>simp[Ze2,show ¬(k:Int)<up.length by omega,upR,he])
 |m+1,k,e,hk=>by
  have ih:=fun e=>ZDf n3 n6 l1 hl m (k+1) e (by omega)
  have hlt:(k:Int)<up.length:=by omega
  have hlt2:k<up.length:=by omega
  refine tgo hC ZdR ZhA ?_
  rw[ZmC hlt2]
  unfold Ze2
  simp only[bx3]
  have hr:(k:Int)+1≤9223372036854775807:=by omega
  generalize hq:((up.getD k .top).cellAt 0).toI=q
  generalize hp:((up.getD k .top).cellAt 1).toB=p
  by_cases he:e=0
  ·subst he
   have i0:=ih 0
   have i2:=ih 2
   have i3:=ih 3
   by_cases h3:q=n6
   ·subst h3
    by_cases h1:Zab q 0 q=true<;>cases p<;>cases ha<;>
     simp[-List.getD_eq_getElem?_getD,hlt,hlt2,h1,hq,hp,upR,Zai,Zaa]at i0 i2 i3⊢ <;>exact⟨by omega,by first |exact i0 |exact i2 |exact i3⟩
   ·by_cases h1:Zab q 0 n6=true<;>cases p<;>cases ha<;>
     simp[-List.getD_eq_getElem?_getD,hlt,hlt2,h1,h3,hq,hp,upR,Zai,Zaa]at i0 i2 i3⊢ <;>exact⟨by omega,by first |exact i0 |exact i2 |exact i3⟩
  ·have i0:=ih e
   cases p<;>cases ha<;>
    simp[-List.getD_eq_getElem?_getD,hlt,hlt2,he,hq,hp,Zai]at i0⊢ <;>exact⟨by omega,i0⟩
end
def ZqB(mo n3:Int)(ha:Bool)(d ll ba:Int)(to:Bool):Int:=if mo=n3 then(if ha=true∧¬d<ll then 21 else if Zab ba 0 d=true then(if to=true∧¬(ha=true∧ba=d)then 3 else 0)else 2)else 3
section
variable {C:Ctx}(hC:C.P=Tryz.prog)(ms ks rs l:List AV)(wn fl:Int)(at0 mo:Int)(dn:List AV)(ha:Bool)(ba:Int)(to:Bool)(dw:List Int)(up:List AV)
include hC
theorem Zst(n3:Int)(l1:List Int)(hl:up.length≤1000000∧dw.length≤1000000∧l.length≤1000000):∀(m k:Nat),k+m=dw.length→Ev C (ZeS ms ks rs l wn fl at0 mo dn ha ba to dw up l1 n3 dw.length dn.length dn.length k) (ZdS ms ks rs l wn fl at0 mo dn ha ba to dw up l1 n3 dw.length dn.length dn.length k)
 (ZbT 34 (.int .i64 (if ZqB mo n3 ha dn.length l.length ba to=0 then(if ZcX l.length (dw.drop k)=0 then upR dn.length ha up else ZcX l.length (dw.drop k))else ZqB mo n3 ha dn.length l.length ba to)) none)
 |0,k,hk=>tgo hC ZdR Zgk (by
  obtain rfl:k=dw.length:=by omega
  have hu:=fun e=>ZDf hC ms ks rs l wn fl at0 mo dn ha ba to dw up n3 dn.length l1 hl.1 up.length 0 e (by omega)
  rw[List.drop_of_length_le (by omega)]
  unfold ZdW
  simp only[ZE9]
  obtain⟨c,hc⟩:∃c,c=ZqB mo n3 ha dn.length l.length ba to:=⟨_,rfl⟩
  have h1:=hu c
  rw[←hc]
  simp only[ZcX,if_true]
  unfold ZqB at hc
  by_cases g1:mo=n3
  ·subst g1
   by_cases g4:ba=dn.length
   ·subst g4
    by_cases g2:(dn.length:Int)<l.length<;>by_cases g3:Zab (dn.length:Int) 0 dn.length=true<;>cases ha<;>cases to<;>simp[g2,g3]at hc<;>subst hc<;>simp[-List.getD_eq_getElem?_getD,g2,g3,Zai,Zaa]<;>simpa[g2,g3]using h1
   ·by_cases g2:(dn.length:Int)<l.length<;>by_cases g3:Zab ba 0 dn.length=true<;>cases ha<;>cases to<;>simp[g2,g3,g4]at hc<;>subst hc<;>simp[-List.getD_eq_getElem?_getD,g2,g3,g4,Zai,Zaa]<;>simpa[g2,g3]using h1
  ·by_cases g4:ba=dn.length
   ·subst g4
    by_cases g2:(dn.length:Int)<l.length<;>by_cases g3:Zab (dn.length:Int) 0 dn.length=true<;>cases ha<;>cases to<;>simp[g2,g3,g1]at hc<;>subst hc<;>simp[-List.getD_eq_getElem?_getD,g2,g3,g1,Zai,Zaa]<;>simpa[g2,g3]using h1
   ·by_cases g2:(dn.length:Int)<l.length<;>by_cases g3:Zab ba 0 dn.length=true<;>cases ha<;>cases to<;>simp[g2,g3,g1,g4]at hc<;>subst hc<;>simp[-List.getD_eq_getElem?_getD,g2,g3,g1,g4,Zai,Zaa]<;>simpa[g2,g3]using h1)
 |m+1,k,hk=>by
  have ih:=Zst n3 l1 hl m (k+1) (by omega)
  have hu:=fun e=>ZDf hC ms ks rs l wn fl at0 mo dn ha ba to dw up n3 dn.length l1 hl.1 up.length 0 e (by omega)
  have hlt:(k:Int)<dw.length:=by omega
  have hlt2:k<dw.length:=by omega
  refine tgo hC ZdR Zgk ?_
  rw[Zrq hlt2]
  unfold ZdW
  simp only[ZE9]
  by_cases h1:Zab (dw.getD k 0) 0 ((l.length:Int)-1)=true
  ·simp[-List.getD_eq_getElem?_getD,hlt,hlt2,h1,ZcX]
   exact⟨by omega,by omega,by simpa using ih⟩
  ·obtain⟨c,hc⟩:∃c,c=ZqB mo n3 ha dn.length l.length ba to:=⟨_,rfl⟩
   have h2:=hu (if c=0 then 6 else c)
   rw[←hc]
   unfold ZqB at hc
   by_cases g1:mo=n3
   ·subst g1
    by_cases g4:ba=dn.length
    ·subst g4
     by_cases g2:(dn.length:Int)<l.length<;>by_cases g3:Zab (dn.length:Int) 0 dn.length=true<;>cases ha<;>cases to<;>simp[g2,g3]at hc<;>subst hc<;>simp[-List.getD_eq_getElem?_getD,g2,g3,Zai,Zaa,hlt,hlt2,h1,ZcX]<;>exact⟨by omega,by simpa[g2,g3]using h2⟩
    ·by_cases g2:(dn.length:Int)<l.length<;>by_cases g3:Zab ba 0 dn.length=true<;>cases ha<;>cases to<;>simp[g2,g3,g4]at hc<;>subst hc<;>simp[-List.getD_eq_getElem?_getD,g2,g3,g4,Zai,Zaa,hlt,hlt2,h1,ZcX]<;>exact⟨by omega,by simpa[g2,g3]using h2⟩
   ·by_cases g4:ba=dn.length
    ·subst g4
     by_cases g2:(dn.length:Int)<l.length<;>by_cases g3:Zab (dn.length:Int) 0 dn.length=true<;>cases ha<;>cases to<;>simp[g2,g3,g1]at hc<;>subst hc<;>simp[-List.getD_eq_getElem?_getD,g2,g3,g1,Zai,Zaa,hlt,hlt2,h1,ZcX]<;>exact⟨by omega,by simpa[g2,g3]using h2⟩
    ·by_cases g2:(dn.length:Int)<l.length<;>by_cases g3:Zab ba 0 dn.length=true<;>cases ha<;>cases to<;>simp[g2,g3,g1,g4]at hc<;>subst hc<;>simp[-List.getD_eq_getElem?_getD,g2,g3,g1,g4,Zai,Zaa,hlt,hlt2,h1,ZcX]<;>exact⟨by omega,by simpa[g2,g3]using h2⟩
end
theorem Zre(ks l:List AV)(mo:Int)(dn:List AV)(ha:Bool)(ba:Int)(to:Bool)(dw:List Int)(up:List AV)(h:dn.length≤l.length):(if ZqB mo (m0A ks l dn.length) ha dn.length l.length ba to=0 then(if ZcX l.length dw=0 then upR dn.length ha up else ZcX l.length dw)else ZqB mo (m0A ks l dn.length) ha dn.length l.length ba to)=Zf0 ks l mo dn ha ba to dw up:=by
 unfold ZqB Zf0
 by_cases g1:mo=m0A ks l dn.length
 ·by_cases g2:ha=true∧dn.length=l.length
  ·have g2':ha=true∧¬(dn.length:Int)<l.length:=⟨g2.1,by omega⟩
   simp only[if_pos g1,if_pos g2,if_pos g2'];rfl
  ·have g2':¬(ha=true∧¬(dn.length:Int)<l.length):=fun hh=>g2 ⟨hh.1,by omega⟩
   by_cases g3:Zab ba 0 dn.length=true
   ·by_cases g4:to=true∧¬(ha=true∧ba=dn.length)
    ·simp only[if_pos g1,if_neg g2,if_neg g2',if_pos g3,if_pos g4];rfl
    ·simp only[if_pos g1,if_neg g2,if_neg g2',if_pos g3,if_neg g4,if_true]
   ·simp only[if_pos g1,if_neg g2,if_neg g2',if_neg g3];rfl
 ·simp only[if_neg g1];rfl
section
variable {C:Ctx}(hC:C.P=Tryz.prog)(ms ks rs l:List AV)(wn fl:Int)(at0 mo:Int)(dn:List AV)(ha:Bool)(ba:Int)(to:Bool)(dw:List Int)(up:List AV)
include hC
theorem ZrQ(hf:OkF ms ks rs l)(hl:dw.length≤1000000∧up.length≤1000000)(hd:dn.length≤l.length)(hat:at0≤1000000000000):∀m k:Nat,k+m=dn.length→OkT ks (m0T dn k) (m0L ks l dn k)→
 Ev C (Zhe ms ks rs l wn fl at0 mo dn ha ba to dw up dn.length (m0L ks l dn k) k (m0A ks l k) (m0T dn k)) (Zfr ms ks rs l wn fl at0 mo dn ha ba to dw up dn.length (m0L ks l dn k) k (m0A ks l k) (m0T dn k)) (ZbT 34 (.int .i64 (if Zbw rs ks l dn at0 m k=0 then Zf0 ks l mo dn ha ba to dw up else Zbw rs ks l dn at0 m k)) none)
 |0,k,hk,_=>tgo hC ZdR Zh7 (by
  obtain rfl:k=dn.length:=by omega
  have hll:=hf.l1
  have:=Zst hC ms ks rs l wn fl at0 mo dn ha ba to dw up (m0A ks l dn.length) (m0L ks l dn dn.length) ⟨hl.2,hl.1,by omega⟩ dw.length 0 (by omega)
  rw[show Zbw rs ks l dn at0 0 dn.length=0 from rfl,if_pos rfl,←Zre ks l mo dn ha ba to dw up hd]
  simp only[List.drop_zero]at this
  simp[Za0]
  simpa using this)
 |m+1,k,hk,hT=>by
  have hlt:(k:Int)<dn.length:=by omega
  have hlt2:k<dn.length:=by omega
  have hlt3:k<l.length:=by omega
  have hll:=hf.l1
  have e0:((dn.getD k .top).cellAt 0).toI=Zal dn k 0:=rfl
  have e1:((dn.getD k .top).cellAt 1).toI=Zal dn k 1:=rfl
  have e2:((l.getD k .top).cellAt 0).toI=Zal l k 0:=rfl
  have e3:((l.getD k .top).cellAt 1).toI=Zal l k 1:=rfl
  have e4:((l.getD k .top).cellAt 2).toI=Zal l k 2:=rfl
  have e5:((ks.getD (Zal l k 0).toNat .top).cellAt 1).toI=Zal ks (Zal l k 0) 1:=rfl
  have hr1:(k:Int)+1≤9223372036854775807:=by omega
  obtain⟨ha1,ha2⟩:=(hf.act k hlt3).1
  have ha3:(Zal l k 0).toNat<ks.length:=by omega
  have hlen:=hT.len
  refine tgo hC ZdR Zh7 ?_
  by_cases h1:Zal dn k 0=k
  ·by_cases h2:Zal dn k 1≤at0
   ·have h2n:¬at0<Zal dn k 1:=by omega
    have e9:((dn.getD (k-1) .top).cellAt 1).toI=Zal dn (k-1:Nat) 1:=rfl
    by_cases h3:0<k→Zal dn (k-1:Nat) 1≤Zal dn k 1
    ·have hd1:Zbw rs ks l dn at0 (m+1) k=if Zok rs (m0A ks l k) (Zal dn k 1) (m0L ks l dn k) (Zal l k 0) (Zal l k 1) (Zal l k 2)=true then Zbw rs ks l dn at0 m (k+1)else 26:=by rw[Zbw,if_pos ⟨h1,h2,h3⟩]
     rw[hd1]
     have hg:Zab (Zal dn k 1) (Zal l k 1) (Zal l k 2)=false∨ZbR rs (Zal dn k 1) (m0L ks l dn k)=true:=by
      cases hw:Zab (Zal dn k 1) (Zal l k 1) (Zal l k 2)
      ·exact .inl rfl
      ·exact .inr (okD hf dn hT hat h2 h3 hw hlt3).1
     by_cases h5:Zok rs (m0A ks l k) (Zal dn k 1) (m0L ks l dn k) (Zal l k 0) (Zal l k 1) (Zal l k 2)=true
     ·have hw:Zab (Zal dn k 1) (Zal l k 1) (Zal l k 2)=true:=by
       unfold Zok at h5
       simp only[Bool.and_eq_true]at h5
       exact h5.1
      have ih:=ZrQ hf hl hd hat m (k+1) (by omega) (okD hf dn hT hat h2 h3 hw hlt3).2
      rw[Zq9,Zmn]at ih
      have et:m0T dn (k+1)=Zal dn k 1:=rfl
      rw[et]at ih
      unfold exM at ih
      by_cases h6:Zal ks (Zal l k 0) 1= -1
      ·rw[if_pos h6]at ih
       by_cases hk0:k=0
       ·have hk0:=eq_true hk0
        simp[-List.getD_eq_getElem?_getD,Za0,hlt,hlt2,hlt3,e0,e1,e2,e3,e4,e5,h1,h2,h5,h6,hg,ha1,ha3,hlen,hk0]
        exact⟨by omega,by simpa using ih⟩
       ·have h3':=h3 (by omega)
        simp[-List.getD_eq_getElem?_getD,Za0,hlt,hlt2,hlt3,e0,e1,e2,e3,e4,e5,e9,h1,h2,h3',h5,h6,hg,ha1,ha3,hlen,hk0]
        exact⟨by omega,by omega,by omega,by simpa using ih⟩
      ·rw[if_neg h6]at ih
       by_cases hk0:k=0
       ·have hk0:=eq_true hk0
        simp[-List.getD_eq_getElem?_getD,Za0,hlt,hlt2,hlt3,e0,e1,e2,e3,e4,e5,h1,h2,h5,h6,hg,ha1,ha3,hlen,hk0]
        exact⟨by omega,by simpa using ih⟩
       ·have h3':=h3 (by omega)
        simp[-List.getD_eq_getElem?_getD,Za0,hlt,hlt2,hlt3,e0,e1,e2,e3,e4,e5,e9,h1,h2,h3',h5,h6,hg,ha1,ha3,hlen,hk0]
        exact⟨by omega,by omega,by omega,by simpa using ih⟩
     ·by_cases hk0:k=0
      ·have hk0:=eq_true hk0
       simp[-List.getD_eq_getElem?_getD,Za0,hlt,hlt2,hlt3,e0,e1,e2,e3,e4,e5,h1,h2,h5,hg,hk0]
      ·have h3':=h3 (by omega)
       simp[-List.getD_eq_getElem?_getD,Za0,hlt,hlt2,hlt3,e0,e1,e2,e3,e4,e5,e9,h1,h2,h3',h5,hg,hk0]
       omega
    ·have hd1:Zbw rs ks l dn at0 (m+1) k=9:=by rw[Zbw,if_neg (fun h=>h3 h.2.2)]
     obtain⟨hk0,h3'⟩:¬k=0∧¬Zal dn (k-1:Nat) 1≤Zal dn k 1:=by
      by_cases hk0:0<k
      ·exact⟨by omega,fun h=>h3 fun _=>h⟩
      ·exact absurd (fun h=>absurd h hk0) h3
     rw[hd1]
     simp[-List.getD_eq_getElem?_getD,Za0,hlt,hlt2,hlt3,e0,e1,e2,e3,e4,e5,e9,h1,h2,h3',hk0]
     omega
   ·have hd1:Zbw rs ks l dn at0 (m+1) k=9:=by rw[Zbw,if_neg (fun h=>h2 h.2.1)]
    rw[hd1]
    simp[-List.getD_eq_getElem?_getD,Za0,hlt,hlt2,hlt3,e0,e1,e2,e3,e4,e5,h1,h2]
  ·have hd1:Zbw rs ks l dn at0 (m+1) k=9:=by rw[Zbw,if_neg (fun h=>h1 h.1)]
   rw[hd1]
   simp[-List.getD_eq_getElem?_getD,Za0,hlt,hlt2,hlt3,e0,e1,e2,e3,e4,e5,h1]
end
theorem Znr(ms ks rs l:List AV)(wn fl:Int)(at0 mo:Int)(dn:List AV)(ha:Bool)(ba:Int)(to:Bool)(dw:List Int)(up:List AV)(h:(Zax ms ks rs=true∧l.length≤1000000)∧dn.length≤1000000∧dw.length≤1000000∧up.length≤1000000):Zan Tryz.prog 34 [.agg (.gen [.list (.big .str ms), .list (.big (.agg [.str, .int .i64]) ks), .list (.big (.agg [.str, .int .i64, .int .i64, .int .i64, .int .i64]) rs), .list (.big (.agg [.int .i64, .int .i64, .int .i64]) l), .int .i64 wn, .int .i64 fl]), .agg (.gen [.int .i64 at0, .int .i64 mo, .list (.big (.agg [.int .i64, .int .i64]) dn), .bool ha, .int .i64 ba, .bool to, .list (.ints .i64 dw), .list (.big (.agg [.int .i64, .bool]) up)])] (.int .i64 (if upE ms ks rs l wn fl=0 then stE ks rs l fl at0 mo dn ha ba to dw up else upE ms ks rs l wn fl)) none:=
 start (ZtX ms ks rs l wn fl at0 mo dn ha ba to dw up) fun C hC=>tgo hC ZdR ZEx (by
  unfold ZAW
  simp only[bxA,ZIf]
  by_cases h0:upE ms ks rs l wn fl=0
  ·obtain⟨hf,_,hfl⟩:=Zlw h0
   have hll:=hf.l1
   have hkk:=hf.ks1
   unfold stE
   by_cases h1:Zab at0 0 1000000000000=true
   ·have h1':=within_iff.1 h1
    by_cases h2:dn.length≤l.length
    ·have:=ZrQ hC ms ks rs l wn fl at0 mo dn ha ba to dw up hf h.2.2 h2 h1'.2 dn.length 0 (by omega) (ZEP ks l dn)
     have e1:m0L ks l dn 0=List.replicate ks.length (-1):=rfl
     have e2:m0A ks l 0=0:=rfl
     have e3:m0T dn 0=0:=rfl
     rw[e1,e2,e3]at this
     by_cases h3:(dw.length:Int)≤fl
     ·by_cases h4:(up.length:Int)≤fl
      ·simp[h,h0,h1,h2,h3,h4,Zai,Zaa]
       exact⟨by omega,by simpa using this⟩
      ·simp[h,h0,h1,h2,h3,h4,Zai,Zaa]
       omega
     ·simp[h,h0,h1,h2,h3,Zai,Zaa]
      omega
    ·simp[h,h0,h1,h2,Zai,Zaa]
     omega
   ·simp[h,h0,h1,Zai,Zaa]
    refine⟨by omega,?_⟩
    split<;>intros<;>omega
  ·simp[h,h0])
def k34:Ctr:=⟨34,0,fun _ a=>match a with |[.agg (.gen [.list (.big .str ms), .list (.big (.agg [.str, .int .i64]) ks), .list (.big (.agg [.str, .int .i64, .int .i64, .int .i64, .int .i64]) rs), .list (.big (.agg [.int .i64, .int .i64, .int .i64]) l), .int .i64 wn, .int .i64 fl]), .agg (.gen [.int .i64 at0, .int .i64 mo, .list (.big (.agg [.int .i64, .int .i64]) dn), .bool ha, .int .i64 ba, .bool to, .list (.ints .i64 dw), .list (.big (.agg [.int .i64, .bool]) up)])]=>some (decide ((Zax ms ks rs=true∧l.length≤1000000)∧dn.length≤1000000∧dw.length≤1000000∧up.length≤1000000), .int .i64 (if upE ms ks rs l wn fl=0 then stE ks rs l fl at0 mo dn ha ba to dw up else upE ms ks rs l wn fl),none) |_=>none⟩
theorem ZBZ:k34.OK Tryz.prog:=fun pa args r fr h=>by
 simp only[k34]at h
 split at h
 ·simp only[Option.some.injEq,Prod.mk.injEq,decide_eq_true_eq]at h
  obtain⟨h0,rfl,rfl⟩:=h
  exact Znr _ _ _ _ _ _ _ _ _ _ _ _ _ _ h0
 ·cases h
def k21z:Ctr:=⟨21,0,fun _ a=>match a with |[.agg (.gen [.int .i64 at0, .int .i64 mo, .list (.big (.agg [.int .i64, .int .i64]) dn), .bool ha, .int .i64 ba, .bool to, .list (.ints .i64 dw), .list (.big (.agg [.int .i64, .bool]) up)]), .agg (.gen [.int .i64 at1, .int .i64 mo1, .nils, .bool ha1, .int .i64 ba1, .bool to1, .nils, .nils])]=>some (decide (dn.length≤1000000∧dw.length≤1000000∧up.length≤1000000), .bool (ZoP at0 mo dn ha ba to dw up at1 mo1 [] ha1 ba1 to1 [] []),none) |_=>none⟩
theorem Zwt:k21z.OK Tryz.prog:=fun pa args r fr h=>by
 simp only[k21z]at h
 split at h
 ·simp only[Option.some.injEq,Prod.mk.injEq,decide_eq_true_eq]at h
  obtain⟨h0,rfl,rfl⟩:=h
  exact Zvj _ _ _ _ _ _ _ _ _ _ _ _ _ h0
 ·cases h
def Bm:List Ctr:=[k34,k21z]++Bl
theorem ZDQ:ZaI Tryz.prog Bm:=⟨ZBZ,⟨Zwt,ZEy⟩⟩
end Go.Proofs.YtkeoeooghhjibaaGreatDoor
/- Paths of functions, printed by the explorer (Gx). No condition. -/
namespace Go.Proofs.YtkeoeooghhjibaaGreatDoor
set_option maxRecDepth 100000
set_option linter.unusedVariables false
def ZEY(ms ks rs l:List AV)(wn fl at0 mo:Int)(dn:List AV)(ha:Bool)(ba:Int)(to:Bool)(dw:List Int)(up:List AV)(ek en:Int):AFrame:={ fn:=5,N:=71,env:=[(0,AV.agg (Row.gen [.list (Row.big .str ms), .list (Row.big (.agg [.str, .int .i64]) ks), .list (Row.big (.agg [.str, .int .i64, .int .i64, .int .i64, .int .i64]) rs), .list (Row.big (.agg [.int .i64, .int .i64, .int .i64]) l), .int .i64 wn, .int .i64 fl])),(1,AV.agg (Row.gen [.int .i64 at0, .int .i64 mo, .list (Row.big (.agg [.int .i64, .int .i64]) dn), .bool ha, .int .i64 ba, .bool to, .list (.ints .i64 dw), .list (Row.big (.agg [.int .i64, .bool]) up)])),(2,AV.agg (Row.gen [.int .i64 ek, .int .i64 en]))],todo:=[.code a5.code],defs:=[],rnd:=none,ret:=false,res:=[ARes.tmp 6] }
def f5e(ms ks rs l:List AV)(wn fl at0 mo:Int)(dn:List AV)(ha:Bool)(ba:Int)(to:Bool)(dw:List Int)(up:List AV)(ek en:Int):List AFrame:=[(ZEY ms ks rs l wn fl at0 mo dn ha ba to dw up ek en)]
theorem ZBJ(ms ks rs l:List AV)(wn fl at0 mo:Int)(dn:List AV)(ha:Bool)(ba:Int)(to:Bool)(dw:List Int)(up:List AV)(ek en:Int):Zaq tab 5 [AV.agg (Row.gen [.list (Row.big .str ms), .list (Row.big (.agg [.str, .int .i64]) ks), .list (Row.big (.agg [.str, .int .i64, .int .i64, .int .i64, .int .i64]) rs), .list (Row.big (.agg [.int .i64, .int .i64, .int .i64]) l), .int .i64 wn, .int .i64 fl]),AV.agg (Row.gen [.int .i64 at0, .int .i64 mo, .list (Row.big (.agg [.int .i64, .int .i64]) dn), .bool ha, .int .i64 ba, .bool to, .list (.ints .i64 dw), .list (Row.big (.agg [.int .i64, .bool]) up)]),AV.agg (Row.gen [.int .i64 ek, .int .i64 en])]=some (ZEY ms ks rs l wn fl at0 mo dn ha ba to dw up ek en):=rfl
def ZFv(A:Ar)(K:KT)(F:FT)(ms ks rs l:List AV)(wn fl at0 mo:Int)(dn:List AV)(ha:Bool)(ba:Int)(to:Bool)(dw:List Int)(up:List AV)(ek en:Int):Prop:=rB [!A.not true] (bB (A.not (ZhR ms ks rs l)) (F (AV.bool true) (none)) (bB (A.not (Zie dn dw up)) (F (AV.bool true) (none)) (rB [decide (Zax ms ks rs=true∧List.length l≤1000000),decide ((Zax ms ks rs=true∧List.length l≤1000000)∧List.length dn≤1000000∧List.length dw≤1000000∧List.length up≤1000000),decide (List.length dn≤1000000∧List.length dw≤1000000∧List.length up≤1000000),decide (List.length ms≤1000000∧List.length ks≤1000000∧List.length rs≤1000000∧List.length l≤1000000),decide (Zax ms ks rs=true∧List.length l≤1000000),decide (List.length ms≤1000000∧List.length ks≤1000000∧List.length rs≤1000000∧List.length l≤1000000)] (qB [A.not (A.eq (upE ms ks rs l wn fl) (upE ms ks rs l wn fl)),decide (Zax ms ks rs=true∧List.length l≤1000000),decide (List.length ms≤1000000∧List.length ks≤1000000∧List.length rs≤1000000∧List.length l≤1000000)] (F (AV.bool false) (none)) (qB [A.not (A.eq (evE ek en) (evE ek en)),!A.not (A.eq (upE ms ks rs l wn fl) (upE ms ks rs l wn fl)),decide (Zax ms ks rs=true∧List.length l≤1000000),decide (List.length ms≤1000000∧List.length ks≤1000000∧List.length rs≤1000000∧List.length l≤1000000)] (F (AV.bool false) (none)) (rB [!A.not (A.eq (evE ek en) (evE ek en)),!A.not (A.eq (upE ms ks rs l wn fl) (upE ms ks rs l wn fl)),decide (Zax ms ks rs=true∧List.length l≤1000000),decide (List.length ms≤1000000∧List.length ks≤1000000∧List.length rs≤1000000∧List.length l≤1000000)] (rB [!A.not true] (bB (A.not (A.eq (upE ms ks rs l wn fl) 0)) (rB [A.eq (upE ms ks rs l wn fl) (upE ms ks rs l wn fl)] (F (AV.bool (A.eq (if upE ms ks rs l wn fl=0 then stE ks rs l fl at0 mo dn ha ba to dw up else upE ms ks rs l wn fl) (upE ms ks rs l wn fl))) (none))) (rB [A.eq (upE ms ks rs l wn fl) 0] (rB [decide (upE ms ks rs l wn fl=0∧List.length dn≤1000000∧List.length dw≤1000000∧List.length up≤1000000)] (F (AV.bool (A.eq (if upE ms ks rs l wn fl=0 then stE ks rs l fl at0 mo dn ha ba to dw up else upE ms ks rs l wn fl) (stE ks rs l fl at0 mo dn ha ba to dw up))) (none))))))))))))
theorem ZHe{A:Ar}{K:KT}{F:FT}{M:MT}{ms ks rs l:List AV}{wn fl at0 mo:Int}{dn:List AV}{ha:Bool}{ba:Int}{to:Bool}{dw:List Int}{up:List AV}{ek en:Int} :ZaD A tab Bm 5 K F M (.run 13 (.fy (.run 8 (.tf (.ty (.ty (.ty (.run 2 (.ty (.run 5 (.fn))))))) (.fy (.fy (.fy (.run 2 (.tf (.run 5 (.fn)) (.run 24 (.alt [true,true] (.run 1 (.ty (.run 5 (.fn)))) (.alt [false,true] (.run 1 (.ty (.run 5 (.fn)))) (.alt [false,false] (.run 1 (.fy (.run 7 (.tf (.run 6 (.ty (.ty (.ty (.ty (.run 4 (.fn))))))) (.run 6 (.ty (.ty (.ty (.ty (.ty (.ty (.run 4 (.fn))))))))))))) (.no)))))))))))))) (f5e ms ks rs l wn fl at0 mo dn ha ba to dw up ek en) []=ZFv A K F ms ks rs l wn fl at0 mo dn ha ba to dw up ek en:=by kernel_rfl
end Go.Proofs.YtkeoeooghhjibaaGreatDoor
/- The law on states, walked. No condition. -/
namespace Go.Proofs.YtkeoeooghhjibaaGreatDoor
theorem Zm1(ms ks rs l:List AV)(wn fl at0 mo:Int)(dn:List AV)(ha:Bool)(ba:Int)(to:Bool)(dw:List Int)(up:List AV)(ek en:Int):Zan Tryz.prog 5 [.agg (.gen [.list (.big .str ms), .list (.big (.agg [.str, .int .i64]) ks), .list (.big (.agg [.str, .int .i64, .int .i64, .int .i64, .int .i64]) rs), .list (.big (.agg [.int .i64, .int .i64, .int .i64]) l), .int .i64 wn, .int .i64 fl]), .agg (.gen [.int .i64 at0, .int .i64 mo, .list (.big (.agg [.int .i64, .int .i64]) dn), .bool ha, .int .i64 ba, .bool to, .list (.ints .i64 dw), .list (.big (.agg [.int .i64, .bool]) up)]), .agg (.gen [.int .i64 ek, .int .i64 en])] (.bool true) none:=
 start (ZBJ ms ks rs l wn fl at0 mo dn ha ba to dw up ek en) fun C hC=>tgo hC ZDQ ZHe (by
  unfold ZFv
  by_cases hs:ZhR ms ks rs l=true
  ·have hs':=hs
   unfold ZhR at hs'
   simp only[Bool.and_eq_true,decide_eq_true_eq]at hs'
   obtain⟨h1,h2,h3,h4⟩:=Zpw hs'.1
   have g1:ms.length≤1000000:=by omega
   have g2:ks.length≤1000000:=by omega
   have g3:rs.length≤1000000:=by omega
   have g4:l.length≤1000000:=by omega
   by_cases hl:Zie dn dw up=true
   ·have hl':=hl
    unfold Zie at hl'
    simp only[decide_eq_true_eq]at hl'
    have g5:dn.length≤1000000:=by omega
    have g6:dw.length≤1000000:=by omega
    have g7:up.length≤1000000:=by omega
    by_cases h0:upE ms ks rs l wn fl=0<;>simp[hs,hl,h1,g1,g2,g3,g4,g5,g6,g7,h0]
   ·simp[hs,hl]
  ·simp[hs])
end Go.Proofs.YtkeoeooghhjibaaGreatDoor
