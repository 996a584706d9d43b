/- Contracts as a list. No condition. -/
import Derived.Test.YtkeoeooghhjibaaGreatDoorDm
import Derived.KernelRfl
namespace Go.Proofs.YtkeoeooghhjibaaGreatDoor
section
variable {C:Ctx}(hC:C.P=Tryz.prog)(ms ks rs l:zA)(wn fl:Int)(at0 mo:Int)(dn:zA)(ha:Bool)(ba:Int)(to:Bool)(dw:zI)(up:zA)(ek en:Int){V:AV}
include hC
theorem ZLg(n3 n6:Int)(l1:zI)(hl:up.length≤1000000)(e':Int)(hq:vE C (ZaX ms ks rs l wn fl at0 mo dn ha ba to dw up ek en l1 n3 n6 e' up.length up.length) (Zhe 40 V none)):∀(m k:Nat) (e:Int),k+m=up.length→e'=(if e=0 then upR n6 ha (up.drop k)else e)→vE C (ZaX ms ks rs l wn fl at0 mo dn ha ba to dw up ek en l1 n3 n6 e up.length k) (Zhe 40 V none)
 |0,k,e,hk,he'=>by
  obtain rfl:k=up.length:=by omega
  rw[List.drop_of_length_le (by omega)]at he'
  obtain rfl:e'=e:=by rw[he',upR];split<;>simp_all
  exact hq
 |m+1,k,e,hk,he'=>by
  have ih:=fun e=>ZLg n3 n6 l1 hl e' hq m (k+1) e (by omega)
  have hlt:(k:Int)<up.length:=by omega
  have hlt2:k<up.length:=by omega
  refine ZeE hC Za4 Za5 ?_
  rw[Zi6 hlt2]at he'
  unfold Zar
  simp only[bx3]
  have hr:(k:Int)+1≤9223372036854775807:=by omega
  generalize hqq:((up.getD k .top).cellAt 0).toI=q at*
  generalize hp:((up.getD k .top).cellAt 1).toB=p at*
  by_cases he:e=0
  ·subst he
   have i0:=ih 0
   have i2:=ih 2
   have i3:=ih 3
   by_cases h3:q=n6
   ·subst h3
    by_cases h1:Zab q 0 q=true<;>cases p<;>cases ha<;>
     simp[-List.getD_eq_getElem?_getD,hlt,hlt2,h1,hqq,hp,upR,Zae,Zaa]at he' i0 i2 i3⊢ <;>exact⟨by omega,by first |exact i0 he' |exact i2 he' |exact i3 he'⟩
   ·by_cases h1:Zab q 0 n6=true<;>cases p<;>cases ha<;>
     simp[-List.getD_eq_getElem?_getD,hlt,hlt2,h1,h3,hqq,hp,upR,Zae,Zaa]at he' i0 i2 i3⊢ <;>exact⟨by omega,by first |exact i0 he' |exact i2 he' |exact i3 he'⟩
  ·have i0:=ih e
   cases p<;>cases ha<;>
    simp[-List.getD_eq_getElem?_getD,hlt,hlt2,he,hqq,hp,Zae]at he' i0⊢ <;>exact⟨by omega,i0 he'⟩
theorem ZwJ(n3:Int)(l1:zI)(hl:up.length≤1000000∧dw.length≤1000000∧l.length≤1000000):∀(m k:Nat),k+m=dw.length→(∀e,e=(if Zny mo n3 ha dn.length l.length ba to=0 then ZbD l.length (dw.drop k)else Zny mo n3 ha dn.length l.length ba to)→vE C (ZaX ms ks rs l wn fl at0 mo dn ha ba to dw up ek en l1 n3 dn.length e up.length 0) (Zhe 40 V none))→vE C (Zio ms ks rs l wn fl at0 mo dn ha ba to dw up ek en l1 n3 dw.length dn.length dn.length k) (Zhe 40 V none)
 |0,k,hk,hq=>ZeE hC Za4 Zik (by
  obtain rfl:k=dw.length:=by omega
  rw[List.drop_of_length_le (by omega)]at hq
  unfold ZeZ
  simp only[ZHU]
  obtain⟨c,hc⟩:∃c,c=Zny mo n3 ha dn.length l.length ba to:=⟨_,rfl⟩
  have h1:=hq c (by rw[←hc,ZbD];split<;>simp_all)
  unfold Zny at hc
  by_cases g1:mo=n3
  ·subst g1
   by_cases g4:ba=dn.length
   ·subst g4
    by_cases g2:(dn.length:Int)<l.length<;>by_cases g3:Zab (dn.length:Int) 0 dn.length=true<;>cases ha<;>cases to<;>simp[g2,g3]at hc<;>subst hc<;>simp[-List.getD_eq_getElem?_getD,g2,g3,Zae,Zaa]<;>simpa[g2,g3]using h1
   ·by_cases g2:(dn.length:Int)<l.length<;>by_cases g3:Zab ba 0 dn.length=true<;>cases ha<;>cases to<;>simp[g2,g3,g4]at hc<;>subst hc<;>simp[-List.getD_eq_getElem?_getD,g2,g3,g4,Zae,Zaa]<;>simpa[g2,g3]using h1
  ·by_cases g4:ba=dn.length
   ·subst g4
    by_cases g2:(dn.length:Int)<l.length<;>by_cases g3:Zab (dn.length:Int) 0 dn.length=true<;>cases ha<;>cases to<;>simp[g2,g3,g1]at hc<;>subst hc<;>simp[-List.getD_eq_getElem?_getD,g2,g3,g1,Zae,Zaa]<;>simpa[g2,g3]using h1
   ·by_cases g2:(dn.length:Int)<l.length<;>by_cases g3:Zab ba 0 dn.length=true<;>cases ha<;>cases to<;>simp[g2,g3,g1,g4]at hc<;>subst hc<;>simp[-List.getD_eq_getElem?_getD,g2,g3,g1,g4,Zae,Zaa]<;>simpa[g2,g3]using h1)
 |m+1,k,hk,hq=>by
  have ih:=ZwJ n3 l1 hl m (k+1) (by omega)
  have hlt:(k:Int)<dw.length:=by omega
  have hlt2:k<dw.length:=by omega
  refine ZeE hC Za4 Zik ?_
  rw[Zrj hlt2]at hq
  unfold ZeZ
  simp only[ZHU]
  by_cases h1:Zab (dw.getD k 0) 0 ((l.length:Int)-1)=true
  ·simp[-List.getD_eq_getElem?_getD,hlt,hlt2,h1,ZbD]
   exact⟨by omega,by omega,by simpa using ih (fun e he=>hq e (by rw[he,ZbD,if_pos h1]))⟩
  ·obtain⟨c,hc⟩:∃c,c=Zny mo n3 ha dn.length l.length ba to:=⟨_,rfl⟩
   have h2:=hq (if c=0 then 6 else c) (by rw[←hc,ZbD,if_neg h1])
   unfold Zny at hc
   by_cases g1:mo=n3
   ·subst g1
    by_cases g4:ba=dn.length
    ·subst g4
     by_cases g2:(dn.length:Int)<l.length<;>by_cases g3:Zab (dn.length:Int) 0 dn.length=true<;>cases ha<;>cases to<;>simp[g2,g3]at hc<;>subst hc<;>simp[-List.getD_eq_getElem?_getD,g2,g3,Zae,Zaa,hlt,hlt2,h1,ZbD]<;>exact⟨by omega,by simpa[g2,g3]using h2⟩
    ·by_cases g2:(dn.length:Int)<l.length<;>by_cases g3:Zab ba 0 dn.length=true<;>cases ha<;>cases to<;>simp[g2,g3,g4]at hc<;>subst hc<;>simp[-List.getD_eq_getElem?_getD,g2,g3,g4,Zae,Zaa,hlt,hlt2,h1,ZbD]<;>exact⟨by omega,by simpa[g2,g3]using h2⟩
   ·by_cases g4:ba=dn.length
    ·subst g4
     by_cases g2:(dn.length:Int)<l.length<;>by_cases g3:Zab (dn.length:Int) 0 dn.length=true<;>cases ha<;>cases to<;>simp[g2,g3,g1]at hc<;>subst hc<;>simp[-List.getD_eq_getElem?_getD,g2,g3,g1,Zae,Zaa,hlt,hlt2,h1,ZbD]<;>exact⟨by omega,by simpa[g2,g3]using h2⟩
    ·by_cases g2:(dn.length:Int)<l.length<;>by_cases g3:Zab ba 0 dn.length=true<;>cases ha<;>cases to<;>simp[g2,g3,g1,g4]at hc<;>subst hc<;>simp[-List.getD_eq_getElem?_getD,g2,g3,g1,g4,Zae,Zaa,hlt,hlt2,h1,ZbD]<;>exact⟨by omega,by simpa[g2,g3]using h2⟩
theorem ZwO(hf:OkF ms ks rs l)(hl:dw.length≤1000000∧up.length≤1000000)(hd:dn.length≤l.length)(hat:at0≤1000000000000):∀m k:Nat,k+m=dn.length→OkT ks (m0T dn k) (m0L ks l dn k)→(Zbb rs ks l dn at0 m k=0→vE C (Zio ms ks rs l wn fl at0 mo dn ha ba to dw up ek en (m0L ks l dn dn.length) (m0A ks l dn.length) dw.length dn.length dn.length 0) (Zhe 40 V none))→(∀e,e≠0→Zbb rs ks l dn at0 m k=e→Wk (.tup [.agg (.gen [.int .i64 0, .int .i64 0, .nils, .bool false, .int .i64 0, .bool false, .nils, .nils]), .int .i64 e]) V)→
 vE C (ZbY ms ks rs l wn fl at0 mo dn ha ba to dw up ek en dn.length (m0L ks l dn k) k (m0A ks l k) (m0T dn k)) (Zhe 40 V none)
 |0,k,hk,_,hq,_=>ZeE hC Za4 ZjC (by
  obtain rfl:k=dn.length:=by omega
  have:=hq rfl
  simp[Zbe]
  simpa using this)
 |m+1,k,hk,hT,hq,he=>by
  have hlt:(k:Int)<dn.length:=by omega
  have hlt2:k<dn.length:=by omega
  have hlt3:k<l.length:=by omega
  have hll:=hf.l1
  have e0:((dn.getD k .top).cellAt 0).toI=Zaj dn k 0:=rfl
  have e1:((dn.getD k .top).cellAt 1).toI=Zaj dn k 1:=rfl
  have e2:((l.getD k .top).cellAt 0).toI=Zaj l k 0:=rfl
  have e3:((l.getD k .top).cellAt 1).toI=Zaj l k 1:=rfl
  have e4:((l.getD k .top).cellAt 2).toI=Zaj l k 2:=rfl
  have e5:((ks.getD (Zaj l k 0).toNat .top).cellAt 1).toI=Zaj ks (Zaj l k 0) 1:=rfl
  have hr1:(k:Int)+1≤9223372036854775807:=by omega
  obtain⟨ha1,ha2⟩:=(hf.act k hlt3).1
  have ha3:(Zaj l k 0).toNat<ks.length:=by omega
  have hlen:=hT.len
  refine ZeE hC Za4 ZjC ?_
  by_cases h1:Zaj dn k 0=k
  ·by_cases h2:Zaj dn k 1≤at0
   ·have h2n:¬at0<Zaj dn k 1:=by omega
    have e9:((dn.getD (k-1) .top).cellAt 1).toI=Zaj dn (k-1:Nat) 1:=rfl
    by_cases h3:0<k→Zaj dn (k-1:Nat) 1≤Zaj dn k 1
    ·have hd1:Zbb rs ks l dn at0 (m+1) k=if ZhL rs (m0A ks l k) (Zaj dn k 1) (m0L ks l dn k) (Zaj l k 0) (Zaj l k 1) (Zaj l k 2)=true then Zbb rs ks l dn at0 m (k+1)else 26:=by rw[Zbb,if_pos ⟨h1,h2,h3⟩]
     rw[hd1]at hq he
     have hg:Zab (Zaj dn k 1) (Zaj l k 1) (Zaj l k 2)=false∨Zbx rs (Zaj dn k 1) (m0L ks l dn k)=true:=by
      cases hw:Zab (Zaj dn k 1) (Zaj l k 1) (Zaj l k 2)
      ·exact .inl rfl
      ·exact .inr (okD hf dn hT hat h2 h3 hw hlt3).1
     by_cases h5:ZhL rs (m0A ks l k) (Zaj dn k 1) (m0L ks l dn k) (Zaj l k 0) (Zaj l k 1) (Zaj l k 2)=true
     ·have hw:Zab (Zaj dn k 1) (Zaj l k 1) (Zaj l k 2)=true:=by
       unfold ZhL at h5
       simp only[Bool.and_eq_true]at h5
       exact h5.1
      rw[if_pos h5]at hq he
      have ih:=ZwO hf hl hd hat m (k+1) (by omega) (okD hf dn hT hat h2 h3 hw hlt3).2 hq he
      rw[ZfT,Zfp]at ih
      have et:m0T dn (k+1)=Zaj dn k 1:=rfl
      rw[et]at ih
      unfold exM at ih
      by_cases h6:Zaj ks (Zaj l k 0) 1= -1
      ·rw[if_pos h6]at ih
       by_cases hk0:k=0
       ·have hk0:=eq_true hk0
        simp[-List.getD_eq_getElem?_getD,Zbe,Zae,AV.bx,Zac,hlt,hlt2,hlt3,e0,e1,e2,e3,e4,e5,h1,h2,h5,h6,hg,ha1,ha3,hlen,hk0]
        exact⟨by omega,by simpa using ih⟩
       ·have h3':=h3 (by omega)
        simp[-List.getD_eq_getElem?_getD,Zbe,Zae,AV.bx,Zac,hlt,hlt2,hlt3,e0,e1,e2,e3,e4,e5,e9,h1,h2,h3',h5,h6,hg,ha1,ha3,hlen,hk0]
        exact⟨by omega,by omega,by omega,by simpa using ih⟩
      ·rw[if_neg h6]at ih
       by_cases hk0:k=0
       ·have hk0:=eq_true hk0
        simp[-List.getD_eq_getElem?_getD,Zbe,Zae,AV.bx,Zac,hlt,hlt2,hlt3,e0,e1,e2,e3,e4,e5,h1,h2,h5,h6,hg,ha1,ha3,hlen,hk0]
        exact⟨by omega,by simpa using ih⟩
       ·have h3':=h3 (by omega)
        simp[-List.getD_eq_getElem?_getD,Zbe,Zae,AV.bx,Zac,hlt,hlt2,hlt3,e0,e1,e2,e3,e4,e5,e9,h1,h2,h3',h5,h6,hg,ha1,ha3,hlen,hk0]
        exact⟨by omega,by omega,by omega,by simpa using ih⟩
     ·rw[if_neg h5]at hq he
      by_cases hk0:k=0
      ·have hk0:=eq_true hk0
       simp[-List.getD_eq_getElem?_getD,Zbe,Zae,AV.bx,Zac,hlt,hlt2,hlt3,e0,e1,e2,e3,e4,e5,h1,h2,h5,hg,hk0]
       repeat refine⟨by omega,?_⟩
       exact he _ (by decide) rfl
      ·have h3':=h3 (by omega)
       simp[-List.getD_eq_getElem?_getD,Zbe,Zae,AV.bx,Zac,hlt,hlt2,hlt3,e0,e1,e2,e3,e4,e5,e9,h1,h2,h3',h5,hg,hk0]
       repeat refine⟨by omega,?_⟩
       exact he _ (by decide) rfl
    ·have hd1:Zbb rs ks l dn at0 (m+1) k=9:=by rw[Zbb,if_neg (fun h=>h3 h.2.2)]
     obtain⟨hk0,h3'⟩:¬k=0∧¬Zaj dn (k-1:Nat) 1≤Zaj dn k 1:=by
      by_cases hk0:0<k
      ·exact⟨by omega,fun h=>h3 fun _=>h⟩
      ·exact absurd (fun h=>absurd h hk0) h3
     rw[hd1]at hq he
     simp[-List.getD_eq_getElem?_getD,Zbe,Zae,AV.bx,Zac,hlt,hlt2,hlt3,e0,e1,e2,e3,e4,e5,e9,h1,h2,h3',hk0]
     repeat refine⟨by omega,?_⟩
     exact he _ (by decide) rfl
   ·have hd1:Zbb rs ks l dn at0 (m+1) k=9:=by rw[Zbb,if_neg (fun h=>h2 h.2.1)]
    rw[hd1]at hq he
    simp[-List.getD_eq_getElem?_getD,Zbe,Zae,AV.bx,Zac,hlt,hlt2,hlt3,e0,e1,e2,e3,e4,e5,h1,h2]
    repeat refine⟨by omega,?_⟩
    exact he _ (by decide) rfl
  ·have hd1:Zbb rs ks l dn at0 (m+1) k=9:=by rw[Zbb,if_neg (fun h=>h1 h.1)]
   rw[hd1]at hq he
   simp[-List.getD_eq_getElem?_getD,Zbe,Zae,AV.bx,Zac,hlt,hlt2,hlt3,e0,e1,e2,e3,e4,e5,h1]
   repeat refine⟨by omega,?_⟩
   exact he _ (by decide) rfl
end
def ZbN(ms ks rs l:zA)(wn fl:Int)(s:ST)(k n:Int):Int:=if upE ms ks rs l wn fl=0 then(if stE ks rs l fl s.t s.mo s.dn s.ha s.ba s.to s.dw s.up=0 then(if evE k n=0 then ZaT l wn fl s k n else evE k n)else stE ks rs l fl s.t s.mo s.dn s.ha s.ba s.to s.dw s.up)else upE ms ks rs l wn fl
def Zak(ms ks rs l:zA)(wn fl:Int)(s:ST)(k n:Int):ST:=if ZbN ms ks rs l wn fl s k n=0 then appS ks rs l fl s k n else st0
theorem Zl8{ms ks rs l:zA}{wn fl:Int}{s:ST}{k n e:Int}(h:ZbN ms ks rs l wn fl s k n=e)(he:e≠0):Wk (.tup [.agg (.gen [.int .i64 0, .int .i64 0, .nils, .bool false, .int .i64 0, .bool false, .nils, .nils]), .int .i64 e]) (Zhd (Zak ms ks rs l wn fl s k n) (ZbN ms ks rs l wn fl s k n)):=by
 unfold Zak
 rw[h,if_neg he]
 exact ZLV e
section
variable {C:Ctx}(hC:C.P=Tryz.prog)(ms ks rs l:zA)(wn fl:Int)(at0 mo:Int)(dn:zA)(ha:Bool)(ba:Int)(to:Bool)(dw:zI)(up:zA)(ek en:Int)
include hC
theorem ZIi(hu:upE ms ks rs l wn fl=0)(e:Int)(he:stE ks rs l fl at0 mo dn ha ba to dw up=e):vE C (ZaX ms ks rs l wn fl at0 mo dn ha ba to dw up ek en (m0L ks l dn dn.length) (m0A ks l dn.length) dn.length e up.length up.length) (Zhe 40 (Zhd (Zak ms ks rs l wn fl ⟨at0,mo,dn,ha,ba,to,dw,up⟩ ek en) (ZbN ms ks rs l wn fl ⟨at0,mo,dn,ha,ba,to,dw,up⟩ ek en)) none):=by
 have h0:¬(up.length:Int)<up.length:=by omega
 by_cases h1:e=0
 ·subst h1
  by_cases h2:evE ek en=0
  ·have hc:ZbN ms ks rs l wn fl ⟨at0,mo,dn,ha,ba,to,dw,up⟩ ek en=ZaT l wn fl ⟨at0,mo,dn,ha,ba,to,dw,up⟩ ek en:=by unfold ZbN;rw[if_pos hu,if_pos he,if_pos h2]
   have hs:Zak ms ks rs l wn fl ⟨at0,mo,dn,ha,ba,to,dw,up⟩ ek en=ZcM ks rs l wn fl ⟨at0,mo,dn,ha,ba,to,dw,up⟩ ek en:=by unfold Zak ZcM;rw[hc]
   rw[hc,hs]
   have hk:0≤ek∧ek≤8:=by
    have:=h2
    unfold evE at this
    split at this
    ·rename_i hw;exact within_iff.1 hw
    ·cases this
   rcases show ek=0∨ek=1∨ek=2∨ek=3∨ek=4∨ek=5∨ek=6∨ek=7∨ek=8 by omega with rfl |rfl |rfl |rfl |rfl |rfl |rfl |rfl |rfl
   ·exact ZJB hC ms ks rs l wn fl at0 mo dn ha ba to dw up en ⟨hu,he,h2⟩
   ·exact ZJJ hC ms ks rs l wn fl at0 mo dn ha ba to dw up en ⟨hu,he,h2⟩
   ·exact ZKA hC ms ks rs l wn fl at0 mo dn ha ba to dw up en ⟨hu,he,h2⟩
   ·exact ZKt hC ms ks rs l wn fl at0 mo dn ha ba to dw up en ⟨hu,he,h2⟩
   ·exact ZJv hC ms ks rs l wn fl at0 mo dn ha ba to dw up en ⟨hu,he,h2⟩
   ·exact ZI3 hC ms ks rs l wn fl at0 mo dn ha ba to dw up en ⟨hu,he,h2⟩
   ·exact ZJf hC ms ks rs l wn fl at0 mo dn ha ba to dw up en ⟨hu,he,h2⟩
   ·exact ZIP hC ms ks rs l wn fl at0 mo dn ha ba to dw up en ⟨hu,he,h2⟩
   ·exact ZJN hC ms ks rs l wn fl at0 mo dn ha ba to dw up en ⟨hu,he,h2⟩
  ·have hc:ZbN ms ks rs l wn fl ⟨at0,mo,dn,ha,ba,to,dw,up⟩ ek en=evE ek en:=by unfold ZbN;rw[if_pos hu,if_pos he,if_neg h2]
   have hr:=Zl8 hc h2
   refine ZeE hC Za4 Za5 ?_
   simp[Zar,h0,h2,Zae,AV.bx,Zac]
   repeat refine⟨by omega,?_⟩
   exact hr
 ·have hc:ZbN ms ks rs l wn fl ⟨at0,mo,dn,ha,ba,to,dw,up⟩ ek en=e:=by unfold ZbN;rw[if_pos hu];simp only[he,if_neg h1]
  have hr:=Zl8 hc h1
  refine ZeE hC Za4 Za5 ?_
  simp[Zar,h0,h1,Zae,AV.bx,Zac]
  repeat refine⟨by omega,?_⟩
  exact hr
end
theorem ZjL(ms ks rs l:zA)(wn fl:Int)(at0 mo:Int)(dn:zA)(ha:Bool)(ba:Int)(to:Bool)(dw:zI)(up:zA)(ek en:Int)(h:(ZaC ms ks rs=true∧l.length≤1000000)∧dn.length≤1000000∧dw.length≤1000000∧up.length≤1000000):Zan Tryz.prog 40 [vU ms ks rs l wn fl, (vS at0 mo dn ha ba to dw up), .agg (.gen [.int .i64 ek, .int .i64 en])] (Zhd (Zak ms ks rs l wn fl ⟨at0,mo,dn,ha,ba,to,dw,up⟩ ek en) (ZbN ms ks rs l wn fl ⟨at0,mo,dn,ha,ba,to,dw,up⟩ ek en)) none:=
 Zd4 (ZAl ms ks rs l wn fl at0 mo dn ha ba to dw up ek en) fun C hC=>ZeE hC Za4 ZKa (by
  by_cases h0:upE ms ks rs l wn fl=0
  ·obtain⟨hf,_,hfl⟩:=Zcr h0
   have hll:=hf.l1
   have hkk:=hf.ks1
   have hcs:∀e,e≠0→stE ks rs l fl at0 mo dn ha ba to dw up=e→ZbN ms ks rs l wn fl ⟨at0,mo,dn,ha,ba,to,dw,up⟩ ek en=e:=fun e he hs=>by unfold ZbN;rw[if_pos h0];simp only[hs,if_neg he]
   by_cases h1:Zab at0 0 1000000000000=true
   ·have h1':=within_iff.1 h1
    by_cases h2:dn.length≤l.length
    ·by_cases h3:(dw.length:Int)≤fl
     ·by_cases h4:(up.length:Int)≤fl
      ·have hst:stE ks rs l fl at0 mo dn ha ba to dw up=(if Zbb rs ks l dn at0 dn.length 0=0 then Zff ks l mo dn ha ba to dw up else Zbb rs ks l dn at0 dn.length 0):=by unfold stE;rw[if_pos h1,if_pos ⟨h2,h3,h4⟩]
       have:=ZwO hC ms ks rs l wn fl at0 mo dn ha ba to dw up ek en (V:=Zhd (Zak ms ks rs l wn fl ⟨at0,mo,dn,ha,ba,to,dw,up⟩ ek en) (ZbN ms ks rs l wn fl ⟨at0,mo,dn,ha,ba,to,dw,up⟩ ek en)) hf h.2.2 h2 h1'.2 dn.length 0 (by omega) (ZHT ks l dn) (fun hd=>by
        rw[if_pos hd]at hst
        refine ZwJ hC ms ks rs l wn fl at0 mo dn ha ba to dw up ek en _ _ ⟨h.2.2.2,h.2.2.1,by omega⟩ dw.length 0 (by omega) fun e he=>?_
        have hr:=Zou ks l mo dn ha ba to dw up h2
        rw[←hst]at hr
        refine ZLg hC ms ks rs l wn fl at0 mo dn ha ba to dw up ek en _ dn.length _ h.2.2.2 (stE ks rs l fl at0 mo dn ha ba to dw up) (ZIi hC ms ks rs l wn fl at0 mo dn ha ba to dw up ek en h0 _ rfl) up.length 0 e (by omega) ?_
        rw[←hr,he]
        simp only[List.drop_zero]
        split<;>simp_all) (fun e he hd=>Zl8 (hcs e he (by rw[hst,if_neg (by rw[hd];exact he),hd])) he)
       have e1:m0L ks l dn 0=List.replicate ks.length (-1):=rfl
       have e2:m0A ks l 0=0:=rfl
       have e3:m0T dn 0=0:=rfl
       rw[e1,e2,e3]at this
       simp[Znh,h,h0,h1,h2,h3,h4,Zae,Zaa,AV.bx,Zac]
       repeat refine⟨by omega,?_⟩
       simpa using this
      ·have hr:=Zl8 (hcs 8 (by decide) (by unfold stE;rw[if_pos h1,if_neg (fun hh=>h4 hh.2.2)])) (by decide)
       simp[Znh,h,h0,h1,h2,h3,h4,Zae,Zaa,AV.bx,Zac]
       repeat refine⟨by omega,?_⟩
       exact hr
     ·have hr:=Zl8 (hcs 8 (by decide) (by unfold stE;rw[if_pos h1,if_neg (fun hh=>h3 hh.2.1)])) (by decide)
      simp[Znh,h,h0,h1,h2,h3,Zae,Zaa,AV.bx,Zac]
      repeat refine⟨by omega,?_⟩
      exact hr
    ·have hr:=Zl8 (hcs 8 (by decide) (by unfold stE;rw[if_pos h1,if_neg (fun hh=>h2 hh.1)])) (by decide)
     simp[Znh,h,h0,h1,h2,Zae,Zaa,AV.bx,Zac]
     repeat refine⟨by omega,?_⟩
     exact hr
   ·have hr:=Zl8 (hcs 2 (by decide) (by unfold stE;rw[if_neg h1])) (by decide)
    by_cases h2:dn.length≤l.length<;>by_cases h3:(dw.length:Int)≤fl<;>by_cases h4:(up.length:Int)≤fl<;>simp[Znh,h,h0,h1,h2,h3,h4,Zae,Zaa,AV.bx,Zac]<;>(repeat refine⟨by omega,?_⟩)<;>exact hr
  ·have hr:=Zl8 (ms:=ms) (ks:=ks) (rs:=rs) (l:=l) (wn:=wn) (fl:=fl) (s:=⟨at0,mo,dn,ha,ba,to,dw,up⟩) (k:=ek) (n:=en) (by unfold ZbN;rw[if_neg h0]) h0
   simp[Znh,h,h0,Zae,AV.bx,Zac]
   repeat refine⟨by omega,?_⟩
   exact hr)
def k40:Ctr:=⟨40,0,fun _ a=>match a with |[.agg (.gen [.list (.big .str ms), .list (.big (.agg [.str, .int .i64]) ks), .list (.big (.agg [.str, .int .i64, .int .i64, .int .i64, .int .i64]) rs), .list (.big (.agg [.int .i64, .int .i64, .int .i64]) l), .int .i64 wn, .int .i64 fl]), .agg (.gen [.int .i64 at0, .int .i64 mo, .list (.big (.agg [.int .i64, .int .i64]) dn), .bool ha, .int .i64 ba, .bool to, .list (.ints .i64 dw), .list (.big (.agg [.int .i64, .bool]) up)]), .agg (.gen [.int .i64 ek, .int .i64 en])]=>some (decide ((ZaC ms ks rs=true∧l.length≤1000000)∧dn.length≤1000000∧dw.length≤1000000∧up.length≤1000000), .tup [.agg (.gen [.int .i64 (Zak ms ks rs l wn fl ⟨at0,mo,dn,ha,ba,to,dw,up⟩ ek en).t, .int .i64 (Zak ms ks rs l wn fl ⟨at0,mo,dn,ha,ba,to,dw,up⟩ ek en).mo, .list (.big (.agg [.int .i64, .int .i64]) (Zak ms ks rs l wn fl ⟨at0,mo,dn,ha,ba,to,dw,up⟩ ek en).dn), .bool (Zak ms ks rs l wn fl ⟨at0,mo,dn,ha,ba,to,dw,up⟩ ek en).ha, .int .i64 (Zak ms ks rs l wn fl ⟨at0,mo,dn,ha,ba,to,dw,up⟩ ek en).ba, .bool (Zak ms ks rs l wn fl ⟨at0,mo,dn,ha,ba,to,dw,up⟩ ek en).to, .list (.ints .i64 (Zak ms ks rs l wn fl ⟨at0,mo,dn,ha,ba,to,dw,up⟩ ek en).dw), .list (.big (.agg [.int .i64, .bool]) (Zak ms ks rs l wn fl ⟨at0,mo,dn,ha,ba,to,dw,up⟩ ek en).up)]), .int .i64 (ZbN ms ks rs l wn fl ⟨at0,mo,dn,ha,ba,to,dw,up⟩ ek en)],none) |_=>none⟩
theorem ZDW:k40.OK Tryz.prog:=fun pa args r fr h=>by
 simp only[k40]at h
 split at h
 ·simp only[zS,zP,decide_eq_true_eq]at h
  obtain⟨h0,rfl,rfl⟩:=h
  exact ZjL _ _ _ _ _ _ _ _ _ _ _ _ _ _ _ _ h0
 ·cases h
def Bt:List Ctr:=[k40]++Bs
theorem ZIZ:ZaF Tryz.prog Bt:=⟨ZDW,ZH6⟩
end Go.Proofs.YtkeoeooghhjibaaGreatDoor
namespace Go.Proofs.YtkeoeooghhjibaaGreatDoor
theorem ZtO(ms ks rs l:zA)(wn fl:Int)(at0 mo:Int)(ha:Bool)(ba:Int)(to:Bool)(ek en:Int)(h:ZaC ms ks rs=true∧l.length≤1000000):Zan Tryz.prog 40 [vU ms ks rs l wn fl, .agg (.gen [.int .i64 at0, .int .i64 mo, .nils, .bool ha, .int .i64 ba, .bool to, .nils, .nils]), .agg (.gen [.int .i64 ek, .int .i64 en])] (.tup [.agg (.gen [.int .i64 (Zak ms ks rs l wn fl ⟨at0,mo,[],ha,ba,to,[],[]⟩ ek en).t, .int .i64 (Zak ms ks rs l wn fl ⟨at0,mo,[],ha,ba,to,[],[]⟩ ek en).mo, .list (.big (.agg [.int .i64, .int .i64]) (Zak ms ks rs l wn fl ⟨at0,mo,[],ha,ba,to,[],[]⟩ ek en).dn), .bool (Zak ms ks rs l wn fl ⟨at0,mo,[],ha,ba,to,[],[]⟩ ek en).ha, .int .i64 (Zak ms ks rs l wn fl ⟨at0,mo,[],ha,ba,to,[],[]⟩ ek en).ba, .bool (Zak ms ks rs l wn fl ⟨at0,mo,[],ha,ba,to,[],[]⟩ ek en).to, .list (.ints .i64 (Zak ms ks rs l wn fl ⟨at0,mo,[],ha,ba,to,[],[]⟩ ek en).dw), .list (.big (.agg [.int .i64, .bool]) (Zak ms ks rs l wn fl ⟨at0,mo,[],ha,ba,to,[],[]⟩ ek en).up)]), .int .i64 (ZbN ms ks rs l wn fl ⟨at0,mo,[],ha,ba,to,[],[]⟩ ek en)]) none:=
 ZmC (ZjL ms ks rs l wn fl at0 mo [] ha ba to [] [] ek en ⟨h,by decide,by decide,by decide⟩) ⟨.same _,Wk.agg' ⟨.same _, .same _, .nil _ rfl, .same _, .same _, .same _, .nil _ rfl, .nil _ rfl,trivial⟩, .same _,trivial⟩
def k40z:Ctr:=⟨40,0,fun _ a=>match a with |[.agg (.gen [.list (.big .str ms), .list (.big (.agg [.str, .int .i64]) ks), .list (.big (.agg [.str, .int .i64, .int .i64, .int .i64, .int .i64]) rs), .list (.big (.agg [.int .i64, .int .i64, .int .i64]) l), .int .i64 wn, .int .i64 fl]), .agg (.gen [.int .i64 at0, .int .i64 mo, .nils, .bool ha, .int .i64 ba, .bool to, .nils, .nils]), .agg (.gen [.int .i64 ek, .int .i64 en])]=>some (decide (ZaC ms ks rs=true∧l.length≤1000000), .tup [.agg (.gen [.int .i64 (Zak ms ks rs l wn fl ⟨at0,mo,[],ha,ba,to,[],[]⟩ ek en).t, .int .i64 (Zak ms ks rs l wn fl ⟨at0,mo,[],ha,ba,to,[],[]⟩ ek en).mo, .list (.big (.agg [.int .i64, .int .i64]) (Zak ms ks rs l wn fl ⟨at0,mo,[],ha,ba,to,[],[]⟩ ek en).dn), .bool (Zak ms ks rs l wn fl ⟨at0,mo,[],ha,ba,to,[],[]⟩ ek en).ha, .int .i64 (Zak ms ks rs l wn fl ⟨at0,mo,[],ha,ba,to,[],[]⟩ ek en).ba, .bool (Zak ms ks rs l wn fl ⟨at0,mo,[],ha,ba,to,[],[]⟩ ek en).to, .list (.ints .i64 (Zak ms ks rs l wn fl ⟨at0,mo,[],ha,ba,to,[],[]⟩ ek en).dw), .list (.big (.agg [.int .i64, .bool]) (Zak ms ks rs l wn fl ⟨at0,mo,[],ha,ba,to,[],[]⟩ ek en).up)]), .int .i64 (ZbN ms ks rs l wn fl ⟨at0,mo,[],ha,ba,to,[],[]⟩ ek en)],none) |_=>none⟩
theorem ZyV:k40z.OK Tryz.prog:=fun pa args r fr h=>by
 simp only[k40z]at h
 split at h
 ·simp only[zS,zP,decide_eq_true_eq]at h
  obtain⟨h0,rfl,rfl⟩:=h
  exact ZtO _ _ _ _ _ _ _ _ _ _ _ _ _ h0
 ·cases h
def Bw:List Ctr:=[k40z]++Bt
theorem ZIJ:ZaF Tryz.prog Bw:=⟨ZyV,ZIZ⟩
end Go.Proofs.YtkeoeooghhjibaaGreatDoor
namespace Go.Proofs.YtkeoeooghhjibaaGreatDoor
abbrev ZLH(V:AV)(e:Int):Prop:=∃r'',Wk (.tup [.nils, .int .i64 e]) r''∧Frz none r'' V∧ZhH none=false
section
variable {C:Ctx}(hC:C.P=Tryz.prog)(ms ks rs l:zA)(wn fl:Int)(at0 mo:Int)(dn:zA)(ha:Bool)(ba:Int)(to:Bool)(dw:zI)(up:zA){V:AV}
include hC
theorem ZLz(n3 n6:Int)(l1:zI)(hl:up.length≤1000000)(e':Int)(hq:vE C (ZaW ms ks rs l wn fl at0 mo dn ha ba to dw up l1 n3 n6 e' up.length up.length) (Zh2 46 V)):∀(m k:Nat) (e:Int),k+m=up.length→e'=(if e=0 then upR n6 ha (up.drop k)else e)→vE C (ZaW ms ks rs l wn fl at0 mo dn ha ba to dw up l1 n3 n6 e up.length k) (Zh2 46 V)
 |0,k,e,hk,he'=>by
  obtain rfl:k=up.length:=by omega
  rw[List.drop_of_length_le (by omega)]at he'
  obtain rfl:e'=e:=by rw[he',upR];split<;>simp_all
  exact hq
 |m+1,k,e,hk,he'=>by
  have ih:=fun e=>ZLz n3 n6 l1 hl e' hq m (k+1) e (by omega)
  have hlt:(k:Int)<up.length:=by omega
  have hlt2:k<up.length:=by omega
  refine Zho hC Za4 ZgP ?_
  rw[Zi6 hlt2]at he'
  unfold ZeB
  simp only[bx3]
  have hr:(k:Int)+1≤9223372036854775807:=by omega
  generalize hqq:((up.getD k .top).cellAt 0).toI=q at*
  generalize hp:((up.getD k .top).cellAt 1).toB=p at*
  by_cases he:e=0
  ·subst he
   have i0:=ih 0
   have i2:=ih 2
   have i3:=ih 3
   by_cases h3:q=n6
   ·subst h3
    by_cases h1:Zab q 0 q=true<;>cases p<;>cases ha<;>
     simp[-List.getD_eq_getElem?_getD,hlt,hlt2,h1,hqq,hp,upR,Zae,Zaa]at he' i0 i2 i3⊢ <;>exact⟨by omega,by first |exact i0 he' |exact i2 he' |exact i3 he'⟩
   ·by_cases h1:Zab q 0 n6=true<;>cases p<;>cases ha<;>
     simp[-List.getD_eq_getElem?_getD,hlt,hlt2,h1,h3,hqq,hp,upR,Zae,Zaa]at he' i0 i2 i3⊢ <;>exact⟨by omega,by first |exact i0 he' |exact i2 he' |exact i3 he'⟩
  ·have i0:=ih e
   cases p<;>cases ha<;>
    simp[-List.getD_eq_getElem?_getD,hlt,hlt2,he,hqq,hp,Zae]at he' i0⊢ <;>exact⟨by omega,i0 he'⟩
theorem ZwA(n3:Int)(l1:zI)(hl:up.length≤1000000∧dw.length≤1000000∧l.length≤1000000):∀(m k:Nat),k+m=dw.length→(∀e,e=(if Zny mo n3 ha dn.length l.length ba to=0 then ZbD l.length (dw.drop k)else Zny mo n3 ha dn.length l.length ba to)→vE C (ZaW ms ks rs l wn fl at0 mo dn ha ba to dw up l1 n3 dn.length e up.length 0) (Zh2 46 V))→vE C (Zh5 ms ks rs l wn fl at0 mo dn ha ba to dw up l1 n3 dw.length dn.length dn.length k) (Zh2 46 V)
 |0,k,hk,hq=>Zho hC Za4 Zij (by
  obtain rfl:k=dw.length:=by omega
  rw[List.drop_of_length_le (by omega)]at hq
  unfold Ze8
  simp only[ZHU]
  obtain⟨c,hc⟩:∃c,c=Zny mo n3 ha dn.length l.length ba to:=⟨_,rfl⟩
  have h1:=hq c (by rw[←hc,ZbD];split<;>simp_all)
  unfold Zny at hc
  by_cases g1:mo=n3
  ·subst g1
   by_cases g4:ba=dn.length
   ·subst g4
    by_cases g2:(dn.length:Int)<l.length<;>by_cases g3:Zab (dn.length:Int) 0 dn.length=true<;>cases ha<;>cases to<;>simp[g2,g3]at hc<;>subst hc<;>simp[-List.getD_eq_getElem?_getD,g2,g3,Zae,Zaa]<;>simpa[g2,g3]using h1
   ·by_cases g2:(dn.length:Int)<l.length<;>by_cases g3:Zab ba 0 dn.length=true<;>cases ha<;>cases to<;>simp[g2,g3,g4]at hc<;>subst hc<;>simp[-List.getD_eq_getElem?_getD,g2,g3,g4,Zae,Zaa]<;>simpa[g2,g3]using h1
  ·by_cases g4:ba=dn.length
   ·subst g4
    by_cases g2:(dn.length:Int)<l.length<;>by_cases g3:Zab (dn.length:Int) 0 dn.length=true<;>cases ha<;>cases to<;>simp[g2,g3,g1]at hc<;>subst hc<;>simp[-List.getD_eq_getElem?_getD,g2,g3,g1,Zae,Zaa]<;>simpa[g2,g3]using h1
   ·by_cases g2:(dn.length:Int)<l.length<;>by_cases g3:Zab ba 0 dn.length=true<;>cases ha<;>cases to<;>simp[g2,g3,g1,g4]at hc<;>subst hc<;>simp[-List.getD_eq_getElem?_getD,g2,g3,g1,g4,Zae,Zaa]<;>simpa[g2,g3]using h1)
 |m+1,k,hk,hq=>by
  have ih:=ZwA n3 l1 hl m (k+1) (by omega)
  have hlt:(k:Int)<dw.length:=by omega
  have hlt2:k<dw.length:=by omega
  refine Zho hC Za4 Zij ?_
  rw[Zrj hlt2]at hq
  unfold Ze8
  simp only[ZHU]
  by_cases h1:Zab (dw.getD k 0) 0 ((l.length:Int)-1)=true
  ·simp[-List.getD_eq_getElem?_getD,hlt,hlt2,h1,ZbD]
   exact⟨by omega,by omega,by simpa using ih (fun e he=>hq e (by rw[he,ZbD,if_pos h1]))⟩
  ·obtain⟨c,hc⟩:∃c,c=Zny mo n3 ha dn.length l.length ba to:=⟨_,rfl⟩
   have h2:=hq (if c=0 then 6 else c) (by rw[←hc,ZbD,if_neg h1])
   unfold Zny at hc
   by_cases g1:mo=n3
   ·subst g1
    by_cases g4:ba=dn.length
    ·subst g4
     by_cases g2:(dn.length:Int)<l.length<;>by_cases g3:Zab (dn.length:Int) 0 dn.length=true<;>cases ha<;>cases to<;>simp[g2,g3]at hc<;>subst hc<;>simp[-List.getD_eq_getElem?_getD,g2,g3,Zae,Zaa,hlt,hlt2,h1,ZbD]<;>exact⟨by omega,by simpa[g2,g3]using h2⟩
    ·by_cases g2:(dn.length:Int)<l.length<;>by_cases g3:Zab ba 0 dn.length=true<;>cases ha<;>cases to<;>simp[g2,g3,g4]at hc<;>subst hc<;>simp[-List.getD_eq_getElem?_getD,g2,g3,g4,Zae,Zaa,hlt,hlt2,h1,ZbD]<;>exact⟨by omega,by simpa[g2,g3]using h2⟩
   ·by_cases g4:ba=dn.length
    ·subst g4
     by_cases g2:(dn.length:Int)<l.length<;>by_cases g3:Zab (dn.length:Int) 0 dn.length=true<;>cases ha<;>cases to<;>simp[g2,g3,g1]at hc<;>subst hc<;>simp[-List.getD_eq_getElem?_getD,g2,g3,g1,Zae,Zaa,hlt,hlt2,h1,ZbD]<;>exact⟨by omega,by simpa[g2,g3]using h2⟩
    ·by_cases g2:(dn.length:Int)<l.length<;>by_cases g3:Zab ba 0 dn.length=true<;>cases ha<;>cases to<;>simp[g2,g3,g1,g4]at hc<;>subst hc<;>simp[-List.getD_eq_getElem?_getD,g2,g3,g1,g4,Zae,Zaa,hlt,hlt2,h1,ZbD]<;>exact⟨by omega,by simpa[g2,g3]using h2⟩
theorem ZwP(hf:OkF ms ks rs l)(hl:dw.length≤1000000∧up.length≤1000000)(hd:dn.length≤l.length)(hat:at0≤1000000000000):∀m k:Nat,k+m=dn.length→OkT ks (m0T dn k) (m0L ks l dn k)→(Zbb rs ks l dn at0 m k=0→vE C (Zh5 ms ks rs l wn fl at0 mo dn ha ba to dw up (m0L ks l dn dn.length) (m0A ks l dn.length) dw.length dn.length dn.length 0) (Zh2 46 V))→(∀e,e≠0→Zbb rs ks l dn at0 m k=e→ZLH V e)→
 vE C (ZbZ ms ks rs l wn fl at0 mo dn ha ba to dw up dn.length (m0L ks l dn k) k (m0A ks l k) (m0T dn k)) (Zh2 46 V)
 |0,k,hk,_,hq,_=>Zho hC Za4 ZkG (by
  obtain rfl:k=dn.length:=by omega
  have:=hq rfl
  simp[Zbf]
  simpa using this)
 |m+1,k,hk,hT,hq,he=>by
  have hlt:(k:Int)<dn.length:=by omega
  have hlt2:k<dn.length:=by omega
  have hlt3:k<l.length:=by omega
  have hll:=hf.l1
  have e0:((dn.getD k .top).cellAt 0).toI=Zaj dn k 0:=rfl
  have e1:((dn.getD k .top).cellAt 1).toI=Zaj dn k 1:=rfl
  have e2:((l.getD k .top).cellAt 0).toI=Zaj l k 0:=rfl
  have e3:((l.getD k .top).cellAt 1).toI=Zaj l k 1:=rfl
  have e4:((l.getD k .top).cellAt 2).toI=Zaj l k 2:=rfl
  have e5:((ks.getD (Zaj l k 0).toNat .top).cellAt 1).toI=Zaj ks (Zaj l k 0) 1:=rfl
  have hr1:(k:Int)+1≤9223372036854775807:=by omega
  obtain⟨ha1,ha2⟩:=(hf.act k hlt3).1
  have ha3:(Zaj l k 0).toNat<ks.length:=by omega
  have hlen:=hT.len
  refine Zho hC Za4 ZkG ?_
  by_cases h1:Zaj dn k 0=k
  ·by_cases h2:Zaj dn k 1≤at0
   ·have h2n:¬at0<Zaj dn k 1:=by omega
    have e9:((dn.getD (k-1) .top).cellAt 1).toI=Zaj dn (k-1:Nat) 1:=rfl
    by_cases h3:0<k→Zaj dn (k-1:Nat) 1≤Zaj dn k 1
    ·have hd1:Zbb rs ks l dn at0 (m+1) k=if ZhL rs (m0A ks l k) (Zaj dn k 1) (m0L ks l dn k) (Zaj l k 0) (Zaj l k 1) (Zaj l k 2)=true then Zbb rs ks l dn at0 m (k+1)else 26:=by rw[Zbb,if_pos ⟨h1,h2,h3⟩]
     rw[hd1]at hq he
     have hg:Zab (Zaj dn k 1) (Zaj l k 1) (Zaj l k 2)=false∨Zbx rs (Zaj dn k 1) (m0L ks l dn k)=true:=by
      cases hw:Zab (Zaj dn k 1) (Zaj l k 1) (Zaj l k 2)
      ·exact .inl rfl
      ·exact .inr (okD hf dn hT hat h2 h3 hw hlt3).1
     by_cases h5:ZhL rs (m0A ks l k) (Zaj dn k 1) (m0L ks l dn k) (Zaj l k 0) (Zaj l k 1) (Zaj l k 2)=true
     ·have hw:Zab (Zaj dn k 1) (Zaj l k 1) (Zaj l k 2)=true:=by
       unfold ZhL at h5
       simp only[Bool.and_eq_true]at h5
       exact h5.1
      rw[if_pos h5]at hq he
      have ih:=ZwP hf hl hd hat m (k+1) (by omega) (okD hf dn hT hat h2 h3 hw hlt3).2 hq he
      rw[ZfT,Zfp]at ih
      have et:m0T dn (k+1)=Zaj dn k 1:=rfl
      rw[et]at ih
      unfold exM at ih
      by_cases h6:Zaj ks (Zaj l k 0) 1= -1
      ·rw[if_pos h6]at ih
       by_cases hk0:k=0
       ·have hk0:=eq_true hk0
        simp[-List.getD_eq_getElem?_getD,Zbf,Zae,AV.bx,Zac,hlt,hlt2,hlt3,e0,e1,e2,e3,e4,e5,h1,h2,h5,h6,hg,ha1,ha3,hlen,hk0]
        exact⟨by omega,by simpa using ih⟩
       ·have h3':=h3 (by omega)
        simp[-List.getD_eq_getElem?_getD,Zbf,Zae,AV.bx,Zac,hlt,hlt2,hlt3,e0,e1,e2,e3,e4,e5,e9,h1,h2,h3',h5,h6,hg,ha1,ha3,hlen,hk0]
        exact⟨by omega,by omega,by omega,by simpa using ih⟩
      ·rw[if_neg h6]at ih
       by_cases hk0:k=0
       ·have hk0:=eq_true hk0
        simp[-List.getD_eq_getElem?_getD,Zbf,Zae,AV.bx,Zac,hlt,hlt2,hlt3,e0,e1,e2,e3,e4,e5,h1,h2,h5,h6,hg,ha1,ha3,hlen,hk0]
        exact⟨by omega,by simpa using ih⟩
       ·have h3':=h3 (by omega)
        simp[-List.getD_eq_getElem?_getD,Zbf,Zae,AV.bx,Zac,hlt,hlt2,hlt3,e0,e1,e2,e3,e4,e5,e9,h1,h2,h3',h5,h6,hg,ha1,ha3,hlen,hk0]
        exact⟨by omega,by omega,by omega,by simpa using ih⟩
     ·rw[if_neg h5]at hq he
      by_cases hk0:k=0
      ·have hk0:=eq_true hk0
       simp[-List.getD_eq_getElem?_getD,Zbf,Zae,AV.bx,Zac,hlt,hlt2,hlt3,e0,e1,e2,e3,e4,e5,h1,h2,h5,hg,hk0]
       repeat (first |exact he _ (by decide) rfl |refine⟨by omega,?_⟩)
      ·have h3':=h3 (by omega)
       simp[-List.getD_eq_getElem?_getD,Zbf,Zae,AV.bx,Zac,hlt,hlt2,hlt3,e0,e1,e2,e3,e4,e5,e9,h1,h2,h3',h5,hg,hk0]
       repeat (first |exact he _ (by decide) rfl |refine⟨by omega,?_⟩)
    ·have hd1:Zbb rs ks l dn at0 (m+1) k=9:=by rw[Zbb,if_neg (fun h=>h3 h.2.2)]
     obtain⟨hk0,h3'⟩:¬k=0∧¬Zaj dn (k-1:Nat) 1≤Zaj dn k 1:=by
      by_cases hk0:0<k
      ·exact⟨by omega,fun h=>h3 fun _=>h⟩
      ·exact absurd (fun h=>absurd h hk0) h3
     rw[hd1]at hq he
     simp[-List.getD_eq_getElem?_getD,Zbf,Zae,AV.bx,Zac,hlt,hlt2,hlt3,e0,e1,e2,e3,e4,e5,e9,h1,h2,h3',hk0]
     repeat (first |exact he _ (by decide) rfl |refine⟨by omega,?_⟩)
   ·have hd1:Zbb rs ks l dn at0 (m+1) k=9:=by rw[Zbb,if_neg (fun h=>h2 h.2.1)]
    rw[hd1]at hq he
    simp[-List.getD_eq_getElem?_getD,Zbf,Zae,AV.bx,Zac,hlt,hlt2,hlt3,e0,e1,e2,e3,e4,e5,h1,h2]
    repeat (first |exact he _ (by decide) rfl |refine⟨by omega,?_⟩)
  ·have hd1:Zbb rs ks l dn at0 (m+1) k=9:=by rw[Zbb,if_neg (fun h=>h1 h.1)]
   rw[hd1]at hq he
   simp[-List.getD_eq_getElem?_getD,Zbf,Zae,AV.bx,Zac,hlt,hlt2,hlt3,e0,e1,e2,e3,e4,e5,h1]
   repeat (first |exact he _ (by decide) rfl |refine⟨by omega,?_⟩)
end
def Zcq(ms ks rs l:zA)(wn fl:Int)(s:ST):Int:=if upE ms ks rs l wn fl=0 then stE ks rs l fl s.t s.mo s.dn s.ha s.ba s.to s.dw s.up else upE ms ks rs l wn fl
@[irreducible] def posQ (l:zA) (wn fl:Int) (s:ST) (c:Int):zA:=if c=0 then ZBG l wn fl s else []
abbrev ZBx(l:zA)(wn fl:Int)(s:ST)(c:Int):AV:=.tup [.list (.big (.agg [.int .i64, .int .i64]) (posQ l wn fl s c)), .int .i64 c]
theorem Znb{ms ks rs l:zA}{wn fl:Int}{s:ST}{e:Int}(h:Zcq ms ks rs l wn fl s=e)(he:e≠0):ZLH (ZBx l wn fl s (Zcq ms ks rs l wn fl s)) e:=by
 have:posQ l wn fl s (Zcq ms ks rs l wn fl s)=[]:=by unfold posQ;rw[h,if_neg he]
 unfold ZBx
 rw[this,h]
 exact⟨_, .same _, .tup ⟨.nil _ rfl, .same _ rfl rfl,trivial⟩,rfl⟩
def evM(k:Int):Nat→Nat→zA
 |0,_=>[]
 |m+1,n=>evV k n::evM k m (n+1)
theorem ZoE(l:zA)(wn fl:Int)(s:ST):∀a b:zA,ZeN l wn fl s (a++b)=ZeN l wn fl s a++ZeN l wn fl s b
 |[],_=>rfl
 |x::a,b=>by
  rw[List.cons_append,ZeN,ZeN,ZoE l wn fl s a b]
  split<;>rfl
theorem ZJb(k n:Int):((evV k n).cellAt 0).toI=k:=rfl
theorem ZJt(k n:Int):((evV k n).cellAt 1).toI=n:=rfl
theorem ZfU(l:zA)(wn fl:Int)(s:ST)(k n:Int)(b:zA):ZeN l wn fl s (evV k n::b)=(if ZaT l wn fl s k n=0 then [evV k n]else [])++ZeN l wn fl s b:=by
 rw[ZeN,ZJb,ZJt]
 split<;>rfl
theorem Zmj(l:zA)(wn fl:Int)(s:ST)(k:Int):∀m n:Nat,(∀j:Nat,n≤j→evE k j=0→¬ZaT l wn fl s k j=0)→ZeN l wn fl s (evN k m n)=[]
 |0,_,_=>rfl
 |m+1,n,h=>by
  have ih:=Zmj l wn fl s k m (n+1) (fun j hj=>h j (by omega))
  rw[evN]
  split
  ·rename_i he
   rw[ZfU,if_neg (h n (Nat.le_refl _) he),ih];rfl
  ·exact ih
theorem ZlV(l:zA)(wn fl:Int)(s:ST)(k:Int):∀c n m:Nat,(∀j:Nat,n≤j→j<n+c→evE k j=0)→(∀j:Nat,n+c≤j→evE k j=0→¬ZaT l wn fl s k j=0)→ZeN l wn fl s (evN k (c+m) n)=ZeN l wn fl s (evM k c n)
 |0,n,m,_,h=>by
  rw[Nat.zero_add,Zmj l wn fl s k m n h];rfl
 |c+1,n,m,h1,h2=>by
  have ih:=ZlV l wn fl s k c (n+1) m (fun j hj hl=>h1 j (by omega) (by omega)) (fun j hj=>h2 j (by omega))
  rw[show c+1+m=(c+m)+1 by omega,evN,if_pos (h1 n (Nat.le_refl _) (by omega)),evM,ZfU,ZfU,ih]
section
variable {C:Ctx}(hC:C.P=Tryz.prog)(ms ks rs l:zA)(wn fl:Int)(at0 mo:Int)(dn:zA)(ha:Bool)(ba:Int)(to:Bool)(dw:zI)(up:zA){V:AV}(hu:upE ms ks rs l wn fl=0)(hs:stE ks rs l fl at0 mo dn ha ba to dw up=0)
include hC hu hs
theorem ZOI(k:Nat)(en:Int)(hk:1≤k∧k≤8)(hn0:0≤en)(he:evE k en=0)(ms1:Int)(x:zA)(hx:x.length≤1000)(next:vE C (Zap ms ks rs l wn fl at0 mo dn ha ba to dw up (m0L ks l dn dn.length) (m0A ks l dn.length) 0 false false k ms1 k (en+1) (x++if ZaT l wn fl ⟨at0,mo,dn,ha,ba,to,dw,up⟩ k en=0 then [evV k en]else [])) (Zh2 46 V))(b:Bool):
 vE C (Zub ms ks rs l wn fl at0 mo dn ha ba to dw up (m0L ks l dn dn.length) (m0A ks l dn.length) 0 false false k ms1 k en x b) (Zh2 46 V):=by
 have hO:OkA ms ks rs l wn fl ⟨at0,mo,dn,ha,ba,to,dw,up⟩ k en:=⟨hu,hs,he⟩
 obtain⟨g0,g1,g2,g3,g4,g5,g6,g7⟩:=Zdi hO
 have hn:en≤11:=by
  rcases show k=1∨(2≤k∧k≤6)∨7≤k by omega with rfl |h |h
  ·unfold evE at he
   have:=within_iff.1 (ZaE he (by decide))
   omega
  ·have:=ZrG (k:=k) (n:=en) (by omega) he
   omega
  ·unfold evE at he
   rw[if_pos (within_iff.2 (by omega)),if_neg (by omega),if_neg (by omega),if_neg (fun q=>by have:=within_iff.1 q;omega)]at he
   have:=of_decide_eq_true (ZaE he (by decide))
   omega
 have ne:¬en=en+1:=by omega
 refine Zho hC Za4 Zul ?_
 unfold evV at next
 rcases show k=1∨k=2∨k=3∨k=4∨k=5∨k=6∨k=7∨k=8 by omega with rfl |rfl |rfl |rfl |rfl |rfl |rfl |rfl
 ·by_cases h1:en<l.length<;>by_cases h2:to=true<;>by_cases h3:Zab en ba (ba+wn-1)=true<;>by_cases h4:(dw.length:Int)<fl<;>simp[-List.getD_eq_getElem?_getD,Za0,ZaT,Zae,Zaa,AV.bx,Zac,ZbU,Zfm,h1,h2,h3,h4]at next⊢ <;>(repeat refine⟨by omega,?_⟩)<;>exact next
 ·obtain⟨hf,_,_⟩:=Zcr hu
  have hvs:=vs_iff.1 hO.s
  by_cases h1:(dw.length:Int)≤en
  ·simp[-List.getD_eq_getElem?_getD,Za0,ZaT,Zae,Zaa,AV.bx,Zac,ZbU,Zfm,h1,show ¬en<(dw.length:Int) by omega]at next⊢
   (repeat refine⟨by omega,?_⟩)
   exact next
  ·obtain⟨c1,c2⟩:=Zo6 dw en hn0 (by omega)
   have hmem:=hvs.down _ (ZdB (d:=0) c2)
   have hlt:en<(dw.length:Int):=by omega
   have j1:=Zpb hn0 hlt (by omega)
   have j2:=ZoN hn0 hlt (by omega)
   have j3:=ZtG hn0 hlt
   generalize hact:dw.getD en.toNat 0=act at*
   have h5:(up.length:Int)<fl∨¬(up.length:Int)<fl:=Decidable.em _
   cases ha
   ·by_cases h4:act=(dn.length:Int)
    ·have hdl:dn.length<l.length:=by omega
     have h4':(act=(dn.length:Int))=True:=eq_true h4
     have m1:act.toNat=dn.length:=by omega
     have e2:∀i,((l.getD dn.length .top).cellAt i).toI=Zaj l dn.length i:=fun i=>rfl
     have e5:((ks.getD (Zaj l dn.length 0).toNat .top).cellAt 1).toI=Zaj ks (Zaj l dn.length 0) 1:=rfl
     have hk8:=hf.ks1
     have hlm:=ZiM ks l dn dn.length
     obtain⟨⟨a1,a2⟩,_⟩:=hf.act dn.length hdl
     have hT:=ZoO hf hvs dn.length (Nat.le_refl _)
     have hg:Zab at0 (Zaj l dn.length 1) (Zaj l dn.length 2)=false∨Zbx rs at0 (m0L ks l dn dn.length)=true:=by
      cases hw:Zab at0 (Zaj l dn.length 1) (Zaj l dn.length 2)
      ·exact .inl rfl
      ·exact .inr (hT.forb (ms:=ms) (l:=l) hf (Zr3 hvs) hvs.t.2)
     by_cases hn:ZhL rs (m0A ks l dn.length) at0 (m0L ks l dn dn.length) (Zaj l dn.length 0) (Zaj l dn.length 1) (Zaj l dn.length 2)=true
     ·by_cases h6:Zaj ks (Zaj l dn.length 0) 1= -1<;>rcases h5 with h5 |h5<;>simp[-List.getD_eq_getElem?_getD,Za0,ZaT,Zae,Zaa,AV.bx,Zac,ZbU,Zfm,h1,hlt,c1,c2,hact,j1,j2,j3,ne,h4',m1,e2,e5,hg,hn,h6,a1,a2,hlm,h5]at next⊢ <;>(repeat refine⟨by omega,?_⟩)<;>exact next
     ·rcases h5 with h5 |h5<;>simp[-List.getD_eq_getElem?_getD,Za0,ZaT,Zae,Zaa,AV.bx,Zac,ZbU,Zfm,h1,hlt,c1,c2,hact,j1,j2,j3,ne,h4',m1,e2,hg,hn,h5]at next⊢ <;>(repeat refine⟨by omega,?_⟩)<;>exact next
    ·rcases h5 with h5 |h5<;>simp[-List.getD_eq_getElem?_getD,Za0,ZaT,Zae,Zaa,AV.bx,Zac,ZbU,Zfm,h1,hlt,c1,c2,hact,j1,j2,j3,ne,h4,h5]at next⊢ <;>(repeat refine⟨by omega,?_⟩)<;>exact next
   ·rcases h5 with h5 |h5<;>simp[-List.getD_eq_getElem?_getD,Za0,ZaT,Zae,Zaa,AV.bx,Zac,ZbU,Zfm,h1,hlt,c1,c2,hact,j1,j2,j3,ne,h5]at next⊢ <;>(repeat refine⟨by omega,?_⟩)<;>exact next
 ·by_cases h1:(up.length:Int)≤en
  ·simp[-List.getD_eq_getElem?_getD,Za0,ZaT,Zae,Zaa,AV.bx,Zac,ZbU,Zfm,h1,show ¬en<(up.length:Int) by omega]at next⊢
   (repeat refine⟨by omega,?_⟩)
   exact next
  ·obtain⟨c1,c2⟩:=Zo6 up en hn0 (by omega)
   have hlt:en<(up.length:Int):=by omega
   have j1:=Zo5 hn0 hlt (by omega)
   have j2:=Zoh hn0 hlt (by omega)
   have j3:=Zur hn0 hlt
   cases to<;>simp[-List.getD_eq_getElem?_getD,Za0,ZaT,Zae,Zaa,AV.bx,Zac,ZbU,Zfm,h1,hlt,c1,c2,j1,j2,j3,ne]at next⊢ <;>(repeat refine⟨by omega,?_⟩)<;>exact next
 ·by_cases h1:(dw.length:Int)≤en
  ·simp[-List.getD_eq_getElem?_getD,Za0,ZaT,Zae,Zaa,AV.bx,Zac,ZbU,Zfm,h1,show ¬en<(dw.length:Int) by omega]at next⊢
   (repeat refine⟨by omega,?_⟩)
   exact next
  ·obtain⟨c1,c2⟩:=Zo6 dw en hn0 (by omega)
   have hlt:en<(dw.length:Int):=by omega
   have j1:=Zpb hn0 hlt (by omega)
   have j2:=ZoN hn0 hlt (by omega)
   have j3:=ZtG hn0 hlt
   simp[-List.getD_eq_getElem?_getD,Za0,ZaT,Zae,Zaa,AV.bx,Zac,ZbU,Zfm,h1,hlt,c1,c2,j1,j2,j3,ne]at next⊢
   (repeat refine⟨by omega,?_⟩)
   exact next
 ·by_cases h1:(up.length:Int)≤en
  ·simp[-List.getD_eq_getElem?_getD,Za0,ZaT,Zae,Zaa,AV.bx,Zac,ZbU,Zfm,h1,show ¬en<(up.length:Int) by omega]at next⊢
   (repeat refine⟨by omega,?_⟩)
   exact next
  ·obtain⟨c1,c2⟩:=Zo6 up en hn0 (by omega)
   have hlt:en<(up.length:Int):=by omega
   have j1:=Zo5 hn0 hlt (by omega)
   have j2:=Zoh hn0 hlt (by omega)
   have j3:=Zur hn0 hlt
   simp[-List.getD_eq_getElem?_getD,Za0,ZaT,Zae,Zaa,AV.bx,Zac,ZbU,Zfm,h1,hlt,c1,c2,j1,j2,j3,ne]at next⊢
   (repeat refine⟨by omega,?_⟩)
   exact next
 ·by_cases h1:en<(dw.length:Int)<;>by_cases h2:(dw.length:Int)<fl
  ·have c2:en.toNat<dw.length:=by omega
   simp[-List.getD_eq_getElem?_getD,Za0,ZaT,Zae,Zaa,AV.bx,Zac,ZbU,Zfm,h1,h2,c2]at next⊢
   (repeat refine⟨by omega,?_⟩)
   exact next
  ·simp[-List.getD_eq_getElem?_getD,Za0,ZaT,Zae,Zaa,AV.bx,Zac,ZbU,Zfm,h1,h2]at next⊢
   (repeat refine⟨by omega,?_⟩)
   exact next
  ·simp[-List.getD_eq_getElem?_getD,Za0,ZaT,Zae,Zaa,AV.bx,Zac,ZbU,Zfm,h1,h2]at next⊢
   (repeat refine⟨by omega,?_⟩)
   exact next
  ·simp[-List.getD_eq_getElem?_getD,Za0,ZaT,Zae,Zaa,AV.bx,Zac,ZbU,Zfm,h1,h2]at next⊢
   (repeat refine⟨by omega,?_⟩)
   exact next
 ·simp[-List.getD_eq_getElem?_getD,Za0,ZaT,Zae,Zaa,AV.bx,Zac,ZbU,Zfm]at next⊢
  (repeat refine⟨by omega,?_⟩)
  exact next
 ·by_cases h5:(up.length:Int)<fl<;>simp[-List.getD_eq_getElem?_getD,Za0,ZaT,Zae,Zaa,AV.bx,Zac,ZbU,Zfm,h5]at next⊢ <;>(repeat refine⟨by omega,?_⟩)<;>exact next
theorem L95(k:Nat)(hk:1≤k∧k≤8)(cnt:Nat)(hc:cnt≤12)(hcnt:∀j:Nat,j<cnt→evE k j=0):∀(m n:Nat) (x:zA),n+m=cnt→x.length≤200+n→
 vE C (Zg0 ms ks rs l wn fl at0 mo dn ha ba to dw up (m0L ks l dn dn.length) (m0A ks l dn.length) 0 false false ((k:Int)+1) (x++ZeN l wn fl ⟨at0,mo,dn,ha,ba,to,dw,up⟩ (evM k m n))) (Zh2 46 V)→vE C (Zap ms ks rs l wn fl at0 mo dn ha ba to dw up (m0L ks l dn dn.length) (m0A ks l dn.length) 0 false false k ((cnt:Int)-1) k n x) (Zh2 46 V)
 |0,n,x,hn,hx,next=>Zho hC Za4 Zkw (by
  rw[evM,ZeN,List.append_nil]at next
  simp[ZgX,show ¬(n:Int)≤(cnt:Int)-1 by omega]
  exact⟨by omega,next⟩)
 |m+1,n,x,hn,hx,next=>Zho hC Za4 Zkw (by
  have hO:OkA ms ks rs l wn fl ⟨at0,mo,dn,ha,ba,to,dw,up⟩ k n:=⟨hu,hs,hcnt n (by omega)⟩
  obtain⟨g0,g1,g2,g3,g4,g5,g6,g7⟩:=Zdi hO
  have hlm:=ZiM ks l dn dn.length
  rw[evM,ZfU,←List.append_assoc]at next
  have ih:=L95 k hk cnt hc hcnt m (n+1) (x++if ZaT l wn fl ⟨at0,mo,dn,ha,ba,to,dw,up⟩ k n=0 then [evV k n]else []) (by omega) (by rw[List.length_append];split<;>simp<;>omega) next
  have:=ZOI hC ms ks rs l wn fl at0 mo dn ha ba to dw up hu hs k n hk (by omega) (hcnt n (by omega)) ((cnt:Int)-1) x (by omega) ih
  simp[ZgX,show(n:Int)≤(cnt:Int)-1 by omega,hlm]
  (repeat refine⟨by omega,?_⟩)
  exact this _)
end
section
variable {C:Ctx}(hC:C.P=Tryz.prog)(ms ks rs l:zA)(wn fl:Int)(at0 mo:Int)(dn:zA)(ha:Bool)(ba:Int)(to:Bool)(dw:zI)(up:zA)(hu:upE ms ks rs l wn fl=0)(hs:stE ks rs l fl at0 mo dn ha ba to dw up=0)
include hC hu hs
theorem ZLx:∀(m k:Nat) (x:zA),m+k=9→1≤k→x.length≤12*k→vE C (Zg0 ms ks rs l wn fl at0 mo dn ha ba to dw up (m0L ks l dn dn.length) (m0A ks l dn.length) 0 false false k x) (Zh2 46 (.tup [.list (.big (.agg [.int .i64, .int .i64]) (x++ZeN l wn fl ⟨at0,mo,dn,ha,ba,to,dw,up⟩ (evK m k))), .int .i64 0]))
 |0,k,x,hk,_,_=>Zho hC Za4 Zgv (by
  obtain rfl:k=9:=by omega
  rw[evK,ZeN,List.append_nil]
  simp[Zcz]
  exact⟨_, .same _, .tup ⟨.row _ rfl rfl rfl, .same _ rfl rfl,trivial⟩,rfl⟩)
 |m+1,k,x,hk,h1,hx=>Zho hC Za4 Zgv (by
  obtain⟨hf,_,_⟩:=Zcr hu
  have hll:=hf.l1
  have key:∀cnt:Nat,cnt≤12→(∀j:Nat,j<cnt→evE k j=0)→(∀j:Nat,cnt≤j→evE k j=0→¬ZaT l wn fl ⟨at0,mo,dn,ha,ba,to,dw,up⟩ k j=0)→vE C (Zap ms ks rs l wn fl at0 mo dn ha ba to dw up (m0L ks l dn dn.length) (m0A ks l dn.length) 0 false false k ((cnt:Int)-1) k (0:Nat) x) (Zh2 46 (.tup [.list (.big (.agg [.int .i64, .int .i64]) (x++ZeN l wn fl ⟨at0,mo,dn,ha,ba,to,dw,up⟩ (evK (m+1) k))), .int .i64 0])):=fun cnt hc g1 g2=>by
   have hl:=Zk9 l wn fl ⟨at0,mo,dn,ha,ba,to,dw,up⟩ (evM k cnt 0)
   have hl2:∀c n:Nat,(evM k c n).length=c:=fun c=>by
    induction c with
    |zero=>intro n;rfl
    |succ c ih=>intro n;rw[evM,List.length_cons,ih]
   rw[hl2]at hl
   have ih:=ZLx m (k+1) (x++ZeN l wn fl ⟨at0,mo,dn,ha,ba,to,dw,up⟩ (evM k cnt 0)) (by omega) (by omega) (by rw[List.length_append];omega)
   have e:=ZlV l wn fl ⟨at0,mo,dn,ha,ba,to,dw,up⟩ k cnt 0 (12-cnt) (fun j _ hj=>g1 j (by omega)) (fun j hj=>g2 j (by omega))
   rw[show cnt+(12-cnt)=12 by omega]at e
   rw[evK,ZoE,e]
   rw[List.append_assoc]at ih
   exact L95 hC ms ks rs l wn fl at0 mo dn ha ba to dw up hu hs k (by omega) cnt hc g1 cnt 0 x (by omega) (by omega) (by simpa using ih)
  have w26:(2≤k∧k≤6)→∀j:Nat,evE k j=0↔j≤5:=fun h j=>by
   unfold evE
   rw[if_pos (within_iff.2 (by omega)),if_neg (by omega),if_neg (by omega),if_pos (within_iff.2 (by omega))]
   constructor
   ·intro q;have:=within_iff.1 (ZaE q (by decide));omega
   ·intro q;rw[show Zab (j:Int) 0 5=true from within_iff.2 (by omega)];rfl
  have w78:(7≤k∧k≤8)→∀j:Nat,evE k j=0↔j=0:=fun h j=>by
   unfold evE
   rw[if_pos (within_iff.2 (by omega)),if_neg (by omega),if_neg (by omega),if_neg (fun q=>by have:=within_iff.1 q;omega)]
   constructor
   ·intro q;have:=of_decide_eq_true (ZaE q (by decide));omega
   ·intro q;subst q;rfl
  rcases show k=1∨(2≤k∧k≤6)∨(7≤k∧k≤8) by omega with rfl |h |h
  ·have k1:=key l.length hll.2 (fun j hj=>by
    unfold evE
    simp[Zaa,Zab]
    omega) (fun j hj _=>by
    unfold ZaT
    simp[show ¬(j:Int)<l.length by omega])
   simp[Zcz]at k1⊢
   (repeat refine⟨by omega,?_⟩)
   exact k1
  ·have k1:=key 6 (by omega) (fun j hj=>(w26 h j).2 (by omega)) (fun j hj he=>by have:=(w26 h j).1 he;omega)
   rcases show k=2∨k=3∨k=4∨k=5∨k=6 by omega with rfl |rfl |rfl |rfl |rfl<;>simp[Zcz]at k1⊢ <;>exact k1
  ·have k1:=key 1 (by omega) (fun j hj=>(w78 h j).2 (by omega)) (fun j hj he=>by have:=(w78 h j).1 he;omega)
   rcases show k=7∨k=8 by omega with rfl |rfl<;>simp[Zcz]at k1⊢ <;>exact k1)
end
section
variable {C:Ctx}(hC:C.P=Tryz.prog)(ms ks rs l:zA)(wn fl:Int)(at0 mo:Int)(dn:zA)(ha:Bool)(ba:Int)(to:Bool)(dw:zI)(up:zA)
include hC
theorem ZJG(hu:upE ms ks rs l wn fl=0)(e:Int)(he:stE ks rs l fl at0 mo dn ha ba to dw up=e):vE C (ZaW ms ks rs l wn fl at0 mo dn ha ba to dw up (m0L ks l dn dn.length) (m0A ks l dn.length) dn.length e up.length up.length) (Zh2 46 (ZBx l wn fl ⟨at0,mo,dn,ha,ba,to,dw,up⟩ (Zcq ms ks rs l wn fl ⟨at0,mo,dn,ha,ba,to,dw,up⟩))):=by
 have h0:¬(up.length:Int)<up.length:=by omega
 have hc:Zcq ms ks rs l wn fl ⟨at0,mo,dn,ha,ba,to,dw,up⟩=e:=by unfold Zcq;rw[if_pos hu];exact he
 by_cases h1:e=0
 ·subst h1
  have i0:=ZLx hC ms ks rs l wn fl at0 mo dn ha ba to dw up hu he 8 1 [] rfl (by omega) (by simp)
  have hp:posQ l wn fl ⟨at0,mo,dn,ha,ba,to,dw,up⟩ 0=ZeN l wn fl ⟨at0,mo,dn,ha,ba,to,dw,up⟩ (evK 8 1):=by unfold posQ ZBG;rw[if_pos rfl,Zlu]
  unfold ZBx
  rw[hc,hp]
  refine Zho hC Za4 ZgP ?_
  simp[ZeB,h0]
  refine Zho hC Za4 Zgv ?_
  simp[Zcz]at i0⊢
  exact i0
 ·have hr:=Znb hc h1
  refine Zho hC Za4 ZgP ?_
  simp[ZeB,h0,h1]
  exact hr
end
theorem ZqW(ms ks rs l:zA)(wn fl:Int)(at0 mo:Int)(dn:zA)(ha:Bool)(ba:Int)(to:Bool)(dw:zI)(up:zA)(h:(ZaC ms ks rs=true∧l.length≤1000000)∧dn.length≤1000000∧dw.length≤1000000∧up.length≤1000000):Zan Tryz.prog 46 [vU ms ks rs l wn fl, (vS at0 mo dn ha ba to dw up)] (ZBx l wn fl ⟨at0,mo,dn,ha,ba,to,dw,up⟩ (Zcq ms ks rs l wn fl ⟨at0,mo,dn,ha,ba,to,dw,up⟩)) ZpJ:=
 ZsI (ZxL ms ks rs l wn fl at0 mo dn ha ba to dw up) fun C hC=>Zho hC Za4 ZKz (by
  by_cases h0:upE ms ks rs l wn fl=0
  ·obtain⟨hf,_,hfl⟩:=Zcr h0
   have hll:=hf.l1
   have hkk:=hf.ks1
   have hcs:∀e,e≠0→stE ks rs l fl at0 mo dn ha ba to dw up=e→Zcq ms ks rs l wn fl ⟨at0,mo,dn,ha,ba,to,dw,up⟩=e:=fun e he hs=>by unfold Zcq;rw[if_pos h0];simp only[hs,if_neg he]
   by_cases h1:Zab at0 0 1000000000000=true
   ·have h1':=within_iff.1 h1
    by_cases h2:dn.length≤l.length
    ·by_cases h3:(dw.length:Int)≤fl
     ·by_cases h4:(up.length:Int)≤fl
      ·have hst:stE ks rs l fl at0 mo dn ha ba to dw up=(if Zbb rs ks l dn at0 dn.length 0=0 then Zff ks l mo dn ha ba to dw up else Zbb rs ks l dn at0 dn.length 0):=by unfold stE;rw[if_pos h1,if_pos ⟨h2,h3,h4⟩]
       have:=ZwP hC ms ks rs l wn fl at0 mo dn ha ba to dw up (V:=ZBx l wn fl ⟨at0,mo,dn,ha,ba,to,dw,up⟩ (Zcq ms ks rs l wn fl ⟨at0,mo,dn,ha,ba,to,dw,up⟩)) hf h.2.2 h2 h1'.2 dn.length 0 (by omega) (ZHT ks l dn) (fun hd=>by
        rw[if_pos hd]at hst
        refine ZwA hC ms ks rs l wn fl at0 mo dn ha ba to dw up _ _ ⟨h.2.2.2,h.2.2.1,by omega⟩ dw.length 0 (by omega) fun e he=>?_
        have hr:=Zou ks l mo dn ha ba to dw up h2
        rw[←hst]at hr
        refine ZLz hC ms ks rs l wn fl at0 mo dn ha ba to dw up _ dn.length _ h.2.2.2 (stE ks rs l fl at0 mo dn ha ba to dw up) (ZJG hC ms ks rs l wn fl at0 mo dn ha ba to dw up h0 _ rfl) up.length 0 e (by omega) ?_
        rw[←hr,he]
        simp only[List.drop_zero]
        split<;>simp_all) (fun e he hd=>Znb (hcs e he (by rw[hst,if_neg (by rw[hd];exact he),hd])) he)
       have e1:m0L ks l dn 0=List.replicate ks.length (-1):=rfl
       have e2:m0A ks l 0=0:=rfl
       have e3:m0T dn 0=0:=rfl
       rw[e1,e2,e3]at this
       simp[Zm7,h,h0,h1,h2,h3,h4,Zae,Zaa,AV.bx,Zac]
       repeat refine⟨by omega,?_⟩
       simpa using this
      ·have hr:=Znb (hcs 8 (by decide) (by unfold stE;rw[if_pos h1,if_neg (fun hh=>h4 hh.2.2)])) (by decide)
       simp[Zm7,h,h0,h1,h2,h3,h4,Zae,Zaa,AV.bx,Zac]
       repeat (first |exact hr |refine⟨by omega,?_⟩)
     ·have hr:=Znb (hcs 8 (by decide) (by unfold stE;rw[if_pos h1,if_neg (fun hh=>h3 hh.2.1)])) (by decide)
      simp[Zm7,h,h0,h1,h2,h3,Zae,Zaa,AV.bx,Zac]
      repeat (first |exact hr |refine⟨by omega,?_⟩)
    ·have hr:=Znb (hcs 8 (by decide) (by unfold stE;rw[if_pos h1,if_neg (fun hh=>h2 hh.1)])) (by decide)
     simp[Zm7,h,h0,h1,h2,Zae,Zaa,AV.bx,Zac]
     repeat (first |exact hr |refine⟨by omega,?_⟩)
   ·have hr:=Znb (hcs 2 (by decide) (by unfold stE;rw[if_neg h1])) (by decide)
    by_cases h2:dn.length≤l.length<;>by_cases h3:(dw.length:Int)≤fl<;>by_cases h4:(up.length:Int)≤fl<;>simp[Zm7,h,h0,h1,h2,h3,h4,Zae,Zaa,AV.bx,Zac]<;>(repeat (first |exact hr |refine⟨by omega,?_⟩))
  ·have hr:=Znb (ms:=ms) (ks:=ks) (rs:=rs) (l:=l) (wn:=wn) (fl:=fl) (s:=⟨at0,mo,dn,ha,ba,to,dw,up⟩) (by unfold Zcq;rw[if_neg h0]) h0
   simp[Zm7,h,h0,Zae,AV.bx,Zac]
   repeat (first |exact hr |refine⟨by omega,?_⟩))
def k46:Ctr:=⟨46,0,fun _ a=>match a with |[.agg (.gen [.list (.big .str ms), .list (.big (.agg [.str, .int .i64]) ks), .list (.big (.agg [.str, .int .i64, .int .i64, .int .i64, .int .i64]) rs), .list (.big (.agg [.int .i64, .int .i64, .int .i64]) l), .int .i64 wn, .int .i64 fl]), .agg (.gen [.int .i64 at0, .int .i64 mo, .list (.big (.agg [.int .i64, .int .i64]) dn), .bool ha, .int .i64 ba, .bool to, .list (.ints .i64 dw), .list (.big (.agg [.int .i64, .bool]) up)])]=>some (decide ((ZaC ms ks rs=true∧l.length≤1000000)∧dn.length≤1000000∧dw.length≤1000000∧up.length≤1000000), .tup [.list (.big (.agg [.int .i64, .int .i64]) (posQ l wn fl ⟨at0,mo,dn,ha,ba,to,dw,up⟩ (Zcq ms ks rs l wn fl ⟨at0,mo,dn,ha,ba,to,dw,up⟩))), .int .i64 (Zcq ms ks rs l wn fl ⟨at0,mo,dn,ha,ba,to,dw,up⟩)],ZpJ) |_=>none⟩
theorem ZDL:k46.OK Tryz.prog:=fun pa args r fr h=>by
 simp only[k46]at h
 split at h
 ·simp only[zS,zP,decide_eq_true_eq]at h
  obtain⟨h0,rfl,rfl⟩:=h
  exact ZqW _ _ _ _ _ _ _ _ _ _ _ _ _ _ h0
 ·cases h
def Ba9:List Ctr:=[k46]++Bw
theorem ZCB:ZaF Tryz.prog Ba9:=⟨ZDL,ZIJ⟩
end Go.Proofs.YtkeoeooghhjibaaGreatDoor
namespace Go.Proofs.YtkeoeooghhjibaaGreatDoor
set_option maxRecDepth 100000
set_option linter.unusedVariables false
def ZLU(ms ks rs l:zA)(wn fl at0 mo:Int)(dn:zA)(ha:Bool)(ba:Int)(to:Bool)(dw:zI)(up:zA)(ek en:Int):AFrame:=vF 9 113 [(0,vU ms ks rs l wn fl),(1,vS at0 mo dn ha ba to dw up),(2,AV.agg (vx [.int .i64 ek, .int .i64 en]))] [.code a9.code] [.tmp 6]
def f9e(ms ks rs l:zA)(wn fl at0 mo:Int)(dn:zA)(ha:Bool)(ba:Int)(to:Bool)(dw:zI)(up:zA)(ek en:Int):List AFrame:=[(ZLU ms ks rs l wn fl at0 mo dn ha ba to dw up ek en)]
theorem ZD6(ms ks rs l:zA)(wn fl at0 mo:Int)(dn:zA)(ha:Bool)(ba:Int)(to:Bool)(dw:zI)(up:zA)(ek en:Int):Zam tab 9 [vU ms ks rs l wn fl,vS at0 mo dn ha ba to dw up,AV.agg (Row.gen [.int .i64 ek, .int .i64 en])]=some (ZLU ms ks rs l wn fl at0 mo dn ha ba to dw up ek en):=rfl
def ZL7(A:Ar)(K:KT)(F:FT)(ms ks rs l:zA)(wn fl at0 mo:Int)(dn:zA)(ha:Bool)(ba:Int)(to:Bool)(dw:zI)(up:zA)(ek en:Int):Prop:=let wX:=Zak ms ks rs l wn fl ⟨at0,mo,dn,ha,ba,to,dw,up⟩ ek en;let wY:=ZcM ks rs l wn fl ⟨at0,mo,dn,ha,ba,to,dw,up⟩ ek en;let wZ:=Zcq ms ks rs l wn fl ⟨at0,mo,dn,ha,ba,to,dw,up⟩;rB [!A.not true] (bB (A.not (ZjR ms ks rs l)) (F (AV.bool true) none) (bB (A.not (ZmP dn dw up)) (F (AV.bool true) none) (rB [decide (ZaC ms ks rs=true∧List.length l≤1000000),decide ((ZaC ms ks rs=true∧List.length l≤1000000)∧List.length dn≤1000000∧List.length dw≤1000000∧List.length up≤1000000),decide (List.length dn≤1000000∧List.length dw≤1000000∧List.length up≤1000000),decide (List.length ms≤1000000∧List.length ks≤1000000∧List.length rs≤1000000∧List.length l≤1000000),decide ((ZaC ms ks rs=true∧List.length l≤1000000)∧List.length dn≤1000000∧List.length dw≤1000000∧List.length up≤1000000),decide (List.length dn≤1000000∧List.length dw≤1000000∧List.length up≤1000000),decide (List.length ms≤1000000∧List.length ks≤1000000∧List.length rs≤1000000∧List.length l≤1000000)] (bB (A.eq (upE ms ks rs l wn fl) 0) (rB [decide (upE ms ks rs l wn fl=0∧List.length dn≤1000000∧List.length dw≤1000000∧List.length up≤1000000)] (bB (A.not (A.eq (stE ks rs l fl at0 mo dn ha ba to dw up) 0)) (bB (A.eq (ZbN ms ks rs l wn fl ⟨at0,mo,dn,ha,ba,to,dw,up⟩ ek en) (stE ks rs l fl at0 mo dn ha ba to dw up)) (bB (A.eq wZ (stE ks rs l fl at0 mo dn ha ba to dw up)) (rB [decide (List.length wX.3≤1000000∧List.length wX.7≤1000000∧List.length wX.8≤1000000)] (bB (ZhJ wX.1 wX.2 wX.3 wX.4 wX.5 wX.6 wX.7 wX.8 0 0 [] false 0 false [] []) (F (AV.bool (A.eq (A.int (A.lenA (posQ l wn fl ⟨at0,mo,dn,ha,ba,to,dw,up⟩ wZ))) 0)) none) (F (AV.bool false) none))) (F (AV.bool false) none)) (F (AV.bool false) none)) (bB (A.not (A.eq wZ 0)) (F (AV.bool false) none) (rB [decide (upE ms ks rs l wn fl=0∧stE ks rs l fl at0 mo dn ha ba to dw up=0)] (rB [decide (List.length (posQ l wn fl ⟨at0,mo,dn,ha,ba,to,dw,up⟩ wZ)≤1000000)] (bB (A.not (Zcj eq2 (posQ l wn fl ⟨at0,mo,dn,ha,ba,to,dw,up⟩ wZ) (ZeN l wn fl ⟨at0,mo,dn,ha,ba,to,dw,up⟩ evtL))) (F (AV.bool false) none) (bB (A.not (A.eq (evE ek en) 0)) (bB (A.eq (ZbN ms ks rs l wn fl ⟨at0,mo,dn,ha,ba,to,dw,up⟩ ek en) (evE ek en)) (rB [decide (List.length wX.3≤1000000∧List.length wX.7≤1000000∧List.length wX.8≤1000000)] (F (AV.bool (ZhJ wX.1 wX.2 wX.3 wX.4 wX.5 wX.6 wX.7 wX.8 0 0 [] false 0 false [] [])) none)) (F (AV.bool false) none)) (rB [decide (okA ms ks rs l wn fl ⟨at0,mo,dn,ha,ba,to,dw,up⟩ ek en=true)] (bB (A.not (A.eq (ZbN ms ks rs l wn fl ⟨at0,mo,dn,ha,ba,to,dw,up⟩ ek en) (ZaT l wn fl ⟨at0,mo,dn,ha,ba,to,dw,up⟩ ek en))) (F (AV.bool false) none) (rB [decide (List.length wX.3≤1000000∧List.length wX.7≤1000000∧List.length wX.8≤1000000)] (bB (A.not (ZhJ wX.1 wX.2 wX.3 wX.4 wX.5 wX.6 wX.7 wX.8 wY.1 wY.2 wY.3 wY.4 wY.5 wY.6 wY.7 wY.8)) (F (AV.bool false) none) (bB (A.not (A.eq (ZaT l wn fl ⟨at0,mo,dn,ha,ba,to,dw,up⟩ ek en) 0)) (F (AV.bool true) none) (rB [decide (upE ms ks rs l wn fl=0∧List.length wX.3≤1000000∧List.length wX.7≤1000000∧List.length wX.8≤1000000)] (F (AV.bool (A.eq (stE ks rs l fl wX.1 wX.2 wX.3 wX.4 wX.5 wX.6 wX.7 wX.8) 0)) none)))))))))))))) (rB [A.not (A.eq (upE ms ks rs l wn fl) 0)] (bB (A.eq (ZbN ms ks rs l wn fl ⟨at0,mo,dn,ha,ba,to,dw,up⟩ ek en) (upE ms ks rs l wn fl)) (bB (A.eq wZ (upE ms ks rs l wn fl)) (rB [decide (List.length wX.3≤1000000∧List.length wX.7≤1000000∧List.length wX.8≤1000000)] (bB (ZhJ wX.1 wX.2 wX.3 wX.4 wX.5 wX.6 wX.7 wX.8 0 0 [] false 0 false [] []) (F (AV.bool (A.eq (A.int (A.lenA (posQ l wn fl ⟨at0,mo,dn,ha,ba,to,dw,up⟩ wZ))) 0)) none) (F (AV.bool false) none))) (F (AV.bool false) none)) (F (AV.bool false) none)))))))
theorem ZN4{A:Ar}{K:KT}{F:FT}{M:MT}{ms ks rs l:zA}{wn fl at0 mo:Int}{dn:zA}{ha:Bool}{ba:Int}{to:Bool}{dw:zI}{up:zA}{ek en:Int} :Zaw A tab Ba9 9 K F M (.run 13 (.fy (.run 8 (.tf (.ty (.ty (.ty (.run 2 (.ty (.run 5 (.fn))))))) (.fy (.fy (.fy (.run 2 (.tf (.run 5 (.fn)) (.run 19 (.tf (.run 12 (.tf (.run 6 (.tf (.ty (.ty (.ty (.run 1 (.tf (.ty (.ty (.ty (.run 1 (.tf (.ty (.ty (.ty (.run 4 (.fn))))) (.fy (.fy (.fy (.run 4 (.fn)))))))))) (.fy (.fy (.fy (.run 1 (.fy (.fy (.fy (.fy (.run 4 (.fn))))))))))))))) (.fy (.fy (.fy (.run 1 (.fy (.fy (.fy (.fy (.run 1 (.fy (.fy (.fy (.fy (.run 4 (.fn))))))))))))))))) (.run 7 (.tf (.ty (.ty (.ty (.ty (.ty (.ty (.run 2 (.ty (.run 5 (.fn)))))))))) (.fy (.fy (.fy (.fy (.fy (.fy (.run 2 (.tf (.run 5 (.fn)) (.run 13 (.tf (.run 6 (.tf (.ty (.ty (.ty (.run 4 (.fn))))) (.fy (.fy (.fy (.run 4 (.fn))))))) (.run 22 (.tf (.ty (.ty (.ty (.ty (.run 2 (.ty (.run 5 (.fn)))))))) (.fy (.fy (.fy (.fy (.run 2 (.tf (.run 5 (.fn)) (.run 6 (.tf (.ty (.ty (.ty (.ty (.run 4 (.fn)))))) (.fy (.fy (.fy (.fy (.run 4 (.fn)))))))))))))))))))))))))))))) (.run 7 (.ty (.run 6 (.tf (.ty (.ty (.ty (.run 1 (.tf (.ty (.ty (.ty (.run 1 (.tf (.ty (.ty (.ty (.run 4 (.fn))))) (.fy (.fy (.fy (.run 4 (.fn)))))))))) (.fy (.fy (.fy (.run 1 (.fy (.fy (.fy (.fy (.run 4 (.fn))))))))))))))) (.fy (.fy (.fy (.run 1 (.fy (.fy (.fy (.fy (.run 1 (.fy (.fy (.fy (.fy (.run 4 (.fn)))))))))))))))))))))))))))))) (f9e ms ks rs l wn fl at0 mo dn ha ba to dw up ek en) []=ZL7 A K F ms ks rs l wn fl at0 mo dn ha ba to dw up ek en:=by kernel_rfl
end Go.Proofs.YtkeoeooghhjibaaGreatDoor
namespace Go.Proofs.YtkeoeooghhjibaaGreatDoor
theorem Zi3(s:ST):ZhJ s.t s.mo s.dn s.ha s.ba s.to s.dw s.up s.t s.mo s.dn s.ha s.ba s.to s.dw s.up=true:=by simp[ZhJ,Zev Zpt,Zev ZuM]
theorem Zn2(ms ks rs l:zA)(wn fl:Int)(at0 mo:Int)(dn:zA)(ha:Bool)(ba:Int)(to:Bool)(dw:zI)(up:zA)(ek en:Int):Zan Tryz.prog 9 [vU ms ks rs l wn fl, (vS at0 mo dn ha ba to dw up), .agg (.gen [.int .i64 ek, .int .i64 en])] (.bool true) none:=
 start (ZD6 ms ks rs l wn fl at0 mo dn ha ba to dw up ek en) fun C hC=>tgo hC ZCB ZN4 (by
  unfold ZL7
  try dsimp only
  by_cases hs:ZjR ms ks rs l=true
  ·by_cases hl:ZmP dn dw up=true
   ·have hs':=hs
    unfold ZjR at hs'
    simp only[Bool.and_eq_true,decide_eq_true_eq]at hs'
    obtain⟨h1,h2,h3,h4⟩:=Zs4 hs'.1
    have hl':=of_decide_eq_true hl
    have g1:ms.length≤1000000:=by omega
    have g2:ks.length≤1000000:=by omega
    have g3:rs.length≤1000000:=by omega
    have g4:l.length≤1000000:=by omega
    have g5:dn.length≤1000000:=by omega
    have g6:dw.length≤1000000:=by omega
    have g7:up.length≤1000000:=by omega
    have s0:ZhJ 0 0 [] false 0 false [] [] 0 0 [] false 0 false [] []=true:=Zi3 st0
    have q0:∀c:Int,c≠0→posQ l wn fl ⟨at0,mo,dn,ha,ba,to,dw,up⟩ c=[]:=fun c hc=>by unfold posQ;rw[if_neg hc]
    by_cases hu:upE ms ks rs l wn fl=0
    ·obtain⟨hf,hw,hfl⟩:=Zcr hu
     have cq:Zcq ms ks rs l wn fl ⟨at0,mo,dn,ha,ba,to,dw,up⟩=stE ks rs l fl at0 mo dn ha ba to dw up:=by unfold Zcq;rw[if_pos hu]
     by_cases he:stE ks rs l fl at0 mo dn ha ba to dw up=0
     ·rw[he]at cq
      have pq:posQ l wn fl ⟨at0,mo,dn,ha,ba,to,dw,up⟩ 0=ZeN l wn fl ⟨at0,mo,dn,ha,ba,to,dw,up⟩ evtL:=by unfold posQ ZBG;rw[if_pos rfl]
      have sb:=Zev Zpt (ZeN l wn fl ⟨at0,mo,dn,ha,ba,to,dw,up⟩ evtL)
      have pl:=Zk9 l wn fl ⟨at0,mo,dn,ha,ba,to,dw,up⟩ evtL
      rw[ZkQ]at pl
      have pl2:(ZeN l wn fl ⟨at0,mo,dn,ha,ba,to,dw,up⟩ evtL).length≤1000000:=by omega
      by_cases hv:evE ek en=0
      ·have cp:ZbN ms ks rs l wn fl ⟨at0,mo,dn,ha,ba,to,dw,up⟩ ek en=ZaT l wn fl ⟨at0,mo,dn,ha,ba,to,dw,up⟩ ek en:=by unfold ZbN;rw[if_pos hu];simp only[he,hv,if_true]
       have ok:=ZrK (s:=⟨at0,mo,dn,ha,ba,to,dw,up⟩) hu he hv
       by_cases ha0:ZaT l wn fl ⟨at0,mo,dn,ha,ba,to,dw,up⟩ ek en=0
       ·have sp:Zak ms ks rs l wn fl ⟨at0,mo,dn,ha,ba,to,dw,up⟩ ek en=appS ks rs l fl ⟨at0,mo,dn,ha,ba,to,dw,up⟩ ek en:=by unfold Zak;rw[cp,if_pos ha0]
        have aw:ZcM ks rs l wn fl ⟨at0,mo,dn,ha,ba,to,dw,up⟩ ek en=appS ks rs l fl ⟨at0,mo,dn,ha,ba,to,dw,up⟩ ek en:=by unfold ZcM;rw[if_pos ha0]
        have hvs:VS ks rs l fl (appS ks rs l fl ⟨at0,mo,dn,ha,ba,to,dw,up⟩ ek en):=ZBV ((vs_iff (s:=⟨at0,mo,dn,ha,ba,to,dw,up⟩)).1 he) hv ha0
        have h0:=vs_iff.2 hvs
        have hn:=hvs.len
        rw[sp,aw]
        generalize appS ks rs l fl ⟨at0,mo,dn,ha,ba,to,dw,up⟩ ek en=x at*
        have m1:x.dn.length≤1000000:=by omega
        have m2:x.dw.length≤1000000:=by omega
        have m3:x.up.length≤1000000:=by omega
        have ss:=Zi3 x
        simp[hs,hl,h1,g1,g2,g3,g4,g5,g6,g7,hu,he,cq,pq,sb,pl2,hv,cp,ok,ha0,m1,m2,m3,ss,h0]
       ·have sp:Zak ms ks rs l wn fl ⟨at0,mo,dn,ha,ba,to,dw,up⟩ ek en=st0:=by unfold Zak;rw[cp,if_neg ha0]
        have aw:ZcM ks rs l wn fl ⟨at0,mo,dn,ha,ba,to,dw,up⟩ ek en=st0:=by unfold ZcM;rw[if_neg ha0]
        rw[sp,aw]
        simp[hs,hl,h1,g1,g2,g3,g4,g5,g6,g7,hu,he,cq,pq,sb,pl2,hv,cp,ok,ha0,st0,s0]
      ·have cp:ZbN ms ks rs l wn fl ⟨at0,mo,dn,ha,ba,to,dw,up⟩ ek en=evE ek en:=by unfold ZbN;rw[if_pos hu];simp only[he,hv,if_true,if_false]
       have sp:Zak ms ks rs l wn fl ⟨at0,mo,dn,ha,ba,to,dw,up⟩ ek en=st0:=by unfold Zak;rw[cp,if_neg hv]
       rw[sp]
       simp[hs,hl,h1,g1,g2,g3,g4,g5,g6,g7,hu,he,cq,pq,sb,pl2,hv,cp,st0,s0]
     ·have cp:ZbN ms ks rs l wn fl ⟨at0,mo,dn,ha,ba,to,dw,up⟩ ek en=stE ks rs l fl at0 mo dn ha ba to dw up:=by unfold ZbN;rw[if_pos hu];simp only[if_neg he]
      have sp:Zak ms ks rs l wn fl ⟨at0,mo,dn,ha,ba,to,dw,up⟩ ek en=st0:=by unfold Zak;rw[cp,if_neg he]
      have q1:=q0 _ he
      rw[sp]
      simp[hs,hl,h1,g1,g2,g3,g4,g5,g6,g7,hu,he,cq,q1,cp,st0,s0]
    ·have cq:Zcq ms ks rs l wn fl ⟨at0,mo,dn,ha,ba,to,dw,up⟩=upE ms ks rs l wn fl:=by unfold Zcq;rw[if_neg hu]
     have cp:ZbN ms ks rs l wn fl ⟨at0,mo,dn,ha,ba,to,dw,up⟩ ek en=upE ms ks rs l wn fl:=by unfold ZbN;rw[if_neg hu]
     have sp:Zak ms ks rs l wn fl ⟨at0,mo,dn,ha,ba,to,dw,up⟩ ek en=st0:=by unfold Zak;rw[cp,if_neg hu]
     have q1:=q0 _ hu
     rw[sp]
     simp[hs,hl,h1,g1,g2,g3,g4,g5,g6,g7,hu,cq,q1,cp,st0,s0]
   ·simp[hs,hl]
  ·simp[hs])
end Go.Proofs.YtkeoeooghhjibaaGreatDoor
