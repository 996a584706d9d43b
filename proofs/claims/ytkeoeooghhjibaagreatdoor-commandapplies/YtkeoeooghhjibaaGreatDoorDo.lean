/- Contracts as a list. No condition. -/
import Derived.Test.YtkeoeooghhjibaaGreatDoorQh
import Derived.KernelRfl
namespace Go.Proofs.YtkeoeooghhjibaaGreatDoor
variable {A:Ar}{K:KT}{F:FT}{M:MT}
theorem Zo2(l dn:zA):∀(m i:Nat) (xs:zI),(ZhK l dn m i xs).length=xs.length
 |0,_,_=>rfl
 |m+1,i,xs=>by rw[ZhK,Zo2 l dn m,List.length_set]
theorem ZiM(ks l dn:zA)(i:Nat):(m0L ks l dn i).length=ks.length:=by unfold m0L;rw[Zo2,List.length_replicate]
theorem ZoO{ms ks rs l:zA}(hf:OkF ms ks rs l){fl:Int}{s:ST}(hs:VS ks rs l fl s):∀i,i≤s.dn.length→OkT ks (m0T s.dn i) (m0L ks l s.dn i)
 |0,_=>ZHT ks l s.dn
 |i+1,h=>by
  obtain⟨_,b,c,d⟩:=hs.done i (by omega)
  have hw:Zab (Zaj s.dn i 1) (Zaj l i 1) (Zaj l i 2)=true:=by
   unfold ZhL at d
   simp only[Bool.and_eq_true]at d
   exact d.1
  exact(okD hf s.dn (ZoO hf hs i (by omega)) hs.t.2 b c hw (by have:=hs.len.1;omega)).2
theorem Zr3{ks rs l:zA}{fl:Int}{s:ST}(hs:VS ks rs l fl s):m0T s.dn s.dn.length≤s.t:=by
 cases h:s.dn.length with
 |zero=>exact hs.t.1
 |succ i=>exact(hs.done i (by omega)).2.1
section
variable {C:Ctx}(hC:C.P=Tryz.prog)(ms ks rs l:zA)(wn fl:Int)(hf:OkF ms ks rs l){Q:List AFrame→Zad→Prop}{V:AV}(at0 mo:Int)(dn:zA)(ha:Bool)(ba:Int)(to:Bool)(up:zA)
include hC hf
theorem ZDl(n0:Int)(b1:Bool)(n2 n3 n4 n5 n6 n7 n8 n9 n10:Int)(l11:zI)(n13 n14 n15:Int)(hd:dn.length≤l.length):∀m k:Nat,k+m=dn.length→
 vE C (Zht ms ks rs l wn fl at0 mo dn ha ba to up n0 b1 n2 n3 n4 n5 n6 n7 n8 n9 n10 l11 (m0L ks l dn dn.length) n13 n14 n15 dn.length (m0A ks l dn.length) (m0T dn dn.length)) (Zhe 49 V none)→
 vE C (Zht ms ks rs l wn fl at0 mo dn ha ba to up n0 b1 n2 n3 n4 n5 n6 n7 n8 n9 n10 l11 (m0L ks l dn k) n13 n14 n15 k (m0A ks l k) (m0T dn k)) (Zhe 49 V none)
 |0,k,hk,hq=>by
  obtain rfl:k=dn.length:=by omega
  exact hq
 |m+1,k,hk,hq=>by
  have ih:=ZDl n0 b1 n2 n3 n4 n5 n6 n7 n8 n9 n10 l11 n13 n14 n15 hd m (k+1) (by omega) hq
  rw[ZfT,Zfp]at ih
  have et:m0T dn (k+1)=Zaj dn k 1:=rfl
  rw[et]at ih
  have hlt:(k:Int)<dn.length:=by omega
  have hlt2:k<dn.length:=by omega
  have hlt3:k<l.length:=by omega
  have e0:((l.getD k .top).cellAt 0).toI=Zaj l k 0:=rfl
  have e1:((dn.getD k .top).cellAt 1).toI=Zaj dn k 1:=rfl
  obtain⟨⟨a1,a2⟩,_⟩:=hf.act k hlt3
  have hl:=ZiM ks l dn k
  have hk8:=hf.ks1
  have hll:=hf.l1
  refine ZeE hC Za4 Zhi ?_
  simp[-List.getD_eq_getElem?_getD,Zbt,hlt,hlt2,hlt3,e0,e1,a1,a2,hl]
  exact⟨by omega,by simpa using ih⟩
theorem ZB7(n9 n10:Int)(l11:zI)(x20:zA)(hd:x20.length≤l.length):∀m k:Nat,k+m=x20.length→
 vE C (Zhb ms ks rs l wn fl at0 mo ha ba to up n9 n10 l11 (m0L ks l x20 x20.length) x20 x20.length (m0A ks l x20.length) (m0T x20 x20.length)) (Zhe 49 V none)→
 vE C (Zhb ms ks rs l wn fl at0 mo ha ba to up n9 n10 l11 (m0L ks l x20 k) x20 k (m0A ks l k) (m0T x20 k)) (Zhe 49 V none)
 |0,k,hk,hq=>by
  obtain rfl:k=x20.length:=by omega
  exact hq
 |m+1,k,hk,hq=>by
  have ih:=ZB7 n9 n10 l11 x20 hd m (k+1) (by omega) hq
  rw[ZfT,Zfp]at ih
  have et:m0T x20 (k+1)=Zaj x20 k 1:=rfl
  rw[et]at ih
  have hlt:(k:Int)<x20.length:=by omega
  have hlt2:k<x20.length:=by omega
  have hlt3:k<l.length:=by omega
  have e0:((l.getD k .top).cellAt 0).toI=Zaj l k 0:=rfl
  have e1:((x20.getD k .top).cellAt 1).toI=Zaj x20 k 1:=rfl
  obtain⟨⟨a1,a2⟩,_⟩:=hf.act k hlt3
  have hl:=ZiM ks l x20 k
  have hk8:=hf.ks1
  have hll:=hf.l1
  refine ZeE hC Za4 Zhh ?_
  simp[-List.getD_eq_getElem?_getD,ZcQ,hlt,hlt2,hlt3,e0,e1,a1,a2,hl]
  exact⟨by omega,by simpa using ih⟩
end
theorem Zhq{ks rs l:zA}{fl:Int}{s:ST}{a:Int}(h:¬(s.ha=false∧a=s.dn.length)):Zd8 fl (Zjc ks rs l s a)=Zd8 fl s:=by unfold Zjc;rw[if_neg h]
theorem Zgt{ks rs l:zA}{fl:Int}{s:ST}{a:Int}(h:s.ha=false∧a=s.dn.length)(hn:ZkK ks rs l s=true):Zd8 fl (Zjc ks rs l s a)=Zd8 fl { s with dn:=s.dn++[dnV a s.t],mo:=m0A ks l (s.dn.length+1) } :=by unfold Zjc;rw[if_pos h,if_pos hn]
theorem ZgO{ks rs l:zA}{fl:Int}{s:ST}{a:Int}(h:s.ha=false∧a=s.dn.length)(hn:¬ZkK ks rs l s=true):Zd8 fl (Zjc ks rs l s a)=Zd8 fl { s with ha:=true } :=by unfold Zjc;rw[if_pos h,if_neg hn]
theorem Zc0{fl:Int}{s:ST}(h:(s.up.length:Int)<fl):Zd8 fl s= { s with up:=s.up++[upV s.dn.length s.ha] } :=by unfold Zd8 ZBE;rw[if_pos h]
theorem ZeT{fl:Int}{s:ST}(h:¬(s.up.length:Int)<fl):Zd8 fl s=s:=by unfold Zd8 ZBE;rw[if_neg h]
theorem ZKO(ms ks rs l:zA)(wn fl:Int)(at0 mo:Int)(dn:zA)(ha:Bool)(ba:Int)(to:Bool)(dw:zI)(up:zA)(en:Int)(h:OkA ms ks rs l wn fl ⟨at0,mo,dn,ha,ba,to,dw,up⟩ 2 en):Zan Tryz.prog 49 [vU ms ks rs l wn fl, (vS at0 mo dn ha ba to dw up), .agg (.gen [.int .i64 2, .int .i64 en])] (Zhd (ZcM ks rs l wn fl ⟨at0,mo,dn,ha,ba,to,dw,up⟩ 2 en) (ZaT l wn fl ⟨at0,mo,dn,ha,ba,to,dw,up⟩ 2 en)) none:=
 Zd4 (Zts ms ks rs l wn fl at0 mo dn ha ba to dw up en) fun C hC=>ZeE hC Za4 ZxW (by
  obtain⟨g0,g1,g2,g3,g4,g5,g6,g7⟩:=Zdi h
  obtain⟨hf,_,_⟩:=Zcr h.u
  have hvs:=vs_iff.1 h.s
  have hv:=ZrG (by omega) h.e
  by_cases h1:en<dw.length
  ·have h2:Zab en 0 ((dw.length:Int)-1)=true:=within_iff.2 (by omega)
   obtain⟨c1,c2⟩:=Zo6 dw en hv.1 h1
   have hmem:=hvs.down _ (ZdB (d:=0) c2)
   have hcut:dw.take en.toNat++dw.drop (en.toNat+1)=ZbO dw en:=rfl
   generalize hact:dw.getD en.toNat 0=act at*
   cases ha
   ·by_cases h4:act=(dn.length:Int)
    ·have hdl:dn.length<l.length:=by omega
     have h4':(act=(dn.length:Int))=True:=eq_true h4
     have m1:act.toNat=dn.length:=by omega
     have e2:∀i,((l.getD dn.length .top).cellAt i).toI=Zaj l dn.length i:=fun i=>rfl
     have hk8:=hf.ks1
     have hT:=ZoO hf hvs dn.length (Nat.le_refl _)
     have hfn:=ZjX (rs:=rs) (a:=m0A ks l dn.length) (t:=at0) (xs:=m0L ks l dn dn.length) (c:=Zaj l dn.length 0) fun j hj=>Zm5 (hf.name j hj)
     have hnx:ZkK ks rs l ⟨at0,mo,dn,false,ba,to,ZbO dw en,up⟩=(Zab at0 (Zaj l dn.length 1) (Zaj l dn.length 2)&&Zdm rs (m0A ks l dn.length) at0 (m0L ks l dn dn.length) (Zaj l dn.length 0)):=rfl
     simp[-List.getD_eq_getElem?_getD,Zfg,h2,c1,c2,hact,ZuR _ _ c2,h4',m1,e2,hcut]
     refine⟨by omega,by omega,⟨by omega,by omega,hdl⟩,?_⟩
     refine ZDl hC ms ks rs l wn fl hf at0 mo dn false ba to up act true act _ _ _ _ _ _ act act (ZbO dw en) _ _ _ g0.2 dn.length 0 (by omega) ?_
     refine ZeE hC Za4 Zhi ?_
     by_cases hw:Zab at0 (Zaj l dn.length 1) (Zaj l dn.length 2)=true
     ·have hfb:=hT.forb (ms:=ms) (l:=l) hf (Zr3 hvs) hvs.t.2
      have hfb:Zbx rs at0 (m0L ks l dn dn.length)=true:=hfb
      by_cases hn:Zdm rs (m0A ks l dn.length) at0 (m0L ks l dn dn.length) (Zaj l dn.length 0)=true
      ·have h6:=hfn.2 hn
       have hnx2:ZkK ks rs l ⟨at0,mo,dn,false,ba,to,ZbO dw en,up⟩=true:=by rw[hnx,hw,hn];rfl
       simp[-List.getD_eq_getElem?_getD,Zbt,hw,hfb,h6,AV.bx,Zac,ZbU]
       refine⟨by omega,?_⟩
       have hxl:(dn++[dnV act at0]).length=dn.length+1:=by simp
       refine ZB7 hC ms ks rs l wn fl hf at0 mo false ba to up act act (ZbO dw en) (dn++[dnV act at0]) (by omega) (dn++[dnV act at0]).length 0 (by omega) ?_
       refine ZeE hC Za4 Zhh ?_
       by_cases h5:(up.length:Int)<fl
       ·have hr:=ZaG (ks:=ks) (rs:=rs) (l:=l) (wn:=wn) (fl:=fl) (s:=⟨at0,mo,dn,false,ba,to,dw,up⟩) (k:=2) (n:=en) (by simp[ZaT,h1]) (((show appS ks rs l fl ⟨at0,mo,dn,false,ba,to,dw,up⟩ 2 en=Zd8 fl (Zjc ks rs l ⟨at0,mo,dn,false,ba,to,ZbO dw en,up⟩ act) by rw[←hact];rfl).trans (Zgt ⟨rfl,h4⟩ hnx2)).trans (Zc0 h5))
        simp[-List.getD_eq_getElem?_getD,ZcQ,h5,AV.bx,Zac,Zfm]
        have e9:upV (((dn++[dnV act at0]).length:Nat):Int) false=.agg (.gen [.int .i64 (dn.length+1), .bool false]):=by simp[upV]
        rw[←e9]
        exact⟨by omega,hr⟩
       ·have hr:=ZaG (ks:=ks) (rs:=rs) (l:=l) (wn:=wn) (fl:=fl) (s:=⟨at0,mo,dn,false,ba,to,dw,up⟩) (k:=2) (n:=en) (by simp[ZaT,h1]) (((show appS ks rs l fl ⟨at0,mo,dn,false,ba,to,dw,up⟩ 2 en=Zd8 fl (Zjc ks rs l ⟨at0,mo,dn,false,ba,to,ZbO dw en,up⟩ act) by rw[←hact];rfl).trans (Zgt ⟨rfl,h4⟩ hnx2)).trans (ZeT h5))
        simp[-List.getD_eq_getElem?_getD,ZcQ,h5]
        exact hr
      ·have h6:¬Ze3 rs (m0A ks l dn.length) at0 (m0L ks l dn dn.length) (Zaj l dn.length 0) rs.length 0=[]:=fun hh=>hn (hfn.1 hh)
       have hnx2:¬ZkK ks rs l ⟨at0,mo,dn,false,ba,to,ZbO dw en,up⟩=true:=by rw[hnx,hw,Bool.true_and];exact hn
       by_cases h5:(up.length:Int)<fl
       ·have hr:=ZaG (ks:=ks) (rs:=rs) (l:=l) (wn:=wn) (fl:=fl) (s:=⟨at0,mo,dn,false,ba,to,dw,up⟩) (k:=2) (n:=en) (by simp[ZaT,h1]) (((show appS ks rs l fl ⟨at0,mo,dn,false,ba,to,dw,up⟩ 2 en=Zd8 fl (Zjc ks rs l ⟨at0,mo,dn,false,ba,to,ZbO dw en,up⟩ act) by rw[←hact];rfl).trans (ZgO ⟨rfl,h4⟩ hnx2)).trans (Zc0 h5))
        simp[-List.getD_eq_getElem?_getD,Zbt,hw,hfb,h6,h5,AV.bx,Zac,Zfm]
        exact⟨by omega,hr⟩
       ·have hr:=ZaG (ks:=ks) (rs:=rs) (l:=l) (wn:=wn) (fl:=fl) (s:=⟨at0,mo,dn,false,ba,to,dw,up⟩) (k:=2) (n:=en) (by simp[ZaT,h1]) (((show appS ks rs l fl ⟨at0,mo,dn,false,ba,to,dw,up⟩ 2 en=Zd8 fl (Zjc ks rs l ⟨at0,mo,dn,false,ba,to,ZbO dw en,up⟩ act) by rw[←hact];rfl).trans (ZgO ⟨rfl,h4⟩ hnx2)).trans (ZeT h5))
        simp[-List.getD_eq_getElem?_getD,Zbt,hw,hfb,h6,h5]
        exact hr
     ·have hnx2:¬ZkK ks rs l ⟨at0,mo,dn,false,ba,to,ZbO dw en,up⟩=true:=by
       rw[hnx,Bool.and_eq_true];exact fun hh=>hw hh.1
      by_cases h5:(up.length:Int)<fl
      ·have hr:=ZaG (ks:=ks) (rs:=rs) (l:=l) (wn:=wn) (fl:=fl) (s:=⟨at0,mo,dn,false,ba,to,dw,up⟩) (k:=2) (n:=en) (by simp[ZaT,h1]) (((show appS ks rs l fl ⟨at0,mo,dn,false,ba,to,dw,up⟩ 2 en=Zd8 fl (Zjc ks rs l ⟨at0,mo,dn,false,ba,to,ZbO dw en,up⟩ act) by rw[←hact];rfl).trans (ZgO ⟨rfl,h4⟩ hnx2)).trans (Zc0 h5))
       simp[-List.getD_eq_getElem?_getD,Zbt,hw,h5,AV.bx,Zac,Zfm]
       exact⟨by omega,hr⟩
      ·have hr:=ZaG (ks:=ks) (rs:=rs) (l:=l) (wn:=wn) (fl:=fl) (s:=⟨at0,mo,dn,false,ba,to,dw,up⟩) (k:=2) (n:=en) (by simp[ZaT,h1]) (((show appS ks rs l fl ⟨at0,mo,dn,false,ba,to,dw,up⟩ 2 en=Zd8 fl (Zjc ks rs l ⟨at0,mo,dn,false,ba,to,ZbO dw en,up⟩ act) by rw[←hact];rfl).trans (ZgO ⟨rfl,h4⟩ hnx2)).trans (ZeT h5))
       simp[-List.getD_eq_getElem?_getD,Zbt,hw,h5]
       exact hr
    ·have h3:¬(false=false∧act=(dn.length:Int)):=fun hh=>h4 hh.2
     by_cases h5:(up.length:Int)<fl
     ·have hr:=ZaG (ks:=ks) (rs:=rs) (l:=l) (wn:=wn) (fl:=fl) (s:=⟨at0,mo,dn,false,ba,to,dw,up⟩) (k:=2) (n:=en) (by simp[ZaT,h1]) (((show appS ks rs l fl ⟨at0,mo,dn,false,ba,to,dw,up⟩ 2 en=Zd8 fl (Zjc ks rs l ⟨at0,mo,dn,false,ba,to,ZbO dw en,up⟩ act) by rw[←hact];rfl).trans (Zhq h3)).trans (Zc0 h5))
      simp[-List.getD_eq_getElem?_getD,Zfg,h2,c1,c2,hact,ZuR _ _ c2,h4,h5,AV.bx,Zac,Zfm]
      exact⟨by omega,by omega,by omega,hr⟩
     ·have hr:=ZaG (ks:=ks) (rs:=rs) (l:=l) (wn:=wn) (fl:=fl) (s:=⟨at0,mo,dn,false,ba,to,dw,up⟩) (k:=2) (n:=en) (by simp[ZaT,h1]) (((show appS ks rs l fl ⟨at0,mo,dn,false,ba,to,dw,up⟩ 2 en=Zd8 fl (Zjc ks rs l ⟨at0,mo,dn,false,ba,to,ZbO dw en,up⟩ act) by rw[←hact];rfl).trans (Zhq h3)).trans (ZeT h5))
      simp[-List.getD_eq_getElem?_getD,Zfg,h2,c1,c2,hact,ZuR _ _ c2,h4,h5]
      exact⟨by omega,by omega,hr⟩
   ·have h3:¬(true=false∧act=(dn.length:Int)):=fun hh=>by cases hh.1
    by_cases h5:(up.length:Int)<fl
    ·have hr:=ZaG (ks:=ks) (rs:=rs) (l:=l) (wn:=wn) (fl:=fl) (s:=⟨at0,mo,dn,true,ba,to,dw,up⟩) (k:=2) (n:=en) (by simp[ZaT,h1]) (((show appS ks rs l fl ⟨at0,mo,dn,true,ba,to,dw,up⟩ 2 en=Zd8 fl (Zjc ks rs l ⟨at0,mo,dn,true,ba,to,ZbO dw en,up⟩ act) by rw[←hact];rfl).trans (Zhq h3)).trans (Zc0 h5))
     simp[-List.getD_eq_getElem?_getD,Zfg,h2,c1,c2,hact,ZuR _ _ c2,h5,AV.bx,Zac,Zfm]
     exact⟨by omega,by omega,by omega,hr⟩
    ·have hr:=ZaG (ks:=ks) (rs:=rs) (l:=l) (wn:=wn) (fl:=fl) (s:=⟨at0,mo,dn,true,ba,to,dw,up⟩) (k:=2) (n:=en) (by simp[ZaT,h1]) (((show appS ks rs l fl ⟨at0,mo,dn,true,ba,to,dw,up⟩ 2 en=Zd8 fl (Zjc ks rs l ⟨at0,mo,dn,true,ba,to,ZbO dw en,up⟩ act) by rw[←hact];rfl).trans (Zhq h3)).trans (ZeT h5))
     simp[-List.getD_eq_getElem?_getD,Zfg,h2,c1,c2,hact,ZuR _ _ c2,h5]
     exact⟨by omega,by omega,hr⟩
  ·have hr:=ZaU (ks:=ks) (rs:=rs) (l:=l) (wn:=wn) (fl:=fl) (s:=⟨at0,mo,dn,ha,ba,to,dw,up⟩) (k:=2) (n:=en) (e:=6) (by simp[ZaT,h1]) (by decide)
   have h2:¬Zab en 0 ((dw.length:Int)-1)=true:=fun hh=>h1 (by have:=within_iff.1 hh;omega)
   simp[Zfg,h2]
   exact⟨by omega,hr⟩)
theorem Zqg(ms ks rs l:zA)(wn fl:Int)(at0 mo:Int)(dn:zA)(ha:Bool)(ba:Int)(to:Bool)(dw:zI)(up:zA)(ek en:Int)(h:OkA ms ks rs l wn fl ⟨at0,mo,dn,ha,ba,to,dw,up⟩ ek en):Zan Tryz.prog 49 [vU ms ks rs l wn fl, (vS at0 mo dn ha ba to dw up), .agg (.gen [.int .i64 ek, .int .i64 en])] (Zhd (ZcM ks rs l wn fl ⟨at0,mo,dn,ha,ba,to,dw,up⟩ ek en) (ZaT l wn fl ⟨at0,mo,dn,ha,ba,to,dw,up⟩ ek en)) none:=by
 have hk:0≤ek∧ek≤8:=by
  have:=h.e
  unfold evE at this
  split at this
  ·rename_i hw;exact within_iff.1 hw
  ·cases this
 rcases show ek=0∨ek=1∨ek=2∨ek=3∨ek=4∨ek=5∨ek=6∨ek=7∨ek=8 by omega with rfl |rfl |rfl |rfl |rfl |rfl |rfl |rfl |rfl
 ·exact ZIy _ _ _ _ _ _ _ _ _ _ _ _ _ _ _ h
 ·exact ZKf _ _ _ _ _ _ _ _ _ _ _ _ _ _ _ h
 ·exact ZKO _ _ _ _ _ _ _ _ _ _ _ _ _ _ _ h
 ·exact ZJ3 _ _ _ _ _ _ _ _ _ _ _ _ _ _ _ h
 ·exact ZIV _ _ _ _ _ _ _ _ _ _ _ _ _ _ _ h
 ·exact ZIM _ _ _ _ _ _ _ _ _ _ _ _ _ _ _ h
 ·exact ZIs _ _ _ _ _ _ _ _ _ _ _ _ _ _ _ h
 ·exact ZKy _ _ _ _ _ _ _ _ _ _ _ _ _ _ _ h
 ·exact ZKM _ _ _ _ _ _ _ _ _ _ _ _ _ _ _ h
def okA(ms ks rs l:zA)(wn fl:Int)(s:ST)(k n:Int):Bool:=decide (upE ms ks rs l wn fl=0∧stE ks rs l fl s.t s.mo s.dn s.ha s.ba s.to s.dw s.up=0∧evE k n=0)
def k49:Ctr:=⟨49,0,fun _ a=>match a with |[.agg (.gen [.list (.big .str ms), .list (.big (.agg [.str, .int .i64]) ks), .list (.big (.agg [.str, .int .i64, .int .i64, .int .i64, .int .i64]) rs), .list (.big (.agg [.int .i64, .int .i64, .int .i64]) l), .int .i64 wn, .int .i64 fl]), .agg (.gen [.int .i64 at0, .int .i64 mo, .list (.big (.agg [.int .i64, .int .i64]) dn), .bool ha, .int .i64 ba, .bool to, .list (.ints .i64 dw), .list (.big (.agg [.int .i64, .bool]) up)]), .agg (.gen [.int .i64 ek, .int .i64 en])]=>some (decide (okA ms ks rs l wn fl ⟨at0,mo,dn,ha,ba,to,dw,up⟩ ek en=true), .tup [.agg (.gen [.int .i64 (ZcM ks rs l wn fl ⟨at0,mo,dn,ha,ba,to,dw,up⟩ ek en).t, .int .i64 (ZcM ks rs l wn fl ⟨at0,mo,dn,ha,ba,to,dw,up⟩ ek en).mo, .list (.big (.agg [.int .i64, .int .i64]) (ZcM ks rs l wn fl ⟨at0,mo,dn,ha,ba,to,dw,up⟩ ek en).dn), .bool (ZcM ks rs l wn fl ⟨at0,mo,dn,ha,ba,to,dw,up⟩ ek en).ha, .int .i64 (ZcM ks rs l wn fl ⟨at0,mo,dn,ha,ba,to,dw,up⟩ ek en).ba, .bool (ZcM ks rs l wn fl ⟨at0,mo,dn,ha,ba,to,dw,up⟩ ek en).to, .list (.ints .i64 (ZcM ks rs l wn fl ⟨at0,mo,dn,ha,ba,to,dw,up⟩ ek en).dw), .list (.big (.agg [.int .i64, .bool]) (ZcM ks rs l wn fl ⟨at0,mo,dn,ha,ba,to,dw,up⟩ ek en).up)]), .int .i64 (ZaT l wn fl ⟨at0,mo,dn,ha,ba,to,dw,up⟩ ek en)],none) |_=>none⟩
theorem ZFC:k49.OK Tryz.prog:=fun pa args r fr h=>by
 simp only[k49]at h
 split at h
 ·simp only[zS,zP,decide_eq_true_eq]at h
  obtain⟨h0,rfl,rfl⟩:=h
  exact Zqg _ _ _ _ _ _ _ _ _ _ _ _ _ _ _ _ ((of_decide_eq_true h0).elim fun a b=>⟨a,b.1,b.2⟩)
 ·cases h
def Bp:List Ctr:=[k49]++Bn
theorem Zmz:ZaF Tryz.prog Bp:=⟨ZFC,Za4⟩
end Go.Proofs.YtkeoeooghhjibaaGreatDoor
namespace Go.Proofs.YtkeoeooghhjibaaGreatDoor
variable {A:Ar}{K:KT}{F:FT}{M:MT}
set_option maxRecDepth 100000
set_option linter.unusedVariables false
def ZCw:AFrame:=vF 96 24 [] [.code a96.code] [.tmp 0]
def ZM9:List AFrame:=[ZCw]
theorem ZzY:Zam tab 96 []=some ZCw:=rfl
def Zml:List AFrame:=[vF 96 24 [(1,AV.nils),vI 2 1] (vC Zxb ZGb) [.tmp 0]]
def Zj5:Zad:=[]
abbrev Zp4:List AFrame×Zad:=(Zml,Zj5 )
def ZlS:List AFrame:=[vF 96 24 [(1,AV.nils),vI 2 1,vI 3 0] (vC Zyz ZHg) [.tmp 0]]
def ZkB:Zad:=[]
abbrev ZpD:List AFrame×Zad:=(ZlS,ZkB )
def ZhX(n0:Int)(x1:zA)(n2:Int):List AFrame:=[vF 96 24 [vR 1 96023,vI 2 n2,vI 3 n0] (vC Zyz ZHg) [.tmp 0]]
def Zf4(n0:Int)(x1:zA)(n2:Int):Zad:=[vH 96023 63 2 (Row.big vsD x1)]
abbrev Zez(n0:Int)(x1:zA)(n2:Int):List AFrame×Zad:=(ZhX n0 x1 n2,Zf4 n0 x1 n2)
def Zfx(x1:zA)(n3:Int):List AFrame:=[vF 96 24 [vR 1 96023,vI 2 n3] (vC Zxb ZGb) [.tmp 0]]
def Zep(x1:zA)(n3:Int):Zad:=[vH 96023 63 2 (Row.big vsD x1)]
abbrev ZpL(x1:zA)(n3:Int):List AFrame×Zad:=(Zfx x1 n3,Zep x1 n3)
def ZB0(A:Ar)(K:KT)(F:FT):Prop:=K (Zp4 )
theorem ZIq :Zaw A tab Bp 96 K F M (.run 16 (.hd)) (ZM9 ) []=ZB0 A K F :=by kernel_rfl
def Zkp(A:Ar)(K:KT)(F:FT):Prop:=rB [A.lt 1 9] (K (ZpD ))
theorem Zqo :Zaw A tab Bp 96 K F M (.run 7 (.ty (.run 10 (.hd)))) (Zml ) (Zj5 )=Zkp A K F :=by kernel_rfl
def Zjq(A:Ar)(K:KT)(F:FT):Prop:=let u0:=A.lenA [AV.agg (Row.gen [.int .i64 1, .int .i64 0])];rB [A.lt 0 12] (rB [A.eq 0 0] (rB [A.inR .i64 (A.add 0 1),Zag (Nat.ble u0 4294967296) (Nat.blt 0 u0),List.all [AV.agg (Row.gen [.int .i64 1, .int .i64 0])] fun x=>AV.bx x&&Nat.beq (Zac A x) 2] (K (Zez (A.add 0 1) ([AV.agg (Row.gen [.int .i64 1, .int .i64 0])]) 1))))
theorem Zqn :Zaw A tab Bp 96 K F M (.run 7 (.ty (.run 17 (.ty (.run 15 (.hd)))))) (ZlS ) (ZkB )=Zjq A K F :=by kernel_rfl
def ZeI(A:Ar)(K:KT)(F:FT)(n0:Int)(x1:zA)(n2:Int):Prop:=let u0:=A.add n0 1;bB (A.lt n0 12) (bB (A.eq (evE n2 n0) 0) (rB [A.inR .i64 u0,Nat.ble (A.lenA x1+A.lenA [AV.agg (Row.gen [.int .i64 n2, .int .i64 n0])]) 4294967296,List.all [AV.agg (Row.gen [.int .i64 n2, .int .i64 n0])] fun x=>AV.bx x&&Nat.beq (Zac A x) 2] (K (Zez u0 (A.appA x1 [AV.agg (Row.gen [.int .i64 n2, .int .i64 n0])]) n2))) (rB [A.inR .i64 u0] (K (Zez u0 x1 n2)))) (rB [A.inR .i64 (A.add n2 1)] (K (ZpL x1 (A.add n2 1))))
theorem ZkH{n0:Int}{x1:zA}{n2:Int} :vT A tab Bp 96 K F M (.run 7 (.tf (.run 17 (.tf (.run 15 (.hd)) (.run 9 (.hd)))) (.run 9 (.hd)))) (Zez n0 x1 n2)=ZeI A K F n0 x1 n2:=by kernel_rfl
def ZgV(A:Ar)(K:KT)(F:FT)(x1:zA)(n3:Int):Prop:=bB (A.lt n3 9) (K (Zez 0 x1 n3)) (F (AV.row 0 0) (some { e:=63,sz:=2,r:=Row.big (.agg [.int .i64, .int .i64]) x1 }))
theorem ZjI{x1:zA}{n3:Int} :vT A tab Bp 96 K F M (.run 7 (.tf (.run 10 (.hd)) (.run 7 (.fn)))) (ZpL x1 n3)=ZgV A K F x1 n3:=by kernel_rfl
end Go.Proofs.YtkeoeooghhjibaaGreatDoor
namespace Go.Proofs.YtkeoeooghhjibaaGreatDoor
variable {A:Ar}{K:KT}{F:FT}{M:MT}
def evV(k n:Int):AV:=.agg (.gen [.int .i64 k, .int .i64 n])
def evN(k:Int):Nat→Nat→zA
 |0,_=>[]
 |m+1,n=>if evE k n=0 then evV k n::evN k m (n+1)else evN k m (n+1)
def evK:Nat→Nat→zA
 |0,_=>[]
 |m+1,k=>evN k 12 0++evK m (k+1)
theorem Zrq(k:Int):∀m n:Nat,(evN k m n).length≤m
 |0,_=>Nat.le_refl _
 |m+1,n=>by
  have:=Zrq k m (n+1)
  rw[evN]
  split
  ·simp only[List.length_cons];omega
  ·omega
theorem ZGy(xs ys:zA)(h:xs=ys):∃r'',Wk (.row 0 0) r''∧Frz (some ⟨63,2, .big (.agg [.int .i64, .int .i64]) xs⟩) r'' (.list (.big (.agg [.int .i64, .int .i64]) ys))∧ZhH (some ⟨63,2, .big (.agg [.int .i64, .int .i64]) xs⟩)=false:=by
 subst h
 exact⟨_, .same _, .one (.row _ rfl rfl rfl),rfl⟩
theorem ZuQ{C:Ctx}(hC:C.P=Tryz.prog)(r:AV)(k:Nat)(hk:k≤8):∀(m n:Nat) (acc:zA),n+m=12→acc.length+m≤1000000→vE C (ZpL (acc++evN k m n) (k+1)) (Zh2 96 r)→vE C (Zez n acc k) (Zh2 96 r)
 |0,n,acc,hn,ha,hq=>Zho hC Zmz ZkH (by
  simp[ZeI,show ¬(n:Int)<12 by omega]
  exact⟨by omega,by simpa[evN]using hq⟩)
 |m+1,n,acc,hn,ha,hq=>by
  have hlt:(n:Int)<12:=by omega
  refine Zho hC Zmz ZkH ?_
  by_cases h:evE k n=0
  ·have ih:=ZuQ hC r k hk m (n+1) (acc++[evV k n]) (by omega) (by simp;omega) (by rw[evN,if_pos h]at hq;simpa using hq)
   unfold evV at ih
   simp[ZeI,hlt,h,AV.bx,Zac,ZbU]
   first |(exact ⟨by omega,by omega,by simpa using ih⟩) |exact⟨by omega,by simpa using ih⟩
  ·have ih:=ZuQ hC r k hk m (n+1) acc (by omega) (by omega) (by rw[evN,if_neg h]at hq;exact hq)
   simp[ZeI,hlt,h]
   exact⟨by omega,by simpa using ih⟩
theorem ZvU{C:Ctx}(hC:C.P=Tryz.prog):∀(m k:Nat) (acc:zA),k+m=9→acc.length+12*m≤1000000→vE C (ZpL acc k) (Zh2 96 (.list (.big (.agg [.int .i64, .int .i64]) (acc++evK m k))))
 |0,k,acc,hk,ha=>Zho hC Zmz ZjI (by
  simp only[ZgV,Zy6,ZF3,ZiS,decide_eq_true_eq,if_neg (show ¬(k:Int)<9 by omega)]
  exact ZGy _ _ (by simp[evK]))
 |m+1,k,acc,hk,ha=>by
  have hl:=Zrq k 12 0
  have ih:=ZvU hC m (k+1) (acc++evN k 12 0) (by omega) (by simp;omega)
  rw[List.append_assoc]at ih
  have h1:=ZuQ hC _ k (by omega) 12 0 acc (by omega) (by omega) (by simpa using ih)
  refine Zho hC Zmz ZjI ?_
  simp[ZgV,show(k:Int)<9 by omega]
  rw[evK]
  simpa using h1
theorem Zzb:Zan Tryz.prog 96 [] (.list (.big (.agg [.int .i64, .int .i64]) (evK 8 1))) ZpJ:=
 ZsI ZzY fun C hC=>Zho hC Zmz ZIq (by
  simp only[ZB0]
  refine Zho hC Zmz Zqo ?_
  simp[Zkp]
  refine Zho hC Zmz Zqn ?_
  have ho:=ZvU hC 7 2 (evN 1 12 0) (by decide) (by decide)
  have h1:=ZuQ hC _ 1 (by decide) 11 1 [evV 1 0] (by decide) (by decide) (by
   have e:[evV 1 0]++evN (1:Nat) 11 1=evN 1 12 0:=rfl
   rw[e];simpa using ho)
  have e2:evN 1 12 0++evK 7 2=evK 8 1:=rfl
  rw[e2]at h1
  unfold evV at h1
  simp[Zjq,AV.bx,Zac,ZbU]
  simpa using h1)
def evtL:zA:=evK 8 1
theorem Zlu:evtL=evK 8 1:=rfl
attribute [irreducible] evtL
theorem Zu4:Zan Tryz.prog 96 [] (.list (.big (.agg [.int .i64, .int .i64]) evtL)) ZpJ:=by rw[Zlu];exact Zzb
def k96:Ctr:=⟨96,0,fun _ a=>match a with |[]=>some (decide (true=true), .list (.big (.agg [.int .i64, .int .i64]) evtL),ZpJ) |_=>none⟩
theorem ZDX:k96.OK Tryz.prog:=fun pa args r fr h=>by
 simp only[k96]at h
 split at h
 ·simp only[zS,zP,decide_eq_true_eq]at h
  obtain⟨h0,rfl,rfl⟩:=h
  exact Zu4
 ·cases h
def Bq:List Ctr:=[k96]++Bp
theorem Zqj:ZaF Tryz.prog Bq:=⟨ZDX,Zmz⟩
end Go.Proofs.YtkeoeooghhjibaaGreatDoor
namespace Go.Proofs.YtkeoeooghhjibaaGreatDoor
variable {A:Ar}{K:KT}{F:FT}{M:MT}
set_option maxRecDepth 100000
set_option linter.unusedVariables false
def ZBW(ms ks rs l:zA)(wn fl at0 mo:Int)(dn:zA)(ha:Bool)(ba:Int)(to:Bool)(dw:zI)(up:zA):AFrame:=vF 48 37 [(0,vU ms ks rs l wn fl),(1,vS at0 mo dn ha ba to dw up)] [.code a48.code] [.tmp 4]
def ZNT(ms ks rs l:zA)(wn fl at0 mo:Int)(dn:zA)(ha:Bool)(ba:Int)(to:Bool)(dw:zI)(up:zA):List AFrame:=[(ZBW ms ks rs l wn fl at0 mo dn ha ba to dw up)]
theorem ZAT(ms ks rs l:zA)(wn fl at0 mo:Int)(dn:zA)(ha:Bool)(ba:Int)(to:Bool)(dw:zI)(up:zA):Zam tab 48 [vU ms ks rs l wn fl,vS at0 mo dn ha ba to dw up]=some (ZBW ms ks rs l wn fl at0 mo dn ha ba to dw up):=rfl
def ZiV(ms ks rs l:zA)(wn fl at0 mo:Int)(dn:zA)(ha:Bool)(ba:Int)(to:Bool)(dw:zI)(up:zA)(n0:Int):List AFrame:=[vF 48 37 [vP 2 48003,vP 3 48004,(5,AV.nils),(6,vl vsD evtL),vI 7 n0] (vC Zxk ZGo) [.tmp 4]]
def Zge(ms ks rs l:zA)(wn fl at0 mo:Int)(dn:zA)(ha:Bool)(ba:Int)(to:Bool)(dw:zI)(up:zA)(n0:Int):Zad:=[vH 48003 29 6 (vx [vU ms ks rs l wn fl]),vH 48004 37 8 (vx [vS at0 mo dn ha ba to dw up])]
abbrev Zkd(ms ks rs l:zA)(wn fl at0 mo:Int)(dn:zA)(ha:Bool)(ba:Int)(to:Bool)(dw:zI)(up:zA)(n0:Int):List AFrame×Zad:=(ZiV ms ks rs l wn fl at0 mo dn ha ba to dw up n0,Zge ms ks rs l wn fl at0 mo dn ha ba to dw up n0)
def ZiY(ms ks rs l:zA)(wn fl at0 mo:Int)(dn:zA)(ha:Bool)(ba:Int)(to:Bool)(dw:zI)(up:zA)(n1:Int)(x2:zA):List AFrame:=[vF 48 37 [vP 2 48003,vP 3 48004,vR 5 48036,(6,vl vsD evtL),vI 7 n1] (vC Zxk ZGo) [.tmp 4]]
def Zgl(ms ks rs l:zA)(wn fl at0 mo:Int)(dn:zA)(ha:Bool)(ba:Int)(to:Bool)(dw:zI)(up:zA)(n1:Int)(x2:zA):Zad:=[vH 48003 29 6 (vx [vU ms ks rs l wn fl]),vH 48004 37 8 (vx [vS at0 mo dn ha ba to dw up]),vH 48036 63 2 (Row.big vsD x2)]
abbrev ZgS(ms ks rs l:zA)(wn fl at0 mo:Int)(dn:zA)(ha:Bool)(ba:Int)(to:Bool)(dw:zI)(up:zA)(n1:Int)(x2:zA):List AFrame×Zad:=(ZiY ms ks rs l wn fl at0 mo dn ha ba to dw up n1 x2,Zgl ms ks rs l wn fl at0 mo dn ha ba to dw up n1 x2)
def ZCt(A:Ar)(K:KT)(F:FT)(ms ks rs l:zA)(wn fl at0 mo:Int)(dn:zA)(ha:Bool)(ba:Int)(to:Bool)(dw:zI)(up:zA):Prop:=K (Zkd ms ks rs l wn fl at0 mo dn ha ba to dw up 0)
theorem ZJQ{ms ks rs l:zA}{wn fl at0 mo:Int}{dn:zA}{ha:Bool}{ba:Int}{to:Bool}{dw:zI}{up:zA} :Zaw A tab Bq 48 K F M (.run 23 (.hd)) (ZNT ms ks rs l wn fl at0 mo dn ha ba to dw up) []=ZCt A K F ms ks rs l wn fl at0 mo dn ha ba to dw up:=by kernel_rfl
def Zej(A:Ar)(K:KT)(F:FT)(ms ks rs l:zA)(wn fl at0 mo:Int)(dn:zA)(ha:Bool)(ba:Int)(to:Bool)(dw:zI)(up:zA)(n0:Int):Prop:=let u4:=A.nat n0;let u0:=A.nthA evtL u4;let u1:=A.lenA [AV.agg (Row.gen [.int .i64 (u0.cellAt 0).toI, .int .i64 (u0.cellAt 1).toI])];let u2:=A.add n0 1;let u3:=A.lenA evtL;bB (A.lt n0 (A.int u3)) (rB [decide (okA ms ks rs l wn fl ⟨at0,mo,dn,ha,ba,to,dw,up⟩ (u0.cellAt 0).toI (u0.cellAt 1).toI=true),Zag (Zag (A.le 0 n0) (Nat.blt u4 u3)) true] (bB (A.eq (ZaT l wn fl ⟨at0,mo,dn,ha,ba,to,dw,up⟩ (u0.cellAt 0).toI (u0.cellAt 1).toI) 0) (rB [A.inR .i64 u2,Zag (Nat.ble u1 4294967296) (Nat.blt 0 u1),List.all [AV.agg (Row.gen [.int .i64 (u0.cellAt 0).toI, .int .i64 (u0.cellAt 1).toI])] fun x=>AV.bx x&&Nat.beq (Zac A x) 2,Zag (Zag (A.le 0 n0) (Nat.blt u4 u3)) true] (K (ZgS ms ks rs l wn fl at0 mo dn ha ba to dw up u2 ([AV.agg (Row.gen [.int .i64 (u0.cellAt 0).toI, .int .i64 (u0.cellAt 1).toI])])))) (rB [A.inR .i64 u2] (K (Zkd ms ks rs l wn fl at0 mo dn ha ba to dw up u2))))) (F (AV.nils) none)
theorem Zjp{ms ks rs l:zA}{wn fl at0 mo:Int}{dn:zA}{ha:Bool}{ba:Int}{to:Bool}{dw:zI}{up:zA}{n0:Int} :vT A tab Bq 48 K F M (.run 9 (.tf (.run 11 (.tf (.run 18 (.hd)) (.run 9 (.hd)))) (.run 7 (.fn)))) (Zkd ms ks rs l wn fl at0 mo dn ha ba to dw up n0)=Zej A K F ms ks rs l wn fl at0 mo dn ha ba to dw up n0:=by kernel_rfl
def ZeK(A:Ar)(K:KT)(F:FT)(ms ks rs l:zA)(wn fl at0 mo:Int)(dn:zA)(ha:Bool)(ba:Int)(to:Bool)(dw:zI)(up:zA)(n1:Int)(x2:zA):Prop:=let u3:=A.nat n1;let u0:=A.nthA evtL u3;let u1:=A.add n1 1;let u2:=A.lenA evtL;bB (A.lt n1 (A.int u2)) (rB [decide (okA ms ks rs l wn fl ⟨at0,mo,dn,ha,ba,to,dw,up⟩ (u0.cellAt 0).toI (u0.cellAt 1).toI=true),Zag (Zag (A.le 0 n1) (Nat.blt u3 u2)) true] (bB (A.eq (ZaT l wn fl ⟨at0,mo,dn,ha,ba,to,dw,up⟩ (u0.cellAt 0).toI (u0.cellAt 1).toI) 0) (rB [A.inR .i64 u1,Nat.ble (A.lenA x2+A.lenA [AV.agg (Row.gen [.int .i64 (u0.cellAt 0).toI, .int .i64 (u0.cellAt 1).toI])]) 4294967296,List.all [AV.agg (Row.gen [.int .i64 (u0.cellAt 0).toI, .int .i64 (u0.cellAt 1).toI])] fun x=>AV.bx x&&Nat.beq (Zac A x) 2,Zag (Zag (A.le 0 n1) (Nat.blt u3 u2)) true] (K (ZgS ms ks rs l wn fl at0 mo dn ha ba to dw up u1 (A.appA x2 [AV.agg (Row.gen [.int .i64 (u0.cellAt 0).toI, .int .i64 (u0.cellAt 1).toI])])))) (rB [A.inR .i64 u1] (K (ZgS ms ks rs l wn fl at0 mo dn ha ba to dw up u1 x2))))) (F (AV.row 0 0) (some { e:=63,sz:=2,r:=Row.big (.agg [.int .i64, .int .i64]) x2 }))
theorem Zjr{ms ks rs l:zA}{wn fl at0 mo:Int}{dn:zA}{ha:Bool}{ba:Int}{to:Bool}{dw:zI}{up:zA}{n1:Int}{x2:zA} :vT A tab Bq 48 K F M (.run 9 (.tf (.run 11 (.tf (.run 18 (.hd)) (.run 9 (.hd)))) (.run 7 (.fn)))) (ZgS ms ks rs l wn fl at0 mo dn ha ba to dw up n1 x2)=ZeK A K F ms ks rs l wn fl at0 mo dn ha ba to dw up n1 x2:=by kernel_rfl
end Go.Proofs.YtkeoeooghhjibaaGreatDoor
namespace Go.Proofs.YtkeoeooghhjibaaGreatDoor
variable {A:Ar}{K:KT}{F:FT}{M:MT}
theorem ZtX:(evK 8 1).all (fun x=>decide (evE ((x.cellAt 0).toI) ((x.cellAt 1).toI)=0))=true:=by kernel_rfl
theorem ZkQ:evtL.length=44:=by rw[Zlu];kernel_rfl
theorem ZrF(k:Nat)(h:k<evtL.length):evE (((evtL.getD k .top).cellAt 0).toI) (((evtL.getD k .top).cellAt 1).toI)=0:=by
 have hm:evtL.getD k .top∈evtL:=ZdB h
 rw[Zlu]at hm⊢
 exact of_decide_eq_true (List.all_eq_true.1 ZtX _ hm)
def ZeN(l:zA)(wn fl:Int)(s:ST):zA→zA
 |[]=>[]
 |x::xs=>if ZaT l wn fl s ((x.cellAt 0).toI) ((x.cellAt 1).toI)=0 then evV ((x.cellAt 0).toI) ((x.cellAt 1).toI)::ZeN l wn fl s xs else ZeN l wn fl s xs
theorem Zk9(l:zA)(wn fl:Int)(s:ST):∀xs:zA,(ZeN l wn fl s xs).length≤xs.length
 |[]=>Nat.le_refl _
 |x::xs=>by
  have:=Zk9 l wn fl s xs
  rw[ZeN]
  split
  ·simp only[List.length_cons];omega
  ·simp only[List.length_cons];omega
theorem ZrK{ms ks rs l:zA}{wn fl:Int}{s:ST}{k n:Int}(h1:upE ms ks rs l wn fl=0)(h2:stE ks rs l fl s.t s.mo s.dn s.ha s.ba s.to s.dw s.up=0)(h3:evE k n=0):okA ms ks rs l wn fl s k n=true:=decide_eq_true ⟨h1,h2,h3⟩
theorem ZDY(ys:zA)(h:ys=[]):∃r'',Wk .nils r''∧Frz none r'' (.list (.big (.agg [.int .i64, .int .i64]) ys))∧ZhH none=false:=by
 subst h
 exact⟨.list (.big (.agg [.int .i64, .int .i64]) []), .nil _ rfl, .one (.same _ rfl rfl),rfl⟩
section
variable {C:Ctx}(hC:C.P=Tryz.prog)(ms ks rs l:zA)(wn fl:Int)(at0 mo:Int)(dn:zA)(ha:Bool)(ba:Int)(to:Bool)(dw:zI)(up:zA)(h1:upE ms ks rs l wn fl=0)(h2:stE ks rs l fl at0 mo dn ha ba to dw up=0)
include hC h1 h2
theorem ZAO:∀(m k:Nat) (acc:zA),k+m=evtL.length→acc.length≤k→vE C (ZgS ms ks rs l wn fl at0 mo dn ha ba to dw up k acc) (Zh2 48 (.list (.big (.agg [.int .i64, .int .i64]) (acc++ZeN l wn fl ⟨at0,mo,dn,ha,ba,to,dw,up⟩ (evtL.drop k)))))
 |0,k,acc,hk,hx=>Zho hC Zqj Zjr (by
  rw[List.drop_of_length_le (by omega)]
  simp only[ZeK,Zy6,ZF3,ZiS,ZcE,decide_eq_true_eq,if_neg (show ¬(k:Int)<evtL.length by omega)]
  exact ZGy _ _ (by simp[ZeN]))
 |m+1,k,acc,hk,hx=>by
  have hl:=ZkQ
  have hlt:(k:Int)<evtL.length:=by omega
  have hlt2:k<evtL.length:=by omega
  have hv:=ZrK (s:=⟨at0,mo,dn,ha,ba,to,dw,up⟩) h1 h2 (ZrF k hlt2)
  refine Zho hC Zqj Zjr ?_
  rw[Zi6 hlt2,ZeN]
  by_cases h:ZaT l wn fl ⟨at0,mo,dn,ha,ba,to,dw,up⟩ (((evtL.getD k .top).cellAt 0).toI) (((evtL.getD k .top).cellAt 1).toI)=0
  ·have ih:=ZAO m (k+1) (acc++[evV (((evtL.getD k .top).cellAt 0).toI) (((evtL.getD k .top).cellAt 1).toI)]) (by omega) (by simp;omega)
   rw[if_pos h]
   unfold evV at ih⊢
   simp[-List.getD_eq_getElem?_getD,ZeK,hlt,hlt2,hv,h,AV.bx,Zac,ZbU]
   exact⟨by omega,by simpa[-List.getD_eq_getElem?_getD]using ih⟩
  ·have ih:=ZAO m (k+1) acc (by omega) (by omega)
   rw[if_neg h]
   simp[-List.getD_eq_getElem?_getD,ZeK,hlt,hlt2,hv,h]
   exact⟨by omega,by simpa[-List.getD_eq_getElem?_getD]using ih⟩
theorem ZHs:∀(m k:Nat),k+m=evtL.length→vE C (Zkd ms ks rs l wn fl at0 mo dn ha ba to dw up k) (Zh2 48 (.list (.big (.agg [.int .i64, .int .i64]) (ZeN l wn fl ⟨at0,mo,dn,ha,ba,to,dw,up⟩ (evtL.drop k)))))
 |0,k,hk=>Zho hC Zqj Zjp (by
  rw[List.drop_of_length_le (by omega)]
  simp only[Zej,Zy6,ZF3,ZiS,ZcE,decide_eq_true_eq,if_neg (show ¬(k:Int)<evtL.length by omega)]
  exact ZDY _ rfl)
 |m+1,k,hk=>by
  have hl:=ZkQ
  have hlt:(k:Int)<evtL.length:=by omega
  have hlt2:k<evtL.length:=by omega
  have hv:=ZrK (s:=⟨at0,mo,dn,ha,ba,to,dw,up⟩) h1 h2 (ZrF k hlt2)
  refine Zho hC Zqj Zjp ?_
  rw[Zi6 hlt2,ZeN]
  by_cases h:ZaT l wn fl ⟨at0,mo,dn,ha,ba,to,dw,up⟩ (((evtL.getD k .top).cellAt 0).toI) (((evtL.getD k .top).cellAt 1).toI)=0
  ·have ih:=ZAO hC ms ks rs l wn fl at0 mo dn ha ba to dw up h1 h2 m (k+1) [evV (((evtL.getD k .top).cellAt 0).toI) (((evtL.getD k .top).cellAt 1).toI)] (by omega) (by simp)
   rw[if_pos h]
   unfold evV at ih⊢
   simp[-List.getD_eq_getElem?_getD,Zej,hlt,hlt2,hv,h,AV.bx,Zac,ZbU]
   exact⟨by omega,by simpa[-List.getD_eq_getElem?_getD]using ih⟩
  ·have ih:=ZHs m (k+1) (by omega)
   rw[if_neg h]
   simp[-List.getD_eq_getElem?_getD,Zej,hlt,hlt2,hv,h]
   exact⟨by omega,by simpa[-List.getD_eq_getElem?_getD]using ih⟩
end
def ZBG(l:zA)(wn fl:Int)(s:ST):zA:=ZeN l wn fl s evtL
theorem ZtK(ms ks rs l:zA)(wn fl:Int)(at0 mo:Int)(dn:zA)(ha:Bool)(ba:Int)(to:Bool)(dw:zI)(up:zA)(h:upE ms ks rs l wn fl=0∧stE ks rs l fl at0 mo dn ha ba to dw up=0):Zan Tryz.prog 48 [vU ms ks rs l wn fl, (vS at0 mo dn ha ba to dw up)] (.list (.big (.agg [.int .i64, .int .i64]) (ZBG l wn fl ⟨at0,mo,dn,ha,ba,to,dw,up⟩))) ZpJ:=
 ZsI (ZAT ms ks rs l wn fl at0 mo dn ha ba to dw up) fun C hC=>Zho hC Zqj ZJQ (by
  have:=ZHs hC ms ks rs l wn fl at0 mo dn ha ba to dw up h.1 h.2 evtL.length 0 (by omega)
  simp only[ZCt]
  simpa[ZBG]using this)
def k48:Ctr:=⟨48,0,fun _ a=>match a with |[.agg (.gen [.list (.big .str ms), .list (.big (.agg [.str, .int .i64]) ks), .list (.big (.agg [.str, .int .i64, .int .i64, .int .i64, .int .i64]) rs), .list (.big (.agg [.int .i64, .int .i64, .int .i64]) l), .int .i64 wn, .int .i64 fl]), .agg (.gen [.int .i64 at0, .int .i64 mo, .list (.big (.agg [.int .i64, .int .i64]) dn), .bool ha, .int .i64 ba, .bool to, .list (.ints .i64 dw), .list (.big (.agg [.int .i64, .bool]) up)])]=>some (decide (upE ms ks rs l wn fl=0∧stE ks rs l fl at0 mo dn ha ba to dw up=0), .list (.big (.agg [.int .i64, .int .i64]) (ZBG l wn fl ⟨at0,mo,dn,ha,ba,to,dw,up⟩)),ZpJ) |_=>none⟩
theorem ZCA:k48.OK Tryz.prog:=fun pa args r fr h=>by
 simp only[k48]at h
 split at h
 ·simp only[zS,zP,decide_eq_true_eq]at h
  obtain⟨h0,rfl,rfl⟩:=h
  exact ZtK _ _ _ _ _ _ _ _ _ _ _ _ _ _ h0
 ·cases h
def Br:List Ctr:=[k48]++Bq
theorem ZKw:ZaF Tryz.prog Br:=⟨ZCA,Zqj⟩
end Go.Proofs.YtkeoeooghhjibaaGreatDoor
