/- Contracts as a list. No condition. -/
import Derived.Test.YtkeoeooghhjibaaGreatDoorQi
namespace Go.Proofs.YtkeoeooghhjibaaGreatDoor
section
variable {C:Ctx}(hC:C.P=Tryz.prog)(ms ks rs l:List AV)(wn fl:Int)(at0 mo:Int)(dn:List AV)(ha:Bool)(ba:Int)(to:Bool)(dw:List Int)(up:List AV)(en:Int)
include hC
theorem ZDi(h:OkA ms ks rs l wn fl ⟨at0,mo,dn,ha,ba,to,dw,up⟩ 0 en):Ev C (ZaV ms ks rs l wn fl at0 mo dn ha ba to dw up 0 en (m0L ks l dn dn.length) (m0A ks l dn.length) dn.length 0 up.length up.length) (ZaQ ms ks rs l wn fl at0 mo dn ha ba to dw up 0 en (m0L ks l dn dn.length) (m0A ks l dn.length) dn.length 0 up.length up.length) (ZhC 40 (ZkO (Zlf ks rs l wn fl ⟨at0,mo,dn,ha,ba,to,dw,up⟩ 0 en) (ZbW l wn fl ⟨at0,mo,dn,ha,ba,to,dw,up⟩ 0 en)) none):=
 ZjB hC Zdg ZaW (by
  obtain⟨g0,g1,g2,g3,g4,g5,g6,g7⟩:=Zi1 h
  have he:=h.e
  have h0:¬(up.length:Int)<up.length:=by omega
  have hv:=ev0 h.e
  by_cases h1:1000000000000<at0+en
  ·have hr:=ZbC (ks:=ks) (rs:=rs) (l:=l) (wn:=wn) (fl:=fl) (s:=⟨at0,mo,dn,ha,ba,to,dw,up⟩) (k:=0) (n:=en) (e:=2) (by simp[ZbW];omega) (by decide)
   simp[-List.getD_eq_getElem?_getD,Zan,AV.bx,Zad,h0,he,Zaf,Zaa,h1]
   repeat refine⟨by omega,?_⟩
   exact hr
  ·have hr:=Zbb (ks:=ks) (rs:=rs) (l:=l) (wn:=wn) (fl:=fl) (s:=⟨at0,mo,dn,ha,ba,to,dw,up⟩) (k:=0) (n:=en) (by simp[ZbW];omega) (rfl)
   simp[-List.getD_eq_getElem?_getD,Zan,AV.bx,Zad,h0,he,Zaf,Zaa,h1]
   repeat refine⟨by omega,?_⟩
   exact hr)
theorem ZFa(h:OkA ms ks rs l wn fl ⟨at0,mo,dn,ha,ba,to,dw,up⟩ 1 en):Ev C (ZaV ms ks rs l wn fl at0 mo dn ha ba to dw up 1 en (m0L ks l dn dn.length) (m0A ks l dn.length) dn.length 0 up.length up.length) (ZaQ ms ks rs l wn fl at0 mo dn ha ba to dw up 1 en (m0L ks l dn dn.length) (m0A ks l dn.length) dn.length 0 up.length up.length) (ZhC 40 (ZkO (Zlf ks rs l wn fl ⟨at0,mo,dn,ha,ba,to,dw,up⟩ 1 en) (ZbW l wn fl ⟨at0,mo,dn,ha,ba,to,dw,up⟩ 1 en)) none):=
 ZjB hC Zdg ZaW (by
  obtain⟨g0,g1,g2,g3,g4,g5,g6,g7⟩:=Zi1 h
  have he:=h.e
  have h0:¬(up.length:Int)<up.length:=by omega
  have hv:=ev1 h.e
  by_cases h1:en<l.length
  ·cases to
   ·by_cases h2:Zab en ba (ba+wn-1)=true
    ·by_cases h3:(dw.length:Int)<fl
     ·have hr:=Zbb (ks:=ks) (rs:=rs) (l:=l) (wn:=wn) (fl:=fl) (s:=⟨at0,mo,dn,ha,ba,false,dw,up⟩) (k:=1) (n:=en) (by simp[ZbW,h1,h2,h3]) (rfl)
      simp[-List.getD_eq_getElem?_getD,Zan,AV.bx,Zad,h0,he,Zaf,Zaa,h1,h2,h3]
      repeat refine⟨by omega,?_⟩
      exact hr
     ·have hr:=ZbC (ks:=ks) (rs:=rs) (l:=l) (wn:=wn) (fl:=fl) (s:=⟨at0,mo,dn,ha,ba,false,dw,up⟩) (k:=1) (n:=en) (e:=16) (by simp[ZbW,h1,h2,h3]) (by decide)
      simp[-List.getD_eq_getElem?_getD,Zan,AV.bx,Zad,h0,he,Zaf,Zaa,h1,h2,h3]
      repeat refine⟨by omega,?_⟩
      exact hr
    ·have hr:=ZbC (ks:=ks) (rs:=rs) (l:=l) (wn:=wn) (fl:=fl) (s:=⟨at0,mo,dn,ha,ba,false,dw,up⟩) (k:=1) (n:=en) (e:=26) (by simp[ZbW,h1,h2]) (by decide)
     simp[-List.getD_eq_getElem?_getD,Zan,AV.bx,Zad,h0,he,Zaf,Zaa,h1,h2]
     repeat refine⟨by omega,?_⟩
     exact hr
   ·have hr:=ZbC (ks:=ks) (rs:=rs) (l:=l) (wn:=wn) (fl:=fl) (s:=⟨at0,mo,dn,ha,ba,true,dw,up⟩) (k:=1) (n:=en) (e:=21) (by simp[ZbW,h1]) (by decide)
    simp[-List.getD_eq_getElem?_getD,Zan,AV.bx,Zad,h0,he,Zaf,Zaa,h1]
    repeat refine⟨by omega,?_⟩
    exact hr
  ·have hr:=ZbC (ks:=ks) (rs:=rs) (l:=l) (wn:=wn) (fl:=fl) (s:=⟨at0,mo,dn,ha,ba,to,dw,up⟩) (k:=1) (n:=en) (e:=6) (by simp[ZbW,h1]) (by decide)
   simp[-List.getD_eq_getElem?_getD,Zan,AV.bx,Zad,h0,he,Zaf,Zaa,h1]
   repeat refine⟨by omega,?_⟩
   exact hr)
theorem ZCR(h:OkA ms ks rs l wn fl ⟨at0,mo,dn,ha,ba,to,dw,up⟩ 4 en):Ev C (ZaV ms ks rs l wn fl at0 mo dn ha ba to dw up 4 en (m0L ks l dn dn.length) (m0A ks l dn.length) dn.length 0 up.length up.length) (ZaQ ms ks rs l wn fl at0 mo dn ha ba to dw up 4 en (m0L ks l dn dn.length) (m0A ks l dn.length) dn.length 0 up.length up.length) (ZhC 40 (ZkO (Zlf ks rs l wn fl ⟨at0,mo,dn,ha,ba,to,dw,up⟩ 4 en) (ZbW l wn fl ⟨at0,mo,dn,ha,ba,to,dw,up⟩ 4 en)) none):=
 ZjB hC Zdg ZaW (by
  obtain⟨g0,g1,g2,g3,g4,g5,g6,g7⟩:=Zi1 h
  have he:=h.e
  have h0:¬(up.length:Int)<up.length:=by omega
  have hv:=ZBb (by omega) h.e
  by_cases h1:(dw.length:Int)≤en
  ·have hr:=ZbC (ks:=ks) (rs:=rs) (l:=l) (wn:=wn) (fl:=fl) (s:=⟨at0,mo,dn,ha,ba,to,dw,up⟩) (k:=4) (n:=en) (e:=6) (by simp[ZbW];omega) (by decide)
   simp[-List.getD_eq_getElem?_getD,Zan,AV.bx,Zad,h0,he,Zaf,Zaa,h1]
   repeat refine⟨by omega,?_⟩
   exact hr
  ·have hr:=Zbb (ks:=ks) (rs:=rs) (l:=l) (wn:=wn) (fl:=fl) (s:=⟨at0,mo,dn,ha,ba,to,dw,up⟩) (k:=4) (n:=en) (by simp[ZbW];omega) (rfl)
   obtain⟨c1,c2⟩:=ZAy dw en hv.1 (by omega)
   simp[-List.getD_eq_getElem?_getD,Zan,AV.bx,Zad,h0,he,Zaf,Zaa,h1,Zdw (show 0≤en by omega) (show en<dw.length by omega) (by omega),Zdv (show 0≤en by omega) (show en<dw.length by omega) (by omega),Zhb (show 0≤en by omega) (show en<dw.length by omega),show ¬en=en+1 by omega]
   repeat refine⟨by omega,?_⟩
   exact hr)
theorem ZDz(h:OkA ms ks rs l wn fl ⟨at0,mo,dn,ha,ba,to,dw,up⟩ 5 en):Ev C (ZaV ms ks rs l wn fl at0 mo dn ha ba to dw up 5 en (m0L ks l dn dn.length) (m0A ks l dn.length) dn.length 0 up.length up.length) (ZaQ ms ks rs l wn fl at0 mo dn ha ba to dw up 5 en (m0L ks l dn dn.length) (m0A ks l dn.length) dn.length 0 up.length up.length) (ZhC 40 (ZkO (Zlf ks rs l wn fl ⟨at0,mo,dn,ha,ba,to,dw,up⟩ 5 en) (ZbW l wn fl ⟨at0,mo,dn,ha,ba,to,dw,up⟩ 5 en)) none):=
 ZjB hC Zdg ZaW (by
  obtain⟨g0,g1,g2,g3,g4,g5,g6,g7⟩:=Zi1 h
  have he:=h.e
  have h0:¬(up.length:Int)<up.length:=by omega
  have hv:=ZBb (by omega) h.e
  by_cases h1:(up.length:Int)≤en
  ·have hr:=ZbC (ks:=ks) (rs:=rs) (l:=l) (wn:=wn) (fl:=fl) (s:=⟨at0,mo,dn,ha,ba,to,dw,up⟩) (k:=5) (n:=en) (e:=6) (by simp[ZbW];omega) (by decide)
   simp[-List.getD_eq_getElem?_getD,Zan,AV.bx,Zad,h0,he,Zaf,Zaa,h1]
   repeat refine⟨by omega,?_⟩
   exact hr
  ·have hr:=Zbb (ks:=ks) (rs:=rs) (l:=l) (wn:=wn) (fl:=fl) (s:=⟨at0,mo,dn,ha,ba,to,dw,up⟩) (k:=5) (n:=en) (by simp[ZbW];omega) (rfl)
   obtain⟨c1,c2⟩:=ZAy up en hv.1 (by omega)
   simp[-List.getD_eq_getElem?_getD,Zan,AV.bx,Zad,h0,he,Zaf,Zaa,h1,ZoA (show 0≤en by omega) (show en<up.length by omega) (by omega),Zom (show 0≤en by omega) (show en<up.length by omega) (by omega),ZtS (show 0≤en by omega) (show en<up.length by omega),show ¬en=en+1 by omega]
   repeat refine⟨by omega,?_⟩
   exact hr)
theorem ZEc(h:OkA ms ks rs l wn fl ⟨at0,mo,dn,ha,ba,to,dw,up⟩ 3 en):Ev C (ZaV ms ks rs l wn fl at0 mo dn ha ba to dw up 3 en (m0L ks l dn dn.length) (m0A ks l dn.length) dn.length 0 up.length up.length) (ZaQ ms ks rs l wn fl at0 mo dn ha ba to dw up 3 en (m0L ks l dn dn.length) (m0A ks l dn.length) dn.length 0 up.length up.length) (ZhC 40 (ZkO (Zlf ks rs l wn fl ⟨at0,mo,dn,ha,ba,to,dw,up⟩ 3 en) (ZbW l wn fl ⟨at0,mo,dn,ha,ba,to,dw,up⟩ 3 en)) none):=
 ZjB hC Zdg ZaW (by
  obtain⟨g0,g1,g2,g3,g4,g5,g6,g7⟩:=Zi1 h
  have he:=h.e
  have h0:¬(up.length:Int)<up.length:=by omega
  have hv:=ZBb (by omega) h.e
  by_cases h1:(up.length:Int)≤en
  ·have hr:=ZbC (ks:=ks) (rs:=rs) (l:=l) (wn:=wn) (fl:=fl) (s:=⟨at0,mo,dn,ha,ba,to,dw,up⟩) (k:=3) (n:=en) (e:=6) (by simp[ZbW];omega) (by decide)
   simp[-List.getD_eq_getElem?_getD,Zan,AV.bx,Zad,h0,he,Zaf,Zaa,h1]
   repeat refine⟨by omega,?_⟩
   exact hr
  ·have hr:=Zbb (ks:=ks) (rs:=rs) (l:=l) (wn:=wn) (fl:=fl) (s:=⟨at0,mo,dn,ha,ba,to,dw,up⟩) (k:=3) (n:=en) (by simp[ZbW];omega) (rfl)
   have e1:appS ks rs l fl ⟨at0,mo,dn,ha,ba,to,dw,up⟩ 3 en=⟨at0,mo,dn,ha,max ba (Zaj up en 0),to||((up.getD en.toNat .top).cellAt 1).toB,dw,ZbZ up en⟩:=rfl
   rw[e1]at hr
   have e2:((up.getD en.toNat .top).cellAt 0).toI=Zaj up en 0:=rfl
   obtain⟨c1,c2⟩:=ZAy up en hv.1 (by omega)
   cases to
   ·simp[-List.getD_eq_getElem?_getD,Zan,AV.bx,Zad,h0,he,Zaf,Zaa,h1,c1,c2,ZoA (show 0≤en by omega) (show en<up.length by omega) (by omega),Zom (show 0≤en by omega) (show en<up.length by omega) (by omega),ZtS (show 0≤en by omega) (show en<up.length by omega),show ¬en=en+1 by omega,e2]
    repeat refine⟨by omega,?_⟩
    exact hr
   ·simp[-List.getD_eq_getElem?_getD,Zan,AV.bx,Zad,h0,he,Zaf,Zaa,h1,c1,c2,ZoA (show 0≤en by omega) (show en<up.length by omega) (by omega),Zom (show 0≤en by omega) (show en<up.length by omega) (by omega),ZtS (show 0≤en by omega) (show en<up.length by omega),show ¬en=en+1 by omega,e2]
    repeat refine⟨by omega,?_⟩
    exact hr)
theorem ZCK(h:OkA ms ks rs l wn fl ⟨at0,mo,dn,ha,ba,to,dw,up⟩ 6 en):Ev C (ZaV ms ks rs l wn fl at0 mo dn ha ba to dw up 6 en (m0L ks l dn dn.length) (m0A ks l dn.length) dn.length 0 up.length up.length) (ZaQ ms ks rs l wn fl at0 mo dn ha ba to dw up 6 en (m0L ks l dn dn.length) (m0A ks l dn.length) dn.length 0 up.length up.length) (ZhC 40 (ZkO (Zlf ks rs l wn fl ⟨at0,mo,dn,ha,ba,to,dw,up⟩ 6 en) (ZbW l wn fl ⟨at0,mo,dn,ha,ba,to,dw,up⟩ 6 en)) none):=
 ZjB hC Zdg ZaW (by
  obtain⟨g0,g1,g2,g3,g4,g5,g6,g7⟩:=Zi1 h
  have he:=h.e
  have h0:¬(up.length:Int)<up.length:=by omega
  have hv:=ZBb (by omega) h.e
  by_cases h1:en<dw.length
  ·obtain⟨c1,c2⟩:=ZAy dw en hv.1 h1
   by_cases h3:(dw.length:Int)<fl
   ·have hr:=Zbb (ks:=ks) (rs:=rs) (l:=l) (wn:=wn) (fl:=fl) (s:=⟨at0,mo,dn,ha,ba,to,dw,up⟩) (k:=6) (n:=en) (by simp[ZbW,h1,h3]) (rfl)
    simp[-List.getD_eq_getElem?_getD,Zan,AV.bx,Zad,h0,he,Zaf,Zaa,h1,h3,c2]
    repeat refine⟨by omega,?_⟩
    exact hr
   ·have hr:=ZbC (ks:=ks) (rs:=rs) (l:=l) (wn:=wn) (fl:=fl) (s:=⟨at0,mo,dn,ha,ba,to,dw,up⟩) (k:=6) (n:=en) (e:=16) (by simp[ZbW,h1,h3]) (by decide)
    simp[-List.getD_eq_getElem?_getD,Zan,AV.bx,Zad,h0,he,Zaf,Zaa,h1,h3]
    repeat refine⟨by omega,?_⟩
    exact hr
  ·have hr:=ZbC (ks:=ks) (rs:=rs) (l:=l) (wn:=wn) (fl:=fl) (s:=⟨at0,mo,dn,ha,ba,to,dw,up⟩) (k:=6) (n:=en) (e:=6) (by simp[ZbW,h1]) (by decide)
   simp[-List.getD_eq_getElem?_getD,Zan,AV.bx,Zad,h0,he,Zaf,Zaa,h1]
   repeat refine⟨by omega,?_⟩
   exact hr)
theorem ZE3(h:OkA ms ks rs l wn fl ⟨at0,mo,dn,ha,ba,to,dw,up⟩ 7 en):Ev C (ZaV ms ks rs l wn fl at0 mo dn ha ba to dw up 7 en (m0L ks l dn dn.length) (m0A ks l dn.length) dn.length 0 up.length up.length) (ZaQ ms ks rs l wn fl at0 mo dn ha ba to dw up 7 en (m0L ks l dn dn.length) (m0A ks l dn.length) dn.length 0 up.length up.length) (ZhC 40 (ZkO (Zlf ks rs l wn fl ⟨at0,mo,dn,ha,ba,to,dw,up⟩ 7 en) (ZbW l wn fl ⟨at0,mo,dn,ha,ba,to,dw,up⟩ 7 en)) none):=
 ZjB hC Zdg ZaW (by
  obtain⟨g0,g1,g2,g3,g4,g5,g6,g7⟩:=Zi1 h
  have he:=h.e
  have h0:¬(up.length:Int)<up.length:=by omega
  have hr:=Zbb (ks:=ks) (rs:=rs) (l:=l) (wn:=wn) (fl:=fl) (s:=⟨at0,mo,dn,ha,ba,to,dw,up⟩) (k:=7) (n:=en) (by simp[ZbW]) (rfl)
  simp[-List.getD_eq_getElem?_getD,Zan,AV.bx,Zad,h0,he,Zaf,Zaa]
  repeat refine⟨by omega,?_⟩
  exact hr)
theorem ZDB(h:OkA ms ks rs l wn fl ⟨at0,mo,dn,ha,ba,to,dw,up⟩ 8 en):Ev C (ZaV ms ks rs l wn fl at0 mo dn ha ba to dw up 8 en (m0L ks l dn dn.length) (m0A ks l dn.length) dn.length 0 up.length up.length) (ZaQ ms ks rs l wn fl at0 mo dn ha ba to dw up 8 en (m0L ks l dn dn.length) (m0A ks l dn.length) dn.length 0 up.length up.length) (ZhC 40 (ZkO (Zlf ks rs l wn fl ⟨at0,mo,dn,ha,ba,to,dw,up⟩ 8 en) (ZbW l wn fl ⟨at0,mo,dn,ha,ba,to,dw,up⟩ 8 en)) none):=
 ZjB hC Zdg ZaW (by
  obtain⟨g0,g1,g2,g3,g4,g5,g6,g7⟩:=Zi1 h
  have he:=h.e
  have h0:¬(up.length:Int)<up.length:=by omega
  have hr:=Zbb (ks:=ks) (rs:=rs) (l:=l) (wn:=wn) (fl:=fl) (s:=⟨at0,mo,dn,ha,ba,to,dw,up⟩) (k:=8) (n:=en) (by simp[ZbW]) (s':=_) rfl
  have e1:appS ks rs l fl ⟨at0,mo,dn,ha,ba,to,dw,up⟩ 8 en=Zed fl ⟨at0,mo,dn,ha,ba,to,dw,up⟩:=rfl
  rw[e1]at hr
  unfold Zed ZxJ at hr
  by_cases h1:(up.length:Int)<fl
  ·simp only[if_pos h1]at hr
   simp[-List.getD_eq_getElem?_getD,Zan,AV.bx,Zad,h0,he,Zaf,Zaa,h1,ZxK]
   repeat refine⟨by omega,?_⟩
   exact hr
  ·simp only[if_neg h1]at hr
   simp[-List.getD_eq_getElem?_getD,Zan,AV.bx,Zad,h0,he,Zaf,Zaa,h1]
   repeat refine⟨by omega,?_⟩
   exact hr)
theorem ZDQ(h:OkA ms ks rs l wn fl ⟨at0,mo,dn,ha,ba,to,dw,up⟩ 2 en):Ev C (ZaV ms ks rs l wn fl at0 mo dn ha ba to dw up 2 en (m0L ks l dn dn.length) (m0A ks l dn.length) dn.length 0 up.length up.length) (ZaQ ms ks rs l wn fl at0 mo dn ha ba to dw up 2 en (m0L ks l dn dn.length) (m0A ks l dn.length) dn.length 0 up.length up.length) (ZhC 40 (ZkO (Zlf ks rs l wn fl ⟨at0,mo,dn,ha,ba,to,dw,up⟩ 2 en) (ZbW l wn fl ⟨at0,mo,dn,ha,ba,to,dw,up⟩ 2 en)) none):=
 ZjB hC Zdg ZaW (by
  obtain⟨g0,g1,g2,g3,g4,g5,g6,g7⟩:=Zi1 h
  have he:=h.e
  have h0:¬(up.length:Int)<up.length:=by omega
  obtain⟨hf,_,_⟩:=Zbl h.u
  have hvs:=vs_iff.1 h.s
  have hv:=ZBb (by omega) h.e
  by_cases h1:(dw.length:Int)≤en
  ·have hr:=ZbC (ks:=ks) (rs:=rs) (l:=l) (wn:=wn) (fl:=fl) (s:=⟨at0,mo,dn,ha,ba,to,dw,up⟩) (k:=2) (n:=en) (e:=6) (by simp[ZbW];omega) (by decide)
   simp[-List.getD_eq_getElem?_getD,Zan,AV.bx,Zad,h0,he,Zaf,Zaa,h1]
   repeat refine⟨by omega,?_⟩
   exact hr
  ·obtain⟨c1,c2⟩:=ZAy dw en hv.1 (by omega)
   have hmem:=hvs.down _ (Zgm (d:=0) c2)
   generalize hact:dw.getD en.toNat 0=act at*
   cases ha
   ·by_cases h4:act=(dn.length:Int)
    ·have hdl:dn.length<l.length:=by omega
     have h4':(act=(dn.length:Int))=True:=eq_true h4
     have m1:act.toNat=dn.length:=by omega
     have e2:∀i,((l.getD dn.length .top).cellAt i).toI=Zaj l dn.length i:=fun i=>rfl
     have e5:((ks.getD (Zaj l dn.length 0).toNat .top).cellAt 1).toI=Zaj ks (Zaj l dn.length 0) 1:=rfl
     have hk8:=hf.ks1
     have hlm:=ZtM ks l dn dn.length
     obtain⟨⟨a1,a2⟩,_⟩:=hf.act dn.length hdl
     have hT:=ZsR hf hvs dn.length (Nat.le_refl _)
     have hnx:ZkC ks rs l ⟨at0,mo,dn,false,ba,to,ZbZ dw en,up⟩=ZdB rs (m0A ks l dn.length) at0 (m0L ks l dn dn.length) (Zaj l dn.length 0) (Zaj l dn.length 1) (Zaj l dn.length 2):=rfl
     have hg:Zab at0 (Zaj l dn.length 1) (Zaj l dn.length 2)=false∨ZbS rs at0 (m0L ks l dn dn.length)=true:=by
      cases hw:Zab at0 (Zaj l dn.length 1) (Zaj l dn.length 2)
      ·exact .inl rfl
      ·exact .inr (hT.forb (ms:=ms) (l:=l) hf (ZCl hvs) hvs.t.2)
     by_cases hn:ZdB rs (m0A ks l dn.length) at0 (m0L ks l dn dn.length) (Zaj l dn.length 0) (Zaj l dn.length 1) (Zaj l dn.length 2)=true
     ·have hnx2:=hnx.trans hn
      have hxl:(dn++[dnV act at0]).length=dn.length+1:=by simp
      have e9:upV (((dn++[dnV act at0]).length:Nat):Int) false=.agg (.gen [.int .i64 (dn.length+1), .bool false]):=by simp[upV]
      have hm:m0A ks l (dn.length+1)=exM ks (m0A ks l dn.length) (Zaj l dn.length 0):=Zgn ..
      unfold exM at hm
      by_cases h6:Zaj ks (Zaj l dn.length 0) 1= -1
      ·rw[if_pos h6]at hm
       by_cases h5:(up.length:Int)<fl
       ·have hr:=Zbb (ks:=ks) (rs:=rs) (l:=l) (wn:=wn) (fl:=fl) (s:=⟨at0,mo,dn,false,ba,to,dw,up⟩) (k:=2) (n:=en) (by simp[ZbW];omega) (((show appS ks rs l fl ⟨at0,mo,dn,false,ba,to,dw,up⟩ 2 en=Zed fl (Zh7 ks rs l ⟨at0,mo,dn,false,ba,to,ZbZ dw en,up⟩ act) by rw[←hact];rfl).trans ((ZiV ⟨rfl,h4⟩ hnx2).trans (congrArg (fun x=>Zed fl ⟨at0,x,dn++[dnV act at0],false,ba,to,ZbZ dw en,up⟩) hm))).trans (Zhh h5))
        simp[-List.getD_eq_getElem?_getD,Zan,AV.bx,Zad,h0,he,Zaf,Zaa,h1,c1,c2,hact,Zdw (show 0≤en by omega) (show en<dw.length by omega) (by omega),Zdv (show 0≤en by omega) (show en<dw.length by omega) (by omega),Zhb (show 0≤en by omega) (show en<dw.length by omega),show ¬en=en+1 by omega,h4',m1,e2,e5,hg,hn,h6,a1,a2,hlm,ZrM,h5,ZxK]
        rw[←e9]
        repeat refine⟨by omega,?_⟩
        exact hr
       ·have hr:=Zbb (ks:=ks) (rs:=rs) (l:=l) (wn:=wn) (fl:=fl) (s:=⟨at0,mo,dn,false,ba,to,dw,up⟩) (k:=2) (n:=en) (by simp[ZbW];omega) (((show appS ks rs l fl ⟨at0,mo,dn,false,ba,to,dw,up⟩ 2 en=Zed fl (Zh7 ks rs l ⟨at0,mo,dn,false,ba,to,ZbZ dw en,up⟩ act) by rw[←hact];rfl).trans ((ZiV ⟨rfl,h4⟩ hnx2).trans (congrArg (fun x=>Zed fl ⟨at0,x,dn++[dnV act at0],false,ba,to,ZbZ dw en,up⟩) hm))).trans (ZkA h5))
        simp[-List.getD_eq_getElem?_getD,Zan,AV.bx,Zad,h0,he,Zaf,Zaa,h1,c1,c2,hact,Zdw (show 0≤en by omega) (show en<dw.length by omega) (by omega),Zdv (show 0≤en by omega) (show en<dw.length by omega) (by omega),Zhb (show 0≤en by omega) (show en<dw.length by omega),show ¬en=en+1 by omega,h4',m1,e2,e5,hg,hn,h6,a1,a2,hlm,ZrM,h5]
        repeat refine⟨by omega,?_⟩
        exact hr
      ·rw[if_neg h6]at hm
       by_cases h5:(up.length:Int)<fl
       ·have hr:=Zbb (ks:=ks) (rs:=rs) (l:=l) (wn:=wn) (fl:=fl) (s:=⟨at0,mo,dn,false,ba,to,dw,up⟩) (k:=2) (n:=en) (by simp[ZbW];omega) (((show appS ks rs l fl ⟨at0,mo,dn,false,ba,to,dw,up⟩ 2 en=Zed fl (Zh7 ks rs l ⟨at0,mo,dn,false,ba,to,ZbZ dw en,up⟩ act) by rw[←hact];rfl).trans ((ZiV ⟨rfl,h4⟩ hnx2).trans (congrArg (fun x=>Zed fl ⟨at0,x,dn++[dnV act at0],false,ba,to,ZbZ dw en,up⟩) hm))).trans (Zhh h5))
        simp[-List.getD_eq_getElem?_getD,Zan,AV.bx,Zad,h0,he,Zaf,Zaa,h1,c1,c2,hact,Zdw (show 0≤en by omega) (show en<dw.length by omega) (by omega),Zdv (show 0≤en by omega) (show en<dw.length by omega) (by omega),Zhb (show 0≤en by omega) (show en<dw.length by omega),show ¬en=en+1 by omega,h4',m1,e2,e5,hg,hn,h6,a1,a2,hlm,ZrM,h5,ZxK]
        rw[←e9]
        repeat refine⟨by omega,?_⟩
        exact hr
       ·have hr:=Zbb (ks:=ks) (rs:=rs) (l:=l) (wn:=wn) (fl:=fl) (s:=⟨at0,mo,dn,false,ba,to,dw,up⟩) (k:=2) (n:=en) (by simp[ZbW];omega) (((show appS ks rs l fl ⟨at0,mo,dn,false,ba,to,dw,up⟩ 2 en=Zed fl (Zh7 ks rs l ⟨at0,mo,dn,false,ba,to,ZbZ dw en,up⟩ act) by rw[←hact];rfl).trans ((ZiV ⟨rfl,h4⟩ hnx2).trans (congrArg (fun x=>Zed fl ⟨at0,x,dn++[dnV act at0],false,ba,to,ZbZ dw en,up⟩) hm))).trans (ZkA h5))
        simp[-List.getD_eq_getElem?_getD,Zan,AV.bx,Zad,h0,he,Zaf,Zaa,h1,c1,c2,hact,Zdw (show 0≤en by omega) (show en<dw.length by omega) (by omega),Zdv (show 0≤en by omega) (show en<dw.length by omega) (by omega),Zhb (show 0≤en by omega) (show en<dw.length by omega),show ¬en=en+1 by omega,h4',m1,e2,e5,hg,hn,h6,a1,a2,hlm,ZrM,h5]
        repeat refine⟨by omega,?_⟩
        exact hr
     ·have hnx2:¬ZkC ks rs l ⟨at0,mo,dn,false,ba,to,ZbZ dw en,up⟩=true:=hn
      by_cases h5:(up.length:Int)<fl
      ·have hr:=Zbb (ks:=ks) (rs:=rs) (l:=l) (wn:=wn) (fl:=fl) (s:=⟨at0,mo,dn,false,ba,to,dw,up⟩) (k:=2) (n:=en) (by simp[ZbW];omega) (((show appS ks rs l fl ⟨at0,mo,dn,false,ba,to,dw,up⟩ 2 en=Zed fl (Zh7 ks rs l ⟨at0,mo,dn,false,ba,to,ZbZ dw en,up⟩ act) by rw[←hact];rfl).trans (Zon ⟨rfl,h4⟩ hnx2)).trans (Zhh h5))
       simp[-List.getD_eq_getElem?_getD,Zan,AV.bx,Zad,h0,he,Zaf,Zaa,h1,c1,c2,hact,Zdw (show 0≤en by omega) (show en<dw.length by omega) (by omega),Zdv (show 0≤en by omega) (show en<dw.length by omega) (by omega),Zhb (show 0≤en by omega) (show en<dw.length by omega),show ¬en=en+1 by omega,h4',m1,e2,hg,hn,h5,ZxK]
       repeat refine⟨by omega,?_⟩
       exact hr
      ·have hr:=Zbb (ks:=ks) (rs:=rs) (l:=l) (wn:=wn) (fl:=fl) (s:=⟨at0,mo,dn,false,ba,to,dw,up⟩) (k:=2) (n:=en) (by simp[ZbW];omega) (((show appS ks rs l fl ⟨at0,mo,dn,false,ba,to,dw,up⟩ 2 en=Zed fl (Zh7 ks rs l ⟨at0,mo,dn,false,ba,to,ZbZ dw en,up⟩ act) by rw[←hact];rfl).trans (Zon ⟨rfl,h4⟩ hnx2)).trans (ZkA h5))
       simp[-List.getD_eq_getElem?_getD,Zan,AV.bx,Zad,h0,he,Zaf,Zaa,h1,c1,c2,hact,Zdw (show 0≤en by omega) (show en<dw.length by omega) (by omega),Zdv (show 0≤en by omega) (show en<dw.length by omega) (by omega),Zhb (show 0≤en by omega) (show en<dw.length by omega),show ¬en=en+1 by omega,h4',m1,e2,hg,hn,h5]
       repeat refine⟨by omega,?_⟩
       exact hr
    ·have h3:¬(false=false∧act=(dn.length:Int)):=fun hh=>h4 hh.2
     by_cases h5:(up.length:Int)<fl
     ·have hr:=Zbb (ks:=ks) (rs:=rs) (l:=l) (wn:=wn) (fl:=fl) (s:=⟨at0,mo,dn,false,ba,to,dw,up⟩) (k:=2) (n:=en) (by simp[ZbW];omega) (((show appS ks rs l fl ⟨at0,mo,dn,false,ba,to,dw,up⟩ 2 en=Zed fl (Zh7 ks rs l ⟨at0,mo,dn,false,ba,to,ZbZ dw en,up⟩ act) by rw[←hact];rfl).trans (ZmV h3)).trans (Zhh h5))
      simp[-List.getD_eq_getElem?_getD,Zan,AV.bx,Zad,h0,he,Zaf,Zaa,h1,c1,c2,hact,Zdw (show 0≤en by omega) (show en<dw.length by omega) (by omega),Zdv (show 0≤en by omega) (show en<dw.length by omega) (by omega),Zhb (show 0≤en by omega) (show en<dw.length by omega),show ¬en=en+1 by omega,h4,h5,ZxK]
      repeat refine⟨by omega,?_⟩
      exact hr
     ·have hr:=Zbb (ks:=ks) (rs:=rs) (l:=l) (wn:=wn) (fl:=fl) (s:=⟨at0,mo,dn,false,ba,to,dw,up⟩) (k:=2) (n:=en) (by simp[ZbW];omega) (((show appS ks rs l fl ⟨at0,mo,dn,false,ba,to,dw,up⟩ 2 en=Zed fl (Zh7 ks rs l ⟨at0,mo,dn,false,ba,to,ZbZ dw en,up⟩ act) by rw[←hact];rfl).trans (ZmV h3)).trans (ZkA h5))
      simp[-List.getD_eq_getElem?_getD,Zan,AV.bx,Zad,h0,he,Zaf,Zaa,h1,c1,c2,hact,Zdw (show 0≤en by omega) (show en<dw.length by omega) (by omega),Zdv (show 0≤en by omega) (show en<dw.length by omega) (by omega),Zhb (show 0≤en by omega) (show en<dw.length by omega),show ¬en=en+1 by omega,h4,h5]
      repeat refine⟨by omega,?_⟩
      exact hr
   ·have h3:¬(true=false∧act=(dn.length:Int)):=fun hh=>by cases hh.1
    by_cases h5:(up.length:Int)<fl
    ·have hr:=Zbb (ks:=ks) (rs:=rs) (l:=l) (wn:=wn) (fl:=fl) (s:=⟨at0,mo,dn,true,ba,to,dw,up⟩) (k:=2) (n:=en) (by simp[ZbW];omega) (((show appS ks rs l fl ⟨at0,mo,dn,true,ba,to,dw,up⟩ 2 en=Zed fl (Zh7 ks rs l ⟨at0,mo,dn,true,ba,to,ZbZ dw en,up⟩ act) by rw[←hact];rfl).trans (ZmV h3)).trans (Zhh h5))
     simp[-List.getD_eq_getElem?_getD,Zan,AV.bx,Zad,h0,he,Zaf,Zaa,h1,c1,c2,hact,Zdw (show 0≤en by omega) (show en<dw.length by omega) (by omega),Zdv (show 0≤en by omega) (show en<dw.length by omega) (by omega),Zhb (show 0≤en by omega) (show en<dw.length by omega),show ¬en=en+1 by omega,h5,ZxK]
     repeat refine⟨by omega,?_⟩
     exact hr
    ·have hr:=Zbb (ks:=ks) (rs:=rs) (l:=l) (wn:=wn) (fl:=fl) (s:=⟨at0,mo,dn,true,ba,to,dw,up⟩) (k:=2) (n:=en) (by simp[ZbW];omega) (((show appS ks rs l fl ⟨at0,mo,dn,true,ba,to,dw,up⟩ 2 en=Zed fl (Zh7 ks rs l ⟨at0,mo,dn,true,ba,to,ZbZ dw en,up⟩ act) by rw[←hact];rfl).trans (ZmV h3)).trans (ZkA h5))
     simp[-List.getD_eq_getElem?_getD,Zan,AV.bx,Zad,h0,he,Zaf,Zaa,h1,c1,c2,hact,Zdw (show 0≤en by omega) (show en<dw.length by omega) (by omega),Zdv (show 0≤en by omega) (show en<dw.length by omega) (by omega),Zhb (show 0≤en by omega) (show en<dw.length by omega),show ¬en=en+1 by omega,h5]
     repeat refine⟨by omega,?_⟩
     exact hr)
end
def Bs:List Ctr:=[]++Br
theorem ZEi:ZaD Tryz.prog Bs:=ZDy
end Go.Proofs.YtkeoeooghhjibaaGreatDoor
/- Contracts as a list. No condition. -/
namespace Go.Proofs.YtkeoeooghhjibaaGreatDoor
section
variable {C:Ctx}(hC:C.P=Tryz.prog)(ms ks rs l:List AV)(wn fl:Int)(at0 mo:Int)(dn:List AV)(ha:Bool)(ba:Int)(to:Bool)(dw:List Int)(up:List AV)(ek en:Int){V:AV}
include hC
theorem ZGn(n3 n6:Int)(l1:List Int)(hl:up.length≤1000000)(e':Int)(hq:Ev C (ZaV ms ks rs l wn fl at0 mo dn ha ba to dw up ek en l1 n3 n6 e' up.length up.length) (ZaQ ms ks rs l wn fl at0 mo dn ha ba to dw up ek en l1 n3 n6 e' up.length up.length) (ZhC 40 V none)):∀(m k:Nat) (e:Int),k+m=up.length→e'=(if e=0 then upR n6 ha (up.drop k)else e)→Ev C (ZaV ms ks rs l wn fl at0 mo dn ha ba to dw up ek en l1 n3 n6 e up.length k) (ZaQ ms ks rs l wn fl at0 mo dn ha ba to dw up ek en l1 n3 n6 e up.length k) (ZhC 40 V none)
 |0,k,e,hk,he'=>by
  obtain rfl:k=up.length:=by omega
  rw[List.drop_of_length_le (by omega)]at he'
  obtain rfl:e'=e:=by rw[he',upR];split<;>simp_all
  exact hq
 |m+1,k,e,hk,he'=>by
  have ih:=fun e=>ZGn n3 n6 l1 hl e' hq m (k+1) e (by omega)
  have hlt:(k:Int)<up.length:=by omega
  have hlt2:k<up.length:=by omega
  refine ZjB hC Zdg ZaW ?_
  rw[Zx5 hlt2]at he'
  unfold Zan
  simp only[bx3]
  have hr:(k:Int)+1≤9223372036854775807:=by omega
  generalize hqq:((up.getD k .top).cellAt 0).toI=q at*
  generalize hp:((up.getD k .top).cellAt 1).toB=p at*
  by_cases he:e=0
  ·subst he
   have i0:=ih 0
   have i2:=ih 2
   have i3:=ih 3
   by_cases h3:q=n6
   ·subst h3
    by_cases h1:Zab q 0 q=true<;>cases p<;>cases ha<;>
     simp[-List.getD_eq_getElem?_getD,hlt,hlt2,h1,hqq,hp,upR,Zaf,Zaa]at he' i0 i2 i3⊢ <;>exact⟨by omega,by first |exact i0 he' |exact i2 he' |exact i3 he'⟩
   ·by_cases h1:Zab q 0 n6=true<;>cases p<;>cases ha<;>
     simp[-List.getD_eq_getElem?_getD,hlt,hlt2,h1,h3,hqq,hp,upR,Zaf,Zaa]at he' i0 i2 i3⊢ <;>exact⟨by omega,by first |exact i0 he' |exact i2 he' |exact i3 he'⟩
  ·have i0:=ih e
   cases p<;>cases ha<;>
    simp[-List.getD_eq_getElem?_getD,hlt,hlt2,he,hqq,hp,Zaf]at he' i0⊢ <;>exact⟨by omega,i0 he'⟩
theorem ZsG(n3:Int)(l1:List Int)(hl:up.length≤1000000∧dw.length≤1000000∧l.length≤1000000):∀(m k:Nat),k+m=dw.length→(∀e,e=(if Zrm mo n3 ha dn.length l.length ba to=0 then Zdf l.length (dw.drop k)else Zrm mo n3 ha dn.length l.length ba to)→Ev C (ZaV ms ks rs l wn fl at0 mo dn ha ba to dw up ek en l1 n3 dn.length e up.length 0) (ZaQ ms ks rs l wn fl at0 mo dn ha ba to dw up ek en l1 n3 dn.length e up.length 0) (ZhC 40 V none))→Ev C (ZdU ms ks rs l wn fl at0 mo dn ha ba to dw up ek en l1 n3 dw.length dn.length dn.length k) (Zc8 ms ks rs l wn fl at0 mo dn ha ba to dw up ek en l1 n3 dw.length dn.length dn.length k) (ZhC 40 V none)
 |0,k,hk,hq=>ZjB hC Zdg Zg8 (by
  obtain rfl:k=dw.length:=by omega
  rw[List.drop_of_length_le (by omega)]at hq
  unfold Zer
  simp only[ZGi]
  obtain⟨c,hc⟩:∃c,c=Zrm mo n3 ha dn.length l.length ba to:=⟨_,rfl⟩
  have h1:=hq c (by rw[←hc,Zdf];split<;>simp_all)
  unfold Zrm at hc
  by_cases g1:mo=n3
  ·subst g1
   by_cases g4:ba=dn.length
   ·subst g4
    by_cases g2:(dn.length:Int)<l.length<;>by_cases g3:Zab (dn.length:Int) 0 dn.length=true<;>cases ha<;>cases to<;>simp[g2,g3]at hc<;>subst hc<;>simp[-List.getD_eq_getElem?_getD,g2,g3,Zaf,Zaa]<;>simpa[g2,g3]using h1
   ·by_cases g2:(dn.length:Int)<l.length<;>by_cases g3:Zab ba 0 dn.length=true<;>cases ha<;>cases to<;>simp[g2,g3,g4]at hc<;>subst hc<;>simp[-List.getD_eq_getElem?_getD,g2,g3,g4,Zaf,Zaa]<;>simpa[g2,g3]using h1
  ·by_cases g4:ba=dn.length
   ·subst g4
    by_cases g2:(dn.length:Int)<l.length<;>by_cases g3:Zab (dn.length:Int) 0 dn.length=true<;>cases ha<;>cases to<;>simp[g2,g3,g1]at hc<;>subst hc<;>simp[-List.getD_eq_getElem?_getD,g2,g3,g1,Zaf,Zaa]<;>simpa[g2,g3]using h1
   ·by_cases g2:(dn.length:Int)<l.length<;>by_cases g3:Zab ba 0 dn.length=true<;>cases ha<;>cases to<;>simp[g2,g3,g1,g4]at hc<;>subst hc<;>simp[-List.getD_eq_getElem?_getD,g2,g3,g1,g4,Zaf,Zaa]<;>simpa[g2,g3]using h1)
 |m+1,k,hk,hq=>by
  have ih:=ZsG n3 l1 hl m (k+1) (by omega)
  have hlt:(k:Int)<dw.length:=by omega
  have hlt2:k<dw.length:=by omega
  refine ZjB hC Zdg Zg8 ?_
  rw[ZDX hlt2]at hq
  unfold Zer
  simp only[ZGi]
  by_cases h1:Zab (dw.getD k 0) 0 ((l.length:Int)-1)=true
  ·simp[-List.getD_eq_getElem?_getD,hlt,hlt2,h1,Zdf]
   exact⟨by omega,by omega,by simpa using ih (fun e he=>hq e (by rw[he,Zdf,if_pos h1]))⟩
  ·obtain⟨c,hc⟩:∃c,c=Zrm mo n3 ha dn.length l.length ba to:=⟨_,rfl⟩
   have h2:=hq (if c=0 then 6 else c) (by rw[←hc,Zdf,if_neg h1])
   unfold Zrm at hc
   by_cases g1:mo=n3
   ·subst g1
    by_cases g4:ba=dn.length
    ·subst g4
     by_cases g2:(dn.length:Int)<l.length<;>by_cases g3:Zab (dn.length:Int) 0 dn.length=true<;>cases ha<;>cases to<;>simp[g2,g3]at hc<;>subst hc<;>simp[-List.getD_eq_getElem?_getD,g2,g3,Zaf,Zaa,hlt,hlt2,h1,Zdf]<;>exact⟨by omega,by simpa[g2,g3]using h2⟩
    ·by_cases g2:(dn.length:Int)<l.length<;>by_cases g3:Zab ba 0 dn.length=true<;>cases ha<;>cases to<;>simp[g2,g3,g4]at hc<;>subst hc<;>simp[-List.getD_eq_getElem?_getD,g2,g3,g4,Zaf,Zaa,hlt,hlt2,h1,Zdf]<;>exact⟨by omega,by simpa[g2,g3]using h2⟩
   ·by_cases g4:ba=dn.length
    ·subst g4
     by_cases g2:(dn.length:Int)<l.length<;>by_cases g3:Zab (dn.length:Int) 0 dn.length=true<;>cases ha<;>cases to<;>simp[g2,g3,g1]at hc<;>subst hc<;>simp[-List.getD_eq_getElem?_getD,g2,g3,g1,Zaf,Zaa,hlt,hlt2,h1,Zdf]<;>exact⟨by omega,by simpa[g2,g3]using h2⟩
    ·by_cases g2:(dn.length:Int)<l.length<;>by_cases g3:Zab ba 0 dn.length=true<;>cases ha<;>cases to<;>simp[g2,g3,g1,g4]at hc<;>subst hc<;>simp[-List.getD_eq_getElem?_getD,g2,g3,g1,g4,Zaf,Zaa,hlt,hlt2,h1,Zdf]<;>exact⟨by omega,by simpa[g2,g3]using h2⟩
theorem Zsn(hf:OkF ms ks rs l)(hl:dw.length≤1000000∧up.length≤1000000)(hd:dn.length≤l.length)(hat:at0≤1000000000000):∀m k:Nat,k+m=dn.length→OkT ks (m0T dn k) (m0L ks l dn k)→(Zc1 rs ks l dn at0 m k=0→Ev C (ZdU ms ks rs l wn fl at0 mo dn ha ba to dw up ek en (m0L ks l dn dn.length) (m0A ks l dn.length) dw.length dn.length dn.length 0) (Zc8 ms ks rs l wn fl at0 mo dn ha ba to dw up ek en (m0L ks l dn dn.length) (m0A ks l dn.length) dw.length dn.length dn.length 0) (ZhC 40 V none))→(∀e,e≠0→Zc1 rs ks l dn at0 m k=e→Wk (.tup [.agg (.gen [.int .i64 0, .int .i64 0, .nils, .bool false, .int .i64 0, .bool false, .nils, .nils]), .int .i64 e]) V)→
 Ev C (Zg3 ms ks rs l wn fl at0 mo dn ha ba to dw up ek en dn.length (m0L ks l dn k) k (m0A ks l k) (m0T dn k)) (Ze4 ms ks rs l wn fl at0 mo dn ha ba to dw up ek en dn.length (m0L ks l dn k) k (m0A ks l k) (m0T dn k)) (ZhC 40 V none)
 |0,k,hk,_,hq,_=>ZjB hC Zdg ZhQ (by
  obtain rfl:k=dn.length:=by omega
  have:=hq rfl
  simp[Za4]
  simpa using this)
 |m+1,k,hk,hT,hq,he=>by
  have hlt:(k:Int)<dn.length:=by omega
  have hlt2:k<dn.length:=by omega
  have hlt3:k<l.length:=by omega
  have hll:=hf.l1
  have e0:((dn.getD k .top).cellAt 0).toI=Zaj dn k 0:=rfl
  have e1:((dn.getD k .top).cellAt 1).toI=Zaj dn k 1:=rfl
  have e2:((l.getD k .top).cellAt 0).toI=Zaj l k 0:=rfl
  have e3:((l.getD k .top).cellAt 1).toI=Zaj l k 1:=rfl
  have e4:((l.getD k .top).cellAt 2).toI=Zaj l k 2:=rfl
  have e5:((ks.getD (Zaj l k 0).toNat .top).cellAt 1).toI=Zaj ks (Zaj l k 0) 1:=rfl
  have hr1:(k:Int)+1≤9223372036854775807:=by omega
  obtain⟨ha1,ha2⟩:=(hf.act k hlt3).1
  have ha3:(Zaj l k 0).toNat<ks.length:=by omega
  have hlen:=hT.len
  refine ZjB hC Zdg ZhQ ?_
  by_cases h1:Zaj dn k 0=k
  ·by_cases h2:Zaj dn k 1≤at0
   ·have h2n:¬at0<Zaj dn k 1:=by omega
    have e9:((dn.getD (k-1) .top).cellAt 1).toI=Zaj dn (k-1:Nat) 1:=rfl
    by_cases h3:0<k→Zaj dn (k-1:Nat) 1≤Zaj dn k 1
    ·have hd1:Zc1 rs ks l dn at0 (m+1) k=if ZdB rs (m0A ks l k) (Zaj dn k 1) (m0L ks l dn k) (Zaj l k 0) (Zaj l k 1) (Zaj l k 2)=true then Zc1 rs ks l dn at0 m (k+1)else 26:=by rw[Zc1,if_pos ⟨h1,h2,h3⟩]
     rw[hd1]at hq he
     have hg:Zab (Zaj dn k 1) (Zaj l k 1) (Zaj l k 2)=false∨ZbS rs (Zaj dn k 1) (m0L ks l dn k)=true:=by
      cases hw:Zab (Zaj dn k 1) (Zaj l k 1) (Zaj l k 2)
      ·exact .inl rfl
      ·exact .inr (okD hf dn hT hat h2 h3 hw hlt3).1
     by_cases h5:ZdB rs (m0A ks l k) (Zaj dn k 1) (m0L ks l dn k) (Zaj l k 0) (Zaj l k 1) (Zaj l k 2)=true
     ·have hw:Zab (Zaj dn k 1) (Zaj l k 1) (Zaj l k 2)=true:=by
       unfold ZdB at h5
       simp only[Bool.and_eq_true]at h5
       exact h5.1
      rw[if_pos h5]at hq he
      have ih:=Zsn hf hl hd hat m (k+1) (by omega) (okD hf dn hT hat h2 h3 hw hlt3).2 hq he
      rw[Zgn,ZdY]at ih
      have et:m0T dn (k+1)=Zaj dn k 1:=rfl
      rw[et]at ih
      unfold exM at ih
      by_cases h6:Zaj ks (Zaj l k 0) 1= -1
      ·rw[if_pos h6]at ih
       by_cases hk0:k=0
       ·have hk0:=eq_true hk0
        simp[-List.getD_eq_getElem?_getD,Za4,Zaf,AV.bx,Zad,hlt,hlt2,hlt3,e0,e1,e2,e3,e4,e5,h1,h2,h5,h6,hg,ha1,ha3,hlen,hk0]
        exact⟨by omega,by simpa using ih⟩
       ·have h3':=h3 (by omega)
        simp[-List.getD_eq_getElem?_getD,Za4,Zaf,AV.bx,Zad,hlt,hlt2,hlt3,e0,e1,e2,e3,e4,e5,e9,h1,h2,h3',h5,h6,hg,ha1,ha3,hlen,hk0]
        exact⟨by omega,by omega,by omega,by simpa using ih⟩
      ·rw[if_neg h6]at ih
       by_cases hk0:k=0
       ·have hk0:=eq_true hk0
        simp[-List.getD_eq_getElem?_getD,Za4,Zaf,AV.bx,Zad,hlt,hlt2,hlt3,e0,e1,e2,e3,e4,e5,h1,h2,h5,h6,hg,ha1,ha3,hlen,hk0]
        exact⟨by omega,by simpa using ih⟩
       ·have h3':=h3 (by omega)
        simp[-List.getD_eq_getElem?_getD,Za4,Zaf,AV.bx,Zad,hlt,hlt2,hlt3,e0,e1,e2,e3,e4,e5,e9,h1,h2,h3',h5,h6,hg,ha1,ha3,hlen,hk0]
        exact⟨by omega,by omega,by omega,by simpa using ih⟩
     ·rw[if_neg h5]at hq he
      by_cases hk0:k=0
      ·have hk0:=eq_true hk0
       simp[-List.getD_eq_getElem?_getD,Za4,Zaf,AV.bx,Zad,hlt,hlt2,hlt3,e0,e1,e2,e3,e4,e5,h1,h2,h5,hg,hk0]
       repeat refine⟨by omega,?_⟩
       exact he _ (by decide) rfl
      ·have h3':=h3 (by omega)
       simp[-List.getD_eq_getElem?_getD,Za4,Zaf,AV.bx,Zad,hlt,hlt2,hlt3,e0,e1,e2,e3,e4,e5,e9,h1,h2,h3',h5,hg,hk0]
       repeat refine⟨by omega,?_⟩
       exact he _ (by decide) rfl
    ·have hd1:Zc1 rs ks l dn at0 (m+1) k=9:=by rw[Zc1,if_neg (fun h=>h3 h.2.2)]
     obtain⟨hk0,h3'⟩:¬k=0∧¬Zaj dn (k-1:Nat) 1≤Zaj dn k 1:=by
      by_cases hk0:0<k
      ·exact⟨by omega,fun h=>h3 fun _=>h⟩
      ·exact absurd (fun h=>absurd h hk0) h3
     rw[hd1]at hq he
     simp[-List.getD_eq_getElem?_getD,Za4,Zaf,AV.bx,Zad,hlt,hlt2,hlt3,e0,e1,e2,e3,e4,e5,e9,h1,h2,h3',hk0]
     repeat refine⟨by omega,?_⟩
     exact he _ (by decide) rfl
   ·have hd1:Zc1 rs ks l dn at0 (m+1) k=9:=by rw[Zc1,if_neg (fun h=>h2 h.2.1)]
    rw[hd1]at hq he
    simp[-List.getD_eq_getElem?_getD,Za4,Zaf,AV.bx,Zad,hlt,hlt2,hlt3,e0,e1,e2,e3,e4,e5,h1,h2]
    repeat refine⟨by omega,?_⟩
    exact he _ (by decide) rfl
  ·have hd1:Zc1 rs ks l dn at0 (m+1) k=9:=by rw[Zc1,if_neg (fun h=>h1 h.1)]
   rw[hd1]at hq he
   simp[-List.getD_eq_getElem?_getD,Za4,Zaf,AV.bx,Zad,hlt,hlt2,hlt3,e0,e1,e2,e3,e4,e5,h1]
   repeat refine⟨by omega,?_⟩
   exact he _ (by decide) rfl
end
def Zb4(ms ks rs l:List AV)(wn fl:Int)(s:ST)(k n:Int):Int:=if upE ms ks rs l wn fl=0 then(if stE ks rs l fl s.t s.mo s.dn s.ha s.ba s.to s.dw s.up=0 then(if evE k n=0 then ZbW l wn fl s k n else evE k n)else stE ks rs l fl s.t s.mo s.dn s.ha s.ba s.to s.dw s.up)else upE ms ks rs l wn fl
def ZaA(ms ks rs l:List AV)(wn fl:Int)(s:ST)(k n:Int):ST:=if Zb4 ms ks rs l wn fl s k n=0 then appS ks rs l fl s k n else st0
theorem Zj2{ms ks rs l:List AV}{wn fl:Int}{s:ST}{k n e:Int}(h:Zb4 ms ks rs l wn fl s k n=e)(he:e≠0):Wk (.tup [.agg (.gen [.int .i64 0, .int .i64 0, .nils, .bool false, .int .i64 0, .bool false, .nils, .nils]), .int .i64 e]) (ZkO (ZaA ms ks rs l wn fl s k n) (Zb4 ms ks rs l wn fl s k n)):=by
 unfold ZaA
 rw[h,if_neg he]
 exact ZFY e
section
variable {C:Ctx}(hC:C.P=Tryz.prog)(ms ks rs l:List AV)(wn fl:Int)(at0 mo:Int)(dn:List AV)(ha:Bool)(ba:Int)(to:Bool)(dw:List Int)(up:List AV)(ek en:Int)
include hC
theorem ZEs(hu:upE ms ks rs l wn fl=0)(e:Int)(he:stE ks rs l fl at0 mo dn ha ba to dw up=e):Ev C (ZaV ms ks rs l wn fl at0 mo dn ha ba to dw up ek en (m0L ks l dn dn.length) (m0A ks l dn.length) dn.length e up.length up.length) (ZaQ ms ks rs l wn fl at0 mo dn ha ba to dw up ek en (m0L ks l dn dn.length) (m0A ks l dn.length) dn.length e up.length up.length) (ZhC 40 (ZkO (ZaA ms ks rs l wn fl ⟨at0,mo,dn,ha,ba,to,dw,up⟩ ek en) (Zb4 ms ks rs l wn fl ⟨at0,mo,dn,ha,ba,to,dw,up⟩ ek en)) none):=by
 have h0:¬(up.length:Int)<up.length:=by omega
 by_cases h1:e=0
 ·subst h1
  by_cases h2:evE ek en=0
  ·have hc:Zb4 ms ks rs l wn fl ⟨at0,mo,dn,ha,ba,to,dw,up⟩ ek en=ZbW l wn fl ⟨at0,mo,dn,ha,ba,to,dw,up⟩ ek en:=by unfold Zb4;rw[if_pos hu,if_pos he,if_pos h2]
   have hs:ZaA ms ks rs l wn fl ⟨at0,mo,dn,ha,ba,to,dw,up⟩ ek en=Zlf ks rs l wn fl ⟨at0,mo,dn,ha,ba,to,dw,up⟩ ek en:=by unfold ZaA Zlf;rw[hc]
   rw[hc,hs]
   have hk:0≤ek∧ek≤8:=by
    have:=h2
    unfold evE at this
    split at this
    ·rename_i hw;exact within_iff.1 hw
    ·cases this
   rcases show ek=0∨ek=1∨ek=2∨ek=3∨ek=4∨ek=5∨ek=6∨ek=7∨ek=8 by omega with rfl |rfl |rfl |rfl |rfl |rfl |rfl |rfl |rfl
   ·exact ZDi hC ms ks rs l wn fl at0 mo dn ha ba to dw up en ⟨hu,he,h2⟩
   ·exact ZFa hC ms ks rs l wn fl at0 mo dn ha ba to dw up en ⟨hu,he,h2⟩
   ·exact ZDQ hC ms ks rs l wn fl at0 mo dn ha ba to dw up en ⟨hu,he,h2⟩
   ·exact ZEc hC ms ks rs l wn fl at0 mo dn ha ba to dw up en ⟨hu,he,h2⟩
   ·exact ZCR hC ms ks rs l wn fl at0 mo dn ha ba to dw up en ⟨hu,he,h2⟩
   ·exact ZDz hC ms ks rs l wn fl at0 mo dn ha ba to dw up en ⟨hu,he,h2⟩
   ·exact ZCK hC ms ks rs l wn fl at0 mo dn ha ba to dw up en ⟨hu,he,h2⟩
   ·exact ZE3 hC ms ks rs l wn fl at0 mo dn ha ba to dw up en ⟨hu,he,h2⟩
   ·exact ZDB hC ms ks rs l wn fl at0 mo dn ha ba to dw up en ⟨hu,he,h2⟩
  ·have hc:Zb4 ms ks rs l wn fl ⟨at0,mo,dn,ha,ba,to,dw,up⟩ ek en=evE ek en:=by unfold Zb4;rw[if_pos hu,if_pos he,if_neg h2]
   have hr:=Zj2 hc h2
   refine ZjB hC Zdg ZaW ?_
   simp[Zan,h0,h2,Zaf,AV.bx,Zad]
   repeat refine⟨by omega,?_⟩
   exact hr
 ·have hc:Zb4 ms ks rs l wn fl ⟨at0,mo,dn,ha,ba,to,dw,up⟩ ek en=e:=by unfold Zb4;rw[if_pos hu];simp only[he,if_neg h1]
  have hr:=Zj2 hc h1
  refine ZjB hC Zdg ZaW ?_
  simp[Zan,h0,h1,Zaf,AV.bx,Zad]
  repeat refine⟨by omega,?_⟩
  exact hr
end
theorem Zil(ms ks rs l:List AV)(wn fl:Int)(at0 mo:Int)(dn:List AV)(ha:Bool)(ba:Int)(to:Bool)(dw:List Int)(up:List AV)(ek en:Int)(h:(Zax ms ks rs=true∧l.length≤1000000)∧dn.length≤1000000∧dw.length≤1000000∧up.length≤1000000):Zao Tryz.prog 40 [.agg (.gen [.list (.big .str ms), .list (.big (.agg [.str, .int .i64]) ks), .list (.big (.agg [.str, .int .i64, .int .i64, .int .i64, .int .i64]) rs), .list (.big (.agg [.int .i64, .int .i64, .int .i64]) l), .int .i64 wn, .int .i64 fl]), .agg (.gen [.int .i64 at0, .int .i64 mo, .list (.big (.agg [.int .i64, .int .i64]) dn), .bool ha, .int .i64 ba, .bool to, .list (.ints .i64 dw), .list (.big (.agg [.int .i64, .bool]) up)]), .agg (.gen [.int .i64 ek, .int .i64 en])] (ZkO (ZaA ms ks rs l wn fl ⟨at0,mo,dn,ha,ba,to,dw,up⟩ ek en) (Zb4 ms ks rs l wn fl ⟨at0,mo,dn,ha,ba,to,dw,up⟩ ek en)) none:=
 Zs7 (Zxc ms ks rs l wn fl at0 mo dn ha ba to dw up ek en) fun C hC=>ZjB hC Zdg ZEt (by
  by_cases h0:upE ms ks rs l wn fl=0
  ·obtain⟨hf,_,hfl⟩:=Zbl h0
   have hll:=hf.l1
   have hkk:=hf.ks1
   have hcs:∀e,e≠0→stE ks rs l fl at0 mo dn ha ba to dw up=e→Zb4 ms ks rs l wn fl ⟨at0,mo,dn,ha,ba,to,dw,up⟩ ek en=e:=fun e he hs=>by unfold Zb4;rw[if_pos h0];simp only[hs,if_neg he]
   by_cases h1:Zab at0 0 1000000000000=true
   ·have h1':=within_iff.1 h1
    by_cases h2:dn.length≤l.length
    ·by_cases h3:(dw.length:Int)≤fl
     ·by_cases h4:(up.length:Int)≤fl
      ·have hst:stE ks rs l fl at0 mo dn ha ba to dw up=(if Zc1 rs ks l dn at0 dn.length 0=0 then ZnU ks l mo dn ha ba to dw up else Zc1 rs ks l dn at0 dn.length 0):=by unfold stE;rw[if_pos h1,if_pos ⟨h2,h3,h4⟩]
       have:=Zsn hC ms ks rs l wn fl at0 mo dn ha ba to dw up ek en (V:=ZkO (ZaA ms ks rs l wn fl ⟨at0,mo,dn,ha,ba,to,dw,up⟩ ek en) (Zb4 ms ks rs l wn fl ⟨at0,mo,dn,ha,ba,to,dw,up⟩ ek en)) hf h.2.2 h2 h1'.2 dn.length 0 (by omega) (ZGt ks l dn) (fun hd=>by
        rw[if_pos hd]at hst
        refine ZsG hC ms ks rs l wn fl at0 mo dn ha ba to dw up ek en _ _ ⟨h.2.2.2,h.2.2.1,by omega⟩ dw.length 0 (by omega) fun e he=>?_
        have hr:=ZqK ks l mo dn ha ba to dw up h2
        rw[←hst]at hr
        refine ZGn hC ms ks rs l wn fl at0 mo dn ha ba to dw up ek en _ dn.length _ h.2.2.2 (stE ks rs l fl at0 mo dn ha ba to dw up) (ZEs hC ms ks rs l wn fl at0 mo dn ha ba to dw up ek en h0 _ rfl) up.length 0 e (by omega) ?_
        rw[←hr,he]
        simp only[List.drop_zero]
        split<;>simp_all) (fun e he hd=>Zj2 (hcs e he (by rw[hst,if_neg (by rw[hd];exact he),hd])) he)
       have e1:m0L ks l dn 0=List.replicate ks.length (-1):=rfl
       have e2:m0A ks l 0=0:=rfl
       have e3:m0T dn 0=0:=rfl
       rw[e1,e2,e3]at this
       simp[Zlj,h,h0,h1,h2,h3,h4,Zaf,Zaa,AV.bx,Zad]
       repeat refine⟨by omega,?_⟩
       simpa using this
      ·have hr:=Zj2 (hcs 8 (by decide) (by unfold stE;rw[if_pos h1,if_neg (fun hh=>h4 hh.2.2)])) (by decide)
       simp[Zlj,h,h0,h1,h2,h3,h4,Zaf,Zaa,AV.bx,Zad]
       repeat refine⟨by omega,?_⟩
       exact hr
     ·have hr:=Zj2 (hcs 8 (by decide) (by unfold stE;rw[if_pos h1,if_neg (fun hh=>h3 hh.2.1)])) (by decide)
      simp[Zlj,h,h0,h1,h2,h3,Zaf,Zaa,AV.bx,Zad]
      repeat refine⟨by omega,?_⟩
      exact hr
    ·have hr:=Zj2 (hcs 8 (by decide) (by unfold stE;rw[if_pos h1,if_neg (fun hh=>h2 hh.1)])) (by decide)
     simp[Zlj,h,h0,h1,h2,Zaf,Zaa,AV.bx,Zad]
     repeat refine⟨by omega,?_⟩
     exact hr
   ·have hr:=Zj2 (hcs 2 (by decide) (by unfold stE;rw[if_neg h1])) (by decide)
    by_cases h2:dn.length≤l.length<;>by_cases h3:(dw.length:Int)≤fl<;>by_cases h4:(up.length:Int)≤fl<;>simp[Zlj,h,h0,h1,h2,h3,h4,Zaf,Zaa,AV.bx,Zad]<;>(repeat refine⟨by omega,?_⟩)<;>exact hr
  ·have hr:=Zj2 (ms:=ms) (ks:=ks) (rs:=rs) (l:=l) (wn:=wn) (fl:=fl) (s:=⟨at0,mo,dn,ha,ba,to,dw,up⟩) (k:=ek) (n:=en) (by unfold Zb4;rw[if_neg h0]) h0
   simp[Zlj,h,h0,Zaf,AV.bx,Zad]
   repeat refine⟨by omega,?_⟩
   exact hr)
def k40:Ctr:=⟨40,0,fun _ a=>match a with |[.agg (.gen [.list (.big .str ms), .list (.big (.agg [.str, .int .i64]) ks), .list (.big (.agg [.str, .int .i64, .int .i64, .int .i64, .int .i64]) rs), .list (.big (.agg [.int .i64, .int .i64, .int .i64]) l), .int .i64 wn, .int .i64 fl]), .agg (.gen [.int .i64 at0, .int .i64 mo, .list (.big (.agg [.int .i64, .int .i64]) dn), .bool ha, .int .i64 ba, .bool to, .list (.ints .i64 dw), .list (.big (.agg [.int .i64, .bool]) up)]), .agg (.gen [.int .i64 ek, .int .i64 en])]=>some (decide ((Zax ms ks rs=true∧l.length≤1000000)∧dn.length≤1000000∧dw.length≤1000000∧up.length≤1000000), .tup [.agg (.gen [.int .i64 (ZaA ms ks rs l wn fl ⟨at0,mo,dn,ha,ba,to,dw,up⟩ ek en).t, .int .i64 (ZaA ms ks rs l wn fl ⟨at0,mo,dn,ha,ba,to,dw,up⟩ ek en).mo, .list (.big (.agg [.int .i64, .int .i64]) (ZaA ms ks rs l wn fl ⟨at0,mo,dn,ha,ba,to,dw,up⟩ ek en).dn), .bool (ZaA ms ks rs l wn fl ⟨at0,mo,dn,ha,ba,to,dw,up⟩ ek en).ha, .int .i64 (ZaA ms ks rs l wn fl ⟨at0,mo,dn,ha,ba,to,dw,up⟩ ek en).ba, .bool (ZaA ms ks rs l wn fl ⟨at0,mo,dn,ha,ba,to,dw,up⟩ ek en).to, .list (.ints .i64 (ZaA ms ks rs l wn fl ⟨at0,mo,dn,ha,ba,to,dw,up⟩ ek en).dw), .list (.big (.agg [.int .i64, .bool]) (ZaA ms ks rs l wn fl ⟨at0,mo,dn,ha,ba,to,dw,up⟩ ek en).up)]), .int .i64 (Zb4 ms ks rs l wn fl ⟨at0,mo,dn,ha,ba,to,dw,up⟩ ek en)],none) |_=>none⟩
theorem Zzn:k40.OK Tryz.prog:=fun pa args r fr h=>by
 simp only[k40]at h
 split at h
 ·simp only[Option.some.injEq,Prod.mk.injEq,decide_eq_true_eq]at h
  obtain⟨h0,rfl,rfl⟩:=h
  exact Zil _ _ _ _ _ _ _ _ _ _ _ _ _ _ _ _ h0
 ·cases h
def Bt:List Ctr:=[k40]++Bs
theorem ZC5:ZaD Tryz.prog Bt:=⟨Zzn,ZEi⟩
end Go.Proofs.YtkeoeooghhjibaaGreatDoor
/- Contracts as a list. No condition. -/
namespace Go.Proofs.YtkeoeooghhjibaaGreatDoor
theorem Zsg(ms ks rs l:List AV)(wn fl:Int)(at0 mo:Int)(ha:Bool)(ba:Int)(to:Bool)(ek en:Int)(h:Zax ms ks rs=true∧l.length≤1000000):Zao Tryz.prog 40 [.agg (.gen [.list (.big .str ms), .list (.big (.agg [.str, .int .i64]) ks), .list (.big (.agg [.str, .int .i64, .int .i64, .int .i64, .int .i64]) rs), .list (.big (.agg [.int .i64, .int .i64, .int .i64]) l), .int .i64 wn, .int .i64 fl]), .agg (.gen [.int .i64 at0, .int .i64 mo, .nils, .bool ha, .int .i64 ba, .bool to, .nils, .nils]), .agg (.gen [.int .i64 ek, .int .i64 en])] (.tup [.agg (.gen [.int .i64 (ZaA ms ks rs l wn fl ⟨at0,mo,[],ha,ba,to,[],[]⟩ ek en).t, .int .i64 (ZaA ms ks rs l wn fl ⟨at0,mo,[],ha,ba,to,[],[]⟩ ek en).mo, .list (.big (.agg [.int .i64, .int .i64]) (ZaA ms ks rs l wn fl ⟨at0,mo,[],ha,ba,to,[],[]⟩ ek en).dn), .bool (ZaA ms ks rs l wn fl ⟨at0,mo,[],ha,ba,to,[],[]⟩ ek en).ha, .int .i64 (ZaA ms ks rs l wn fl ⟨at0,mo,[],ha,ba,to,[],[]⟩ ek en).ba, .bool (ZaA ms ks rs l wn fl ⟨at0,mo,[],ha,ba,to,[],[]⟩ ek en).to, .list (.ints .i64 (ZaA ms ks rs l wn fl ⟨at0,mo,[],ha,ba,to,[],[]⟩ ek en).dw), .list (.big (.agg [.int .i64, .bool]) (ZaA ms ks rs l wn fl ⟨at0,mo,[],ha,ba,to,[],[]⟩ ek en).up)]), .int .i64 (Zb4 ms ks rs l wn fl ⟨at0,mo,[],ha,ba,to,[],[]⟩ ek en)]) none:=
 Zp4 (Zil ms ks rs l wn fl at0 mo [] ha ba to [] [] ek en ⟨h,by decide,by decide,by decide⟩) ⟨.same _,Wk.agg' ⟨.same _, .same _, .nil _ rfl, .same _, .same _, .same _, .nil _ rfl, .nil _ rfl,trivial⟩, .same _,trivial⟩
def k40z:Ctr:=⟨40,0,fun _ a=>match a with |[.agg (.gen [.list (.big .str ms), .list (.big (.agg [.str, .int .i64]) ks), .list (.big (.agg [.str, .int .i64, .int .i64, .int .i64, .int .i64]) rs), .list (.big (.agg [.int .i64, .int .i64, .int .i64]) l), .int .i64 wn, .int .i64 fl]), .agg (.gen [.int .i64 at0, .int .i64 mo, .nils, .bool ha, .int .i64 ba, .bool to, .nils, .nils]), .agg (.gen [.int .i64 ek, .int .i64 en])]=>some (decide (Zax ms ks rs=true∧l.length≤1000000), .tup [.agg (.gen [.int .i64 (ZaA ms ks rs l wn fl ⟨at0,mo,[],ha,ba,to,[],[]⟩ ek en).t, .int .i64 (ZaA ms ks rs l wn fl ⟨at0,mo,[],ha,ba,to,[],[]⟩ ek en).mo, .list (.big (.agg [.int .i64, .int .i64]) (ZaA ms ks rs l wn fl ⟨at0,mo,[],ha,ba,to,[],[]⟩ ek en).dn), .bool (ZaA ms ks rs l wn fl ⟨at0,mo,[],ha,ba,to,[],[]⟩ ek en).ha, .int .i64 (ZaA ms ks rs l wn fl ⟨at0,mo,[],ha,ba,to,[],[]⟩ ek en).ba, .bool (ZaA ms ks rs l wn fl ⟨at0,mo,[],ha,ba,to,[],[]⟩ ek en).to, .list (.ints .i64 (ZaA ms ks rs l wn fl ⟨at0,mo,[],ha,ba,to,[],[]⟩ ek en).dw), .list (.big (.agg [.int .i64, .bool]) (ZaA ms ks rs l wn fl ⟨at0,mo,[],ha,ba,to,[],[]⟩ ek en).up)]), .int .i64 (Zb4 ms ks rs l wn fl ⟨at0,mo,[],ha,ba,to,[],[]⟩ ek en)],none) |_=>none⟩
theorem Zwk:k40z.OK Tryz.prog:=fun pa args r fr h=>by
 simp only[k40z]at h
 split at h
 ·simp only[Option.some.injEq,Prod.mk.injEq,decide_eq_true_eq]at h
  obtain⟨h0,rfl,rfl⟩:=h
  exact Zsg _ _ _ _ _ _ _ _ _ _ _ _ _ h0
 ·cases h
def Bw:List Ctr:=[k40z]++Bt
theorem Zg2:ZaD Tryz.prog Bw:=⟨Zwk,ZC5⟩
end Go.Proofs.YtkeoeooghhjibaaGreatDoor
/- No accepted events execute an act before its time; with the times as moments of arrival all acts are executed: plain. No condition. -/
namespace Go.Proofs.YtkeoeooghhjibaaGreatDoor
theorem Zsk{rs:List AV}{a b:Int}{xs:List Int}{c d e t:Int}(hb:b≤t)(h:ZdB rs a t xs c d e=true):Zcr rs a xs c rs.length 0 (max b d)≤t∧ZdB rs a (Zcr rs a xs c rs.length 0 (max b d)) xs c d e=true:=by
 have hge:=ZcB rs a xs c rs.length 0 (max b d)
 obtain⟨T,hT⟩:∃T,T=Zcr rs a xs c rs.length 0 (max b d):=⟨_,rfl⟩
 rw[←hT]at hge⊢
 simp only[ZdB,Bool.and_eq_true,within_iff,Zis]at h⊢
 obtain⟨h2,h3⟩:=h
 have low:T≤t:=by
  rw[hT]
  refine ZmX rs.length 0 _ (by omega) (by omega) fun j hj hb=>?_
  have h4:=h3 j hj
  simp only[Zl7,ZmK,Bool.and_eq_true,decide_eq_true_eq]at hb
  simp only[ZjE,decide_eq_false_iff_not]at h4
  unfold Zos
  by_cases h7:t-xs.getD (Zaj rs j 3).toNat 0<Zaj rs j 4
  ·exact absurd ⟨hb.1.2.1,hb.1.2.2, .inr ⟨hb.2,h7⟩⟩ h4
  ·omega
 refine⟨low,by omega,fun j hj=>?_⟩
 have h4:=h3 j hj
 simp only[ZjE,decide_eq_false_iff_not]at h4⊢
 intro h5
 refine h4 ⟨h5.1,h5.2.1,?_⟩
 rcases h5.2.2 with h6 |h6
 ·exact .inl h6
 ·by_cases h7:Zaj rs j 3= -1
  ·exact .inl h7
  ·have hb:Zl7 rs a xs c j=true:=by
    simp only[Zl7,ZmK,Bool.and_eq_true,decide_eq_true_eq]
    exact⟨⟨h7,h5.1,h5.2.1⟩,h6.1⟩
   have:=ZkH (rs:=rs) (a:=a) (xs:=xs) (q:=c) rs.length 0 (max b d) j (Nat.zero_le _) (by omega) hb
   rw[←hT]at this
   unfold Zos at this
   omega
structure LeL (ys xs:List Int):Prop where
 len:ys.length=xs.length
 nev:∀k,ys.getD k 0= -1↔xs.getD k 0= -1
 le:∀k,ys.getD k 0≤xs.getD k 0
theorem Zrt{rs:List AV}{a t:Int}{ys xs:List Int}{c d e:Int}(hl:LeL ys xs)(h:ZdB rs a t xs c d e=true):ZdB rs a t ys c d e=true:=by
 simp only[ZdB,Bool.and_eq_true,Zis]at h⊢
 refine⟨h.1,fun j hj=>?_⟩
 have h4:=h.2 j hj
 simp only[ZjE,decide_eq_false_iff_not]at h4⊢
 intro h5
 refine h4 ⟨h5.1,h5.2.1,?_⟩
 rcases h5.2.2 with h6 |h6
 ·exact .inl h6
 ·have:=hl.le (Zaj rs j 3).toNat
  exact .inr ⟨fun hh=>h6.1 ((hl.nev _).2 hh),by omega⟩
theorem ZeS(xs:List Int)(i k:Nat)(v:Int):(xs.set i v).getD k 0=if i=k∧k<xs.length then v else xs.getD k 0:=by
 rw[List.getD_eq_getElem?_getD,List.getD_eq_getElem?_getD,List.getElem?_set]
 by_cases h:i=k
 ·subst h
  by_cases h2:i<xs.length
  ·simp[h2]
  ·simp[h2]
 ·simp[h]
theorem LeL.set{ys xs:List Int}(h:LeL ys xs){u v:Int}(hu:0≤u)(huv:u≤v)(k:Nat):LeL (ys.set k u) (xs.set k v):=by
 refine⟨by simp[h.len],fun j=>?_,fun j=>?_⟩
 ·rw[ZeS,ZeS,h.len]
  split
  ·omega
  ·exact h.nev j
 ·rw[ZeS,ZeS,h.len]
  split
  ·exact huv
  ·exact h.le j
theorem ZA9{dn:List AV}{i:Nat}(h0:0≤Zaj dn i 1)(h:0<i→Zaj dn (i-1:Nat) 1≤Zaj dn i 1):m0T dn i≤Zaj dn i 1:=by
 cases i with
 |zero=>exact h0
 |succ i=>exact h (by omega)
theorem ZnE{ms ks rs l:List AV}(hf:OkF ms ks rs l){i:Nat}(hi:i<l.length)(a b:Int)(ys:List Int):0≤Zb1 rs l a b ys i:=by
 have:=ZcB rs a ys (Zaj l i 0) rs.length 0 (max b (Zaj l i 1))
 have:=(hf.act i hi).2.1
 unfold Zb1;omega
theorem ZmP{ms ks rs l dn:List AV}{t0:Int}(hf:OkF ms ks rs l)(hd:∀j:Nat,j<dn.length→ZBS ks rs l dn t0 j)(hle:dn.length≤l.length):∀(m i:Nat) (b:Int) (ys:List Int),i+m=l.length→i≤dn.length→b≤m0T dn i→LeL ys (m0L ks l dn i)→
 (∀ts,ZcD ks rs l m i (m0A ks l i) b ys=some ts→∀j,i+j<dn.length→ts.getD j 0≤Zaj dn (i+j:Nat) 1)∧(ZcD ks rs l m i (m0A ks l i) b ys=none→dn.length<l.length)
 |0,i,b,ys,hk,hi,hb,hl=>⟨fun ts _ j hj=>by omega,fun h=>by cases h⟩
 |m+1,i,b,ys,hk,hi,hb,hl=>by
  by_cases he:i=dn.length
  ·exact⟨fun ts _ j hj=>by omega,fun _=>by omega⟩
  ·have hlt:i<dn.length:=by omega
   obtain⟨_,_,d2,d3⟩:=hd i hlt
   have ha:=(hf.act i (by omega)).2.1
   have hw:Zab (Zaj dn i 1) (Zaj l i 1) (Zaj l i 2)=true:=by
    simp only[ZdB,Bool.and_eq_true]at d3;exact d3.1
   have hw:=within_iff.1 hw
   have hbd:=ZA9 (by omega) d2
   obtain⟨g1,g2⟩:=Zsk (b:=b) (by omega) (Zrt hl d3)
   have g1:Zb1 rs l (m0A ks l i) b ys i≤Zaj dn i 1:=g1
   have g2:ZdB rs (m0A ks l i) (Zb1 rs l (m0A ks l i) b ys i) ys (Zaj l i 0) (Zaj l i 1) (Zaj l i 2)=true:=g2
   have g3:=ZnE hf (show i<l.length by omega) (m0A ks l i) b ys
   have ih:=ZmP hf hd hle m (i+1) (Zb1 rs l (m0A ks l i) b ys i) (ys.set (Zaj l i 0).toNat (Zb1 rs l (m0A ks l i) b ys i)) (by omega) (by omega) g1 (by rw[ZdY];exact hl.set g3 g1 _)
   rw[Zgn]at ih
   rw[ZcD,if_pos g2]
   constructor
   ·intro ts h j hj
    obtain⟨q,hq,rfl⟩:=Option.map_eq_some_iff.1 h
    cases j with
    |zero=>simpa using g1
    |succ j=>
     have:=ih.1 q hq j (by omega)
     rw[show i+(j+1)=i+1+j by omega]
     simpa using this
   ·intro h
    exact ih.2 (by simpa using h)
theorem Zrn(xs:List Int):LeL xs xs:=⟨rfl,fun _=>Iff.rfl,fun _=>Int.le_refl _⟩
theorem ZmH{ms ks rs l:List AV}{fl:Int}{s:ST}(hf:OkF ms ks rs l)(hs:VS ks rs l fl s):
 (∀ts,ZkP ks rs l=some ts→∀j,j<s.dn.length→ts.getD j 0≤Zaj s.dn j 1)∧(ZkP ks rs l=none→s.dn.length<l.length):=by
 have:=ZmP hf hs.done hs.len.1 l.length 0 0 (List.replicate ks.length (-1)) (by omega) (by omega) (Int.le_refl _) (Zrn _)
 exact⟨fun ts h j hj=>by simpa using this.1 ts h j (by omega),this.2⟩
def dnT(ts:List Int)(i:Nat):List AV:=(List.range i).map fun j:Nat=>dnV j (ts.getD j 0)
theorem ZiM(ts:List Int)(i:Nat):(dnT ts i).length=i:=by simp[dnT]
theorem ZqA(ts:List Int)(i:Nat):dnT ts (i+1)=dnT ts i++[dnV i (ts.getD i 0)]:=by simp[dnT,List.range_succ]
theorem ZiO{ts:List Int}{i:Nat}{j:Nat}(h:j<i):Zaj (dnT ts i) j 1=ts.getD j 0:=by
 unfold Zaj dnT
 rw[List.getD_eq_getElem?_getD,Int.toNat_natCast,List.getElem?_map,List.getElem?_range h]
 rfl
def tmT(ts:List Int):Nat→Int
 |0=>0
 |i+1=>ts.getD i 0
theorem Zky{ks l dn dn':List AV} :∀i,(∀k:Nat,k<i→Zaj dn k 1=Zaj dn' k 1)→m0L ks l dn i=m0L ks l dn' i
 |0,_=>rfl
 |i+1,h=>by rw[ZdY,ZdY,Zky i (fun k hk=>h k (by omega)),h i (by omega)]
theorem Zmw{ks rs l:List AV}{T:List Int}(n:Nat)(hn:l.length≤n):∀(m i:Nat) (ts:List Int),i+m=l.length→ZcD ks rs l m i (m0A ks l i) (tmT T i) (m0L ks l (dnT T n) i)=some ts→(∀j,j<m→ts.getD j 0=T.getD (i+j) 0)→∀j,i≤j→j<l.length→
 ZdB rs (m0A ks l j) (T.getD j 0) (m0L ks l (dnT T n) j) (Zaj l j 0) (Zaj l j 1) (Zaj l j 2)=true∧tmT T j≤T.getD j 0
 |0,i,ts,hk,_,_,j,h1,h2=>by omega
 |m+1,i,ts,hk,h,he,j,h1,h2=>by
  rw[ZcD]at h
  split at h
  ·rename_i ha
   obtain⟨q,hq,rfl⟩:=Option.map_eq_some_iff.1 h
   have e0:Zb1 rs l (m0A ks l i) (tmT T i) (m0L ks l (dnT T n) i) i=T.getD i 0:=by simpa using he 0 (by omega)
   have hge:tmT T i≤T.getD i 0:=by
    have:=ZcB rs (m0A ks l i) (m0L ks l (dnT T n) i) (Zaj l i 0) rs.length 0 (max (tmT T i) (Zaj l i 1))
    rw[←e0];unfold Zb1;omega
   rw[e0]at ha hq
   by_cases hj:j=i
   ·subst hj;exact⟨ha,hge⟩
   ·have hf:Zaj (dnT T n) i 1=T.getD i 0:=ZiO (by omega)
    refine Zmw n hn m (i+1) q (by omega) ?_ (fun j hj=>?_) j (by omega) h2
    ·rw[Zgn,ZdY,hf];exact hq
    ·have:=he (j+1) (by omega)
     rw[show i+1+j=i+(j+1) by omega,←this];simp
  ·cases h
theorem Zjk{ks rs l:List AV}{T:List Int}(h:ZkP ks rs l=some T){i:Nat}(hi:i<l.length):ZdB rs (m0A ks l i) (T.getD i 0) (m0L ks l (dnT T i) i) (Zaj l i 0) (Zaj l i 1) (Zaj l i 2)=true∧tmT T i≤T.getD i 0:=by
 have:=Zmw (T:=T) l.length (Nat.le_refl _) l.length 0 T (by omega) h (fun j _=>by rw[Nat.zero_add]) i (by omega) hi
 rw[Zky i (dn':=dnT T i) fun k hk=>by rw[ZiO (by omega),ZiO hk]]at this
 exact this
def stW(ks l:List AV)(T:List Int)(i:Nat):ST:=⟨tmT T i,m0A ks l i,dnT T i,false,i,false,[],[]⟩
def okW(ms ks rs l:List AV)(wn fl:Int):List AV→ST→ST→Prop
 |[],s,s'=>s=s'
 |v::vs,s,s'=>Zb4 ms ks rs l wn fl s (v.cellAt 0).toI (v.cellAt 1).toI=0∧okW ms ks rs l wn fl vs (appS ks rs l fl s (v.cellAt 0).toI (v.cellAt 1).toI) s'
theorem codeP_zero{ms ks rs l:List AV}{wn fl:Int}{s:ST}{k n:Int} :Zb4 ms ks rs l wn fl s k n=0↔upE ms ks rs l wn fl=0∧VS ks rs l fl s∧evE k n=0∧ZbW l wn fl s k n=0:=by
 unfold Zb4
 by_cases h1:upE ms ks rs l wn fl=0
 ·rw[if_pos h1]
  by_cases h2:stE ks rs l fl s.t s.mo s.dn s.ha s.ba s.to s.dw s.up=0
  ·rw[if_pos h2]
   have h2:=vs_iff.1 h2
   by_cases h3:evE k n=0
   ·rw[if_pos h3];exact⟨fun h=>⟨h1,h2,h3,h⟩,fun h=>h.2.2.2⟩
   ·rw[if_neg h3];exact⟨fun h=>absurd h h3,fun h=>absurd h.2.2.1 h3⟩
  ·rw[if_neg h2];exact⟨fun h=>absurd h h2,fun h=>absurd (vs_iff.2 h.2.1) h2⟩
 ·rw[if_neg h1];exact⟨fun h=>absurd h h1,fun h=>absurd h.1 h1⟩
theorem Zgd{ms ks rs l:List AV}{wn fl:Int}{k n:Int}{vs:List AV}{s s1 s':ST}(hu:upE ms ks rs l wn fl=0)(hs:VS ks rs l fl s)(hv:evE k n=0)(he:ZbW l wn fl s k n=0)(e1:appS ks rs l fl s k n=s1)(h:VS ks rs l fl s1→okW ms ks rs l wn fl vs s1 s'):okW ms ks rs l wn fl (.agg (.gen [.int .i64 k, .int .i64 n])::vs) s s':=by
 have hv1:=ZpU hs hv he
 rw[e1]at hv1
 refine⟨codeP_zero.2 ⟨hu,hs,hv,he⟩,?_⟩
 show okW ms ks rs l wn fl vs (appS ks rs l fl s k n) s'
 rw[e1];exact h hv1
def ZwB(T:List Int)(i:Nat):List AV:=[.agg (.gen [.int .i64 1, .int .i64 i]), .agg (.gen [.int .i64 2, .int .i64 0]), .agg (.gen [.int .i64 3, .int .i64 0])]
theorem ZiT{ms ks rs l:List AV}{wn fl:Int}{T:List Int}(hu:upE ms ks rs l wn fl=0)(h:ZkP ks rs l=some T){i:Nat}(hi:i<l.length)(hs:VS ks rs l fl ⟨T.getD i 0,m0A ks l i,dnT T i,false,i,false,[],[]⟩):okW ms ks rs l wn fl (ZwB T i) ⟨T.getD i 0,m0A ks l i,dnT T i,false,i,false,[],[]⟩ (stW ks l T (i+1)):=by
 obtain⟨hf,hwn,hfl⟩:=Zbl hu
 have hll:=hf.l1
 have hn:ZkC ks rs l ⟨T.getD i 0,m0A ks l i,dnT T i,false,i,false,[],[]⟩=true:=by
  unfold ZkC;rw[ZiM];exact(Zjk h hi).1
 refine Zgd hu hs (s1:=⟨T.getD i 0,m0A ks l i,dnT T i,false,i,false,[(i:Int)],[]⟩) ?_ ?_ rfl fun hs1=>?_
 ·simp only[evE,Zab,Zaa]
  simp
  omega
 ·simp[ZbW,Zab,show(i:Int)<l.length by omega]
  omega
 refine Zgd hu hs1 (s1:=⟨T.getD i 0,m0A ks l (i+1),dnT T (i+1),false,i,false,[],[upV (i+1:Nat) false]⟩) (by decide) (by simp[ZbW]) ?_ fun hs2=>?_
 ·have hn':ZkC ks rs l ⟨T.getD i 0,m0A ks l i,dnT T i,false,i,false,[],[]⟩=true:=hn
  simp[-List.getD_eq_getElem?_getD,appS,Zh7,ZbZ,ZiM,hn',Zed,ZxJ,ZqA,List.getD_cons_zero,show(0:Int)<fl by omega]
 refine Zgd hu hs2 (s1:=stW ks l T (i+1)) (by decide) (by simp[ZbW]) ?_ fun _=>rfl
 simp[-List.getD_eq_getElem?_getD,appS,stW,ZbZ,tmT,upV,Zaj,List.getD_cons_zero,AV.cellAt,AV.toI,AV.toB]
 exact⟨by omega,rfl⟩
theorem Zqd(ks rs l:List AV){fl:Int}(hf:0≤fl):VS ks rs l fl st0:=
 ⟨⟨by decide,by decide⟩,⟨Nat.zero_le _,hf,hf⟩,fun i h=>absurd h (Nat.not_lt_zero i),rfl,(fun h=>by cases h),⟨by decide,by decide⟩,(fun h=>by cases h),(fun x h=>by cases h),(fun x h=>by cases h)⟩
theorem ZBC{ms ks rs l:List AV}{wn fl:Int}(h:upE ms ks rs l wn fl=0):Zgf ms ks rs l=0:=by
 unfold upE at h
 split at h
 ·assumption
 ·rename_i hf;exact absurd h hf
theorem Zfu(ks rs l:List AV):∀(m i:Nat) (a t:Int) (xs ts:List Int),ZcD ks rs l m i a t xs=some ts→ts.length=m
 |0,_,_,_,_,ts,h=>by simp only[ZcD,Option.some.injEq]at h;subst h;rfl
 |m+1,i,a,t,xs,ts,h=>by
  rw[ZcD]at h
  split at h
  ·rw[Option.map_eq_some_iff]at h
   obtain⟨q,h1,rfl⟩:=h
   rw[List.length_cons,Zfu ks rs l m _ _ _ _ q h1]
  ·cases h
theorem Zp5{ms ks rs l:List AV}{wn fl:Int}{T:List Int}(hu:upE ms ks rs l wn fl=0)(h:ZkP ks rs l=some T):∀i,i≤l.length→VS ks rs l fl (stW ks l T i)
 |0,_=>by
  obtain⟨_,_,hfl⟩:=Zbl hu
  exact Zqd ks rs l (by omega)
 |i+1,hi=>by
  have ih:=Zp5 hu h i (by omega)
  obtain⟨ha,hb⟩:=Zjk h (show i<l.length by omega)
  obtain⟨hf,hwn,hfl⟩:=Zbl hu
  have hll:=hf.l1
  have hw:Zab (T.getD i 0) (Zaj l i 1) (Zaj l i 2)=true:=by
   simp only[ZdB,Bool.and_eq_true]at ha;exact ha.1
  have hw:=within_iff.1 hw
  have hact:=hf.act i (by omega)
  have okEnd:∀ {vs:List AV} {s s':ST},okW ms ks rs l wn fl vs s s'→VS ks rs l fl s→VS ks rs l fl s':=by
   intro vs
   induction vs with
   |nil=>intro s s' h hs;cases h;exact hs
   |cons v vs ihv=>
    intro s s' h hs
    obtain⟨_,_,g1,g2⟩:=codeP_zero.1 h.1
    exact ihv h.2 (ZpU hs g1 g2)
  have hs1:VS ks rs l fl ⟨T.getD i 0,m0A ks l i,dnT T i,false,i,false,[],[]⟩:=⟨⟨by show 0≤T.getD i 0;omega,by show T.getD i 0≤1000000000000;omega⟩,ih.len,fun j hj=>by
   obtain⟨a,b,c,d⟩:=ih.done j hj
   exact⟨a,Int.le_trans b hb,c,d⟩,ih.mode,ih.halt,ih.base,ih.told,ih.down,ih.up⟩
  exact okEnd (ZiT hu h (by omega) hs1) hs1
theorem Zx8{ms ks rs l:List AV}{wn fl:Int}{T:List Int}(hu:upE ms ks rs l wn fl=0)(h:ZkP ks rs l=some T){i:Nat}(hi:i<l.length):tmT T i≤T.getD i 0∧T.getD i 0≤1000000000000∧okW ms ks rs l wn fl (if tmT T i<T.getD i 0 then .agg (.gen [.int .i64 0, .int .i64 (T.getD i 0-tmT T i)])::ZwB T i else ZwB T i) (stW ks l T i) (stW ks l T (i+1)):=by
 have hs:=Zp5 hu h i (by omega)
 obtain⟨ha,hb⟩:=Zjk h hi
 obtain⟨hf,hwn,hfl⟩:=Zbl hu
 have hw:Zab (T.getD i 0) (Zaj l i 1) (Zaj l i 2)=true:=by
  simp only[ZdB,Bool.and_eq_true]at ha;exact ha.1
 have hw:=within_iff.1 hw
 have hact:=hf.act i (by omega)
 have ht:=hs.t
 have ht:0≤tmT T i∧tmT T i≤1000000000000:=ht
 refine⟨hb,by omega,?_⟩
 split
 ·rename_i hlt
  refine Zgd hu hs (s1:=⟨T.getD i 0,m0A ks l i,dnT T i,false,i,false,[],[]⟩) ?_ ?_ ?_ fun hs1=>ZiT hu h hi hs1
  ·simp only[evE,Zab,Zaa]
   simp[-List.getD_eq_getElem?_getD]
   omega
  ·have e:(stW ks l T i).t=tmT T i:=rfl
   simp only[ZbW,e,if_true]
   rw[if_neg (by omega)]
  ·simp[-List.getD_eq_getElem?_getD,appS,stW]
   omega
 ·rename_i hlt
  have e:stW ks l T i=⟨T.getD i 0,m0A ks l i,dnT T i,false,i,false,[],[]⟩:=by
   unfold stW;congr 1;omega
  rw[e]at hs⊢
  exact ZiT hu h hi hs
end Go.Proofs.YtkeoeooghhjibaaGreatDoor
