/- Contracts as a list. No condition. -/
import Derived.Test.YtkeoeooghhjibaaGreatDoorQi
namespace Go.Proofs.YtkeoeooghhjibaaGreatDoor
section
variable {C:Ctx}(hC:C.P=Tryz.prog)(ms ks rs l:List AV)(wn fl:Int)(at0 mo:Int)(dn:List AV)(ha:Bool)(ba:Int)(to:Bool)(dw:List Int)(up:List AV)(en:Int)
include hC
theorem ZDh(h:OkA ms ks rs l wn fl ⟨at0,mo,dn,ha,ba,to,dw,up⟩ 0 en):Ev C (ZaV ms ks rs l wn fl at0 mo dn ha ba to dw up 0 en (m0L ks l dn dn.length) (m0A ks l dn.length) dn.length 0 up.length up.length) (ZaP ms ks rs l wn fl at0 mo dn ha ba to dw up 0 en (m0L ks l dn dn.length) (m0A ks l dn.length) dn.length 0 up.length up.length) (Zhr 40 (Zkq (Zkv ks rs l wn fl ⟨at0,mo,dn,ha,ba,to,dw,up⟩ 0 en) (ZbZ l wn fl ⟨at0,mo,dn,ha,ba,to,dw,up⟩ 0 en)) none):=
 Zje hC Zc2 ZaW (by
  obtain⟨g0,g1,g2,g3,g4,g5,g6,g7⟩:=ZiB h
  have he:=h.e
  have h0:¬(up.length:Int)<up.length:=by omega
  have hv:=ev0 h.e
  by_cases h1:1000000000000<at0+en
  ·have hr:=Zby (ks:=ks) (rs:=rs) (l:=l) (wn:=wn) (fl:=fl) (s:=⟨at0,mo,dn,ha,ba,to,dw,up⟩) (k:=0) (n:=en) (e:=2) (by simp[ZbZ];omega) (by decide)
   simp[-List.getD_eq_getElem?_getD,Zan,AV.bx,Zad,h0,he,Zaf,Zaa,h1]
   repeat refine⟨by omega,?_⟩
   exact hr
  ·have hr:=Zbe (ks:=ks) (rs:=rs) (l:=l) (wn:=wn) (fl:=fl) (s:=⟨at0,mo,dn,ha,ba,to,dw,up⟩) (k:=0) (n:=en) (by simp[ZbZ];omega) (rfl)
   simp[-List.getD_eq_getElem?_getD,Zan,AV.bx,Zad,h0,he,Zaf,Zaa,h1]
   repeat refine⟨by omega,?_⟩
   exact hr)
theorem ZCh(h:OkA ms ks rs l wn fl ⟨at0,mo,dn,ha,ba,to,dw,up⟩ 1 en):Ev C (ZaV ms ks rs l wn fl at0 mo dn ha ba to dw up 1 en (m0L ks l dn dn.length) (m0A ks l dn.length) dn.length 0 up.length up.length) (ZaP ms ks rs l wn fl at0 mo dn ha ba to dw up 1 en (m0L ks l dn dn.length) (m0A ks l dn.length) dn.length 0 up.length up.length) (Zhr 40 (Zkq (Zkv ks rs l wn fl ⟨at0,mo,dn,ha,ba,to,dw,up⟩ 1 en) (ZbZ l wn fl ⟨at0,mo,dn,ha,ba,to,dw,up⟩ 1 en)) none):=
 Zje hC Zc2 ZaW (by
  obtain⟨g0,g1,g2,g3,g4,g5,g6,g7⟩:=ZiB h
  have he:=h.e
  have h0:¬(up.length:Int)<up.length:=by omega
  have hv:=ev1 h.e
  by_cases h1:en<l.length
  ·cases to
   ·by_cases h2:Zab en ba (ba+wn-1)=true
    ·by_cases h3:(dw.length:Int)<fl
     ·have hr:=Zbe (ks:=ks) (rs:=rs) (l:=l) (wn:=wn) (fl:=fl) (s:=⟨at0,mo,dn,ha,ba,false,dw,up⟩) (k:=1) (n:=en) (by simp[ZbZ,h1,h2,h3]) (rfl)
      simp[-List.getD_eq_getElem?_getD,Zan,AV.bx,Zad,h0,he,Zaf,Zaa,h1,h2,h3]
      repeat refine⟨by omega,?_⟩
      exact hr
     ·have hr:=Zby (ks:=ks) (rs:=rs) (l:=l) (wn:=wn) (fl:=fl) (s:=⟨at0,mo,dn,ha,ba,false,dw,up⟩) (k:=1) (n:=en) (e:=16) (by simp[ZbZ,h1,h2,h3]) (by decide)
      simp[-List.getD_eq_getElem?_getD,Zan,AV.bx,Zad,h0,he,Zaf,Zaa,h1,h2,h3]
      repeat refine⟨by omega,?_⟩
      exact hr
    ·have hr:=Zby (ks:=ks) (rs:=rs) (l:=l) (wn:=wn) (fl:=fl) (s:=⟨at0,mo,dn,ha,ba,false,dw,up⟩) (k:=1) (n:=en) (e:=26) (by simp[ZbZ,h1,h2]) (by decide)
     simp[-List.getD_eq_getElem?_getD,Zan,AV.bx,Zad,h0,he,Zaf,Zaa,h1,h2]
     repeat refine⟨by omega,?_⟩
     exact hr
   ·have hr:=Zby (ks:=ks) (rs:=rs) (l:=l) (wn:=wn) (fl:=fl) (s:=⟨at0,mo,dn,ha,ba,true,dw,up⟩) (k:=1) (n:=en) (e:=21) (by simp[ZbZ,h1]) (by decide)
    simp[-List.getD_eq_getElem?_getD,Zan,AV.bx,Zad,h0,he,Zaf,Zaa,h1]
    repeat refine⟨by omega,?_⟩
    exact hr
  ·have hr:=Zby (ks:=ks) (rs:=rs) (l:=l) (wn:=wn) (fl:=fl) (s:=⟨at0,mo,dn,ha,ba,to,dw,up⟩) (k:=1) (n:=en) (e:=6) (by simp[ZbZ,h1]) (by decide)
   simp[-List.getD_eq_getElem?_getD,Zan,AV.bx,Zad,h0,he,Zaf,Zaa,h1]
   repeat refine⟨by omega,?_⟩
   exact hr)
theorem ZDo(h:OkA ms ks rs l wn fl ⟨at0,mo,dn,ha,ba,to,dw,up⟩ 4 en):Ev C (ZaV ms ks rs l wn fl at0 mo dn ha ba to dw up 4 en (m0L ks l dn dn.length) (m0A ks l dn.length) dn.length 0 up.length up.length) (ZaP ms ks rs l wn fl at0 mo dn ha ba to dw up 4 en (m0L ks l dn dn.length) (m0A ks l dn.length) dn.length 0 up.length up.length) (Zhr 40 (Zkq (Zkv ks rs l wn fl ⟨at0,mo,dn,ha,ba,to,dw,up⟩ 4 en) (ZbZ l wn fl ⟨at0,mo,dn,ha,ba,to,dw,up⟩ 4 en)) none):=
 Zje hC Zc2 ZaW (by
  obtain⟨g0,g1,g2,g3,g4,g5,g6,g7⟩:=ZiB h
  have he:=h.e
  have h0:¬(up.length:Int)<up.length:=by omega
  have hv:=ZBz (by omega) h.e
  by_cases h1:(dw.length:Int)≤en
  ·have hr:=Zby (ks:=ks) (rs:=rs) (l:=l) (wn:=wn) (fl:=fl) (s:=⟨at0,mo,dn,ha,ba,to,dw,up⟩) (k:=4) (n:=en) (e:=6) (by simp[ZbZ];omega) (by decide)
   simp[-List.getD_eq_getElem?_getD,Zan,AV.bx,Zad,h0,he,Zaf,Zaa,h1]
   repeat refine⟨by omega,?_⟩
   exact hr
  ·have hr:=Zbe (ks:=ks) (rs:=rs) (l:=l) (wn:=wn) (fl:=fl) (s:=⟨at0,mo,dn,ha,ba,to,dw,up⟩) (k:=4) (n:=en) (by simp[ZbZ];omega) (rfl)
   obtain⟨c1,c2⟩:=ZBy dw en hv.1 (by omega)
   simp[-List.getD_eq_getElem?_getD,Zan,AV.bx,Zad,h0,he,Zaf,Zaa,h1,Zdp (show 0≤en by omega) (show en<dw.length by omega) (by omega),Zde (show 0≤en by omega) (show en<dw.length by omega) (by omega),Zg8 (show 0≤en by omega) (show en<dw.length by omega),show ¬en=en+1 by omega]
   repeat refine⟨by omega,?_⟩
   exact hr)
theorem ZEc(h:OkA ms ks rs l wn fl ⟨at0,mo,dn,ha,ba,to,dw,up⟩ 5 en):Ev C (ZaV ms ks rs l wn fl at0 mo dn ha ba to dw up 5 en (m0L ks l dn dn.length) (m0A ks l dn.length) dn.length 0 up.length up.length) (ZaP ms ks rs l wn fl at0 mo dn ha ba to dw up 5 en (m0L ks l dn dn.length) (m0A ks l dn.length) dn.length 0 up.length up.length) (Zhr 40 (Zkq (Zkv ks rs l wn fl ⟨at0,mo,dn,ha,ba,to,dw,up⟩ 5 en) (ZbZ l wn fl ⟨at0,mo,dn,ha,ba,to,dw,up⟩ 5 en)) none):=
 Zje hC Zc2 ZaW (by
  obtain⟨g0,g1,g2,g3,g4,g5,g6,g7⟩:=ZiB h
  have he:=h.e
  have h0:¬(up.length:Int)<up.length:=by omega
  have hv:=ZBz (by omega) h.e
  by_cases h1:(up.length:Int)≤en
  ·have hr:=Zby (ks:=ks) (rs:=rs) (l:=l) (wn:=wn) (fl:=fl) (s:=⟨at0,mo,dn,ha,ba,to,dw,up⟩) (k:=5) (n:=en) (e:=6) (by simp[ZbZ];omega) (by decide)
   simp[-List.getD_eq_getElem?_getD,Zan,AV.bx,Zad,h0,he,Zaf,Zaa,h1]
   repeat refine⟨by omega,?_⟩
   exact hr
  ·have hr:=Zbe (ks:=ks) (rs:=rs) (l:=l) (wn:=wn) (fl:=fl) (s:=⟨at0,mo,dn,ha,ba,to,dw,up⟩) (k:=5) (n:=en) (by simp[ZbZ];omega) (rfl)
   obtain⟨c1,c2⟩:=ZBy up en hv.1 (by omega)
   simp[-List.getD_eq_getElem?_getD,Zan,AV.bx,Zad,h0,he,Zaf,Zaa,h1,Zop (show 0≤en by omega) (show en<up.length by omega) (by omega),ZpQ (show 0≤en by omega) (show en<up.length by omega) (by omega),ZvC (show 0≤en by omega) (show en<up.length by omega),show ¬en=en+1 by omega]
   repeat refine⟨by omega,?_⟩
   exact hr)
theorem ZDs(h:OkA ms ks rs l wn fl ⟨at0,mo,dn,ha,ba,to,dw,up⟩ 3 en):Ev C (ZaV ms ks rs l wn fl at0 mo dn ha ba to dw up 3 en (m0L ks l dn dn.length) (m0A ks l dn.length) dn.length 0 up.length up.length) (ZaP ms ks rs l wn fl at0 mo dn ha ba to dw up 3 en (m0L ks l dn dn.length) (m0A ks l dn.length) dn.length 0 up.length up.length) (Zhr 40 (Zkq (Zkv ks rs l wn fl ⟨at0,mo,dn,ha,ba,to,dw,up⟩ 3 en) (ZbZ l wn fl ⟨at0,mo,dn,ha,ba,to,dw,up⟩ 3 en)) none):=
 Zje hC Zc2 ZaW (by
  obtain⟨g0,g1,g2,g3,g4,g5,g6,g7⟩:=ZiB h
  have he:=h.e
  have h0:¬(up.length:Int)<up.length:=by omega
  have hv:=ZBz (by omega) h.e
  by_cases h1:(up.length:Int)≤en
  ·have hr:=Zby (ks:=ks) (rs:=rs) (l:=l) (wn:=wn) (fl:=fl) (s:=⟨at0,mo,dn,ha,ba,to,dw,up⟩) (k:=3) (n:=en) (e:=6) (by simp[ZbZ];omega) (by decide)
   simp[-List.getD_eq_getElem?_getD,Zan,AV.bx,Zad,h0,he,Zaf,Zaa,h1]
   repeat refine⟨by omega,?_⟩
   exact hr
  ·have hr:=Zbe (ks:=ks) (rs:=rs) (l:=l) (wn:=wn) (fl:=fl) (s:=⟨at0,mo,dn,ha,ba,to,dw,up⟩) (k:=3) (n:=en) (by simp[ZbZ];omega) (rfl)
   have e1:appS ks rs l fl ⟨at0,mo,dn,ha,ba,to,dw,up⟩ 3 en=⟨at0,mo,dn,ha,max ba (Zak up en 0),to||((up.getD en.toNat .top).cellAt 1).toB,dw,ZbV up en⟩:=rfl
   rw[e1]at hr
   have e2:((up.getD en.toNat .top).cellAt 0).toI=Zak up en 0:=rfl
   obtain⟨c1,c2⟩:=ZBy up en hv.1 (by omega)
   cases to
   ·simp[-List.getD_eq_getElem?_getD,Zan,AV.bx,Zad,h0,he,Zaf,Zaa,h1,c1,c2,Zop (show 0≤en by omega) (show en<up.length by omega) (by omega),ZpQ (show 0≤en by omega) (show en<up.length by omega) (by omega),ZvC (show 0≤en by omega) (show en<up.length by omega),show ¬en=en+1 by omega,e2]
    repeat refine⟨by omega,?_⟩
    exact hr
   ·simp[-List.getD_eq_getElem?_getD,Zan,AV.bx,Zad,h0,he,Zaf,Zaa,h1,c1,c2,Zop (show 0≤en by omega) (show en<up.length by omega) (by omega),ZpQ (show 0≤en by omega) (show en<up.length by omega) (by omega),ZvC (show 0≤en by omega) (show en<up.length by omega),show ¬en=en+1 by omega,e2]
    repeat refine⟨by omega,?_⟩
    exact hr)
theorem ZCs(h:OkA ms ks rs l wn fl ⟨at0,mo,dn,ha,ba,to,dw,up⟩ 6 en):Ev C (ZaV ms ks rs l wn fl at0 mo dn ha ba to dw up 6 en (m0L ks l dn dn.length) (m0A ks l dn.length) dn.length 0 up.length up.length) (ZaP ms ks rs l wn fl at0 mo dn ha ba to dw up 6 en (m0L ks l dn dn.length) (m0A ks l dn.length) dn.length 0 up.length up.length) (Zhr 40 (Zkq (Zkv ks rs l wn fl ⟨at0,mo,dn,ha,ba,to,dw,up⟩ 6 en) (ZbZ l wn fl ⟨at0,mo,dn,ha,ba,to,dw,up⟩ 6 en)) none):=
 Zje hC Zc2 ZaW (by
  obtain⟨g0,g1,g2,g3,g4,g5,g6,g7⟩:=ZiB h
  have he:=h.e
  have h0:¬(up.length:Int)<up.length:=by omega
  have hv:=ZBz (by omega) h.e
  by_cases h1:en<dw.length
  ·obtain⟨c1,c2⟩:=ZBy dw en hv.1 h1
   by_cases h3:(dw.length:Int)<fl
   ·have hr:=Zbe (ks:=ks) (rs:=rs) (l:=l) (wn:=wn) (fl:=fl) (s:=⟨at0,mo,dn,ha,ba,to,dw,up⟩) (k:=6) (n:=en) (by simp[ZbZ,h1,h3]) (rfl)
    simp[-List.getD_eq_getElem?_getD,Zan,AV.bx,Zad,h0,he,Zaf,Zaa,h1,h3,c2]
    repeat refine⟨by omega,?_⟩
    exact hr
   ·have hr:=Zby (ks:=ks) (rs:=rs) (l:=l) (wn:=wn) (fl:=fl) (s:=⟨at0,mo,dn,ha,ba,to,dw,up⟩) (k:=6) (n:=en) (e:=16) (by simp[ZbZ,h1,h3]) (by decide)
    simp[-List.getD_eq_getElem?_getD,Zan,AV.bx,Zad,h0,he,Zaf,Zaa,h1,h3]
    repeat refine⟨by omega,?_⟩
    exact hr
  ·have hr:=Zby (ks:=ks) (rs:=rs) (l:=l) (wn:=wn) (fl:=fl) (s:=⟨at0,mo,dn,ha,ba,to,dw,up⟩) (k:=6) (n:=en) (e:=6) (by simp[ZbZ,h1]) (by decide)
   simp[-List.getD_eq_getElem?_getD,Zan,AV.bx,Zad,h0,he,Zaf,Zaa,h1]
   repeat refine⟨by omega,?_⟩
   exact hr)
theorem ZDw(h:OkA ms ks rs l wn fl ⟨at0,mo,dn,ha,ba,to,dw,up⟩ 7 en):Ev C (ZaV ms ks rs l wn fl at0 mo dn ha ba to dw up 7 en (m0L ks l dn dn.length) (m0A ks l dn.length) dn.length 0 up.length up.length) (ZaP ms ks rs l wn fl at0 mo dn ha ba to dw up 7 en (m0L ks l dn dn.length) (m0A ks l dn.length) dn.length 0 up.length up.length) (Zhr 40 (Zkq (Zkv ks rs l wn fl ⟨at0,mo,dn,ha,ba,to,dw,up⟩ 7 en) (ZbZ l wn fl ⟨at0,mo,dn,ha,ba,to,dw,up⟩ 7 en)) none):=
 Zje hC Zc2 ZaW (by
  obtain⟨g0,g1,g2,g3,g4,g5,g6,g7⟩:=ZiB h
  have he:=h.e
  have h0:¬(up.length:Int)<up.length:=by omega
  have hr:=Zbe (ks:=ks) (rs:=rs) (l:=l) (wn:=wn) (fl:=fl) (s:=⟨at0,mo,dn,ha,ba,to,dw,up⟩) (k:=7) (n:=en) (by simp[ZbZ]) (rfl)
  simp[-List.getD_eq_getElem?_getD,Zan,AV.bx,Zad,h0,he,Zaf,Zaa]
  repeat refine⟨by omega,?_⟩
  exact hr)
theorem ZD3(h:OkA ms ks rs l wn fl ⟨at0,mo,dn,ha,ba,to,dw,up⟩ 8 en):Ev C (ZaV ms ks rs l wn fl at0 mo dn ha ba to dw up 8 en (m0L ks l dn dn.length) (m0A ks l dn.length) dn.length 0 up.length up.length) (ZaP ms ks rs l wn fl at0 mo dn ha ba to dw up 8 en (m0L ks l dn dn.length) (m0A ks l dn.length) dn.length 0 up.length up.length) (Zhr 40 (Zkq (Zkv ks rs l wn fl ⟨at0,mo,dn,ha,ba,to,dw,up⟩ 8 en) (ZbZ l wn fl ⟨at0,mo,dn,ha,ba,to,dw,up⟩ 8 en)) none):=
 Zje hC Zc2 ZaW (by
  obtain⟨g0,g1,g2,g3,g4,g5,g6,g7⟩:=ZiB h
  have he:=h.e
  have h0:¬(up.length:Int)<up.length:=by omega
  have hr:=Zbe (ks:=ks) (rs:=rs) (l:=l) (wn:=wn) (fl:=fl) (s:=⟨at0,mo,dn,ha,ba,to,dw,up⟩) (k:=8) (n:=en) (by simp[ZbZ]) (s':=_) rfl
  have e1:appS ks rs l fl ⟨at0,mo,dn,ha,ba,to,dw,up⟩ 8 en=Zer fl ⟨at0,mo,dn,ha,ba,to,dw,up⟩:=rfl
  rw[e1]at hr
  unfold Zer ZAj at hr
  by_cases h1:(up.length:Int)<fl
  ·simp only[if_pos h1]at hr
   simp[-List.getD_eq_getElem?_getD,Zan,AV.bx,Zad,h0,he,Zaf,Zaa,h1,Zxd]
   repeat refine⟨by omega,?_⟩
   exact hr
  ·simp only[if_neg h1]at hr
   simp[-List.getD_eq_getElem?_getD,Zan,AV.bx,Zad,h0,he,Zaf,Zaa,h1]
   repeat refine⟨by omega,?_⟩
   exact hr)
theorem ZEr(h:OkA ms ks rs l wn fl ⟨at0,mo,dn,ha,ba,to,dw,up⟩ 2 en):Ev C (ZaV ms ks rs l wn fl at0 mo dn ha ba to dw up 2 en (m0L ks l dn dn.length) (m0A ks l dn.length) dn.length 0 up.length up.length) (ZaP ms ks rs l wn fl at0 mo dn ha ba to dw up 2 en (m0L ks l dn dn.length) (m0A ks l dn.length) dn.length 0 up.length up.length) (Zhr 40 (Zkq (Zkv ks rs l wn fl ⟨at0,mo,dn,ha,ba,to,dw,up⟩ 2 en) (ZbZ l wn fl ⟨at0,mo,dn,ha,ba,to,dw,up⟩ 2 en)) none):=
 Zje hC Zc2 ZaW (by
  obtain⟨g0,g1,g2,g3,g4,g5,g6,g7⟩:=ZiB h
  have he:=h.e
  have h0:¬(up.length:Int)<up.length:=by omega
  obtain⟨hf,_,_⟩:=Zc7 h.u
  have hvs:=vs_iff.1 h.s
  have hv:=ZBz (by omega) h.e
  by_cases h1:(dw.length:Int)≤en
  ·have hr:=Zby (ks:=ks) (rs:=rs) (l:=l) (wn:=wn) (fl:=fl) (s:=⟨at0,mo,dn,ha,ba,to,dw,up⟩) (k:=2) (n:=en) (e:=6) (by simp[ZbZ];omega) (by decide)
   simp[-List.getD_eq_getElem?_getD,Zan,AV.bx,Zad,h0,he,Zaf,Zaa,h1]
   repeat refine⟨by omega,?_⟩
   exact hr
  ·obtain⟨c1,c2⟩:=ZBy dw en hv.1 (by omega)
   have hmem:=hvs.down _ (Zgb (d:=0) c2)
   generalize hact:dw.getD en.toNat 0=act at*
   cases ha
   ·by_cases h4:act=(dn.length:Int)
    ·have hdl:dn.length<l.length:=by omega
     have h4':(act=(dn.length:Int))=True:=eq_true h4
     have m1:act.toNat=dn.length:=by omega
     have e2:∀i,((l.getD dn.length .top).cellAt i).toI=Zak l dn.length i:=fun i=>rfl
     have e5:((ks.getD (Zak l dn.length 0).toNat .top).cellAt 1).toI=Zak ks (Zak l dn.length 0) 1:=rfl
     have hk8:=hf.ks1
     have hlm:=ZuS ks l dn dn.length
     obtain⟨⟨a1,a2⟩,_⟩:=hf.act dn.length hdl
     have hT:=Zmv hf hvs dn.length (Nat.le_refl _)
     have hnx:Zpx ks rs l ⟨at0,mo,dn,false,ba,to,ZbV dw en,up⟩=Zjd rs (m0A ks l dn.length) at0 (m0L ks l dn dn.length) (Zak l dn.length 0) (Zak l dn.length 1) (Zak l dn.length 2):=rfl
     have hg:Zab at0 (Zak l dn.length 1) (Zak l dn.length 2)=false∨ZbR rs at0 (m0L ks l dn dn.length)=true:=by
      cases hw:Zab at0 (Zak l dn.length 1) (Zak l dn.length 2)
      ·exact .inl rfl
      ·exact .inr (hT.forb (ms:=ms) (l:=l) hf (ZBx hvs) hvs.t.2)
     by_cases hn:Zjd rs (m0A ks l dn.length) at0 (m0L ks l dn dn.length) (Zak l dn.length 0) (Zak l dn.length 1) (Zak l dn.length 2)=true
     ·have hnx2:=hnx.trans hn
      have hxl:(dn++[dnV act at0]).length=dn.length+1:=by simp
      have e9:upV (((dn++[dnV act at0]).length:Nat):Int) false=.agg (.gen [.int .i64 (dn.length+1), .bool false]):=by simp[upV]
      have hm:m0A ks l (dn.length+1)=exM ks (m0A ks l dn.length) (Zak l dn.length 0):=Zf9 ..
      unfold exM at hm
      by_cases h6:Zak ks (Zak l dn.length 0) 1= -1
      ·rw[if_pos h6]at hm
       by_cases h5:(up.length:Int)<fl
       ·have hr:=Zbe (ks:=ks) (rs:=rs) (l:=l) (wn:=wn) (fl:=fl) (s:=⟨at0,mo,dn,false,ba,to,dw,up⟩) (k:=2) (n:=en) (by simp[ZbZ];omega) (((show appS ks rs l fl ⟨at0,mo,dn,false,ba,to,dw,up⟩ 2 en=Zer fl (Zgc ks rs l ⟨at0,mo,dn,false,ba,to,ZbV dw en,up⟩ act) by rw[←hact];rfl).trans ((Zi8 ⟨rfl,h4⟩ hnx2).trans (congrArg (fun x=>Zer fl ⟨at0,x,dn++[dnV act at0],false,ba,to,ZbV dw en,up⟩) hm))).trans (Zgn h5))
        simp[-List.getD_eq_getElem?_getD,Zan,AV.bx,Zad,h0,he,Zaf,Zaa,h1,c1,c2,hact,Zdp (show 0≤en by omega) (show en<dw.length by omega) (by omega),Zde (show 0≤en by omega) (show en<dw.length by omega) (by omega),Zg8 (show 0≤en by omega) (show en<dw.length by omega),show ¬en=en+1 by omega,h4',m1,e2,e5,hg,hn,h6,a1,a2,hlm,Zq7,h5,Zxd]
        rw[←e9]
        repeat refine⟨by omega,?_⟩
        exact hr
       ·have hr:=Zbe (ks:=ks) (rs:=rs) (l:=l) (wn:=wn) (fl:=fl) (s:=⟨at0,mo,dn,false,ba,to,dw,up⟩) (k:=2) (n:=en) (by simp[ZbZ];omega) (((show appS ks rs l fl ⟨at0,mo,dn,false,ba,to,dw,up⟩ 2 en=Zer fl (Zgc ks rs l ⟨at0,mo,dn,false,ba,to,ZbV dw en,up⟩ act) by rw[←hact];rfl).trans ((Zi8 ⟨rfl,h4⟩ hnx2).trans (congrArg (fun x=>Zer fl ⟨at0,x,dn++[dnV act at0],false,ba,to,ZbV dw en,up⟩) hm))).trans (ZjP h5))
        simp[-List.getD_eq_getElem?_getD,Zan,AV.bx,Zad,h0,he,Zaf,Zaa,h1,c1,c2,hact,Zdp (show 0≤en by omega) (show en<dw.length by omega) (by omega),Zde (show 0≤en by omega) (show en<dw.length by omega) (by omega),Zg8 (show 0≤en by omega) (show en<dw.length by omega),show ¬en=en+1 by omega,h4',m1,e2,e5,hg,hn,h6,a1,a2,hlm,Zq7,h5]
        repeat refine⟨by omega,?_⟩
        exact hr
      ·rw[if_neg h6]at hm
       by_cases h5:(up.length:Int)<fl
       ·have hr:=Zbe (ks:=ks) (rs:=rs) (l:=l) (wn:=wn) (fl:=fl) (s:=⟨at0,mo,dn,false,ba,to,dw,up⟩) (k:=2) (n:=en) (by simp[ZbZ];omega) (((show appS ks rs l fl ⟨at0,mo,dn,false,ba,to,dw,up⟩ 2 en=Zer fl (Zgc ks rs l ⟨at0,mo,dn,false,ba,to,ZbV dw en,up⟩ act) by rw[←hact];rfl).trans ((Zi8 ⟨rfl,h4⟩ hnx2).trans (congrArg (fun x=>Zer fl ⟨at0,x,dn++[dnV act at0],false,ba,to,ZbV dw en,up⟩) hm))).trans (Zgn h5))
        simp[-List.getD_eq_getElem?_getD,Zan,AV.bx,Zad,h0,he,Zaf,Zaa,h1,c1,c2,hact,Zdp (show 0≤en by omega) (show en<dw.length by omega) (by omega),Zde (show 0≤en by omega) (show en<dw.length by omega) (by omega),Zg8 (show 0≤en by omega) (show en<dw.length by omega),show ¬en=en+1 by omega,h4',m1,e2,e5,hg,hn,h6,a1,a2,hlm,Zq7,h5,Zxd]
        rw[←e9]
        repeat refine⟨by omega,?_⟩
        exact hr
       ·have hr:=Zbe (ks:=ks) (rs:=rs) (l:=l) (wn:=wn) (fl:=fl) (s:=⟨at0,mo,dn,false,ba,to,dw,up⟩) (k:=2) (n:=en) (by simp[ZbZ];omega) (((show appS ks rs l fl ⟨at0,mo,dn,false,ba,to,dw,up⟩ 2 en=Zer fl (Zgc ks rs l ⟨at0,mo,dn,false,ba,to,ZbV dw en,up⟩ act) by rw[←hact];rfl).trans ((Zi8 ⟨rfl,h4⟩ hnx2).trans (congrArg (fun x=>Zer fl ⟨at0,x,dn++[dnV act at0],false,ba,to,ZbV dw en,up⟩) hm))).trans (ZjP h5))
        simp[-List.getD_eq_getElem?_getD,Zan,AV.bx,Zad,h0,he,Zaf,Zaa,h1,c1,c2,hact,Zdp (show 0≤en by omega) (show en<dw.length by omega) (by omega),Zde (show 0≤en by omega) (show en<dw.length by omega) (by omega),Zg8 (show 0≤en by omega) (show en<dw.length by omega),show ¬en=en+1 by omega,h4',m1,e2,e5,hg,hn,h6,a1,a2,hlm,Zq7,h5]
        repeat refine⟨by omega,?_⟩
        exact hr
     ·have hnx2:¬Zpx ks rs l ⟨at0,mo,dn,false,ba,to,ZbV dw en,up⟩=true:=hn
      by_cases h5:(up.length:Int)<fl
      ·have hr:=Zbe (ks:=ks) (rs:=rs) (l:=l) (wn:=wn) (fl:=fl) (s:=⟨at0,mo,dn,false,ba,to,dw,up⟩) (k:=2) (n:=en) (by simp[ZbZ];omega) (((show appS ks rs l fl ⟨at0,mo,dn,false,ba,to,dw,up⟩ 2 en=Zer fl (Zgc ks rs l ⟨at0,mo,dn,false,ba,to,ZbV dw en,up⟩ act) by rw[←hact];rfl).trans (Zoe ⟨rfl,h4⟩ hnx2)).trans (Zgn h5))
       simp[-List.getD_eq_getElem?_getD,Zan,AV.bx,Zad,h0,he,Zaf,Zaa,h1,c1,c2,hact,Zdp (show 0≤en by omega) (show en<dw.length by omega) (by omega),Zde (show 0≤en by omega) (show en<dw.length by omega) (by omega),Zg8 (show 0≤en by omega) (show en<dw.length by omega),show ¬en=en+1 by omega,h4',m1,e2,hg,hn,h5,Zxd]
       repeat refine⟨by omega,?_⟩
       exact hr
      ·have hr:=Zbe (ks:=ks) (rs:=rs) (l:=l) (wn:=wn) (fl:=fl) (s:=⟨at0,mo,dn,false,ba,to,dw,up⟩) (k:=2) (n:=en) (by simp[ZbZ];omega) (((show appS ks rs l fl ⟨at0,mo,dn,false,ba,to,dw,up⟩ 2 en=Zer fl (Zgc ks rs l ⟨at0,mo,dn,false,ba,to,ZbV dw en,up⟩ act) by rw[←hact];rfl).trans (Zoe ⟨rfl,h4⟩ hnx2)).trans (ZjP h5))
       simp[-List.getD_eq_getElem?_getD,Zan,AV.bx,Zad,h0,he,Zaf,Zaa,h1,c1,c2,hact,Zdp (show 0≤en by omega) (show en<dw.length by omega) (by omega),Zde (show 0≤en by omega) (show en<dw.length by omega) (by omega),Zg8 (show 0≤en by omega) (show en<dw.length by omega),show ¬en=en+1 by omega,h4',m1,e2,hg,hn,h5]
       repeat refine⟨by omega,?_⟩
       exact hr
    ·have h3:¬(false=false∧act=(dn.length:Int)):=fun hh=>h4 hh.2
     by_cases h5:(up.length:Int)<fl
     ·have hr:=Zbe (ks:=ks) (rs:=rs) (l:=l) (wn:=wn) (fl:=fl) (s:=⟨at0,mo,dn,false,ba,to,dw,up⟩) (k:=2) (n:=en) (by simp[ZbZ];omega) (((show appS ks rs l fl ⟨at0,mo,dn,false,ba,to,dw,up⟩ 2 en=Zer fl (Zgc ks rs l ⟨at0,mo,dn,false,ba,to,ZbV dw en,up⟩ act) by rw[←hact];rfl).trans (ZlP h3)).trans (Zgn h5))
      simp[-List.getD_eq_getElem?_getD,Zan,AV.bx,Zad,h0,he,Zaf,Zaa,h1,c1,c2,hact,Zdp (show 0≤en by omega) (show en<dw.length by omega) (by omega),Zde (show 0≤en by omega) (show en<dw.length by omega) (by omega),Zg8 (show 0≤en by omega) (show en<dw.length by omega),show ¬en=en+1 by omega,h4,h5,Zxd]
      repeat refine⟨by omega,?_⟩
      exact hr
     ·have hr:=Zbe (ks:=ks) (rs:=rs) (l:=l) (wn:=wn) (fl:=fl) (s:=⟨at0,mo,dn,false,ba,to,dw,up⟩) (k:=2) (n:=en) (by simp[ZbZ];omega) (((show appS ks rs l fl ⟨at0,mo,dn,false,ba,to,dw,up⟩ 2 en=Zer fl (Zgc ks rs l ⟨at0,mo,dn,false,ba,to,ZbV dw en,up⟩ act) by rw[←hact];rfl).trans (ZlP h3)).trans (ZjP h5))
      simp[-List.getD_eq_getElem?_getD,Zan,AV.bx,Zad,h0,he,Zaf,Zaa,h1,c1,c2,hact,Zdp (show 0≤en by omega) (show en<dw.length by omega) (by omega),Zde (show 0≤en by omega) (show en<dw.length by omega) (by omega),Zg8 (show 0≤en by omega) (show en<dw.length by omega),show ¬en=en+1 by omega,h4,h5]
      repeat refine⟨by omega,?_⟩
      exact hr
   ·have h3:¬(true=false∧act=(dn.length:Int)):=fun hh=>by cases hh.1
    by_cases h5:(up.length:Int)<fl
    ·have hr:=Zbe (ks:=ks) (rs:=rs) (l:=l) (wn:=wn) (fl:=fl) (s:=⟨at0,mo,dn,true,ba,to,dw,up⟩) (k:=2) (n:=en) (by simp[ZbZ];omega) (((show appS ks rs l fl ⟨at0,mo,dn,true,ba,to,dw,up⟩ 2 en=Zer fl (Zgc ks rs l ⟨at0,mo,dn,true,ba,to,ZbV dw en,up⟩ act) by rw[←hact];rfl).trans (ZlP h3)).trans (Zgn h5))
     simp[-List.getD_eq_getElem?_getD,Zan,AV.bx,Zad,h0,he,Zaf,Zaa,h1,c1,c2,hact,Zdp (show 0≤en by omega) (show en<dw.length by omega) (by omega),Zde (show 0≤en by omega) (show en<dw.length by omega) (by omega),Zg8 (show 0≤en by omega) (show en<dw.length by omega),show ¬en=en+1 by omega,h5,Zxd]
     repeat refine⟨by omega,?_⟩
     exact hr
    ·have hr:=Zbe (ks:=ks) (rs:=rs) (l:=l) (wn:=wn) (fl:=fl) (s:=⟨at0,mo,dn,true,ba,to,dw,up⟩) (k:=2) (n:=en) (by simp[ZbZ];omega) (((show appS ks rs l fl ⟨at0,mo,dn,true,ba,to,dw,up⟩ 2 en=Zer fl (Zgc ks rs l ⟨at0,mo,dn,true,ba,to,ZbV dw en,up⟩ act) by rw[←hact];rfl).trans (ZlP h3)).trans (ZjP h5))
     simp[-List.getD_eq_getElem?_getD,Zan,AV.bx,Zad,h0,he,Zaf,Zaa,h1,c1,c2,hact,Zdp (show 0≤en by omega) (show en<dw.length by omega) (by omega),Zde (show 0≤en by omega) (show en<dw.length by omega) (by omega),Zg8 (show 0≤en by omega) (show en<dw.length by omega),show ¬en=en+1 by omega,h5]
     repeat refine⟨by omega,?_⟩
     exact hr)
end
def Bs:List Ctr:=[]++Br
theorem ZCY:ZaE Tryz.prog Bs:=ZDb
end Go.Proofs.YtkeoeooghhjibaaGreatDoor
/- Contracts as a list. No condition. -/
namespace Go.Proofs.YtkeoeooghhjibaaGreatDoor
section
variable {C:Ctx}(hC:C.P=Tryz.prog)(ms ks rs l:List AV)(wn fl:Int)(at0 mo:Int)(dn:List AV)(ha:Bool)(ba:Int)(to:Bool)(dw:List Int)(up:List AV)(ek en:Int){V:AV}
include hC
theorem ZE1(n3 n6:Int)(l1:List Int)(hl:up.length≤1000000)(e':Int)(hq:Ev C (ZaV ms ks rs l wn fl at0 mo dn ha ba to dw up ek en l1 n3 n6 e' up.length up.length) (ZaP ms ks rs l wn fl at0 mo dn ha ba to dw up ek en l1 n3 n6 e' up.length up.length) (Zhr 40 V none)):∀(m k:Nat) (e:Int),k+m=up.length→e'=(if e=0 then upR n6 ha (up.drop k)else e)→Ev C (ZaV ms ks rs l wn fl at0 mo dn ha ba to dw up ek en l1 n3 n6 e up.length k) (ZaP ms ks rs l wn fl at0 mo dn ha ba to dw up ek en l1 n3 n6 e up.length k) (Zhr 40 V none)
 |0,k,e,hk,he'=>by
  obtain rfl:k=up.length:=by omega
  rw[List.drop_of_length_le (by omega)]at he'
  obtain rfl:e'=e:=by rw[he',upR];split<;>simp_all
  exact hq
 |m+1,k,e,hk,he'=>by
  have ih:=fun e=>ZE1 n3 n6 l1 hl e' hq m (k+1) e (by omega)
  have hlt:(k:Int)<up.length:=by omega
  have hlt2:k<up.length:=by omega
  refine Zje hC Zc2 ZaW ?_
  rw[Ztu hlt2]at he'
  unfold Zan
  simp only[bx3]
  have hr:(k:Int)+1≤9223372036854775807:=by omega
  generalize hqq:((up.getD k .top).cellAt 0).toI=q at*
  generalize hp:((up.getD k .top).cellAt 1).toB=p at*
  by_cases he:e=0
  ·subst he
   have i0:=ih 0
   have i2:=ih 2
   have i3:=ih 3
   by_cases h3:q=n6
   ·subst h3
    by_cases h1:Zab q 0 q=true<;>cases p<;>cases ha<;>
     simp[-List.getD_eq_getElem?_getD,hlt,hlt2,h1,hqq,hp,upR,Zaf,Zaa]at he' i0 i2 i3⊢ <;>exact⟨by omega,by first |exact i0 he' |exact i2 he' |exact i3 he'⟩
   ·by_cases h1:Zab q 0 n6=true<;>cases p<;>cases ha<;>
     simp[-List.getD_eq_getElem?_getD,hlt,hlt2,h1,h3,hqq,hp,upR,Zaf,Zaa]at he' i0 i2 i3⊢ <;>exact⟨by omega,by first |exact i0 he' |exact i2 he' |exact i3 he'⟩
  ·have i0:=ih e
   cases p<;>cases ha<;>
    simp[-List.getD_eq_getElem?_getD,hlt,hlt2,he,hqq,hp,Zaf]at he' i0⊢ <;>exact⟨by omega,i0 he'⟩
theorem Zs0(n3:Int)(l1:List Int)(hl:up.length≤1000000∧dw.length≤1000000∧l.length≤1000000):∀(m k:Nat),k+m=dw.length→(∀e,e=(if ZqN mo n3 ha dn.length l.length ba to=0 then Zda l.length (dw.drop k)else ZqN mo n3 ha dn.length l.length ba to)→Ev C (ZaV ms ks rs l wn fl at0 mo dn ha ba to dw up ek en l1 n3 dn.length e up.length 0) (ZaP ms ks rs l wn fl at0 mo dn ha ba to dw up ek en l1 n3 dn.length e up.length 0) (Zhr 40 V none))→Ev C (ZdS ms ks rs l wn fl at0 mo dn ha ba to dw up ek en l1 n3 dw.length dn.length dn.length k) (Zc6 ms ks rs l wn fl at0 mo dn ha ba to dw up ek en l1 n3 dw.length dn.length dn.length k) (Zhr 40 V none)
 |0,k,hk,hq=>Zje hC Zc2 ZgL (by
  obtain rfl:k=dw.length:=by omega
  rw[List.drop_of_length_le (by omega)]at hq
  unfold Zel
  simp only[ZF2]
  obtain⟨c,hc⟩:∃c,c=ZqN mo n3 ha dn.length l.length ba to:=⟨_,rfl⟩
  have h1:=hq c (by rw[←hc,Zda];split<;>simp_all)
  unfold ZqN at hc
  by_cases g1:mo=n3
  ·subst g1
   by_cases g4:ba=dn.length
   ·subst g4
    by_cases g2:(dn.length:Int)<l.length<;>by_cases g3:Zab (dn.length:Int) 0 dn.length=true<;>cases ha<;>cases to<;>simp[g2,g3]at hc<;>subst hc<;>simp[-List.getD_eq_getElem?_getD,g2,g3,Zaf,Zaa]<;>simpa[g2,g3]using h1
   ·by_cases g2:(dn.length:Int)<l.length<;>by_cases g3:Zab ba 0 dn.length=true<;>cases ha<;>cases to<;>simp[g2,g3,g4]at hc<;>subst hc<;>simp[-List.getD_eq_getElem?_getD,g2,g3,g4,Zaf,Zaa]<;>simpa[g2,g3]using h1
  ·by_cases g4:ba=dn.length
   ·subst g4
    by_cases g2:(dn.length:Int)<l.length<;>by_cases g3:Zab (dn.length:Int) 0 dn.length=true<;>cases ha<;>cases to<;>simp[g2,g3,g1]at hc<;>subst hc<;>simp[-List.getD_eq_getElem?_getD,g2,g3,g1,Zaf,Zaa]<;>simpa[g2,g3]using h1
   ·by_cases g2:(dn.length:Int)<l.length<;>by_cases g3:Zab ba 0 dn.length=true<;>cases ha<;>cases to<;>simp[g2,g3,g1,g4]at hc<;>subst hc<;>simp[-List.getD_eq_getElem?_getD,g2,g3,g1,g4,Zaf,Zaa]<;>simpa[g2,g3]using h1)
 |m+1,k,hk,hq=>by
  have ih:=Zs0 n3 l1 hl m (k+1) (by omega)
  have hlt:(k:Int)<dw.length:=by omega
  have hlt2:k<dw.length:=by omega
  refine Zje hC Zc2 ZgL ?_
  rw[ZCU hlt2]at hq
  unfold Zel
  simp only[ZF2]
  by_cases h1:Zab (dw.getD k 0) 0 ((l.length:Int)-1)=true
  ·simp[-List.getD_eq_getElem?_getD,hlt,hlt2,h1,Zda]
   exact⟨by omega,by omega,by simpa using ih (fun e he=>hq e (by rw[he,Zda,if_pos h1]))⟩
  ·obtain⟨c,hc⟩:∃c,c=ZqN mo n3 ha dn.length l.length ba to:=⟨_,rfl⟩
   have h2:=hq (if c=0 then 6 else c) (by rw[←hc,Zda,if_neg h1])
   unfold ZqN at hc
   by_cases g1:mo=n3
   ·subst g1
    by_cases g4:ba=dn.length
    ·subst g4
     by_cases g2:(dn.length:Int)<l.length<;>by_cases g3:Zab (dn.length:Int) 0 dn.length=true<;>cases ha<;>cases to<;>simp[g2,g3]at hc<;>subst hc<;>simp[-List.getD_eq_getElem?_getD,g2,g3,Zaf,Zaa,hlt,hlt2,h1,Zda]<;>exact⟨by omega,by simpa[g2,g3]using h2⟩
    ·by_cases g2:(dn.length:Int)<l.length<;>by_cases g3:Zab ba 0 dn.length=true<;>cases ha<;>cases to<;>simp[g2,g3,g4]at hc<;>subst hc<;>simp[-List.getD_eq_getElem?_getD,g2,g3,g4,Zaf,Zaa,hlt,hlt2,h1,Zda]<;>exact⟨by omega,by simpa[g2,g3]using h2⟩
   ·by_cases g4:ba=dn.length
    ·subst g4
     by_cases g2:(dn.length:Int)<l.length<;>by_cases g3:Zab (dn.length:Int) 0 dn.length=true<;>cases ha<;>cases to<;>simp[g2,g3,g1]at hc<;>subst hc<;>simp[-List.getD_eq_getElem?_getD,g2,g3,g1,Zaf,Zaa,hlt,hlt2,h1,Zda]<;>exact⟨by omega,by simpa[g2,g3]using h2⟩
    ·by_cases g2:(dn.length:Int)<l.length<;>by_cases g3:Zab ba 0 dn.length=true<;>cases ha<;>cases to<;>simp[g2,g3,g1,g4]at hc<;>subst hc<;>simp[-List.getD_eq_getElem?_getD,g2,g3,g1,g4,Zaf,Zaa,hlt,hlt2,h1,Zda]<;>exact⟨by omega,by simpa[g2,g3]using h2⟩
theorem ZsZ(hf:OkF ms ks rs l)(hl:dw.length≤1000000∧up.length≤1000000)(hd:dn.length≤l.length)(hat:at0≤1000000000000):∀m k:Nat,k+m=dn.length→OkT ks (m0T dn k) (m0L ks l dn k)→(ZcX rs ks l dn at0 m k=0→Ev C (ZdS ms ks rs l wn fl at0 mo dn ha ba to dw up ek en (m0L ks l dn dn.length) (m0A ks l dn.length) dw.length dn.length dn.length 0) (Zc6 ms ks rs l wn fl at0 mo dn ha ba to dw up ek en (m0L ks l dn dn.length) (m0A ks l dn.length) dw.length dn.length dn.length 0) (Zhr 40 V none))→(∀e,e≠0→ZcX rs ks l dn at0 m k=e→Wk (.tup [.agg (.gen [.int .i64 0, .int .i64 0, .nils, .bool false, .int .i64 0, .bool false, .nils, .nils]), .int .i64 e]) V)→
 Ev C (Zg5 ms ks rs l wn fl at0 mo dn ha ba to dw up ek en dn.length (m0L ks l dn k) k (m0A ks l k) (m0T dn k)) (Zfh ms ks rs l wn fl at0 mo dn ha ba to dw up ek en dn.length (m0L ks l dn k) k (m0A ks l k) (m0T dn k)) (Zhr 40 V none)
 |0,k,hk,_,hq,_=>Zje hC Zc2 Zil (by
  obtain rfl:k=dn.length:=by omega
  have:=hq rfl
  simp[Za5]
  simpa using this)
 |m+1,k,hk,hT,hq,he=>by
  have hlt:(k:Int)<dn.length:=by omega
  have hlt2:k<dn.length:=by omega
  have hlt3:k<l.length:=by omega
  have hll:=hf.l1
  have e0:((dn.getD k .top).cellAt 0).toI=Zak dn k 0:=rfl
  have e1:((dn.getD k .top).cellAt 1).toI=Zak dn k 1:=rfl
  have e2:((l.getD k .top).cellAt 0).toI=Zak l k 0:=rfl
  have e3:((l.getD k .top).cellAt 1).toI=Zak l k 1:=rfl
  have e4:((l.getD k .top).cellAt 2).toI=Zak l k 2:=rfl
  have e5:((ks.getD (Zak l k 0).toNat .top).cellAt 1).toI=Zak ks (Zak l k 0) 1:=rfl
  have hr1:(k:Int)+1≤9223372036854775807:=by omega
  obtain⟨ha1,ha2⟩:=(hf.act k hlt3).1
  have ha3:(Zak l k 0).toNat<ks.length:=by omega
  have hlen:=hT.len
  refine Zje hC Zc2 Zil ?_
  by_cases h1:Zak dn k 0=k
  ·by_cases h2:Zak dn k 1≤at0
   ·have h2n:¬at0<Zak dn k 1:=by omega
    have e9:((dn.getD (k-1) .top).cellAt 1).toI=Zak dn (k-1:Nat) 1:=rfl
    by_cases h3:0<k→Zak dn (k-1:Nat) 1≤Zak dn k 1
    ·have hd1:ZcX rs ks l dn at0 (m+1) k=if Zjd rs (m0A ks l k) (Zak dn k 1) (m0L ks l dn k) (Zak l k 0) (Zak l k 1) (Zak l k 2)=true then ZcX rs ks l dn at0 m (k+1)else 26:=by rw[ZcX,if_pos ⟨h1,h2,h3⟩]
     rw[hd1]at hq he
     have hg:Zab (Zak dn k 1) (Zak l k 1) (Zak l k 2)=false∨ZbR rs (Zak dn k 1) (m0L ks l dn k)=true:=by
      cases hw:Zab (Zak dn k 1) (Zak l k 1) (Zak l k 2)
      ·exact .inl rfl
      ·exact .inr (okD hf dn hT hat h2 h3 hw hlt3).1
     by_cases h5:Zjd rs (m0A ks l k) (Zak dn k 1) (m0L ks l dn k) (Zak l k 0) (Zak l k 1) (Zak l k 2)=true
     ·have hw:Zab (Zak dn k 1) (Zak l k 1) (Zak l k 2)=true:=by
       unfold Zjd at h5
       simp only[Bool.and_eq_true]at h5
       exact h5.1
      rw[if_pos h5]at hq he
      have ih:=ZsZ hf hl hd hat m (k+1) (by omega) (okD hf dn hT hat h2 h3 hw hlt3).2 hq he
      rw[Zf9,ZiS]at ih
      have et:m0T dn (k+1)=Zak dn k 1:=rfl
      rw[et]at ih
      unfold exM at ih
      by_cases h6:Zak ks (Zak l k 0) 1= -1
      ·rw[if_pos h6]at ih
       by_cases hk0:k=0
       ·have hk0:=eq_true hk0
        simp[-List.getD_eq_getElem?_getD,Za5,Zaf,AV.bx,Zad,hlt,hlt2,hlt3,e0,e1,e2,e3,e4,e5,h1,h2,h5,h6,hg,ha1,ha3,hlen,hk0]
        exact⟨by omega,by simpa using ih⟩
       ·have h3':=h3 (by omega)
        simp[-List.getD_eq_getElem?_getD,Za5,Zaf,AV.bx,Zad,hlt,hlt2,hlt3,e0,e1,e2,e3,e4,e5,e9,h1,h2,h3',h5,h6,hg,ha1,ha3,hlen,hk0]
        exact⟨by omega,by omega,by omega,by simpa using ih⟩
      ·rw[if_neg h6]at ih
       by_cases hk0:k=0
       ·have hk0:=eq_true hk0
        simp[-List.getD_eq_getElem?_getD,Za5,Zaf,AV.bx,Zad,hlt,hlt2,hlt3,e0,e1,e2,e3,e4,e5,h1,h2,h5,h6,hg,ha1,ha3,hlen,hk0]
        exact⟨by omega,by simpa using ih⟩
       ·have h3':=h3 (by omega)
        simp[-List.getD_eq_getElem?_getD,Za5,Zaf,AV.bx,Zad,hlt,hlt2,hlt3,e0,e1,e2,e3,e4,e5,e9,h1,h2,h3',h5,h6,hg,ha1,ha3,hlen,hk0]
        exact⟨by omega,by omega,by omega,by simpa using ih⟩
     ·rw[if_neg h5]at hq he
      by_cases hk0:k=0
      ·have hk0:=eq_true hk0
       simp[-List.getD_eq_getElem?_getD,Za5,Zaf,AV.bx,Zad,hlt,hlt2,hlt3,e0,e1,e2,e3,e4,e5,h1,h2,h5,hg,hk0]
       repeat refine⟨by omega,?_⟩
       exact he _ (by decide) rfl
      ·have h3':=h3 (by omega)
       simp[-List.getD_eq_getElem?_getD,Za5,Zaf,AV.bx,Zad,hlt,hlt2,hlt3,e0,e1,e2,e3,e4,e5,e9,h1,h2,h3',h5,hg,hk0]
       repeat refine⟨by omega,?_⟩
       exact he _ (by decide) rfl
    ·have hd1:ZcX rs ks l dn at0 (m+1) k=9:=by rw[ZcX,if_neg (fun h=>h3 h.2.2)]
     obtain⟨hk0,h3'⟩:¬k=0∧¬Zak dn (k-1:Nat) 1≤Zak dn k 1:=by
      by_cases hk0:0<k
      ·exact⟨by omega,fun h=>h3 fun _=>h⟩
      ·exact absurd (fun h=>absurd h hk0) h3
     rw[hd1]at hq he
     simp[-List.getD_eq_getElem?_getD,Za5,Zaf,AV.bx,Zad,hlt,hlt2,hlt3,e0,e1,e2,e3,e4,e5,e9,h1,h2,h3',hk0]
     repeat refine⟨by omega,?_⟩
     exact he _ (by decide) rfl
   ·have hd1:ZcX rs ks l dn at0 (m+1) k=9:=by rw[ZcX,if_neg (fun h=>h2 h.2.1)]
    rw[hd1]at hq he
    simp[-List.getD_eq_getElem?_getD,Za5,Zaf,AV.bx,Zad,hlt,hlt2,hlt3,e0,e1,e2,e3,e4,e5,h1,h2]
    repeat refine⟨by omega,?_⟩
    exact he _ (by decide) rfl
  ·have hd1:ZcX rs ks l dn at0 (m+1) k=9:=by rw[ZcX,if_neg (fun h=>h1 h.1)]
   rw[hd1]at hq he
   simp[-List.getD_eq_getElem?_getD,Za5,Zaf,AV.bx,Zad,hlt,hlt2,hlt3,e0,e1,e2,e3,e4,e5,h1]
   repeat refine⟨by omega,?_⟩
   exact he _ (by decide) rfl
end
def Zck(ms ks rs l:List AV)(wn fl:Int)(s:ST)(k n:Int):Int:=if upE ms ks rs l wn fl=0 then(if stE ks rs l fl s.t s.mo s.dn s.ha s.ba s.to s.dw s.up=0 then(if evE k n=0 then ZbZ l wn fl s k n else evE k n)else stE ks rs l fl s.t s.mo s.dn s.ha s.ba s.to s.dw s.up)else upE ms ks rs l wn fl
def Zaj(ms ks rs l:List AV)(wn fl:Int)(s:ST)(k n:Int):ST:=if Zck ms ks rs l wn fl s k n=0 then appS ks rs l fl s k n else st0
theorem Zj2{ms ks rs l:List AV}{wn fl:Int}{s:ST}{k n e:Int}(h:Zck ms ks rs l wn fl s k n=e)(he:e≠0):Wk (.tup [.agg (.gen [.int .i64 0, .int .i64 0, .nils, .bool false, .int .i64 0, .bool false, .nils, .nils]), .int .i64 e]) (Zkq (Zaj ms ks rs l wn fl s k n) (Zck ms ks rs l wn fl s k n)):=by
 unfold Zaj
 rw[h,if_neg he]
 exact ZFH e
section
variable {C:Ctx}(hC:C.P=Tryz.prog)(ms ks rs l:List AV)(wn fl:Int)(at0 mo:Int)(dn:List AV)(ha:Bool)(ba:Int)(to:Bool)(dw:List Int)(up:List AV)(ek en:Int)
include hC
theorem ZEd(hu:upE ms ks rs l wn fl=0)(e:Int)(he:stE ks rs l fl at0 mo dn ha ba to dw up=e):Ev C (ZaV ms ks rs l wn fl at0 mo dn ha ba to dw up ek en (m0L ks l dn dn.length) (m0A ks l dn.length) dn.length e up.length up.length) (ZaP ms ks rs l wn fl at0 mo dn ha ba to dw up ek en (m0L ks l dn dn.length) (m0A ks l dn.length) dn.length e up.length up.length) (Zhr 40 (Zkq (Zaj ms ks rs l wn fl ⟨at0,mo,dn,ha,ba,to,dw,up⟩ ek en) (Zck ms ks rs l wn fl ⟨at0,mo,dn,ha,ba,to,dw,up⟩ ek en)) none):=by
 have h0:¬(up.length:Int)<up.length:=by omega
 by_cases h1:e=0
 ·subst h1
  by_cases h2:evE ek en=0
  ·have hc:Zck ms ks rs l wn fl ⟨at0,mo,dn,ha,ba,to,dw,up⟩ ek en=ZbZ l wn fl ⟨at0,mo,dn,ha,ba,to,dw,up⟩ ek en:=by unfold Zck;rw[if_pos hu,if_pos he,if_pos h2]
   have hs:Zaj ms ks rs l wn fl ⟨at0,mo,dn,ha,ba,to,dw,up⟩ ek en=Zkv ks rs l wn fl ⟨at0,mo,dn,ha,ba,to,dw,up⟩ ek en:=by unfold Zaj Zkv;rw[hc]
   rw[hc,hs]
   have hk:0≤ek∧ek≤8:=by
    have:=h2
    unfold evE at this
    split at this
    ·rename_i hw;exact within_iff.1 hw
    ·cases this
   rcases show ek=0∨ek=1∨ek=2∨ek=3∨ek=4∨ek=5∨ek=6∨ek=7∨ek=8 by omega with rfl |rfl |rfl |rfl |rfl |rfl |rfl |rfl |rfl
   ·exact ZDh hC ms ks rs l wn fl at0 mo dn ha ba to dw up en ⟨hu,he,h2⟩
   ·exact ZCh hC ms ks rs l wn fl at0 mo dn ha ba to dw up en ⟨hu,he,h2⟩
   ·exact ZEr hC ms ks rs l wn fl at0 mo dn ha ba to dw up en ⟨hu,he,h2⟩
   ·exact ZDs hC ms ks rs l wn fl at0 mo dn ha ba to dw up en ⟨hu,he,h2⟩
   ·exact ZDo hC ms ks rs l wn fl at0 mo dn ha ba to dw up en ⟨hu,he,h2⟩
   ·exact ZEc hC ms ks rs l wn fl at0 mo dn ha ba to dw up en ⟨hu,he,h2⟩
   ·exact ZCs hC ms ks rs l wn fl at0 mo dn ha ba to dw up en ⟨hu,he,h2⟩
   ·exact ZDw hC ms ks rs l wn fl at0 mo dn ha ba to dw up en ⟨hu,he,h2⟩
   ·exact ZD3 hC ms ks rs l wn fl at0 mo dn ha ba to dw up en ⟨hu,he,h2⟩
  ·have hc:Zck ms ks rs l wn fl ⟨at0,mo,dn,ha,ba,to,dw,up⟩ ek en=evE ek en:=by unfold Zck;rw[if_pos hu,if_pos he,if_neg h2]
   have hr:=Zj2 hc h2
   refine Zje hC Zc2 ZaW ?_
   simp[Zan,h0,h2,Zaf,AV.bx,Zad]
   repeat refine⟨by omega,?_⟩
   exact hr
 ·have hc:Zck ms ks rs l wn fl ⟨at0,mo,dn,ha,ba,to,dw,up⟩ ek en=e:=by unfold Zck;rw[if_pos hu];simp only[he,if_neg h1]
  have hr:=Zj2 hc h1
  refine Zje hC Zc2 ZaW ?_
  simp[Zan,h0,h1,Zaf,AV.bx,Zad]
  repeat refine⟨by omega,?_⟩
  exact hr
end
theorem Zh9(ms ks rs l:List AV)(wn fl:Int)(at0 mo:Int)(dn:List AV)(ha:Bool)(ba:Int)(to:Bool)(dw:List Int)(up:List AV)(ek en:Int)(h:(Zay ms ks rs=true∧l.length≤1000000)∧dn.length≤1000000∧dw.length≤1000000∧up.length≤1000000):Zap Tryz.prog 40 [.agg (.gen [.list (.big .str ms), .list (.big (.agg [.str, .int .i64]) ks), .list (.big (.agg [.str, .int .i64, .int .i64, .int .i64, .int .i64]) rs), .list (.big (.agg [.int .i64, .int .i64, .int .i64]) l), .int .i64 wn, .int .i64 fl]), .agg (.gen [.int .i64 at0, .int .i64 mo, .list (.big (.agg [.int .i64, .int .i64]) dn), .bool ha, .int .i64 ba, .bool to, .list (.ints .i64 dw), .list (.big (.agg [.int .i64, .bool]) up)]), .agg (.gen [.int .i64 ek, .int .i64 en])] (Zkq (Zaj ms ks rs l wn fl ⟨at0,mo,dn,ha,ba,to,dw,up⟩ ek en) (Zck ms ks rs l wn fl ⟨at0,mo,dn,ha,ba,to,dw,up⟩ ek en)) none:=
 ZsO (ZwF ms ks rs l wn fl at0 mo dn ha ba to dw up ek en) fun C hC=>Zje hC Zc2 ZC6 (by
  by_cases h0:upE ms ks rs l wn fl=0
  ·obtain⟨hf,_,hfl⟩:=Zc7 h0
   have hll:=hf.l1
   have hkk:=hf.ks1
   have hcs:∀e,e≠0→stE ks rs l fl at0 mo dn ha ba to dw up=e→Zck ms ks rs l wn fl ⟨at0,mo,dn,ha,ba,to,dw,up⟩ ek en=e:=fun e he hs=>by unfold Zck;rw[if_pos h0];simp only[hs,if_neg he]
   by_cases h1:Zab at0 0 1000000000000=true
   ·have h1':=within_iff.1 h1
    by_cases h2:dn.length≤l.length
    ·by_cases h3:(dw.length:Int)≤fl
     ·by_cases h4:(up.length:Int)≤fl
      ·have hst:stE ks rs l fl at0 mo dn ha ba to dw up=(if ZcX rs ks l dn at0 dn.length 0=0 then Znu ks l mo dn ha ba to dw up else ZcX rs ks l dn at0 dn.length 0):=by unfold stE;rw[if_pos h1,if_pos ⟨h2,h3,h4⟩]
       have:=ZsZ hC ms ks rs l wn fl at0 mo dn ha ba to dw up ek en (V:=Zkq (Zaj ms ks rs l wn fl ⟨at0,mo,dn,ha,ba,to,dw,up⟩ ek en) (Zck ms ks rs l wn fl ⟨at0,mo,dn,ha,ba,to,dw,up⟩ ek en)) hf h.2.2 h2 h1'.2 dn.length 0 (by omega) (ZFm ks l dn) (fun hd=>by
        rw[if_pos hd]at hst
        refine Zs0 hC ms ks rs l wn fl at0 mo dn ha ba to dw up ek en _ _ ⟨h.2.2.2,h.2.2.1,by omega⟩ dw.length 0 (by omega) fun e he=>?_
        have hr:=Zrk ks l mo dn ha ba to dw up h2
        rw[←hst]at hr
        refine ZE1 hC ms ks rs l wn fl at0 mo dn ha ba to dw up ek en _ dn.length _ h.2.2.2 (stE ks rs l fl at0 mo dn ha ba to dw up) (ZEd hC ms ks rs l wn fl at0 mo dn ha ba to dw up ek en h0 _ rfl) up.length 0 e (by omega) ?_
        rw[←hr,he]
        simp only[List.drop_zero]
        split<;>simp_all) (fun e he hd=>Zj2 (hcs e he (by rw[hst,if_neg (by rw[hd];exact he),hd])) he)
       have e1:m0L ks l dn 0=List.replicate ks.length (-1):=rfl
       have e2:m0A ks l 0=0:=rfl
       have e3:m0T dn 0=0:=rfl
       rw[e1,e2,e3]at this
       simp[ZkY,h,h0,h1,h2,h3,h4,Zaf,Zaa,AV.bx,Zad]
       repeat refine⟨by omega,?_⟩
       simpa using this
      ·have hr:=Zj2 (hcs 8 (by decide) (by unfold stE;rw[if_pos h1,if_neg (fun hh=>h4 hh.2.2)])) (by decide)
       simp[ZkY,h,h0,h1,h2,h3,h4,Zaf,Zaa,AV.bx,Zad]
       repeat refine⟨by omega,?_⟩
       exact hr
     ·have hr:=Zj2 (hcs 8 (by decide) (by unfold stE;rw[if_pos h1,if_neg (fun hh=>h3 hh.2.1)])) (by decide)
      simp[ZkY,h,h0,h1,h2,h3,Zaf,Zaa,AV.bx,Zad]
      repeat refine⟨by omega,?_⟩
      exact hr
    ·have hr:=Zj2 (hcs 8 (by decide) (by unfold stE;rw[if_pos h1,if_neg (fun hh=>h2 hh.1)])) (by decide)
     simp[ZkY,h,h0,h1,h2,Zaf,Zaa,AV.bx,Zad]
     repeat refine⟨by omega,?_⟩
     exact hr
   ·have hr:=Zj2 (hcs 2 (by decide) (by unfold stE;rw[if_neg h1])) (by decide)
    by_cases h2:dn.length≤l.length<;>by_cases h3:(dw.length:Int)≤fl<;>by_cases h4:(up.length:Int)≤fl<;>simp[ZkY,h,h0,h1,h2,h3,h4,Zaf,Zaa,AV.bx,Zad]<;>(repeat refine⟨by omega,?_⟩)<;>exact hr
  ·have hr:=Zj2 (ms:=ms) (ks:=ks) (rs:=rs) (l:=l) (wn:=wn) (fl:=fl) (s:=⟨at0,mo,dn,ha,ba,to,dw,up⟩) (k:=ek) (n:=en) (by unfold Zck;rw[if_neg h0]) h0
   simp[ZkY,h,h0,Zaf,AV.bx,Zad]
   repeat refine⟨by omega,?_⟩
   exact hr)
def k40:Ctr:=⟨40,0,fun _ a=>match a with |[.agg (.gen [.list (.big .str ms), .list (.big (.agg [.str, .int .i64]) ks), .list (.big (.agg [.str, .int .i64, .int .i64, .int .i64, .int .i64]) rs), .list (.big (.agg [.int .i64, .int .i64, .int .i64]) l), .int .i64 wn, .int .i64 fl]), .agg (.gen [.int .i64 at0, .int .i64 mo, .list (.big (.agg [.int .i64, .int .i64]) dn), .bool ha, .int .i64 ba, .bool to, .list (.ints .i64 dw), .list (.big (.agg [.int .i64, .bool]) up)]), .agg (.gen [.int .i64 ek, .int .i64 en])]=>some (decide ((Zay ms ks rs=true∧l.length≤1000000)∧dn.length≤1000000∧dw.length≤1000000∧up.length≤1000000), .tup [.agg (.gen [.int .i64 (Zaj ms ks rs l wn fl ⟨at0,mo,dn,ha,ba,to,dw,up⟩ ek en).t, .int .i64 (Zaj ms ks rs l wn fl ⟨at0,mo,dn,ha,ba,to,dw,up⟩ ek en).mo, .list (.big (.agg [.int .i64, .int .i64]) (Zaj ms ks rs l wn fl ⟨at0,mo,dn,ha,ba,to,dw,up⟩ ek en).dn), .bool (Zaj ms ks rs l wn fl ⟨at0,mo,dn,ha,ba,to,dw,up⟩ ek en).ha, .int .i64 (Zaj ms ks rs l wn fl ⟨at0,mo,dn,ha,ba,to,dw,up⟩ ek en).ba, .bool (Zaj ms ks rs l wn fl ⟨at0,mo,dn,ha,ba,to,dw,up⟩ ek en).to, .list (.ints .i64 (Zaj ms ks rs l wn fl ⟨at0,mo,dn,ha,ba,to,dw,up⟩ ek en).dw), .list (.big (.agg [.int .i64, .bool]) (Zaj ms ks rs l wn fl ⟨at0,mo,dn,ha,ba,to,dw,up⟩ ek en).up)]), .int .i64 (Zck ms ks rs l wn fl ⟨at0,mo,dn,ha,ba,to,dw,up⟩ ek en)],none) |_=>none⟩
theorem Zzl:k40.OK Tryz.prog:=fun pa args r fr h=>by
 simp only[k40]at h
 split at h
 ·simp only[Option.some.injEq,Prod.mk.injEq,decide_eq_true_eq]at h
  obtain⟨h0,rfl,rfl⟩:=h
  exact Zh9 _ _ _ _ _ _ _ _ _ _ _ _ _ _ _ _ h0
 ·cases h
def Bt:List Ctr:=[k40]++Bs
theorem ZET:ZaE Tryz.prog Bt:=⟨Zzl,ZCY⟩
end Go.Proofs.YtkeoeooghhjibaaGreatDoor
/- Contracts as a list. No condition. -/
namespace Go.Proofs.YtkeoeooghhjibaaGreatDoor
theorem Zra(ms ks rs l:List AV)(wn fl:Int)(at0 mo:Int)(ha:Bool)(ba:Int)(to:Bool)(ek en:Int)(h:Zay ms ks rs=true∧l.length≤1000000):Zap Tryz.prog 40 [.agg (.gen [.list (.big .str ms), .list (.big (.agg [.str, .int .i64]) ks), .list (.big (.agg [.str, .int .i64, .int .i64, .int .i64, .int .i64]) rs), .list (.big (.agg [.int .i64, .int .i64, .int .i64]) l), .int .i64 wn, .int .i64 fl]), .agg (.gen [.int .i64 at0, .int .i64 mo, .nils, .bool ha, .int .i64 ba, .bool to, .nils, .nils]), .agg (.gen [.int .i64 ek, .int .i64 en])] (.tup [.agg (.gen [.int .i64 (Zaj ms ks rs l wn fl ⟨at0,mo,[],ha,ba,to,[],[]⟩ ek en).t, .int .i64 (Zaj ms ks rs l wn fl ⟨at0,mo,[],ha,ba,to,[],[]⟩ ek en).mo, .list (.big (.agg [.int .i64, .int .i64]) (Zaj ms ks rs l wn fl ⟨at0,mo,[],ha,ba,to,[],[]⟩ ek en).dn), .bool (Zaj ms ks rs l wn fl ⟨at0,mo,[],ha,ba,to,[],[]⟩ ek en).ha, .int .i64 (Zaj ms ks rs l wn fl ⟨at0,mo,[],ha,ba,to,[],[]⟩ ek en).ba, .bool (Zaj ms ks rs l wn fl ⟨at0,mo,[],ha,ba,to,[],[]⟩ ek en).to, .list (.ints .i64 (Zaj ms ks rs l wn fl ⟨at0,mo,[],ha,ba,to,[],[]⟩ ek en).dw), .list (.big (.agg [.int .i64, .bool]) (Zaj ms ks rs l wn fl ⟨at0,mo,[],ha,ba,to,[],[]⟩ ek en).up)]), .int .i64 (Zck ms ks rs l wn fl ⟨at0,mo,[],ha,ba,to,[],[]⟩ ek en)]) none:=
 Zom (Zh9 ms ks rs l wn fl at0 mo [] ha ba to [] [] ek en ⟨h,by decide,by decide,by decide⟩) ⟨.same _,Wk.agg' ⟨.same _, .same _, .nil _ rfl, .same _, .same _, .same _, .nil _ rfl, .nil _ rfl,trivial⟩, .same _,trivial⟩
def k40z:Ctr:=⟨40,0,fun _ a=>match a with |[.agg (.gen [.list (.big .str ms), .list (.big (.agg [.str, .int .i64]) ks), .list (.big (.agg [.str, .int .i64, .int .i64, .int .i64, .int .i64]) rs), .list (.big (.agg [.int .i64, .int .i64, .int .i64]) l), .int .i64 wn, .int .i64 fl]), .agg (.gen [.int .i64 at0, .int .i64 mo, .nils, .bool ha, .int .i64 ba, .bool to, .nils, .nils]), .agg (.gen [.int .i64 ek, .int .i64 en])]=>some (decide (Zay ms ks rs=true∧l.length≤1000000), .tup [.agg (.gen [.int .i64 (Zaj ms ks rs l wn fl ⟨at0,mo,[],ha,ba,to,[],[]⟩ ek en).t, .int .i64 (Zaj ms ks rs l wn fl ⟨at0,mo,[],ha,ba,to,[],[]⟩ ek en).mo, .list (.big (.agg [.int .i64, .int .i64]) (Zaj ms ks rs l wn fl ⟨at0,mo,[],ha,ba,to,[],[]⟩ ek en).dn), .bool (Zaj ms ks rs l wn fl ⟨at0,mo,[],ha,ba,to,[],[]⟩ ek en).ha, .int .i64 (Zaj ms ks rs l wn fl ⟨at0,mo,[],ha,ba,to,[],[]⟩ ek en).ba, .bool (Zaj ms ks rs l wn fl ⟨at0,mo,[],ha,ba,to,[],[]⟩ ek en).to, .list (.ints .i64 (Zaj ms ks rs l wn fl ⟨at0,mo,[],ha,ba,to,[],[]⟩ ek en).dw), .list (.big (.agg [.int .i64, .bool]) (Zaj ms ks rs l wn fl ⟨at0,mo,[],ha,ba,to,[],[]⟩ ek en).up)]), .int .i64 (Zck ms ks rs l wn fl ⟨at0,mo,[],ha,ba,to,[],[]⟩ ek en)],none) |_=>none⟩
theorem Zut:k40z.OK Tryz.prog:=fun pa args r fr h=>by
 simp only[k40z]at h
 split at h
 ·simp only[Option.some.injEq,Prod.mk.injEq,decide_eq_true_eq]at h
  obtain⟨h0,rfl,rfl⟩:=h
  exact Zra _ _ _ _ _ _ _ _ _ _ _ _ _ h0
 ·cases h
def Bw:List Ctr:=[k40z]++Bt
theorem ZCm:ZaE Tryz.prog Bw:=⟨Zut,ZET⟩
end Go.Proofs.YtkeoeooghhjibaaGreatDoor
/- What an event changes of the acts that were executed: plain. No condition. -/
namespace Go.Proofs.YtkeoeooghhjibaaGreatDoor
theorem ZyJ(ks rs l:List AV)(s:ST)(a:Int):(Zgc ks rs l s a).dn=s.dn∨(s.ha=false∧∃d,(Zgc ks rs l s a).dn=s.dn++[d]):=by
 unfold Zgc
 split
 ·rename_i h
  split
  ·exact .inr ⟨h.1,_,rfl⟩
  ·exact .inl rfl
 ·exact .inl rfl
theorem Zzm(ks rs l:List AV)(s:ST)(a:Int)(h:s.ha=true):(Zgc ks rs l s a).ha=true:=by
 unfold Zgc
 rw[if_neg (fun hh=>by rw[h]at hh;cases hh.1)]
 exact h
theorem ZxY(ks rs l:List AV)(fl:Int)(s:ST)(k n:Int):(appS ks rs l fl s k n).dn=s.dn∨(k=2∧s.ha=false∧∃d,(appS ks rs l fl s k n).dn=s.dn++[d]):=by
 unfold appS
 split
 ·exact .inl rfl
 split
 ·exact .inl rfl
 split
 ·rename_i h
  rcases ZyJ ks rs l { s with dw:=ZbV s.dw n } (s.dw.getD n.toNat 0)with e |⟨e1,d,e2⟩
  ·exact .inl e
  ·exact .inr ⟨h,e1,d,e2⟩
 split
 ·exact .inl rfl
 split
 ·exact .inl rfl
 split
 ·exact .inl rfl
 split
 ·exact .inl rfl
 split
 ·exact .inl rfl
 ·exact .inl rfl
theorem Zzb(ks rs l:List AV)(fl:Int)(s:ST)(k n:Int)(h:s.ha=true):(appS ks rs l fl s k n).ha=true:=by
 unfold appS
 split
 ·exact h
 split
 ·exact h
 split
 ·exact Zzm ks rs l { s with dw:=ZbV s.dw n } (s.dw.getD n.toNat 0) h
 split
 ·exact h
 split
 ·exact h
 split
 ·exact h
 split
 ·exact h
 split
 ·exact h
 ·exact h
end Go.Proofs.YtkeoeooghhjibaaGreatDoor
/- No accepted events execute an act before its time; with the times as moments of arrival all acts are executed: plain. No condition. -/
namespace Go.Proofs.YtkeoeooghhjibaaGreatDoor
structure LeL (ys xs:List Int):Prop where
 len:ys.length=xs.length
 nev:∀k,ys.getD k 0= -1↔xs.getD k 0= -1
 le:∀k,ys.getD k 0≤xs.getD k 0
theorem ZeK(xs:List Int)(i k:Nat)(v:Int):(xs.set i v).getD k 0=if i=k∧k<xs.length then v else xs.getD k 0:=by
 rw[List.getD_eq_getElem?_getD,List.getD_eq_getElem?_getD,List.getElem?_set]
 by_cases h:i=k
 ·subst h
  by_cases h2:i<xs.length
  ·simp[h2]
  ·simp[h2]
 ·simp[h]
theorem LeL.set{ys xs:List Int}(h:LeL ys xs){u v:Int}(hu:0≤u)(huv:u≤v)(k:Nat):LeL (ys.set k u) (xs.set k v):=by
 refine⟨by simp[h.len],fun j=>?_,fun j=>?_⟩
 ·rw[ZeK,ZeK,h.len]
  split
  ·omega
  ·exact h.nev j
 ·rw[ZeK,ZeK,h.len]
  split
  ·exact huv
  ·exact h.le j
theorem ZsY{dn:List AV}{i:Nat}(h0:0≤Zak dn i 1)(h:0<i→Zak dn (i-1:Nat) 1≤Zak dn i 1):m0T dn i≤Zak dn i 1:=by
 cases i with
 |zero=>exact h0
 |succ i=>exact h (by omega)
theorem codeP_zero{ms ks rs l:List AV}{wn fl:Int}{s:ST}{k n:Int} :Zck ms ks rs l wn fl s k n=0↔upE ms ks rs l wn fl=0∧VS ks rs l fl s∧evE k n=0∧ZbZ l wn fl s k n=0:=by
 unfold Zck
 by_cases h1:upE ms ks rs l wn fl=0
 ·rw[if_pos h1]
  by_cases h2:stE ks rs l fl s.t s.mo s.dn s.ha s.ba s.to s.dw s.up=0
  ·rw[if_pos h2]
   have h2:=vs_iff.1 h2
   by_cases h3:evE k n=0
   ·rw[if_pos h3];exact⟨fun h=>⟨h1,h2,h3,h⟩,fun h=>h.2.2.2⟩
   ·rw[if_neg h3];exact⟨fun h=>absurd h h3,fun h=>absurd h.2.2.1 h3⟩
  ·rw[if_neg h2];exact⟨fun h=>absurd h h2,fun h=>absurd (vs_iff.2 h.2.1) h2⟩
 ·rw[if_neg h1];exact⟨fun h=>absurd h h1,fun h=>absurd h.1 h1⟩
theorem Zun(ks rs l:List AV){fl:Int}(hf:0≤fl):VS ks rs l fl st0:=
 ⟨⟨by decide,by decide⟩,⟨Nat.zero_le _,hf,hf⟩,fun i h=>absurd h (Nat.not_lt_zero i),rfl,(fun h=>by cases h),⟨by decide,by decide⟩,(fun h=>by cases h),(fun x h=>by cases h),(fun x h=>by cases h)⟩
end Go.Proofs.YtkeoeooghhjibaaGreatDoor
/- What the law on single execution asks of a step and of the acts executed: plain. No condition. -/
namespace Go.Proofs.YtkeoeooghhjibaaGreatDoor
theorem ZpH{ms ks rs l:List AV}(hf:OkF ms ks rs l):∀i,i≤l.length→0≤m0A ks l i∧m0A ks l i≤(ms.length:Int)-1
 |0,_=>by
  have:=(ZdL hf.model).1
  have e:m0A ks l 0=0:=rfl
  rw[e];omega
 |i+1,hi=>by
  have ih:=ZpH hf i (by omega)
  have ha:=(hf.act i (by omega)).1
  have hk:=((ZdL hf.model).2.2.2.2.1 (Zak l i 0).toNat (by omega)).2
  unfold ZcA at hk
  have hk:=ZaD hk (by decide)
  rw[show (((Zak l i 0).toNat:Nat):Int)=Zak l i 0 by omega]at hk
  rw[Zf9]
  unfold exM
  split
  ·exact ih
  ·rename_i hn
   unfold Zhm at hk
   rw[if_neg hn]at hk
   exact within_iff.1 hk
theorem Zrx{ms ks rs l:List AV}{fl:Int}{s:ST}(hf:OkF ms ks rs l)(hs:VS ks rs l fl s){i:Nat}(hi:i<s.dn.length):Zg9 ms ks rs (m0A ks l i) (Zak s.dn i 1) (m0L ks l s.dn i) (Zak l i 0)=0:=by
 have hT:=Zmv hf hs i (by omega)
 have hle:=hs.len.1
 obtain⟨d0,d1,d2,d3⟩:=hs.done i hi
 have ha:=hf.act i (by omega)
 have hw:Zab (Zak s.dn i 1) (Zak l i 1) (Zak l i 2)=true:=by
  simp only[Zjd,Bool.and_eq_true]at d3;exact d3.1
 have hw:=within_iff.1 hw
 have hm:=ZpH hf i (by omega)
 have hge:m0T s.dn i≤Zak s.dn i 1:=ZsY (by omega) d2
 have hlen:=hT.len
 have h1:Zab (m0A ks l i) 0 ((ms.length:Int)-1)=true:=within_iff.2 hm
 have h2:Zab (Zak s.dn i 1) 0 1000000000000=true:=within_iff.2 (by omega)
 have h3:Zab (Zak l i 0) 0 ((ks.length:Int)-1)=true:=within_iff.2 (by omega)
 have h4:(m0L ks l s.dn i).any (ZgS (Zak s.dn i 1))=false:=by
  rw[List.any_eq_false]
  intro x hx
  have:=hT.all x hx
  unfold ZgS
  by_cases hx1:x= -1
  ·simp[hx1]
  ·have:Zab x 0 (Zak s.dn i 1)=true:=within_iff.2 (by omega)
   simp[this]
 unfold Zg9
 rw[hf.model,h1,h2,h3,h4,hlen]
 simp[Zaa,Zaf]
theorem ZrF{ms ks rs l:List AV}{fl:Int}{s:ST}(hf:OkF ms ks rs l)(hs:VS ks rs l fl s){i:Nat}(hi:i<s.dn.length):Zf3 rs (m0A ks l i) (Zak s.dn i 1) (m0L ks l s.dn i) (Zak l i 0) rs.length 0=[]:=by
 have d3:=(hs.done i hi).2.2.2
 simp only[Zjd,Bool.and_eq_true]at d3
 exact(ZmM fun j hj=>Zo8 (hf.name j hj)).2 d3.2
theorem Zpo{ks rs l:List AV}{wn fl:Int}{s:ST}{k n:Int}(hs:VS ks rs l fl s)(h1:evE k n=0)(h2:ZbZ l wn fl s k n=0):
 VS ks rs l fl (appS ks rs l fl s k n)∧s.dn.length≤(appS ks rs l fl s k n).dn.length∧(appS ks rs l fl s k n).dn.length≤s.dn.length+1∧(appS ks rs l fl s k n).dn.take s.dn.length=s.dn∧(s.dn.length<(appS ks rs l fl s k n).dn.length→s.ha=false∧k=2)∧(s.ha=true→(appS ks rs l fl s k n).ha=true):=by
 refine⟨Zy3 hs h1 h2,?_,?_,?_,?_,fun h=>Zzb ks rs l fl s k n h⟩<;>rcases ZxY ks rs l fl s k n with e |⟨e1,e2,d,e3⟩
 ·rw[e];omega
 ·rw[e3];simp
 ·rw[e];omega
 ·rw[e3];simp
 ·rw[e,List.take_length]
 ·rw[e3,List.take_left]
 ·rw[e];omega
 ·exact fun _=>⟨e2,e1⟩
end Go.Proofs.YtkeoeooghhjibaaGreatDoor
/- A struct that holds rows comes back, read as a value in new memory. No condition. -/
namespace Go.Proofs.YtkeoeooghhjibaaGreatDoor
open Go.RowKit (Below)
def Znh(h:Zac):List AV→Option (List AV)
 |[]=>some []
 | .row a i::xs=>match blk h a i with
   | .row _ _ r=>(match r.pure&&r.solid with |true=>(match Znh h xs with |some ys=>some (.list r::ys) |none=>none) |false=>none)
   |_=>none
 |v::xs=>match v.pure&&v.solid with |true=>(match Znh h xs with |some ys=>some (v::ys) |none=>none) |false=>none
def Zy1(f:FuncId)(p:List AFrame×Zac):Option (List AV):=match p.1 with
 |[g]=>(match Nat.beq g.fn f&&g.ret with
  |true=>(match g.rnd with
   |none=>(match g.defs with
    |[]=>(match Zd8 std g.env p.2 g.res with
     |some (true,[.agg (.gen xs)])=>Znh p.2 xs
     |_=>none)
    |_=>none)
   |_=>none)
  |false=>none)
 |_=>none
section
variable {P:Program}{w w':World}{okA:Nat→Prop}{L':Lay}{h:Zac}
theorem ZtC(H:HRel (Ctx.of P w okA []) h L' w'){a i e sz:Nat}{r:Row}{x:Value}(hb:blk h a i=.row e sz r)(hp:r.pure=true)(hso:r.solid=true)(hr:ZaF (Ctx.of P w okA []) h L' w' (.row a i) x):ZaF (Ctx.of P w (fun _=>False) []) [] L' w' (.list r) x:=by
 obtain⟨ht,h0,h1,h2,h3⟩:=H.rowAt hb
 cases hr with
 |row _ _ ad n c hn hlv=>
  obtain⟨had,rfl,rfl⟩:=hlv.2 _ ht
  by_cases hs0:L'.size a i=0
  ·have hre:r.elems=[]:=List.eq_nil_of_length_eq_zero (by omega)
   rw[hs0,show(sz,r.elems.length).2=0 by simp[hre]]
   exact .nil r _ _ hre
  obtain⟨hpl,cur,h4,h5,h6,h7,h8⟩:=H.curAt hb hs0
  have had:=had hs0
  subst had
  have hl:=H.live a i hpl
  have hpa:=ZaZ hp
  refine .list r _ rfl ⟨L'.loc a i,0,none⟩ _ _ sz _ hl.2 (.inr ⟨hl.1,fun a i ht=>absurd rfl ht.tag⟩) rfl hn h3 h6.1.symm h7 (fun j v hj=>h8 j v hj) hpa (fun j u v hu hv=>?_)
  have hsu:u.solid=true:=AV.solidL_mem (Zem hso) hu
  exact((h6.2 j u v hu hv).pure (AV.pureL_mem hpa hu):Rel w' _ [] L' u v).solid hsu
theorem Zjg(H:HRel (Ctx.of P w okA []) h L' w'):∀ {xs ys:List AV},Znh h xs=some ys→xs.length=ys.length∧∀(j:Nat) (v:AV) (x:Value),ys[j]? =some v→(∀u,xs[j]? =some u→ZaF (Ctx.of P w okA []) h L' w' u x)→ZaF (Ctx.of P w (fun _=>False) []) [] L' w' v x
 |[],ys,h=>by cases h;exact⟨rfl,fun j v x hv=>by simp at hv⟩
 |u::xs,ys,hr=>by
  have key:∃v zs,ys=v::zs∧Znh h xs=some zs∧∀x,ZaF (Ctx.of P w okA []) h L' w' u x→ZaF (Ctx.of P w (fun _=>False) []) [] L' w' v x:=by
   unfold Znh at hr
   split at hr
   ·rename_i q;cases q
   ·rename_i a i q hq
    cases hq
    split at hr
    ·rename_i e sz r hb
     split at hr
     ·rename_i hps
      simp only[Bool.and_eq_true]at hps
      split at hr
      ·rename_i zs hz
       cases hr
       exact⟨_,zs,rfl,hz,fun x hx=>ZtC H hb hps.1 hps.2 hx⟩
      ·cases hr
     ·cases hr
    ·cases hr
   ·rename_i v q hnr hq
    cases hq
    split at hr
    ·rename_i hps
     simp only[Bool.and_eq_true]at hps
     split at hr
     ·rename_i zs hz
      cases hr
      exact⟨_,zs,rfl,hz,fun x hx=>(hx.pure hps.1:Rel w' _ [] L' _ x).solid hps.2⟩
     ·cases hr
    ·cases hr
  obtain⟨v,zs,rfl,hz,hv⟩:=key
  obtain⟨h1,h2⟩:=Zjg H hz
  refine⟨by simp[h1],fun j y x hy hx=>?_⟩
  cases j with
  |zero=>simp at hy;subst hy;exact hv x (hx u rfl)
  |succ j=>exact h2 j y x (by simpa using hy) (fun q hq=>hx q (by simpa using hq))
end
theorem Zlu{P:Program}{T:Tab}(hT:Zbx P T){f:FuncId}{args:List AV}{af:AFrame}{ys:List AV}(he:Zat T f args=some af)
 (hq:∀w okA cs,Ev (Ctx.of P w okA cs) [af] [] (fun fs h=>Zy1 f (fs,h)=some ys)):Zap P f args (.agg (.gen ys)) ZsE:=by
 intro w okA L vs hargs hok cs
 have H0:HRel (Ctx.of P w okA cs) [] L w:=⟨Below.refl _ _,fun _ _ ht=>absurd rfl ht.tag,fun _ _=>trivial,fun _ _ _ _ ht=>absurd rfl ht.tag,fun _ _ ht=>absurd rfl ht.tag,fun _ _ _=>rfl,Nat.le_refl _⟩
 obtain⟨hfr,_⟩:=Zdb (C:=(Ctx.of P w okA cs)) (h:=[]) (L:=L) (w:=w) hT he (by
  refine⟨hargs.1,fun j u v hu hv=>(hargs.2 j u v hu hv).okmono (fun g hg ho=>.inl ⟨hok g ho,ho⟩)⟩)
 obtain⟨fs',h',L',fr',cs',w',ho,_,hf',H',hst,_⟩:=hq w okA cs L _ cs w (.cons hfr .base) H0 (by simp)
 unfold Zy1 at ho
 split at ho
 ·rename_i g hg
  simp only at hg
  subst hg
  split at ho
  ·rename_i hfr2
   simp only[Bool.and_eq_true]at hfr2
   have hfn:=Nat.eq_of_beq_eq_true hfr2.1
   have hret:=hfr2.2
   split at ho
   ·rename_i hrnd
    split at ho
    ·rename_i hdefs
     split at ho
     ·rename_i xs hc0
      cases hf' with
      |cons hf' hk=>
       cases hk
       obtain⟨fn,hfn',hmr⟩:=hf'.res hrnd
       obtain⟨x,e1,e2⟩:=ZcV H' hf'.env hmr hc0
       have H2:HRel (Ctx.of P w okA []) h' L' w':=⟨H'.below,H'.live,H'.blks,H'.inj,H'.home,H'.low,H'.base⟩
       have e2:ZaF (Ctx.of P w okA []) h' L' w' (.agg (.gen xs)) x:=e2
       obtain⟨g1,g2⟩:=Zjg H2 ho
       have r2:ZaF (Ctx.of P w (fun _=>False) []) [] L' w' (.agg (.gen ys)) x:=by
        cases e2 with
        |agg _ zs hx vs hl h1 hr=>
         have hx:zs=xs:=hx
         subst hx
         refine .agg (.gen ys) ys rfl vs (by rw[←g1];exact hl) h1 (fun j u v hu hv=>g2 j u v hu fun q hq=>hr j q v hq hv)
       refine⟨.returned x,w',fr',⟨x,L',rfl,H'.below,r2⟩,hst,hf'.fn.trans hfn,?_⟩
       rcases hf'.mode with⟨_,hm⟩ |⟨e,_⟩
       ·refine⟨hm,?_,hf'.kind,fn,?_,e1⟩
        ·obtain⟨gs,g1,g2,_⟩:=hf'.defs
         rw[hdefs]at g2
         rw[g1,List.eq_nil_of_length_eq_zero g2];rfl
        ·rw[hf'.fn];exact hfn'
       ·rw[hret]at e;cases e
     ·cases ho
    ·cases ho
   ·cases ho
  ·cases ho
 ·cases ho
theorem ZAF{P:Program}{T:Tab}{K:List Ctr}(hfol:P.follows .mixedOrders=true)(hT:Zbx P T)(hK:ZaE P K){f:FuncId}{args:List AV}{af:AFrame}{ys:List AV}{s:Sp}{X:Prop}(he:Zat T f args=some af)
 (hg:ZaN std T K f (fun p=>Zy1 f p=some ys) (fun _ _=>False) (fun _ _ _ _=>False) s [af] []=X) (hx:X):Zap P f args (.agg (.gen ys)) ZsE:=
 Zlu hT he fun _ _ _=>Zbp (K:=fun p=>Zy1 f p=some ys) (F:=fun _ _=>False) (M:=fun _ _ _ _=>False) hfol hT hK (fun p h=>Ev.now (by obtain⟨fs,hh⟩:=p;rintro e;simp only at e;subst e;cases h) h) (fun _ _ h=>h.elim) (fun _ _ _ _ h=>h.elim) s (by rw[hg];exact hx)
end Go.Proofs.YtkeoeooghhjibaaGreatDoor
/- Contracts as a list. No condition. -/
namespace Go.Proofs.YtkeoeooghhjibaaGreatDoor
theorem ZEo{a b:Int}{xs:List Int}{ys:List AV} :ZaN std tab Bn 43 (fun p=>Zy1 43 p=some ys) (fun _ _=>False) (fun _ _ _ _=>False) (.run 19 .hd) (ZEV a b xs) []=qB [decide (xs.length≤1000000)] (some [.int .i64 a, .int .i64 b, .list (.ints .i64 xs)]=some ys) False:=by kernel_rfl
theorem ZmQ(a b:Int)(xs:List Int)(h:xs.length≤1000000):Zap Tryz.prog 43 [.agg (.gen [.int .i64 a, .int .i64 b, .list (.ints .i64 xs)])] (.agg (.gen [.int .i64 a, .int .i64 b, .list (.ints .i64 xs)])) ZsE:=
 ZAF follows Zag Zc2 (ZpP a b xs) ZEo (by simp[Zxk,h])
def k43n:Ctr:=⟨43,0,fun _ a=>match a with |[.agg (.gen [.int .i64 a, .int .i64 b, .list (.ints .i64 xs)])]=>some (decide (xs.length≤1000000), .agg (.gen [.int .i64 a, .int .i64 b, .list (.ints .i64 xs)]),ZsE) |_=>none⟩
theorem Zvq:k43n.OK Tryz.prog:=fun pa args r fr h=>by
 simp only[k43n]at h
 split at h
 ·simp only[Option.some.injEq,Prod.mk.injEq,decide_eq_true_eq]at h
  obtain⟨h0,rfl,rfl⟩:=h
  exact ZmQ _ _ _ h0
 ·cases h
def Bx:List Ctr:=[k43n]++Bw
theorem Zji:ZaE Tryz.prog Bx:=⟨Zvq,ZCm⟩
end Go.Proofs.YtkeoeooghhjibaaGreatDoor
