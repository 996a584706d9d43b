/- Contracts as a list. No condition. -/
import Derived.Test.YtkeoeooghhjibaaGreatDoorQg
import Derived.KernelRfl
namespace Go.Proofs.YtkeoeooghhjibaaGreatDoor
def st0:ST:=⟨0,0,[],false,0,false,[],[]⟩
def Zbz(ks rs l:List AV)(wn fl:Int)(s:ST)(k n:Int):ST:=if ZaR l wn fl s k n=0 then appS ks rs l fl s k n else st0
structure OkA (ms ks rs l:List AV) (wn fl:Int) (s:ST) (k n:Int):Prop where
 u:upE ms ks rs l wn fl=0
 s:stE ks rs l fl s.t s.mo s.dn s.ha s.ba s.to s.dw s.up=0
 e:evE k n=0
theorem ev0{n:Int}(h:evE 0 n=0):1≤n∧n≤1000000000000:=by
 unfold evE at h
 rw[if_pos (by decide),if_pos rfl]at h
 exact within_iff.1 (ZaN h (by decide))
theorem ev1{n:Int}(h:evE 1 n=0):0≤n∧n≤11:=by
 unfold evE at h
 rw[if_pos (by decide),if_neg (by decide),if_pos rfl]at h
 exact within_iff.1 (ZaN h (by decide))
theorem Zqs{k n:Int}(hk:2≤k∧k≤6)(h:evE k n=0):0≤n∧n≤5:=by
 unfold evE at h
 rw[if_pos (within_iff.2 (by omega)),if_neg (by omega),if_neg (by omega),if_pos (within_iff.2 hk)]at h
 exact within_iff.1 (ZaN h (by decide))
theorem ZJw(x:Int):Wk (.tup [.agg (.gen [.int .i64 0, .int .i64 0, .nils, .bool false, .int .i64 0, .bool false, .nils, .nils]), .int .i64 x]) (.tup [.agg (.gen [.int .i64 (st0).t, .int .i64 (st0).mo, .list (.big (.agg [.int .i64, .int .i64]) (st0).dn), .bool (st0).ha, .int .i64 (st0).ba, .bool (st0).to, .list (.ints .i64 (st0).dw), .list (.big (.agg [.int .i64, .bool]) (st0).up)]), .int .i64 x]):=Wk.tup' ⟨Wk.agg' ⟨.same _, .same _, .nil _ rfl, .same _, .same _, .same _, .nil _ rfl, .nil _ rfl,trivial⟩, .same _,trivial⟩
def ZnD(s:ST)(e:Int):AV:=.tup [.agg (.gen [.int .i64 (s).t, .int .i64 (s).mo, .list (.big (.agg [.int .i64, .int .i64]) (s).dn), .bool (s).ha, .int .i64 (s).ba, .bool (s).to, .list (.ints .i64 (s).dw), .list (.big (.agg [.int .i64, .bool]) (s).up)]), .int .i64 e]
theorem Zby{ks rs l:List AV}{wn fl:Int}{s:ST}{k n e:Int}(h:ZaR l wn fl s k n=e)(he:e≠0):Wk (.tup [.agg (.gen [.int .i64 0, .int .i64 0, .nils, .bool false, .int .i64 0, .bool false, .nils, .nils]), .int .i64 e]) (ZnD (Zbz ks rs l wn fl s k n) (ZaR l wn fl s k n)):=by
 unfold Zbz
 rw[h,if_neg he]
 exact ZJw e
theorem Zbd{ks rs l:List AV}{wn fl:Int}{s s':ST}{k n:Int}(h:ZaR l wn fl s k n=0)(hs:appS ks rs l fl s k n=s'):Wk (ZnD s' 0) (ZnD (Zbz ks rs l wn fl s k n) (ZaR l wn fl s k n)):=by
 unfold Zbz
 rw[h,if_pos rfl,hs]
 exact .same _
theorem Zqq{α:Type}(xs:List α)(n:Int)(h0:0≤n)(h:n<xs.length):(n+1).toNat=n.toNat+1∧n.toNat<xs.length:=by omega
theorem ZrX{α:Type}(xs:List α)(n:Nat)(h:n<xs.length):(xs.take n++((xs.drop (n+1)).take (xs.length-(n+1))++(xs.drop (n+(xs.length-(n+1)))).take xs.length)).take (n+(xs.length-(n+1)))=xs.take n++xs.drop (n+1):=by
 rw[←List.append_assoc,List.take_of_length_le (l:=xs.drop (n+1)) (by simp),List.take_append_of_le_length (by simp;omega),List.take_of_length_le (by simp;omega)]
theorem Zn7(a:Int)(b:Bool):Row.len std (.gen [.int .i64 a, .bool b])=2:=rfl
theorem Zps(a b:Int):Row.len std (.gen [.int .i64 a, .int .i64 b])=2:=rfl
theorem Zdh{ms ks rs l:List AV}{wn fl at0 mo:Int}{dn:List AV}{ha:Bool}{ba:Int}{to:Bool}{dw:List Int}{up:List AV}{k en:Int}(h:OkA ms ks rs l wn fl ⟨at0,mo,dn,ha,ba,to,dw,up⟩ k en):
 (l.length≤12∧dn.length≤l.length)∧(dw.length:Int)≤fl∧(up.length:Int)≤fl∧(1≤wn∧wn≤6)∧fl≤6∧(0≤at0∧at0≤1000000000000)∧(0≤ba∧ba≤dn.length)∧ks.length≤8:=by
 obtain⟨hf,hw,hfl⟩:=ZdP h.u
 have hs:=vs_iff.1 h.s
 exact⟨⟨hf.l1.2,hs.len.1⟩,hs.len.2.1,hs.len.2.2,hw,hfl.2,hs.t,hs.base,hf.ks1.2⟩
section
variable (ms ks rs l:List AV)(wn fl:Int)(at0 mo:Int)(dn:List AV)(ha:Bool)(ba:Int)(to:Bool)(dw:List Int)(up:List AV)(en:Int)
theorem ZDn(h:OkA ms ks rs l wn fl ⟨at0,mo,dn,ha,ba,to,dw,up⟩ 0 en):Zao Tryz.prog 49 [.agg (.gen [.list (.big .str ms), .list (.big (.agg [.str, .int .i64]) ks), .list (.big (.agg [.str, .int .i64, .int .i64, .int .i64, .int .i64]) rs), .list (.big (.agg [.int .i64, .int .i64, .int .i64]) l), .int .i64 wn, .int .i64 fl]), .agg (.gen [.int .i64 at0, .int .i64 mo, .list (.big (.agg [.int .i64, .int .i64]) dn), .bool ha, .int .i64 ba, .bool to, .list (.ints .i64 dw), .list (.big (.agg [.int .i64, .bool]) up)]), .agg (.gen [.int .i64 0, .int .i64 en])] (ZnD (Zbz ks rs l wn fl ⟨at0,mo,dn,ha,ba,to,dw,up⟩ 0 en) (ZaR l wn fl ⟨at0,mo,dn,ha,ba,to,dw,up⟩ 0 en)) none:=
 Zdf (Zpb ms ks rs l wn fl at0 mo dn ha ba to dw up en) fun C hC=>Zd7 hC ZbQ ZtC (by
  obtain⟨g0,g1,g2,g3,g4,g5,g6,g7⟩:=Zdh h
  have hv:=ev0 h.e
  by_cases h1:1000000000000-at0<en
  ·have hr:=Zby (ks:=ks) (rs:=rs) (l:=l) (wn:=wn) (fl:=fl) (s:=⟨at0,mo,dn,ha,ba,to,dw,up⟩) (k:=0) (n:=en) (e:=2) (by simp[ZaR,h1]) (by decide)
   simp[ZkU,h1]
   exact⟨by omega,by omega,hr⟩
  ·have hr:=Zbd (ks:=ks) (rs:=rs) (l:=l) (wn:=wn) (fl:=fl) (s:=⟨at0,mo,dn,ha,ba,to,dw,up⟩) (k:=0) (n:=en) (by simp[ZaR,h1]) rfl
   simp[ZkU,h1]
   exact⟨by omega,by omega,by omega,hr⟩)
theorem ZER(h:OkA ms ks rs l wn fl ⟨at0,mo,dn,ha,ba,to,dw,up⟩ 1 en):Zao Tryz.prog 49 [.agg (.gen [.list (.big .str ms), .list (.big (.agg [.str, .int .i64]) ks), .list (.big (.agg [.str, .int .i64, .int .i64, .int .i64, .int .i64]) rs), .list (.big (.agg [.int .i64, .int .i64, .int .i64]) l), .int .i64 wn, .int .i64 fl]), .agg (.gen [.int .i64 at0, .int .i64 mo, .list (.big (.agg [.int .i64, .int .i64]) dn), .bool ha, .int .i64 ba, .bool to, .list (.ints .i64 dw), .list (.big (.agg [.int .i64, .bool]) up)]), .agg (.gen [.int .i64 1, .int .i64 en])] (ZnD (Zbz ks rs l wn fl ⟨at0,mo,dn,ha,ba,to,dw,up⟩ 1 en) (ZaR l wn fl ⟨at0,mo,dn,ha,ba,to,dw,up⟩ 1 en)) none:=
 Zdf (Zpq ms ks rs l wn fl at0 mo dn ha ba to dw up en) fun C hC=>Zd7 hC ZbQ ZuN (by
  obtain⟨g0,g1,g2,g3,g4,g5,g6,g7⟩:=Zdh h
  have hv:=ev1 h.e
  by_cases h1:(l.length:Int)≤en
  ·have hr:=Zby (ks:=ks) (rs:=rs) (l:=l) (wn:=wn) (fl:=fl) (s:=⟨at0,mo,dn,ha,ba,to,dw,up⟩) (k:=1) (n:=en) (e:=6) (by simp[ZaR,Int.not_lt.2 h1]) (by decide)
   simp[ZfD,h1]
   exact⟨by omega,hr⟩
  ·have h1n:en<l.length:=by omega
   cases to
   ·by_cases h2:Zab en ba (ba+wn-1)=true
    ·by_cases h3:fl≤(dw.length:Int)
     ·have hr:=Zby (ks:=ks) (rs:=rs) (l:=l) (wn:=wn) (fl:=fl) (s:=⟨at0,mo,dn,ha,ba,false,dw,up⟩) (k:=1) (n:=en) (e:=16) (by simp[ZaR,h1n,h2,Int.not_lt.2 h3]) (by decide)
      simp[ZfD,h1,h2,h3]
      exact⟨by omega,by omega,hr⟩
     ·have hr:=Zbd (ks:=ks) (rs:=rs) (l:=l) (wn:=wn) (fl:=fl) (s:=⟨at0,mo,dn,ha,ba,false,dw,up⟩) (k:=1) (n:=en) (by simp[ZaR,h1n,h2,Int.not_le.1 h3]) rfl
      simp[ZfD,h1,h2,h3,AV.bx,Zae]
      exact⟨by omega,by omega,by omega,hr⟩
    ·have hr:=Zby (ks:=ks) (rs:=rs) (l:=l) (wn:=wn) (fl:=fl) (s:=⟨at0,mo,dn,ha,ba,false,dw,up⟩) (k:=1) (n:=en) (e:=26) (by simp[ZaR,h1n,h2]) (by decide)
     simp[ZfD,h1,h2]
     exact⟨by omega,by omega,hr⟩
   ·have hr:=Zby (ks:=ks) (rs:=rs) (l:=l) (wn:=wn) (fl:=fl) (s:=⟨at0,mo,dn,ha,ba,true,dw,up⟩) (k:=1) (n:=en) (e:=21) (by simp[ZaR,h1n]) (by decide)
    simp[ZfD,h1]
    exact⟨by omega,hr⟩)
theorem ZEW(h:OkA ms ks rs l wn fl ⟨at0,mo,dn,ha,ba,to,dw,up⟩ 4 en):Zao Tryz.prog 49 [.agg (.gen [.list (.big .str ms), .list (.big (.agg [.str, .int .i64]) ks), .list (.big (.agg [.str, .int .i64, .int .i64, .int .i64, .int .i64]) rs), .list (.big (.agg [.int .i64, .int .i64, .int .i64]) l), .int .i64 wn, .int .i64 fl]), .agg (.gen [.int .i64 at0, .int .i64 mo, .list (.big (.agg [.int .i64, .int .i64]) dn), .bool ha, .int .i64 ba, .bool to, .list (.ints .i64 dw), .list (.big (.agg [.int .i64, .bool]) up)]), .agg (.gen [.int .i64 4, .int .i64 en])] (ZnD (Zbz ks rs l wn fl ⟨at0,mo,dn,ha,ba,to,dw,up⟩ 4 en) (ZaR l wn fl ⟨at0,mo,dn,ha,ba,to,dw,up⟩ 4 en)) none:=
 Zdf (Zp1 ms ks rs l wn fl at0 mo dn ha ba to dw up en) fun C hC=>Zd7 hC ZbQ ZvX (by
  obtain⟨g0,g1,g2,g3,g4,g5,g6,g7⟩:=Zdh h
  have hv:=Zqs (by omega) h.e
  by_cases h1:en<dw.length
  ·have hr:=Zbd (ks:=ks) (rs:=rs) (l:=l) (wn:=wn) (fl:=fl) (s:=⟨at0,mo,dn,ha,ba,to,dw,up⟩) (k:=4) (n:=en) (by simp[ZaR,h1]) rfl
   have h2:Zab en 0 ((dw.length:Int)-1)=true:=within_iff.2 (by omega)
   obtain⟨c1,c2⟩:=Zqq dw en hv.1 h1
   simp[Zlg,h2,c1,ZrX _ _ c2]
   exact⟨by omega,by omega,hr⟩
  ·have hr:=Zby (ks:=ks) (rs:=rs) (l:=l) (wn:=wn) (fl:=fl) (s:=⟨at0,mo,dn,ha,ba,to,dw,up⟩) (k:=4) (n:=en) (e:=6) (by simp[ZaR,h1]) (by decide)
   have h2:¬Zab en 0 ((dw.length:Int)-1)=true:=fun hh=>h1 (by have:=within_iff.1 hh;omega)
   simp[Zlg,h2]
   exact⟨by omega,hr⟩)
theorem ZEU(h:OkA ms ks rs l wn fl ⟨at0,mo,dn,ha,ba,to,dw,up⟩ 5 en):Zao Tryz.prog 49 [.agg (.gen [.list (.big .str ms), .list (.big (.agg [.str, .int .i64]) ks), .list (.big (.agg [.str, .int .i64, .int .i64, .int .i64, .int .i64]) rs), .list (.big (.agg [.int .i64, .int .i64, .int .i64]) l), .int .i64 wn, .int .i64 fl]), .agg (.gen [.int .i64 at0, .int .i64 mo, .list (.big (.agg [.int .i64, .int .i64]) dn), .bool ha, .int .i64 ba, .bool to, .list (.ints .i64 dw), .list (.big (.agg [.int .i64, .bool]) up)]), .agg (.gen [.int .i64 5, .int .i64 en])] (ZnD (Zbz ks rs l wn fl ⟨at0,mo,dn,ha,ba,to,dw,up⟩ 5 en) (ZaR l wn fl ⟨at0,mo,dn,ha,ba,to,dw,up⟩ 5 en)) none:=
 Zdf (ZpS ms ks rs l wn fl at0 mo dn ha ba to dw up en) fun C hC=>Zd7 hC ZbQ Zwa (by
  obtain⟨g0,g1,g2,g3,g4,g5,g6,g7⟩:=Zdh h
  have hv:=Zqs (by omega) h.e
  by_cases h1:en<up.length
  ·have hr:=Zbd (ks:=ks) (rs:=rs) (l:=l) (wn:=wn) (fl:=fl) (s:=⟨at0,mo,dn,ha,ba,to,dw,up⟩) (k:=5) (n:=en) (by simp[ZaR,h1]) rfl
   have h2:Zab en 0 ((up.length:Int)-1)=true:=within_iff.2 (by omega)
   obtain⟨c1,c2⟩:=Zqq up en hv.1 h1
   simp[Zlf,h2,c1,ZrX _ _ c2]
   exact⟨by omega,by omega,by omega,hr⟩
  ·have hr:=Zby (ks:=ks) (rs:=rs) (l:=l) (wn:=wn) (fl:=fl) (s:=⟨at0,mo,dn,ha,ba,to,dw,up⟩) (k:=5) (n:=en) (e:=6) (by simp[ZaR,h1]) (by decide)
   have h2:¬Zab en 0 ((up.length:Int)-1)=true:=fun hh=>h1 (by have:=within_iff.1 hh;omega)
   simp[Zlf,h2]
   exact⟨by omega,by omega,hr⟩)
theorem ZFL(h:OkA ms ks rs l wn fl ⟨at0,mo,dn,ha,ba,to,dw,up⟩ 3 en):Zao Tryz.prog 49 [.agg (.gen [.list (.big .str ms), .list (.big (.agg [.str, .int .i64]) ks), .list (.big (.agg [.str, .int .i64, .int .i64, .int .i64, .int .i64]) rs), .list (.big (.agg [.int .i64, .int .i64, .int .i64]) l), .int .i64 wn, .int .i64 fl]), .agg (.gen [.int .i64 at0, .int .i64 mo, .list (.big (.agg [.int .i64, .int .i64]) dn), .bool ha, .int .i64 ba, .bool to, .list (.ints .i64 dw), .list (.big (.agg [.int .i64, .bool]) up)]), .agg (.gen [.int .i64 3, .int .i64 en])] (ZnD (Zbz ks rs l wn fl ⟨at0,mo,dn,ha,ba,to,dw,up⟩ 3 en) (ZaR l wn fl ⟨at0,mo,dn,ha,ba,to,dw,up⟩ 3 en)) none:=
 Zdf (ZpP ms ks rs l wn fl at0 mo dn ha ba to dw up en) fun C hC=>Zd7 hC ZbQ ZwA (by
  obtain⟨g0,g1,g2,g3,g4,g5,g6,g7⟩:=Zdh h
  have hv:=Zqs (by omega) h.e
  by_cases h1:en<up.length
  ·have hr:=Zbd (ks:=ks) (rs:=rs) (l:=l) (wn:=wn) (fl:=fl) (s:=⟨at0,mo,dn,ha,ba,to,dw,up⟩) (k:=3) (n:=en) (by simp[ZaR,h1]) rfl
   have e1:appS ks rs l fl ⟨at0,mo,dn,ha,ba,to,dw,up⟩ 3 en=⟨at0,mo,dn,ha,max ba (Zaj up en 0),to||((up.getD en.toNat .top).cellAt 1).toB,dw,Zbm up en⟩:=rfl
   rw[e1]at hr
   have e2:((up.getD en.toNat .top).cellAt 0).toI=Zaj up en 0:=rfl
   have h2:Zab en 0 ((up.length:Int)-1)=true:=within_iff.2 (by omega)
   obtain⟨c1,c2⟩:=Zqq up en hv.1 h1
   by_cases ht:to=true
   ·subst ht
    simp[-List.getD_eq_getElem?_getD,ZiS,h2,c1,c2,ZrX _ _ c2,e2]
    exact⟨by omega,by omega,by omega,hr⟩
   ·obtain rfl:to=false:=by simpa using ht
    simp[-List.getD_eq_getElem?_getD,ZiS,h2,c1,c2,ZrX _ _ c2,e2]
    exact⟨by omega,by omega,by omega,hr⟩
  ·have hr:=Zby (ks:=ks) (rs:=rs) (l:=l) (wn:=wn) (fl:=fl) (s:=⟨at0,mo,dn,ha,ba,to,dw,up⟩) (k:=3) (n:=en) (e:=6) (by simp[ZaR,h1]) (by decide)
   have h2:¬Zab en 0 ((up.length:Int)-1)=true:=fun hh=>h1 (by have:=within_iff.1 hh;omega)
   simp[ZiS,h2]
   exact⟨by omega,by omega,hr⟩)
theorem ZFd(h:OkA ms ks rs l wn fl ⟨at0,mo,dn,ha,ba,to,dw,up⟩ 6 en):Zao Tryz.prog 49 [.agg (.gen [.list (.big .str ms), .list (.big (.agg [.str, .int .i64]) ks), .list (.big (.agg [.str, .int .i64, .int .i64, .int .i64, .int .i64]) rs), .list (.big (.agg [.int .i64, .int .i64, .int .i64]) l), .int .i64 wn, .int .i64 fl]), .agg (.gen [.int .i64 at0, .int .i64 mo, .list (.big (.agg [.int .i64, .int .i64]) dn), .bool ha, .int .i64 ba, .bool to, .list (.ints .i64 dw), .list (.big (.agg [.int .i64, .bool]) up)]), .agg (.gen [.int .i64 6, .int .i64 en])] (ZnD (Zbz ks rs l wn fl ⟨at0,mo,dn,ha,ba,to,dw,up⟩ 6 en) (ZaR l wn fl ⟨at0,mo,dn,ha,ba,to,dw,up⟩ 6 en)) none:=
 Zdf (Zos ms ks rs l wn fl at0 mo dn ha ba to dw up en) fun C hC=>Zd7 hC ZbQ ZuA (by
  obtain⟨g0,g1,g2,g3,g4,g5,g6,g7⟩:=Zdh h
  have hv:=Zqs (by omega) h.e
  by_cases h1:en<dw.length
  ·have h2:Zab en 0 ((dw.length:Int)-1)=true:=within_iff.2 (by omega)
   obtain⟨c1,c2⟩:=Zqq dw en hv.1 h1
   by_cases h3:fl≤(dw.length:Int)
   ·have hr:=Zby (ks:=ks) (rs:=rs) (l:=l) (wn:=wn) (fl:=fl) (s:=⟨at0,mo,dn,ha,ba,to,dw,up⟩) (k:=6) (n:=en) (e:=16) (by simp[ZaR,h1,Int.not_lt.2 h3]) (by decide)
    simp[ZiR,h2,h3]
    exact⟨by omega,hr⟩
   ·have hr:=Zbd (ks:=ks) (rs:=rs) (l:=l) (wn:=wn) (fl:=fl) (s:=⟨at0,mo,dn,ha,ba,to,dw,up⟩) (k:=6) (n:=en) (by simp[ZaR,h1,Int.not_le.1 h3]) rfl
    simp[-List.getD_eq_getElem?_getD,ZiR,h2,h3,c2,AV.bx,Zae]
    exact⟨by omega,by omega,hr⟩
  ·have hr:=Zby (ks:=ks) (rs:=rs) (l:=l) (wn:=wn) (fl:=fl) (s:=⟨at0,mo,dn,ha,ba,to,dw,up⟩) (k:=6) (n:=en) (e:=6) (by simp[ZaR,h1]) (by decide)
   have h2:¬Zab en 0 ((dw.length:Int)-1)=true:=fun hh=>h1 (by have:=within_iff.1 hh;omega)
   simp[ZiR,h2]
   exact⟨by omega,hr⟩)
theorem ZEo(h:OkA ms ks rs l wn fl ⟨at0,mo,dn,ha,ba,to,dw,up⟩ 7 en):Zao Tryz.prog 49 [.agg (.gen [.list (.big .str ms), .list (.big (.agg [.str, .int .i64]) ks), .list (.big (.agg [.str, .int .i64, .int .i64, .int .i64, .int .i64]) rs), .list (.big (.agg [.int .i64, .int .i64, .int .i64]) l), .int .i64 wn, .int .i64 fl]), .agg (.gen [.int .i64 at0, .int .i64 mo, .list (.big (.agg [.int .i64, .int .i64]) dn), .bool ha, .int .i64 ba, .bool to, .list (.ints .i64 dw), .list (.big (.agg [.int .i64, .bool]) up)]), .agg (.gen [.int .i64 7, .int .i64 en])] (ZnD (Zbz ks rs l wn fl ⟨at0,mo,dn,ha,ba,to,dw,up⟩ 7 en) (ZaR l wn fl ⟨at0,mo,dn,ha,ba,to,dw,up⟩ 7 en)) none:=
 Zdf (ZoZ ms ks rs l wn fl at0 mo dn ha ba to dw up en) fun C hC=>Zd7 hC ZbQ Zwk (by
  obtain⟨g0,g1,g2,g3,g4,g5,g6,g7⟩:=Zdh h
  have hr:=Zbd (ks:=ks) (rs:=rs) (l:=l) (wn:=wn) (fl:=fl) (s:=⟨at0,mo,dn,ha,ba,to,dw,up⟩) (k:=7) (n:=en) (by simp[ZaR]) rfl
  simp[Zot]
  exact⟨by omega,hr⟩)
theorem ZE5(h:OkA ms ks rs l wn fl ⟨at0,mo,dn,ha,ba,to,dw,up⟩ 8 en):Zao Tryz.prog 49 [.agg (.gen [.list (.big .str ms), .list (.big (.agg [.str, .int .i64]) ks), .list (.big (.agg [.str, .int .i64, .int .i64, .int .i64, .int .i64]) rs), .list (.big (.agg [.int .i64, .int .i64, .int .i64]) l), .int .i64 wn, .int .i64 fl]), .agg (.gen [.int .i64 at0, .int .i64 mo, .list (.big (.agg [.int .i64, .int .i64]) dn), .bool ha, .int .i64 ba, .bool to, .list (.ints .i64 dw), .list (.big (.agg [.int .i64, .bool]) up)]), .agg (.gen [.int .i64 8, .int .i64 en])] (ZnD (Zbz ks rs l wn fl ⟨at0,mo,dn,ha,ba,to,dw,up⟩ 8 en) (ZaR l wn fl ⟨at0,mo,dn,ha,ba,to,dw,up⟩ 8 en)) none:=
 Zdf (Zpf ms ks rs l wn fl at0 mo dn ha ba to dw up en) fun C hC=>Zd7 hC ZbQ Zuw (by
  obtain⟨g0,g1,g2,g3,g4,g5,g6,g7⟩:=Zdh h
  have hr:=Zbd (ks:=ks) (rs:=rs) (l:=l) (wn:=wn) (fl:=fl) (s:=⟨at0,mo,dn,ha,ba,to,dw,up⟩) (k:=8) (n:=en) (by simp[ZaR]) (s':=_) rfl
  have e1:appS ks rs l fl ⟨at0,mo,dn,ha,ba,to,dw,up⟩ 8 en=ZcL fl ⟨at0,mo,dn,ha,ba,to,dw,up⟩:=rfl
  rw[e1]at hr
  unfold ZcL ZBe at hr
  by_cases h1:(up.length:Int)<fl
  ·simp only[if_pos h1]at hr
   simp[Zlh,h1,AV.bx,Zae,Zn7]
   exact⟨by omega,by omega,hr⟩
  ·simp only[if_neg h1]at hr
   simp[Zlh,h1]
   exact⟨by omega,hr⟩)
end
end Go.Proofs.YtkeoeooghhjibaaGreatDoor
/- Paths of functions, printed by the explorer (Gx). No condition. -/
namespace Go.Proofs.YtkeoeooghhjibaaGreatDoor
set_option maxRecDepth 100000
set_option linter.unusedVariables false
def ZpN(ms ks rs l:List AV)(wn fl at0 mo:Int)(dn:List AV)(ha:Bool)(ba:Int)(to:Bool)(dw:List Int)(up:List AV)(en:Int):AFrame:={ fn:=49,N:=208,env:=[(0,AV.agg (Row.gen [.list (Row.big .str ms), .list (Row.big (.agg [.str, .int .i64]) ks), .list (Row.big (.agg [.str, .int .i64, .int .i64, .int .i64, .int .i64]) rs), .list (Row.big (.agg [.int .i64, .int .i64, .int .i64]) l), .int .i64 wn, .int .i64 fl])),(1,AV.agg (Row.gen [.int .i64 at0, .int .i64 mo, .list (Row.big (.agg [.int .i64, .int .i64]) dn), .bool ha, .int .i64 ba, .bool to, .list (.ints .i64 dw), .list (Row.big (.agg [.int .i64, .bool]) up)])),(2,AV.agg (Row.gen [.int .i64 2, .int .i64 en]))],todo:=[.code a49.code],defs:=[],rnd:=none,ret:=false,res:=[ARes.cell 6 true 8,ARes.tmp 7] }
def ZzC(ms ks rs l:List AV)(wn fl at0 mo:Int)(dn:List AV)(ha:Bool)(ba:Int)(to:Bool)(dw:List Int)(up:List AV)(en:Int):List AFrame:=[(ZpN ms ks rs l wn fl at0 mo dn ha ba to dw up en)]
theorem ZoD(ms ks rs l:List AV)(wn fl at0 mo:Int)(dn:List AV)(ha:Bool)(ba:Int)(to:Bool)(dw:List Int)(up:List AV)(en:Int):Zar tab 49 [AV.agg (Row.gen [.list (Row.big .str ms), .list (Row.big (.agg [.str, .int .i64]) ks), .list (Row.big (.agg [.str, .int .i64, .int .i64, .int .i64, .int .i64]) rs), .list (Row.big (.agg [.int .i64, .int .i64, .int .i64]) l), .int .i64 wn, .int .i64 fl]),AV.agg (Row.gen [.int .i64 at0, .int .i64 mo, .list (Row.big (.agg [.int .i64, .int .i64]) dn), .bool ha, .int .i64 ba, .bool to, .list (.ints .i64 dw), .list (Row.big (.agg [.int .i64, .bool]) up)]),AV.agg (Row.gen [.int .i64 2, .int .i64 en])]=some (ZpN ms ks rs l wn fl at0 mo dn ha ba to dw up en):=rfl
def Zc8(ms ks rs l:List AV)(wn fl at0 mo:Int)(dn:List AV)(ha:Bool)(ba:Int)(to:Bool)(up:List AV)(n0:Int)(b1:Bool)(n2 n3 n4 n5 n6 n7 n8 n9 n10:Int)(l11 l12:List Int)(n13 n14 n15 n16 n17 n18:Int):List AFrame:=[{ fn:=85,N:=32,env:=[(1,AV.row 35007 0),(2,AV.ptr 85003 0 0 0),(4,AV.ptr 85005 0 0 0),(5,AV.ptr 85006 0 0 0),(6,AV.int .i64 n16)],todo:=.code (ACode.gh [] Zq5)::Zwt,defs:=[],rnd:=none,ret:=false,res:=[ARes.cell 4 true 3] },{ fn:=98,N:=68,env:=[(2,AV.int .i64 n0),(3,AV.ptr 98004 0 0 0),(4,AV.ptr 98005 0 0 0),(6,AV.ptr 98007 0 0 0),(7,AV.ptr 98008 0 0 0),(18,AV.bool b1),(19,AV.ptr 98004 0 0 3),(20,AV.list (Row.big (.agg [.int .i64, .int .i64, .int .i64]) l)),(21,AV.int .i64 n2),(22,AV.eptr (AV.agg (Row.gen [.int .i64 n3, .int .i64 n4, .int .i64 n5])) 0),(23,AV.agg (Row.gen [.int .i64 n6, .int .i64 n7, .int .i64 n8])),(24,AV.agg (Row.gen [.list (Row.big .str ms), .list (Row.big (.agg [.str, .int .i64]) ks), .list (Row.big (.agg [.str, .int .i64, .int .i64, .int .i64, .int .i64]) rs), .list (Row.big (.agg [.int .i64, .int .i64, .int .i64]) l), .int .i64 wn, .int .i64 fl])),(25,AV.ptr 98005 0 0 2),(26,AV.row 35007 0)],todo:=[AItem.inReg [oN 27 (OpK.icall 85 [Opd.t 24,Opd.t 26]),oN 8 (OpK.alloc 98009 76 (AV.agg (Row.gen [.int .i64 0, .int .i64 0,AV.nils]))),{ d:=none,g:=none,k:=OpK.store 3 (Opd.t 8) (Opd.t 27) }], .code (ACode.seq (ACode.reg none [oN 28 (OpK.faddr 0 (Opd.t 4)),oN 29 (OpK.load false 1 (Opd.t 28)),oN 30 (OpK.faddr 1 (Opd.t 8)),{ d:=none,g:=none,k:=OpK.store 1 (Opd.t 30) (Opd.t 29) }]) (ACode.seq (ACode.reg none [oN 31 (OpK.faddr 0 (Opd.t 4)),oN 32 (OpK.load false 1 (Opd.t 31)),oN 33 (OpK.faddr 1 (Opd.t 7)),oN 34 (OpK.faddr 0 (Opd.t 33)),oN 35 (OpK.load false 1 (Opd.t 34)),oN 36 (OpK.faddr 1 (Opd.t 7)),oN 37 (OpK.faddr 1 (Opd.t 36)),oN 38 (OpK.load false 1 (Opd.t 37)),oN 39 (OpK.ncall true 0 41 [Opd.t 32,Opd.t 35,Opd.t 38]),mV 40 39,{ d:=some 41,g:=some (40,true),k:=OpK.faddr 0 (Opd.t 3) },{ d:=some 42,g:=some (40,true),k:=OpK.load true 3 (Opd.t 41) },{ d:=some 43,g:=some (40,true),k:=OpK.load true 3 (Opd.t 8) },{ d:=some 44,g:=some (40,true),k:=OpK.faddr 0 (Opd.t 7) },{ d:=some 45,g:=some (40,true),k:=OpK.load false 1 (Opd.t 44) },{ d:=some 46,g:=some (40,true),k:=OpK.ncall true 0 86 [Opd.t 42,Opd.t 43,Opd.t 45] },{ d:=some 47,g:=some (40,true),k:=OpK.bin Go.BinOp.eql (Opd.t 46) (Opd.c (AV.str [])) },oN 48 (OpK.pick (Opd.t 40) (Opd.t 47) (Opd.c (AV.bool false)))]) (ACode.gh [Ghost.keep [2,3,4,6,48]] (ACode.cond (Opd.t 48) (ACode.seq (ACode.reg none [oN 49 (OpK.faddr 2 (Opd.t 4)),oN 50 (OpK.load false 1 (Opd.t 49)),mV 51 2,oN 52 (OpK.faddr 0 (Opd.t 4)),oN 53 (OpK.load false 1 (Opd.t 52)),oN 54 (OpK.build (Row.gen [.int .i64 0, .int .i64 0]) [(0,1,Opd.t 51),(1,1,Opd.t 53)]),oN 55 (OpK.bslice 98056 78 2 [Opd.t 54]),oN 56 (OpK.append 98057 78 2 (Opd.t 50) (Opd.t 55)),oN 57 (OpK.faddr 2 (Opd.t 4)),{ d:=none,g:=none,k:=OpK.store 1 (Opd.t 57) (Opd.t 56) }]) (ACode.gh [Ghost.keep [3,4,6]] (ACode.reg none [oN 58 (OpK.load true 6 (Opd.t 3)),oN 59 (OpK.faddr 2 (Opd.t 4)),oN 60 (OpK.load false 1 (Opd.t 59)),oN 61 (OpK.icall 85 [Opd.t 58,Opd.t 60]),oN 62 (OpK.fld false 0 1 (Opd.t 61)),oN 63 (OpK.faddr 1 (Opd.t 4)),{ d:=none,g:=none,k:=OpK.store 1 (Opd.t 63) (Opd.t 62) }]))) (ACode.reg none [oN 64 (OpK.faddr 3 (Opd.t 4)),{ d:=none,g:=none,k:=OpK.store 1 (Opd.t 64) (Opd.c (AV.bool true)) }]))))), .code (ACode.seq (ACode.reg none [oN 65 (OpK.load true 6 (Opd.t 3)),oN 66 (OpK.load true 8 (Opd.t 4)),oN 67 (OpK.icall 99 [Opd.t 65,Opd.t 66]),{ d:=none,g:=none,k:=OpK.store 8 (Opd.t 6) (Opd.t 67) }]) ACode.ret)],defs:=[],rnd:=none,ret:=false,res:=[ARes.cell 6 true 8] },{ fn:=49,N:=208,env:=[(3,AV.ptr 49004 0 0 0),(6,AV.ptr 49007 0 0 0),(8,AV.ptr 49009 0 0 0),(12,AV.int .i64 n9),(117,AV.agg (Row.gen [.list (Row.big .str ms), .list (Row.big (.agg [.str, .int .i64]) ks), .list (Row.big (.agg [.str, .int .i64, .int .i64, .int .i64, .int .i64]) rs), .list (Row.big (.agg [.int .i64, .int .i64, .int .i64]) l), .int .i64 wn, .int .i64 fl])),(118,AV.agg (Row.gen [.int .i64 at0, .int .i64 mo, .row 35007 0, .bool ha, .int .i64 ba, .bool to, .row 35011 0, .row 35016 0])),(119,AV.int .i64 n10)],todo:=[AItem.inReg [oN 120 (OpK.icall 98 [Opd.t 117,Opd.t 118,Opd.t 119]),{ d:=none,g:=none,k:=OpK.store 8 (Opd.t 8) (Opd.t 120) }],AItem.inBlock 0, .code (ACode.seq (ACode.reg none [oN 207 (OpK.load true 8 (Opd.t 8)),{ d:=none,g:=none,k:=OpK.store 8 (Opd.t 6) (Opd.t 207) },oN 7 (OpK.mov (cI 0))]) ACode.ret)],defs:=[],rnd:=none,ret:=false,res:=[ARes.cell 6 true 8,ARes.tmp 7] }]
def Zct(ms ks rs l:List AV)(wn fl at0 mo:Int)(dn:List AV)(ha:Bool)(ba:Int)(to:Bool)(up:List AV)(n0:Int)(b1:Bool)(n2 n3 n4 n5 n6 n7 n8 n9 n10:Int)(l11 l12:List Int)(n13 n14 n15 n16 n17 n18:Int):Zac:=[(35007,{ base:=0,blks:=[Blk.row 78 2 (Row.big (.agg [.int .i64, .int .i64]) dn)] }),(35011,{ base:=0,blks:=[Blk.row 3 1 (.ints .i64 l11)] }),(35016,{ base:=0,blks:=[Blk.row 129 2 (Row.big (.agg [.int .i64, .bool]) up)] }),(49004,{ base:=0,blks:=[Blk.row 29 6 (Row.gen [AV.agg (Row.gen [AV.list (Row.big .str ms),AV.list (Row.big (.agg [.str, .int .i64]) ks),AV.list (Row.big (.agg [.str, .int .i64, .int .i64, .int .i64, .int .i64]) rs),AV.list (Row.big (.agg [.int .i64, .int .i64, .int .i64]) l),AV.int .i64 wn,AV.int .i64 fl])])] }),(49007,{ base:=0,blks:=[Blk.row 37 8 (Row.gen [AV.agg (Row.gen [AV.int .i64 0,AV.int .i64 0,AV.nils,AV.bool false,AV.int .i64 0,AV.bool false,AV.nils,AV.nils])])] }),(49009,{ base:=0,blks:=[Blk.row 37 8 (Row.gen [AV.agg (Row.gen [AV.int .i64 at0,AV.int .i64 mo,AV.row 35007 0,AV.bool ha,AV.int .i64 ba,AV.bool to,AV.row 35011 0,AV.row 35016 0])])] }),(85003,{ base:=0,blks:=[Blk.row 29 6 (Row.gen [AV.agg (Row.gen [AV.list (Row.big .str ms),AV.list (Row.big (.agg [.str, .int .i64]) ks),AV.list (Row.big (.agg [.str, .int .i64, .int .i64, .int .i64, .int .i64]) rs),AV.list (Row.big (.agg [.int .i64, .int .i64, .int .i64]) l),AV.int .i64 wn,AV.int .i64 fl])])] }),(85005,{ base:=0,blks:=[Blk.row 76 3 (Row.gen [AV.agg (Row.gen [AV.int .i64 0,AV.int .i64 0,AV.nils])])] }),(85006,{ base:=0,blks:=[Blk.row 76 3 (Row.gen [AV.agg (Row.gen [AV.int .i64 n17,AV.int .i64 n18,AV.list (.ints .i64 l12)])])] }),(98004,{ base:=0,blks:=[Blk.row 29 6 (Row.gen [AV.agg (Row.gen [AV.list (Row.big .str ms),AV.list (Row.big (.agg [.str, .int .i64]) ks),AV.list (Row.big (.agg [.str, .int .i64, .int .i64, .int .i64, .int .i64]) rs),AV.list (Row.big (.agg [.int .i64, .int .i64, .int .i64]) l),AV.int .i64 wn,AV.int .i64 fl])])] }),(98005,{ base:=0,blks:=[Blk.row 37 8 (Row.gen [AV.agg (Row.gen [AV.int .i64 at0,AV.int .i64 mo,AV.row 35007 0,AV.bool ha,AV.int .i64 ba,AV.bool to,AV.row 35011 0,AV.row 35016 0])])] }),(98007,{ base:=0,blks:=[Blk.row 37 8 (Row.gen [AV.agg (Row.gen [AV.int .i64 0,AV.int .i64 0,AV.nils,AV.bool false,AV.int .i64 0,AV.bool false,AV.nils,AV.nils])])] }),(98008,{ base:=0,blks:=[Blk.row 82 3 (Row.gen [AV.agg (Row.gen [AV.int .i64 n13,AV.int .i64 n14,AV.int .i64 n15])])] })]
abbrev ZfO(ms ks rs l:List AV)(wn fl at0 mo:Int)(dn:List AV)(ha:Bool)(ba:Int)(to:Bool)(up:List AV)(n0:Int)(b1:Bool)(n2 n3 n4 n5 n6 n7 n8 n9 n10:Int)(l11 l12:List Int)(n13 n14 n15 n16 n17 n18:Int):List AFrame×Zac:=(Zc8 ms ks rs l wn fl at0 mo dn ha ba to up n0 b1 n2 n3 n4 n5 n6 n7 n8 n9 n10 l11 l12 n13 n14 n15 n16 n17 n18,Zct ms ks rs l wn fl at0 mo dn ha ba to up n0 b1 n2 n3 n4 n5 n6 n7 n8 n9 n10 l11 l12 n13 n14 n15 n16 n17 n18)
def Zc9(ms ks rs l:List AV)(wn fl at0 mo:Int)(ha:Bool)(ba:Int)(to:Bool)(up:List AV)(n9 n10:Int)(l11 l19:List Int)(x20:List AV)(n21 n22 n23:Int):List AFrame:=[{ fn:=85,N:=32,env:=[(1,AV.row 98057 0),(2,AV.ptr 85003 0 0 0),(4,AV.ptr 85005 0 0 0),(5,AV.ptr 85006 0 0 0),(6,AV.int .i64 n21)],todo:=.code (ACode.gh [] Zq5)::Zwt,defs:=[],rnd:=none,ret:=false,res:=[ARes.cell 4 true 3] },{ fn:=98,N:=68,env:=[(3,AV.ptr 98004 0 0 0),(4,AV.ptr 98005 0 0 0),(6,AV.ptr 98007 0 0 0),(58,AV.agg (Row.gen [.list (Row.big .str ms), .list (Row.big (.agg [.str, .int .i64]) ks), .list (Row.big (.agg [.str, .int .i64, .int .i64, .int .i64, .int .i64]) rs), .list (Row.big (.agg [.int .i64, .int .i64, .int .i64]) l), .int .i64 wn, .int .i64 fl])),(59,AV.ptr 98005 0 0 2),(60,AV.row 98057 0)],todo:=[AItem.inReg [oN 61 (OpK.icall 85 [Opd.t 58,Opd.t 60]),oN 62 (OpK.fld false 0 1 (Opd.t 61)),oN 63 (OpK.faddr 1 (Opd.t 4)),{ d:=none,g:=none,k:=OpK.store 1 (Opd.t 63) (Opd.t 62) }], .code (ACode.seq (ACode.reg none [oN 65 (OpK.load true 6 (Opd.t 3)),oN 66 (OpK.load true 8 (Opd.t 4)),oN 67 (OpK.icall 99 [Opd.t 65,Opd.t 66]),{ d:=none,g:=none,k:=OpK.store 8 (Opd.t 6) (Opd.t 67) }]) ACode.ret)],defs:=[],rnd:=none,ret:=false,res:=[ARes.cell 6 true 8] },{ fn:=49,N:=208,env:=[(3,AV.ptr 49004 0 0 0),(6,AV.ptr 49007 0 0 0),(8,AV.ptr 49009 0 0 0),(12,AV.int .i64 n9),(117,AV.agg (Row.gen [.list (Row.big .str ms), .list (Row.big (.agg [.str, .int .i64]) ks), .list (Row.big (.agg [.str, .int .i64, .int .i64, .int .i64, .int .i64]) rs), .list (Row.big (.agg [.int .i64, .int .i64, .int .i64]) l), .int .i64 wn, .int .i64 fl])),(118,AV.agg (Row.gen [.int .i64 at0, .int .i64 mo,AV.top, .bool ha, .int .i64 ba, .bool to, .row 35011 0, .row 35016 0])),(119,AV.int .i64 n10)],todo:=[AItem.inReg [oN 120 (OpK.icall 98 [Opd.t 117,Opd.t 118,Opd.t 119]),{ d:=none,g:=none,k:=OpK.store 8 (Opd.t 8) (Opd.t 120) }],AItem.inBlock 0, .code (ACode.seq (ACode.reg none [oN 207 (OpK.load true 8 (Opd.t 8)),{ d:=none,g:=none,k:=OpK.store 8 (Opd.t 6) (Opd.t 207) },oN 7 (OpK.mov (cI 0))]) ACode.ret)],defs:=[],rnd:=none,ret:=false,res:=[ARes.cell 6 true 8,ARes.tmp 7] }]
def Zcq(ms ks rs l:List AV)(wn fl at0 mo:Int)(ha:Bool)(ba:Int)(to:Bool)(up:List AV)(n9 n10:Int)(l11 l19:List Int)(x20:List AV)(n21 n22 n23:Int):Zac:=[(35011,{ base:=0,blks:=[Blk.row 3 1 (.ints .i64 l11)] }),(35016,{ base:=0,blks:=[Blk.row 129 2 (Row.big (.agg [.int .i64, .bool]) up)] }),(49004,{ base:=0,blks:=[Blk.row 29 6 (Row.gen [AV.agg (Row.gen [AV.list (Row.big .str ms),AV.list (Row.big (.agg [.str, .int .i64]) ks),AV.list (Row.big (.agg [.str, .int .i64, .int .i64, .int .i64, .int .i64]) rs),AV.list (Row.big (.agg [.int .i64, .int .i64, .int .i64]) l),AV.int .i64 wn,AV.int .i64 fl])])] }),(49007,{ base:=0,blks:=[Blk.row 37 8 (Row.gen [AV.agg (Row.gen [AV.int .i64 0,AV.int .i64 0,AV.nils,AV.bool false,AV.int .i64 0,AV.bool false,AV.nils,AV.nils])])] }),(49009,{ base:=0,blks:=[Blk.row 37 8 (Row.gen [AV.agg (Row.gen [AV.int .i64 at0,AV.int .i64 mo,AV.top,AV.bool ha,AV.int .i64 ba,AV.bool to,AV.row 35011 0,AV.row 35016 0])])] }),(85003,{ base:=0,blks:=[Blk.row 29 6 (Row.gen [AV.agg (Row.gen [AV.list (Row.big .str ms),AV.list (Row.big (.agg [.str, .int .i64]) ks),AV.list (Row.big (.agg [.str, .int .i64, .int .i64, .int .i64, .int .i64]) rs),AV.list (Row.big (.agg [.int .i64, .int .i64, .int .i64]) l),AV.int .i64 wn,AV.int .i64 fl])])] }),(85005,{ base:=0,blks:=[Blk.row 76 3 (Row.gen [AV.agg (Row.gen [AV.int .i64 0,AV.int .i64 0,AV.nils])])] }),(85006,{ base:=0,blks:=[Blk.row 76 3 (Row.gen [AV.agg (Row.gen [AV.int .i64 n22,AV.int .i64 n23,AV.list (.ints .i64 l19)])])] }),(98004,{ base:=0,blks:=[Blk.row 29 6 (Row.gen [AV.agg (Row.gen [AV.list (Row.big .str ms),AV.list (Row.big (.agg [.str, .int .i64]) ks),AV.list (Row.big (.agg [.str, .int .i64, .int .i64, .int .i64, .int .i64]) rs),AV.list (Row.big (.agg [.int .i64, .int .i64, .int .i64]) l),AV.int .i64 wn,AV.int .i64 fl])])] }),(98005,{ base:=0,blks:=[Blk.row 37 8 (Row.gen [AV.agg (Row.gen [AV.int .i64 at0,AV.int .i64 mo,AV.row 98057 0,AV.bool ha,AV.int .i64 ba,AV.bool to,AV.row 35011 0,AV.row 35016 0])])] }),(98007,{ base:=0,blks:=[Blk.row 37 8 (Row.gen [AV.agg (Row.gen [AV.int .i64 0,AV.int .i64 0,AV.nils,AV.bool false,AV.int .i64 0,AV.bool false,AV.nils,AV.nils])])] }),(98057,{ base:=0,blks:=[Blk.row 78 2 (Row.big (.agg [.int .i64, .int .i64]) x20)] })]
abbrev ZfR(ms ks rs l:List AV)(wn fl at0 mo:Int)(ha:Bool)(ba:Int)(to:Bool)(up:List AV)(n9 n10:Int)(l11 l19:List Int)(x20:List AV)(n21 n22 n23:Int):List AFrame×Zac:=(Zc9 ms ks rs l wn fl at0 mo ha ba to up n9 n10 l11 l19 x20 n21 n22 n23,Zcq ms ks rs l wn fl at0 mo ha ba to up n9 n10 l11 l19 x20 n21 n22 n23)
def Zed(A:Ar)(K:KT)(F:FT)(ms ks rs l:List AV)(wn fl at0 mo:Int)(dn:List AV)(ha:Bool)(ba:Int)(to:Bool)(dw:List Int)(up:List AV)(en:Int):Prop:=rB [A.inR .i64 (A.sub (A.int (A.len dw)) 1),Nat.ble (0+A.lenA up) 4294967296,List.all [] fun x=>AV.bx x&&Nat.beq (Zae A x) 2,decide (List.length dw≤1000000),Nat.ble (0+A.lenA dn) 4294967296,List.all [] fun x=>AV.bx x&&Nat.beq (Zae A x) 2] (rB [!A.eq 2 3] (rB [!A.eq 2 5] (bB (A.not (Zab en 0 (A.sub (A.int (A.len dw)) 1))) (F (AV.tup [AV.agg (Row.gen [.int .i64 0, .int .i64 0,AV.nils, .bool false, .int .i64 0, .bool false,AV.nils,AV.nils]),AV.int .i64 6]) (none)) (rB [!A.eq 2 0] (rB [!A.eq 2 1] (rB [A.eq 2 2] (rB [Zag (Nat.ble (A.nat en-0+A.len (A.sub3 dw (A.nat (A.add en 1)) (A.len dw-A.nat (A.add en 1)))) (A.len (A.app (A.app (A.sub3 dw 0 (A.nat en-0)) (A.sub3 dw (A.nat (A.add en 1)) (A.len dw-A.nat (A.add en 1)))) (A.sub3 dw (A.nat en-0+A.len (A.sub3 dw (A.nat (A.add en 1)) (A.len dw-A.nat (A.add en 1)))) (A.len dw))))) true,Zag (Zag (Nat.ble (A.nat (A.add en 1)+(A.len dw-A.nat (A.add en 1))) (A.len dw)) true) (Zag (Nat.ble (A.nat en-0+A.len (A.sub3 dw (A.nat (A.add en 1)) (A.len dw-A.nat (A.add en 1)))) (A.len dw)) (Nat.blt 0 (A.len dw))),Zag (Zag (A.le 0 (A.add en 1)) true) (Zag (Zag (Nat.ble (A.nat (A.add en 1)) (A.len dw)) (Nat.ble (A.len dw) (A.len dw))) true),A.inR .i64 (A.add en 1),Zag (A.le 0 en) (Zag (Zag (Nat.ble 0 (A.nat en)) (Nat.ble (A.nat en) (A.len dw))) true),Zag (Nat.blt (A.nat en) (A.len dw)) true,Zag (A.le 0 en) (Nat.blt (A.nat en) (A.len dw))] (bB (A.not ha) (bB (A.eq (A.nth dw (A.nat en)) (A.int (A.lenA dn))) (rB [decide (List.length ks≤1000000),Zag (Zag (A.le 0 (A.nth dw (A.nat en))) (Nat.blt (A.nat (A.nth dw (A.nat en))) (A.lenA l))) true] (K (ZfO (ms) (ks) (rs) (l) (wn) (fl) (at0) (mo) (dn) (ha) (ba) (to) (up) (A.nth dw (A.nat en)) (A.eq (A.nth dw (A.nat en)) (A.int (A.lenA dn))) (A.nth dw (A.nat en)) ((A.nthA l (A.nat (A.nth dw (A.nat en)))).cellAt 0).toI ((A.nthA l (A.nat (A.nth dw (A.nat en)))).cellAt 1).toI ((A.nthA l (A.nat (A.nth dw (A.nat en)))).cellAt 2).toI ((A.nthA l (A.nat (A.nth dw (A.nat en)))).cellAt 0).toI ((A.nthA l (A.nat (A.nth dw (A.nat en)))).cellAt 1).toI ((A.nthA l (A.nat (A.nth dw (A.nat en)))).cellAt 2).toI (A.nth dw (A.nat en)) (A.nth dw (A.nat en)) (A.sub3 (A.app (A.app (A.sub3 dw 0 (A.nat en-0)) (A.sub3 dw (A.nat (A.add en 1)) (A.len dw-A.nat (A.add en 1)))) (A.sub3 dw (A.nat en-0+A.len (A.sub3 dw (A.nat (A.add en 1)) (A.len dw-A.nat (A.add en 1)))) (A.len dw))) 0 (A.nat en-0+A.len (A.sub3 dw (A.nat (A.add en 1)) (A.len dw-A.nat (A.add en 1))))) (List.replicate (List.length ks) (-1)) ((A.nthA l (A.nat (A.nth dw (A.nat en)))).cellAt 0).toI ((A.nthA l (A.nat (A.nth dw (A.nat en)))).cellAt 1).toI ((A.nthA l (A.nat (A.nth dw (A.nat en)))).cellAt 2).toI (0) (0) (0)))) (bB (A.lt (A.int (A.lenA up)) fl) (rB [Nat.ble (A.lenA up+A.lenA [AV.agg (Row.gen [.int .i64 (A.int (A.lenA dn)), .bool ha])]) 4294967296,List.all [AV.agg (Row.gen [.int .i64 (A.int (A.lenA dn)), .bool ha])] fun x=>AV.bx x&&Nat.beq (Zae A x) 2] (F (AV.tup [AV.agg (Row.gen [AV.int .i64 at0,AV.int .i64 mo,AV.list (Row.big (.agg [.int .i64, .int .i64]) dn),AV.bool ha,AV.int .i64 ba,AV.bool to,AV.list (.ints .i64 (A.sub3 (A.app (A.app (A.sub3 dw 0 (A.nat en-0)) (A.sub3 dw (A.nat (A.add en 1)) (A.len dw-A.nat (A.add en 1)))) (A.sub3 dw (A.nat en-0+A.len (A.sub3 dw (A.nat (A.add en 1)) (A.len dw-A.nat (A.add en 1)))) (A.len dw))) 0 (A.nat en-0+A.len (A.sub3 dw (A.nat (A.add en 1)) (A.len dw-A.nat (A.add en 1)))))),AV.list (Row.big (.agg [.int .i64, .bool]) (A.appA up [AV.agg (Row.gen [AV.int .i64 (A.int (A.lenA dn)),AV.bool ha])]))]),AV.int .i64 0]) (none))) (F (AV.tup [AV.agg (Row.gen [.int .i64 at0, .int .i64 mo, .list (Row.big (.agg [.int .i64, .int .i64]) dn), .bool ha, .int .i64 ba, .bool to, .list (.ints .i64 (A.sub3 (A.app (A.app (A.sub3 dw 0 (A.nat en-0)) (A.sub3 dw (A.nat (A.add en 1)) (A.len dw-A.nat (A.add en 1)))) (A.sub3 dw (A.nat en-0+A.len (A.sub3 dw (A.nat (A.add en 1)) (A.len dw-A.nat (A.add en 1)))) (A.len dw))) 0 (A.nat en-0+A.len (A.sub3 dw (A.nat (A.add en 1)) (A.len dw-A.nat (A.add en 1)))))), .list (Row.big (.agg [.int .i64, .bool]) up)]),AV.int .i64 0]) (none)))) (bB (A.lt (A.int (A.lenA up)) fl) (rB [Nat.ble (A.lenA up+A.lenA [AV.agg (Row.gen [.int .i64 (A.int (A.lenA dn)), .bool ha])]) 4294967296,List.all [AV.agg (Row.gen [.int .i64 (A.int (A.lenA dn)), .bool ha])] fun x=>AV.bx x&&Nat.beq (Zae A x) 2] (F (AV.tup [AV.agg (Row.gen [AV.int .i64 at0,AV.int .i64 mo,AV.list (Row.big (.agg [.int .i64, .int .i64]) dn),AV.bool ha,AV.int .i64 ba,AV.bool to,AV.list (.ints .i64 (A.sub3 (A.app (A.app (A.sub3 dw 0 (A.nat en-0)) (A.sub3 dw (A.nat (A.add en 1)) (A.len dw-A.nat (A.add en 1)))) (A.sub3 dw (A.nat en-0+A.len (A.sub3 dw (A.nat (A.add en 1)) (A.len dw-A.nat (A.add en 1)))) (A.len dw))) 0 (A.nat en-0+A.len (A.sub3 dw (A.nat (A.add en 1)) (A.len dw-A.nat (A.add en 1)))))),AV.list (Row.big (.agg [.int .i64, .bool]) (A.appA up [AV.agg (Row.gen [AV.int .i64 (A.int (A.lenA dn)),AV.bool ha])]))]),AV.int .i64 0]) (none))) (F (AV.tup [AV.agg (Row.gen [.int .i64 at0, .int .i64 mo, .list (Row.big (.agg [.int .i64, .int .i64]) dn), .bool ha, .int .i64 ba, .bool to, .list (.ints .i64 (A.sub3 (A.app (A.app (A.sub3 dw 0 (A.nat en-0)) (A.sub3 dw (A.nat (A.add en 1)) (A.len dw-A.nat (A.add en 1)))) (A.sub3 dw (A.nat en-0+A.len (A.sub3 dw (A.nat (A.add en 1)) (A.len dw-A.nat (A.add en 1)))) (A.len dw))) 0 (A.nat en-0+A.len (A.sub3 dw (A.nat (A.add en 1)) (A.len dw-A.nat (A.add en 1)))))), .list (Row.big (.agg [.int .i64, .bool]) up)]),AV.int .i64 0]) (none)))))))))))
theorem ZtV{A:Ar}{K:KT}{F:FT}{M:MT}{ms ks rs l:List AV}{wn fl at0 mo:Int}{dn:List AV}{ha:Bool}{ba:Int}{to:Bool}{dw:List Int}{up:List AV}{en:Int} :ZaH A tab Bn 49 K F M (.run 83 (.fy (.fy (.fy (.fy (.run 2 (.fy (.run 8 (.ty (.ty (.ty (.run 2 (.tf (.run 7 (.fn)) (.run 13 (.fy (.run 5 (.fy (.run 5 (.ty (.run 30 (.tf (.ty (.ty (.ty (.ty (.ty (.run 2 (.tf (.run 37 (.hd)) (.run 22 (.tf (.run 35 (.fn)) (.run 22 (.fn))))))))))) (.fy (.fy (.fy (.fy (.fy (.run 2 (.fy (.run 22 (.tf (.run 35 (.fn)) (.run 22 (.fn)))))))))))))))))))))))))))))))) (ZzC ms ks rs l wn fl at0 mo dn ha ba to dw up en) []=Zed A K F ms ks rs l wn fl at0 mo dn ha ba to dw up en:=by kernel_rfl
def Zbh(A:Ar)(K:KT)(F:FT)(ms ks rs l:List AV)(wn fl at0 mo:Int)(dn:List AV)(ha:Bool)(ba:Int)(to:Bool)(up:List AV)(n0:Int)(b1:Bool)(n2 n3 n4 n5 n6 n7 n8 n9 n10:Int)(l11 l12:List Int)(n13 n14 n15 n16 n17 n18:Int):Prop:=bB (A.lt n16 (A.int (A.lenA dn))) (rB [A.inR .i64 (A.add n16 1),decide (List.length l12≤1000000∧0≤AV.toI (AV.cellAt (A.nthA l (A.nat n16)) 0)∧AV.toI (AV.cellAt (A.nthA l (A.nat n16)) 0)< ↑(List.length ks)∧AV.toI (AV.cellAt (A.nthA l (A.nat n16)) 0)< ↑(List.length l12)),Zag (Nat.blt (A.nat n16) (A.lenA dn)) true,Zag (A.le 0 n16) (Nat.blt (A.nat n16) (A.lenA dn)),Zag (Zag (A.le 0 n16) (Nat.blt (A.nat n16) (A.lenA l))) true] (K (ZfO (ms) (ks) (rs) (l) (wn) (fl) (at0) (mo) (dn) (ha) (ba) (to) (up) (n0) (b1) (n2) (n3) (n4) (n5) (n6) (n7) (n8) (n9) (n10) (l11) (List.set l12 (Int.toNat ((A.nthA l (A.nat n16)).cellAt 0).toI) ((A.nthA dn (A.nat n16)).cellAt 1).toI) (n13) (n14) (n15) (A.add n16 1) (exM ks n17 ((A.nthA l (A.nat n16)).cellAt 0).toI) ((A.nthA dn (A.nat n16)).cellAt 1).toI))) (bB (Zab at0 n14 n15) (rB [decide (ZbX rs at0 l12=true)] (bB (A.eqS (Zgl rs n17 at0 l12 n13 (List.length rs) 0) []) (rB [decide (List.length ks≤1000000),Nat.ble (A.lenA dn+A.lenA [AV.agg (Row.gen [.int .i64 n0, .int .i64 at0])]) 4294967296,List.all [AV.agg (Row.gen [.int .i64 n0, .int .i64 at0])] fun x=>AV.bx x&&Nat.beq (Zae A x) 2] (K (ZfR (ms) (ks) (rs) (l) (wn) (fl) (at0) (mo) (ha) (ba) (to) (up) (n9) (n10) (l11) (List.replicate (List.length ks) (-1)) (A.appA dn [AV.agg (Row.gen [.int .i64 n0, .int .i64 at0])]) (0) (0) (0)))) (bB (A.lt (A.int (A.lenA up)) fl) (rB [Nat.ble (A.lenA up+A.lenA [AV.agg (Row.gen [.int .i64 (A.int (A.lenA dn)), .bool true])]) 4294967296,List.all [AV.agg (Row.gen [.int .i64 (A.int (A.lenA dn)), .bool true])] fun x=>AV.bx x&&Nat.beq (Zae A x) 2] (F (AV.tup [AV.agg (Row.gen [AV.int .i64 at0,AV.int .i64 mo,AV.list (Row.big (.agg [.int .i64, .int .i64]) dn),AV.bool true,AV.int .i64 ba,AV.bool to,AV.list (.ints .i64 l11),AV.list (Row.big (.agg [.int .i64, .bool]) (A.appA up [AV.agg (Row.gen [AV.int .i64 (A.int (A.lenA dn)),AV.bool true])]))]),AV.int .i64 0]) (none))) (F (AV.tup [AV.agg (Row.gen [.int .i64 at0, .int .i64 mo, .list (Row.big (.agg [.int .i64, .int .i64]) dn), .bool true, .int .i64 ba, .bool to, .list (.ints .i64 l11), .list (Row.big (.agg [.int .i64, .bool]) up)]),AV.int .i64 0]) (none))))) (bB (A.lt (A.int (A.lenA up)) fl) (rB [Nat.ble (A.lenA up+A.lenA [AV.agg (Row.gen [.int .i64 (A.int (A.lenA dn)), .bool true])]) 4294967296,List.all [AV.agg (Row.gen [.int .i64 (A.int (A.lenA dn)), .bool true])] fun x=>AV.bx x&&Nat.beq (Zae A x) 2] (F (AV.tup [AV.agg (Row.gen [AV.int .i64 at0,AV.int .i64 mo,AV.list (Row.big (.agg [.int .i64, .int .i64]) dn),AV.bool true,AV.int .i64 ba,AV.bool to,AV.list (.ints .i64 l11),AV.list (Row.big (.agg [.int .i64, .bool]) (A.appA up [AV.agg (Row.gen [AV.int .i64 (A.int (A.lenA dn)),AV.bool true])]))]),AV.int .i64 0]) (none))) (F (AV.tup [AV.agg (Row.gen [.int .i64 at0, .int .i64 mo, .list (Row.big (.agg [.int .i64, .int .i64]) dn), .bool true, .int .i64 ba, .bool to, .list (.ints .i64 l11), .list (Row.big (.agg [.int .i64, .bool]) up)]),AV.int .i64 0]) (none))))
theorem ZfS{A:Ar}{K:KT}{F:FT}{M:MT}{ms ks rs l:List AV}{wn fl at0 mo:Int}{dn:List AV}{ha:Bool}{ba:Int}{to:Bool}{up:List AV}{n0:Int}{b1:Bool}{n2 n3 n4 n5 n6 n7 n8 n9 n10:Int}{l11 l12:List Int}{n13 n14 n15 n16 n17 n18:Int} :ZaH A tab Bn 49 K F M (.run 9 (.tf (.run 12 (.hd)) (.run 30 (.tf (.ty (.ty (.ty (.ty (.ty (.ty (.ty (.run 2 (.tf (.run 40 (.hd)) (.run 25 (.tf (.run 35 (.fn)) (.run 22 (.fn))))))))))))) (.fy (.fy (.fy (.fy (.fy (.fy (.fy (.run 2 (.fy (.run 25 (.tf (.run 35 (.fn)) (.run 22 (.fn))))))))))))))))) (Zc8 ms ks rs l wn fl at0 mo dn ha ba to up n0 b1 n2 n3 n4 n5 n6 n7 n8 n9 n10 l11 l12 n13 n14 n15 n16 n17 n18) (Zct ms ks rs l wn fl at0 mo dn ha ba to up n0 b1 n2 n3 n4 n5 n6 n7 n8 n9 n10 l11 l12 n13 n14 n15 n16 n17 n18)=Zbh A K F ms ks rs l wn fl at0 mo dn ha ba to up n0 b1 n2 n3 n4 n5 n6 n7 n8 n9 n10 l11 l12 n13 n14 n15 n16 n17 n18:=by kernel_rfl
def Zcp(A:Ar)(K:KT)(F:FT)(ms ks rs l:List AV)(wn fl at0 mo:Int)(ha:Bool)(ba:Int)(to:Bool)(up:List AV)(n9 n10:Int)(l11 l19:List Int)(x20:List AV)(n21 n22 n23:Int):Prop:=bB (A.lt n21 (A.int (A.lenA x20))) (rB [A.inR .i64 (A.add n21 1),decide (List.length l19≤1000000∧0≤AV.toI (AV.cellAt (A.nthA l (A.nat n21)) 0)∧AV.toI (AV.cellAt (A.nthA l (A.nat n21)) 0)< ↑(List.length ks)∧AV.toI (AV.cellAt (A.nthA l (A.nat n21)) 0)< ↑(List.length l19)),Zag (Nat.blt (A.nat n21) (A.lenA x20)) true,Zag (A.le 0 n21) (Nat.blt (A.nat n21) (A.lenA x20)),Zag (Zag (A.le 0 n21) (Nat.blt (A.nat n21) (A.lenA l))) true] (K (ZfR (ms) (ks) (rs) (l) (wn) (fl) (at0) (mo) (ha) (ba) (to) (up) (n9) (n10) (l11) (List.set l19 (Int.toNat ((A.nthA l (A.nat n21)).cellAt 0).toI) ((A.nthA x20 (A.nat n21)).cellAt 1).toI) (x20) (A.add n21 1) (exM ks n22 ((A.nthA l (A.nat n21)).cellAt 0).toI) ((A.nthA x20 (A.nat n21)).cellAt 1).toI))) (bB (A.lt (A.int (A.lenA up)) fl) (rB [Nat.ble (A.lenA up+A.lenA [AV.agg (Row.gen [.int .i64 (A.int (A.lenA x20)), .bool ha])]) 4294967296,List.all [AV.agg (Row.gen [.int .i64 (A.int (A.lenA x20)), .bool ha])] fun x=>AV.bx x&&Nat.beq (Zae A x) 2] (F (AV.tup [AV.agg (Row.gen [AV.int .i64 at0,AV.int .i64 n22,AV.list (Row.big (.agg [.int .i64, .int .i64]) x20),AV.bool ha,AV.int .i64 ba,AV.bool to,AV.list (.ints .i64 l11),AV.list (Row.big (.agg [.int .i64, .bool]) (A.appA up [AV.agg (Row.gen [AV.int .i64 (A.int (A.lenA x20)),AV.bool ha])]))]),AV.int .i64 0]) (none))) (F (AV.tup [AV.agg (Row.gen [.int .i64 at0, .int .i64 n22, .list (Row.big (.agg [.int .i64, .int .i64]) x20), .bool ha, .int .i64 ba, .bool to, .list (.ints .i64 l11), .list (Row.big (.agg [.int .i64, .bool]) up)]),AV.int .i64 0]) (none)))
theorem Zgg{A:Ar}{K:KT}{F:FT}{M:MT}{ms ks rs l:List AV}{wn fl at0 mo:Int}{ha:Bool}{ba:Int}{to:Bool}{up:List AV}{n9 n10:Int}{l11 l19:List Int}{x20:List AV}{n21 n22 n23:Int} :ZaH A tab Bn 49 K F M (.run 9 (.tf (.run 12 (.hd)) (.run 33 (.tf (.run 35 (.fn)) (.run 22 (.fn)))))) (Zc9 ms ks rs l wn fl at0 mo ha ba to up n9 n10 l11 l19 x20 n21 n22 n23) (Zcq ms ks rs l wn fl at0 mo ha ba to up n9 n10 l11 l19 x20 n21 n22 n23)=Zcp A K F ms ks rs l wn fl at0 mo ha ba to up n9 n10 l11 l19 x20 n21 n22 n23:=by kernel_rfl
end Go.Proofs.YtkeoeooghhjibaaGreatDoor
/- Contracts as a list. No condition. -/
namespace Go.Proofs.YtkeoeooghhjibaaGreatDoor
theorem ZlY(l dn:List AV):∀(m i:Nat) (xs:List Int),(Zjg l dn m i xs).length=xs.length
 |0,_,_=>rfl
 |m+1,i,xs=>by rw[Zjg,ZlY l dn m,List.length_set]
theorem ZlN(ks l dn:List AV)(i:Nat):(m0L ks l dn i).length=ks.length:=by unfold m0L;rw[ZlY,List.length_replicate]
theorem Zoi{ms ks rs l:List AV}(hf:OkF ms ks rs l){fl:Int}{s:ST}(hs:VS ks rs l fl s):∀i,i≤s.dn.length→OkT ks (m0T s.dn i) (m0L ks l s.dn i)
 |0,_=>ZJu ks l s.dn
 |i+1,h=>by
  obtain⟨_,b,c,d⟩:=hs.done i (by omega)
  have hw:Zab (Zaj s.dn i 1) (Zaj l i 1) (Zaj l i 2)=true:=by
   unfold Zog at d
   simp only[Bool.and_eq_true]at d
   exact d.1
  exact(okD hf s.dn (Zoi hf hs i (by omega)) hs.t.2 b c hw (by have:=hs.len.1;omega)).2
theorem Zsu{ks rs l:List AV}{fl:Int}{s:ST}(hs:VS ks rs l fl s):m0T s.dn s.dn.length≤s.t:=by
 cases h:s.dn.length with
 |zero=>exact hs.t.1
 |succ i=>exact(hs.done i (by omega)).2.1
section
variable {C:Ctx}(hC:C.P=Tryz.prog)(ms ks rs l:List AV)(wn fl:Int)(hf:OkF ms ks rs l){Q:List AFrame→Zac→Prop}{V:AV}(at0 mo:Int)(dn:List AV)(ha:Bool)(ba:Int)(to:Bool)(up:List AV)
include hC hf
theorem ZzV(n0:Int)(b1:Bool)(n2 n3 n4 n5 n6 n7 n8 n9 n10:Int)(l11:List Int)(n13 n14 n15:Int)(hd:dn.length≤l.length):∀m k:Nat,k+m=dn.length→
 Ev C (Zc8 ms ks rs l wn fl at0 mo dn ha ba to up n0 b1 n2 n3 n4 n5 n6 n7 n8 n9 n10 l11 (m0L ks l dn dn.length) n13 n14 n15 dn.length (m0A ks l dn.length) (m0T dn dn.length)) (Zct ms ks rs l wn fl at0 mo dn ha ba to up n0 b1 n2 n3 n4 n5 n6 n7 n8 n9 n10 l11 (m0L ks l dn dn.length) n13 n14 n15 dn.length (m0A ks l dn.length) (m0T dn dn.length)) (Zd9 49 V none)→
 Ev C (Zc8 ms ks rs l wn fl at0 mo dn ha ba to up n0 b1 n2 n3 n4 n5 n6 n7 n8 n9 n10 l11 (m0L ks l dn k) n13 n14 n15 k (m0A ks l k) (m0T dn k)) (Zct ms ks rs l wn fl at0 mo dn ha ba to up n0 b1 n2 n3 n4 n5 n6 n7 n8 n9 n10 l11 (m0L ks l dn k) n13 n14 n15 k (m0A ks l k) (m0T dn k)) (Zd9 49 V none)
 |0,k,hk,hq=>by
  obtain rfl:k=dn.length:=by omega
  exact hq
 |m+1,k,hk,hq=>by
  have ih:=ZzV n0 b1 n2 n3 n4 n5 n6 n7 n8 n9 n10 l11 n13 n14 n15 hd m (k+1) (by omega) hq
  rw[Zjc,Zgp]at ih
  have et:m0T dn (k+1)=Zaj dn k 1:=rfl
  rw[et]at ih
  have hlt:(k:Int)<dn.length:=by omega
  have hlt2:k<dn.length:=by omega
  have hlt3:k<l.length:=by omega
  have e0:((l.getD k .top).cellAt 0).toI=Zaj l k 0:=rfl
  have e1:((dn.getD k .top).cellAt 1).toI=Zaj dn k 1:=rfl
  obtain⟨⟨a1,a2⟩,_⟩:=hf.act k hlt3
  have hl:=ZlN ks l dn k
  have hk8:=hf.ks1
  have hll:=hf.l1
  refine Zd7 hC ZbQ ZfS ?_
  simp[-List.getD_eq_getElem?_getD,Zbh,hlt,hlt2,hlt3,e0,e1,a1,a2,hl]
  exact⟨by omega,by simpa using ih⟩
theorem ZCW(n9 n10:Int)(l11:List Int)(x20:List AV)(hd:x20.length≤l.length):∀m k:Nat,k+m=x20.length→
 Ev C (Zc9 ms ks rs l wn fl at0 mo ha ba to up n9 n10 l11 (m0L ks l x20 x20.length) x20 x20.length (m0A ks l x20.length) (m0T x20 x20.length)) (Zcq ms ks rs l wn fl at0 mo ha ba to up n9 n10 l11 (m0L ks l x20 x20.length) x20 x20.length (m0A ks l x20.length) (m0T x20 x20.length)) (Zd9 49 V none)→
 Ev C (Zc9 ms ks rs l wn fl at0 mo ha ba to up n9 n10 l11 (m0L ks l x20 k) x20 k (m0A ks l k) (m0T x20 k)) (Zcq ms ks rs l wn fl at0 mo ha ba to up n9 n10 l11 (m0L ks l x20 k) x20 k (m0A ks l k) (m0T x20 k)) (Zd9 49 V none)
 |0,k,hk,hq=>by
  obtain rfl:k=x20.length:=by omega
  exact hq
 |m+1,k,hk,hq=>by
  have ih:=ZCW n9 n10 l11 x20 hd m (k+1) (by omega) hq
  rw[Zjc,Zgp]at ih
  have et:m0T x20 (k+1)=Zaj x20 k 1:=rfl
  rw[et]at ih
  have hlt:(k:Int)<x20.length:=by omega
  have hlt2:k<x20.length:=by omega
  have hlt3:k<l.length:=by omega
  have e0:((l.getD k .top).cellAt 0).toI=Zaj l k 0:=rfl
  have e1:((x20.getD k .top).cellAt 1).toI=Zaj x20 k 1:=rfl
  obtain⟨⟨a1,a2⟩,_⟩:=hf.act k hlt3
  have hl:=ZlN ks l x20 k
  have hk8:=hf.ks1
  have hll:=hf.l1
  refine Zd7 hC ZbQ Zgg ?_
  simp[-List.getD_eq_getElem?_getD,Zcp,hlt,hlt2,hlt3,e0,e1,a1,a2,hl]
  exact⟨by omega,by simpa using ih⟩
end
theorem Zf9{ks rs l:List AV}{fl:Int}{s:ST}{a:Int}(h:¬(s.ha=false∧a=s.dn.length)):ZcL fl (Ze0 ks rs l s a)=ZcL fl s:=by unfold Ze0;rw[if_neg h]
theorem Zfa{ks rs l:List AV}{fl:Int}{s:ST}{a:Int}(h:s.ha=false∧a=s.dn.length)(hn:ZiQ ks rs l s=true):ZcL fl (Ze0 ks rs l s a)=ZcL fl { s with dn:=s.dn++[dnV a s.t],mo:=m0A ks l (s.dn.length+1) } :=by unfold Ze0;rw[if_pos h,if_pos hn]
theorem ZfG{ks rs l:List AV}{fl:Int}{s:ST}{a:Int}(h:s.ha=false∧a=s.dn.length)(hn:¬ZiQ ks rs l s=true):ZcL fl (Ze0 ks rs l s a)=ZcL fl { s with ha:=true } :=by unfold Ze0;rw[if_pos h,if_neg hn]
theorem Zb8{fl:Int}{s:ST}(h:(s.up.length:Int)<fl):ZcL fl s= { s with up:=s.up++[upV s.dn.length s.ha] } :=by unfold ZcL ZBe;rw[if_pos h]
theorem ZdE{fl:Int}{s:ST}(h:¬(s.up.length:Int)<fl):ZcL fl s=s:=by unfold ZcL ZBe;rw[if_neg h]
theorem ZEc(ms ks rs l:List AV)(wn fl:Int)(at0 mo:Int)(dn:List AV)(ha:Bool)(ba:Int)(to:Bool)(dw:List Int)(up:List AV)(en:Int)(h:OkA ms ks rs l wn fl ⟨at0,mo,dn,ha,ba,to,dw,up⟩ 2 en):Zao Tryz.prog 49 [.agg (.gen [.list (.big .str ms), .list (.big (.agg [.str, .int .i64]) ks), .list (.big (.agg [.str, .int .i64, .int .i64, .int .i64, .int .i64]) rs), .list (.big (.agg [.int .i64, .int .i64, .int .i64]) l), .int .i64 wn, .int .i64 fl]), .agg (.gen [.int .i64 at0, .int .i64 mo, .list (.big (.agg [.int .i64, .int .i64]) dn), .bool ha, .int .i64 ba, .bool to, .list (.ints .i64 dw), .list (.big (.agg [.int .i64, .bool]) up)]), .agg (.gen [.int .i64 2, .int .i64 en])] (ZnD (Zbz ks rs l wn fl ⟨at0,mo,dn,ha,ba,to,dw,up⟩ 2 en) (ZaR l wn fl ⟨at0,mo,dn,ha,ba,to,dw,up⟩ 2 en)) none:=
 Zdf (ZoD ms ks rs l wn fl at0 mo dn ha ba to dw up en) fun C hC=>Zd7 hC ZbQ ZtV (by
  obtain⟨g0,g1,g2,g3,g4,g5,g6,g7⟩:=Zdh h
  obtain⟨hf,_,_⟩:=ZdP h.u
  have hvs:=vs_iff.1 h.s
  have hv:=Zqs (by omega) h.e
  by_cases h1:en<dw.length
  ·have h2:Zab en 0 ((dw.length:Int)-1)=true:=within_iff.2 (by omega)
   obtain⟨c1,c2⟩:=Zqq dw en hv.1 h1
   have hmem:=hvs.down _ (Zey (d:=0) c2)
   have hcut:dw.take en.toNat++dw.drop (en.toNat+1)=Zbm dw en:=rfl
   generalize hact:dw.getD en.toNat 0=act at*
   cases ha
   ·by_cases h4:act=(dn.length:Int)
    ·have hdl:dn.length<l.length:=by omega
     have h4':(act=(dn.length:Int))=True:=eq_true h4
     have m1:act.toNat=dn.length:=by omega
     have e2:∀i,((l.getD dn.length .top).cellAt i).toI=Zaj l dn.length i:=fun i=>rfl
     have hk8:=hf.ks1
     have hT:=Zoi hf hvs dn.length (Nat.le_refl _)
     have hfn:=Zn2 (rs:=rs) (a:=m0A ks l dn.length) (t:=at0) (xs:=m0L ks l dn dn.length) (c:=Zaj l dn.length 0) fun j hj=>ZoV (hf.name j hj)
     have hnx:ZiQ ks rs l ⟨at0,mo,dn,false,ba,to,Zbm dw en,up⟩=(Zab at0 (Zaj l dn.length 1) (Zaj l dn.length 2)&&Zdg rs (m0A ks l dn.length) at0 (m0L ks l dn dn.length) (Zaj l dn.length 0)):=rfl
     simp[-List.getD_eq_getElem?_getD,Zed,h2,c1,c2,hact,ZrX _ _ c2,h4',m1,e2,hcut]
     refine⟨by omega,by omega,⟨by omega,by omega,hdl⟩,?_⟩
     refine ZzV hC ms ks rs l wn fl hf at0 mo dn false ba to up act true act _ _ _ _ _ _ act act (Zbm dw en) _ _ _ g0.2 dn.length 0 (by omega) ?_
     refine Zd7 hC ZbQ ZfS ?_
     by_cases hw:Zab at0 (Zaj l dn.length 1) (Zaj l dn.length 2)=true
     ·have hfb:=hT.forb (ms:=ms) (l:=l) hf (Zsu hvs) hvs.t.2
      have hfb:ZbX rs at0 (m0L ks l dn dn.length)=true:=hfb
      by_cases hn:Zdg rs (m0A ks l dn.length) at0 (m0L ks l dn dn.length) (Zaj l dn.length 0)=true
      ·have h6:=hfn.2 hn
       have hnx2:ZiQ ks rs l ⟨at0,mo,dn,false,ba,to,Zbm dw en,up⟩=true:=by rw[hnx,hw,hn];rfl
       simp[-List.getD_eq_getElem?_getD,Zbh,hw,hfb,h6,AV.bx,Zae,Zps]
       refine⟨by omega,?_⟩
       have hxl:(dn++[dnV act at0]).length=dn.length+1:=by simp
       refine ZCW hC ms ks rs l wn fl hf at0 mo false ba to up act act (Zbm dw en) (dn++[dnV act at0]) (by omega) (dn++[dnV act at0]).length 0 (by omega) ?_
       refine Zd7 hC ZbQ Zgg ?_
       by_cases h5:(up.length:Int)<fl
       ·have hr:=Zbd (ks:=ks) (rs:=rs) (l:=l) (wn:=wn) (fl:=fl) (s:=⟨at0,mo,dn,false,ba,to,dw,up⟩) (k:=2) (n:=en) (by simp[ZaR,h1]) (((show appS ks rs l fl ⟨at0,mo,dn,false,ba,to,dw,up⟩ 2 en=ZcL fl (Ze0 ks rs l ⟨at0,mo,dn,false,ba,to,Zbm dw en,up⟩ act) by rw[←hact];rfl).trans (Zfa ⟨rfl,h4⟩ hnx2)).trans (Zb8 h5))
        simp[-List.getD_eq_getElem?_getD,Zcp,h5,AV.bx,Zae,Zn7]
        have e9:upV (((dn++[dnV act at0]).length:Nat):Int) false=.agg (.gen [.int .i64 (dn.length+1), .bool false]):=by simp[upV]
        rw[←e9]
        exact⟨by omega,hr⟩
       ·have hr:=Zbd (ks:=ks) (rs:=rs) (l:=l) (wn:=wn) (fl:=fl) (s:=⟨at0,mo,dn,false,ba,to,dw,up⟩) (k:=2) (n:=en) (by simp[ZaR,h1]) (((show appS ks rs l fl ⟨at0,mo,dn,false,ba,to,dw,up⟩ 2 en=ZcL fl (Ze0 ks rs l ⟨at0,mo,dn,false,ba,to,Zbm dw en,up⟩ act) by rw[←hact];rfl).trans (Zfa ⟨rfl,h4⟩ hnx2)).trans (ZdE h5))
        simp[-List.getD_eq_getElem?_getD,Zcp,h5]
        exact hr
      ·have h6:¬Zgl rs (m0A ks l dn.length) at0 (m0L ks l dn dn.length) (Zaj l dn.length 0) rs.length 0=[]:=fun hh=>hn (hfn.1 hh)
       have hnx2:¬ZiQ ks rs l ⟨at0,mo,dn,false,ba,to,Zbm dw en,up⟩=true:=by rw[hnx,hw,Bool.true_and];exact hn
       by_cases h5:(up.length:Int)<fl
       ·have hr:=Zbd (ks:=ks) (rs:=rs) (l:=l) (wn:=wn) (fl:=fl) (s:=⟨at0,mo,dn,false,ba,to,dw,up⟩) (k:=2) (n:=en) (by simp[ZaR,h1]) (((show appS ks rs l fl ⟨at0,mo,dn,false,ba,to,dw,up⟩ 2 en=ZcL fl (Ze0 ks rs l ⟨at0,mo,dn,false,ba,to,Zbm dw en,up⟩ act) by rw[←hact];rfl).trans (ZfG ⟨rfl,h4⟩ hnx2)).trans (Zb8 h5))
        simp[-List.getD_eq_getElem?_getD,Zbh,hw,hfb,h6,h5,AV.bx,Zae,Zn7]
        exact⟨by omega,hr⟩
       ·have hr:=Zbd (ks:=ks) (rs:=rs) (l:=l) (wn:=wn) (fl:=fl) (s:=⟨at0,mo,dn,false,ba,to,dw,up⟩) (k:=2) (n:=en) (by simp[ZaR,h1]) (((show appS ks rs l fl ⟨at0,mo,dn,false,ba,to,dw,up⟩ 2 en=ZcL fl (Ze0 ks rs l ⟨at0,mo,dn,false,ba,to,Zbm dw en,up⟩ act) by rw[←hact];rfl).trans (ZfG ⟨rfl,h4⟩ hnx2)).trans (ZdE h5))
        simp[-List.getD_eq_getElem?_getD,Zbh,hw,hfb,h6,h5]
        exact hr
     ·have hnx2:¬ZiQ ks rs l ⟨at0,mo,dn,false,ba,to,Zbm dw en,up⟩=true:=by
       rw[hnx,Bool.and_eq_true];exact fun hh=>hw hh.1
      by_cases h5:(up.length:Int)<fl
      ·have hr:=Zbd (ks:=ks) (rs:=rs) (l:=l) (wn:=wn) (fl:=fl) (s:=⟨at0,mo,dn,false,ba,to,dw,up⟩) (k:=2) (n:=en) (by simp[ZaR,h1]) (((show appS ks rs l fl ⟨at0,mo,dn,false,ba,to,dw,up⟩ 2 en=ZcL fl (Ze0 ks rs l ⟨at0,mo,dn,false,ba,to,Zbm dw en,up⟩ act) by rw[←hact];rfl).trans (ZfG ⟨rfl,h4⟩ hnx2)).trans (Zb8 h5))
       simp[-List.getD_eq_getElem?_getD,Zbh,hw,h5,AV.bx,Zae,Zn7]
       exact⟨by omega,hr⟩
      ·have hr:=Zbd (ks:=ks) (rs:=rs) (l:=l) (wn:=wn) (fl:=fl) (s:=⟨at0,mo,dn,false,ba,to,dw,up⟩) (k:=2) (n:=en) (by simp[ZaR,h1]) (((show appS ks rs l fl ⟨at0,mo,dn,false,ba,to,dw,up⟩ 2 en=ZcL fl (Ze0 ks rs l ⟨at0,mo,dn,false,ba,to,Zbm dw en,up⟩ act) by rw[←hact];rfl).trans (ZfG ⟨rfl,h4⟩ hnx2)).trans (ZdE h5))
       simp[-List.getD_eq_getElem?_getD,Zbh,hw,h5]
       exact hr
    ·have h3:¬(false=false∧act=(dn.length:Int)):=fun hh=>h4 hh.2
     by_cases h5:(up.length:Int)<fl
     ·have hr:=Zbd (ks:=ks) (rs:=rs) (l:=l) (wn:=wn) (fl:=fl) (s:=⟨at0,mo,dn,false,ba,to,dw,up⟩) (k:=2) (n:=en) (by simp[ZaR,h1]) (((show appS ks rs l fl ⟨at0,mo,dn,false,ba,to,dw,up⟩ 2 en=ZcL fl (Ze0 ks rs l ⟨at0,mo,dn,false,ba,to,Zbm dw en,up⟩ act) by rw[←hact];rfl).trans (Zf9 h3)).trans (Zb8 h5))
      simp[-List.getD_eq_getElem?_getD,Zed,h2,c1,c2,hact,ZrX _ _ c2,h4,h5,AV.bx,Zae,Zn7]
      exact⟨by omega,by omega,by omega,hr⟩
     ·have hr:=Zbd (ks:=ks) (rs:=rs) (l:=l) (wn:=wn) (fl:=fl) (s:=⟨at0,mo,dn,false,ba,to,dw,up⟩) (k:=2) (n:=en) (by simp[ZaR,h1]) (((show appS ks rs l fl ⟨at0,mo,dn,false,ba,to,dw,up⟩ 2 en=ZcL fl (Ze0 ks rs l ⟨at0,mo,dn,false,ba,to,Zbm dw en,up⟩ act) by rw[←hact];rfl).trans (Zf9 h3)).trans (ZdE h5))
      simp[-List.getD_eq_getElem?_getD,Zed,h2,c1,c2,hact,ZrX _ _ c2,h4,h5]
      exact⟨by omega,by omega,hr⟩
   ·have h3:¬(true=false∧act=(dn.length:Int)):=fun hh=>by cases hh.1
    by_cases h5:(up.length:Int)<fl
    ·have hr:=Zbd (ks:=ks) (rs:=rs) (l:=l) (wn:=wn) (fl:=fl) (s:=⟨at0,mo,dn,true,ba,to,dw,up⟩) (k:=2) (n:=en) (by simp[ZaR,h1]) (((show appS ks rs l fl ⟨at0,mo,dn,true,ba,to,dw,up⟩ 2 en=ZcL fl (Ze0 ks rs l ⟨at0,mo,dn,true,ba,to,Zbm dw en,up⟩ act) by rw[←hact];rfl).trans (Zf9 h3)).trans (Zb8 h5))
     simp[-List.getD_eq_getElem?_getD,Zed,h2,c1,c2,hact,ZrX _ _ c2,h5,AV.bx,Zae,Zn7]
     exact⟨by omega,by omega,by omega,hr⟩
    ·have hr:=Zbd (ks:=ks) (rs:=rs) (l:=l) (wn:=wn) (fl:=fl) (s:=⟨at0,mo,dn,true,ba,to,dw,up⟩) (k:=2) (n:=en) (by simp[ZaR,h1]) (((show appS ks rs l fl ⟨at0,mo,dn,true,ba,to,dw,up⟩ 2 en=ZcL fl (Ze0 ks rs l ⟨at0,mo,dn,true,ba,to,Zbm dw en,up⟩ act) by rw[←hact];rfl).trans (Zf9 h3)).trans (ZdE h5))
     simp[-List.getD_eq_getElem?_getD,Zed,h2,c1,c2,hact,ZrX _ _ c2,h5]
     exact⟨by omega,by omega,hr⟩
  ·have hr:=Zby (ks:=ks) (rs:=rs) (l:=l) (wn:=wn) (fl:=fl) (s:=⟨at0,mo,dn,ha,ba,to,dw,up⟩) (k:=2) (n:=en) (e:=6) (by simp[ZaR,h1]) (by decide)
   have h2:¬Zab en 0 ((dw.length:Int)-1)=true:=fun hh=>h1 (by have:=within_iff.1 hh;omega)
   simp[Zed,h2]
   exact⟨by omega,hr⟩)
theorem ZiD(ms ks rs l:List AV)(wn fl:Int)(at0 mo:Int)(dn:List AV)(ha:Bool)(ba:Int)(to:Bool)(dw:List Int)(up:List AV)(ek en:Int)(h:OkA ms ks rs l wn fl ⟨at0,mo,dn,ha,ba,to,dw,up⟩ ek en):Zao Tryz.prog 49 [.agg (.gen [.list (.big .str ms), .list (.big (.agg [.str, .int .i64]) ks), .list (.big (.agg [.str, .int .i64, .int .i64, .int .i64, .int .i64]) rs), .list (.big (.agg [.int .i64, .int .i64, .int .i64]) l), .int .i64 wn, .int .i64 fl]), .agg (.gen [.int .i64 at0, .int .i64 mo, .list (.big (.agg [.int .i64, .int .i64]) dn), .bool ha, .int .i64 ba, .bool to, .list (.ints .i64 dw), .list (.big (.agg [.int .i64, .bool]) up)]), .agg (.gen [.int .i64 ek, .int .i64 en])] (ZnD (Zbz ks rs l wn fl ⟨at0,mo,dn,ha,ba,to,dw,up⟩ ek en) (ZaR l wn fl ⟨at0,mo,dn,ha,ba,to,dw,up⟩ ek en)) none:=by
 have hk:0≤ek∧ek≤8:=by
  have:=h.e
  unfold evE at this
  split at this
  ·rename_i hw;exact within_iff.1 hw
  ·cases this
 rcases show ek=0∨ek=1∨ek=2∨ek=3∨ek=4∨ek=5∨ek=6∨ek=7∨ek=8 by omega with rfl |rfl |rfl |rfl |rfl |rfl |rfl |rfl |rfl
 ·exact ZDn _ _ _ _ _ _ _ _ _ _ _ _ _ _ _ h
 ·exact ZER _ _ _ _ _ _ _ _ _ _ _ _ _ _ _ h
 ·exact ZEc _ _ _ _ _ _ _ _ _ _ _ _ _ _ _ h
 ·exact ZFL _ _ _ _ _ _ _ _ _ _ _ _ _ _ _ h
 ·exact ZEW _ _ _ _ _ _ _ _ _ _ _ _ _ _ _ h
 ·exact ZEU _ _ _ _ _ _ _ _ _ _ _ _ _ _ _ h
 ·exact ZFd _ _ _ _ _ _ _ _ _ _ _ _ _ _ _ h
 ·exact ZEo _ _ _ _ _ _ _ _ _ _ _ _ _ _ _ h
 ·exact ZE5 _ _ _ _ _ _ _ _ _ _ _ _ _ _ _ h
def okA(ms ks rs l:List AV)(wn fl:Int)(s:ST)(k n:Int):Bool:=decide (upE ms ks rs l wn fl=0∧stE ks rs l fl s.t s.mo s.dn s.ha s.ba s.to s.dw s.up=0∧evE k n=0)
def k49:Ctr:=⟨49,0,fun _ a=>match a with |[.agg (.gen [.list (.big .str ms), .list (.big (.agg [.str, .int .i64]) ks), .list (.big (.agg [.str, .int .i64, .int .i64, .int .i64, .int .i64]) rs), .list (.big (.agg [.int .i64, .int .i64, .int .i64]) l), .int .i64 wn, .int .i64 fl]), .agg (.gen [.int .i64 at0, .int .i64 mo, .list (.big (.agg [.int .i64, .int .i64]) dn), .bool ha, .int .i64 ba, .bool to, .list (.ints .i64 dw), .list (.big (.agg [.int .i64, .bool]) up)]), .agg (.gen [.int .i64 ek, .int .i64 en])]=>some (decide (okA ms ks rs l wn fl ⟨at0,mo,dn,ha,ba,to,dw,up⟩ ek en=true), .tup [.agg (.gen [.int .i64 (Zbz ks rs l wn fl ⟨at0,mo,dn,ha,ba,to,dw,up⟩ ek en).t, .int .i64 (Zbz ks rs l wn fl ⟨at0,mo,dn,ha,ba,to,dw,up⟩ ek en).mo, .list (.big (.agg [.int .i64, .int .i64]) (Zbz ks rs l wn fl ⟨at0,mo,dn,ha,ba,to,dw,up⟩ ek en).dn), .bool (Zbz ks rs l wn fl ⟨at0,mo,dn,ha,ba,to,dw,up⟩ ek en).ha, .int .i64 (Zbz ks rs l wn fl ⟨at0,mo,dn,ha,ba,to,dw,up⟩ ek en).ba, .bool (Zbz ks rs l wn fl ⟨at0,mo,dn,ha,ba,to,dw,up⟩ ek en).to, .list (.ints .i64 (Zbz ks rs l wn fl ⟨at0,mo,dn,ha,ba,to,dw,up⟩ ek en).dw), .list (.big (.agg [.int .i64, .bool]) (Zbz ks rs l wn fl ⟨at0,mo,dn,ha,ba,to,dw,up⟩ ek en).up)]), .int .i64 (ZaR l wn fl ⟨at0,mo,dn,ha,ba,to,dw,up⟩ ek en)],none) |_=>none⟩
theorem ZxG:k49.OK Tryz.prog:=fun pa args r fr h=>by
 simp only[k49]at h
 split at h
 ·simp only[Option.some.injEq,Prod.mk.injEq,decide_eq_true_eq]at h
  obtain⟨h0,rfl,rfl⟩:=h
  exact ZiD _ _ _ _ _ _ _ _ _ _ _ _ _ _ _ _ ((of_decide_eq_true h0).elim fun a b=>⟨a,b.1,b.2⟩)
 ·cases h
def Bp:List Ctr:=[k49]++Bn
theorem ZEb:ZaD Tryz.prog Bp:=⟨ZxG,ZbQ⟩
end Go.Proofs.YtkeoeooghhjibaaGreatDoor
/- Contracts as a list. No condition. -/
namespace Go.Proofs.YtkeoeooghhjibaaGreatDoor
def Bq:List Ctr:=Bp
theorem ZFj:ZaD Tryz.prog Bq:=ZEb
end Go.Proofs.YtkeoeooghhjibaaGreatDoor
/- Contracts as a list. No condition. -/
namespace Go.Proofs.YtkeoeooghhjibaaGreatDoor
theorem Zsp{ms ks rs l:List AV}{wn fl:Int}{s:ST}{k n:Int}(h1:upE ms ks rs l wn fl=0)(h2:stE ks rs l fl s.t s.mo s.dn s.ha s.ba s.to s.dw s.up=0)(h3:evE k n=0):okA ms ks rs l wn fl s k n=true:=decide_eq_true ⟨h1,h2,h3⟩
section
variable {C:Ctx}(hC:C.P=Tryz.prog)(ms ks rs l:List AV)(wn fl:Int)(at0 mo:Int)(dn:List AV)(ha:Bool)(ba:Int)(to:Bool)(dw:List Int)(up:List AV)(h1:upE ms ks rs l wn fl=0)(h2:stE ks rs l fl at0 mo dn ha ba to dw up=0)
include hC h1 h2
end
def Br:List Ctr:=Bq
theorem ZEy:ZaD Tryz.prog Br:=ZFj
end Go.Proofs.YtkeoeooghhjibaaGreatDoor
/- Contracts as a list. No condition. -/
namespace Go.Proofs.YtkeoeooghhjibaaGreatDoor
theorem Zq8(ms ks rs l:List AV)(wn fl:Int)(at0 mo:Int)(ha:Bool)(ba:Int)(to:Bool)(ek en:Int)(h:okA ms ks rs l wn fl ⟨at0,mo,[],ha,ba,to,[],[]⟩ ek en=true):Zao Tryz.prog 49 [.agg (.gen [.list (.big .str ms), .list (.big (.agg [.str, .int .i64]) ks), .list (.big (.agg [.str, .int .i64, .int .i64, .int .i64, .int .i64]) rs), .list (.big (.agg [.int .i64, .int .i64, .int .i64]) l), .int .i64 wn, .int .i64 fl]), .agg (.gen [.int .i64 at0, .int .i64 mo, .nils, .bool ha, .int .i64 ba, .bool to, .nils, .nils]), .agg (.gen [.int .i64 ek, .int .i64 en])] (.tup [.agg (.gen [.int .i64 (Zbz ks rs l wn fl ⟨at0,mo,[],ha,ba,to,[],[]⟩ ek en).t, .int .i64 (Zbz ks rs l wn fl ⟨at0,mo,[],ha,ba,to,[],[]⟩ ek en).mo, .list (.big (.agg [.int .i64, .int .i64]) (Zbz ks rs l wn fl ⟨at0,mo,[],ha,ba,to,[],[]⟩ ek en).dn), .bool (Zbz ks rs l wn fl ⟨at0,mo,[],ha,ba,to,[],[]⟩ ek en).ha, .int .i64 (Zbz ks rs l wn fl ⟨at0,mo,[],ha,ba,to,[],[]⟩ ek en).ba, .bool (Zbz ks rs l wn fl ⟨at0,mo,[],ha,ba,to,[],[]⟩ ek en).to, .list (.ints .i64 (Zbz ks rs l wn fl ⟨at0,mo,[],ha,ba,to,[],[]⟩ ek en).dw), .list (.big (.agg [.int .i64, .bool]) (Zbz ks rs l wn fl ⟨at0,mo,[],ha,ba,to,[],[]⟩ ek en).up)]), .int .i64 (ZaR l wn fl ⟨at0,mo,[],ha,ba,to,[],[]⟩ ek en)]) none:=
 Zgy (ZiD ms ks rs l wn fl at0 mo [] ha ba to [] [] ek en ((of_decide_eq_true h).elim fun a b=>⟨a,b.1,b.2⟩)) ⟨.same _,Wk.agg' ⟨.same _, .same _, .nil _ rfl, .same _, .same _, .same _, .nil _ rfl, .nil _ rfl,trivial⟩, .same _,trivial⟩
def k49z:Ctr:=⟨49,0,fun _ a=>match a with |[.agg (.gen [.list (.big .str ms), .list (.big (.agg [.str, .int .i64]) ks), .list (.big (.agg [.str, .int .i64, .int .i64, .int .i64, .int .i64]) rs), .list (.big (.agg [.int .i64, .int .i64, .int .i64]) l), .int .i64 wn, .int .i64 fl]), .agg (.gen [.int .i64 at0, .int .i64 mo, .nils, .bool ha, .int .i64 ba, .bool to, .nils, .nils]), .agg (.gen [.int .i64 ek, .int .i64 en])]=>some (decide (okA ms ks rs l wn fl ⟨at0,mo,[],ha,ba,to,[],[]⟩ ek en=true), .tup [.agg (.gen [.int .i64 (Zbz ks rs l wn fl ⟨at0,mo,[],ha,ba,to,[],[]⟩ ek en).t, .int .i64 (Zbz ks rs l wn fl ⟨at0,mo,[],ha,ba,to,[],[]⟩ ek en).mo, .list (.big (.agg [.int .i64, .int .i64]) (Zbz ks rs l wn fl ⟨at0,mo,[],ha,ba,to,[],[]⟩ ek en).dn), .bool (Zbz ks rs l wn fl ⟨at0,mo,[],ha,ba,to,[],[]⟩ ek en).ha, .int .i64 (Zbz ks rs l wn fl ⟨at0,mo,[],ha,ba,to,[],[]⟩ ek en).ba, .bool (Zbz ks rs l wn fl ⟨at0,mo,[],ha,ba,to,[],[]⟩ ek en).to, .list (.ints .i64 (Zbz ks rs l wn fl ⟨at0,mo,[],ha,ba,to,[],[]⟩ ek en).dw), .list (.big (.agg [.int .i64, .bool]) (Zbz ks rs l wn fl ⟨at0,mo,[],ha,ba,to,[],[]⟩ ek en).up)]), .int .i64 (ZaR l wn fl ⟨at0,mo,[],ha,ba,to,[],[]⟩ ek en)],none) |_=>none⟩
theorem Zw4:k49z.OK Tryz.prog:=fun pa args r fr h=>by
 simp only[k49z]at h
 split at h
 ·simp only[Option.some.injEq,Prod.mk.injEq,decide_eq_true_eq]at h
  obtain⟨h0,rfl,rfl⟩:=h
  exact Zq8 _ _ _ _ _ _ _ _ _ _ _ _ _ h0
 ·cases h
def Bu:List Ctr:=[k49z]++Br
theorem ZpJ:ZaD Tryz.prog Bu:=⟨Zw4,ZEy⟩
end Go.Proofs.YtkeoeooghhjibaaGreatDoor
/- Paths of functions, printed by the explorer (Gx). No condition. -/
namespace Go.Proofs.YtkeoeooghhjibaaGreatDoor
set_option maxRecDepth 100000
set_option linter.unusedVariables false
def ZBW(ms ks rs l:List AV)(wn fl:Int)(vs:List AV):AFrame:={ fn:=20,N:=47,env:=[(0,AV.agg (Row.gen [.list (Row.big .str ms), .list (Row.big (.agg [.str, .int .i64]) ks), .list (Row.big (.agg [.str, .int .i64, .int .i64, .int .i64, .int .i64]) rs), .list (Row.big (.agg [.int .i64, .int .i64, .int .i64]) l), .int .i64 wn, .int .i64 fl])),(1,AV.list (Row.big (.agg [.int .i64, .int .i64]) vs))],todo:=[.code a20.code],defs:=[],rnd:=none,ret:=false,res:=[ARes.cell 4 true 8,ARes.tmp 5,ARes.tmp 6] }
def ZJr(ms ks rs l:List AV)(wn fl:Int)(vs:List AV):List AFrame:=[(ZBW ms ks rs l wn fl vs)]
theorem Zt3(ms ks rs l:List AV)(wn fl:Int)(vs:List AV):Zar tab 20 [AV.agg (Row.gen [.list (Row.big .str ms), .list (Row.big (.agg [.str, .int .i64]) ks), .list (Row.big (.agg [.str, .int .i64, .int .i64, .int .i64, .int .i64]) rs), .list (Row.big (.agg [.int .i64, .int .i64, .int .i64]) l), .int .i64 wn, .int .i64 fl]),AV.list (Row.big (.agg [.int .i64, .int .i64]) vs)]=some (ZBW ms ks rs l wn fl vs):=rfl
def ZjY(ms ks rs l:List AV)(wn fl:Int)(vs:List AV):List AFrame:=[{ fn:=20,N:=47,env:=[(1,AV.list (Row.big (.agg [.int .i64, .int .i64]) vs)),(2,AV.ptr 20003 0 0 0),(4,AV.ptr 20005 0 0 0),(7,AV.ptr 20008 0 0 0),(8,AV.int .i64 0)],todo:=.code (ACode.gh [] ZwW)::Zyp,defs:=[],rnd:=none,ret:=false,res:=[ARes.cell 4 true 8,ARes.tmp 5,ARes.tmp 6] }]
def Zh8(ms ks rs l:List AV)(wn fl:Int)(vs:List AV):Zac:=[(20003,{ base:=0,blks:=[Blk.row 29 6 (Row.gen [AV.agg (Row.gen [AV.list (Row.big .str ms),AV.list (Row.big (.agg [.str, .int .i64]) ks),AV.list (Row.big (.agg [.str, .int .i64, .int .i64, .int .i64, .int .i64]) rs),AV.list (Row.big (.agg [.int .i64, .int .i64, .int .i64]) l),AV.int .i64 wn,AV.int .i64 fl])])] }),(20005,{ base:=0,blks:=[Blk.row 37 8 (Row.gen [AV.agg (Row.gen [AV.int .i64 0,AV.int .i64 0,AV.nils,AV.bool false,AV.int .i64 0,AV.bool false,AV.nils,AV.nils])])] }),(20008,{ base:=0,blks:=[Blk.row 37 8 (Row.gen [AV.agg (Row.gen [AV.int .i64 0,AV.int .i64 0,AV.nils,AV.bool false,AV.int .i64 0,AV.bool false,AV.nils,AV.nils])])] })]
abbrev Zni(ms ks rs l:List AV)(wn fl:Int)(vs:List AV):List AFrame×Zac:=(ZjY ms ks rs l wn fl vs,Zh8 ms ks rs l wn fl vs)
def Zhb(ms ks rs l:List AV)(wn fl:Int)(vs:List AV)(n0 n1 n2:Int)(x3:List AV)(b4:Bool)(n5:Int)(b6:Bool)(l7:List Int)(x8:List AV):List AFrame:=[{ fn:=20,N:=47,env:=[(1,AV.list (Row.big (.agg [.int .i64, .int .i64]) vs)),(2,AV.ptr 20003 0 0 0),(4,AV.ptr 20005 0 0 0),(7,AV.ptr 20008 0 0 0),(8,AV.int .i64 n0)],todo:=.code (ACode.gh [] ZwW)::Zyp,defs:=[],rnd:=none,ret:=false,res:=[ARes.cell 4 true 8,ARes.tmp 5,ARes.tmp 6] }]
def Zfm(ms ks rs l:List AV)(wn fl:Int)(vs:List AV)(n0 n1 n2:Int)(x3:List AV)(b4:Bool)(n5:Int)(b6:Bool)(l7:List Int)(x8:List AV):Zac:=[(20003,{ base:=0,blks:=[Blk.row 29 6 (Row.gen [AV.agg (Row.gen [AV.list (Row.big .str ms),AV.list (Row.big (.agg [.str, .int .i64]) ks),AV.list (Row.big (.agg [.str, .int .i64, .int .i64, .int .i64, .int .i64]) rs),AV.list (Row.big (.agg [.int .i64, .int .i64, .int .i64]) l),AV.int .i64 wn,AV.int .i64 fl])])] }),(20005,{ base:=0,blks:=[Blk.row 37 8 (Row.gen [AV.agg (Row.gen [AV.int .i64 0,AV.int .i64 0,AV.nils,AV.bool false,AV.int .i64 0,AV.bool false,AV.nils,AV.nils])])] }),(20008,{ base:=0,blks:=[Blk.row 37 8 (Row.gen [AV.agg (Row.gen [AV.int .i64 n1,AV.int .i64 n2,AV.list (Row.big (.agg [.int .i64, .int .i64]) x3),AV.bool b4,AV.int .i64 n5,AV.bool b6,AV.list (.ints .i64 l7),AV.list (Row.big (.agg [.int .i64, .bool]) x8)])])] })]
abbrev ZhJ(ms ks rs l:List AV)(wn fl:Int)(vs:List AV)(n0 n1 n2:Int)(x3:List AV)(b4:Bool)(n5:Int)(b6:Bool)(l7:List Int)(x8:List AV):List AFrame×Zac:=(Zhb ms ks rs l wn fl vs n0 n1 n2 x3 b4 n5 b6 l7 x8,Zfm ms ks rs l wn fl vs n0 n1 n2 x3 b4 n5 b6 l7 x8)
def Zti(A:Ar)(K:KT)(F:FT)(ms ks rs l:List AV)(wn fl:Int)(vs:List AV):Prop:=bB (A.lt 200 (A.int (A.lenA vs))) (F (AV.tup [AV.agg (Row.gen [.int .i64 0, .int .i64 0,AV.nils, .bool false, .int .i64 0, .bool false,AV.nils,AV.nils]),AV.int .i64 0,AV.int .i64 8]) (none)) (K (Zni (ms) (ks) (rs) (l) (wn) (fl) (vs)))
theorem ZDT{A:Ar}{K:KT}{F:FT}{M:MT}{ms ks rs l:List AV}{wn fl:Int}{vs:List AV} :ZaH A tab Bu 20 K F M (.run 14 (.tf (.run 8 (.fn)) (.run 15 (.hd)))) (ZJr ms ks rs l wn fl vs) []=Zti A K F ms ks rs l wn fl vs:=by kernel_rfl
def ZcU(A:Ar)(K:KT)(F:FT)(ms ks rs l:List AV)(wn fl:Int)(vs:List AV):Prop:=bB (A.lt 0 (A.int (A.lenA vs))) (rB [Zag (Zag (A.le 0 0) (Nat.blt (A.nat 0) (A.lenA vs))) true] (bB (A.eq (evE ((A.nthA vs (A.nat 0)).cellAt 0).toI ((A.nthA vs (A.nat 0)).cellAt 1).toI) 0) (rB [decide (okA ms ks rs l wn fl { t:=0,mo:=0,dn:=[],ha:=false,ba:=0,to:=false,dw:=[],up:=[] } ((A.nthA vs (A.nat 0)).cellAt 0).toI ((A.nthA vs (A.nat 0)).cellAt 1).toI=true),Zag (Zag (A.le 0 0) (Nat.blt (A.nat 0) (A.lenA vs))) true] (bB (A.not (A.eq (ZaR l wn fl { t:=0,mo:=0,dn:=[],ha:=false,ba:=0,to:=false,dw:=[],up:=[] } ((A.nthA vs (A.nat 0)).cellAt 0).toI ((A.nthA vs (A.nat 0)).cellAt 1).toI) 0)) (F (AV.tup [AV.agg (Row.gen [.int .i64 0, .int .i64 0,AV.nils, .bool false, .int .i64 0, .bool false,AV.nils,AV.nils]),AV.int .i64 0,AV.int .i64 (ZaR l wn fl { t:=0,mo:=0,dn:=[],ha:=false,ba:=0,to:=false,dw:=[],up:=[] } ((A.nthA vs (A.nat 0)).cellAt 0).toI ((A.nthA vs (A.nat 0)).cellAt 1).toI)]) (none)) (rB [A.inR .i64 (A.add 0 1)] (K (ZhJ (ms) (ks) (rs) (l) (wn) (fl) (vs) (A.add 0 1) ((Zbz ks rs l wn fl { t:=0,mo:=0,dn:=[],ha:=false,ba:=0,to:=false,dw:=[],up:=[] } ((A.nthA vs (A.nat 0)).cellAt 0).toI ((A.nthA vs (A.nat 0)).cellAt 1).toI).1) ((Zbz ks rs l wn fl { t:=0,mo:=0,dn:=[],ha:=false,ba:=0,to:=false,dw:=[],up:=[] } ((A.nthA vs (A.nat 0)).cellAt 0).toI ((A.nthA vs (A.nat 0)).cellAt 1).toI).2) ((Zbz ks rs l wn fl { t:=0,mo:=0,dn:=[],ha:=false,ba:=0,to:=false,dw:=[],up:=[] } ((A.nthA vs (A.nat 0)).cellAt 0).toI ((A.nthA vs (A.nat 0)).cellAt 1).toI).3) ((Zbz ks rs l wn fl { t:=0,mo:=0,dn:=[],ha:=false,ba:=0,to:=false,dw:=[],up:=[] } ((A.nthA vs (A.nat 0)).cellAt 0).toI ((A.nthA vs (A.nat 0)).cellAt 1).toI).4) ((Zbz ks rs l wn fl { t:=0,mo:=0,dn:=[],ha:=false,ba:=0,to:=false,dw:=[],up:=[] } ((A.nthA vs (A.nat 0)).cellAt 0).toI ((A.nthA vs (A.nat 0)).cellAt 1).toI).5) ((Zbz ks rs l wn fl { t:=0,mo:=0,dn:=[],ha:=false,ba:=0,to:=false,dw:=[],up:=[] } ((A.nthA vs (A.nat 0)).cellAt 0).toI ((A.nthA vs (A.nat 0)).cellAt 1).toI).6) ((Zbz ks rs l wn fl { t:=0,mo:=0,dn:=[],ha:=false,ba:=0,to:=false,dw:=[],up:=[] } ((A.nthA vs (A.nat 0)).cellAt 0).toI ((A.nthA vs (A.nat 0)).cellAt 1).toI).7) ((Zbz ks rs l wn fl { t:=0,mo:=0,dn:=[],ha:=false,ba:=0,to:=false,dw:=[],up:=[] } ((A.nthA vs (A.nat 0)).cellAt 0).toI ((A.nthA vs (A.nat 0)).cellAt 1).toI).8)))))) (rB [A.not (A.eq (evE ((A.nthA vs (A.nat 0)).cellAt 0).toI ((A.nthA vs (A.nat 0)).cellAt 1).toI) 0)] (F (AV.tup [AV.agg (Row.gen [.int .i64 0, .int .i64 0,AV.nils, .bool false, .int .i64 0, .bool false,AV.nils,AV.nils]),AV.int .i64 0,AV.int .i64 (evE ((A.nthA vs (A.nat 0)).cellAt 0).toI ((A.nthA vs (A.nat 0)).cellAt 1).toI)]) (none))))) (F (AV.tup [AV.agg (Row.gen [.int .i64 0, .int .i64 0,AV.nils, .bool false, .int .i64 0, .bool false,AV.nils,AV.nils]),AV.int .i64 0,AV.int .i64 0]) (none))
theorem ZnF{A:Ar}{K:KT}{F:FT}{M:MT}{ms ks rs l:List AV}{wn fl:Int}{vs:List AV} :ZaH A tab Bu 20 K F M (.run 9 (.tf (.run 24 (.tf (.run 7 (.tf (.run 10 (.fn)) (.run 13 (.hd)))) (.run 7 (.ty (.run 10 (.fn)))))) (.run 9 (.fn)))) (ZjY ms ks rs l wn fl vs) (Zh8 ms ks rs l wn fl vs)=ZcU A K F ms ks rs l wn fl vs:=by kernel_rfl
def ZcJ(A:Ar)(K:KT)(F:FT)(ms ks rs l:List AV)(wn fl:Int)(vs:List AV)(n0 n1 n2:Int)(x3:List AV)(b4:Bool)(n5:Int)(b6:Bool)(l7:List Int)(x8:List AV):Prop:=bB (A.lt n0 (A.int (A.lenA vs))) (rB [Zag (Zag (A.le 0 n0) (Nat.blt (A.nat n0) (A.lenA vs))) true] (bB (A.eq (evE ((A.nthA vs (A.nat n0)).cellAt 0).toI ((A.nthA vs (A.nat n0)).cellAt 1).toI) 0) (rB [decide (okA ms ks rs l wn fl { t:=n1,mo:=n2,dn:=x3,ha:=b4,ba:=n5,to:=b6,dw:=l7,up:=x8 } ((A.nthA vs (A.nat n0)).cellAt 0).toI ((A.nthA vs (A.nat n0)).cellAt 1).toI=true),Zag (Zag (A.le 0 n0) (Nat.blt (A.nat n0) (A.lenA vs))) true] (bB (A.not (A.eq (ZaR l wn fl { t:=n1,mo:=n2,dn:=x3,ha:=b4,ba:=n5,to:=b6,dw:=l7,up:=x8 } ((A.nthA vs (A.nat n0)).cellAt 0).toI ((A.nthA vs (A.nat n0)).cellAt 1).toI) 0)) (F (AV.tup [AV.agg (Row.gen [.int .i64 0, .int .i64 0,AV.nils, .bool false, .int .i64 0, .bool false,AV.nils,AV.nils]),AV.int .i64 n0,AV.int .i64 (ZaR l wn fl { t:=n1,mo:=n2,dn:=x3,ha:=b4,ba:=n5,to:=b6,dw:=l7,up:=x8 } ((A.nthA vs (A.nat n0)).cellAt 0).toI ((A.nthA vs (A.nat n0)).cellAt 1).toI)]) (none)) (rB [A.inR .i64 (A.add n0 1)] (K (ZhJ (ms) (ks) (rs) (l) (wn) (fl) (vs) (A.add n0 1) ((Zbz ks rs l wn fl { t:=n1,mo:=n2,dn:=x3,ha:=b4,ba:=n5,to:=b6,dw:=l7,up:=x8 } ((A.nthA vs (A.nat n0)).cellAt 0).toI ((A.nthA vs (A.nat n0)).cellAt 1).toI).1) ((Zbz ks rs l wn fl { t:=n1,mo:=n2,dn:=x3,ha:=b4,ba:=n5,to:=b6,dw:=l7,up:=x8 } ((A.nthA vs (A.nat n0)).cellAt 0).toI ((A.nthA vs (A.nat n0)).cellAt 1).toI).2) ((Zbz ks rs l wn fl { t:=n1,mo:=n2,dn:=x3,ha:=b4,ba:=n5,to:=b6,dw:=l7,up:=x8 } ((A.nthA vs (A.nat n0)).cellAt 0).toI ((A.nthA vs (A.nat n0)).cellAt 1).toI).3) ((Zbz ks rs l wn fl { t:=n1,mo:=n2,dn:=x3,ha:=b4,ba:=n5,to:=b6,dw:=l7,up:=x8 } ((A.nthA vs (A.nat n0)).cellAt 0).toI ((A.nthA vs (A.nat n0)).cellAt 1).toI).4) ((Zbz ks rs l wn fl { t:=n1,mo:=n2,dn:=x3,ha:=b4,ba:=n5,to:=b6,dw:=l7,up:=x8 } ((A.nthA vs (A.nat n0)).cellAt 0).toI ((A.nthA vs (A.nat n0)).cellAt 1).toI).5) ((Zbz ks rs l wn fl { t:=n1,mo:=n2,dn:=x3,ha:=b4,ba:=n5,to:=b6,dw:=l7,up:=x8 } ((A.nthA vs (A.nat n0)).cellAt 0).toI ((A.nthA vs (A.nat n0)).cellAt 1).toI).6) ((Zbz ks rs l wn fl { t:=n1,mo:=n2,dn:=x3,ha:=b4,ba:=n5,to:=b6,dw:=l7,up:=x8 } ((A.nthA vs (A.nat n0)).cellAt 0).toI ((A.nthA vs (A.nat n0)).cellAt 1).toI).7) ((Zbz ks rs l wn fl { t:=n1,mo:=n2,dn:=x3,ha:=b4,ba:=n5,to:=b6,dw:=l7,up:=x8 } ((A.nthA vs (A.nat n0)).cellAt 0).toI ((A.nthA vs (A.nat n0)).cellAt 1).toI).8)))))) (rB [A.not (A.eq (evE ((A.nthA vs (A.nat n0)).cellAt 0).toI ((A.nthA vs (A.nat n0)).cellAt 1).toI) 0)] (F (AV.tup [AV.agg (Row.gen [.int .i64 0, .int .i64 0,AV.nils, .bool false, .int .i64 0, .bool false,AV.nils,AV.nils]),AV.int .i64 n0,AV.int .i64 (evE ((A.nthA vs (A.nat n0)).cellAt 0).toI ((A.nthA vs (A.nat n0)).cellAt 1).toI)]) (none))))) (F (AV.tup [AV.agg (Row.gen [.int .i64 n1, .int .i64 n2, .list (Row.big (.agg [.int .i64, .int .i64]) x3), .bool b4, .int .i64 n5, .bool b6, .list (.ints .i64 l7), .list (Row.big (.agg [.int .i64, .bool]) x8)]),AV.int .i64 0,AV.int .i64 0]) (none))
theorem ZiH{A:Ar}{K:KT}{F:FT}{M:MT}{ms ks rs l:List AV}{wn fl:Int}{vs:List AV}{n0 n1 n2:Int}{x3:List AV}{b4:Bool}{n5:Int}{b6:Bool}{l7:List Int}{x8:List AV} :ZaH A tab Bu 20 K F M (.run 9 (.tf (.run 24 (.tf (.run 7 (.tf (.run 10 (.fn)) (.run 13 (.hd)))) (.run 7 (.ty (.run 10 (.fn)))))) (.run 9 (.fn)))) (Zhb ms ks rs l wn fl vs n0 n1 n2 x3 b4 n5 b6 l7 x8) (Zfm ms ks rs l wn fl vs n0 n1 n2 x3 b4 n5 b6 l7 x8)=ZcJ A K F ms ks rs l wn fl vs n0 n1 n2 x3 b4 n5 b6 l7 x8:=by kernel_rfl
end Go.Proofs.YtkeoeooghhjibaaGreatDoor
/- Contracts as a list. No condition. -/
namespace Go.Proofs.YtkeoeooghhjibaaGreatDoor
def repF(ks rs l:List AV)(wn fl:Int)(vs:List AV):Nat→Nat→ST→ST×Int×Int
 |0,_,s=>(s,0,0)
 |m+1,i,s=>if evE (Zaj vs i 0) (Zaj vs i 1)=0 then(if ZaR l wn fl s (Zaj vs i 0) (Zaj vs i 1)=0 then repF ks rs l wn fl vs m (i+1) (appS ks rs l fl s (Zaj vs i 0) (Zaj vs i 1))else(st0,i,ZaR l wn fl s (Zaj vs i 0) (Zaj vs i 1)))else(st0,i,evE (Zaj vs i 0) (Zaj vs i 1))
def ZcE(ks rs l:List AV)(wn fl:Int)(vs:List AV):ST×Int×Int:=if vs.length≤200 then repF ks rs l wn fl vs vs.length 0 st0 else(st0,0,8)
def ZB1(r:ST×Int×Int):AV:=.tup [.agg (.gen [.int .i64 (r.1).t, .int .i64 (r.1).mo, .list (.big (.agg [.int .i64, .int .i64]) (r.1).dn), .bool (r.1).ha, .int .i64 (r.1).ba, .bool (r.1).to, .list (.ints .i64 (r.1).dw), .list (.big (.agg [.int .i64, .bool]) (r.1).up)]), .int .i64 r.2.1, .int .i64 r.2.2]
theorem Zqu(i x:Int):Wk (.tup [.agg (.gen [.int .i64 0, .int .i64 0, .nils, .bool false, .int .i64 0, .bool false, .nils, .nils]), .int .i64 i, .int .i64 x]) (ZB1 (st0,i,x)):=Wk.tup' ⟨Wk.agg' ⟨.same _, .same _, .nil _ rfl, .same _, .same _, .same _, .nil _ rfl, .nil _ rfl,trivial⟩, .same _, .same _,trivial⟩
theorem Zic(ks rs l:List AV){fl:Int}(hf:0≤fl):VS ks rs l fl st0:=
 ⟨⟨by decide,by decide⟩,⟨Nat.zero_le _,hf,hf⟩,fun i h=>absurd h (Nat.not_lt_zero i),rfl,(fun h=>by cases h),⟨by decide,by decide⟩,(fun h=>by cases h),(fun x h=>by cases h),(fun x h=>by cases h)⟩
section
variable {C:Ctx}(hC:C.P=Tryz.prog)(ms ks rs l:List AV)(wn fl:Int)(vs:List AV)(hu:upE ms ks rs l wn fl=0)
include hC hu
theorem ZA0:∀(m k:Nat) (s:ST),k+m=vs.length→vs.length≤200→VS ks rs l fl s→Ev C (Zhb ms ks rs l wn fl vs k s.t s.mo s.dn s.ha s.ba s.to s.dw s.up) (Zfm ms ks rs l wn fl vs k s.t s.mo s.dn s.ha s.ba s.to s.dw s.up) (Zd9 20 (ZB1 (repF ks rs l wn fl vs m k s)) none)
 |0,k,s,hk,hl,hs=>Zd7 hC ZpJ ZiH (by
  obtain rfl:k=vs.length:=by omega
  simp[ZcJ]
  exact .same _)
 |m+1,k,s,hk,hl,hs=>by
  have hlt:(k:Int)<vs.length:=by omega
  have hlt2:k<vs.length:=by omega
  have e0:((vs.getD k .top).cellAt 0).toI=Zaj vs k 0:=rfl
  have e1:((vs.getD k .top).cellAt 1).toI=Zaj vs k 1:=rfl
  refine Zd7 hC ZpJ ZiH ?_
  rw[repF]
  by_cases h1:evE (Zaj vs k 0) (Zaj vs k 1)=0
  ·have hv:=Zsp hu (vs_iff.2 hs) h1
   rw[if_pos h1]
   by_cases h2:ZaR l wn fl s (Zaj vs k 0) (Zaj vs k 1)=0
   ·have ih:=ZA0 m (k+1) (appS ks rs l fl s (Zaj vs k 0) (Zaj vs k 1)) (by omega) hl (Zmp hs h1 h2)
    have ew:Zbz ks rs l wn fl s (Zaj vs k 0) (Zaj vs k 1)=appS ks rs l fl s (Zaj vs k 0) (Zaj vs k 1):=by unfold Zbz;rw[if_pos h2]
    rw[if_pos h2]
    simp[-List.getD_eq_getElem?_getD,ZcJ,hlt,hlt2,e0,e1,h1,h2,hv,ew]
    exact⟨by omega,by simpa using ih⟩
   ·rw[if_neg h2]
    simp[-List.getD_eq_getElem?_getD,ZcJ,hlt,hlt2,e0,e1,h1,h2,hv]
    exact Zqu _ _
  ·rw[if_neg h1]
   simp[-List.getD_eq_getElem?_getD,ZcJ,hlt,hlt2,e0,e1,h1]
   exact Zqu _ _
end
theorem ZkT(ms ks rs l:List AV)(wn fl:Int)(vs:List AV)(h:upE ms ks rs l wn fl=0):Zao Tryz.prog 20 [.agg (.gen [.list (.big .str ms), .list (.big (.agg [.str, .int .i64]) ks), .list (.big (.agg [.str, .int .i64, .int .i64, .int .i64, .int .i64]) rs), .list (.big (.agg [.int .i64, .int .i64, .int .i64]) l), .int .i64 wn, .int .i64 fl]), .list (.big (.agg [.int .i64, .int .i64]) vs)] (ZB1 (ZcE ks rs l wn fl vs)) none:=
 Zdf (Zt3 ms ks rs l wn fl vs) fun C hC=>Zd7 hC ZpJ ZDT (by
  obtain⟨hf,_,hfl⟩:=ZdP h
  have hs0:=Zic ks rs l (fl:=fl) (by omega)
  unfold ZcE
  by_cases hn:vs.length≤200
  ·rw[if_pos hn]
   simp[Zti,show ¬(200:Int)<vs.length by omega]
   refine Zd7 hC ZpJ ZnF ?_
   have e0:((vs.getD 0 .top).cellAt 0).toI=Zaj vs 0 0:=rfl
   have e1:((vs.getD 0 .top).cellAt 1).toI=Zaj vs 0 1:=rfl
   by_cases hl:vs.length=0
   ·rw[hl]
    simp[ZcU,hl]
    exact Zqu _ _
   ·obtain⟨m,hm⟩:∃m,vs.length=m+1:=⟨vs.length-1,by omega⟩
    have hlt:(0:Int)<vs.length:=by omega
    have hlt2:0<vs.length:=by omega
    rw[hm,repF,show((0:Nat):Int)=0 from rfl]
    by_cases h1:evE (Zaj vs 0 0) (Zaj vs 0 1)=0
    ·have hv:=Zsp h (vs_iff.2 hs0) h1
     rw[if_pos h1]
     by_cases h2:ZaR l wn fl st0 (Zaj vs 0 0) (Zaj vs 0 1)=0
     ·have ih:=ZA0 hC ms ks rs l wn fl vs h m 1 (appS ks rs l fl st0 (Zaj vs 0 0) (Zaj vs 0 1)) (by omega) hn (Zmp hs0 h1 h2)
      have ew:Zbz ks rs l wn fl st0 (Zaj vs 0 0) (Zaj vs 0 1)=appS ks rs l fl st0 (Zaj vs 0 0) (Zaj vs 0 1):=by unfold Zbz;rw[if_pos h2]
      rw[if_pos h2]
      unfold st0 at hv h2 ew ih⊢
      simp[-List.getD_eq_getElem?_getD,ZcU,hlt,hlt2,e0,e1,h1,h2,hv,ew]
      simpa using ih
     ·rw[if_neg h2]
      have hr:=Zqu 0 (ZaR l wn fl st0 (Zaj vs 0 0) (Zaj vs 0 1))
      unfold st0 at hv h2 hr⊢
      simp[-List.getD_eq_getElem?_getD,ZcU,hlt,hlt2,e0,e1,h1,h2,hv]
      exact hr
    ·rw[if_neg h1]
     have hr:=Zqu 0 (evE (Zaj vs 0 0) (Zaj vs 0 1))
     simp[-List.getD_eq_getElem?_getD,ZcU,hlt,hlt2,e0,e1,h1]
     exact hr
  ·rw[if_neg hn]
   simp[Zti,show(200:Int)<vs.length by omega]
   exact Zqu _ _)
def k20:Ctr:=⟨20,0,fun _ a=>match a with |[.agg (.gen [.list (.big .str ms), .list (.big (.agg [.str, .int .i64]) ks), .list (.big (.agg [.str, .int .i64, .int .i64, .int .i64, .int .i64]) rs), .list (.big (.agg [.int .i64, .int .i64, .int .i64]) l), .int .i64 wn, .int .i64 fl]), .list (.big (.agg [.int .i64, .int .i64]) vs)]=>some (decide (upE ms ks rs l wn fl=0), .tup [.agg (.gen [.int .i64 ((ZcE ks rs l wn fl vs).1).t, .int .i64 ((ZcE ks rs l wn fl vs).1).mo, .list (.big (.agg [.int .i64, .int .i64]) ((ZcE ks rs l wn fl vs).1).dn), .bool ((ZcE ks rs l wn fl vs).1).ha, .int .i64 ((ZcE ks rs l wn fl vs).1).ba, .bool ((ZcE ks rs l wn fl vs).1).to, .list (.ints .i64 ((ZcE ks rs l wn fl vs).1).dw), .list (.big (.agg [.int .i64, .bool]) ((ZcE ks rs l wn fl vs).1).up)]), .int .i64 (ZcE ks rs l wn fl vs).2.1, .int .i64 (ZcE ks rs l wn fl vs).2.2],none) |_=>none⟩
theorem ZAv:k20.OK Tryz.prog:=fun pa args r fr h=>by
 simp only[k20]at h
 split at h
 ·simp only[Option.some.injEq,Prod.mk.injEq,decide_eq_true_eq]at h
  obtain⟨h0,rfl,rfl⟩:=h
  exact ZkT _ _ _ _ _ _ _ h0
 ·cases h
def Bv:List Ctr:=[k20]++Bu
theorem ZEJ:ZaD Tryz.prog Bv:=⟨ZAv,ZpJ⟩
end Go.Proofs.YtkeoeooghhjibaaGreatDoor
