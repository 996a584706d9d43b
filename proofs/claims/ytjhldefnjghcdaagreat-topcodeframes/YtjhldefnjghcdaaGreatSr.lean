/- Contracts as a list. No condition. -/
import Derived.Test.YtjhldefnjghcdaaGreatP6
namespace Go.Proofs.YtjhldefnjghcdaaGreat
section
variable (m p q:Int)(so:zI)
def upP(D:zI)(t:Nat)(s:Nat)(b:Int)(cur:Int):Int:=max cur (D.getD (nxS m s b).toNat 0+gnI m p q so t s b)
def Zsy(D:zI)(t s:Nat):Int:=if t<ZbQ m so then upP m p q so D t s 1 (upP m p q so D t s 0 (-100000))else upP m p q so D t s 0 (-100000)
def dpP:Nat→zI
 |0=>(List.range (stS m)).map fun s=>if s=0 then 0 else -100000
 |n+1=>(List.range (stS m)).map fun s=>Zsy m p q so (dpP n) (Zab so-1-n) s
def tbP:Nat→Nat→Nat→zI
 |0,_,_=>[]
 |j+1,t,s=>
  if(dpP m p q so (Zab so-t-1)).getD (nxS m s 0).toNat 0+gnI m p q so t s 0=(dpP m p q so (Zab so-t)).getD s 0 then 0::tbP j (t+1) (nxS m s 0).toNat
  else if(dpP m p q so (Zab so-t-1)).getD (nxS m s 1).toNat 0+gnI m p q so t s 1=(dpP m p q so (Zab so-t)).getD s 0 then 1::tbP j (t+1) (nxS m s 1).toNat
  else tbP j (t+1) s
theorem Zg8(n:Nat):(dpP m p q so n).length=stS m:=by cases n<;>simp[dpP]
theorem Zn9{s:Nat}(h:s<stS m):(dpP m p q so 0).getD s 0=if s=0 then 0 else -100000:=by
 rw[dpP,List.getD_eq_getElem?_getD,List.getElem?_map,List.getElem?_range h];rfl
theorem Zoa{n s:Nat}(h:s<stS m):(dpP m p q so (n+1)).getD s 0=Zsy m p q so (dpP m p q so n) (Zab so-1-n) s:=by
 rw[dpP,List.getD_eq_getElem?_getD,List.getElem?_map,List.getElem?_range h];rfl
end
def Way(n:Nat)(a b:Int):Prop:=(a= -2000000∧ -100000≤b∧b≤ -100000+14*n)∨(-14*n≤a∧b=a)
theorem ZzG{m p q:Int}{so D E:zI}{n:Nat}(hn:n≤303)(hg:ZaF so (-7) 7=0)(t s:Nat)(b:Int)(hD:Way n (D.getD (nxS m s b).toNat 0) (E.getD (nxS m s b).toNat 0)){x y:Int}(hc:Way (n+1) x y):Way (n+1) (upR m p q so D t s b x) (upP m p q so E t s b y):=by
 have h1:=Zgi (m:=m) (p:=p) (q:=q) hg t s b
 unfold upR upP Way at*
 split<;>omega
theorem ZD4{m p q:Int}{so:zI}(h:OkC m p q so){n:Nat}(hn:n<Zab so)(t:Nat){s:Nat}(hs:s<stS m){D E:zI}(hD:∀s,s<stS m→Way n (D.getD s 0) (E.getD s 0)):Way (n+1) (ZAC m p q so D t s) (Zsy m p q so E t s):=by
 obtain⟨hg,_,hl2,hl3⟩:=h.soft
 have hn':n≤303:=by unfold Zab at hn;omega
 have h0:Way (n+1) (upR m p q so D t s 0 (-2000000)) (upP m p q so E t s 0 (-100000)):=ZzG hn' hg t s 0 (hD _ (Zbk h hs (Or.inl rfl)).2.2) (Or.inl ⟨rfl,by omega,by omega⟩)
 unfold ZAC Zsy
 split
 ·exact ZzG hn' hg t s 1 (hD _ (Zbk h hs (Or.inr rfl)).2.2) h0
 ·exact h0
theorem Zf9{m p q:Int}{so:zI}(h:OkC m p q so):∀n:Nat,n≤Zab so→∀s,s<stS m→Way n ((dpR m p q so n).getD s 0) ((dpP m p q so n).getD s 0)
 |0,_,s,hs=>by
  rw[Zn6 m p q so hs,Zn9 m p q so hs]
  unfold Way;split<;>omega
 |n+1,hn,s,hs=>by
  rw[ZfW m p q so hs,Zoa m p q so hs]
  exact ZD4 h (by omega) _ hs (Zf9 h n (by omega))
theorem Zu8{m:Int}(hm:m=1∨m=2∨m=3):(nxS m (0:Nat) 0).toNat=0:=by
 rcases hm with rfl |rfl |rfl<;>decide
theorem Zfa{m p q:Int}{so:zI}(h:OkC m p q so):∀n:Nat,n≤Zab so→ -14*(n:Int)≤(dpR m p q so n).getD 0 0
 |0,_=>by
  have h2:=Zbe (Zan h.cv).1
  rw[Zn6 m p q so (by omega)];simp
 |n+1,hn=>by
  have h2:=Zbe (Zan h.cv).1
  obtain⟨hg,_,hl2,hl3⟩:=h.soft
  have ih:=Zfa h n (by omega)
  have hgl:=Zgi (m:=m) (p:=p) (q:=q) hg (Zab so-1-n) (0:Nat) 0
  have h0: -14*((n+1:Nat):Int)≤upR m p q so (dpR m p q so n) (Zab so-1-n) 0 0 (-2000000):=by
   unfold upR
   rw[Zu8 (Zan h.cv).1]
   have:Zab so≤303:=by unfold Zab;omega
   rw[if_pos (by omega)];omega
  rw[ZfW m p q so (by omega),ZAC]
  split
  ·unfold upR at h0 ⊢;split<;>omega
  ·exact h0
theorem Ztg{n:Nat}{a0 A0 a1 A1 x X g0 g1:Int}(hn:n≤303)(w:Way (n+1) x X)(w0:Way n a0 A0)(w1:Way n a1 A1)(hg0: -14≤g0∧g0≤14)(hg1: -14≤g1∧g1≤14)(hw: -14*((n+1:Nat):Int)≤x)
 (e:x=if -1000000<a1 then max (if -1000000<a0 then max (-2000000) (a0+g0)else -2000000) (a1+g1)else if -1000000<a0 then max (-2000000) (a0+g0)else -2000000):
 (A0+g0=X↔a0+g0=x)∧(a0+g0=x→ -14*(n:Int)≤a0)∧(¬a0+g0=x→A1+g1=X∧ -14*(n:Int)≤a1):=by
 unfold Way at*
 split at e<;>split at e<;>refine⟨⟨fun h=>?_,fun h=>?_⟩,fun h=>?_,fun h=>⟨?_,?_⟩⟩<;>omega
theorem ZvE{m p q:Int}{so:zI}(h:OkC m p q so):∀(j t s:Nat),t+j=ZbQ m so→s<stS m→ -14*((Zab so-t:Nat):Int)≤(dpR m p q so (Zab so-t)).getD s 0→tbP m p q so j t s=tbR m p q so j t s
 |0,t,s,_,_,_=>rfl
 |j+1,t,s,ht,hs,hw=>by
  have hm:=(Zan h.cv).1
  obtain⟨hg,_,hl2,hl3⟩:=h.soft
  have hb:ZbQ m so≤Zab so∧Zab so≤303:=by unfold Zab ZbQ;omega
  have hg0:=Zgi (m:=m) (p:=p) (q:=q) hg t s 0
  have hg1:=Zgi (m:=m) (p:=p) (q:=q) hg t s 1
  obtain⟨_,a2,a3⟩:=Zbk h hs (b:=0) (Or.inl rfl)
  obtain⟨_,b2,b3⟩:=Zbk h hs (b:=1) (Or.inr rfl)
  obtain⟨n,hn⟩:∃n,Zab so-t=n+1:=⟨Zab so-t-1,by omega⟩
  have hn1:Zab so-t-1=n:=by omega
  have w:=Zf9 h (n+1) (by omega) s hs
  have w0:=Zf9 h n (by omega) _ a3
  have w1:=Zf9 h n (by omega) _ b3
  have e0:=ZfW m p q so hs (n:=n)
  rw[show Zab so-1-n=t by omega,ZAC,if_pos (by omega),upR,upR]at e0
  have i0:=ZvE h j (t+1) (nxS m s 0).toNat (by omega) a3
  have i1:=ZvE h j (t+1) (nxS m s 1).toNat (by omega) b3
  rw[show Zab so-(t+1)=n by omega]at i0 i1
  have c0:((nxS m s 0).toNat:Int)=nxS m s 0:=Int.toNat_of_nonneg a2
  have c1:((nxS m s 1).toNat:Int)=nxS m s 1:=Int.toNat_of_nonneg b2
  rw[c0]at i0;rw[c1]at i1
  rw[hn]at hw
  obtain⟨r1,r2,r3⟩:=Ztg (by omega) w w0 w1 hg0 hg1 hw e0
  rw[tbP,tbR,hn1,hn,Int.toNat_natCast]
  by_cases hq:(dpR m p q so n).getD (nxS m s 0).toNat 0+gnI m p q so t s 0=(dpR m p q so (n+1)).getD s 0
  ·rw[if_pos (r1.2 hq),if_pos hq,i0 (r2 hq)]
  ·rw[if_neg (fun e=>hq (r1.1 e)),if_neg hq,if_pos (r3 hq).1,i1 (r3 hq).2]
theorem Zog{m p q:Int}{so:zI}(h:OkC m p q so):tbP m p q so (ZbQ m so) 0 0=blI m p q so∧(dpP m p q so (Zab so)).getD 0 0=bvI m p q so:=by
 have h2:=Zbe (Zan h.cv).1
 have hz:=Zfa h (Zab so) (Nat.le_refl _)
 refine⟨ZvE h _ 0 0 (by omega) (by omega) (by simpa using hz),?_⟩
 have w:=Zf9 h (Zab so) (Nat.le_refl _) 0 (by omega)
 obtain⟨hg,_,hl2,hl3⟩:=h.soft
 have:Zab so≤303:=by unfold Zab;omega
 unfold bvI
 unfold Way at w
 omega
end Go.Proofs.YtjhldefnjghcdaaGreat
namespace Go.Proofs.YtjhldefnjghcdaaGreat
open Ieee
theorem Zbg(n:Nat):1≤2^n:=Nat.one_le_two_pow
theorem Zyt(w:Toward)(s:Bool)(n:Nat):w.cut s n 0=n:=by
 unfold Toward.cut
 simp only[Nat.zero_min,Nat.shiftLeft_zero,Nat.div_one,Nat.mod_one,Nat.mul_zero]
 cases w<;>simp
theorem ZlC{m:Nat}(k:Nat)(h:0<m):(m*2^k).log2=m.log2+k:=by
 have h2:m*2^k≠0:=by have:=Zbg k;have:=Nat.mul_le_mul h this;omega
 apply Nat.le_antisymm
 ·have:(m*2^k).log2<m.log2+k+1:=by
   rw[Nat.log2_lt h2,show m.log2+k+1=(m.log2+1)+k by omega,Nat.pow_add]
   exact Nat.mul_lt_mul_of_pos_right ((Nat.log2_lt (by omega)).1 (by omega)) (Zbg k)
  omega
 ·rw[Nat.le_log2 h2,Nat.pow_add]
  exact Nat.mul_le_mul_right _ ((Nat.le_log2 (by omega)).1 (Nat.le_refl _))
theorem Zxe(w:Toward)(s:Bool)(m d:Nat):w.cut s (m*2^d) d=m:=by
 rcases Nat.eq_zero_or_pos m with rfl |h
 ·unfold Toward.cut
  simp only[Nat.zero_mul,Nat.zero_div,Nat.zero_mod,Nat.mul_zero]
  cases w<;>simp<;>(try (rw [Nat.shiftLeft_eq];have:=Zbg (min d (0+2));omega))
 ·unfold Toward.cut
  have h1:min d ((m*2^d).log2+2)=d:=by rw[ZlC d h];omega
  have h3:=Zbg d
  simp only[h1,Nat.shiftLeft_eq,Nat.one_mul,Nat.mul_div_cancel _ h3,Nat.mul_mod_left,Nat.mul_zero]
  cases w<;>simp<;>omega
theorem Zrk{s:Bool}{m K:Nat}(h:m≠0)(h2:m<2^24):single.nearest s (m*2^K) (-(K:Int))=single.word s ((126+m.log2)*2^23+m*2^(23-m.log2)):=by
 have hL:m.log2<24:=(Nat.log2_lt h).2 h2
 have hm:m*2^K≠0:=by have:=Nat.mul_le_mul (Nat.pos_of_ne_zero h) (Zbg K);omega
 have hlast:max (-(K:Int)+(m*2^K).log2-single.fractionBits) single.leastPlace=(m.log2:Int)-23:=by
  rw[ZlC K (Nat.pos_of_ne_zero h)]
  show max (-(K:Int)+((m.log2+K:Nat):Int)-23) (-149)=_
  omega
 unfold Format.nearest
 rw[if_neg hm]
 simp only[hlast]
 have hk:m*2^(23-m.log2)<2^24:=by
  have h5:2^24=2^(m.log2+1)*2^(23-m.log2):=by rw[←Nat.pow_add];congr 1;omega
  rw[h5]
  exact Nat.mul_lt_mul_of_pos_right ((Nat.log2_lt h).1 (by omega)) (Zbg _)
 have hc:Toward.even.cut s ((m*2^K) <<< (-(K:Int)-((m.log2:Int)-23)).toNat) ((m.log2:Int)-23- -(K:Int)).toNat=m*2^(23-m.log2):=by
  rcases Nat.le_total (23-m.log2) K with hK |hK
  ·rw[show (-(K:Int)-((m.log2:Int)-23)).toNat=0 by omega,Nat.shiftLeft_zero,show((m.log2:Int)-23- -(K:Int)).toNat=K-(23-m.log2) by omega]
   have:m*2^K=m*2^(23-m.log2)*2^(K-(23-m.log2)):=by rw[Nat.mul_assoc,←Nat.pow_add];congr 2;omega
   rw[this,Zxe]
  ·rw[show ((m.log2:Int)-23- -(K:Int)).toNat=0 by omega,Zyt,Nat.shiftLeft_eq,show(-(K:Int)-((m.log2:Int)-23)).toNat=23-m.log2-K by omega,Nat.mul_assoc,←Nat.pow_add]
   congr 2;omega
 rw[hc]
 congr 1
 show min (((m.log2:Int)-23- -149).toNat*2^23+m*2^(23-m.log2)) (255*2^23)=_
 rw[show ((m.log2:Int)-23- -149).toNat=126+m.log2 by omega]
 have:(126+m.log2)*2^23≤149*2^23:=Nat.mul_le_mul_right _ (by omega)
 omega
def wN(n:Int):Nat:=FloatKind.nearest .f32 n
theorem ZyT(s:Bool)(m K:Nat)(h2:m<2^24):single.nearest s (m*2^K) (-(K:Int))=single.nearest s m 0:=by
 by_cases h:m=0
 ·subst h;rw[Nat.zero_mul];unfold Format.nearest;rw[if_pos rfl,if_pos rfl]
 ·rw[Zrk h h2]
  have:=Zrk (s:=s) (m:=m) (K:=0) h h2
  simpa using this.symm
theorem Zvo{s:Bool}{m:Nat}(h:m≠0)(h2:m<2^24):single.read (single.nearest s m 0)=.number s (m*2^(23-m.log2)) (-((23-m.log2:Nat):Int)):=by
 have h1:=Zrk (s:=s) (m:=m) (K:=0) h h2
 rw[Nat.pow_zero,Nat.mul_one,show -((0:Nat):Int)=0 from rfl]at h1
 rw[h1]
 have hL:m.log2<24:=(Nat.log2_lt h).2 h2
 generalize hL':m.log2=L at*
 have hk:m*2^(23-L)<2^24:=by
  have h5:2^24=2^(L+1)*2^(23-L):=by rw[←Nat.pow_add];congr 1;omega
  rw[h5]
  exact Nat.mul_lt_mul_of_pos_right ((Nat.log2_lt h).1 (by omega)) (Zbg _)
 have hk2:2^23≤m*2^(23-L):=by
  have h5:2^23=2^L*2^(23-L):=by rw[←Nat.pow_add];congr 1;omega
  rw[h5]
  exact Nat.mul_le_mul_right _ ((Nat.le_log2 h).1 (by omega))
 generalize m*2^(23-L)=k at*
 have e1:single.word s ((126+L)*2^23+k)/single.signWeight%2=s.toNat:=by
  show single.word s ((126+L)*2^23+k)/2^31%2=_
  unfold Format.word
  cases s
  ·show((126+L)*2^23+k)/2^31%2=0;omega
  ·show(2^31+((126+L)*2^23+k))/2^31%2=1;omega
 have e2:single.word s ((126+L)*2^23+k)%single.signWeight=(126+L)*2^23+k:=by
  show single.word s ((126+L)*2^23+k)%2^31=_
  unfold Format.word
  cases s
  ·show((126+L)*2^23+k)%2^31=_;omega
  ·show(2^31+((126+L)*2^23+k))%2^31=_;omega
 unfold Format.read
 have eb:single.binade=2^23:=rfl
 have ei:single.infRung=255*2^23:=rfl
 have el:single.leastPlace= -149:=rfl
 simp only[e1,e2,eb,ei,el]
 rw[if_neg (show ¬((126+L)*2^23+k<2^23) by omega),if_pos (show (126+L)*2^23+k<255*2^23 by omega)]
 have e3:((126+L)*2^23+k)%2^23=k-2^23:=by omega
 have e4:((126+L)*2^23+k)/2^23=127+L:=by omega
 rw[e3,e4]
 have g1:(s.toNat==1)=s:=by cases s<;>rfl
 have g2:2^23+(k-2^23)=k:=by omega
 have g3:(-149:Int)+((127+L-1:Nat):Int)= -((23-L:Nat):Int):=by omega
 rw[g1,g2,g3]
theorem ZKb(n:Int)(h: -16777216<n∧n<16777216):n.natAbs<2^24:=by omega
theorem Zjl(n:Int)(h: -16777216<n∧n<16777216):∃k:Nat,single.read (wN n)=.number (decide (n<0)) (n.natAbs*2^k) (-(k:Int)):=by
 by_cases h0:n=0
 ·subst h0
  exact⟨149,rfl⟩
 ·exact⟨_,Zvo (by omega) (ZKb n h)⟩
theorem ZdF(n:Int)(k K:Nat)(h:k≤K):signed (decide (n<0)) (n.natAbs*2^k) (-(k:Int)- -(K:Int)).toNat=n*(2^K:Nat):=by
 have e:(-(k:Int)- -(K:Int)).toNat=K-k:=by omega
 have e2:(n.natAbs*2^k) <<< (K-k)=n.natAbs*2^K:=by rw[Nat.shiftLeft_eq,Nat.mul_assoc,←Nat.pow_add];congr 2;omega
 unfold signed
 rw[e,e2]
 by_cases hn:n<0
 ·rw[if_pos (by simpa using hn),Int.natCast_mul,←Int.neg_mul,show -(n.natAbs:Int)=n by omega]
 ·rw[if_neg (by simpa using hn),Int.natCast_mul,show(n.natAbs:Int)=n by omega]
theorem Zru{a b:Int}(ha: -8388608<a∧a<8388608)(hb: -8388608<b∧b<8388608):std.fadd .f32 (wN a) (wN b)=some (wN (a+b)):=by
 obtain⟨i,hi⟩:=Zjl a (by omega)
 obtain⟨j,hj⟩:=Zjl b (by omega)
 show((single.read (wN a)).sum (single.read (wN b))).map single.write=_
 rw[hi,hj]
 have hmin:min (-(i:Int)) (-(j:Int))= -((max i j:Nat):Int):=by omega
 simp only[Datum.sum,hmin,ZdF a i _ (Nat.le_max_left i j),ZdF b j _ (Nat.le_max_right i j),←Int.add_mul,Option.map_some]
 generalize max i j=K
 have hp:(0:Int)<(2^K:Nat):=by have:=Zbg K;omega
 have hz:(a+b)*((2^K:Nat):Int)=0↔a+b=0:=by
  rw[Int.mul_eq_zero];omega
 have hl:(a+b)*((2^K:Nat):Int)<0↔a+b<0:=by
  constructor
  ·intro h;by_cases hc:a+b<0
   ·exact hc
   ·exact absurd h (Int.not_lt.2 (Int.mul_nonneg (by omega) (by omega)))
  ·intro h;exact Int.mul_neg_of_neg_of_pos h hp
 have hs:(if (a+b)*((2^K:Nat):Int)=0 then decide (a<0)&&decide (b<0)else decide ((a+b)*((2^K:Nat):Int)<0))=decide (a+b<0):=by
  by_cases h0:a+b=0
  ·rw[if_pos (hz.2 h0)]
   by_cases hn:a<0
   ·simp[show ¬b<0 by omega,show ¬a+b<0 by omega]
   ·simp[hn,show ¬a+b<0 by omega]
  ·rw[if_neg (fun h=>h0 (hz.1 h))];simp only[hl]
 rw[hs]
 show some (single.nearest _ _ _)=some (single.nearest _ _ 0)
 rw[Int.natAbs_mul,Int.natAbs_natCast,ZyT _ _ _ (by omega)]
theorem ZnQ{a b:Int}(ha: -16777216<a∧a<16777216)(hb: -16777216<b∧b<16777216):std.ford .f32 (wN a) (wN b)=some (compare a b):=by
 obtain⟨i,hi⟩:=Zjl a (by omega)
 obtain⟨j,hj⟩:=Zjl b (by omega)
 show(single.read (wN a)).order (single.read (wN b))=_
 rw[hi,hj]
 have hmin:min (-(i:Int)) (-(j:Int))= -((max i j:Nat):Int):=by omega
 simp only[Datum.order,hmin,ZdF a i _ (Nat.le_max_left i j),ZdF b j _ (Nat.le_max_right i j)]
 have hp:(0:Int)<(2^(max i j):Nat):=by have:=Zbg (max i j);omega
 congr 1
 rcases Int.lt_trichotomy a b with h |h |h
 ·rw[Int.compare_eq_lt.2 h,Int.compare_eq_lt.2 (Int.mul_lt_mul_of_pos_right h hp)]
 ·subst h;simp
 ·rw[Int.compare_eq_gt.2 h,Int.compare_eq_gt.2 (Int.mul_lt_mul_of_pos_right h hp)]
theorem ZJ0{n:Int}(h: -16777216<n∧n<16777216):std.f2i .f32 (wN n)=some n:=by
 obtain⟨k,hk⟩:=Zjl n h
 show(single.read (wN n)).toInt .zero=_
 rw[hk]
 simp only[Datum.toInt,Datum.integral,show(-(k:Int)).toNat=0 by omega,Nat.shiftLeft_zero,show(- -(k:Int)).toNat=k by omega,Zxe]
 have:=ZdF n 0 0 (Nat.le_refl 0)
 simpa using this
theorem ZN9{a b:Int}(ha: -16777216<a∧a<16777216)(hb: -16777216<b∧b<16777216):mmF std .f32 (wN a) (wN b)=wN (max a b):=by
 unfold mmF
 rw[ZnQ ha hb]
 rcases Int.lt_trichotomy a b with h |h |h
 ·rw[Int.compare_eq_lt.2 h,show max a b=b by omega]
 ·subst h
  rw[Int.max_self]
  split
  ·rfl
  ·rfl
  ·split<;>rfl
 ·rw[Int.compare_eq_gt.2 h,show max a b=a by omega]
theorem ZKY:(3351465984:Nat)=wN (-100000):=by decide
theorem ZDJ:(0:Nat)=wN 0:=rfl
end Go.Proofs.YtjhldefnjghcdaaGreat
namespace Go.Proofs.YtjhldefnjghcdaaGreat
section
variable (m p q:Int)(so:zI)
def Zqf:zI:=List.replicate (stS m) (-100000)
end
def reT(T:Nat):List Nat:=(List.range (T+1)).map (· +1)
theorem ZjI(T:Nat):(reT T).length=T+1:=by simp[reT]
theorem ZdP{T j:Nat}(h:j≤T):(reT T).getD j 0=j+1:=by
 unfold reT
 rw[List.getD_eq_getElem?_getD,List.getElem?_map,List.getElem?_range (by omega)];rfl
section
variable {m p q:Int}{so:zI}
end
theorem Zyv(so:zI)(t:Nat){a b:Int}(ha:a=0∨a=1)(hb:b=0∨b=1):coI a (so.getD (2*t) 0)+coI b (so.getD (2*t+1) 0)=gaI so t a b:=by
 unfold coI gaI
 rcases ha with rfl |rfl<;>rcases hb with rfl |rfl<;>simp<;>omega
section
variable {C:Ctx}(hC:C.P=Tryz.prog)(m p q:Int)(so:zI)(h:OkC m p q so)
include hC h
end
def fT(T k:Nat):List Nat:=(List.range (T+1)).map fun j=>if j<k then j+1 else 0
theorem ZDb(T:Nat):fT T 0=List.replicate (T+1) 0:=by
 unfold fT
 apply List.ext_getElem?
 intro i
 rw[List.getElem?_map,List.getElem?_replicate]
 by_cases h:i<T+1
 ·rw[List.getElem?_range h];simp[h]
 ·rw[List.getElem?_eq_none (by simp;omega)];simp[h]
theorem ZGi(T:Nat):fT T (T+1)=reT T:=by
 unfold fT reT
 apply List.map_congr_left
 intro i hi
 have:=List.mem_range.1 hi
 rw[if_pos (by omega)]
theorem ZHI(T k:Nat):(fT T k).length=T+1:=by simp[fT]
theorem ZHB{T k:Nat}(hk:k≤T):(fT T k).set k (k+1)=fT T (k+1):=by
 unfold fT
 apply List.ext_getElem?
 intro i
 rw[List.getElem?_set,List.getElem?_map,List.getElem?_map,List.length_map,List.length_range]
 by_cases hi:i<T+1
 ·rw[List.getElem?_range hi]
  by_cases hj:k=i
  ·subst hj;simp[hi]
  ·have:(i<k+1)↔(i<k):=by omega
   simp[hj,this]
 ·rw[List.getElem?_eq_none (by simp;omega)]
  simp;omega
section
variable {C:Ctx}(hC:C.P=Tryz.prog)(m p q:Int)(so:zI)(h:OkC m p q so)
include hC h
end
def N6:List Ctr:=N5
theorem ZoV:Zar Tryz.prog N6:=ZdY
end Go.Proofs.YtjhldefnjghcdaaGreat
namespace Go.Proofs.YtjhldefnjghcdaaGreat
def wR(l:zI):List Nat:=l.map wN
theorem ZkZ(l:zI){j:Nat}(h:j<l.length):(wR l).getD j 0=wN (l.getD j 0):=by
 unfold wR
 rw[List.getD_eq_getElem?_getD,List.getElem?_map,List.getD_eq_getElem?_getD,List.getElem?_eq_getElem h];rfl
theorem ZwL(l:zI)(j:Nat)(x:Int):(wR l).set j (wN x)=wR (l.set j x):=by unfold wR;rw[List.map_set]
theorem Ziz(l:zI):(wR l).length=l.length:=by simp[wR]
def rw2(T:Nat)(g:Nat→zI):List (List Nat):=[]::(List.range (T+1)).map fun j=>wR (g j)
theorem ZnW(T:Nat)(g:Nat→zI):(rw2 T g).length=T+2:=by simp[rw2]
theorem Zq5{T j:Nat}(g:Nat→zI)(h:j≤T):(rw2 T g).getD (j+1) []=wR (g j):=by
 unfold rw2
 rw[List.getD_cons_succ,List.getD_eq_getElem?_getD,List.getElem?_map,List.getElem?_range (by omega)];rfl
theorem ZBQ{T j:Nat}(g:Nat→zI)(x:zI):(rw2 T g).set (j+1) (wR x)=rw2 T (fun i=>if i=j then x else g i):=by
 unfold rw2
 rw[List.set_cons_succ]
 congr 1
 apply List.ext_getElem?
 intro i
 rw[List.getElem?_set,List.getElem?_map,List.getElem?_map,List.length_map,List.length_range]
 by_cases hi:i<T+1
 ·rw[List.getElem?_range hi]
  by_cases hj:j=i
  ·subst hj;simp[hi]
  ·simp[hj,show ¬i=j from fun e=>hj e.symm]
 ·rw[List.getElem?_eq_none (by simp;omega)]
  simp;omega
section
variable (m p q:Int)(so:zI)
def gB(t:Nat)(x:zI)(j:Nat):zI:=if t<j then dpP m p q so (Zab so-j)else if j=t then x else Zqf m
def upF(S:Nat)(v:Nat→Int)(s:Nat):zI:=(List.range s).map v++List.replicate (S-s) (-100000)
end
theorem ZFo{m p q:Int}{so:zI}(t:Nat)(x y:zI):(fun i=>if i=t then y else gB m p q so t x i)=gB m p q so t y:=by
 funext i
 unfold gB
 by_cases h:i=t
 ·subst h;simp
 ·simp[h]
theorem ZCE{m p q:Int}{so:zI}(t:Nat):gB m p q so (t+1) (dpP m p q so (Zab so-(t+1)))=gB m p q so t (Zqf m):=by
 funext i
 unfold gB
 by_cases h:t+1<i
 ·rw[if_pos h,if_pos (by omega)]
 ·rw[if_neg h]
  by_cases h2:i=t+1
  ·subst h2;rw[if_pos rfl,if_pos (by omega)]
  ·rw[if_neg h2,if_neg (by omega)];split<;>rfl
theorem ZdN{m p q:Int}{so:zI}(h:OkC m p q so){n:Nat}(hn:n≤Zab so){s:Nat}(hs:s<stS m): -100000≤(dpP m p q so n).getD s 0∧(dpP m p q so n).getD s 0≤14*n:=by
 have w:=Zf9 h n hn s hs
 obtain⟨hg,_,hl2,hl3⟩:=h.soft
 have h2:=ZJN (m:=m) (p:=p) (q:=q) hg n s
 have hT:Zab so≤303:=by unfold Zab;omega
 unfold Way at w;omega
section
variable {C:Ctx}(hC:C.P=Tryz.prog)(m p q:Int)(so:zI)(h:OkC m p q so)
include hC h
theorem B1(t s:Nat)(ht:t<Zab so)(hs:s<stS m)(x:zI)(hxl:x.length=stS m)(hx: -100000≤x.getD s 0∧x.getD s 0≤100000)(n7:Int)(b8 b9:Bool)(j:Nat)(b:Int)(hb:b=0∨b=1∧t<ZbQ m so)(r:AV)(fr:Option Fresh)
 (hn:Ev C (ZdO m p q so (reT (Zab so)) t n7 b8 b9 j s (b+1) (rw2 (Zab so) (gB m p q so t (x.set s (upP m p q so (dpP m p q so (Zab so-(t+1))) t s b (x.getD s 0)))))) (ZcL m p q so (reT (Zab so)) t n7 b8 b9 j s (b+1) (rw2 (Zab so) (gB m p q so t (x.set s (upP m p q so (dpP m p q so (Zab so-(t+1))) t s b (x.getD s 0)))))) (ZaD 53 r fr)):
 Ev C (ZdO m p q so (reT (Zab so)) t n7 b8 b9 j s b (rw2 (Zab so) (gB m p q so t x))) (ZcL m p q so (reT (Zab so)) t n7 b8 b9 j s b (rw2 (Zab so) (gB m p q so t x))) (ZaD 53 r fr):=by
 obtain⟨hg,_,hl2,hl3⟩:=h.soft
 have hlen:2*Zab so≤so.length:=by unfold Zab;omega
 have hm:=(Zan h.cv).1
 have e1:(reT (Zab so)).getD t 0=t+1:=ZdP (by omega)
 have e2:(reT (Zab so)).getD (t+1) 0=t+2:=ZdP (by omega)
 have e3:(rw2 (Zab so) (gB m p q so t x)).getD (t+2) []=wR (dpP m p q so (Zab so-(t+1))):=by rw[Zq5 _ (by omega),gB,if_pos (by omega)]
 have e4:(rw2 (Zab so) (gB m p q so t x)).getD (t+1) []=wR x:=by rw[Zq5 _ (by omega),gB,if_neg (by omega),if_pos rfl]
 have e5:=ZnW (Zab so) (gB m p q so t x)
 have e6:∀y,(rw2 (Zab so) (gB m p q so t x)).set (t+1) (wR y)=rw2 (Zab so) (gB m p q so t y):=fun y=>by rw[ZBQ,ZFo]
 have e7:=ZjI (Zab so)
 have hdl:=Zg8 m p q so (Zab so-(t+1))
 have hbb:b=0∨b=1:=by omega
 obtain⟨s1,s2,s3⟩:=Zbk h hs hbb
 have k1:(2*(t:Int)).toNat=2*t:=by omega
 have k2:(2*(t:Int)+1).toNat=2*t+1:=by omega
 have hco:=Zyv so t (ZdC m p s b) (ZdC m q s b)
 have hgl:=Zgi (m:=m) (p:=p) (q:=q) hg t s b
 have a1:=Zd1 hg (2*t)
 have a2:=Zd1 hg (2*t+1)
 have hD:=ZdN h (n:=Zab so-(t+1)) (by omega) s3
 have hbt:t<ZbQ m so↔¬Zdp m so≤t:=by unfold ZbQ Zdp ZaC;omega
 have h108:Zy9 m so=true:=decide_eq_true (by omega)
 have hT:Zab so≤303:=by unfold Zab;omega
 unfold gnI at hgl
 have f1:(wR x).getD s 0=wN (x.getD s 0):=ZkZ x (by omega)
 have f2:(wR (dpP m p q so (Zab so-(t+1)))).getD (nxS m s b).toNat 0=wN ((dpP m p q so (Zab so-(t+1))).getD (nxS m s b).toNat 0):=ZkZ _ (by omega)
 have f3:std.fadd .f32 (wN ((dpP m p q so (Zab so-(t+1))).getD (nxS m s b).toNat 0)) (std.i2f .f32 (gaI so t (oS m p s b) (oS m q s b)))=some (wN ((dpP m p q so (Zab so-(t+1))).getD (nxS m s b).toNat 0+gaI so t (oS m p s b) (oS m q s b))):=Zru (by omega) (by omega)
 have f4:=ZnQ (a:=x.getD s 0) (b:=(dpP m p q so (Zab so-(t+1))).getD (nxS m s b).toNat 0+gaI so t (oS m p s b) (oS m q s b)) (by omega) (by omega)
 have f5:=ZN9 (a:=x.getD s 0) (b:=(dpP m p q so (Zab so-(t+1))).getD (nxS m s b).toNat 0+gaI so t (oS m p s b) (oS m q s b)) (by omega) (by omega)
 have f6:=Ziz x
 have f7:=Ziz (dpP m p q so (Zab so-(t+1)))
 have hu:upP m p q so (dpP m p q so (Zab so-(t+1))) t s b (x.getD s 0)=max (x.getD s 0) ((dpP m p q so (Zab so-(t+1))).getD (nxS m s b).toNat 0+gaI so t (oS m p s b) (oS m q s b)):=rfl
 rw[hu]at hn
 refine tgo hC ZdY Znd ?_
 rcases hb with rfl |⟨rfl,hb⟩
 ·simp[-List.getD_eq_getElem?_getD,List.getD_cons_zero,List.getD_cons_succ,Zdf,e1,e2,e3,e4,e5,e6,e7,s1,s2,s3,k1,k2,hco,hxl,hdl,hs,h108,f1,f2,f3,f4,f5,f6,f7,ZwL]at hn⊢
  refine⟨?_,hn⟩
  omega
 ·have hb2:=hbt.1 hb
  simp[-List.getD_eq_getElem?_getD,List.getD_cons_zero,List.getD_cons_succ,Zdf,e1,e2,e3,e4,e5,e6,e7,s1,s2,s3,k1,k2,hco,hxl,hdl,hs,h108,hb2,f1,f2,f3,f4,f5,f6,f7,ZwL]at hn⊢
  refine⟨?_,hn⟩
  omega
theorem B1x(t s:Nat)(ht:t<Zab so)(hs:s<stS m)(rows:List (List Nat))(n7:Int)(b8 b9:Bool)(j:Nat)(b:Int)(hb:b=2∨b=1∧¬t<ZbQ m so)(r:AV)(fr:Option Fresh)
 (hn:Ev C (Zf7 m p q so (reT (Zab so)) t n7 b8 b9 j ((s+1:Nat):Int) rows) (ZeJ m p q so (reT (Zab so)) t n7 b8 b9 j ((s+1:Nat):Int) rows) (ZaD 53 r fr)):
 Ev C (ZdO m p q so (reT (Zab so)) t n7 b8 b9 j s b rows) (ZcL m p q so (reT (Zab so)) t n7 b8 b9 j s b rows) (ZaD 53 r fr):=by
 have hm:=(Zan h.cv).1
 have h2:=Zbe hm
 obtain⟨hg,_,hl2,hl3⟩:=h.soft
 have hbt:t<ZbQ m so↔¬Zdp m so≤t:=by unfold ZbQ Zdp ZaC;omega
 have h108:Zy9 m so=true:=decide_eq_true (by omega)
 refine tgo hC ZdY Znd ?_
 rcases hb with rfl |⟨rfl,hb⟩
 ·simp[Zdf]at hn⊢
  exact⟨by omega,hn⟩
 ·have hb2:Zdp m so≤t:=by omega
  simp[Zdf,h108,hb2]at hn⊢
  exact⟨by omega,hn⟩
end
theorem ZDf{S s:Nat}(v:Nat→Int)(h:s≤S):(upF S v s).length=S:=by simp[upF];omega
theorem ZBK{S s:Nat}(v:Nat→Int)(h:s<S)(x:Int):(upF S v s).set s x=(List.range s).map v++x::List.replicate (S-s-1) (-100000):=by
 unfold upF
 rw[List.set_append,if_neg (by simp),show S-s=(S-s-1)+1 by omega,List.replicate_succ]
 simp
theorem Zy7{S s:Nat}(v:Nat→Int)(h:s<S):(upF S v s).set s (v s)=upF S v (s+1):=by
 rw[ZBK v h,upF,List.range_succ,List.map_append,List.append_assoc,show S-(s+1)=S-s-1 by omega];rfl
theorem ZEh{S s:Nat}(v:Nat→Int)(h:s<S):(upF S v s).getD s 0= -100000:=by
 unfold upF
 rw[List.getD_eq_getElem?_getD,List.getElem?_append_right (by simp),List.length_map,List.length_range,Nat.sub_self,List.getElem?_replicate,if_pos (by omega)];rfl
theorem Zzj(S:Nat)(v:Nat→Int):upF S v 0=List.replicate S (-100000):=by simp[upF]
theorem ZAH(S:Nat)(v:Nat→Int):upF S v S=(List.range S).map v:=by simp[upF]
section
variable {C:Ctx}(hC:C.P=Tryz.prog)(m p q:Int)(so:zI)(h:OkC m p q so)
include hC h
theorem B0(t:Nat)(ht:t<Zab so)(b8 b9:Bool)(j:Nat)(r:AV)(fr:Option Fresh)
 (hn:Ev C (ZfQ m p q so (reT (Zab so)) ((t:Int)-1) (rw2 (Zab so) (gB m p q so t (dpP m p q so (Zab so-t)))) j) (Zef m p q so (reT (Zab so)) ((t:Int)-1) (rw2 (Zab so) (gB m p q so t (dpP m p q so (Zab so-t)))) j) (ZaD 53 r fr)):
 ∀k s:Nat,s+k=stS m→
 Ev C (Zf7 m p q so (reT (Zab so)) t (stN m) b8 b9 j s (rw2 (Zab so) (gB m p q so t (upF (stS m) (Zsy m p q so (dpP m p q so (Zab so-(t+1))) t) s)))) (ZeJ m p q so (reT (Zab so)) t (stN m) b8 b9 j s (rw2 (Zab so) (gB m p q so t (upF (stS m) (Zsy m p q so (dpP m p q so (Zab so-(t+1))) t) s)))) (ZaD 53 r fr):=by
 have hm:=(Zan h.cv).1
 have h2:=Zbe hm
 obtain⟨hg,_,hl2,hl3⟩:=h.soft
 have hT:Zab so≤303:=by unfold Zab;omega
 intro k
 induction k with
 |zero=>
  intro s hs
  refine tgo hC ZdY Zls ?_
  have e9:(s:Int)=stN m:=by omega
  have e8:dpP m p q so (Zab so-t)=upF (stS m) (Zsy m p q so (dpP m p q so (Zab so-(t+1))) t) s:=by
   rw[show s=stS m by omega,ZAH,show Zab so-t=(Zab so-(t+1))+1 by omega,dpP,show Zab so-1-(Zab so-(t+1))=t by omega]
  rw[e8]at hn
  simp[Zh8,e9]at hn⊢
  exact⟨by omega,hn⟩
 |succ k ih=>
  intro s hs
  refine tgo hC ZdY Zls ?_
  have e9:(s:Int)<stN m:=by omega
  have hs':s<stS m:=by omega
  simp[Zh8,e9]
  have ih':=ih (s+1) (by omega)
  have hl:=ZDf (Zsy m p q so (dpP m p q so (Zab so-(t+1))) t) (show s≤stS m by omega)
  have hgt:=ZEh (Zsy m p q so (dpP m p q so (Zab so-(t+1))) t) hs'
  rw[←Zy7 _ hs']at ih'
  apply B1 hC m p q so h t s ht hs' _ hl (by omega) _ _ _ _ 0 (Or.inl rfl)
  rw[hgt]
  by_cases hb:t<ZbQ m so
  ·have hgl:=Zgi (m:=m) (p:=p) (q:=q) hg t s 0
   have hD:=ZdN h (n:=Zab so-(t+1)) (by omega) (Zbk h hs' (b:=0) (Or.inl rfl)).2.2
   have e11:∀x,((upF (stS m) (Zsy m p q so (dpP m p q so (Zab so-(t+1))) t) s).set s x).getD s 0=x:=by
    intro x;rw[List.getD_eq_getElem?_getD,List.getElem?_set];simp[hl,hs']
   apply B1 hC m p q so h t s ht hs' _ (by rw[List.length_set,hl]) (by rw[e11];unfold upP;omega) _ _ _ _ _ (Or.inr ⟨rfl,hb⟩)
   rw[e11,List.set_set]
   apply B1x hC m p q so h t s ht hs' _ _ _ _ _ _ (Or.inl rfl)
   rw[Zsy,if_pos hb]at ih'
   exact ih'
  ·apply B1x hC m p q so h t s ht hs' _ _ _ _ _ _ (Or.inr ⟨rfl,hb⟩)
   rw[Zsy,if_neg hb]at ih'
   exact ih'
theorem ZQY(r:AV)(fr:Option Fresh)
 (hn:∀j:Nat,Ev C (ZbT m p q so (reT (Zab so)) (rw2 (Zab so) (gB m p q so 0 (dpP m p q so (Zab so)))) (Zdp m so) j 0 0 0 []) (Zbu m p q so (reT (Zab so)) (rw2 (Zab so) (gB m p q so 0 (dpP m p q so (Zab so)))) (Zdp m so) j 0 0 0 []) (ZaD 53 r fr)):
 ∀t j:Nat,t≤Zab so→
 Ev C (ZfQ m p q so (reT (Zab so)) ((t:Int)-1) (rw2 (Zab so) (gB m p q so t (dpP m p q so (Zab so-t)))) j) (Zef m p q so (reT (Zab so)) ((t:Int)-1) (rw2 (Zab so) (gB m p q so t (dpP m p q so (Zab so-t)))) j) (ZaD 53 r fr):=by
 have hm:=(Zan h.cv).1
 have h2:=Zbe hm
 obtain⟨hg,_,hl2,hl3⟩:=h.soft
 have hmm:ZqI m=true:=decide_eq_true (by omega)
 have h108:Zy9 m so=true:=decide_eq_true (by omega)
 intro t
 induction t with
 |zero=>
  intro j _
  refine tgo hC ZdY Znm ?_
  have i:=hn (0+List.length (List.replicate j Blk.dfr))
  simp[Zgh,h108]at i⊢
  exact i
 |succ t ih=>
  intro j ht
  refine tgo hC ZdY Znm ?_
  have i:=B0 hC m p q so h t (by omega) true true (j+1) r fr (ih (j+1) (by omega)) (stS m) 0 (by omega)
  rw[Zzj,show List.replicate (stS m) (-100000)=Zqf m from rfl,←ZCE]at i
  have e1:((t+1:Nat):Int)-1=t:=by omega
  rw[e1]
  simp[Zgh,hmm]at i⊢
  exact i
end
end Go.Proofs.YtjhldefnjghcdaaGreat
namespace Go.Proofs.YtjhldefnjghcdaaGreat
theorem Zpx{m p q:Int}{so:zI}{t:Nat}(h:t≤Zab so):(rw2 (Zab so) (gB m p q so 0 (dpP m p q so (Zab so)))).getD (t+1) []=wR (dpP m p q so (Zab so-t)):=by
 rw[Zq5 _ h,gB]
 by_cases h0:0<t
 ·rw[if_pos h0]
 ·rw[if_neg h0,if_pos (by omega),show t=0 by omega];rfl
def ZlW(m p q:Int)(so:zI)(t st:Nat)(b:Int):Prop:=(dpP m p q so (Zab so-t-1)).getD (nxS m st b).toNat 0+gnI m p q so t st b=(dpP m p q so (Zab so-t)).getD st 0
section
variable {C:Ctx}(hC:C.P=Tryz.prog)(m p q:Int)(so:zI)(h:OkC m p q so)
include hC h
theorem Z1(t s st:Nat)(ht:t<ZbQ m so)(hs:s<stS m)(hst:st<stS m)(l:zI)(b8 b9:Bool)(j j2:Nat)(b:Int)(hb:b=0∨b=1)(hne:s=st→¬ZlW m p q so t st b)(r:AV)(fr:Option Fresh)
 (hn:Ev C (Zc6 m p q so (reT (Zab so)) (rw2 (Zab so) (gB m p q so 0 (dpP m p q so (Zab so)))) (Zdp m so) j t st l (stN m) b8 b9 j2 s (b+1)) (Zce m p q so (reT (Zab so)) (rw2 (Zab so) (gB m p q so 0 (dpP m p q so (Zab so)))) (Zdp m so) j t st l (stN m) b8 b9 j2 s (b+1)) (ZaD 53 r fr)):
 Ev C (Zc6 m p q so (reT (Zab so)) (rw2 (Zab so) (gB m p q so 0 (dpP m p q so (Zab so)))) (Zdp m so) j t st l (stN m) b8 b9 j2 s b) (Zce m p q so (reT (Zab so)) (rw2 (Zab so) (gB m p q so 0 (dpP m p q so (Zab so)))) (Zdp m so) j t st l (stN m) b8 b9 j2 s b) (ZaD 53 r fr):=by
 obtain⟨hg,_,hl2,hl3⟩:=h.soft
 have hlen:2*Zab so≤so.length:=by unfold Zab;omega
 have hm:=(Zan h.cv).1
 have hbb:ZbQ m so≤Zab so:=by unfold ZbQ Zab;omega
 have hT:Zab so≤303:=by unfold Zab;omega
 have e1:(reT (Zab so)).getD t 0=t+1:=ZdP (by omega)
 have e2:(reT (Zab so)).getD (t+1) 0=t+2:=ZdP (by omega)
 have e3:(rw2 (Zab so) (gB m p q so 0 (dpP m p q so (Zab so)))).getD (t+2) []=wR (dpP m p q so (Zab so-t-1)):=Zpx (t:=t+1) (by omega)
 have e4:(rw2 (Zab so) (gB m p q so 0 (dpP m p q so (Zab so)))).getD (t+1) []=wR (dpP m p q so (Zab so-t)):=Zpx (by omega)
 have e5:=ZnW (Zab so) (gB m p q so 0 (dpP m p q so (Zab so)))
 have e7:=ZjI (Zab so)
 have hdl:=Zg8 m p q so (Zab so-t-1)
 have hdl2:=Zg8 m p q so (Zab so-t)
 obtain⟨s1,s2,s3⟩:=Zbk h hs hb
 have k1:(2*(t:Int)).toNat=2*t:=by omega
 have k2:(2*(t:Int)+1).toNat=2*t+1:=by omega
 have hco:=Zyv so t (ZdC m p s b) (ZdC m q s b)
 have hgl:=Zgi (m:=m) (p:=p) (q:=q) hg t s b
 have a1:=Zd1 hg (2*t)
 have a2:=Zd1 hg (2*t+1)
 have hD:=ZdN h (n:=Zab so-t-1) (by omega) s3
 have hX:=ZdN h (n:=Zab so-t) (by omega) hst
 have hbt:t<ZbQ m so↔¬Zdp m so≤t:=by unfold ZbQ Zdp ZaC;omega
 have h108:Zy9 m so=true:=decide_eq_true (by omega)
 have hb2:=hbt.1 ht
 unfold ZlW gnI at hne
 unfold gnI at hgl
 have f1:(wR (dpP m p q so (Zab so-t))).getD st 0=wN ((dpP m p q so (Zab so-t)).getD st 0):=ZkZ _ (by omega)
 have f2:(wR (dpP m p q so (Zab so-t-1))).getD (nxS m s b).toNat 0=wN ((dpP m p q so (Zab so-t-1)).getD (nxS m s b).toNat 0):=ZkZ _ (by omega)
 have f3:std.fadd .f32 (wN ((dpP m p q so (Zab so-t-1)).getD (nxS m s b).toNat 0)) (std.i2f .f32 (gaI so t (oS m p s b) (oS m q s b)))=some (wN ((dpP m p q so (Zab so-t-1)).getD (nxS m s b).toNat 0+gaI so t (oS m p s b) (oS m q s b))):=Zru (by omega) (by omega)
 have f4:=ZnQ (a:=(dpP m p q so (Zab so-t-1)).getD (nxS m s b).toNat 0+gaI so t (oS m p s b) (oS m q s b)) (b:=(dpP m p q so (Zab so-t)).getD st 0) (by omega) (by omega)
 have f6:=Ziz (dpP m p q so (Zab so-t))
 have f7:=Ziz (dpP m p q so (Zab so-t-1))
 have g1:t<Zab so:=by omega
 have g2:t<Zab so+1:=by omega
 have g3:(0:Int)≤(t:Int)+1:=by omega
 have g4: -9223372036854775808≤(t:Int)+1:=by omega
 have g5:(t:Int)+1≤9223372036854775807:=by omega
 have g6:∀x,asB true x=x:=fun x=>rfl
 refine tgo hC ZdY Zid ?_
 by_cases hq:s=st
 ·subst hq
  have f8:=hne rfl
  have f9:(compare ((dpP m p q so (Zab so-t-1)).getD (nxS m s b).toNat 0+gaI so t (oS m p s b) (oS m q s b)) ((dpP m p q so (Zab so-t)).getD s 0)==Ordering.eq)=false:=by
   rw[beq_eq_false_iff_ne];exact fun e=>f8 (Int.compare_eq_eq.1 e)
  rcases hb with rfl |rfl
  ·simp[-List.getD_eq_getElem?_getD,List.getD_cons_zero,List.getD_cons_succ,Zbs,e1,e2,e3,e4,e5,e7,s1,s2,s3,k1,k2,hco,hdl,hdl2,hs,h108,hb2,f1,f2,f3,f4,f6,f7,f9,g1,g2,g3,g4,g5,g6]at hn⊢
   exact⟨by omega,hn⟩
  ·simp[-List.getD_eq_getElem?_getD,List.getD_cons_zero,List.getD_cons_succ,Zbs,e1,e2,e3,e4,e5,e7,s1,s2,s3,k1,k2,hco,hdl,hdl2,hs,h108,hb2,f1,f2,f3,f4,f6,f7,f9,g1,g2,g3,g4,g5,g6]at hn⊢
   exact⟨by omega,hn⟩
 ·have hq':¬(s:Int)=st:=by omega
  rcases hb with rfl |rfl
  ·simp[-List.getD_eq_getElem?_getD,List.getD_cons_zero,List.getD_cons_succ,Zbs,e1,e2,e3,e4,e5,e7,s1,s2,s3,k1,k2,hco,hdl,hdl2,h108,hb2,f1,f2,f3,f4,f6,f7,hst,hq',g1,g2,g3,g4,g5]at hn⊢
   exact⟨by omega,hn⟩
  ·simp[-List.getD_eq_getElem?_getD,List.getD_cons_zero,List.getD_cons_succ,Zbs,e1,e2,e3,e4,e5,e7,s1,s2,s3,k1,k2,hco,hdl,hdl2,h108,hb2,f1,f2,f3,f4,f6,f7,hst,hq',g1,g2,g3,g4,g5]at hn⊢
   exact⟨by omega,hn⟩
theorem Z1e(t st:Nat)(ht:t<ZbQ m so)(hs:st<stS m)(l:zI)(hl:l.length≤1000)(b8 b9:Bool)(j j2:Nat)(b:Int)(hb:b=0∨b=1)(he:ZlW m p q so t st b)(r:AV)(fr:Option Fresh)
 (hn:Ev C (ZbT m p q so (reT (Zab so)) (rw2 (Zab so) (gB m p q so 0 (dpP m p q so (Zab so)))) (Zdp m so) j ((t+1:Nat):Int) j2 (nxS m st b) (l++[b])) (Zbu m p q so (reT (Zab so)) (rw2 (Zab so) (gB m p q so 0 (dpP m p q so (Zab so)))) (Zdp m so) j ((t+1:Nat):Int) j2 (nxS m st b) (l++[b])) (ZaD 53 r fr)):
 Ev C (Zc6 m p q so (reT (Zab so)) (rw2 (Zab so) (gB m p q so 0 (dpP m p q so (Zab so)))) (Zdp m so) j t st l (stN m) b8 b9 j2 st b) (Zce m p q so (reT (Zab so)) (rw2 (Zab so) (gB m p q so 0 (dpP m p q so (Zab so)))) (Zdp m so) j t st l (stN m) b8 b9 j2 st b) (ZaD 53 r fr):=by
 obtain⟨hg,_,hl2,hl3⟩:=h.soft
 have hlen:2*Zab so≤so.length:=by unfold Zab;omega
 have hm:=(Zan h.cv).1
 have hbb:ZbQ m so≤Zab so:=by unfold ZbQ Zab;omega
 have hT:Zab so≤303:=by unfold Zab;omega
 have e1:(reT (Zab so)).getD t 0=t+1:=ZdP (by omega)
 have e2:(reT (Zab so)).getD (t+1) 0=t+2:=ZdP (by omega)
 have e3:(rw2 (Zab so) (gB m p q so 0 (dpP m p q so (Zab so)))).getD (t+2) []=wR (dpP m p q so (Zab so-t-1)):=Zpx (t:=t+1) (by omega)
 have e4:(rw2 (Zab so) (gB m p q so 0 (dpP m p q so (Zab so)))).getD (t+1) []=wR (dpP m p q so (Zab so-t)):=Zpx (by omega)
 have e5:=ZnW (Zab so) (gB m p q so 0 (dpP m p q so (Zab so)))
 have e7:=ZjI (Zab so)
 have hdl:=Zg8 m p q so (Zab so-t-1)
 have hdl2:=Zg8 m p q so (Zab so-t)
 obtain⟨s1,s2,s3⟩:=Zbk h hs hb
 have k1:(2*(t:Int)).toNat=2*t:=by omega
 have k2:(2*(t:Int)+1).toNat=2*t+1:=by omega
 have hco:=Zyv so t (ZdC m p st b) (ZdC m q st b)
 have hgl:=Zgi (m:=m) (p:=p) (q:=q) hg t st b
 have a1:=Zd1 hg (2*t)
 have a2:=Zd1 hg (2*t+1)
 have hD:=ZdN h (n:=Zab so-t-1) (by omega) s3
 have hX:=ZdN h (n:=Zab so-t) (by omega) hs
 have hbt:t<ZbQ m so↔¬Zdp m so≤t:=by unfold ZbQ Zdp ZaC;omega
 have h108:Zy9 m so=true:=decide_eq_true (by omega)
 have hb2:=hbt.1 ht
 unfold ZlW gnI at he
 unfold gnI at hgl
 have f1:(wR (dpP m p q so (Zab so-t))).getD st 0=wN ((dpP m p q so (Zab so-t)).getD st 0):=ZkZ _ (by omega)
 have f2:(wR (dpP m p q so (Zab so-t-1))).getD (nxS m st b).toNat 0=wN ((dpP m p q so (Zab so-t-1)).getD (nxS m st b).toNat 0):=ZkZ _ (by omega)
 have f3:std.fadd .f32 (wN ((dpP m p q so (Zab so-t-1)).getD (nxS m st b).toNat 0)) (std.i2f .f32 (gaI so t (oS m p st b) (oS m q st b)))=some (wN ((dpP m p q so (Zab so-t)).getD st 0)):=by rw[←he];exact Zru (by omega) (by omega)
 have f4:=ZnQ (a:=(dpP m p q so (Zab so-t)).getD st 0) (b:=(dpP m p q so (Zab so-t)).getD st 0) (by omega) (by omega)
 have f6:=Ziz (dpP m p q so (Zab so-t))
 have f7:=Ziz (dpP m p q so (Zab so-t-1))
 have g1:t<Zab so:=by omega
 have g2:t<Zab so+1:=by omega
 have g3:(0:Int)≤(t:Int)+1:=by omega
 have g4: -9223372036854775808≤(t:Int)+1:=by omega
 have g5:(t:Int)+1≤9223372036854775807:=by omega
 have g6:∀x,asB true x=x:=fun x=>rfl
 refine tgo hC ZdY Zid ?_
 rcases hb with rfl |rfl
 ·simp[-List.getD_eq_getElem?_getD,List.getD_cons_zero,List.getD_cons_succ,Zbs,e1,e2,e3,e4,e5,e7,s1,s2,s3,k1,k2,hco,hdl,hdl2,hs,h108,hb2,f1,f2,f3,f4,f6,f7,g1,g2,g3,g4,g5,g6,AV.bx,Zad]at hn⊢
  exact⟨by omega,by omega,hn⟩
 ·simp[-List.getD_eq_getElem?_getD,List.getD_cons_zero,List.getD_cons_succ,Zbs,e1,e2,e3,e4,e5,e7,s1,s2,s3,k1,k2,hco,hdl,hdl2,hs,h108,hb2,f1,f2,f3,f4,f6,f7,g1,g2,g3,g4,g5,g6,AV.bx,Zad]at hn⊢
  exact⟨by omega,by omega,hn⟩
theorem Z0(t st:Nat)(ht:t<ZbQ m so)(hst:st<stS m)(l:zI)(hl:l.length≤1000)(b8 b9:Bool)(j j2:Nat)(r:AV)(fr:Option Fresh)
 (hn0:ZlW m p q so t st 0→Ev C (ZbT m p q so (reT (Zab so)) (rw2 (Zab so) (gB m p q so 0 (dpP m p q so (Zab so)))) (Zdp m so) j ((t+1:Nat):Int) j2 (nxS m st 0) (l++[0])) (Zbu m p q so (reT (Zab so)) (rw2 (Zab so) (gB m p q so 0 (dpP m p q so (Zab so)))) (Zdp m so) j ((t+1:Nat):Int) j2 (nxS m st 0) (l++[0])) (ZaD 53 r fr))
 (hn1:¬ZlW m p q so t st 0→ZlW m p q so t st 1→Ev C (ZbT m p q so (reT (Zab so)) (rw2 (Zab so) (gB m p q so 0 (dpP m p q so (Zab so)))) (Zdp m so) j ((t+1:Nat):Int) j2 (nxS m st 1) (l++[1])) (Zbu m p q so (reT (Zab so)) (rw2 (Zab so) (gB m p q so 0 (dpP m p q so (Zab so)))) (Zdp m so) j ((t+1:Nat):Int) j2 (nxS m st 1) (l++[1])) (ZaD 53 r fr))
 (hn2:¬ZlW m p q so t st 0→¬ZlW m p q so t st 1→Ev C (ZbT m p q so (reT (Zab so)) (rw2 (Zab so) (gB m p q so 0 (dpP m p q so (Zab so)))) (Zdp m so) j ((t+1:Nat):Int) j2 st l) (Zbu m p q so (reT (Zab so)) (rw2 (Zab so) (gB m p q so 0 (dpP m p q so (Zab so)))) (Zdp m so) j ((t+1:Nat):Int) j2 st l) (ZaD 53 r fr)):
 ∀k s:Nat,s+k=stS m→(s≤st∨¬ZlW m p q so t st 0∧¬ZlW m p q so t st 1)→
 Ev C (Zji m p q so (reT (Zab so)) (rw2 (Zab so) (gB m p q so 0 (dpP m p q so (Zab so)))) (Zdp m so) j t st l (stN m) b8 b9 j2 s) (Zgg m p q so (reT (Zab so)) (rw2 (Zab so) (gB m p q so 0 (dpP m p q so (Zab so)))) (Zdp m so) j t st l (stN m) b8 b9 j2 s) (ZaD 53 r fr):=by
 have hm:=(Zan h.cv).1
 have h2:=Zbe hm
 obtain⟨hg,_,hl2,hl3⟩:=h.soft
 have hT:ZbQ m so≤303:=by unfold ZbQ;omega
 intro k
 induction k with
 |zero=>
  intro s hs hq
  have e9:(s:Int)=stN m:=by omega
  obtain⟨q1,q2⟩:¬ZlW m p q so t st 0∧¬ZlW m p q so t st 1:=by
   rcases hq with hq |hq
   ·omega
   ·exact hq
  have i:=hn2 q1 q2
  refine tgo hC ZdY ZnI ?_
  simp[Zhg,e9]at i⊢
  exact⟨by omega,i⟩
 |succ k ih=>
  intro s hs hq
  have e9:(s:Int)<stN m:=by omega
  have hx:∀i:s+1≤st∨¬ZlW m p q so t st 0∧¬ZlW m p q so t st 1,Ev C (Zc6 m p q so (reT (Zab so)) (rw2 (Zab so) (gB m p q so 0 (dpP m p q so (Zab so)))) (Zdp m so) j t st l (stN m) b8 b9 j2 s 2) (Zce m p q so (reT (Zab so)) (rw2 (Zab so) (gB m p q so 0 (dpP m p q so (Zab so)))) (Zdp m so) j t st l (stN m) b8 b9 j2 s 2) (ZaD 53 r fr):=fun i=>by
   have ih':=ih (s+1) (by omega) i
   refine tgo hC ZdY Zid ?_
   simp[Zbs]at ih'⊢
   exact⟨by omega,ih'⟩
  refine tgo hC ZdY ZnI ?_
  simp only[Zhg,ZKw,ZEB,e9,decide_true,if_true]
  show Ev C _ _ _
  by_cases hs2:s=st
  ·subst hs2
   by_cases q0:ZlW m p q so t s 0
   ·exact Z1e hC m p q so h t s ht hst l hl _ _ _ _ 0 (Or.inl rfl) q0 _ _ (hn0 q0)
   ·refine Z1 hC m p q so h t s s ht hst hst l _ _ _ _ 0 (Or.inl rfl) (fun _=>q0) _ _ ?_
    by_cases q1:ZlW m p q so t s 1
    ·exact Z1e hC m p q so h t s ht hst l hl _ _ _ _ 1 (Or.inr rfl) q1 _ _ (hn1 q0 q1)
    ·exact Z1 hC m p q so h t s s ht hst hst l _ _ _ _ 1 (Or.inr rfl) (fun _=>q1) _ _ (hx (Or.inr ⟨q0,q1⟩))
  ·refine Z1 hC m p q so h t s st ht (by omega) hst l _ _ _ _ 0 (Or.inl rfl) (fun e=>absurd e hs2) _ _ ?_
   refine Z1 hC m p q so h t s st ht (by omega) hst l _ _ _ _ 1 (Or.inr rfl) (fun e=>absurd e hs2) _ _ (hx ?_)
   rcases hq with hq |hq
   ·exact Or.inl (by omega)
   ·exact Or.inr hq
theorem Z65:∀k t:Nat,t+k=ZbQ m so→∀(st:Nat) (l:zI) (j j2:Nat),st<stS m→l.length+k≤1000→
 Ev C (ZbT m p q so (reT (Zab so)) (rw2 (Zab so) (gB m p q so 0 (dpP m p q so (Zab so)))) (Zdp m so) j t j2 st l) (Zbu m p q so (reT (Zab so)) (rw2 (Zab so) (gB m p q so 0 (dpP m p q so (Zab so)))) (Zdp m so) j t j2 st l) (ZaD 53 (.tup [.row 0 0, .int .i64 ((dpP m p q so (Zab so)).getD 0 0)]) (some ⟨3,1, .ints .i64 (l++tbP m p q so k t st)⟩)):=by
 have hm:=(Zan h.cv).1
 have h2:=Zbe hm
 have hmm:ZqI m=true:=decide_eq_true (by omega)
 obtain⟨hg,_,hl2,hl3⟩:=h.soft
 have hT:ZbQ m so≤Zab so∧Zab so≤303:=by unfold ZbQ Zab;omega
 intro k
 induction k with
 |zero=>
  intro t ht st l j j2 hst hl
  have hbt:¬(t:Int)<Zdp m so:=by unfold ZbQ at ht;unfold Zdp ZaC;omega
  have e1:(reT (Zab so)).getD 0 0=1:=by rw[ZdP (by omega)]
  have e3:(rw2 (Zab so) (gB m p q so 0 (dpP m p q so (Zab so)))).getD 1 []=wR (dpP m p q so (Zab so)):=Zpx (t:=0) (by omega)
  have e5:=ZnW (Zab so) (gB m p q so 0 (dpP m p q so (Zab so)))
  have e7:=ZjI (Zab so)
  have hdl:=Zg8 m p q so (Zab so)
  have hX:=ZdN h (n:=Zab so) (by omega) (show 0<stS m by omega)
  have f1:(wR (dpP m p q so (Zab so))).getD 0 0=wN ((dpP m p q so (Zab so)).getD 0 0):=ZkZ _ (by omega)
  have f2:=ZJ0 (n:=(dpP m p q so (Zab so)).getD 0 0) (by omega)
  have f6:=Ziz (dpP m p q so (Zab so))
  refine tgo hC ZdY Zmf ?_
  simp[-List.getD_eq_getElem?_getD,ZgA,hbt,e1,e3,e5,e7,hdl,f1,f2,f6,tbP]
  omega
 |succ k ih=>
  intro t ht st l j j2 hst hl
  have hbt:(t:Int)<Zdp m so:=by unfold ZbQ at ht;unfold Zdp ZaC;omega
  refine tgo hC ZdY Zmf ?_
  have i:=Z0 hC m p q so h t st (by omega) hst l (by omega) true true j (j2+1) (.tup [.row 0 0, .int .i64 ((dpP m p q so (Zab so)).getD 0 0)]) (some ⟨3,1, .ints .i64 (l++tbP m p q so (k+1) t st)⟩) (fun q0=>by
   obtain⟨s1,s2,s3⟩:=Zbk h hst (b:=0) (Or.inl rfl)
   have:=ih (t+1) (by omega) (nxS m st 0).toNat (l++[0]) j (j2+1) s3 (by simp;omega)
   rw[Int.toNat_of_nonneg s2,List.append_assoc]at this
   unfold ZlW at q0
   rw[tbP,if_pos q0]
   exact this) (fun q0 q1=>by
   obtain⟨s1,s2,s3⟩:=Zbk h hst (b:=1) (Or.inr rfl)
   have:=ih (t+1) (by omega) (nxS m st 1).toNat (l++[1]) j (j2+1) s3 (by simp;omega)
   rw[Int.toNat_of_nonneg s2,List.append_assoc]at this
   unfold ZlW at q0 q1
   rw[tbP,if_neg q0,if_pos q1]
   exact this) (fun q0 q1=>by
   have:=ih (t+1) (by omega) st l j (j2+1) hst (by omega)
   unfold ZlW at q0 q1
   rw[tbP,if_neg q0,if_neg q1]
   exact this) (stS m) 0 (by omega) (Or.inl (Nat.zero_le _))
  simp[ZgA,hbt,hmm]at i⊢
  exact i
end
theorem ZFm{m:Int} :wR (Zqf m)=List.replicate (stN m).toNat 3351465984:=by
 unfold wR Zqf
 rw[List.map_replicate,←ZKY];rfl
section
variable {C:Ctx}(hC:C.P=Tryz.prog)(m p q:Int)(so:zI)(h:OkC m p q so)
include hC h
theorem ZPW:∀k t:Nat,t+k=Zab so+1→
 Ev C (ZkM m p q so ((Zab so+1:Nat):Int) (fT (Zab so) t) t ([]::List.replicate t (wR (Zqf m)))) (Zh6 m p q so ((Zab so+1:Nat):Int) (fT (Zab so) t) t ([]::List.replicate t (wR (Zqf m)))) (ZaD 53 (.tup [.row 0 0, .int .i64 ((dpP m p q so (Zab so)).getD 0 0)]) (some ⟨3,1, .ints .i64 (tbP m p q so (ZbQ m so) 0 0)⟩)):=by
 have hm:=(Zan h.cv).1
 have h2:=Zbe hm
 have hmm:ZqI m=true:=decide_eq_true (by omega)
 have hst:ZCD (stN m)=true:=decide_eq_true (by unfold stN at h2 ⊢;omega)
 obtain⟨hg,_,hl2,hl3⟩:=h.soft
 have hT:Zab so≤303:=by unfold Zab;omega
 have hbT:ZbQ m so≤303:=by unfold ZbQ;omega
 have hTT:ZaC so=(Zab so:Int):=rfl
 intro k
 induction k with
 |zero=>
  intro t ht
  refine tgo hC ZdY ZnC ?_
  have i:=ZQY hC m p q so h _ _ (fun j=>Z65 hC m p q so h (ZbQ m so) 0 (by omega) 0 [] j 0 (by omega) (by simp;omega)) (Zab so) 0 (Nat.le_refl _)
  have e9:t=Zab so+1:=by omega
  subst e9
  have e1:(reT (Zab so)).getD (Zab so) 0=Zab so+1:=ZdP (by omega)
  have e2:(([]:List Nat)::List.replicate (Zab so+1) (wR (Zqf m))).getD (Zab so+1) []=wR (Zqf m):=by rw[List.getD_cons_succ,List.getD_eq_getElem?_getD,List.getElem?_replicate,if_pos (by omega)];rfl
  have e0:dpP m p q so 0=(Zqf m).set 0 0:=by
   apply List.ext_getElem?
   intro i
   unfold dpP Zqf
   rw[List.getElem?_set,List.getElem?_map,List.getElem?_replicate,List.length_replicate]
   by_cases hi:i<stS m
   ·rw[List.getElem?_range hi]
    by_cases h0:0=i
    ·subst h0;simp[hi]
    ·simp[hi,h0,show ¬i=0 by omega]
   ·rw[List.getElem?_eq_none (by simp;omega)];simp[hi,show ¬0=i by omega]
  have e3:(([]:List Nat)::List.replicate (Zab so+1) (wR (Zqf m))).set (Zab so+1) ((wR (Zqf m)).set 0 0)=rw2 (Zab so) (gB m p q so (Zab so) (dpP m p q so (Zab so-Zab so))):=by
   rw[Nat.sub_self,e0]
   unfold rw2
   rw[List.set_cons_succ]
   congr 1
   apply List.ext_getElem?
   intro i
   rw[List.getElem?_set,List.getElem?_map,List.getElem?_replicate,List.length_replicate]
   by_cases hi:i<Zab so+1
   ·rw[List.getElem?_range hi]
    by_cases h0:Zab so=i
    ·subst h0;simp[gB];rw[←ZwL,←ZDJ]
    ·simp[h0,hi,gB,show ¬i=Zab so from fun e=>h0 e.symm,show ¬Zab so<i by omega]
   ·rw[List.getElem?_eq_none (by simp;omega)]
    simp[hi,show ¬Zab so=i by omega]
  have e4:(Zqf m).length=stS m:=by simp[Zqf]
  have e4w:=Ziz (Zqf m)
  have e5:=ZjI (Zab so)
  have e6:=ZGi (Zab so)
  rw[←e3]at i
  simp[-List.getD_eq_getElem?_getD, -List.set_cons_succ,ZhF,e1,e2,e4,e4w,e5,e6,hTT]at i⊢
  refine⟨by omega,?_⟩
  exact i
 |succ k ih=>
  intro t ht
  refine tgo hC ZdY ZnC ?_
  have i:=ih (t+1) (by omega)
  rw[←ZHB (by omega),List.replicate_succ',←List.cons_append]at i
  have e9:(t:Int)<(Zab so:Int)+1:=by omega
  have e9n:t<Zab so+1:=by omega
  have e5:=ZHI (Zab so) t
  have e6:=ZFm (m:=m)
  simp[ZhF,hmm,hst,e5,e9,e9n,AV.bx,Zad]at i⊢
  rw[←e6]
  exact⟨by omega,i⟩
end
theorem ZCI{m p q:Int}{so:zI}(h:OkC m p q so):Zab so≤303∧so.length≤1000000:=by
 have hm:=(Zan h.cv).1
 obtain⟨hg,_,hl2,hl3⟩:=h.soft
 unfold Zab;omega
theorem Zvb(m p q:Int)(so:zI)(h:OkC m p q so):ZaK Tryz.prog 53 [.agg (.gen [.int .i64 m, .int .i64 p, .int .i64 q, .list (.ints .i64 so)])] (.tup [.row 0 0, .int .i64 (bvI m p q so)]) (some ⟨3,1, .ints .i64 (blI m p q so)⟩):=by
 have hT:=ZCI h
 have hTT:ZaC so=(Zab so:Int):=rfl
 obtain⟨w1,w2⟩:=Zog h
 have e2:((Zab so:Int)+1).toNat=Zab so+1:=by omega
 refine start (ZDF m p q so) fun C hC=>tgo hC ZdY ZOi ?_
 have i:=ZPW hC m p q so h (Zab so+1) 0 (by omega)
 rw[w1,w2,ZDb]at i
 simp[ZJu,hTT,e2]at i⊢
 exact⟨by omega,i⟩
def k65:Ctr:=⟨53,0,fun _ a=>match a with |[.agg (.gen [.int .i64 m, .int .i64 p, .int .i64 q, .list (.ints .i64 so)])]=>some (decide (okI m p q so=true), .tup [.row 0 0, .int .i64 (bvI m p q so)],some ⟨3,1, .ints .i64 (blI m p q so)⟩) |_=>none⟩
theorem ZKd:k65.OK Tryz.prog:=fun pa args r fr h=>by
 simp only[k65]at h
 split at h
 ·simp only[Option.some.injEq,Prod.mk.injEq,decide_eq_true_eq]at h
  obtain⟨h0,rfl,rfl⟩:=h
  exact Zvb _ _ _ _ (okI_iff.1 h0)
 ·cases h
def J7:List Ctr:=[k65]++N6
theorem ZMr:Zar Tryz.prog J7:=⟨ZKd,ZoV⟩
end Go.Proofs.YtjhldefnjghcdaaGreat
