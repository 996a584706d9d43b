/- Whole numbers below 2^24 in single precision. No condition. -/
import Derived.Test.YtklbmkllepkjcaaP5
import Derived.KernelRfl
namespace Go.Proofs.Ytklbmkllepkjcaa
open Ieee
theorem Za7(n:Nat):1≤2^n:=Nat.one_le_two_pow
theorem ZrM(w:Toward)(s:Bool)(n:Nat):w.cut s n 0=n:=by
 unfold Toward.cut
 simp only[Nat.zero_min,Nat.shiftLeft_zero,Nat.div_one,Nat.mod_one,Nat.mul_zero]
 cases w<;>simp
theorem Zh2{m:Nat}(k:Nat)(h:0<m):(m*2^k).log2=m.log2+k:=by
 have h2:m*2^k≠0:=by have:=Za7 k;have:=Nat.mul_le_mul h this;omega
 apply Nat.le_antisymm
 ·have:(m*2^k).log2<m.log2+k+1:=by
   rw[Nat.log2_lt h2,show m.log2+k+1=(m.log2+1)+k by omega,Nat.pow_add]
   exact Nat.mul_lt_mul_of_pos_right ((Nat.log2_lt (by omega)).1 (by omega)) (Za7 k)
  omega
 ·rw[Nat.le_log2 h2,Nat.pow_add]
  exact Nat.mul_le_mul_right _ ((Nat.le_log2 (by omega)).1 (Nat.le_refl _))
theorem Zpg(w:Toward)(s:Bool)(m d:Nat):w.cut s (m*2^d) d=m:=by
 rcases Nat.eq_zero_or_pos m with rfl |h
 ·unfold Toward.cut
  simp only[Nat.zero_mul,Nat.zero_div,Nat.zero_mod,Nat.mul_zero]
  cases w<;>simp<;>(try (rw [Nat.shiftLeft_eq];have:=Za7 (min d (0+2));omega))
 ·unfold Toward.cut
  have h1:min d ((m*2^d).log2+2)=d:=by rw[Zh2 d h];omega
  have h3:=Za7 d
  simp only[h1,Nat.shiftLeft_eq,Nat.one_mul,Nat.mul_div_cancel _ h3,Nat.mul_mod_left,Nat.mul_zero]
  cases w<;>simp<;>omega
theorem Zlf{s:Bool}{m K:Nat}(h:m≠0)(h2:m<2^24):single.nearest s (m*2^K) (-(K:Int))=single.word s ((126+m.log2)*2^23+m*2^(23-m.log2)):=by
 have hL:m.log2<24:=(Nat.log2_lt h).2 h2
 have hm:m*2^K≠0:=by have:=Nat.mul_le_mul (Nat.pos_of_ne_zero h) (Za7 K);omega
 have hlast:max (-(K:Int)+(m*2^K).log2-single.fractionBits) single.leastPlace=(m.log2:Int)-23:=by
  rw[Zh2 K (Nat.pos_of_ne_zero h)]
  show max (-(K:Int)+((m.log2+K:Nat):Int)-23) (-149)=_
  omega
 unfold Format.nearest
 rw[if_neg hm]
 simp only[hlast]
 have hk:m*2^(23-m.log2)<2^24:=by
  have h5:2^24=2^(m.log2+1)*2^(23-m.log2):=by rw[←Nat.pow_add];congr 1;omega
  rw[h5]
  exact Nat.mul_lt_mul_of_pos_right ((Nat.log2_lt h).1 (by omega)) (Za7 _)
 have hc:Toward.even.cut s ((m*2^K) <<< (-(K:Int)-((m.log2:Int)-23)).toNat) ((m.log2:Int)-23- -(K:Int)).toNat=m*2^(23-m.log2):=by
  rcases Nat.le_total (23-m.log2) K with hK |hK
  ·rw[show (-(K:Int)-((m.log2:Int)-23)).toNat=0 by omega,Nat.shiftLeft_zero,show((m.log2:Int)-23- -(K:Int)).toNat=K-(23-m.log2) by omega]
   have:m*2^K=m*2^(23-m.log2)*2^(K-(23-m.log2)):=by rw[Nat.mul_assoc,←Nat.pow_add];congr 2;omega
   rw[this,Zpg]
  ·rw[show ((m.log2:Int)-23- -(K:Int)).toNat=0 by omega,ZrM,Nat.shiftLeft_eq,show(-(K:Int)-((m.log2:Int)-23)).toNat=23-m.log2-K by omega,Nat.mul_assoc,←Nat.pow_add]
   congr 2;omega
 rw[hc]
 congr 1
 show min (((m.log2:Int)-23- -149).toNat*2^23+m*2^(23-m.log2)) (255*2^23)=_
 rw[show ((m.log2:Int)-23- -149).toNat=126+m.log2 by omega]
 have:(126+m.log2)*2^23≤149*2^23:=Nat.mul_le_mul_right _ (by omega)
 omega
def wN(n:Int):Nat:=FloatKind.nearest .f32 n
theorem Ztr(s:Bool)(m K:Nat)(h2:m<2^24):single.nearest s (m*2^K) (-(K:Int))=single.nearest s m 0:=by
 by_cases h:m=0
 ·subst h;rw[Nat.zero_mul];unfold Format.nearest;rw[if_pos rfl,if_pos rfl]
 ·rw[Zlf h h2]
  have:=Zlf (s:=s) (m:=m) (K:=0) h h2
  simpa using this.symm
theorem ZpW{s:Bool}{m:Nat}(h:m≠0)(h2:m<2^24):single.read (single.nearest s m 0)=.number s (m*2^(23-m.log2)) (-((23-m.log2:Nat):Int)):=by
 have h1:=Zlf (s:=s) (m:=m) (K:=0) h h2
 rw[Nat.pow_zero,Nat.mul_one,show -((0:Nat):Int)=0 from rfl]at h1
 rw[h1]
 have hL:m.log2<24:=(Nat.log2_lt h).2 h2
 generalize hL':m.log2=L at*
 have hk:m*2^(23-L)<2^24:=by
  have h5:2^24=2^(L+1)*2^(23-L):=by rw[←Nat.pow_add];congr 1;omega
  rw[h5]
  exact Nat.mul_lt_mul_of_pos_right ((Nat.log2_lt h).1 (by omega)) (Za7 _)
 have hk2:2^23≤m*2^(23-L):=by
  have h5:2^23=2^L*2^(23-L):=by rw[←Nat.pow_add];congr 1;omega
  rw[h5]
  exact Nat.mul_le_mul_right _ ((Nat.le_log2 h).1 (by omega))
 generalize m*2^(23-L)=k at*
 have e1:single.word s ((126+L)*2^23+k)/single.signWeight%2=s.toNat:=by
  show single.word s ((126+L)*2^23+k)/2^31%2=_
  unfold Format.word
  cases s
  ·show((126+L)*2^23+k)/2^31%2=0;omega
  ·show(2^31+((126+L)*2^23+k))/2^31%2=1;omega
 have e2:single.word s ((126+L)*2^23+k)%single.signWeight=(126+L)*2^23+k:=by
  show single.word s ((126+L)*2^23+k)%2^31=_
  unfold Format.word
  cases s
  ·show((126+L)*2^23+k)%2^31=_;omega
  ·show(2^31+((126+L)*2^23+k))%2^31=_;omega
 unfold Format.read
 have eb:single.binade=2^23:=rfl
 have ei:single.infRung=255*2^23:=rfl
 have el:single.leastPlace= -149:=rfl
 simp only[e1,e2,eb,ei,el]
 rw[if_neg (show ¬((126+L)*2^23+k<2^23) by omega),if_pos (show (126+L)*2^23+k<255*2^23 by omega)]
 have e3:((126+L)*2^23+k)%2^23=k-2^23:=by omega
 have e4:((126+L)*2^23+k)/2^23=127+L:=by omega
 rw[e3,e4]
 have g1:(s.toNat==1)=s:=by cases s<;>rfl
 have g2:2^23+(k-2^23)=k:=by omega
 have g3:(-149:Int)+((127+L-1:Nat):Int)= -((23-L:Nat):Int):=by omega
 rw[g1,g2,g3]
theorem Zyz(n:Int)(h: -16777216<n∧n<16777216):n.natAbs<2^24:=by omega
theorem ZgU(n:Int)(h: -16777216<n∧n<16777216):∃k:Nat,single.read (wN n)=.number (decide (n<0)) (n.natAbs*2^k) (-(k:Int)):=by
 by_cases h0:n=0
 ·subst h0
  exact⟨149,rfl⟩
 ·exact⟨_,ZpW (by omega) (Zyz n h)⟩
theorem Zc4(n:Int)(k K:Nat)(h:k≤K):signed (decide (n<0)) (n.natAbs*2^k) (-(k:Int)- -(K:Int)).toNat=n*(2^K:Nat):=by
 have e:(-(k:Int)- -(K:Int)).toNat=K-k:=by omega
 have e2:(n.natAbs*2^k) <<< (K-k)=n.natAbs*2^K:=by rw[Nat.shiftLeft_eq,Nat.mul_assoc,←Nat.pow_add];congr 2;omega
 unfold signed
 rw[e,e2]
 by_cases hn:n<0
 ·rw[if_pos (by simpa using hn),Int.natCast_mul,←Int.neg_mul,show -(n.natAbs:Int)=n by omega]
 ·rw[if_neg (by simpa using hn),Int.natCast_mul,show(n.natAbs:Int)=n by omega]
theorem Zlr{a b:Int}(ha: -8388608<a∧a<8388608)(hb: -8388608<b∧b<8388608):std.fadd .f32 (wN a) (wN b)=some (wN (a+b)):=by
 obtain⟨i,hi⟩:=ZgU a (by omega)
 obtain⟨j,hj⟩:=ZgU b (by omega)
 show((single.read (wN a)).sum (single.read (wN b))).map single.write=_
 rw[hi,hj]
 have hmin:min (-(i:Int)) (-(j:Int))= -((max i j:Nat):Int):=by omega
 simp only[Datum.sum,hmin,Zc4 a i _ (Nat.le_max_left i j),Zc4 b j _ (Nat.le_max_right i j),←Int.add_mul,Option.map_some]
 generalize max i j=K
 have hp:(0:Int)<(2^K:Nat):=by have:=Za7 K;omega
 have hz:(a+b)*((2^K:Nat):Int)=0↔a+b=0:=by
  rw[Int.mul_eq_zero];omega
 have hl:(a+b)*((2^K:Nat):Int)<0↔a+b<0:=by
  constructor
  ·intro h;by_cases hc:a+b<0
   ·exact hc
   ·exact absurd h (Int.not_lt.2 (Int.mul_nonneg (by omega) (by omega)))
  ·intro h;exact Int.mul_neg_of_neg_of_pos h hp
 have hs:(if (a+b)*((2^K:Nat):Int)=0 then decide (a<0)&&decide (b<0)else decide ((a+b)*((2^K:Nat):Int)<0))=decide (a+b<0):=by
  by_cases h0:a+b=0
  ·rw[if_pos (hz.2 h0)]
   by_cases hn:a<0
   ·simp[show ¬b<0 by omega,show ¬a+b<0 by omega]
   ·simp[hn,show ¬a+b<0 by omega]
  ·rw[if_neg (fun h=>h0 (hz.1 h))];simp only[hl]
 rw[hs]
 show some (single.nearest _ _ _)=some (single.nearest _ _ 0)
 rw[Int.natAbs_mul,Int.natAbs_natCast,Ztr _ _ _ (by omega)]
theorem Zi0{a b:Int}(ha: -16777216<a∧a<16777216)(hb: -16777216<b∧b<16777216):std.ford .f32 (wN a) (wN b)=some (compare a b):=by
 obtain⟨i,hi⟩:=ZgU a (by omega)
 obtain⟨j,hj⟩:=ZgU b (by omega)
 show(single.read (wN a)).order (single.read (wN b))=_
 rw[hi,hj]
 have hmin:min (-(i:Int)) (-(j:Int))= -((max i j:Nat):Int):=by omega
 simp only[Datum.order,hmin,Zc4 a i _ (Nat.le_max_left i j),Zc4 b j _ (Nat.le_max_right i j)]
 have hp:(0:Int)<(2^(max i j):Nat):=by have:=Za7 (max i j);omega
 congr 1
 rcases Int.lt_trichotomy a b with h |h |h
 ·rw[Int.compare_eq_lt.2 h,Int.compare_eq_lt.2 (Int.mul_lt_mul_of_pos_right h hp)]
 ·subst h;simp
 ·rw[Int.compare_eq_gt.2 h,Int.compare_eq_gt.2 (Int.mul_lt_mul_of_pos_right h hp)]
theorem ZtR{n:Int}(h: -16777216<n∧n<16777216):std.f2i .f32 (wN n)=some n:=by
 obtain⟨k,hk⟩:=ZgU n h
 show(single.read (wN n)).toInt .zero=_
 rw[hk]
 simp only[Datum.toInt,Datum.integral,show(-(k:Int)).toNat=0 by omega,Nat.shiftLeft_zero,show(- -(k:Int)).toNat=k by omega,Zpg]
 have:=Zc4 n 0 0 (Nat.le_refl 0)
 simpa using this
theorem ZCN{a b:Int}(ha: -16777216<a∧a<16777216)(hb: -16777216<b∧b<16777216):mmF std .f32 (wN a) (wN b)=wN (max a b):=by
 unfold mmF
 rw[Zi0 ha hb]
 rcases Int.lt_trichotomy a b with h |h |h
 ·rw[Int.compare_eq_lt.2 h,show max a b=b by omega]
 ·subst h
  rw[Int.max_self]
  split
  ·rfl
  ·rfl
  ·split<;>rfl
 ·rw[Int.compare_eq_gt.2 h,show max a b=a by omega]
theorem ZxB:(3351465984:Nat)=wN (-100000):=by decide
theorem Zvt:(0:Nat)=wN 0:=rfl
end Go.Proofs.Ytklbmkllepkjcaa
/- Contracts as a list. No condition. -/
namespace Go.Proofs.Ytklbmkllepkjcaa
section
variable (m p q:Int)(so:List Int)
def ZjM(D:List Int)(t s:Nat)(b:Int)(acc:List Int):List Int:=acc.set (nxS m s b).toNat (max (acc.getD (nxS m s b).toNat 0) (D.getD s 0+gnI m p q so t s b))
def Zg8(D:List Int)(t s:Nat)(acc:List Int):List Int:=if t<ZaS m so then ZjM m p q so D t s 1 (ZjM m p q so D t s 0 acc)else ZjM m p q so D t s 0 acc
def Zcf:List Int:=List.replicate (stS m) (-100000)
def ZiW(D:List Int)(t:Nat):Nat→List Int
 |0=>Zcf m
 |s+1=>Zg8 m p q so D t s (ZiW D t s)
def fwP:Nat→List Int
 |0=>(Zcf m).set 0 0
 |t+1=>ZiW m p q so (fwP t) t (stS m)
def gT(t:Nat)(x:List Int)(j:Nat):List Int:=if j≤t then fwP m p q so j else if j=t+1 then x else Zcf m
end
def rw1(T:Nat)(g:Nat→List Int):List (List Int):=[]::(List.range (T+1)).map g
def reT(T:Nat):List Nat:=(List.range (T+1)).map (· +1)
theorem ZvF(T:Nat)(g:Nat→List Int):(rw1 T g).length=T+2:=by simp[rw1]
theorem ZkZ{T j:Nat}(g:Nat→List Int)(h:j≤T):(rw1 T g).getD (j+1) []=g j:=by
 unfold rw1
 rw[List.getD_cons_succ,List.getD_eq_getElem?_getD,List.getElem?_map,List.getElem?_range (by omega)];rfl
theorem ZuO{T j:Nat}(g:Nat→List Int)(x:List Int):(rw1 T g).set (j+1) x=rw1 T (fun i=>if i=j then x else g i):=by
 unfold rw1
 rw[List.set_cons_succ]
 congr 1
 apply List.ext_getElem?
 intro i
 rw[List.getElem?_set,List.getElem?_map,List.getElem?_map,List.length_map,List.length_range]
 by_cases hi:i<T+1
 ·rw[List.getElem?_range hi]
  by_cases hj:j=i
  ·subst hj;simp[hi]
  ·simp[hj,show ¬i=j from fun e=>hj e.symm]
 ·rw[List.getElem?_eq_none (by simp;omega)]
  simp;omega
theorem ZdP(T:Nat):(reT T).length=T+1:=by simp[reT]
theorem Zb0{T j:Nat}(h:j≤T):(reT T).getD j 0=j+1:=by
 unfold reT
 rw[List.getD_eq_getElem?_getD,List.getElem?_map,List.getElem?_range (by omega)];rfl
theorem ZxY{m p q:Int}{so:List Int}(t:Nat)(x y:List Int):(fun i=>if i=t+1 then y else gT m p q so t x i)=gT m p q so t y:=by
 funext i
 unfold gT
 by_cases h:i=t+1
 ·subst h;simp only[if_true];rw[if_neg (by omega)]
 ·simp[h]
section
variable {m p q:Int}{so:List Int}
theorem Zje(D acc:List Int)(t s:Nat)(b:Int):(ZjM m p q so D t s b acc).length=acc.length:=by simp[ZjM]
theorem ZoP(D acc:List Int)(t s:Nat):(Zg8 m p q so D t s acc).length=acc.length:=by unfold Zg8;split<;>simp[Zje]
theorem Zgp(D:List Int)(t:Nat):∀s,(ZiW m p q so D t s).length=stS m
 |0=>by simp[ZiW,Zcf]
 |s+1=>by rw[ZiW,ZoP,Zgp D t s]
theorem Zmc:∀t,(fwP m p q so t).length=stS m
 |0=>by simp[fwP,Zcf]
 |t+1=>by rw[fwP,Zgp]
def Btw(U:Int)(l:List Int):Prop:=∀j, -100000≤l.getD j 0∧l.getD j 0≤U
theorem Zo4{U:Int}(h:0≤U):Btw U (Zcf m):=fun j=>by
 unfold Zcf
 rw[List.getD_eq_getElem?_getD,List.getElem?_replicate]
 split<;>simp<;>omega
theorem Zgh(hg:ZbB so (-7) 7=0){D acc:List Int}{U:Int}(t s:Nat)(b:Int)(hD:Btw U D)(ha:Btw (U+14) acc):Btw (U+14) (ZjM m p q so D t s b acc):=fun j=>by
 have h1:=Zdb (m:=m) (p:=p) (q:=q) hg t s b
 have h2:=hD s
 have h3:=ha (nxS m s b).toNat
 have h4:=ha j
 unfold ZjM
 rw[List.getD_eq_getElem?_getD,List.getElem?_set]
 split
 ·split
  ·show -100000≤max _ _∧max _ _≤_;omega
  ·rename_i e1 e2
   subst e1
   rw[List.getD_eq_getElem?_getD,List.getElem?_eq_none (by omega)]at h4
   exact h4
 ·rw[←List.getD_eq_getElem?_getD];exact h4
theorem ZpE(hg:ZbB so (-7) 7=0){D acc:List Int}{U:Int}(t s:Nat)(hD:Btw U D)(ha:Btw (U+14) acc):Btw (U+14) (Zg8 m p q so D t s acc):=by
 unfold Zg8
 split
 ·exact Zgh hg t s 1 hD (Zgh hg t s 0 hD ha)
 ·exact Zgh hg t s 0 hD ha
theorem Zjb(hg:ZbB so (-7) 7=0){D:List Int}{U:Int}(hU:0≤U)(t:Nat)(hD:Btw U D):∀s,Btw (U+14) (ZiW m p q so D t s)
 |0=>Zo4 (by omega)
 |s+1=>ZpE hg t s hD (Zjb hg hU t hD s)
theorem Zjy(hg:ZbB so (-7) 7=0):∀t:Nat,Btw (14*t) (fwP m p q so t)
 |0=>fun j=>by
  have h:=Zo4 (m:=m) (U:=0) (by omega) j
  unfold fwP
  rw[List.getD_eq_getElem?_getD,List.getElem?_set]
  split
  ·split<;>simp
  ·rw[←List.getD_eq_getElem?_getD];simpa using h
 |t+1=>by
  have:=Zjb (m:=m) (p:=p) (q:=q) hg (by omega) t (Zjy hg t) (stS m)
  have e:(14*(t:Int)+14)=14*((t+1:Nat):Int):=by omega
  rw[e]at this
  exact this
theorem ZtM(hg:ZbB so (-7) 7=0)(t:Nat)(s b:Int):std.f2i .f32 (std.i2f .f32 (gnI m p q so t s b))=some (gnI m p q so t s b):=by
 have:=Zdb (m:=m) (p:=p) (q:=q) hg t s b
 exact ZtR (by omega)
end
theorem Zon(so:List Int)(t:Nat){a b:Int}(ha:a=0∨a=1)(hb:b=0∨b=1):coI a (so.getD (2*t) 0)+coI b (so.getD (2*t+1) 0)=gaI so t a b:=by
 unfold coI gaI
 rcases ha with rfl |rfl<;>rcases hb with rfl |rfl<;>simp<;>omega
theorem ZvR{m p q:Int}{so:List Int}(t:Nat):gT m p q so t (fwP m p q so (t+1))=gT m p q so (t+1) (Zcf m):=by
 funext j
 unfold gT
 by_cases h1:j≤t
 ·rw[if_pos h1,if_pos (by omega)]
 ·rw[if_neg h1]
  by_cases h2:j=t+1
  ·subst h2;rw[if_pos rfl,if_pos (by omega)]
  ·rw[if_neg h2,if_neg (by omega)];split<;>rfl
section
variable {C:Ctx}(hC:C.P=Try.prog)(m p q:Int)(so:List Int)(h:OkC m p q so)
include hC h
theorem W1(t s:Nat)(ht:t<Zaa so)(hs:s<stS m)(x:List Int)(hxl:x.length=stS m)(hx:Btw (14*t+14) x)(n8:Int)(b9 b10:Bool)(j:Nat)(b:Int)(hb:b=0∨b=1∧t<ZaS m so)(r:AV)(fr:Option Fresh)
 (hn:Ev C (Zcu m p q so (reT (Zaa so)) (Zaj so) t n8 b9 b10 j s (b+1) (rw1 (Zaa so) (gT m p q so t (ZjM m p q so (fwP m p q so t) t s b x)))) (Zb4 m p q so (reT (Zaa so)) (Zaj so) t n8 b9 b10 j s (b+1) (rw1 (Zaa so) (gT m p q so t (ZjM m p q so (fwP m p q so t) t s b x)))) (Zbe 37 r fr)):
 Ev C (Zcu m p q so (reT (Zaa so)) (Zaj so) t n8 b9 b10 j s b (rw1 (Zaa so) (gT m p q so t x))) (Zb4 m p q so (reT (Zaa so)) (Zaj so) t n8 b9 b10 j s b (rw1 (Zaa so) (gT m p q so t x))) (Zbe 37 r fr):=by
 obtain⟨hg,_,hl2,hl3⟩:=h.soft
 have hlen:2*Zaa so≤so.length:=by unfold Zaa;omega
 have hm:=(Zak h.cv).1
 have e1:(reT (Zaa so)).getD t 0=t+1:=Zb0 (by omega)
 have e2:(reT (Zaa so)).getD (t+1) 0=t+2:=Zb0 (by omega)
 have e3:(rw1 (Zaa so) (gT m p q so t x)).getD (t+1) []=fwP m p q so t:=by rw[ZkZ _ (by omega)];simp[gT]
 have e4:(rw1 (Zaa so) (gT m p q so t x)).getD (t+2) []=x:=by
  rw[ZkZ _ (by omega),gT,if_neg (by omega),if_pos rfl]
 have e5:=ZvF (Zaa so) (gT m p q so t x)
 have e6:∀y,(rw1 (Zaa so) (gT m p q so t x)).set (t+2) y=rw1 (Zaa so) (gT m p q so t y):=fun y=>by rw[ZuO,ZxY]
 have e7:=ZdP (Zaa so)
 have hdl:=Zmc (m:=m) (p:=p) (q:=q) (so:=so) t
 have hbb:b=0∨b=1:=by omega
 obtain⟨s1,s2,s3⟩:=ZaO h hs hbb
 have k1:(2*(t:Int)).toNat=2*t:=by omega
 have k2:(2*(t:Int)+1).toNat=2*t+1:=by omega
 have hco:=Zon so t (Zcq m p s b) (Zcq m q s b)
 have hgf:=ZtM (m:=m) (p:=p) (q:=q) hg t s b
 have hgl:=Zdb (m:=m) (p:=p) (q:=q) hg t s b
 have a1:=Zbt hg (2*t)
 have a2:=Zbt hg (2*t+1)
 have hD:=Zjy (m:=m) (p:=p) (q:=q) hg t s
 have hX:=hx (nxS m s b).toNat
 have hbt:t<ZaS m so↔¬ZbK m so≤t:=by unfold ZaS ZbK Zaj;omega
 have h108:Zlz m so=true:=decide_eq_true (by omega)
 have hu:ZjM m p q so (fwP m p q so t) t s b x=x.set (nxS m s b).toNat (max (x.getD (nxS m s b).toNat 0) ((fwP m p q so t).getD s 0+gaI so t (oS m p s b) (oS m q s b))):=rfl
 rw[hu]at hn
 unfold gnI at hgf hgl
 refine tgo hC Zbq Zhz ?_
 rcases hb with rfl |⟨rfl,hb⟩
 ·simp[-List.getD_eq_getElem?_getD,List.getD_cons_zero,List.getD_cons_succ,ZbY,e1,e2,e3,e4,e5,e6,e7,s1,s2,s3,k1,k2,hco,hgf,hxl,hdl,hs,h108]at hn⊢
  refine⟨?_,hn⟩
  omega
 ·have hb2:=hbt.1 hb
  simp[-List.getD_eq_getElem?_getD,List.getD_cons_zero,List.getD_cons_succ,ZbY,e1,e2,e3,e4,e5,e6,e7,s1,s2,s3,k1,k2,hco,hgf,hxl,hdl,hs,h108,hb2]at hn⊢
  refine⟨?_,hn⟩
  omega
theorem W1x(t s:Nat)(ht:t<Zaa so)(hs:s<stS m)(rows:List (List Int))(n8:Int)(b9 b10:Bool)(j:Nat)(b:Int)(hb:b=2∨b=1∧¬t<ZaS m so)(r:AV)(fr:Option Fresh)
 (hn:Ev C (Zds m p q so (reT (Zaa so)) (Zaj so) t n8 b9 b10 j ((s+1:Nat):Int) rows) (ZcR m p q so (reT (Zaa so)) (Zaj so) t n8 b9 b10 j ((s+1:Nat):Int) rows) (Zbe 37 r fr)):
 Ev C (Zcu m p q so (reT (Zaa so)) (Zaj so) t n8 b9 b10 j s b rows) (Zb4 m p q so (reT (Zaa so)) (Zaj so) t n8 b9 b10 j s b rows) (Zbe 37 r fr):=by
 have hm:=(Zak h.cv).1
 have h2:=ZaE hm
 obtain⟨hg,_,hl2,hl3⟩:=h.soft
 have hbt:t<ZaS m so↔¬ZbK m so≤t:=by unfold ZaS ZbK Zaj;omega
 have h108:Zlz m so=true:=decide_eq_true (by omega)
 refine tgo hC Zbq Zhz ?_
 rcases hb with rfl |⟨rfl,hb⟩
 ·simp[ZbY]at hn⊢
  exact⟨by omega,hn⟩
 ·have hb2:ZbK m so≤t:=by omega
  simp[ZbY,h108,hb2]at hn⊢
  exact⟨by omega,hn⟩
theorem W0(t:Nat)(ht:t<Zaa so)(b9 b10:Bool)(j:Nat)(r:AV)(fr:Option Fresh)
 (hn:Ev C (ZeR m p q so (reT (Zaa so)) (Zaj so) (rw1 (Zaa so) (gT m p q so t (fwP m p q so (t+1)))) ((t+1:Nat):Int) j) (Zdn m p q so (reT (Zaa so)) (Zaj so) (rw1 (Zaa so) (gT m p q so t (fwP m p q so (t+1)))) ((t+1:Nat):Int) j) (Zbe 37 r fr)):
 ∀k s:Nat,s+k=stS m→
 Ev C (Zds m p q so (reT (Zaa so)) (Zaj so) t (stN m) b9 b10 j s (rw1 (Zaa so) (gT m p q so t (ZiW m p q so (fwP m p q so t) t s)))) (ZcR m p q so (reT (Zaa so)) (Zaj so) t (stN m) b9 b10 j s (rw1 (Zaa so) (gT m p q so t (ZiW m p q so (fwP m p q so t) t s)))) (Zbe 37 r fr):=by
 have hm:=(Zak h.cv).1
 have h2:=ZaE hm
 obtain⟨hg,_,hl2,hl3⟩:=h.soft
 have hT:Zaa so≤303:=by unfold Zaa;omega
 intro k
 induction k with
 |zero=>
  intro s hs
  refine tgo hC Zbq ZgD ?_
  have e9:(s:Int)=stN m:=by omega
  rw[fwP,←show s=stS m by omega]at hn
  simp[Zea,e9]at hn⊢
  exact⟨by omega,hn⟩
 |succ k ih=>
  intro s hs
  refine tgo hC Zbq ZgD ?_
  have e9:(s:Int)<stN m:=by omega
  have hs':s<stS m:=by omega
  simp[Zea,e9]
  have ih':=ih (s+1) (by omega)
  have hl:=Zgp (m:=m) (p:=p) (q:=q) (so:=so) (fwP m p q so t) t s
  have hD:=Zjy (m:=m) (p:=p) (q:=q) hg t
  have hX:=Zjb (m:=m) (p:=p) (q:=q) hg (by omega) t hD s
  apply W1 hC m p q so h t s ht hs' _ hl hX _ _ _ _ 0 (Or.inl rfl)
  by_cases hb:t<ZaS m so
  ·apply W1 hC m p q so h t s ht hs' _ (by rw[Zje,hl]) (Zgh hg t s 0 hD hX) _ _ _ _ _ (Or.inr ⟨rfl,hb⟩)
   apply W1x hC m p q so h t s ht hs' _ _ _ _ _ _ (Or.inl rfl)
   rw[ZiW,Zg8,if_pos hb]at ih'
   exact ih'
  ·apply W1x hC m p q so h t s ht hs' _ _ _ _ _ _ (Or.inr ⟨rfl,hb⟩)
   rw[ZiW,Zg8,if_neg hb]at ih'
   exact ih'
theorem W37:∀k t j:Nat,t+k=Zaa so→
 Ev C (ZeR m p q so (reT (Zaa so)) (Zaj so) (rw1 (Zaa so) (gT m p q so t (Zcf m))) t j) (Zdn m p q so (reT (Zaa so)) (Zaj so) (rw1 (Zaa so) (gT m p q so t (Zcf m))) t j) (Zbe 37 (.tup [.list (.gen ((List.range (Zaa so+1)).map fun j=>.list (.ints .i64 (fwP m p q so j)))), .int .i64 0]) none):=by
 have hm:=(Zak h.cv).1
 have h2:=ZaE hm
 have hmm:ZcQ m=true:=decide_eq_true (by omega)
 have hTT:(Zaa so:Int)=Zaj so:=rfl
 intro k
 induction k with
 |zero=>
  intro t j ht
  refine tgo hC Zbq ZhY ?_
  have e9:(t:Int)=Zaj so:=by omega
  have e:(List.map (fun j=>AV.list (.ints .i64 (List.getD (rw1 (Zaa so) (gT m p q so t (Zcf m))) j []))) (reT (Zaa so)))=(List.range (Zaa so+1)).map fun j=>.list (.ints .i64 (fwP m p q so j)):=by
   unfold reT
   rw[List.map_map]
   apply List.map_congr_left
   intro i hi
   have hi:=List.mem_range.1 hi
   show AV.list (.ints .i64 ((rw1 (Zaa so) (gT m p q so t (Zcf m))).getD (i+1) []))=_
   rw[ZkZ _ (by omega),gT,if_pos (by omega)]
  simp only[Ze2,e]
  simp[e9]
 |succ k ih=>
  intro t j ht
  refine tgo hC Zbq ZhY ?_
  have e9:(t:Int)<Zaj so:=by omega
  have i:=W0 hC m p q so h t (by omega) true true (j+1) _ _ (by
   rw[ZvR];exact ih (t+1) (j+1) (by omega)) (stS m) 0 (by omega)
  simp[Ze2,hmm,e9,ZiW]at i⊢
  exact i
end
def fT(T k:Nat):List Nat:=(List.range (T+1)).map fun j=>if j<k then j+1 else 0
theorem ZpS(T:Nat):fT T 0=List.replicate (T+1) 0:=by
 unfold fT
 apply List.ext_getElem?
 intro i
 rw[List.getElem?_map,List.getElem?_replicate]
 by_cases h:i<T+1
 ·rw[List.getElem?_range h];simp[h]
 ·rw[List.getElem?_eq_none (by simp;omega)];simp[h]
theorem ZtA(T:Nat):fT T (T+1)=reT T:=by
 unfold fT reT
 apply List.map_congr_left
 intro i hi
 have:=List.mem_range.1 hi
 rw[if_pos (by omega)]
theorem Zuc(T k:Nat):(fT T k).length=T+1:=by simp[fT]
theorem ZtZ{T k:Nat}(hk:k≤T):(fT T k).set k (k+1)=fT T (k+1):=by
 unfold fT
 apply List.ext_getElem?
 intro i
 rw[List.getElem?_set,List.getElem?_map,List.getElem?_map,List.length_map,List.length_range]
 by_cases hi:i<T+1
 ·rw[List.getElem?_range hi]
  by_cases hj:k=i
  ·subst hj;simp[hi]
  ·have:(i<k+1)↔(i<k):=by omega
   simp[hj,this]
 ·rw[List.getElem?_eq_none (by simp;omega)]
  simp;omega
section
variable {C:Ctx}(hC:C.P=Try.prog)(m p q:Int)(so:List Int)(h:OkC m p q so)
include hC h
theorem ZFM:∀k t:Nat,t+k=Zaa so+1→
 Ev C (ZgG m p q so ((Zaa so+1:Nat):Int) (fT (Zaa so) t) t ([]::List.replicate t (Zcf m))) (Zfn m p q so ((Zaa so+1:Nat):Int) (fT (Zaa so) t) t ([]::List.replicate t (Zcf m))) (Zbe 37 (.tup [.list (.gen ((List.range (Zaa so+1)).map fun j=>.list (.ints .i64 (fwP m p q so j)))), .int .i64 0]) none):=by
 have hm:=(Zak h.cv).1
 have h2:=ZaE hm
 have hmm:ZcQ m=true:=decide_eq_true (by omega)
 have hst:Zrn (stN m)=true:=decide_eq_true (by unfold stN at h2 ⊢;omega)
 obtain⟨hg,_,hl2,hl3⟩:=h.soft
 have hT:Zaa so≤303:=by unfold Zaa;omega
 intro k
 induction k with
 |zero=>
  intro t ht
  refine tgo hC Zbq ZiI ?_
  have i:=W37 hC m p q so h (Zaa so) 0 0 (by omega)
  have e9:t=Zaa so+1:=by omega
  subst e9
  have e1:(reT (Zaa so)).getD 0 0=1:=by rw[Zb0 (by omega)]
  have e2:(([]:List Int)::List.replicate (Zaa so+1) (Zcf m)).getD 1 []=Zcf m:=by simp[List.replicate_succ]
  have e3:(([]:List Int)::List.replicate (Zaa so+1) (Zcf m)).set 1 ((Zcf m).set 0 0)=rw1 (Zaa so) (gT m p q so 0 (Zcf m)):=by
   unfold rw1
   rw[List.set_cons_succ]
   congr 1
   apply List.ext_getElem?
   intro i
   rw[List.getElem?_set,List.getElem?_map,List.getElem?_replicate,List.length_replicate]
   by_cases hi:i<Zaa so+1
   ·rw[List.getElem?_range hi]
    by_cases h0:0=i
    ·subst h0;simp[gT,fwP]
    ·simp[h0,hi,gT,show ¬i=0 by omega]
   ·rw[List.getElem?_eq_none (by simp;omega)]
    simp[hi,show ¬0=i by omega]
  have e4:(Zcf m).length=stS m:=by simp[Zcf]
  have e5:=ZdP (Zaa so)
  simp[-List.getD_eq_getElem?_getD,Zfs,e1,e2,e3,e4,e5,ZtA]at i⊢
  exact⟨by omega,i⟩
 |succ k ih=>
  intro t ht
  refine tgo hC Zbq ZiI ?_
  have i:=ih (t+1) (by omega)
  rw[←ZtZ (by omega),List.replicate_succ',←List.cons_append]at i
  have e9:(t:Int)<(Zaa so:Int)+1:=by omega
  have e9n:t<Zaa so+1:=by omega
  have e5:=Zuc (Zaa so) t
  have e6:List.replicate (stN m).toNat (-100000)=Zcf m:=rfl
  simp[Zfs,hmm,hst,e5,e6,e9,e9n,AV.bx,Zan]at i⊢
  exact⟨by omega,i⟩
end
theorem ZqV(m p q:Int)(so:List Int)(h:ZaA m p q≠0):Zah Try.prog 37 [.agg (.gen [.int .i64 m, .int .i64 p, .int .i64 q]), .list (.ints .i64 so)] (.tup [.nils, .int .i64 (ZaA m p q)]) none:=
 start (Zk8 m p q so) fun C hC=>tgo hC Zbq Zw0 (by simp[ZqT,h])
theorem Zs0(m p q:Int)(so:List Int)(hl:so.length≤1000000)(h:ZaA m p q=0)(h2:sfW m so≠0):Zah Try.prog 37 [.agg (.gen [.int .i64 m, .int .i64 p, .int .i64 q]), .list (.ints .i64 so)] (.tup [.nils, .int .i64 (sfW m so)]) none:=
 start (Zk8 m p q so) fun C hC=>tgo hC Zbq Zw0 (by simp[ZqT,h,h2,hl])
theorem Zzi(m p q:Int)(so:List Int)(h:OkC m p q so):Zah Try.prog 37 [.agg (.gen [.int .i64 m, .int .i64 p, .int .i64 q]), .list (.ints .i64 so)] (.tup [.list (.gen ((List.range (Zaa so+1)).map fun j=>.list (.ints .i64 (fwP m p q so j)))), .int .i64 0]) none:=
 start (Zk8 m p q so) fun C hC=>tgo hC Zbq Zw0 (by
  have hm:=(Zak h.cv).1
  obtain⟨hg,_,hl2,hl3⟩:=h.soft
  have hT:Zaa so≤303:=by unfold Zaa;omega
  have hTT:Zaj so=(Zaa so:Int):=rfl
  have hsf:sfW m so=0:=by rw[ZhK (by omega)];exact h.sf
  have i:=ZFM hC m p q so h (Zaa so+1) 0 (by omega)
  rw[ZpS]at i
  have e2:((Zaa so:Int)+1).toNat=Zaa so+1:=by omega
  simp[ZqT,h.cv,hsf,hTT,e2]at i⊢
  exact⟨by omega,by omega,i⟩)
theorem ZDy{f:FuncId}{args:List AV}{a b c:AV}{fr:Option Fresh}(h:Zah Try.prog f args (.tup [a,c]) fr)(hw:∀ {w:World} {ok:Nat→Prop} {hh:Zac} {L:Lay} {x:Value},Rel w ok hh L a x→Rel w ok hh L b x):Zah Try.prog f args (.tup [b,c]) fr:=by
 intro w okA L vs hargs hok hG
 refine(h w okA L vs hargs hok hG).mono ?_
 rintro e w' ⟨x,L',rfl,hb,hp⟩
 have key:∀ {ok:Nat→Prop} {hh:Zac},Rel w' ok hh L' (.tup [a,c]) x→Rel w' ok hh L' (.tup [b,c]) x:=fun hr=>by
  cases hr with
  |tup _ vs hl hrr=>
   refine .tup _ vs (by simpa using hl) (fun j u v hu hv=>?_)
   cases j with
   |zero=>simp at hu;subst hu;exact hw (hrr 0 a v rfl hv)
   |succ j=>exact hrr (j+1) u v (by simpa using hu) hv
 refine⟨x,L',rfl,hb,?_⟩
 unfold ZhJ at hp⊢
 split
 ·rename_i hn;rw[hn]at hp;exact key hp
 ·rename_i hn;rw[hn]at hp;exact⟨hp.1,key hp.2⟩
def cdW(m p q:Int)(so:List Int):Int:=if ZaA m p q≠0 then ZaA m p q else sfW m so
def poL(m p q:Int)(so:List Int):List AV:=if cdW m p q so≠0 then []else(List.range (Zaa so+1)).map fun j=>.list (.ints .i64 (fwP m p q so j))
theorem ZsA(m p q:Int)(so:List Int)(hl:so.length≤1000000):Zah Try.prog 37 [.agg (.gen [.int .i64 m, .int .i64 p, .int .i64 q]), .list (.ints .i64 so)] (.tup [.list (.big (.ints .i64) (poL m p q so)), .int .i64 (cdW m p q so)]) none:=by
 by_cases h1:ZaA m p q=0
 ·by_cases h2:sfW m so=0
  ·have hm:=(Zak h1).1
   have h:OkC m p q so:=⟨h1,by rw[←ZhK (by omega)];exact h2⟩
   have e1:cdW m p q so=0:=by simp[cdW,h1,h2]
   have e2:poL m p q so=(List.range (Zaa so+1)).map fun j=>.list (.ints .i64 (fwP m p q so j)):=by simp[poL,e1]
   rw[e1,e2]
   exact ZDy (Zzi m p q so h) fun hr=>Rel.same (r:=.gen _) (r':=.big _ _) (by simp only[Row.elems,List.map_map];exact List.map_congr_left fun _ _=>rfl) hr
  ·have e1:cdW m p q so=sfW m so:=by simp[cdW,h1]
   have e2:poL m p q so=[]:=by simp[poL,e1,h2]
   rw[e1,e2]
   exact ZDy (Zs0 m p q so hl h1 h2) fun hr=>by cases hr with |nils=>exact .nil _ none 0 rfl
 ·have e1:cdW m p q so=ZaA m p q:=by simp[cdW,h1]
  have e2:poL m p q so=[]:=by simp[poL,e1,h1]
  rw[e1,e2]
  exact ZDy (ZqV m p q so h1) fun hr=>by cases hr with |nils=>exact .nil _ none 0 rfl
attribute [irreducible] poL
def k37:Ctr:=⟨37,0,fun _ a=>match a with |[.agg (.gen [.int .i64 m, .int .i64 p, .int .i64 q]), .list (.ints .i64 so)]=>some (decide (so.length≤1000000), .tup [.list (.big (.ints .i64) (poL m p q so)), .int .i64 (cdW m p q so)],none) |_=>none⟩
theorem ZxW:k37.OK Try.prog:=fun pa args r fr h=>by
 simp only[k37]at h
 split at h
 ·simp only[Option.some.injEq,Prod.mk.injEq,decide_eq_true_eq]at h
  obtain⟨h0,rfl,rfl⟩:=h
  exact ZsA _ _ _ _ h0
 ·cases h
def N6:List Ctr:=[k37]++N5
theorem ZbZ:ZaP Try.prog N6:=⟨ZxW,Zbq⟩
end Go.Proofs.Ytklbmkllepkjcaa
/- Contracts as a list. No condition. -/
namespace Go.Proofs.Ytklbmkllepkjcaa
def wR(l:List Int):List Nat:=l.map wN
theorem Zhv(l:List Int){j:Nat}(h:j<l.length):(wR l).getD j 0=wN (l.getD j 0):=by
 unfold wR
 rw[List.getD_eq_getElem?_getD,List.getElem?_map,List.getD_eq_getElem?_getD,List.getElem?_eq_getElem h];rfl
theorem Zqu(l:List Int)(j:Nat)(x:Int):(wR l).set j (wN x)=wR (l.set j x):=by unfold wR;rw[List.map_set]
theorem Zf1(l:List Int):(wR l).length=l.length:=by simp[wR]
def rw2(T:Nat)(g:Nat→List Int):List (List Nat):=[]::(List.range (T+1)).map fun j=>wR (g j)
theorem Zjj(T:Nat)(g:Nat→List Int):(rw2 T g).length=T+2:=by simp[rw2]
theorem ZlD{T j:Nat}(g:Nat→List Int)(h:j≤T):(rw2 T g).getD (j+1) []=wR (g j):=by
 unfold rw2
 rw[List.getD_cons_succ,List.getD_eq_getElem?_getD,List.getElem?_map,List.getElem?_range (by omega)];rfl
theorem Zvw{T j:Nat}(g:Nat→List Int)(x:List Int):(rw2 T g).set (j+1) (wR x)=rw2 T (fun i=>if i=j then x else g i):=by
 unfold rw2
 rw[List.set_cons_succ]
 congr 1
 apply List.ext_getElem?
 intro i
 rw[List.getElem?_set,List.getElem?_map,List.getElem?_map,List.length_map,List.length_range]
 by_cases hi:i<T+1
 ·rw[List.getElem?_range hi]
  by_cases hj:j=i
  ·subst hj;simp[hi]
  ·simp[hj,show ¬i=j from fun e=>hj e.symm]
 ·rw[List.getElem?_eq_none (by simp;omega)]
  simp;omega
section
variable (m p q:Int)(so:List Int)
def gB(t:Nat)(x:List Int)(j:Nat):List Int:=if t<j then dpP m p q so (Zaa so-j)else if j=t then x else Zcf m
def upF(S:Nat)(v:Nat→Int)(s:Nat):List Int:=(List.range s).map v++List.replicate (S-s) (-100000)
end
theorem Zyy{m p q:Int}{so:List Int}(t:Nat)(x y:List Int):(fun i=>if i=t then y else gB m p q so t x i)=gB m p q so t y:=by
 funext i
 unfold gB
 by_cases h:i=t
 ·subst h;simp
 ·simp[h]
theorem ZwB{m p q:Int}{so:List Int}(t:Nat):gB m p q so (t+1) (dpP m p q so (Zaa so-(t+1)))=gB m p q so t (Zcf m):=by
 funext i
 unfold gB
 by_cases h:t+1<i
 ·rw[if_pos h,if_pos (by omega)]
 ·rw[if_neg h]
  by_cases h2:i=t+1
  ·subst h2;rw[if_pos rfl,if_pos (by omega)]
  ·rw[if_neg h2,if_neg (by omega)];split<;>rfl
theorem Zch{m p q:Int}{so:List Int}(h:OkC m p q so){n:Nat}(hn:n≤Zaa so){s:Nat}(hs:s<stS m): -100000≤(dpP m p q so n).getD s 0∧(dpP m p q so n).getD s 0≤14*n:=by
 have w:=Ze1 h n hn s hs
 obtain⟨hg,_,hl2,hl3⟩:=h.soft
 have h2:=Zx9 (m:=m) (p:=p) (q:=q) hg n s
 have hT:Zaa so≤303:=by unfold Zaa;omega
 unfold Way at w;omega
section
variable {C:Ctx}(hC:C.P=Try.prog)(m p q:Int)(so:List Int)(h:OkC m p q so)
include hC h
theorem B1(t s:Nat)(ht:t<Zaa so)(hs:s<stS m)(x:List Int)(hxl:x.length=stS m)(hx: -100000≤x.getD s 0∧x.getD s 0≤100000)(n7:Int)(b8 b9:Bool)(j:Nat)(b:Int)(hb:b=0∨b=1∧t<ZaS m so)(r:AV)(fr:Option Fresh)
 (hn:Ev C (Zco m p q so (reT (Zaa so)) t n7 b8 b9 j s (b+1) (rw2 (Zaa so) (gB m p q so t (x.set s (upP m p q so (dpP m p q so (Zaa so-(t+1))) t s b (x.getD s 0)))))) (ZbW m p q so (reT (Zaa so)) t n7 b8 b9 j s (b+1) (rw2 (Zaa so) (gB m p q so t (x.set s (upP m p q so (dpP m p q so (Zaa so-(t+1))) t s b (x.getD s 0)))))) (Zbe 65 r fr)):
 Ev C (Zco m p q so (reT (Zaa so)) t n7 b8 b9 j s b (rw2 (Zaa so) (gB m p q so t x))) (ZbW m p q so (reT (Zaa so)) t n7 b8 b9 j s b (rw2 (Zaa so) (gB m p q so t x))) (Zbe 65 r fr):=by
 obtain⟨hg,_,hl2,hl3⟩:=h.soft
 have hlen:2*Zaa so≤so.length:=by unfold Zaa;omega
 have hm:=(Zak h.cv).1
 have e1:(reT (Zaa so)).getD t 0=t+1:=Zb0 (by omega)
 have e2:(reT (Zaa so)).getD (t+1) 0=t+2:=Zb0 (by omega)
 have e3:(rw2 (Zaa so) (gB m p q so t x)).getD (t+2) []=wR (dpP m p q so (Zaa so-(t+1))):=by rw[ZlD _ (by omega),gB,if_pos (by omega)]
 have e4:(rw2 (Zaa so) (gB m p q so t x)).getD (t+1) []=wR x:=by rw[ZlD _ (by omega),gB,if_neg (by omega),if_pos rfl]
 have e5:=Zjj (Zaa so) (gB m p q so t x)
 have e6:∀y,(rw2 (Zaa so) (gB m p q so t x)).set (t+1) (wR y)=rw2 (Zaa so) (gB m p q so t y):=fun y=>by rw[Zvw,Zyy]
 have e7:=ZdP (Zaa so)
 have hdl:=ZfA m p q so (Zaa so-(t+1))
 have hbb:b=0∨b=1:=by omega
 obtain⟨s1,s2,s3⟩:=ZaO h hs hbb
 have k1:(2*(t:Int)).toNat=2*t:=by omega
 have k2:(2*(t:Int)+1).toNat=2*t+1:=by omega
 have hco:=Zon so t (Zcq m p s b) (Zcq m q s b)
 have hgl:=Zdb (m:=m) (p:=p) (q:=q) hg t s b
 have a1:=Zbt hg (2*t)
 have a2:=Zbt hg (2*t+1)
 have hD:=Zch h (n:=Zaa so-(t+1)) (by omega) s3
 have hbt:t<ZaS m so↔¬ZbK m so≤t:=by unfold ZaS ZbK Zaj;omega
 have h108:Zlz m so=true:=decide_eq_true (by omega)
 have hT:Zaa so≤303:=by unfold Zaa;omega
 unfold gnI at hgl
 have f1:(wR x).getD s 0=wN (x.getD s 0):=Zhv x (by omega)
 have f2:(wR (dpP m p q so (Zaa so-(t+1)))).getD (nxS m s b).toNat 0=wN ((dpP m p q so (Zaa so-(t+1))).getD (nxS m s b).toNat 0):=Zhv _ (by omega)
 have f3:std.fadd .f32 (wN ((dpP m p q so (Zaa so-(t+1))).getD (nxS m s b).toNat 0)) (std.i2f .f32 (gaI so t (oS m p s b) (oS m q s b)))=some (wN ((dpP m p q so (Zaa so-(t+1))).getD (nxS m s b).toNat 0+gaI so t (oS m p s b) (oS m q s b))):=Zlr (by omega) (by omega)
 have f4:=Zi0 (a:=x.getD s 0) (b:=(dpP m p q so (Zaa so-(t+1))).getD (nxS m s b).toNat 0+gaI so t (oS m p s b) (oS m q s b)) (by omega) (by omega)
 have f5:=ZCN (a:=x.getD s 0) (b:=(dpP m p q so (Zaa so-(t+1))).getD (nxS m s b).toNat 0+gaI so t (oS m p s b) (oS m q s b)) (by omega) (by omega)
 have f6:=Zf1 x
 have f7:=Zf1 (dpP m p q so (Zaa so-(t+1)))
 have hu:upP m p q so (dpP m p q so (Zaa so-(t+1))) t s b (x.getD s 0)=max (x.getD s 0) ((dpP m p q so (Zaa so-(t+1))).getD (nxS m s b).toNat 0+gaI so t (oS m p s b) (oS m q s b)):=rfl
 rw[hu]at hn
 refine tgo hC Zbq ZgP ?_
 rcases hb with rfl |⟨rfl,hb⟩
 ·simp[-List.getD_eq_getElem?_getD,List.getD_cons_zero,List.getD_cons_succ,Zb7,e1,e2,e3,e4,e5,e6,e7,s1,s2,s3,k1,k2,hco,hxl,hdl,hs,h108,f1,f2,f3,f4,f5,f6,f7,Zqu]at hn⊢
  refine⟨?_,hn⟩
  omega
 ·have hb2:=hbt.1 hb
  simp[-List.getD_eq_getElem?_getD,List.getD_cons_zero,List.getD_cons_succ,Zb7,e1,e2,e3,e4,e5,e6,e7,s1,s2,s3,k1,k2,hco,hxl,hdl,hs,h108,hb2,f1,f2,f3,f4,f5,f6,f7,Zqu]at hn⊢
  refine⟨?_,hn⟩
  omega
theorem B1x(t s:Nat)(ht:t<Zaa so)(hs:s<stS m)(rows:List (List Nat))(n7:Int)(b8 b9:Bool)(j:Nat)(b:Int)(hb:b=2∨b=1∧¬t<ZaS m so)(r:AV)(fr:Option Fresh)
 (hn:Ev C (Zdh m p q so (reT (Zaa so)) t n7 b8 b9 j ((s+1:Nat):Int) rows) (ZcL m p q so (reT (Zaa so)) t n7 b8 b9 j ((s+1:Nat):Int) rows) (Zbe 65 r fr)):
 Ev C (Zco m p q so (reT (Zaa so)) t n7 b8 b9 j s b rows) (ZbW m p q so (reT (Zaa so)) t n7 b8 b9 j s b rows) (Zbe 65 r fr):=by
 have hm:=(Zak h.cv).1
 have h2:=ZaE hm
 obtain⟨hg,_,hl2,hl3⟩:=h.soft
 have hbt:t<ZaS m so↔¬ZbK m so≤t:=by unfold ZaS ZbK Zaj;omega
 have h108:Zlz m so=true:=decide_eq_true (by omega)
 refine tgo hC Zbq ZgP ?_
 rcases hb with rfl |⟨rfl,hb⟩
 ·simp[Zb7]at hn⊢
  exact⟨by omega,hn⟩
 ·have hb2:ZbK m so≤t:=by omega
  simp[Zb7,h108,hb2]at hn⊢
  exact⟨by omega,hn⟩
end
theorem Zwl{S s:Nat}(v:Nat→Int)(h:s≤S):(upF S v s).length=S:=by simp[upF];omega
theorem ZuM{S s:Nat}(v:Nat→Int)(h:s<S)(x:Int):(upF S v s).set s x=(List.range s).map v++x::List.replicate (S-s-1) (-100000):=by
 unfold upF
 rw[List.set_append,if_neg (by simp),show S-s=(S-s-1)+1 by omega,List.replicate_succ]
 simp
theorem Zs4{S s:Nat}(v:Nat→Int)(h:s<S):(upF S v s).set s (v s)=upF S v (s+1):=by
 rw[ZuM v h,upF,List.range_succ,List.map_append,List.append_assoc,show S-(s+1)=S-s-1 by omega];rfl
theorem ZwA{S s:Nat}(v:Nat→Int)(h:s<S):(upF S v s).getD s 0= -100000:=by
 unfold upF
 rw[List.getD_eq_getElem?_getD,List.getElem?_append_right (by simp),List.length_map,List.length_range,Nat.sub_self,List.getElem?_replicate,if_pos (by omega)];rfl
theorem Ztp(S:Nat)(v:Nat→Int):upF S v 0=List.replicate S (-100000):=by simp[upF]
theorem ZwX(S:Nat)(v:Nat→Int):upF S v S=(List.range S).map v:=by simp[upF]
section
variable {C:Ctx}(hC:C.P=Try.prog)(m p q:Int)(so:List Int)(h:OkC m p q so)
include hC h
theorem B0(t:Nat)(ht:t<Zaa so)(b8 b9:Bool)(j:Nat)(r:AV)(fr:Option Fresh)
 (hn:Ev C (ZdJ m p q so (reT (Zaa so)) ((t:Int)-1) (rw2 (Zaa so) (gB m p q so t (dpP m p q so (Zaa so-t)))) j) (ZcF m p q so (reT (Zaa so)) ((t:Int)-1) (rw2 (Zaa so) (gB m p q so t (dpP m p q so (Zaa so-t)))) j) (Zbe 65 r fr)):
 ∀k s:Nat,s+k=stS m→
 Ev C (Zdh m p q so (reT (Zaa so)) t (stN m) b8 b9 j s (rw2 (Zaa so) (gB m p q so t (upF (stS m) (Zm6 m p q so (dpP m p q so (Zaa so-(t+1))) t) s)))) (ZcL m p q so (reT (Zaa so)) t (stN m) b8 b9 j s (rw2 (Zaa so) (gB m p q so t (upF (stS m) (Zm6 m p q so (dpP m p q so (Zaa so-(t+1))) t) s)))) (Zbe 65 r fr):=by
 have hm:=(Zak h.cv).1
 have h2:=ZaE hm
 obtain⟨hg,_,hl2,hl3⟩:=h.soft
 have hT:Zaa so≤303:=by unfold Zaa;omega
 intro k
 induction k with
 |zero=>
  intro s hs
  refine tgo hC Zbq Zg1 ?_
  have e9:(s:Int)=stN m:=by omega
  have e8:dpP m p q so (Zaa so-t)=upF (stS m) (Zm6 m p q so (dpP m p q so (Zaa so-(t+1))) t) s:=by
   rw[show s=stS m by omega,ZwX,show Zaa so-t=(Zaa so-(t+1))+1 by omega,dpP,show Zaa so-1-(Zaa so-(t+1))=t by omega]
  rw[e8]at hn
  simp[Zd2,e9]at hn⊢
  exact⟨by omega,hn⟩
 |succ k ih=>
  intro s hs
  refine tgo hC Zbq Zg1 ?_
  have e9:(s:Int)<stN m:=by omega
  have hs':s<stS m:=by omega
  simp[Zd2,e9]
  have ih':=ih (s+1) (by omega)
  have hl:=Zwl (Zm6 m p q so (dpP m p q so (Zaa so-(t+1))) t) (show s≤stS m by omega)
  have hgt:=ZwA (Zm6 m p q so (dpP m p q so (Zaa so-(t+1))) t) hs'
  rw[←Zs4 _ hs']at ih'
  apply B1 hC m p q so h t s ht hs' _ hl (by omega) _ _ _ _ 0 (Or.inl rfl)
  rw[hgt]
  by_cases hb:t<ZaS m so
  ·have hgl:=Zdb (m:=m) (p:=p) (q:=q) hg t s 0
   have hD:=Zch h (n:=Zaa so-(t+1)) (by omega) (ZaO h hs' (b:=0) (Or.inl rfl)).2.2
   have e11:∀x,((upF (stS m) (Zm6 m p q so (dpP m p q so (Zaa so-(t+1))) t) s).set s x).getD s 0=x:=by
    intro x;rw[List.getD_eq_getElem?_getD,List.getElem?_set];simp[hl,hs']
   apply B1 hC m p q so h t s ht hs' _ (by rw[List.length_set,hl]) (by rw[e11];unfold upP;omega) _ _ _ _ _ (Or.inr ⟨rfl,hb⟩)
   rw[e11,List.set_set]
   apply B1x hC m p q so h t s ht hs' _ _ _ _ _ _ (Or.inl rfl)
   rw[Zm6,if_pos hb]at ih'
   exact ih'
  ·apply B1x hC m p q so h t s ht hs' _ _ _ _ _ _ (Or.inr ⟨rfl,hb⟩)
   rw[Zm6,if_neg hb]at ih'
   exact ih'
theorem ZE1(r:AV)(fr:Option Fresh)
 (hn:∀j:Nat,Ev C (ZbG m p q so (reT (Zaa so)) (rw2 (Zaa so) (gB m p q so 0 (dpP m p q so (Zaa so)))) (ZbK m so) j 0 0 0 []) (Zbk m p q so (reT (Zaa so)) (rw2 (Zaa so) (gB m p q so 0 (dpP m p q so (Zaa so)))) (ZbK m so) j 0 0 0 []) (Zbe 65 r fr)):
 ∀t j:Nat,t≤Zaa so→
 Ev C (ZdJ m p q so (reT (Zaa so)) ((t:Int)-1) (rw2 (Zaa so) (gB m p q so t (dpP m p q so (Zaa so-t)))) j) (ZcF m p q so (reT (Zaa so)) ((t:Int)-1) (rw2 (Zaa so) (gB m p q so t (dpP m p q so (Zaa so-t)))) j) (Zbe 65 r fr):=by
 have hm:=(Zak h.cv).1
 have h2:=ZaE hm
 obtain⟨hg,_,hl2,hl3⟩:=h.soft
 have hmm:ZcQ m=true:=decide_eq_true (by omega)
 have h108:Zlz m so=true:=decide_eq_true (by omega)
 intro t
 induction t with
 |zero=>
  intro j _
  refine tgo hC Zbq Zgu ?_
  have i:=hn (0+List.length (List.replicate j Blk.dfr))
  simp[ZdW,h108]at i⊢
  exact i
 |succ t ih=>
  intro j ht
  refine tgo hC Zbq Zgu ?_
  have i:=B0 hC m p q so h t (by omega) true true (j+1) r fr (ih (j+1) (by omega)) (stS m) 0 (by omega)
  rw[Ztp,show List.replicate (stS m) (-100000)=Zcf m from rfl,←ZwB]at i
  have e1:((t+1:Nat):Int)-1=t:=by omega
  rw[e1]
  simp[ZdW,hmm]at i⊢
  exact i
end
end Go.Proofs.Ytklbmkllepkjcaa
/- Contracts as a list. No condition. -/
namespace Go.Proofs.Ytklbmkllepkjcaa
theorem ZkT{m p q:Int}{so:List Int}{t:Nat}(h:t≤Zaa so):(rw2 (Zaa so) (gB m p q so 0 (dpP m p q so (Zaa so)))).getD (t+1) []=wR (dpP m p q so (Zaa so-t)):=by
 rw[ZlD _ h,gB]
 by_cases h0:0<t
 ·rw[if_pos h0]
 ·rw[if_neg h0,if_pos (by omega),show t=0 by omega];rfl
def ZiC(m p q:Int)(so:List Int)(t st:Nat)(b:Int):Prop:=(dpP m p q so (Zaa so-t-1)).getD (nxS m st b).toNat 0+gnI m p q so t st b=(dpP m p q so (Zaa so-t)).getD st 0
section
variable {C:Ctx}(hC:C.P=Try.prog)(m p q:Int)(so:List Int)(h:OkC m p q so)
include hC h
theorem Z1(t s st:Nat)(ht:t<ZaS m so)(hs:s<stS m)(hst:st<stS m)(l:List Int)(b8 b9:Bool)(j j2:Nat)(b:Int)(hb:b=0∨b=1)(hne:s=st→¬ZiC m p q so t st b)(r:AV)(fr:Option Fresh)
 (hn:Ev C (ZbS m p q so (reT (Zaa so)) (rw2 (Zaa so) (gB m p q so 0 (dpP m p q so (Zaa so)))) (ZbK m so) j t st l (stN m) b8 b9 j2 s (b+1)) (Zbw m p q so (reT (Zaa so)) (rw2 (Zaa so) (gB m p q so 0 (dpP m p q so (Zaa so)))) (ZbK m so) j t st l (stN m) b8 b9 j2 s (b+1)) (Zbe 65 r fr)):
 Ev C (ZbS m p q so (reT (Zaa so)) (rw2 (Zaa so) (gB m p q so 0 (dpP m p q so (Zaa so)))) (ZbK m so) j t st l (stN m) b8 b9 j2 s b) (Zbw m p q so (reT (Zaa so)) (rw2 (Zaa so) (gB m p q so 0 (dpP m p q so (Zaa so)))) (ZbK m so) j t st l (stN m) b8 b9 j2 s b) (Zbe 65 r fr):=by
 obtain⟨hg,_,hl2,hl3⟩:=h.soft
 have hlen:2*Zaa so≤so.length:=by unfold Zaa;omega
 have hm:=(Zak h.cv).1
 have hbb:ZaS m so≤Zaa so:=by unfold ZaS Zaa;omega
 have hT:Zaa so≤303:=by unfold Zaa;omega
 have e1:(reT (Zaa so)).getD t 0=t+1:=Zb0 (by omega)
 have e2:(reT (Zaa so)).getD (t+1) 0=t+2:=Zb0 (by omega)
 have e3:(rw2 (Zaa so) (gB m p q so 0 (dpP m p q so (Zaa so)))).getD (t+2) []=wR (dpP m p q so (Zaa so-t-1)):=ZkT (t:=t+1) (by omega)
 have e4:(rw2 (Zaa so) (gB m p q so 0 (dpP m p q so (Zaa so)))).getD (t+1) []=wR (dpP m p q so (Zaa so-t)):=ZkT (by omega)
 have e5:=Zjj (Zaa so) (gB m p q so 0 (dpP m p q so (Zaa so)))
 have e7:=ZdP (Zaa so)
 have hdl:=ZfA m p q so (Zaa so-t-1)
 have hdl2:=ZfA m p q so (Zaa so-t)
 obtain⟨s1,s2,s3⟩:=ZaO h hs hb
 have k1:(2*(t:Int)).toNat=2*t:=by omega
 have k2:(2*(t:Int)+1).toNat=2*t+1:=by omega
 have hco:=Zon so t (Zcq m p s b) (Zcq m q s b)
 have hgl:=Zdb (m:=m) (p:=p) (q:=q) hg t s b
 have a1:=Zbt hg (2*t)
 have a2:=Zbt hg (2*t+1)
 have hD:=Zch h (n:=Zaa so-t-1) (by omega) s3
 have hX:=Zch h (n:=Zaa so-t) (by omega) hst
 have hbt:t<ZaS m so↔¬ZbK m so≤t:=by unfold ZaS ZbK Zaj;omega
 have h108:Zlz m so=true:=decide_eq_true (by omega)
 have hb2:=hbt.1 ht
 unfold ZiC gnI at hne
 unfold gnI at hgl
 have f1:(wR (dpP m p q so (Zaa so-t))).getD st 0=wN ((dpP m p q so (Zaa so-t)).getD st 0):=Zhv _ (by omega)
 have f2:(wR (dpP m p q so (Zaa so-t-1))).getD (nxS m s b).toNat 0=wN ((dpP m p q so (Zaa so-t-1)).getD (nxS m s b).toNat 0):=Zhv _ (by omega)
 have f3:std.fadd .f32 (wN ((dpP m p q so (Zaa so-t-1)).getD (nxS m s b).toNat 0)) (std.i2f .f32 (gaI so t (oS m p s b) (oS m q s b)))=some (wN ((dpP m p q so (Zaa so-t-1)).getD (nxS m s b).toNat 0+gaI so t (oS m p s b) (oS m q s b))):=Zlr (by omega) (by omega)
 have f4:=Zi0 (a:=(dpP m p q so (Zaa so-t-1)).getD (nxS m s b).toNat 0+gaI so t (oS m p s b) (oS m q s b)) (b:=(dpP m p q so (Zaa so-t)).getD st 0) (by omega) (by omega)
 have f6:=Zf1 (dpP m p q so (Zaa so-t))
 have f7:=Zf1 (dpP m p q so (Zaa so-t-1))
 have g1:t<Zaa so:=by omega
 have g2:t<Zaa so+1:=by omega
 have g3:(0:Int)≤(t:Int)+1:=by omega
 have g4: -9223372036854775808≤(t:Int)+1:=by omega
 have g5:(t:Int)+1≤9223372036854775807:=by omega
 have g6:∀x,asB true x=x:=fun x=>rfl
 refine tgo hC Zbq ZdR ?_
 by_cases hq:s=st
 ·subst hq
  have f8:=hne rfl
  have f9:(compare ((dpP m p q so (Zaa so-t-1)).getD (nxS m s b).toNat 0+gaI so t (oS m p s b) (oS m q s b)) ((dpP m p q so (Zaa so-t)).getD s 0)==Ordering.eq)=false:=by
   rw[beq_eq_false_iff_ne];exact fun e=>f8 (Int.compare_eq_eq.1 e)
  rcases hb with rfl |rfl
  ·simp[-List.getD_eq_getElem?_getD,List.getD_cons_zero,List.getD_cons_succ,Za4,e1,e2,e3,e4,e5,e7,s1,s2,s3,k1,k2,hco,hdl,hdl2,hs,h108,hb2,f1,f2,f3,f4,f6,f7,f9,g1,g2,g3,g4,g5,g6]at hn⊢
   exact⟨by omega,hn⟩
  ·simp[-List.getD_eq_getElem?_getD,List.getD_cons_zero,List.getD_cons_succ,Za4,e1,e2,e3,e4,e5,e7,s1,s2,s3,k1,k2,hco,hdl,hdl2,hs,h108,hb2,f1,f2,f3,f4,f6,f7,f9,g1,g2,g3,g4,g5,g6]at hn⊢
   exact⟨by omega,hn⟩
 ·have hq':¬(s:Int)=st:=by omega
  rcases hb with rfl |rfl
  ·simp[-List.getD_eq_getElem?_getD,List.getD_cons_zero,List.getD_cons_succ,Za4,e1,e2,e3,e4,e5,e7,s1,s2,s3,k1,k2,hco,hdl,hdl2,h108,hb2,f1,f2,f3,f4,f6,f7,hst,hq',g1,g2,g3,g4,g5]at hn⊢
   exact⟨by omega,hn⟩
  ·simp[-List.getD_eq_getElem?_getD,List.getD_cons_zero,List.getD_cons_succ,Za4,e1,e2,e3,e4,e5,e7,s1,s2,s3,k1,k2,hco,hdl,hdl2,h108,hb2,f1,f2,f3,f4,f6,f7,hst,hq',g1,g2,g3,g4,g5]at hn⊢
   exact⟨by omega,hn⟩
theorem Z1e(t st:Nat)(ht:t<ZaS m so)(hs:st<stS m)(l:List Int)(hl:l.length≤1000)(b8 b9:Bool)(j j2:Nat)(b:Int)(hb:b=0∨b=1)(he:ZiC m p q so t st b)(r:AV)(fr:Option Fresh)
 (hn:Ev C (ZbG m p q so (reT (Zaa so)) (rw2 (Zaa so) (gB m p q so 0 (dpP m p q so (Zaa so)))) (ZbK m so) j ((t+1:Nat):Int) j2 (nxS m st b) (l++[b])) (Zbk m p q so (reT (Zaa so)) (rw2 (Zaa so) (gB m p q so 0 (dpP m p q so (Zaa so)))) (ZbK m so) j ((t+1:Nat):Int) j2 (nxS m st b) (l++[b])) (Zbe 65 r fr)):
 Ev C (ZbS m p q so (reT (Zaa so)) (rw2 (Zaa so) (gB m p q so 0 (dpP m p q so (Zaa so)))) (ZbK m so) j t st l (stN m) b8 b9 j2 st b) (Zbw m p q so (reT (Zaa so)) (rw2 (Zaa so) (gB m p q so 0 (dpP m p q so (Zaa so)))) (ZbK m so) j t st l (stN m) b8 b9 j2 st b) (Zbe 65 r fr):=by
 obtain⟨hg,_,hl2,hl3⟩:=h.soft
 have hlen:2*Zaa so≤so.length:=by unfold Zaa;omega
 have hm:=(Zak h.cv).1
 have hbb:ZaS m so≤Zaa so:=by unfold ZaS Zaa;omega
 have hT:Zaa so≤303:=by unfold Zaa;omega
 have e1:(reT (Zaa so)).getD t 0=t+1:=Zb0 (by omega)
 have e2:(reT (Zaa so)).getD (t+1) 0=t+2:=Zb0 (by omega)
 have e3:(rw2 (Zaa so) (gB m p q so 0 (dpP m p q so (Zaa so)))).getD (t+2) []=wR (dpP m p q so (Zaa so-t-1)):=ZkT (t:=t+1) (by omega)
 have e4:(rw2 (Zaa so) (gB m p q so 0 (dpP m p q so (Zaa so)))).getD (t+1) []=wR (dpP m p q so (Zaa so-t)):=ZkT (by omega)
 have e5:=Zjj (Zaa so) (gB m p q so 0 (dpP m p q so (Zaa so)))
 have e7:=ZdP (Zaa so)
 have hdl:=ZfA m p q so (Zaa so-t-1)
 have hdl2:=ZfA m p q so (Zaa so-t)
 obtain⟨s1,s2,s3⟩:=ZaO h hs hb
 have k1:(2*(t:Int)).toNat=2*t:=by omega
 have k2:(2*(t:Int)+1).toNat=2*t+1:=by omega
 have hco:=Zon so t (Zcq m p st b) (Zcq m q st b)
 have hgl:=Zdb (m:=m) (p:=p) (q:=q) hg t st b
 have a1:=Zbt hg (2*t)
 have a2:=Zbt hg (2*t+1)
 have hD:=Zch h (n:=Zaa so-t-1) (by omega) s3
 have hX:=Zch h (n:=Zaa so-t) (by omega) hs
 have hbt:t<ZaS m so↔¬ZbK m so≤t:=by unfold ZaS ZbK Zaj;omega
 have h108:Zlz m so=true:=decide_eq_true (by omega)
 have hb2:=hbt.1 ht
 unfold ZiC gnI at he
 unfold gnI at hgl
 have f1:(wR (dpP m p q so (Zaa so-t))).getD st 0=wN ((dpP m p q so (Zaa so-t)).getD st 0):=Zhv _ (by omega)
 have f2:(wR (dpP m p q so (Zaa so-t-1))).getD (nxS m st b).toNat 0=wN ((dpP m p q so (Zaa so-t-1)).getD (nxS m st b).toNat 0):=Zhv _ (by omega)
 have f3:std.fadd .f32 (wN ((dpP m p q so (Zaa so-t-1)).getD (nxS m st b).toNat 0)) (std.i2f .f32 (gaI so t (oS m p st b) (oS m q st b)))=some (wN ((dpP m p q so (Zaa so-t)).getD st 0)):=by rw[←he];exact Zlr (by omega) (by omega)
 have f4:=Zi0 (a:=(dpP m p q so (Zaa so-t)).getD st 0) (b:=(dpP m p q so (Zaa so-t)).getD st 0) (by omega) (by omega)
 have f6:=Zf1 (dpP m p q so (Zaa so-t))
 have f7:=Zf1 (dpP m p q so (Zaa so-t-1))
 have g1:t<Zaa so:=by omega
 have g2:t<Zaa so+1:=by omega
 have g3:(0:Int)≤(t:Int)+1:=by omega
 have g4: -9223372036854775808≤(t:Int)+1:=by omega
 have g5:(t:Int)+1≤9223372036854775807:=by omega
 have g6:∀x,asB true x=x:=fun x=>rfl
 refine tgo hC Zbq ZdR ?_
 rcases hb with rfl |rfl
 ·simp[-List.getD_eq_getElem?_getD,List.getD_cons_zero,List.getD_cons_succ,Za4,e1,e2,e3,e4,e5,e7,s1,s2,s3,k1,k2,hco,hdl,hdl2,hs,h108,hb2,f1,f2,f3,f4,f6,f7,g1,g2,g3,g4,g5,g6,AV.bx,Zan]at hn⊢
  exact⟨by omega,by omega,hn⟩
 ·simp[-List.getD_eq_getElem?_getD,List.getD_cons_zero,List.getD_cons_succ,Za4,e1,e2,e3,e4,e5,e7,s1,s2,s3,k1,k2,hco,hdl,hdl2,hs,h108,hb2,f1,f2,f3,f4,f6,f7,g1,g2,g3,g4,g5,g6,AV.bx,Zan]at hn⊢
  exact⟨by omega,by omega,hn⟩
theorem Z0(t st:Nat)(ht:t<ZaS m so)(hst:st<stS m)(l:List Int)(hl:l.length≤1000)(b8 b9:Bool)(j j2:Nat)(r:AV)(fr:Option Fresh)
 (hn0:ZiC m p q so t st 0→Ev C (ZbG m p q so (reT (Zaa so)) (rw2 (Zaa so) (gB m p q so 0 (dpP m p q so (Zaa so)))) (ZbK m so) j ((t+1:Nat):Int) j2 (nxS m st 0) (l++[0])) (Zbk m p q so (reT (Zaa so)) (rw2 (Zaa so) (gB m p q so 0 (dpP m p q so (Zaa so)))) (ZbK m so) j ((t+1:Nat):Int) j2 (nxS m st 0) (l++[0])) (Zbe 65 r fr))
 (hn1:¬ZiC m p q so t st 0→ZiC m p q so t st 1→Ev C (ZbG m p q so (reT (Zaa so)) (rw2 (Zaa so) (gB m p q so 0 (dpP m p q so (Zaa so)))) (ZbK m so) j ((t+1:Nat):Int) j2 (nxS m st 1) (l++[1])) (Zbk m p q so (reT (Zaa so)) (rw2 (Zaa so) (gB m p q so 0 (dpP m p q so (Zaa so)))) (ZbK m so) j ((t+1:Nat):Int) j2 (nxS m st 1) (l++[1])) (Zbe 65 r fr))
 (hn2:¬ZiC m p q so t st 0→¬ZiC m p q so t st 1→Ev C (ZbG m p q so (reT (Zaa so)) (rw2 (Zaa so) (gB m p q so 0 (dpP m p q so (Zaa so)))) (ZbK m so) j ((t+1:Nat):Int) j2 st l) (Zbk m p q so (reT (Zaa so)) (rw2 (Zaa so) (gB m p q so 0 (dpP m p q so (Zaa so)))) (ZbK m so) j ((t+1:Nat):Int) j2 st l) (Zbe 65 r fr)):
 ∀k s:Nat,s+k=stS m→(s≤st∨¬ZiC m p q so t st 0∧¬ZiC m p q so t st 1)→
 Ev C (Ze6 m p q so (reT (Zaa so)) (rw2 (Zaa so) (gB m p q so 0 (dpP m p q so (Zaa so)))) (ZbK m so) j t st l (stN m) b8 b9 j2 s) (Zd7 m p q so (reT (Zaa so)) (rw2 (Zaa so) (gB m p q so 0 (dpP m p q so (Zaa so)))) (ZbK m so) j t st l (stN m) b8 b9 j2 s) (Zbe 65 r fr):=by
 have hm:=(Zak h.cv).1
 have h2:=ZaE hm
 obtain⟨hg,_,hl2,hl3⟩:=h.soft
 have hT:ZaS m so≤303:=by unfold ZaS;omega
 intro k
 induction k with
 |zero=>
  intro s hs hq
  have e9:(s:Int)=stN m:=by omega
  obtain⟨q1,q2⟩:¬ZiC m p q so t st 0∧¬ZiC m p q so t st 1:=by
   rcases hq with hq |hq
   ·omega
   ·exact hq
  have i:=hn2 q1 q2
  refine tgo hC Zbq ZgA ?_
  simp[Zej,e9]at i⊢
  exact⟨by omega,i⟩
 |succ k ih=>
  intro s hs hq
  have e9:(s:Int)<stN m:=by omega
  have hx:∀i:s+1≤st∨¬ZiC m p q so t st 0∧¬ZiC m p q so t st 1,Ev C (ZbS m p q so (reT (Zaa so)) (rw2 (Zaa so) (gB m p q so 0 (dpP m p q so (Zaa so)))) (ZbK m so) j t st l (stN m) b8 b9 j2 s 2) (Zbw m p q so (reT (Zaa so)) (rw2 (Zaa so) (gB m p q so 0 (dpP m p q so (Zaa so)))) (ZbK m so) j t st l (stN m) b8 b9 j2 s 2) (Zbe 65 r fr):=fun i=>by
   have ih':=ih (s+1) (by omega) i
   refine tgo hC Zbq ZdR ?_
   simp[Za4]at ih'⊢
   exact⟨by omega,ih'⟩
  refine tgo hC Zbq ZgA ?_
  simp only[Zej,ZDt,ZGq,e9,decide_true,if_true]
  show Ev C _ _ _
  by_cases hs2:s=st
  ·subst hs2
   by_cases q0:ZiC m p q so t s 0
   ·exact Z1e hC m p q so h t s ht hst l hl _ _ _ _ 0 (Or.inl rfl) q0 _ _ (hn0 q0)
   ·refine Z1 hC m p q so h t s s ht hst hst l _ _ _ _ 0 (Or.inl rfl) (fun _=>q0) _ _ ?_
    by_cases q1:ZiC m p q so t s 1
    ·exact Z1e hC m p q so h t s ht hst l hl _ _ _ _ 1 (Or.inr rfl) q1 _ _ (hn1 q0 q1)
    ·exact Z1 hC m p q so h t s s ht hst hst l _ _ _ _ 1 (Or.inr rfl) (fun _=>q1) _ _ (hx (Or.inr ⟨q0,q1⟩))
  ·refine Z1 hC m p q so h t s st ht (by omega) hst l _ _ _ _ 0 (Or.inl rfl) (fun e=>absurd e hs2) _ _ ?_
   refine Z1 hC m p q so h t s st ht (by omega) hst l _ _ _ _ 1 (Or.inr rfl) (fun e=>absurd e hs2) _ _ (hx ?_)
   rcases hq with hq |hq
   ·exact Or.inl (by omega)
   ·exact Or.inr hq
theorem Z65:∀k t:Nat,t+k=ZaS m so→∀(st:Nat) (l:List Int) (j j2:Nat),st<stS m→l.length+k≤1000→
 Ev C (ZbG m p q so (reT (Zaa so)) (rw2 (Zaa so) (gB m p q so 0 (dpP m p q so (Zaa so)))) (ZbK m so) j t j2 st l) (Zbk m p q so (reT (Zaa so)) (rw2 (Zaa so) (gB m p q so 0 (dpP m p q so (Zaa so)))) (ZbK m so) j t j2 st l) (Zbe 65 (.tup [.row 0 0, .int .i64 ((dpP m p q so (Zaa so)).getD 0 0)]) (some ⟨3,1, .ints .i64 (l++tbP m p q so k t st)⟩)):=by
 have hm:=(Zak h.cv).1
 have h2:=ZaE hm
 have hmm:ZcQ m=true:=decide_eq_true (by omega)
 obtain⟨hg,_,hl2,hl3⟩:=h.soft
 have hT:ZaS m so≤Zaa so∧Zaa so≤303:=by unfold ZaS Zaa;omega
 intro k
 induction k with
 |zero=>
  intro t ht st l j j2 hst hl
  have hbt:¬(t:Int)<ZbK m so:=by unfold ZaS at ht;unfold ZbK Zaj;omega
  have e1:(reT (Zaa so)).getD 0 0=1:=by rw[Zb0 (by omega)]
  have e3:(rw2 (Zaa so) (gB m p q so 0 (dpP m p q so (Zaa so)))).getD 1 []=wR (dpP m p q so (Zaa so)):=ZkT (t:=0) (by omega)
  have e5:=Zjj (Zaa so) (gB m p q so 0 (dpP m p q so (Zaa so)))
  have e7:=ZdP (Zaa so)
  have hdl:=ZfA m p q so (Zaa so)
  have hX:=Zch h (n:=Zaa so) (by omega) (show 0<stS m by omega)
  have f1:(wR (dpP m p q so (Zaa so))).getD 0 0=wN ((dpP m p q so (Zaa so)).getD 0 0):=Zhv _ (by omega)
  have f2:=ZtR (n:=(dpP m p q so (Zaa so)).getD 0 0) (by omega)
  have f6:=Zf1 (dpP m p q so (Zaa so))
  refine tgo hC Zbq ZiL ?_
  simp[-List.getD_eq_getElem?_getD,Zfq,hbt,e1,e3,e5,e7,hdl,f1,f2,f6,tbP]
  omega
 |succ k ih=>
  intro t ht st l j j2 hst hl
  have hbt:(t:Int)<ZbK m so:=by unfold ZaS at ht;unfold ZbK Zaj;omega
  refine tgo hC Zbq ZiL ?_
  have i:=Z0 hC m p q so h t st (by omega) hst l (by omega) true true j (j2+1) (.tup [.row 0 0, .int .i64 ((dpP m p q so (Zaa so)).getD 0 0)]) (some ⟨3,1, .ints .i64 (l++tbP m p q so (k+1) t st)⟩) (fun q0=>by
   obtain⟨s1,s2,s3⟩:=ZaO h hst (b:=0) (Or.inl rfl)
   have:=ih (t+1) (by omega) (nxS m st 0).toNat (l++[0]) j (j2+1) s3 (by simp;omega)
   rw[Int.toNat_of_nonneg s2,List.append_assoc]at this
   unfold ZiC at q0
   rw[tbP,if_pos q0]
   exact this) (fun q0 q1=>by
   obtain⟨s1,s2,s3⟩:=ZaO h hst (b:=1) (Or.inr rfl)
   have:=ih (t+1) (by omega) (nxS m st 1).toNat (l++[1]) j (j2+1) s3 (by simp;omega)
   rw[Int.toNat_of_nonneg s2,List.append_assoc]at this
   unfold ZiC at q0 q1
   rw[tbP,if_neg q0,if_pos q1]
   exact this) (fun q0 q1=>by
   have:=ih (t+1) (by omega) st l j (j2+1) hst (by omega)
   unfold ZiC at q0 q1
   rw[tbP,if_neg q0,if_neg q1]
   exact this) (stS m) 0 (by omega) (Or.inl (Nat.zero_le _))
  simp[Zfq,hbt,hmm]at i⊢
  exact i
end
theorem Zzr{m:Int} :wR (Zcf m)=List.replicate (stN m).toNat 3351465984:=by
 unfold wR Zcf
 rw[List.map_replicate,←ZxB];rfl
section
variable {C:Ctx}(hC:C.P=Try.prog)(m p q:Int)(so:List Int)(h:OkC m p q so)
include hC h
theorem ZFr:∀k t:Nat,t+k=Zaa so+1→
 Ev C (ZfG m p q so ((Zaa so+1:Nat):Int) (fT (Zaa so) t) t ([]::List.replicate t (wR (Zcf m)))) (ZdV m p q so ((Zaa so+1:Nat):Int) (fT (Zaa so) t) t ([]::List.replicate t (wR (Zcf m)))) (Zbe 65 (.tup [.row 0 0, .int .i64 ((dpP m p q so (Zaa so)).getD 0 0)]) (some ⟨3,1, .ints .i64 (tbP m p q so (ZaS m so) 0 0)⟩)):=by
 have hm:=(Zak h.cv).1
 have h2:=ZaE hm
 have hmm:ZcQ m=true:=decide_eq_true (by omega)
 have hst:Zrn (stN m)=true:=decide_eq_true (by unfold stN at h2 ⊢;omega)
 obtain⟨hg,_,hl2,hl3⟩:=h.soft
 have hT:Zaa so≤303:=by unfold Zaa;omega
 have hbT:ZaS m so≤303:=by unfold ZaS;omega
 have hTT:Zaj so=(Zaa so:Int):=rfl
 intro k
 induction k with
 |zero=>
  intro t ht
  refine tgo hC Zbq ZgI ?_
  have i:=ZE1 hC m p q so h _ _ (fun j=>Z65 hC m p q so h (ZaS m so) 0 (by omega) 0 [] j 0 (by omega) (by simp;omega)) (Zaa so) 0 (Nat.le_refl _)
  have e9:t=Zaa so+1:=by omega
  subst e9
  have e1:(reT (Zaa so)).getD (Zaa so) 0=Zaa so+1:=Zb0 (by omega)
  have e2:(([]:List Nat)::List.replicate (Zaa so+1) (wR (Zcf m))).getD (Zaa so+1) []=wR (Zcf m):=by rw[List.getD_cons_succ,List.getD_eq_getElem?_getD,List.getElem?_replicate,if_pos (by omega)];rfl
  have e0:dpP m p q so 0=(Zcf m).set 0 0:=by
   apply List.ext_getElem?
   intro i
   unfold dpP Zcf
   rw[List.getElem?_set,List.getElem?_map,List.getElem?_replicate,List.length_replicate]
   by_cases hi:i<stS m
   ·rw[List.getElem?_range hi]
    by_cases h0:0=i
    ·subst h0;simp[hi]
    ·simp[hi,h0,show ¬i=0 by omega]
   ·rw[List.getElem?_eq_none (by simp;omega)];simp[hi,show ¬0=i by omega]
  have e3:(([]:List Nat)::List.replicate (Zaa so+1) (wR (Zcf m))).set (Zaa so+1) ((wR (Zcf m)).set 0 0)=rw2 (Zaa so) (gB m p q so (Zaa so) (dpP m p q so (Zaa so-Zaa so))):=by
   rw[Nat.sub_self,e0]
   unfold rw2
   rw[List.set_cons_succ]
   congr 1
   apply List.ext_getElem?
   intro i
   rw[List.getElem?_set,List.getElem?_map,List.getElem?_replicate,List.length_replicate]
   by_cases hi:i<Zaa so+1
   ·rw[List.getElem?_range hi]
    by_cases h0:Zaa so=i
    ·subst h0;simp[gB];rw[←Zqu,←Zvt]
    ·simp[h0,hi,gB,show ¬i=Zaa so from fun e=>h0 e.symm,show ¬Zaa so<i by omega]
   ·rw[List.getElem?_eq_none (by simp;omega)]
    simp[hi,show ¬Zaa so=i by omega]
  have e4:(Zcf m).length=stS m:=by simp[Zcf]
  have e4w:=Zf1 (Zcf m)
  have e5:=ZdP (Zaa so)
  have e6:=ZtA (Zaa so)
  rw[←e3]at i
  simp[-List.getD_eq_getElem?_getD, -List.set_cons_succ,Zen,e1,e2,e4,e4w,e5,e6,hTT]at i⊢
  refine⟨by omega,?_⟩
  exact i
 |succ k ih=>
  intro t ht
  refine tgo hC Zbq ZgI ?_
  have i:=ih (t+1) (by omega)
  rw[←ZtZ (by omega),List.replicate_succ',←List.cons_append]at i
  have e9:(t:Int)<(Zaa so:Int)+1:=by omega
  have e9n:t<Zaa so+1:=by omega
  have e5:=Zuc (Zaa so) t
  have e6:=Zzr (m:=m)
  simp[Zen,hmm,hst,e5,e9,e9n,AV.bx,Zan]at i⊢
  rw[←e6]
  exact⟨by omega,i⟩
end
theorem Zqn{m p q:Int}{so:List Int}(h:OkC m p q so):Zaa so≤303∧so.length≤1000000:=by
 have hm:=(Zak h.cv).1
 obtain⟨hg,_,hl2,hl3⟩:=h.soft
 unfold Zaa;omega
theorem ZoQ(m p q:Int)(so:List Int)(h:OkC m p q so):Zah Try.prog 65 [.agg (.gen [.int .i64 m, .int .i64 p, .int .i64 q, .list (.ints .i64 so)])] (.tup [.row 0 0, .int .i64 (bvI m p q so)]) (some ⟨3,1, .ints .i64 (blI m p q so)⟩):=by
 have hT:=Zqn h
 have hTT:Zaj so=(Zaa so:Int):=rfl
 obtain⟨w1,w2⟩:=ZeH h
 have e2:((Zaa so:Int)+1).toNat=Zaa so+1:=by omega
 refine start (Zwr m p q so) fun C hC=>tgo hC Zbq ZC9 ?_
 have i:=ZFr hC m p q so h (Zaa so+1) 0 (by omega)
 rw[w1,w2,ZpS]at i
 simp[ZAl,hTT,e2]at i⊢
 exact⟨by omega,i⟩
def k65:Ctr:=⟨65,0,fun _ a=>match a with |[.agg (.gen [.int .i64 m, .int .i64 p, .int .i64 q, .list (.ints .i64 so)])]=>some (decide (okI m p q so=true), .tup [.row 0 0, .int .i64 (bvI m p q so)],some ⟨3,1, .ints .i64 (blI m p q so)⟩) |_=>none⟩
theorem Zz4:k65.OK Try.prog:=fun pa args r fr h=>by
 simp only[k65]at h
 split at h
 ·simp only[Option.some.injEq,Prod.mk.injEq,decide_eq_true_eq]at h
  obtain⟨h0,rfl,rfl⟩:=h
  exact ZoQ _ _ _ _ (okI_iff.1 h0)
 ·cases h
def J7:List Ctr:=[k65]++N6
theorem ZAq:ZaP Try.prog J7:=⟨Zz4,ZbZ⟩
end Go.Proofs.Ytklbmkllepkjcaa
/- Paths of functions, printed by the explorer (Gx). No condition. -/
namespace Go.Proofs.Ytklbmkllepkjcaa
set_option maxRecDepth 100000
set_option linter.unusedVariables false
def Zz7(m g0 g1:Int)(xs:List Int):AFrame:={ fn:=13,N:=31,env:=[(0,AV.agg (Row.gen [.int .i64 m, .int .i64 g0, .int .i64 g1])),(1,AV.list (.ints .i64 xs))],todo:=[.code a13.code],defs:=[],rnd:=none,ret:=false,res:=[ARes.tmp 4,ARes.tmp 5,ARes.tmp 6] }
def ZFV(m g0 g1:Int)(xs:List Int):List AFrame:=[(Zz7 m g0 g1 xs)]
theorem Zvu(m g0 g1:Int)(xs:List Int):Zat tab 13 [AV.agg (Row.gen [.int .i64 m, .int .i64 g0, .int .i64 g1]),AV.list (.ints .i64 xs)]=some (Zz7 m g0 g1 xs):=rfl
def ZrY(A:Ar)(K:KT)(F:FT)(m g0 g1:Int)(xs:List Int):Prop:=bB (A.not (A.eq (ZaA m g0 g1) 0)) (F (AV.tup [AV.nils,AV.int .i64 0,AV.int .i64 (ZaA m g0 g1)]) (none)) (rB [decide (List.length xs≤1000000)] (bB (A.not (A.eq (sfW m xs) 0)) (F (AV.tup [AV.nils,AV.int .i64 0,AV.int .i64 (sfW m xs)]) (none)) (rB [decide (okI m g0 g1 xs=true)] (F (AV.tup [AV.row 0 0,AV.int .i64 (bvI m g0 g1 xs),AV.int .i64 0]) (some { e:=3,sz:=1,r:=.ints .i64 (blI m g0 g1 xs) })))))
theorem ZDB{A:Ar}{K:KT}{F:FT}{M:MT}{m g0 g1:Int}{xs:List Int} :Zas A tab J7 13 K F M (.run 19 (.tf (.run 8 (.fn)) (.run 14 (.tf (.run 8 (.fn)) (.run 23 (.fn)))))) (ZFV m g0 g1 xs) []=ZrY A K F m g0 g1 xs:=by kernel_rfl
end Go.Proofs.Ytklbmkllepkjcaa
