/- Contracts as a list. No condition. -/
import Derived.Test.YtklbmkllepkjcaaP7
import Derived.KernelRfl
namespace Go.Proofs.Ytklbmkllepkjcaa
theorem Zph{m p q:Int}(hv:ZaB m p q=0){s b:Int}(hs:0≤s∧s<stN m)(hb:b=0∨b=1):ZjQ m p q s b=true∧0≤nxS m s b∧nxS m s b<stN m:=by
 have hm:=(Zap hv).1
 obtain⟨r0,r1,r2,r3,r4⟩:=Zwm (m:=m) (s:=s) (b:=b) hm hs hb
 exact⟨decide_eq_true ⟨hv,hs.1,hs.2,hb⟩,r2,r3⟩
def ZoZ(m p q:Int):Int→List Int→List Int
 |_,[]=>[]
 |s,b::bs=>oS m p s b::oS m q s b::ZoZ m p q (nxS m s b) bs
def Zbf(m p q:Int)(bs:List Int):List Int:=ZoZ m p q 0 (bs++List.replicate m.toNat 0)
theorem Zq4(m p q:Int):∀(bs:List Int) (s:Int),(ZoZ m p q s bs).length=2*bs.length
 |[],_=>rfl
 |b::bs,s=>by simp only[ZoZ,List.length_cons,Zq4 m p q bs];omega
theorem Ze6(m p q:Int)(bs:List Int):(Zbf m p q bs).length=2*(bs.length+m.toNat):=by
 unfold Zbf;rw[Zq4,List.length_append,List.length_replicate]
theorem Zcf(m p q:Int):∀(bs:List Int) (s:Int),Zax (ZoZ m p q s bs)=true
 |[],_=>rfl
 |b::bs,s=>by
  have h:=Zcf m p q bs (nxS m s b)
  unfold Zax at h⊢
  simp only[ZoZ,List.all_cons,h,Bool.and_true,Bool.and_eq_true,decide_eq_true_eq]
  exact⟨Zd0 m p s b,Zd0 m q s b⟩
theorem Zcn{w:List Int}(h:Zax w=true)(j:Nat):w.getD j 0=0∨w.getD j 0=1:=by
 by_cases hj:j<w.length
 ·exact of_decide_eq_true (List.all_eq_true.1 h _ (Zbq hj))
 ·rw[List.getD_eq_getElem?_getD,List.getElem?_eq_none (by omega)];exact .inl rfl
theorem ZdL{a b:List Int}(ha:Zax a=true)(hb:Zax b=true):Zax (a++b)=true:=by
 unfold Zax at *;rw[List.all_append,ha,hb];rfl
theorem ZiY(n:Nat):Zax (List.replicate n 0)=true:=List.all_eq_true.2 fun x hx=>by rw[(List.mem_replicate.1 hx).2];rfl
def ZwD(so:List Int):Nat→List Int→Int
 |_,[]=>0
 |i,x::l=>coI x (so.getD i 0)+ZwD so (i+1) l
section
variable {C:Ctx}(hC:C.P=Try.prog)
include hC
end
theorem ZcL{x:Int}{l:List Int}(h:ZaD (x::l)=0):x=0∧ZaD l=0:=by
 rw[ZaD]at h
 split at h
 ·exact⟨by assumption,h⟩
 ·contradiction
theorem Zt2{m:Int}(hm:m=1∨m=2∨m=3):0<stN m:=by
 have:=Zly (m:=m) (by omega);omega
section
variable (m p q:Int)
def wt(s b:Int):Int:=oS m p s b+oS m q s b
def rx(s:Nat)(b:Int)(x:Int×List Int):Int×List Int:=if nxS m s b=0 then(min x.1 (x.2.getD s 0+wt m p q s b),x.2)else(x.1,x.2.set (nxS m s b).toNat (min (x.2.getD (nxS m s b).toNat 0) (x.2.getD s 0+wt m p q s b)))
def rxR:Nat→Nat→Int×List Int→Int×List Int
 |0,_,x=>x
 |k+1,s,x=>rxR k (s+1) (rx m p q s 1 (rx m p q s 0 x))
def rxN:Nat→Int×List Int→Int×List Int
 |0,x=>x
 |n+1,x=>rxN n (rxR m p q (stS m-1) 1 x)
def frP:Int×List Int:=rxN m p q (stS m+1) (100000,(List.replicate (stS m) 100000).set (nxS m 0 1).toNat (wt m p q 0 1))
def frI:Int:=if ZaB m p q=0 then(frP m p q).1 else 0
end
structure OkX (m:Int) (x:Int×List Int):Prop where
 b:0≤x.1∧x.1≤100000
 l:x.2.length=stS m
 r:∀j,0≤x.2.getD j 0∧x.2.getD j 0≤100000
theorem Zvp(m p q s b:Int):0≤wt m p q s b∧wt m p q s b≤2:=by
 have h1:=Zd0 m p s b
 have h2:=Zd0 m q s b
 unfold wt;omega
theorem Ztr{m p q:Int}(s:Nat)(b:Int){x:Int×List Int}(h:OkX m x):OkX m (rx m p q s b x):=by
 have h1:=h.b
 have h2:=h.r s
 have h3:=h.r (nxS m s b).toNat
 have h4:=Zvp m p q s b
 unfold rx
 split
 ·exact⟨by simp only;omega,h.l,h.r⟩
 ·refine⟨h.b,by simp[h.l],fun j=>?_⟩
  simp only
  rw[List.getD_eq_getElem?_getD,List.getElem?_set]
  split
  ·split
   ·simp only[Option.getD_some];omega
   ·simp
  ·rw[←List.getD_eq_getElem?_getD];exact h.r j
theorem ZBw{m p q:Int} :∀(k s:Nat) {x:Int×List Int},OkX m x→OkX m (rxR m p q k s x)
 |0,_,_,h=>h
 |k+1,s,_,h=>ZBw k (s+1) (Ztr s 1 (Ztr s 0 h))
section
variable {C:Ctx}(hC:C.P=Try.prog)(m p q:Int)(hv:ZaB m p q=0)
include hC hv
theorem D2(n0 n1 n3:Int)(s:Nat)(hs:s<stS m)(b:Int)(hb:b=0∨b=1)(x:Int×List Int)(hx:OkX m x)(r:AV)
 (hn:Ev C (ZgO m p q n0 n1 n3 s (rx m p q s b x).1 (b+1) (rx m p q s b x).2) (ZeP m p q n0 n1 n3 s (rx m p q s b x).1 (b+1) (rx m p q s b x).2) (ZaI 32 r none)):
 Ev C (ZgO m p q n0 n1 n3 s x.1 b x.2) (ZeP m p q n0 n1 n3 s x.1 b x.2) (ZaI 32 r none):=by
 have hm:=(Zap hv).1
 have h2:=Zbg hm
 obtain⟨s1,s2,s3⟩:=Zph hv (s:=s) (b:=b) (by omega) hb
 have hl:=hx.l
 have hr:=hx.r s
 have hr2:=hx.r (nxS m s b).toNat
 have hw:=Zvp m p q s b
 have hxb:=hx.b
 have o1:=Zd0 m p s b
 have o2:=Zd0 m q s b
 obtain⟨e,l⟩:=x
 simp only at hl hr hr2 hxb
 have s3':(nxS m s b).toNat<l.length:=by omega
 have hsl:s<l.length:=by omega
 unfold wt at hw
 unfold rx wt at hn
 refine tgo hC ZnY ZkW ?_
 by_cases h0:nxS m s b=0
 ·rw[if_pos h0]at hn
  rcases hb with rfl |rfl<;>
  ·simp[-List.getD_eq_getElem?_getD,List.getD_cons_zero,List.getD_cons_succ,Ze4,s1,h0,hsl]at hn⊢
   refine⟨?_,?_,hn⟩<;>omega
 ·rw[if_neg h0]at hn
  rcases hb with rfl |rfl<;>
  ·simp[-List.getD_eq_getElem?_getD,List.getD_cons_zero,List.getD_cons_succ,Ze4,s1,h0,hsl,s2,s3']at hn⊢
   refine⟨?_,?_,hn⟩<;>omega
theorem D1(n1 n3:Int)(hn3:0≤n3∧n3≤1000)(r:AV):∀(k s:Nat) (x:Int×List Int),s+k=stS m→OkX m x→
 Ev C (Zgx m p q (stN m) n1 (rxR m p q k s x).2 (n3+1) (rxR m p q k s x).1) (ZeV m p q (stN m) n1 (rxR m p q k s x).2 (n3+1) (rxR m p q k s x).1) (ZaI 32 r none)→
 Ev C (ZkC m p q (stN m) n1 n3 x.1 s x.2) (ZhR m p q (stN m) n1 n3 x.1 s x.2) (ZaI 32 r none):=by
 have hm:=(Zap hv).1
 have h2:=Zbg hm
 intro k
 induction k with
 |zero=>
  intro s x hs hx hn
  refine tgo hC ZnY ZlI ?_
  simp[Zhf,rxR,show ¬(s:Int)<stN m by omega]at hn⊢
  exact⟨by omega,hn⟩
 |succ k ih=>
  intro s x hs hx hn
  refine tgo hC ZnY ZlI ?_
  have i:=ih (s+1) _ (by omega) (Ztr s 1 (Ztr s 0 hx)) hn
  simp[Zhf,show(s:Int)<stN m by omega]at i⊢
  refine D2 hC m p q hv _ _ _ s (by omega) 0 (Or.inl rfl) x hx r ?_
  refine D2 hC m p q hv _ _ _ s (by omega) 1 (Or.inr rfl) _ (Ztr s 0 hx) r ?_
  refine tgo hC ZnY ZkW ?_
  simp[Ze4]
  exact⟨by omega,i⟩
theorem D0:∀(k:Nat) (t:Int) (x:Int×List Int),t+k=stN m+1→0≤t→OkX m x→
 Ev C (Zgx m p q (stN m) (stN m+1) x.2 t x.1) (ZeV m p q (stN m) (stN m+1) x.2 t x.1) (ZaI 32 (.tup [.int .i64 (rxN m p q k x).1, .int .i64 0]) none):=by
 have hm:=(Zap hv).1
 have h2:=Zbg hm
 intro k
 induction k with
 |zero=>
  intro t x ht h0 hx
  refine tgo hC ZnY Zlc ?_
  simp[Zhk,rxN,show ¬t<stN m+1 by omega]
 |succ k ih=>
  intro t x ht h0 hx
  refine tgo hC ZnY Zlc ?_
  have i:=D1 hC m p q hv (stN m+1) t ⟨h0,by omega⟩ _ (stS m-1) 1 x (by omega) hx (ih (t+1) _ (by omega) (by omega) (ZBw _ _ hx))
  simp[Zhk,rxN,show t<stN m+1 by omega]at i⊢
  exact i
end
theorem ZIj{m p q:Int} :OkX m (100000,(List.replicate (stS m) 100000).set (nxS m 0 1).toNat (wt m p q 0 1)):=by
 refine⟨by simp,by simp,fun j=>?_⟩
 have hw:=Zvp m p q 0 1
 simp only
 rw[List.getD_eq_getElem?_getD,List.getElem?_set]
 split
 ·split
  ·simp only[Option.getD_some];omega
  ·simp
 ·rw[List.getElem?_replicate];split<;>simp
theorem ZuT(m p q:Int):Zai Try.prog 32 [.agg (.gen [.int .i64 m, .int .i64 p, .int .i64 q])] (.tup [.int .i64 (frI m p q), .int .i64 (ZaB m p q)]) none:=by
 refine start (ZCq m p q) fun C hC=>tgo hC ZnY ZLV ?_
 by_cases hv:ZaB m p q=0
 ·have hm:=(Zap hv).1
  have h2:=Zbg hm
  have i:=D0 hC m p q hv (stS m+1) 0 _ (by omega) (by omega) (ZIj (m:=m) (p:=p) (q:=q))
  obtain⟨s1,s2,s3⟩:=Zph hv (s:=0) (b:=1) ⟨by omega,Zt2 hm⟩ (Or.inr rfl)
  have hst:ZDY (stN m)=true:=decide_eq_true (by omega)
  have o1:=Zd0 m p 0 1
  have o2:=Zd0 m q 0 1
  have e2:(stN m).toNat=stS m:=rfl
  have s3':(nxS m 0 1).toNat<stS m:=by omega
  unfold frI frP
  unfold wt at i⊢
  simp[ZFb,hv,s1,AV.bx,Zag]at i⊢
  simp only[show ((2:Int)^m.toNat)=stN m from rfl,hst,e2]
  refine⟨?_,i⟩
  and_intros<;>first |omega |trivial
 ·simp[ZFb,hv,frI]
def k32:Ctr:=⟨32,0,fun _ a=>match a with |[.agg (.gen [.int .i64 m, .int .i64 p, .int .i64 q])]=>some (true, .tup [.int .i64 (frI m p q), .int .i64 (ZaB m p q)],none) |_=>none⟩
theorem ZKH:k32.OK Try.prog:=fun pa args r fr h=>by
 simp only[k32]at h
 split at h
 ·cases h
  exact ZuT _ _ _
 ·cases h
def J9:List Ctr:=[k32]++J8
theorem ZLE:Zay Try.prog J9:=⟨ZKH,ZNb⟩
end Go.Proofs.Ytklbmkllepkjcaa
/- Contracts as a list. No condition. -/
namespace Go.Proofs.Ytklbmkllepkjcaa
@[simp] theorem ZN6 (l:List AV):std.lenA l=l.length:=rfl
@[simp] theorem ZKM (l:List AV) (j:Nat):std.nthA l j=l.getD j .top:=rfl
def pR(ps:List AV)(t:Nat):List Int:=AV.toIs (ps.getD t .top)
section
variable (m p q:Int)(so:List Int)(ps:List AV)
end
structure OkP (m:Int) (so:List Int) (ps:List AV):Prop where
 n:ps.length=Zac so+1
 l:∀t,t≤Zac so→(pR ps t).length=stS m
 r:∀t j,t≤Zac so→ -1000000≤(pR ps t).getD j 0∧(pR ps t).getD j 0≤1000000
theorem ZrA{l:List Int}{a b:Int}(h:ZaP l a b=0)(h0:a≤0∧0≤b)(j:Nat):a≤l.getD j 0∧l.getD j 0≤b:=by
 unfold ZaP at h
 split at h
 ·rename_i hall
  by_cases hk:j<l.length
  ·have:=List.all_eq_true.1 hall _ (Zbq (d:=0) hk)
   simpa[Zal]using of_decide_eq_true this
  ·rw[List.getD_eq_getElem?_getD,List.getElem?_eq_none (by omega)];simpa using h0
 ·cases h
section
variable {C:Ctx}(hC:C.P=Try.prog)(m p q:Int)(so:List Int)(ps:List AV)(h:OkC m p q so)(hp:OkP m so ps)
include hC h hp
end
section
variable {C:Ctx}(hC:C.P=Try.prog)(m p q:Int)(so:List Int)(ps:List AV)(h:OkC m p q so)(hn:ps.length=Zac so+1)(hrl:∀t,(pR ps t).length≤1000000)
include hC h hn hrl
end
def rlB(ps:List AV):Prop:=∀t,(pR ps t).length≤1000000
section
variable {C:Ctx}(hC:C.P=Try.prog)(m p q:Int)(so:List Int)(ps:List AV)(h:OkC m p q so)(hp:OkP m so ps)
include hC h hp
end
theorem Zfr{l:List Int}{a b:Int}(h:∀j,j<l.length→Zal (l.getD j 0) a b=true):ZaP l a b=0:=by
 unfold ZaP
 rw[if_pos]
 refine List.all_eq_true.2 fun x hx=>?_
 obtain⟨j,hj,rfl⟩:=List.mem_iff_getElem.1 hx
 have:=h j hj
 rwa[List.getD_eq_getElem?_getD,List.getElem?_eq_getElem hj]at this
section
variable {C:Ctx}(hC:C.P=Try.prog)(m p q:Int)(so:List Int)(ps:List AV)(h:OkC m p q so)(hn:ps.length=Zac so+1)
include hC h hn
end
section
variable {C:Ctx}(hC:C.P=Try.prog)(ps:List AV)(hl:ps.length≤1000000)(hrl:rlB ps)
include hC hl hrl
end
def Ja:List Ctr:=J9
theorem ZND:Zay Try.prog Ja:=ZLE
end Go.Proofs.Ytklbmkllepkjcaa
/- Contracts as a list. No condition. -/
namespace Go.Proofs.Ytklbmkllepkjcaa
def k14v:Ctr:=⟨14,0,fun _ a=>match a with |[.list (.ints .i64 xs)]=>some (decide (xs.length≤1000000), .list (.ints .i64 xs),Zsv) |_=>none⟩
theorem ZD8:k14v.OK Try.prog:=fun pa args r fr h=>by
 simp only[k14v]at h
 split at h
 ·simp only[Option.some.injEq,Prod.mk.injEq,decide_eq_true_eq]at h
  obtain⟨h0,rfl,rfl⟩:=h
  exact ZDc (ZnA _ h0) rfl rfl
 ·cases h
def Jb:List Ctr:=[k14v]++Ja
theorem ZNm:Zay Try.prog Jb:=⟨ZD8,ZND⟩
end Go.Proofs.Ytklbmkllepkjcaa
/- The field of 16 elements. No condition. -/
namespace Go.Proofs.Ytklbmkllepkjcaa
def xt(a:Nat):Nat:=if a<8 then 2*a else(2*a) ^^^ 19
def Zav(a b:Nat):Nat:=(if b%2=1 then a else 0) ^^^ (if b/2%2=1 then xt a else 0) ^^^ (if b/4%2=1 then xt (xt a)else 0) ^^^ (if b/8%2=1 then xt (xt (xt a))else 0)
def ZbH:Nat→Nat
 |0=>1
 |n+1=>Zav (ZbH n) 2
def ZiU(a:Nat):Nat:=((List.range 16).find? fun b=>Zav a b==1).getD 0
def ZwE(p:Nat→Nat→Bool):Bool:=(List.range 16).all fun a=>(List.range 16).all fun b=>p a b
theorem ZdE{p:Nat→Nat→Bool}(h:ZwE p=true){a b:Nat}(ha:a<16)(hb:b<16):p a b=true:=
 List.all_eq_true.1 (List.all_eq_true.1 h a (List.mem_range.2 ha)) b (List.mem_range.2 hb)
def ZLu(p:Nat→Nat→Nat→Bool):Bool:=(List.range 16).all fun a=>(List.range 16).all fun b=>(List.range 16).all fun c=>p a b c
theorem Zup{p:Nat→Nat→Nat→Bool}(h:ZLu p=true){a b c:Nat}(ha:a<16)(hb:b<16)(hc:c<16):p a b c=true:=
 List.all_eq_true.1 (List.all_eq_true.1 (List.all_eq_true.1 h a (List.mem_range.2 ha)) b (List.mem_range.2 hb)) c (List.mem_range.2 hc)
theorem ZbJ{a b:Nat}(ha:a<16)(hb:b<16):Zav a b<16:=by
 have h:ZwE (fun a b=>decide (Zav a b<16))=true:=by kernel_rfl
 exact of_decide_eq_true (ZdE h ha hb)
theorem Zbh{a b:Nat}(ha:a<16)(hb:b<16):Zav a b=Zav b a:=by
 have h:ZwE (fun a b=>decide (Zav a b=Zav b a))=true:=by kernel_rfl
 exact of_decide_eq_true (ZdE h ha hb)
theorem ZaJ{a b c:Nat}(ha:a<16)(hb:b<16)(hc:c<16):Zav (Zav a b) c=Zav a (Zav b c):=by
 have h:ZLu (fun a b c=>decide (Zav (Zav a b) c=Zav a (Zav b c)))=true:=by kernel_rfl
 exact of_decide_eq_true (Zup h ha hb hc)
theorem Zc2{a b c:Nat}(ha:a<16)(hb:b<16)(hc:c<16):Zav (a ^^^ b) c=Zav a c ^^^ Zav b c:=by
 have h:ZLu (fun a b c=>decide (Zav (a ^^^ b) c=Zav a c ^^^ Zav b c))=true:=by kernel_rfl
 exact of_decide_eq_true (Zup h ha hb hc)
theorem Zcl{a:Nat}(ha:a<16):Zav a 0=0:=by
 have h:ZwE (fun a _=>decide (Zav a 0=0))=true:=by kernel_rfl
 exact of_decide_eq_true (ZdE h ha (b:=0) (by omega))
theorem ZiK{a:Nat}(ha:a<16):Zav a 1=a:=by
 have h:ZwE (fun a _=>decide (Zav a 1=a))=true:=by kernel_rfl
 exact of_decide_eq_true (ZdE h ha (b:=0) (by omega))
theorem Zb1{a b:Nat}(ha:a<16)(hb:b<16)(h0:Zav a b=0):a=0∨b=0:=by
 have h:ZwE (fun a b=>decide (Zav a b=0→a=0∨b=0))=true:=by kernel_rfl
 exact of_decide_eq_true (ZdE h ha hb) h0
theorem Zzz{a:Nat}(ha:a<16)(h0:a≠0):ZiU a<16∧Zav a (ZiU a)=1:=by
 have h:ZwE (fun a _=>decide (a≠0→ZiU a<16∧Zav a (ZiU a)=1))=true:=by kernel_rfl
 exact of_decide_eq_true (ZdE h ha (b:=0) (by omega)) h0
theorem Zcj{a b:Nat}(ha:a<16)(hb:b<16):a ^^^ b<16:=Nat.xor_lt_two_pow (n:=4) ha hb
theorem Zcc:∀n,ZbH n<16
 |0=>by decide
 |n+1=>ZbJ (Zcc n) (by decide)
theorem ZLh:ZbH 15=1:=by decide
theorem Zvf:∀m n,ZbH (m+n)=Zav (ZbH m) (ZbH n)
 |m,0=>(ZiK (Zcc m)).symm
 |m,n+1=>by rw[←Nat.add_assoc,ZbH,Zvf m n,ZbH,ZaJ (Zcc m) (Zcc n) (by decide)]
theorem ZA8(n:Nat):ZbH n=ZbH (n%15):=by
 have h:∀q r,ZbH (15*q+r)=ZbH r:=by
  intro q
  induction q with
  |zero=>intro r;rw[Nat.mul_zero,Nat.zero_add]
  |succ q ih=>
   intro r
   rw[show 15*(q+1)+r=15*q+(15+r) by omega,ih,Zvf,ZLh,Zbh (by decide) (Zcc r),ZiK (Zcc r)]
 conv=>lhs;rw[←Nat.div_add_mod n 15]
 exact h _ _
theorem ZsB(n:Nat):ZbH n≠0:=by
 have h:∀r,r<15→ZbH r≠0:=by decide
 rw[ZA8];exact h _ (Nat.mod_lt _ (by decide))
theorem Zqw{i j:Nat}(hi:i<15)(hj:j<15)(h:ZbH i=ZbH j):i=j:=by
 have k:∀i,i<15→∀j,j<15→ZbH i=ZbH j→i=j:=by decide
 exact k i hi j hj h
def gM(a b:Int):Int:=((Zav a.toNat b.toNat:Nat):Int)
def gI(a:Int):Int:=((ZiU a.toNat:Nat):Int)
def elB(a:Int):Bool:=decide (0≤a∧a≤15)
end Go.Proofs.Ytklbmkllepkjcaa
/- Contracts as a list. No condition. -/
namespace Go.Proofs.Ytklbmkllepkjcaa
theorem ZmZ(m:Nat)(hm:m<2^32):(BitVec.ofInt 64 (m:Int)).toNat=m:=by
 rw[BitVec.ofInt_natCast,BitVec.toNat_ofNat];exact Nat.mod_eq_of_lt (by omega)
theorem Ze0{r k:Nat}(hr:r<2^32)(hk:k<2^32):std.bits .xor .i64 (r:Int) (k:Int)=((r ^^^ k:Nat):Int):=by
 show IntKind.i64.wrap ((BitVec.ofInt 64 (r:Int) ^^^ BitVec.ofInt 64 (k:Int)).toNat:Int)=_
 rw[BitVec.toNat_xor,ZmZ r hr,ZmZ k hk]
 have:r ^^^ k<2^32:=Nat.xor_lt_two_pow hr hk
 rw[IntKind.wrap_i64]
 omega
theorem Zvl{r:Nat}(hr:r<2^32):std.bits .and .i64 (r:Int) 1=((r%2:Nat):Int):=by
 show IntKind.i64.wrap ((BitVec.ofInt 64 (r:Int) &&& BitVec.ofInt 64 ((1:Nat):Int)).toNat:Int)=_
 rw[BitVec.toNat_and,ZmZ r hr,ZmZ 1 (by omega),Nat.and_one_is_mod,IntKind.wrap_i64]
 omega
def ZCf:Nat→Nat→Nat→Nat→Nat
 |0,_,_,o=>o
 |k+1,a,b,o=>if b=0 then o else ZCf k (xt a) (b/2) (if b%2=1 then o ^^^ a else o)
theorem ZEc{a b:Nat}(ha:a<16)(hb:b<16):ZCf 4 a b 0=Zav a b:=by
 have h:ZwE (fun a b=>decide (ZCf 4 a b 0=Zav a b))=true:=by kernel_rfl
 exact of_decide_eq_true (ZdE h ha hb)
theorem ZLY{a:Nat}(ha:a<16):xt a<16:=by
 have h:ZwE (fun a _=>decide (xt a<16))=true:=by kernel_rfl
 exact of_decide_eq_true (ZdE h ha (b:=0) (by omega))
section
variable {C:Ctx}(hC:C.P=Try.prog)
include hC
theorem L71:∀(k a b o:Nat),a<16→b<2^k→k≤4→o<16→Ev C (Zkd a b o) (Zhi a b o) (ZaI 71 (.int .i64 ((ZCf k a b o:Nat):Int)) none):=by
 intro k
 induction k with
 |zero=>
  intro a b o ha hb _ ho
  have:b=0:=by omega
  subst this
  refine tgo hC Zbz Zlu ?_
  simp[Ze1,ZCf]
 |succ k ih=>
  intro a b o ha hb hk ho
  refine tgo hC Zbz Zlu ?_
  by_cases h0:b=0
  ·subst h0;simp[Ze1,ZCf]
  ·have hb16:b<16:=by have:=Nat.pow_le_pow_right (show 0<2 by omega) hk;omega
   have hb2:b/2<2^k:=by rw[Nat.pow_succ]at hb;omega
   have e1:=Zvl (r:=b) (by omega)
   have e2:=Ze0 (r:=o) (k:=a) (by omega) (by omega)
   have e3:=Ze0 (r:=2*a) (k:=19) (by omega) (by omega)
   have e4:(b:Int).fdiv 2=((b/2:Nat):Int):=by rw[Int.fdiv_eq_ediv_of_nonneg _ (by omega)];rfl
   have e5:(a:Int)*2=((2*a:Nat):Int):=by omega
   have hx:=ZLY ha
   have ho2:(if b%2=1 then o ^^^ a else o)<16:=by split;exact Zcj ho ha;exact ho
   have i:=ih (xt a) (b/2) (if b%2=1 then o ^^^ a else o) hx hb2 (by omega) ho2
   rw[ZCf,if_neg h0]
   have hp:(0:Int)<(b:Int):=by omega
   have e6:((19:Nat):Int)=19:=rfl
   rw[e6]at e3
   unfold xt at i⊢
   have e7:∀x:Nat,(((x:Nat):Int)=1)=(x=1):=fun x=>by simp;omega
   have e8:((16:Int)≤((2*a:Nat):Int))=¬(a<8):=by simp;omega
   simp only[Ze1,ZBU,ZPv,ZPA,ZaX,Zyl,ZLw,e1,e2,Int.toNat_one,Int.pow_one,e4,e5,e3,e7,e8,ZDx,ZDh,decide_eq_true hp,if_true]
   have hA:AllT [Zae (Zae (decide ((0:Int)≤1)) (Nat.blt 1 64)) (std.inR .i64 ((2*a:Nat):Int))]:=by simp;omega
   have hB:AllT [Zae (decide ((0:Int)≤1)) (Nat.blt 1 64)]:=by simp
   by_cases h1:b%2=1<;>by_cases h2:a<8<;>simp only[h1,h2,decide_true,decide_false,not_true,not_false,if_true,if_false,Bool.false_eq_true]at i⊢
   all_goals first |exact⟨hA,hB,i⟩ |(refine ⟨hA,?_⟩;rw[if_pos (by simp)];exact⟨hB,i⟩)
end
section
variable {C:Ctx}(hC:C.P=Try.prog)
include hC
end
theorem Znj{a:Int}(h:elB a=true):∃n:Nat,a=n∧n<16:=by
 have:=of_decide_eq_true h
 exact⟨a.toNat,by omega,by omega⟩
theorem Zv6(a b:Int)(ha:elB a=true)(hb:elB b=true):Zai Try.prog 71 [.int .i64 a, .int .i64 b] (.int .i64 (gM a b)) none:=by
 obtain⟨m,rfl,hm⟩:=Znj ha
 obtain⟨n,rfl,hn⟩:=Znj hb
 refine start (ZDg m n) fun C hC=>tgo hC Zbz ZMK ?_
 have i:=L71 hC 4 m n 0 hm (by omega) (by omega) (by omega)
 rw[ZEc hm hn]at i
 simp[ZJF,gM]at i⊢
 exact i
def k71:Ctr:=⟨71,0,fun _ a=>match a with |[.int .i64 a, .int .i64 b]=>some (decide (elB a=true∧elB b=true), .int .i64 (gM a b),none) |_=>none⟩
theorem ZIY:k71.OK Try.prog:=fun pa args r fr h=>by
 simp only[k71]at h
 split at h
 ·simp only[Option.some.injEq,Prod.mk.injEq,decide_eq_true_eq]at h
  obtain⟨h0,rfl,rfl⟩:=h
  exact Zv6 _ _ h0.1 h0.2
 ·cases h
def Ka:List Ctr:=[k71]++Jb
theorem Zqd:Zay Try.prog Ka:=⟨ZIY,ZNm⟩
end Go.Proofs.Ytklbmkllepkjcaa
/- Paths of functions, printed by the explorer (Gx). No condition. -/
namespace Go.Proofs.Ytklbmkllepkjcaa
set_option maxRecDepth 100000
set_option linter.unusedVariables false
def ZA5(n:Int):AFrame:={ fn:=117,N:=12,env:=[(0,AV.int .i64 n)],todo:=[.code a117.code],defs:=[],rnd:=none,ret:=false,res:=[ARes.tmp 2] }
def ZMx(n:Int):List AFrame:=[(ZA5 n)]
theorem Zx6(n:Int):Zaq tab 117 [AV.int .i64 n]=some (ZA5 n):=rfl
def ZfJ(n0 n1 n2:Int):List AFrame:=[{ fn:=117,N:=12,env:=[(3,AV.int .i64 n1),(5,AV.int .i64 n0),(6,AV.int .i64 n2)],todo:=.code (ACode.gh [] ZzX)::ZF6,defs:=[],rnd:=none,ret:=false,res:=[ARes.tmp 2] }]
def Zej(n0 n1 n2:Int):Zaa:=[]
abbrev ZiN(n0 n1 n2:Int):List AFrame×Zaa:=(ZfJ n0 n1 n2,Zej n0 n1 n2)
def ZBz(A:Ar)(K:KT)(F:FT)(n:Int):Prop:=rB [A.not (A.eq 15 0)] (K (ZiN (A.rem n 15) (1) (0)))
theorem ZJW{A:Ar}{K:KT}{F:FT}{M:MT}{n:Int} :Zaj A tab Ka 117 K F M (.run 18 (.hd)) (ZMx n) []=ZBz A K F n:=by kernel_rfl
def ZeF(A:Ar)(K:KT)(F:FT)(n0 n1 n2:Int):Prop:=bB (A.lt n2 n0) (rB [A.inR .i64 (A.add n2 1),decide (elB n1=true∧elB 2=true)] (K (ZiN (n0) (gM n1 2) (A.add n2 1)))) (F (AV.int .i64 n1) (none))
theorem Zir{A:Ar}{K:KT}{F:FT}{M:MT}{n0 n1 n2:Int} :Zaj A tab Ka 117 K F M (.run 6 (.tf (.run 15 (.hd)) (.run 7 (.fn)))) (ZfJ n0 n1 n2) (Zej n0 n1 n2)=ZeF A K F n0 n1 n2:=by kernel_rfl
def ZAy(n:Int):AFrame:={ fn:=128,N:=13,env:=[(0,AV.int .i64 n)],todo:=[.code a128.code],defs:=[],rnd:=none,ret:=false,res:=[ARes.tmp 2] }
def ZNv(n:Int):List AFrame:=[(ZAy n)]
theorem Zy5(n:Int):Zaq tab 128 [AV.int .i64 n]=some (ZAy n):=rfl
def Zfv(n n0:Int):List AFrame:=[{ fn:=128,N:=13,env:=[(0,AV.int .i64 n),(3,AV.int .i64 n0)],todo:=.code (ACode.gh [] ZAq)::ZFY,defs:=[],rnd:=none,ret:=false,res:=[ARes.tmp 2] }]
def Zec(n n0:Int):Zaa:=[]
abbrev ZiQ(n n0:Int):List AFrame×Zaa:=(Zfv n n0,Zec n n0)
def ZAj(A:Ar)(K:KT)(F:FT)(n:Int):Prop:=K (ZiQ (n) (1))
theorem ZIi{A:Ar}{K:KT}{F:FT}{M:MT}{n:Int} :Zaj A tab Ka 128 K F M (.run 12 (.hd)) (ZNv n) []=ZAj A K F n:=by kernel_rfl
def ZcZ(A:Ar)(K:KT)(F:FT)(n n0:Int):Prop:=bB (A.lt n0 16) (rB [decide (elB n=true∧elB n0=true)] (bB (A.eq (gM n n0) 1) (F (AV.int .i64 n0) (none)) (rB [A.inR .i64 (A.add n0 1)] (K (ZiQ (n) (A.add n0 1)))))) (F (AV.int .i64 0) (none))
theorem Ziy{A:Ar}{K:KT}{F:FT}{M:MT}{n n0:Int} :Zaj A tab Ka 128 K F M (.run 7 (.tf (.run 10 (.tf (.run 6 (.fn)) (.run 9 (.hd)))) (.run 6 (.fn)))) (Zfv n n0) (Zec n n0)=ZcZ A K F n n0:=by kernel_rfl
end Go.Proofs.Ytklbmkllepkjcaa
/- Contracts as a list. No condition. -/
namespace Go.Proofs.Ytklbmkllepkjcaa
def gP(n:Int):Int:=((ZbH n.toNat:Nat):Int)
theorem Zbw{n:Nat}(h:n<16):elB n=true:=decide_eq_true (by omega)
theorem ZAV(a b:Nat):gM a b=((Zav a b:Nat):Int):=rfl
theorem ZIW(n:Nat):gM ((ZbH n:Nat):Int) 2=((ZbH (n+1):Nat):Int):=rfl
theorem ZCV{a b:Nat}(ha:a<16)(hb:b<16)(h1:Zav a b=1):ZiU a=b:=by
 have h:ZwE (fun a b=>decide (Zav a b=1→ZiU a=b))=true:=by kernel_rfl
 exact of_decide_eq_true (ZdE h ha hb) h1
theorem ZEa{a:Nat}(ha:a<16)(h:∀j,j<16→Zav a j≠1):ZiU a=0:=by
 by_cases h0:a=0
 ·subst h0;rfl
 ·obtain⟨h1,h2⟩:=Zzz ha h0
  exact absurd h2 (h _ h1)
section
variable {C:Ctx}(hC:C.P=Try.prog)
include hC
theorem ZPg(n:Nat)(hn:n≤1000):∀(k j:Nat),j+k=n→Ev C (ZfJ n ((ZbH j:Nat):Int) j) (Zej n ((ZbH j:Nat):Int) j) (ZaI 117 (.int .i64 ((ZbH n:Nat):Int)) none):=by
 intro k
 induction k with
 |zero=>
  intro j hj
  refine tgo hC Zqd Zir ?_
  rw[show j=n by omega]
  simp[ZeF]
 |succ k ih=>
  intro j hj
  refine tgo hC Zqd Zir ?_
  have i:=ih (j+1) (by omega)
  have e1:=Zbw (Zcc j)
  have e2:elB 2=true:=rfl
  rw[←ZIW]at i
  simp[ZeF,show(j:Int)<n by omega,e1,e2]at i⊢
  exact⟨by omega,i⟩
theorem ZOM(a:Nat)(ha:a<16):∀(k b:Nat),b+k=16→(∀j,j<b→Zav a j≠1)→Ev C (Zfv a b) (Zec a b) (ZaI 128 (.int .i64 ((ZiU a:Nat):Int)) none):=by
 intro k
 induction k with
 |zero=>
  intro b hb hj
  refine tgo hC Zqd Ziy ?_
  have e:b=16:=by omega
  rw[ZEa ha (fun j h=>hj j (by omega))]
  subst e
  simp[ZcZ]
 |succ k ih=>
  intro b hb hj
  refine tgo hC Zqd Ziy ?_
  have e1:=Zbw ha
  have e2:=Zbw (n:=b) (by omega)
  by_cases h1:Zav a b=1
  ·rw[ZCV ha (by omega) h1]
   simp[ZcZ,e1,e2,ZAV,h1,show(b:Int)<16 by omega]
  ·have i:=ih (b+1) (by omega) (fun j h=>by
    by_cases hjb:j=b
    ·subst hjb;exact h1
    ·exact hj j (by omega))
   have h1':¬((Zav a b:Nat):Int)=1:=by omega
   simp[ZcZ,e1,e2,ZAV,h1',show(b:Int)<16 by omega]at i⊢
   exact⟨by omega,i⟩
end
theorem Zuh(n:Int)(h:0≤n):Zai Try.prog 117 [.int .i64 n] (.int .i64 (gP n)) none:=by
 obtain⟨m,rfl⟩:=Int.eq_ofNat_of_zero_le h
 refine start (Zx6 m) fun C hC=>tgo hC Zqd ZJW ?_
 have i:=ZPg hC (m%15) (by omega) (m%15) 0 (by omega)
 have e:((m:Nat):Int).tmod 15=((m%15:Nat):Int):=rfl
 have e2:gP m=((ZbH (m%15):Nat):Int):=by unfold gP;rw[Int.toNat_natCast,ZA8]
 rw[e2]
 simp only[ZBz,ZxQ,e]
 simp[ZbH]at i⊢
 exact i
theorem Zuo(a:Int)(h:elB a=true):Zai Try.prog 128 [.int .i64 a] (.int .i64 (gI a)) none:=by
 obtain⟨m,rfl,hm⟩:=Znj h
 refine start (Zy5 m) fun C hC=>tgo hC Zqd ZIi ?_
 have i:=ZOM hC m hm 15 1 (by omega) (fun j hj=>by rw[show j=0 by omega,Zcl hm];decide)
 simp[ZAj,gI]at i⊢
 exact i
def k117:Ctr:=⟨117,0,fun _ a=>match a with |[.int .i64 n]=>some (decide (0≤n), .int .i64 (gP n),none) |_=>none⟩
theorem ZFd:k117.OK Try.prog:=fun pa args r fr h=>by
 simp only[k117]at h
 split at h
 ·simp only[Option.some.injEq,Prod.mk.injEq,decide_eq_true_eq]at h
  obtain⟨h0,rfl,rfl⟩:=h
  exact Zuh _ h0
 ·cases h
def k128:Ctr:=⟨128,0,fun _ a=>match a with |[.int .i64 a]=>some (decide (elB a=true), .int .i64 (gI a),none) |_=>none⟩
theorem ZEO:k128.OK Try.prog:=fun pa args r fr h=>by
 simp only[k128]at h
 split at h
 ·simp only[Option.some.injEq,Prod.mk.injEq,decide_eq_true_eq]at h
  obtain⟨h0,rfl,rfl⟩:=h
  exact Zuo _ h0
 ·cases h
def Kb:List Ctr:=[k117,k128]++Ka
theorem Znd:Zay Try.prog Kb:=⟨ZFd,⟨ZEO,Zqd⟩⟩
end Go.Proofs.Ytklbmkllepkjcaa
/- Paths of functions, printed by the explorer (Gx). No condition. -/
namespace Go.Proofs.Ytklbmkllepkjcaa
set_option maxRecDepth 100000
set_option linter.unusedVariables false
def ZAe(n:Int):AFrame:={ fn:=129,N:=6,env:=[(0,AV.int .i64 n)],todo:=[.code a129.code],defs:=[],rnd:=none,ret:=false,res:=[ARes.tmp 2] }
def ZMz(n:Int):List AFrame:=[(ZAe n)]
theorem ZwJ(n:Int):Zaq tab 129 [AV.int .i64 n]=some (ZAe n):=rfl
def ZAE(A:Ar)(K:KT)(F:FT)(n:Int):Prop:=rB [decide (0≤A.sub 14 n),A.inR .i64 (A.sub 14 n)] (F (AV.int .i64 (gP (A.sub 14 n))) (none))
theorem ZJo{A:Ar}{K:KT}{F:FT}{M:MT}{n:Int} :Zaj A tab Kb 129 K F M (.run 12 (.fn)) (ZMz n) []=ZAE A K F n:=by kernel_rfl
def ZIx(n:Int):AFrame:={ fn:=73,N:=6,env:=[(0,AV.int .i64 n)],todo:=[.code a73.code],defs:=[],rnd:=none,ret:=false,res:=[ARes.tmp 2] }
def ZPn(n:Int):List AFrame:=[(ZIx n)]
theorem ZBR(n:Int):Zaq tab 73 [AV.int .i64 n]=some (ZIx n):=rfl
def ZGX(A:Ar)(K:KT)(F:FT)(n:Int):Prop:=F (AV.int .i64 (Zam (Zal n 1 3) 2)) (none)
theorem ZLp{A:Ar}{K:KT}{F:FT}{M:MT}{n:Int} :Zaj A tab Kb 73 K F M (.run 12 (.fn)) (ZPn n) []=ZGX A K F n:=by kernel_rfl
def ZH1(xs:List Int)(n:Int):AFrame:={ fn:=74,N:=14,env:=[(0,AV.list (.ints .i64 xs)),(1,AV.int .i64 n)],todo:=[.code a74.code],defs:=[],rnd:=none,ret:=false,res:=[ARes.tmp 4] }
def ZO3(xs:List Int)(n:Int):List AFrame:=[(ZH1 xs n)]
theorem ZCv(xs:List Int)(n:Int):Zaq tab 74 [AV.list (.ints .i64 xs),AV.int .i64 n]=some (ZH1 xs n):=rfl
def ZFt(A:Ar)(K:KT)(F:FT)(xs:List Int)(n:Int):Prop:=rB [decide (List.length [Zam (A.eq (A.int (A.len xs)) n) 10,ZaP xs 0 15]≤1000000),List.all [AV.int .i64 (Zam (A.eq (A.int (A.len xs)) n) 10),AV.int .i64 (ZaP xs 0 15)] fun x=>AV.bx x&&Nat.beq (Zag A x) 1,decide (List.length xs≤1000000)] (F (AV.int .i64 (ZaD [Zam (A.eq (A.int (A.len xs)) n) 10,ZaP xs 0 15])) (none))
theorem ZL9{A:Ar}{K:KT}{F:FT}{M:MT}{xs:List Int}{n:Int} :Zaj A tab Kb 74 K F M (.run 19 (.fn)) (ZO3 xs n) []=ZFt A K F xs n:=by kernel_rfl
def ZJ4(n:Int):AFrame:={ fn:=21,N:=5,env:=[(0,AV.int .i64 n)],todo:=[.code a21.code],defs:=[],rnd:=none,ret:=false,res:=[ARes.tmp 2] }
def ZQI(n:Int):List AFrame:=[(ZJ4 n)]
theorem ZBX(n:Int):Zaq tab 21 [AV.int .i64 n]=some (ZJ4 n):=rfl
def ZJH(A:Ar)(K:KT)(F:FT)(n:Int):Prop:=F (AV.bool (Zal n 0 15)) (none)
theorem ZLg{A:Ar}{K:KT}{F:FT}{M:MT}{n:Int} :Zaj A tab Kb 21 K F M (.run 11 (.fn)) (ZQI n) []=ZJH A K F n:=by kernel_rfl
def ZIa(n:Int):AFrame:={ fn:=23,N:=6,env:=[(0,AV.int .i64 n)],todo:=[.code a23.code],defs:=[],rnd:=none,ret:=false,res:=[ARes.tmp 2] }
def ZQo(n:Int):List AFrame:=[(ZIa n)]
theorem ZBI(n:Int):Zaq tab 23 [AV.int .i64 n]=some (ZIa n):=rfl
def ZIL(A:Ar)(K:KT)(F:FT)(n:Int):Prop:=bB (A.not (Zal n 1 3)) (F (AV.int .i64 2) (none)) (F (AV.int .i64 0) (none))
theorem ZMy{A:Ar}{K:KT}{F:FT}{M:MT}{n:Int} :Zaj A tab Kb 23 K F M (.run 11 (.tf (.run 5 (.fn)) (.run 6 (.fn)))) (ZQo n) []=ZIL A K F n:=by kernel_rfl
def ZA0(w:List Int)(j:Int):AFrame:={ fn:=112,N:=24,env:=[(0,AV.agg (.ints .i64 w)),(1,AV.int .i64 j)],todo:=[.code a112.code],defs:=[],rnd:=none,ret:=false,res:=[ARes.tmp 4] }
def ZML(w:List Int)(j:Int):List AFrame:=[(ZA0 w j)]
theorem ZyF(w:List Int)(j:Int):Zaq tab 112 [AV.agg (.ints .i64 w),AV.int .i64 j]=some (ZA0 w j):=rfl
def Zfw(j:Int)(l0:List Int)(n1 n2:Int):List AFrame:=[{ fn:=112,N:=24,env:=[(1,AV.int .i64 j),(5,AV.int .i64 n1),(8,AV.agg (.ints .i64 l0)),(9,AV.int .i64 n2)],todo:=.code (ACode.gh [] ZAY)::ZJI,defs:=[],rnd:=none,ret:=false,res:=[ARes.tmp 4] }]
def Zeb(j:Int)(l0:List Int)(n1 n2:Int):Zaa:=[]
abbrev ZiO(j:Int)(l0:List Int)(n1 n2:Int):List AFrame×Zaa:=(Zfw j l0 n1 n2,Zeb j l0 n1 n2)
def ZAh(A:Ar)(K:KT)(F:FT)(w:List Int)(j:Int):Prop:=rB [Nat.ble 15 (A.len w),Nat.blt 0 (A.len w)] (K (ZiO (j) (A.sub3 w 0 15) (0) (0)))
theorem ZJC{A:Ar}{K:KT}{F:FT}{M:MT}{w:List Int}{j:Int} :Zaj A tab Kb 112 K F M (.run 18 (.hd)) (ZML w j) []=ZAh A K F w j:=by kernel_rfl
def Zea(A:Ar)(K:KT)(F:FT)(j:Int)(l0:List Int)(n1 n2:Int):Prop:=bB (A.lt n2 15) (rB [A.inR .i64 (A.add n2 1),decide (elB (A.nth l0 (A.nat n2))=true∧elB (gP (A.mul j (A.sub 14 n2)))=true),decide (0≤A.mul j (A.sub 14 n2)),A.inR .i64 (A.mul j (A.sub 14 n2)),A.inR .i64 (A.sub 14 n2),Zae (Zae (A.le 0 n2) (A.lt n2 (A.int 15))) (Nat.blt (A.nat n2) (A.len l0))] (K (ZiO (j) (l0) (A.bits Go.BinOp.xor .i64 n1 (gM (A.nth l0 (A.nat n2)) (gP (A.mul j (A.sub 14 n2))))) (A.add n2 1)))) (F (AV.int .i64 n1) (none))
theorem Zim{A:Ar}{K:KT}{F:FT}{M:MT}{j:Int}{l0:List Int}{n1 n2:Int} :Zaj A tab Kb 112 K F M (.run 6 (.tf (.run 29 (.hd)) (.run 7 (.fn)))) (Zfw j l0 n1 n2) (Zeb j l0 n1 n2)=Zea A K F j l0 n1 n2:=by kernel_rfl
end Go.Proofs.Ytklbmkllepkjcaa
/- Contracts as a list. No condition. -/
namespace Go.Proofs.Ytklbmkllepkjcaa
def Zth(j:Nat):Nat→List Nat→Nat
 |_,[]=>0
 |i,a::l=>Zav a (ZbH (j*(14-i))) ^^^ Zth j (i+1) l
def wdN(w:List Int):List Nat:=w.map Int.toNat
def syI(w:List Int)(j:Nat):Int:=((Zth j 0 (wdN w):Nat):Int)
def okw(w:List Int):Bool:=decide (w.length=15)&&decide (ZaP w 0 15=0)
theorem okw_iff{w:List Int} :okw w=true↔w.length=15∧ZaP w 0 15=0:=by
 unfold okw;rw[Bool.and_eq_true,decide_eq_true_eq,decide_eq_true_eq]
theorem ZiV{w:List Int}(h:ZaP w 0 15=0)(i:Nat):elB (w.getD i 0)=true:=decide_eq_true (by have:=ZrA h (by omega) i;omega)
theorem ZFO{w:List Int}(h:ZaP w 0 15=0):∀x∈wdN w,x<16:=fun x hx=>by
 obtain⟨y,hy,rfl⟩:=List.mem_map.1 hx
 unfold ZaP at h
 split at h
 ·rename_i hall
  have:=of_decide_eq_true (List.all_eq_true.1 hall y hy)
  omega
 ·cases h
theorem ZvZ(w:List Int):(wdN w).length=w.length:=by simp[wdN]
theorem Zui{w:List Int}{i:Nat}(h:i<w.length):(wdN w).drop i=(w.getD i 0).toNat::(wdN w).drop (i+1):=by
 rw[List.drop_eq_getElem_cons (by rw[ZvZ];exact h)]
 unfold wdN
 rw[List.getElem_map,List.getD_eq_getElem?_getD,List.getElem?_eq_getElem h];rfl
theorem Zur(j:Nat):∀(l:List Nat) (i:Nat),(∀x∈l,x<16)→Zth j i l<16
 |[],_,_=>by simp[Zth]
 |a::l,i,h=>Zcj (ZbJ (h a List.mem_cons_self) (Zcc _)) (Zur j l (i+1) fun x hx=>h x (List.mem_cons_of_mem _ hx))
theorem ZNC(n:Int):elB (gP n)=true:=Zbw (Zcc _)
theorem ZHz{w:List Int}(h:ZaP w 0 15=0)(j:Nat):elB (syI w j)=true:=Zbw (Zur j _ 0 (ZFO h))
def ZCw(n:Int):Int:=gP (14-n)
theorem ZtK(n:Int)(h:0≤n∧n≤14):Zai Try.prog 129 [.int .i64 n] (.int .i64 (ZCw n)) none:=
 start (ZwJ n) fun C hC=>tgo hC Znd ZJo (by simp[ZAE,ZCw];omega)
def hfE(h:Int):Int:=Zam (Zal h 1 3) 2
theorem ZvJ(h:Int):Zai Try.prog 73 [.int .i64 h] (.int .i64 (hfE h)) none:=
 start (ZBR h) fun C hC=>tgo hC Znd ZLp (by simp[ZGX,hfE])
theorem Zvd(h:Int):Zai Try.prog 23 [.int .i64 h] (.int .i64 (hfE h)) none:=
 start (ZBI h) fun C hC=>tgo hC Znd ZMy (by cases e:Zal h 1 3<;>simp[ZIL,hfE,Zam,e])
def elE(l:List Int)(n:Int):Int:=ZaD [Zam (decide ((l.length:Int)=n)) 10,ZaP l 0 15]
theorem Zyk(l:List Int)(n:Int)(hl:l.length≤1000000):Zai Try.prog 74 [.list (.ints .i64 l), .int .i64 n] (.int .i64 (elE l n)) none:=
 start (ZCv l n) fun C hC=>tgo hC Znd ZL9 (by simp[ZFt,elE,hl,AV.bx,Zag])
theorem Zxl(n:Int):Zai Try.prog 21 [.int .i64 n] (.bool (Zal n 0 15)) none:=
 start (ZBX n) fun C hC=>tgo hC Znd ZLg (by simp[ZJH])
def syL(w:List Int)(n:Nat):List Int:=(List.range n).map fun i=>syI w (i+1)
theorem Zjs(w:List Int)(n:Nat):(syL w n).length=n:=by simp[syL]
theorem Zw2(w:List Int)(n:Nat):syL w (n+1)=syL w n++[syI w (n+1)]:=by unfold syL;rw[List.range_succ,List.map_append];rfl
section
variable {C:Ctx}(hC:C.P=Try.prog){w:List Int}(hw:w.length=15)(hr:ZaP w 0 15=0)
include hC hw hr
theorem ZQH(j:Nat)(hj:j≤1000):∀(k i x:Nat),i+k=15→x<16→Ev C (Zfw j w x i) (Zeb j w x i) (ZaI 112 (.int .i64 ((x ^^^ Zth j i ((wdN w).drop i):Nat):Int)) none):=by
 intro k
 induction k with
 |zero=>
  intro i x hi hx
  refine tgo hC Znd Zim ?_
  rw[List.drop_of_length_le (by rw[ZvZ];omega),Zth,Nat.xor_zero]
  have h15:i=15:=by omega
  subst h15
  simp[Zea]
 |succ k ih=>
  intro i x hi hx
  refine tgo hC Znd Zim ?_
  have e0:=ZiV hr i
  obtain⟨a,ha,ha16⟩:=Znj e0
  have m0:(j:Int)*(14-(i:Int))=((j*(14-i):Nat):Int):=by rw[Int.natCast_mul];congr 1;omega
  have m1:j*(14-i)≤14000:=by
   have:=Nat.mul_le_mul hj (show 14-i≤14 by omega);omega
  have b1:0≤(j:Int)*(14-(i:Int))∧(j:Int)*(14-(i:Int))≤14000:=by rw[m0];omega
  have e1:gM (w.getD i 0) (gP ((j:Int)*(14-(i:Int))))=((Zav a (ZbH (j*(14-i))):Nat):Int):=by rw[m0,ha];rfl
  have l1:=ZbJ ha16 (Zcc (j*(14-i)))
  have e2:=Ze0 (r:=x) (k:=Zav a (ZbH (j*(14-i)))) (by omega) (by omega)
  have i':=ih (i+1) (x ^^^ Zav a (ZbH (j*(14-i)))) (by omega) (Zcj hx l1)
  rw[Zui (by omega),Zth,ha,Int.toNat_natCast,←Nat.xor_assoc]
  have e3:=ZNC ((j:Int)*(14-(i:Int)))
  have hi15:(i:Int)<15:=by omega
  have hi2:i<15:=by omega
  simp only[Zea,Zp5,Zp2,Zbu,ZaX,Int.toNat_natCast,e1,e2,e3,e0]
  simp[hi15,hi2,hw]at i'⊢
  refine⟨?_,i'⟩
  exact⟨by omega,decide_eq_true b1.1,by omega,by omega⟩
end
def hfB(h:Int):Bool:=decide (1≤h∧h≤3)
theorem Zu4(w:List Int)(j:Int)(hw:okw w=true)(hj:0≤j∧j≤1000):Zai Try.prog 112 [.agg (.ints .i64 w), .int .i64 j] (.int .i64 (syI w j.toNat)) none:=by
 obtain⟨w1,w2⟩:=okw_iff.1 hw
 obtain⟨n,rfl⟩:=Int.eq_ofNat_of_zero_le hj.1
 refine start (ZyF w n) fun C hC=>tgo hC Znd ZJC ?_
 have i:=ZQH hC w1 w2 n (by omega) 15 0 0 (by omega) (by omega)
 have e:std.sub3 w 0 15=w:=by show(w.drop 0).take 15=w;rw[List.drop_zero,List.take_of_length_le (by omega)]
 rw[List.drop_zero,Nat.zero_xor]at i
 simp only[ZAh,e]
 simp[w1,syI]at i⊢
 exact i
def k129:Ctr:=⟨129,0,fun _ a=>match a with |[.int .i64 n]=>some (decide (0≤n∧n≤14), .int .i64 (ZCw n),none) |_=>none⟩
theorem ZE8:k129.OK Try.prog:=fun pa args r fr h=>by
 simp only[k129]at h
 split at h
 ·simp only[Option.some.injEq,Prod.mk.injEq,decide_eq_true_eq]at h
  obtain⟨h0,rfl,rfl⟩:=h
  exact ZtK _ h0
 ·cases h
def k73:Ctr:=⟨73,0,fun _ a=>match a with |[.int .i64 h]=>some (true, .int .i64 (hfE h),none) |_=>none⟩
theorem ZHs:k73.OK Try.prog:=fun pa args r fr h=>by
 simp only[k73]at h
 split at h
 ·cases h
  exact ZvJ _
 ·cases h
def k23:Ctr:=⟨23,0,fun _ a=>match a with |[.int .i64 h]=>some (true, .int .i64 (hfE h),none) |_=>none⟩
theorem ZKS:k23.OK Try.prog:=fun pa args r fr h=>by
 simp only[k23]at h
 split at h
 ·cases h
  exact Zvd _
 ·cases h
def k74:Ctr:=⟨74,0,fun _ a=>match a with |[.list (.ints .i64 l), .int .i64 n]=>some (decide (l.length≤1000000), .int .i64 (elE l n),none) |_=>none⟩
theorem ZF7:k74.OK Try.prog:=fun pa args r fr h=>by
 simp only[k74]at h
 split at h
 ·simp only[Option.some.injEq,Prod.mk.injEq,decide_eq_true_eq]at h
  obtain⟨h0,rfl,rfl⟩:=h
  exact Zyk _ _ h0
 ·cases h
def k21:Ctr:=⟨21,0,fun _ a=>match a with |[.int .i64 n]=>some (true, .bool (Zal n 0 15),none) |_=>none⟩
theorem ZId:k21.OK Try.prog:=fun pa args r fr h=>by
 simp only[k21]at h
 split at h
 ·cases h
  exact Zxl _
 ·cases h
def k112:Ctr:=⟨112,0,fun _ a=>match a with |[.agg (.ints .i64 w), .int .i64 j]=>some (decide (okw w=true∧0≤j∧j≤1000), .int .i64 (syI w j.toNat),none) |_=>none⟩
theorem ZDi:k112.OK Try.prog:=fun pa args r fr h=>by
 simp only[k112]at h
 split at h
 ·simp only[Option.some.injEq,Prod.mk.injEq,decide_eq_true_eq]at h
  obtain⟨h0,rfl,rfl⟩:=h
  exact Zu4 _ _ h0.1 h0.2
 ·cases h
def Kc:List Ctr:=[k129,k73,k23,k74,k21,k112]++Kb
theorem Zyz:Zay Try.prog Kc:=⟨ZE8,⟨ZHs,⟨ZKS,⟨ZF7,⟨ZId,⟨ZDi,Znd⟩⟩⟩⟩⟩⟩
end Go.Proofs.Ytklbmkllepkjcaa
/- Paths of functions, printed by the explorer (Gx). No condition. -/
namespace Go.Proofs.Ytklbmkllepkjcaa
set_option maxRecDepth 100000
set_option linter.unusedVariables false
def ZIq(w:List Int)(h:Int):AFrame:={ fn:=75,N:=20,env:=[(0,AV.agg (.ints .i64 w)),(1,AV.int .i64 h)],todo:=[.code a75.code],defs:=[],rnd:=none,ret:=false,res:=[ARes.tmp 4] }
def ZQx(w:List Int)(h:Int):List AFrame:=[(ZIq w h)]
theorem ZDF(w:List Int)(h:Int):Zaq tab 75 [AV.agg (.ints .i64 w),AV.int .i64 h]=some (ZIq w h):=rfl
def Zjf(w:List Int)(h:Int)(A:Ar)(n0:Int)(l1:List Int):List AFrame:=[{ fn:=75,N:=20,env:=[(1,AV.int .i64 h),(2,AV.ptr 75003 0 0 0),(5,AV.row 75019 0),(6,AV.int .i64 n0)],todo:=.code (ACode.gh [] ZFw)::ZLv,defs:=[],rnd:=none,ret:=false,res:=[ARes.tmp 4] }]
def Zg3(w:List Int)(h:Int)(A:Ar)(n0:Int)(l1:List Int):Zaa:=[(75003,{ base:=0,blks:=[Blk.row 107 (A.len w) (Row.gen [.agg (.ints .i64 w)])] }),(75019,{ base:=0,blks:=[Blk.row 3 1 (.ints .i64 l1)] })]
abbrev Zmo(w:List Int)(h:Int)(A:Ar)(n0:Int)(l1:List Int):List AFrame×Zaa:=(Zjf w h A n0 l1,Zg3 w h A n0 l1)
def ZHQ(A:Ar)(K:KT)(F:FT)(w:List Int)(h:Int):Prop:=rB [Nat.blt 0 (A.len w)] (K (Zmo (w) (h) (A) (1) ([])))
theorem ZMY{A:Ar}{K:KT}{F:FT}{M:MT}{w:List Int}{h:Int} :Zaj A tab Kc 75 K F M (.run 18 (.hd)) (ZQx w h) []=ZHQ A K F w h:=by kernel_rfl
def ZhE(A:Ar)(K:KT)(F:FT)(w:List Int)(h n0:Int)(l1:List Int):Prop:=rB [A.inR .i64 (A.mul 2 h)] (bB (A.le n0 (A.mul 2 h)) (rB [A.inR .i64 (A.add n0 1),Nat.ble (A.len l1+A.len [syI (A.sub3 w 0 15) (Int.toNat n0)]) 4294967296,List.all [AV.int .i64 (syI (A.sub3 w 0 15) (Int.toNat n0))] fun x=>AV.bx x&&Nat.beq (Zag A x) 1,decide (okw (A.sub3 w 0 15)=true∧0≤n0∧n0≤1000),Nat.ble 15 (A.len w)] (K (Zmo (w) (h) (A) (A.add n0 1) (A.app l1 [syI (A.sub3 w 0 15) (Int.toNat n0)])))) (F (AV.row 0 0) (some { e:=3,sz:=1,r:=.ints .i64 l1 })))
theorem Zl5{A:Ar}{K:KT}{F:FT}{M:MT}{w:List Int}{h n0:Int}{l1:List Int} :Zaj A tab Kc 75 K F M (.run 9 (.tf (.run 20 (.hd)) (.run 7 (.fn)))) (Zjf w h A n0 l1) (Zg3 w h A n0 l1)=ZhE A K F w h n0 l1:=by kernel_rfl
end Go.Proofs.Ytklbmkllepkjcaa
/- Contracts as a list. No condition. -/
namespace Go.Proofs.Ytklbmkllepkjcaa
theorem Zgu{w:List Int}(h:w.length=15):std.sub3 w 0 15=w:=by show(w.drop 0).take 15=w;rw[List.drop_zero,List.take_of_length_le (by omega)]
section
variable {C:Ctx}(hC:C.P=Try.prog){w:List Int}(hw:okw w=true)
include hC hw
theorem S75(h:Int)(hh:1≤h∧h≤3):∀(k j:Nat),(j:Int)+k=2*h→Ev C (Zjf w h std ((j+1:Nat):Int) (syL w j)) (Zg3 w h std ((j+1:Nat):Int) (syL w j)) (ZaI 75 (.row 0 0) (some ⟨3,1, .ints .i64 (syL w (2*h.toNat))⟩)):=by
 obtain⟨w1,w2⟩:=okw_iff.1 hw
 intro k
 induction k with
 |zero=>
  intro j hj
  refine tgo hC Zyz Zl5 ?_
  rw[show 2*h.toNat=j by omega]
  simp[ZhE,show ¬(j:Int)+1≤2*h by omega]
  omega
 |succ k ih=>
  intro j hj
  refine tgo hC Zyz Zl5 ?_
  have i:=ih (j+1) (by omega)
  have e:=Zgu w1
  have l:=Zjs w j
  rw[Zw2]at i
  simp only[ZhE,e]
  simp[hw,w1,l,show(j:Int)+1≤2*h by omega,AV.bx,Zag]at i⊢
  exact⟨by omega,by omega,i⟩
end
theorem ZxH(w:List Int)(h:Int)(hw:okw w=true)(hh:hfB h=true):Zai Try.prog 75 [.agg (.ints .i64 w), .int .i64 h] (.row 0 0) (some ⟨3,1, .ints .i64 (syL w (2*h.toNat))⟩):=by
 obtain⟨w1,w2⟩:=okw_iff.1 hw
 have hh:=of_decide_eq_true hh
 refine start (ZDF w h) fun C hC=>tgo hC Zyz ZMY ?_
 have i:=S75 hC hw h hh (2*h.toNat) 0 (by omega)
 simp[ZHQ,syL,w1]at i⊢
 exact i
theorem ZJQ{h:Int}(e:hfE h=0):1≤h∧h≤3:=by
 unfold hfE Zam at e
 split at e
 ·rename_i h1;exact of_decide_eq_true h1
 ·cases e
theorem ZAI{l:List Int}{n:Int}(e:elE l n=0):(l.length:Int)=n∧ZaP l 0 15=0:=by
 obtain⟨a,b⟩:=ZcL e
 obtain⟨b,_⟩:=ZcL b
 refine⟨?_,b⟩
 by_cases h:(l.length:Int)=n
 ·exact h
 ·simp[Zam,h]at a
def isW(h:Int)(w:List Int):Bool:=(syL w (2*h.toNat)).all fun x=>decide (x=0)
section
variable {C:Ctx}(hC:C.P=Try.prog)
include hC
end
def erP:Int→List Int→Int
 |_,[]=>0
 |p,x::l=>if Zal x 0 14=true then(if p<x then erP x l else 9)else 6
def erE(h:Int)(e:List Int):Int:=if 2*h<(e.length:Int)then 8 else erP (-1) e
section
variable {C:Ctx}(hC:C.P=Try.prog)
include hC
end
def k75:Ctr:=⟨75,0,fun _ a=>match a with |[.agg (.ints .i64 w), .int .i64 h]=>some (decide (okw w=true∧hfB h=true), .row 0 0,some ⟨3,1, .ints .i64 (syL w (2*h.toNat))⟩) |_=>none⟩
theorem ZHN:k75.OK Try.prog:=fun pa args r fr h=>by
 simp only[k75]at h
 split at h
 ·simp only[Option.some.injEq,Prod.mk.injEq,decide_eq_true_eq]at h
  obtain⟨h0,rfl,rfl⟩:=h
  exact ZxH _ _ h0.1 h0.2
 ·cases h
def Kd:List Ctr:=[k75]++Kc
theorem Zod:Zay Try.prog Kd:=⟨ZHN,Zyz⟩
end Go.Proofs.Ytklbmkllepkjcaa
/- Copies are rows of their own again. No condition. -/
namespace Go.Proofs.Ytklbmkllepkjcaa
def Ke:List Ctr:=[k14]++Kd
theorem ZaN:Zay Try.prog Ke:=⟨ZAL,Zod⟩
end Go.Proofs.Ytklbmkllepkjcaa
