/- What an event does to a state, and that it leaves it valid: plain. No condition. -/
import Derived.Test.YtkeoeooghhjibaaGreatDoorDi
namespace Go.Proofs.YtkeoeooghhjibaaGreatDoor
structure ST where
 t:Int
 mo:Int
 dn:zA
 ha:Bool
 ba:Int
 to:Bool
 dw:zI
 up:zA
def dnV(a t:Int):AV:=.agg (.gen [.int .i64 a, .int .i64 t])
def upV(n:Int)(h:Bool):AV:=.agg (.gen [.int .i64 n, .bool h])
def ZbO{α:Type}(l:List α)(n:Int):List α:=l.take n.toNat++l.drop (n.toNat+1)
def ZBE(fl:Int)(n:Nat)(h:Bool)(up:zA):zA:=if(up.length:Int)<fl then up++[upV n h]else up
def ZkK(ks rs l:zA)(s:ST):Bool:=ZhL rs (m0A ks l s.dn.length) s.t (m0L ks l s.dn s.dn.length) (Zaj l s.dn.length 0) (Zaj l s.dn.length 1) (Zaj l s.dn.length 2)
def Zjc(ks rs l:zA)(s:ST)(a:Int):ST:=if s.ha=false∧a=s.dn.length then(if ZkK ks rs l s=true then { s with dn:=s.dn++[dnV a s.t],mo:=m0A ks l (s.dn.length+1) }else { s with ha:=true })else s
def Zd8(fl:Int)(s:ST):ST:={ s with up:=ZBE fl s.dn.length s.ha s.up }
def ZaT(l:zA)(wn fl:Int)(s:ST)(k n:Int):Int:=
 if k=0 then(if n>1000000000000-s.t then 2 else 0)else
 if k=1 then(if n<l.length then(if s.to=true then 21 else if Zab n s.ba (s.ba+wn-1)=true then(if (s.dw.length:Int)<fl then 0 else 16)else 26)else 6)else
 if k=2∨k=4 then(if n<s.dw.length then 0 else 6)else
 if k=3∨k=5 then(if n<s.up.length then 0 else 6)else
 if k=6 then(if n<s.dw.length then(if (s.dw.length:Int)<fl then 0 else 16)else 6)else 0
def appS(ks rs l:zA)(fl:Int)(s:ST)(k n:Int):ST:=
 if k=0 then { s with t:=s.t+n }else
 if k=1 then { s with dw:=s.dw++[n] }else
 if k=2 then Zd8 fl (Zjc ks rs l { s with dw:=ZbO s.dw n } (s.dw.getD n.toNat 0))else
 if k=3 then { s with up:=ZbO s.up n,ba:=max s.ba (Zaj s.up n 0),to:=s.to||((s.up.getD n.toNat .top).cellAt 1).toB }else
 if k=4 then { s with dw:=ZbO s.dw n }else
 if k=5 then { s with up:=ZbO s.up n }else
 if k=6 then { s with dw:=s.dw++[s.dw.getD n.toNat 0] }else
 if k=7 then { s with ba:=0,to:=false }else Zd8 fl s
def ZHJ(ks rs l dn:zA)(t:Int)(i:Nat):Prop:=Zaj dn i 0=i∧Zaj dn i 1≤t∧(0<i→Zaj dn (i-1:Nat) 1≤Zaj dn i 1)∧ZhL rs (m0A ks l i) (Zaj dn i 1) (m0L ks l dn i) (Zaj l i 0) (Zaj l i 1) (Zaj l i 2)=true
structure VS (ks rs l:zA) (fl:Int) (s:ST):Prop where
 t:0≤s.t∧s.t≤1000000000000
 len:s.dn.length≤l.length∧(s.dw.length:Int)≤fl∧(s.up.length:Int)≤fl
 done:∀i,i<s.dn.length→ZHJ ks rs l s.dn s.t i
 mode:s.mo=m0A ks l s.dn.length
 halt:s.ha=true→s.dn.length≠l.length
 base:0≤s.ba∧s.ba≤s.dn.length
 told:s.to=true→s.ha=true∧s.ba=s.dn.length
 down:∀x∈s.dw,0≤x∧x≤(l.length:Int)-1
 up:∀x∈s.up,(0≤(x.cellAt 0).toI∧(x.cellAt 0).toI≤s.dn.length)∧((x.cellAt 1).toB=true→s.ha=true∧(x.cellAt 0).toI=s.dn.length)
theorem ZgA{rs ks l dn:zA}{t:Int} :∀(m i:Nat),Zbb rs ks l dn t m i=0↔∀j,i≤j→j<i+m→ZHJ ks rs l dn t j
 |0,i=>⟨fun _ j h1 h2=>by omega,fun _=>rfl⟩
 |m+1,i=>by
  have ih:=ZgA (rs:=rs) (ks:=ks) (l:=l) (dn:=dn) (t:=t) m (i+1)
  rw[Zbb]
  constructor
  ·intro h j h1 h2
   split at h
   ·rename_i hc
    split at h
    ·rename_i ha
     by_cases hj:j=i
     ·subst hj;exact⟨hc.1,hc.2.1,hc.2.2,ha⟩
     ·exact ih.1 h j (by omega) (by omega)
    ·cases h
   ·cases h
  ·intro h
   obtain⟨a,b,c,d⟩:=h i (by omega) (by omega)
   rw[if_pos ⟨a,b,c⟩,if_pos d]
   exact ih.2 fun j h1 h2=>h j (by omega) (by omega)
theorem downR_zero{n:Int} :∀ {xs:zI},ZbD n xs=0↔∀x∈xs,0≤x∧x≤n-1
 |[]=>⟨fun _ x h=>(by cases h),fun _=>rfl⟩
 |x::xs=>by
  have ih:=downR_zero (n:=n) (xs:=xs)
  rw[ZbD]
  constructor
  ·intro h
   split at h
   ·rename_i hw
    have hw:=within_iff.1 hw
    intro y hy
    rcases List.mem_cons.1 hy with rfl |hy
    ·exact hw
    ·exact ih.1 h y hy
   ·cases h
  ·intro h
   rw[if_pos (within_iff.2 (h x List.mem_cons_self))]
   exact ih.2 fun y hy=>h y (List.mem_cons_of_mem _ hy)
theorem upR_zero{n:Int}{ha:Bool} :∀ {xs:zA},upR n ha xs=0↔∀x∈xs,(0≤(x.cellAt 0).toI∧(x.cellAt 0).toI≤n)∧((x.cellAt 1).toB=true→ha=true∧(x.cellAt 0).toI=n)
 |[]=>⟨fun _ x h=>(by cases h),fun _=>rfl⟩
 |x::xs=>by
  have ih:=upR_zero (n:=n) (ha:=ha) (xs:=xs)
  rw[upR]
  constructor
  ·intro h
   split at h
   ·rename_i hw
    have hw:=within_iff.1 hw
    split at h
    ·cases h
    ·rename_i hc
     intro y hy
     rcases List.mem_cons.1 hy with rfl |hy
     ·exact⟨hw,fun hb=>Classical.byContradiction fun hn=>hc ⟨hb,hn⟩⟩
     ·exact ih.1 h y hy
   ·cases h
  ·intro h
   obtain⟨h1,h2⟩:=h x List.mem_cons_self
   rw[if_pos (within_iff.2 h1),if_neg (fun hc=>hc.2 (h2 hc.1))]
   exact ih.2 fun y hy=>h y (List.mem_cons_of_mem _ hy)
theorem Zqe{ks l:zA}{mo:Int}{dn:zA}{ha:Bool}{ba:Int}{to:Bool}{dw:zI}{up:zA} :Zff ks l mo dn ha ba to dw up=0↔mo=m0A ks l dn.length∧(ha=true→dn.length≠l.length)∧(0≤ba∧ba≤dn.length)∧(to=true→ha=true∧ba=dn.length)∧ZbD l.length dw=0∧upR dn.length ha up=0:=by
 unfold Zff
 by_cases h1:mo=m0A ks l dn.length
 ·rw[if_pos h1]
  by_cases h2:ha=true∧dn.length=l.length
  ·rw[if_pos h2]
   exact⟨fun h=>(by cases h),fun h=>absurd h2.2 (h.2.1 h2.1)⟩
  ·rw[if_neg h2]
   by_cases h3:Zab ba 0 dn.length=true
   ·rw[if_pos h3]
    have h3:=within_iff.1 h3
    by_cases h4:to=true∧¬(ha=true∧ba=dn.length)
    ·rw[if_pos h4]
     exact⟨fun h=>(by cases h),fun h=>absurd (h.2.2.2.1 h4.1) h4.2⟩
    ·rw[if_neg h4]
     have h2':ha=true→dn.length≠l.length:=fun a b=>h2 ⟨a,b⟩
     have h4':to=true→ha=true∧ba=dn.length:=fun a=>Classical.byContradiction fun b=>h4 ⟨a,b⟩
     by_cases h5:ZbD l.length dw=0
     ·rw[if_pos h5]
      exact⟨fun h=>⟨h1,h2',h3,h4',h5,h⟩,fun h=>h.2.2.2.2.2⟩
     ·rw[if_neg h5]
      exact⟨fun h=>absurd h h5,fun h=>absurd h.2.2.2.2.1 h5⟩
   ·rw[if_neg h3]
    exact⟨fun h=>(by cases h),fun h=>absurd (within_iff.2 h.2.2.1) h3⟩
 ·rw[if_neg h1]
  exact⟨fun h=>(by cases h),fun h=>absurd h.1 h1⟩
theorem vs_iff{ks rs l:zA}{fl:Int}{s:ST} :stE ks rs l fl s.t s.mo s.dn s.ha s.ba s.to s.dw s.up=0↔VS ks rs l fl s:=by
 unfold stE
 by_cases h1:Zab s.t 0 1000000000000=true
 ·rw[if_pos h1]
  have h1:=within_iff.1 h1
  by_cases h2:s.dn.length≤l.length∧(s.dw.length:Int)≤fl∧(s.up.length:Int)≤fl
  ·rw[if_pos h2]
   by_cases h3:Zbb rs ks l s.dn s.t s.dn.length 0=0
   ·rw[if_pos h3,Zqe]
    have h3:=(ZgA _ _).1 h3
    constructor
    ·rintro⟨a,b,c,d,e,f⟩
     exact⟨h1,h2,fun i hi=>h3 i (by omega) (by omega),a,b,c,d,downR_zero.1 e,upR_zero.1 f⟩
    ·intro h
     exact⟨h.mode,h.halt,h.base,h.told,downR_zero.2 h.down,upR_zero.2 h.up⟩
   ·rw[if_neg h3]
    exact⟨fun h=>absurd h h3,fun h=>absurd ((ZgA _ _).2 fun j _ hj=>h.done j (by omega)) h3⟩
  ·rw[if_neg h2]
   exact⟨fun h=>(by cases h),fun h=>absurd h.len h2⟩
 ·rw[if_neg h1]
  exact⟨fun h=>(by cases h),fun h=>absurd (within_iff.2 h.t) h1⟩
theorem Zeu{xs:zA}{x:AV}{i k:Nat}(h:i<xs.length):Zaj (xs++[x]) i k=Zaj xs i k:=by
 unfold Zaj
 rw[List.getD_eq_getElem?_getD,List.getD_eq_getElem?_getD,Int.toNat_natCast,List.getElem?_append_left h]
theorem Zf1{xs:zA}{x:AV}{k:Nat} :Zaj (xs++[x]) xs.length k=(x.cellAt k).toI:=by
 unfold Zaj
 rw[List.getD_eq_getElem?_getD,Int.toNat_natCast,List.getElem?_append_right (Nat.le_refl _),Nat.sub_self];rfl
theorem Zra{ks l dn:zA}{x:AV}{i:Nat}(h:i≤dn.length):m0L ks l (dn++[x]) i=m0L ks l dn i:=by
 unfold m0L
 rw[←ZiD l (dn++[x]) dn.length i 0 _ (by omega),List.take_left]
theorem Zvp{ks rs l dn:zA}{x:AV}{t:Int}{i:Nat}(h:i<dn.length)(hd:ZHJ ks rs l dn t i):ZHJ ks rs l (dn++[x]) t i:=by
 obtain⟨a,b,c,d⟩:=hd
 refine⟨by rw[Zeu h];exact a,by rw[Zeu h];exact b,fun hi=>by rw[Zeu h,Zeu (by omega)];exact c hi,by rw[Zeu h,Zra (by omega)];exact d⟩
theorem Zom{α:Type}{l:List α}{n:Int}{x:α}(h:x∈ZbO l n):x∈l:=by
 unfold ZbO at h
 rcases List.mem_append.1 h with h |h
 ·exact List.mem_of_mem_take h
 ·exact List.mem_of_mem_drop h
theorem Zo4{α:Type}(l:List α)(n:Int):(ZbO l n).length≤l.length:=by
 unfold ZbO
 simp only[List.length_append,List.length_take,List.length_drop];omega
theorem Zwz{ks rs l:zA}{fl:Int}{s:ST}(h:VS ks rs l fl s):VS ks rs l fl (Zd8 fl s):=by
 unfold Zd8 ZBE
 split
 ·rename_i hu
  refine⟨h.t,⟨h.len.1,h.len.2.1,?_⟩,h.done,h.mode,h.halt,h.base,h.told,h.down,fun x hx=>?_⟩
  ·simp only[List.length_append,List.length_cons,List.length_nil];omega
  ·rcases List.mem_append.1 hx with hx |hx
   ·exact h.up x hx
   ·simp only[List.mem_singleton]at hx
    subst hx
    exact⟨⟨by simp[upV,AV.cellAt,AV.toI],by simp[upV,AV.cellAt,AV.toI]⟩,fun hb=>⟨by simpa[upV,AV.cellAt,AV.toB]using hb,by simp[upV,AV.cellAt,AV.toI]⟩⟩
 ·exact h
theorem ZGV{ks rs l:zA}{fl:Int}{s:ST}(h:VS ks rs l fl s){a:Int}(ha:0≤a∧a≤(l.length:Int)-1):VS ks rs l fl (Zjc ks rs l s a):=by
 unfold Zjc
 split
 ·rename_i hc
  obtain⟨hc1,hc2⟩:=hc
  have hto:s.to=false:=by
   cases ht:s.to
   ·rfl
   ·have:=(h.told ht).1;rw[hc1]at this;cases this
  have hu:∀x∈s.up,(x.cellAt 1).toB=false:=fun x hx=>by
   cases hb:(x.cellAt 1).toB
   ·rfl
   ·have:=((h.up x hx).2 hb).1;rw[hc1]at this;cases this
  have hlt:s.dn.length<l.length:=by omega
  split
  ·rename_i hn
   refine⟨h.t,⟨?_,h.len.2⟩,fun i hi=>?_,?_,fun hh=>?_,⟨h.base.1,?_⟩,fun hh=>?_,h.down,fun x hx=>?_⟩
   ·simp only[List.length_append,List.length_cons,List.length_nil];omega
   ·simp only[List.length_append,List.length_cons,List.length_nil]at hi
    by_cases hi2:i<s.dn.length
    ·exact Zvp hi2 (h.done i hi2)
    ·obtain rfl:i=s.dn.length:=by omega
     refine⟨by rw[Zf1];exact hc2.symm▸rfl,by rw[Zf1];exact Int.le_refl _,fun h0=>?_,?_⟩
     ·rw[Zf1,Zeu (by omega)]
      exact(h.done (s.dn.length-1) (by omega)).2.1
     ·rw[Zf1,Zra (Nat.le_refl _)]
      exact hn
   ·simp
   ·rw[show s.ha=true from hh]at hc1;cases hc1
   ·simp only[List.length_append,List.length_cons,List.length_nil];have:=h.base.2;omega
   ·rw[show s.to=true from hh]at hto;cases hto
   ·obtain⟨g1,_⟩:=h.up x hx
    refine⟨⟨g1.1,?_⟩,fun hb=>by rw[hu x hx]at hb;cases hb⟩
    simp only[List.length_append,List.length_cons,List.length_nil];omega
  ·exact⟨h.t,h.len,h.done,h.mode,fun _=>by show s.dn.length≠l.length;omega,h.base,fun hh=>(by rw[show s.to=true from hh]at hto;cases hto),h.down,fun x hx=>⟨(h.up x hx).1,fun hb=>by rw[hu x hx]at hb;cases hb⟩⟩
 ·exact h
theorem ZdB{α:Type}{xs:List α}{n:Nat}{d:α}(h:n<xs.length):xs.getD n d∈xs:=by
 rw[List.getD_eq_getElem?_getD,List.getElem?_eq_getElem h];exact List.getElem_mem h
theorem ZBV{ks rs l:zA}{wn fl:Int}{s:ST}{k n:Int}(h:VS ks rs l fl s)(hv:evE k n=0)(he:ZaT l wn fl s k n=0):VS ks rs l fl (appS ks rs l fl s k n):=by
 have hv0:Zab k 0 8=true:=by
  unfold evE at hv
  split at hv
  ·assumption
  ·cases hv
 unfold evE at hv
 rw[if_pos hv0]at hv
 unfold appS
 unfold ZaT at he
 split
 ·rename_i h0
  rw[if_pos h0]at hv he
  have hv:=within_iff.1 (ZaE hv (by decide))
  have hn:s.t+n≤1000000000000:=by
   split at he
   ·cases he
   ·omega
  refine⟨⟨by show 0≤s.t+n;have:=h.t;omega,hn⟩,h.len,fun i hi=>?_,h.mode,h.halt,h.base,h.told,h.down,h.up⟩
  obtain⟨a,b,c,d⟩:=h.done i hi
  exact⟨a,by show Zaj s.dn i 1≤s.t+n;omega,c,d⟩
 rename_i h0
 rw[if_neg h0]at hv he
 split
 ·rename_i h1
  rw[if_pos h1]at hv he
  have hv:=within_iff.1 (ZaE hv (by decide))
  split at he
  ·rename_i hl
   split at he
   ·cases he
   ·split at he
    ·split at he
     ·rename_i hd
      refine⟨h.t,⟨h.len.1,?_,h.len.2.2⟩,h.done,h.mode,h.halt,h.base,h.told,fun x hx=>?_,h.up⟩
      ·simp only[List.length_append,List.length_cons,List.length_nil];omega
      ·rcases List.mem_append.1 hx with hx |hx
       ·exact h.down x hx
       ·simp only[List.mem_singleton]at hx;subst hx;omega
     ·cases he
    ·cases he
  ·cases he
 rename_i h1
 rw[if_neg h1]at hv he
 have cutD:VS ks rs l fl { s with dw:=ZbO s.dw n } :=⟨h.t,⟨h.len.1,by have:=Zo4 s.dw n;have:=h.len.2.1;show((ZbO s.dw n).length:Int)≤fl;omega,h.len.2.2⟩,h.done,h.mode,h.halt,h.base,h.told,fun x hx=>h.down x (Zom hx),h.up⟩
 have cutU:∀x∈ZbO s.up n,x∈s.up:=fun x hx=>Zom hx
 have cutUl:((ZbO s.up n).length:Int)≤fl:=by have:=Zo4 s.up n;have:=h.len.2.2;omega
 have pos:Zab k 2 6=true→0≤n:=fun hk=>by
  rw[if_pos hk]at hv
  exact(within_iff.1 (ZaE hv (by decide))).1
 split
 ·rename_i h2
  rw[if_pos (.inl h2)]at he
  have hn0:=pos (within_iff.2 (by omega))
  split at he
  ·rename_i hd
   exact Zwz (ZGV cutD (h.down _ (ZdB (by omega))))
  ·cases he
 rename_i h2
 split
 ·rename_i h3
  rw[if_neg (by omega),if_pos (.inl h3)]at he
  have hn0:=pos (within_iff.2 (by omega))
  split at he
  ·rename_i hu
   have hlt:n.toNat<s.up.length:=by omega
   obtain⟨⟨g1,g2⟩,g3⟩:=h.up _ (ZdB (d:=.top) hlt)
   have e0:Zaj s.up n 0=((s.up.getD n.toNat .top).cellAt 0).toI:=rfl
   have hb:=h.base
   refine⟨h.t,⟨h.len.1,h.len.2.1,cutUl⟩,h.done,h.mode,h.halt,?_,fun ht=>?_,h.down,fun x hx=>h.up x (cutU x hx)⟩
   ·show 0≤max s.ba (Zaj s.up n 0)∧max s.ba (Zaj s.up n 0)≤s.dn.length
    rw[e0];omega
   ·show s.ha=true∧max s.ba (Zaj s.up n 0)=s.dn.length
    rw[e0]
    have ht:(s.to||((s.up.getD n.toNat .top).cellAt 1).toB)=true:=ht
    rw[Bool.or_eq_true]at ht
    rcases ht with ht |ht
    ·obtain⟨k1,k2⟩:=h.told ht
     exact⟨k1,by omega⟩
    ·obtain⟨k1,k2⟩:=g3 ht
     exact⟨k1,by omega⟩
  ·cases he
 rename_i h3
 split
 ·exact cutD
 rename_i h4
 split
 ·exact⟨h.t,⟨h.len.1,h.len.2.1,cutUl⟩,h.done,h.mode,h.halt,h.base,h.told,h.down,fun x hx=>h.up x (cutU x hx)⟩
 rename_i h5
 split
 ·rename_i h6
  rw[if_neg (by omega),if_neg (by omega),if_pos h6]at he
  have hn0:=pos (within_iff.2 (by omega))
  split at he
  ·split at he
   ·refine⟨h.t,⟨h.len.1,?_,h.len.2.2⟩,h.done,h.mode,h.halt,h.base,h.told,fun x hx=>?_,h.up⟩
    ·simp only[List.length_append,List.length_cons,List.length_nil];omega
    ·rcases List.mem_append.1 hx with hx |hx
     ·exact h.down x hx
     ·simp only[List.mem_singleton]at hx;subst hx;exact h.down _ (ZdB (by omega))
   ·cases he
  ·cases he
 split
 ·exact⟨h.t,h.len,h.done,h.mode,h.halt,⟨Int.le_refl 0,by show(0:Int)≤s.dn.length;omega⟩,fun ht=>(by cases ht),h.down,h.up⟩
 ·exact Zwz h
end Go.Proofs.YtkeoeooghhjibaaGreatDoor
namespace Go.Proofs.YtkeoeooghhjibaaGreatDoor
def dT(A:Ar)(dw:zI)(en:Int):zI:=(A.sub3 dw (A.nat (A.add en 1)) (A.len dw-A.nat (A.add en 1)))
def dW(A:Ar)(dw:zI)(en:Int):zI:=(A.app (A.app (A.sub3 dw 0 (A.nat en-0)) (dT A dw en)) (A.sub3 dw (A.nat en-0+A.len (dT A dw en)) (A.len dw)))
def dV(A:Ar)(dw:zI)(en:Int):zI:=(A.sub3 (dW A dw en) 0 (A.nat en-0+A.len (dT A dw en)))
def dR(A:Ar)(dw:zI)(en:Int):zI:=(A.rep (A.nat (A.int (A.len dw))-A.nat (A.int (A.len (dV A dw en)))) 0)
def dY(A:Ar)(dw:zI)(en:Int):zI:=(A.app (A.app (A.sub3 (dW A dw en) 0 (0+A.nat (A.int (A.len (dV A dw en))))) (dR A dw en)) (A.sub3 (dW A dw en) (0+A.nat (A.int (A.len (dV A dw en)))+A.len (dR A dw en)) (A.len (dW A dw en))))
def dX(A:Ar)(dw:zI)(en:Int):zI:=(A.sub3 (dY A dw en) 0 (A.nat en-0+A.len (dT A dw en)))
def dM(A:Ar)(dw:zI)(en:Int):Nat:=max (A.nat en-0+A.len (dT A dw en)) (Row.len A (.ints .i64 (dW A dw en)))
def dJ(A:Ar)(dw:zI)(en:Int):List Bool:=[Zag (Zag (A.le 0 en) (A.le 0 (A.add en 1))) (Zag (Zag (Nat.ble (A.nat en) (A.nat (A.add en 1))) (Nat.ble (A.nat (A.add en 1)) (A.len dw))) (Zag (A.le 0 (A.int (A.len dw))) (Zag (Nat.ble (A.nat (A.add en 1)) (A.nat (A.int (A.len dw)))) (Nat.ble (A.nat (A.int (A.len dw))) (A.len dw))))),A.inR .i64 (A.add en 1),Zag (Nat.blt (A.nat en) (A.len dw)) true,Zag (A.le 0 en) (Nat.blt (A.nat en) (A.len dw))]
def dK(A:Ar)(dw:zI)(en:Int):List Bool:=[Zag (Nat.ble (A.nat en-0+A.len (dT A dw en)) (A.len (dY A dw en))) true,Nat.ble (0+A.nat (A.int (A.len (dV A dw en)))+(A.nat (A.int (A.len dw))-A.nat (A.int (A.len (dV A dw en))))) (A.len (dW A dw en)),Zag (Zag (A.le 0 (A.int (A.len (dV A dw en)))) (A.le 0 (A.int (A.len dw)))) (Zag (Zag (Nat.ble (A.nat (A.int (A.len (dV A dw en)))) (A.nat (A.int (A.len dw)))) (Nat.ble (A.nat (A.int (A.len dw))) (dM A dw en))) true),Nat.ble (0+(A.nat en-0+A.len (dT A dw en))) (A.len (dW A dw en)),Zag (Zag (Nat.ble (A.nat (A.add en 1)+(A.len dw-A.nat (A.add en 1))) (A.len dw)) true) (Zag (Nat.ble (A.nat en-0+A.len (dT A dw en)) (A.len dw)) (Nat.blt 0 (A.len dw))),Zag (Zag (A.le 0 (A.add en 1)) true) (Zag (Zag (Nat.ble (A.nat (A.add en 1)) (A.len dw)) (Nat.ble (A.len dw) (A.len dw))) true),Zag (A.le 0 en) (Zag (Zag (Nat.ble 0 (A.nat en)) (Nat.ble (A.nat en) (A.len dw))) true)]
def eT(A:Ar)(up:zA)(en:Int):zA:=(A.subA up (A.nat (A.add en 1)) (A.lenA up-A.nat (A.add en 1)))
def eW(A:Ar)(up:zA)(en:Int):zA:=(A.appA (A.appA (A.subA up 0 (A.nat en-0)) (eT A up en)) (A.subA up (A.nat en-0+A.lenA (eT A up en)) (A.lenA up)))
def eV(A:Ar)(up:zA)(en:Int):zA:=(A.subA (eW A up en) 0 (A.nat en-0+A.lenA (eT A up en)))
def eR(A:Ar)(up:zA)(en:Int):zA:=(A.repA (A.nat (A.int (A.lenA up))-A.nat (A.int (A.lenA (eV A up en)))) (AV.agg (Row.gen [AV.int .i64 0,AV.bool false])))
def eY(A:Ar)(up:zA)(en:Int):zA:=(A.appA (A.appA (A.subA (eW A up en) 0 (0+A.nat (A.int (A.lenA (eV A up en))))) (eR A up en)) (A.subA (eW A up en) (0+A.nat (A.int (A.lenA (eV A up en)))+A.lenA (eR A up en)) (A.lenA (eW A up en))))
def eX(A:Ar)(up:zA)(en:Int):zA:=(A.subA (eY A up en) 0 (A.nat en-0+A.lenA (eT A up en)))
def eM(A:Ar)(up:zA)(en:Int):Nat:=max (A.nat en-0+A.lenA (eT A up en)) (Row.len A (Row.big (Sh.agg [Sh.int .i64,Sh.bool]) (eW A up en)))
def eJ(A:Ar)(up:zA)(en:Int):List Bool:=[Zag (Zag (A.le 0 en) (A.le 0 (A.add en 1))) (Zag (Zag (Nat.ble (A.nat en) (A.nat (A.add en 1))) (Nat.ble (A.nat (A.add en 1)) (A.lenA up))) (Zag (A.le 0 (A.int (A.lenA up))) (Zag (Nat.ble (A.nat (A.add en 1)) (A.nat (A.int (A.lenA up)))) (Nat.ble (A.nat (A.int (A.lenA up))) (A.lenA up))))),A.inR .i64 (A.add en 1),Zag (Nat.blt (A.nat en) (A.lenA up)) true,Zag (A.le 0 en) (Nat.blt (A.nat en) (A.lenA up))]
def eK(A:Ar)(up:zA)(en:Int):List Bool:=[Zag (Nat.ble (A.nat en-0+A.lenA (eT A up en)) (A.lenA (eY A up en))) true,Nat.ble (0+A.nat (A.int (A.lenA (eV A up en)))+(A.nat (A.int (A.lenA up))-A.nat (A.int (A.lenA (eV A up en))))) (A.lenA (eW A up en)),Zag (Zag (A.le 0 (A.int (A.lenA (eV A up en)))) (A.le 0 (A.int (A.lenA up)))) (Zag (Zag (Nat.ble (A.nat (A.int (A.lenA (eV A up en)))) (A.nat (A.int (A.lenA up)))) (Nat.ble (A.nat (A.int (A.lenA up))) (eM A up en))) true),Nat.ble (0+(A.nat en-0+A.lenA (eT A up en))) (A.lenA (eW A up en)),Zag (Zag (Nat.ble (A.nat (A.add en 1)+(A.lenA up-A.nat (A.add en 1))) (A.lenA up)) true) (Zag (Nat.ble (A.nat en-0+A.lenA (eT A up en)) (A.lenA up)) (Nat.blt 0 (A.lenA up))),Zag (Zag (A.le 0 (A.add en 1)) true) (Zag (Zag (Nat.ble (A.nat (A.add en 1)) (A.lenA up)) (Nat.ble (A.lenA up) (A.lenA up))) true),Zag (A.le 0 en) (Zag (Zag (Nat.ble 0 (A.nat en)) (Nat.ble (A.nat en) (A.lenA up))) true)]
theorem Zr0{dw:zI}{i:Nat} :dT std dw i=dw.drop (i+1):=by
 have e:((i:Int)+1).toNat=i+1:=by omega
 simp only[dT,ZlW,ZsW,Zjh,ZFb,e]
 exact List.take_of_length_le (by simp)
section
variable {dw:zI}{i:Nat}(h:i<dw.length)
include h
theorem ZyW:dW std dw i=ZbO dw i++dw.drop (dw.length-1):=by
 have e2:i-0+(dw.length-(i+1))=dw.length-1:=by omega
 simp only[dW,Zr0,ZC1,ZlW,ZsW,Zjh,Int.toNat_natCast,List.length_drop,List.drop_zero,e2,ZbO]
 rw[List.take_of_length_le (l:=dw.drop (dw.length-1)) (by simp)];rfl
theorem ZfO:(ZbO dw (i:Int)).length=dw.length-1:=by simp[ZbO];omega
theorem Zpu:(dW std dw i).length=dw.length:=by rw[ZyW h,List.length_append,ZfO h,List.length_drop];omega
theorem Zuy:dV std dw i=ZbO dw i:=by
 have e2:i-0+(dw.length-(i+1))=dw.length-1:=by omega
 simp only[dV,Zr0,ZyW h,ZlW,ZsW,Zjh,Int.toNat_natCast,List.length_drop,List.drop_zero,e2]
 rw[←ZfO h];exact List.take_left
theorem ZvM:(dR std dw i).length=1:=by
 simp[dR,Zuy h,ZfO h];omega
theorem ZDm:∃zs,dY std dw i=ZbO dw i++zs∧zs.length=1:=by
 have e:List.take (dw.length-1) (ZbO dw (i:Int)++dw.drop (dw.length-1))=ZbO dw i:=by rw[←ZfO h];exact List.take_left
 refine⟨dR std dw i++((dW std dw i).drop (0+std.nat (std.int (std.len (dV std dw i)))+std.len (dR std dw i))).take (std.len (dW std dw i)),?_,?_⟩
 ·simp only[dY,ZC1,ZlW]
  rw[←List.append_assoc]
  congr 2
  simp[Zuy h,ZfO h,ZyW h,e]
 ·have:=Zpu h
  have:=ZvM h
  simp[Zuy h,ZfO h,Zpu h,ZvM h]
  omega
theorem ZCf:(dY std dw i).length=dw.length:=by
 obtain⟨zs,e,hz⟩:=ZDm h
 rw[e,List.length_append,ZfO h];omega
theorem ZHy:dX std dw i=ZbO dw i:=by
 obtain⟨zs,e,hz⟩:=ZDm h
 have e2:i-0+(dw.length-(i+1))=dw.length-1:=by omega
 simp only[dX,Zr0,ZlW,ZsW,Zjh,Int.toNat_natCast,List.length_drop,List.drop_zero,e2,e]
 rw[←ZfO h];exact List.take_left
theorem ZH5:dM std dw i=dw.length:=by
 have:Row.len std (.ints .i64 (dW std dw i))=dw.length:=Zpu h
 simp only[dM,this,Zr0,ZsW,Zjh,Int.toNat_natCast,List.length_drop]
 omega
theorem ZGK(hl:dw.length≤1000000)(t:Prop):rB (dJ std dw i) t=t:=by
 have e:((i:Int)+1).toNat=i+1:=by omega
 simp[dJ,e]
 intro _;omega
theorem ZDH(hl:dw.length≤1000000)(t:Prop):rB (dK std dw i) t=t:=by
 have e:((i:Int)+1).toNat=i+1:=by omega
 simp[dK,e,ZH5 h,Zr0,Zpu h,Zuy h,ZfO h,ZCf h]
 intro _;omega
end
theorem ZtG{dw:zI}{en:Int}(h0:0≤en)(h:en<dw.length):dX std dw en=ZbO dw en:=by
 obtain⟨i,rfl⟩:∃i:Nat,en=i:=⟨en.toNat,by omega⟩
 exact ZHy (by omega)
theorem ZJA{dw:zI}{en:Int}(h0:0≤en)(h:en<dw.length)(hl:dw.length≤1000000)(t:Prop):rB (dJ std dw en) t=t:=by
 obtain⟨i,rfl⟩:∃i:Nat,en=i:=⟨en.toNat,by omega⟩
 exact ZGK (by omega) hl t
theorem ZJ6{dw:zI}{en:Int}(h0:0≤en)(h:en<dw.length)(hl:dw.length≤1000000)(t:Prop):rB (dK std dw en) t=t:=by
 obtain⟨i,rfl⟩:∃i:Nat,en=i:=⟨en.toNat,by omega⟩
 exact ZDH (by omega) hl t
theorem Zpb{dw:zI}{en:Int}(h0:0≤en)(h:en<dw.length)(hl:dw.length≤1000000):AllT (dJ std dw en):=by
 have:=ZJA h0 h hl True
 rw[ZuJ]at this
 exact(of_eq_true this).1
theorem ZoN{dw:zI}{en:Int}(h0:0≤en)(h:en<dw.length)(hl:dw.length≤1000000):AllT (dK std dw en):=by
 have:=ZJ6 h0 h hl True
 rw[ZuJ]at this
 exact(of_eq_true this).1
theorem Ztn{up:zA}{i:Nat} :eT std up i=up.drop (i+1):=by
 have e:((i:Int)+1).toNat=i+1:=by omega
 simp only[eT,Zlx,ZcE,Zjh,ZFb,e]
 exact List.take_of_length_le (by simp)
section
variable {up:zA}{i:Nat}(h:i<up.length)
include h
theorem Zz8:eW std up i=ZbO up i++up.drop (up.length-1):=by
 have e2:i-0+(up.length-(i+1))=up.length-1:=by omega
 simp only[eW,Ztn,ZwI,Zlx,ZcE,Zjh,Int.toNat_natCast,List.length_drop,List.drop_zero,e2,ZbO]
 rw[List.take_of_length_le (l:=up.drop (up.length-1)) (by simp)];rfl
theorem ZfQ:(ZbO up (i:Int)).length=up.length-1:=by simp[ZbO];omega
theorem Zpq:(eW std up i).length=up.length:=by rw[Zz8 h,List.length_append,ZfQ h,List.length_drop];omega
theorem ZuT:eV std up i=ZbO up i:=by
 have e2:i-0+(up.length-(i+1))=up.length-1:=by omega
 simp only[eV,Ztn,Zz8 h,Zlx,ZcE,Zjh,Int.toNat_natCast,List.length_drop,List.drop_zero,e2]
 rw[←ZfQ h];exact List.take_left
theorem ZvJ:(eR std up i).length=1:=by
 simp[eR,ZuT h,ZfQ h];omega
theorem ZHh:∃zs,eY std up i=ZbO up i++zs∧zs.length=1:=by
 have e:List.take (up.length-1) (ZbO up (i:Int)++up.drop (up.length-1))=ZbO up i:=by rw[←ZfQ h];exact List.take_left
 refine⟨eR std up i++((eW std up i).drop (0+std.nat (std.int (std.lenA (eV std up i)))+std.lenA (eR std up i))).take (std.lenA (eW std up i)),?_,?_⟩
 ·simp only[eY,ZwI,Zlx]
  rw[←List.append_assoc]
  congr 2
  simp[ZuT h,ZfQ h,Zz8 h,e]
 ·have:=Zpq h
  have:=ZvJ h
  simp[ZuT h,ZfQ h,Zpq h,ZvJ h]
  omega
theorem ZEv:(eY std up i).length=up.length:=by
 obtain⟨zs,e,hz⟩:=ZHh h
 rw[e,List.length_append,ZfQ h];omega
theorem ZFw:eX std up i=ZbO up i:=by
 obtain⟨zs,e,hz⟩:=ZHh h
 have e2:i-0+(up.length-(i+1))=up.length-1:=by omega
 simp only[eX,Ztn,Zlx,ZcE,Zjh,Int.toNat_natCast,List.length_drop,List.drop_zero,e2,e]
 rw[←ZfQ h];exact List.take_left
theorem ZJy:eM std up i=up.length:=by
 have:Row.len std (.big (.agg [.int .i64, .bool]) (eW std up i))=up.length:=Zpq h
 simp only[eM,this,Ztn,ZcE,Zjh,Int.toNat_natCast,List.length_drop]
 omega
theorem ZEN(hl:up.length≤1000000)(t:Prop):rB (eJ std up i) t=t:=by
 have e:((i:Int)+1).toNat=i+1:=by omega
 simp[eJ,e]
 intro _;omega
theorem ZGC(hl:up.length≤1000000)(t:Prop):rB (eK std up i) t=t:=by
 have e:((i:Int)+1).toNat=i+1:=by omega
 simp[eK,e,ZJy h,Ztn,Zpq h,ZuT h,ZfQ h,ZEv h]
 intro _;omega
end
theorem Zur{up:zA}{en:Int}(h0:0≤en)(h:en<up.length):eX std up en=ZbO up en:=by
 obtain⟨i,rfl⟩:∃i:Nat,en=i:=⟨en.toNat,by omega⟩
 exact ZFw (by omega)
theorem ZJ5{up:zA}{en:Int}(h0:0≤en)(h:en<up.length)(hl:up.length≤1000000)(t:Prop):rB (eJ std up en) t=t:=by
 obtain⟨i,rfl⟩:∃i:Nat,en=i:=⟨en.toNat,by omega⟩
 exact ZEN (by omega) hl t
theorem ZJ2{up:zA}{en:Int}(h0:0≤en)(h:en<up.length)(hl:up.length≤1000000)(t:Prop):rB (eK std up en) t=t:=by
 obtain⟨i,rfl⟩:∃i:Nat,en=i:=⟨en.toNat,by omega⟩
 exact ZGC (by omega) hl t
theorem Zo5{up:zA}{en:Int}(h0:0≤en)(h:en<up.length)(hl:up.length≤1000000):AllT (eJ std up en):=by
 have:=ZJ5 h0 h hl True
 rw[ZuJ]at this
 exact(of_eq_true this).1
theorem Zoh{up:zA}{en:Int}(h0:0≤en)(h:en<up.length)(hl:up.length≤1000000):AllT (eK std up en):=by
 have:=ZJ2 h0 h hl True
 rw[ZuJ]at this
 exact(of_eq_true this).1
end Go.Proofs.YtkeoeooghhjibaaGreatDoor
