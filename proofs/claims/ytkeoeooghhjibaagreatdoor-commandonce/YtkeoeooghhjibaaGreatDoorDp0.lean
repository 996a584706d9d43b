/- What an event does to a state, and that it leaves it valid: plain. No condition. -/
import Derived.Test.YtkeoeooghhjibaaGreatDoorDi
import Derived.KernelRfl
namespace Go.Proofs.YtkeoeooghhjibaaGreatDoor
structure ST where
 t:Int
 mo:Int
 dn:List AV
 ha:Bool
 ba:Int
 to:Bool
 dw:List Int
 up:List AV
def dnV(a t:Int):AV:=.agg (.gen [.int .i64 a, .int .i64 t])
def upV(n:Int)(h:Bool):AV:=.agg (.gen [.int .i64 n, .bool h])
def ZbV{α:Type}(l:List α)(n:Int):List α:=l.take n.toNat++l.drop (n.toNat+1)
def ZAj(fl:Int)(n:Nat)(h:Bool)(up:List AV):List AV:=if(up.length:Int)<fl then up++[upV n h]else up
def Zpx(ks rs l:List AV)(s:ST):Bool:=Zjd rs (m0A ks l s.dn.length) s.t (m0L ks l s.dn s.dn.length) (Zak l s.dn.length 0) (Zak l s.dn.length 1) (Zak l s.dn.length 2)
def Zgc(ks rs l:List AV)(s:ST)(a:Int):ST:=if s.ha=false∧a=s.dn.length then(if Zpx ks rs l s=true then { s with dn:=s.dn++[dnV a s.t],mo:=m0A ks l (s.dn.length+1) }else { s with ha:=true })else s
def Zer(fl:Int)(s:ST):ST:={ s with up:=ZAj fl s.dn.length s.ha s.up }
def ZbZ(l:List AV)(wn fl:Int)(s:ST)(k n:Int):Int:=
 if k=0 then(if n>1000000000000-s.t then 2 else 0)else
 if k=1 then(if n<l.length then(if s.to=true then 21 else if Zab n s.ba (s.ba+wn-1)=true then(if (s.dw.length:Int)<fl then 0 else 16)else 26)else 6)else
 if k=2∨k=4 then(if n<s.dw.length then 0 else 6)else
 if k=3∨k=5 then(if n<s.up.length then 0 else 6)else
 if k=6 then(if n<s.dw.length then(if (s.dw.length:Int)<fl then 0 else 16)else 6)else 0
def appS(ks rs l:List AV)(fl:Int)(s:ST)(k n:Int):ST:=
 if k=0 then { s with t:=s.t+n }else
 if k=1 then { s with dw:=s.dw++[n] }else
 if k=2 then Zer fl (Zgc ks rs l { s with dw:=ZbV s.dw n } (s.dw.getD n.toNat 0))else
 if k=3 then { s with up:=ZbV s.up n,ba:=max s.ba (Zak s.up n 0),to:=s.to||((s.up.getD n.toNat .top).cellAt 1).toB }else
 if k=4 then { s with dw:=ZbV s.dw n }else
 if k=5 then { s with up:=ZbV s.up n }else
 if k=6 then { s with dw:=s.dw++[s.dw.getD n.toNat 0] }else
 if k=7 then { s with ba:=0,to:=false }else Zer fl s
def ZB4(ks rs l dn:List AV)(t:Int)(i:Nat):Prop:=Zak dn i 0=i∧Zak dn i 1≤t∧(0<i→Zak dn (i-1:Nat) 1≤Zak dn i 1)∧Zjd rs (m0A ks l i) (Zak dn i 1) (m0L ks l dn i) (Zak l i 0) (Zak l i 1) (Zak l i 2)=true
structure VS (ks rs l:List AV) (fl:Int) (s:ST):Prop where
 t:0≤s.t∧s.t≤1000000000000
 len:s.dn.length≤l.length∧(s.dw.length:Int)≤fl∧(s.up.length:Int)≤fl
 done:∀i,i<s.dn.length→ZB4 ks rs l s.dn s.t i
 mode:s.mo=m0A ks l s.dn.length
 halt:s.ha=true→s.dn.length≠l.length
 base:0≤s.ba∧s.ba≤s.dn.length
 told:s.to=true→s.ha=true∧s.ba=s.dn.length
 down:∀x∈s.dw,0≤x∧x≤(l.length:Int)-1
 up:∀x∈s.up,(0≤(x.cellAt 0).toI∧(x.cellAt 0).toI≤s.dn.length)∧((x.cellAt 1).toB=true→s.ha=true∧(x.cellAt 0).toI=s.dn.length)
theorem Zfk{rs ks l dn:List AV}{t:Int} :∀(m i:Nat),ZcX rs ks l dn t m i=0↔∀j,i≤j→j<i+m→ZB4 ks rs l dn t j
 |0,i=>⟨fun _ j h1 h2=>by omega,fun _=>rfl⟩
 |m+1,i=>by
  have ih:=Zfk (rs:=rs) (ks:=ks) (l:=l) (dn:=dn) (t:=t) m (i+1)
  rw[ZcX]
  constructor
  ·intro h j h1 h2
   split at h
   ·rename_i hc
    split at h
    ·rename_i ha
     by_cases hj:j=i
     ·subst hj;exact⟨hc.1,hc.2.1,hc.2.2,ha⟩
     ·exact ih.1 h j (by omega) (by omega)
    ·cases h
   ·cases h
  ·intro h
   obtain⟨a,b,c,d⟩:=h i (by omega) (by omega)
   rw[if_pos ⟨a,b,c⟩,if_pos d]
   exact ih.2 fun j h1 h2=>h j (by omega) (by omega)
theorem downR_zero{n:Int} :∀ {xs:List Int},Zda n xs=0↔∀x∈xs,0≤x∧x≤n-1
 |[]=>⟨fun _ x h=>(by cases h),fun _=>rfl⟩
 |x::xs=>by
  have ih:=downR_zero (n:=n) (xs:=xs)
  rw[Zda]
  constructor
  ·intro h
   split at h
   ·rename_i hw
    have hw:=within_iff.1 hw
    intro y hy
    rcases List.mem_cons.1 hy with rfl |hy
    ·exact hw
    ·exact ih.1 h y hy
   ·cases h
  ·intro h
   rw[if_pos (within_iff.2 (h x List.mem_cons_self))]
   exact ih.2 fun y hy=>h y (List.mem_cons_of_mem _ hy)
theorem upR_zero{n:Int}{ha:Bool} :∀ {xs:List AV},upR n ha xs=0↔∀x∈xs,(0≤(x.cellAt 0).toI∧(x.cellAt 0).toI≤n)∧((x.cellAt 1).toB=true→ha=true∧(x.cellAt 0).toI=n)
 |[]=>⟨fun _ x h=>(by cases h),fun _=>rfl⟩
 |x::xs=>by
  have ih:=upR_zero (n:=n) (ha:=ha) (xs:=xs)
  rw[upR]
  constructor
  ·intro h
   split at h
   ·rename_i hw
    have hw:=within_iff.1 hw
    split at h
    ·cases h
    ·rename_i hc
     intro y hy
     rcases List.mem_cons.1 hy with rfl |hy
     ·exact⟨hw,fun hb=>Classical.byContradiction fun hn=>hc ⟨hb,hn⟩⟩
     ·exact ih.1 h y hy
   ·cases h
  ·intro h
   obtain⟨h1,h2⟩:=h x List.mem_cons_self
   rw[if_pos (within_iff.2 h1),if_neg (fun hc=>hc.2 (h2 hc.1))]
   exact ih.2 fun y hy=>h y (List.mem_cons_of_mem _ hy)
theorem ZmI{ks l:List AV}{mo:Int}{dn:List AV}{ha:Bool}{ba:Int}{to:Bool}{dw:List Int}{up:List AV} :Znu ks l mo dn ha ba to dw up=0↔mo=m0A ks l dn.length∧(ha=true→dn.length≠l.length)∧(0≤ba∧ba≤dn.length)∧(to=true→ha=true∧ba=dn.length)∧Zda l.length dw=0∧upR dn.length ha up=0:=by
 unfold Znu
 by_cases h1:mo=m0A ks l dn.length
 ·rw[if_pos h1]
  by_cases h2:ha=true∧dn.length=l.length
  ·rw[if_pos h2]
   exact⟨fun h=>(by cases h),fun h=>absurd h2.2 (h.2.1 h2.1)⟩
  ·rw[if_neg h2]
   by_cases h3:Zab ba 0 dn.length=true
   ·rw[if_pos h3]
    have h3:=within_iff.1 h3
    by_cases h4:to=true∧¬(ha=true∧ba=dn.length)
    ·rw[if_pos h4]
     exact⟨fun h=>(by cases h),fun h=>absurd (h.2.2.2.1 h4.1) h4.2⟩
    ·rw[if_neg h4]
     have h2':ha=true→dn.length≠l.length:=fun a b=>h2 ⟨a,b⟩
     have h4':to=true→ha=true∧ba=dn.length:=fun a=>Classical.byContradiction fun b=>h4 ⟨a,b⟩
     by_cases h5:Zda l.length dw=0
     ·rw[if_pos h5]
      exact⟨fun h=>⟨h1,h2',h3,h4',h5,h⟩,fun h=>h.2.2.2.2.2⟩
     ·rw[if_neg h5]
      exact⟨fun h=>absurd h h5,fun h=>absurd h.2.2.2.2.1 h5⟩
   ·rw[if_neg h3]
    exact⟨fun h=>(by cases h),fun h=>absurd (within_iff.2 h.2.2.1) h3⟩
 ·rw[if_neg h1]
  exact⟨fun h=>(by cases h),fun h=>absurd h.1 h1⟩
theorem vs_iff{ks rs l:List AV}{fl:Int}{s:ST} :stE ks rs l fl s.t s.mo s.dn s.ha s.ba s.to s.dw s.up=0↔VS ks rs l fl s:=by
 unfold stE
 by_cases h1:Zab s.t 0 1000000000000=true
 ·rw[if_pos h1]
  have h1:=within_iff.1 h1
  by_cases h2:s.dn.length≤l.length∧(s.dw.length:Int)≤fl∧(s.up.length:Int)≤fl
  ·rw[if_pos h2]
   by_cases h3:ZcX rs ks l s.dn s.t s.dn.length 0=0
   ·rw[if_pos h3,ZmI]
    have h3:=(Zfk _ _).1 h3
    constructor
    ·rintro⟨a,b,c,d,e,f⟩
     exact⟨h1,h2,fun i hi=>h3 i (by omega) (by omega),a,b,c,d,downR_zero.1 e,upR_zero.1 f⟩
    ·intro h
     exact⟨h.mode,h.halt,h.base,h.told,downR_zero.2 h.down,upR_zero.2 h.up⟩
   ·rw[if_neg h3]
    exact⟨fun h=>absurd h h3,fun h=>absurd ((Zfk _ _).2 fun j _ hj=>h.done j (by omega)) h3⟩
  ·rw[if_neg h2]
   exact⟨fun h=>(by cases h),fun h=>absurd h.len h2⟩
 ·rw[if_neg h1]
  exact⟨fun h=>(by cases h),fun h=>absurd (within_iff.2 h.t) h1⟩
theorem ZdZ{xs:List AV}{x:AV}{i k:Nat}(h:i<xs.length):Zak (xs++[x]) i k=Zak xs i k:=by
 unfold Zak
 rw[List.getD_eq_getElem?_getD,List.getD_eq_getElem?_getD,Int.toNat_natCast,List.getElem?_append_left h]
theorem Zew{xs:List AV}{x:AV}{k:Nat} :Zak (xs++[x]) xs.length k=(x.cellAt k).toI:=by
 unfold Zak
 rw[List.getD_eq_getElem?_getD,Int.toNat_natCast,List.getElem?_append_right (Nat.le_refl _),Nat.sub_self];rfl
theorem Zn8{ks l dn:List AV}{x:AV}{i:Nat}(h:i≤dn.length):m0L ks l (dn++[x]) i=m0L ks l dn i:=by
 unfold m0L
 rw[←Zkg l (dn++[x]) dn.length i 0 _ (by omega),List.take_left]
theorem ZqP{ks rs l dn:List AV}{x:AV}{t:Int}{i:Nat}(h:i<dn.length)(hd:ZB4 ks rs l dn t i):ZB4 ks rs l (dn++[x]) t i:=by
 obtain⟨a,b,c,d⟩:=hd
 refine⟨by rw[ZdZ h];exact a,by rw[ZdZ h];exact b,fun hi=>by rw[ZdZ h,ZdZ (by omega)];exact c hi,by rw[ZdZ h,Zn8 (by omega)];exact d⟩
theorem Zmn{α:Type}{l:List α}{n:Int}{x:α}(h:x∈ZbV l n):x∈l:=by
 unfold ZbV at h
 rcases List.mem_append.1 h with h |h
 ·exact List.mem_of_mem_take h
 ·exact List.mem_of_mem_drop h
theorem Zmw{α:Type}(l:List α)(n:Int):(ZbV l n).length≤l.length:=by
 unfold ZbV
 simp only[List.length_append,List.length_take,List.length_drop];omega
theorem Zr8{ks rs l:List AV}{fl:Int}{s:ST}(h:VS ks rs l fl s):VS ks rs l fl (Zer fl s):=by
 unfold Zer ZAj
 split
 ·rename_i hu
  refine⟨h.t,⟨h.len.1,h.len.2.1,?_⟩,h.done,h.mode,h.halt,h.base,h.told,h.down,fun x hx=>?_⟩
  ·simp only[List.length_append,List.length_cons,List.length_nil];omega
  ·rcases List.mem_append.1 hx with hx |hx
   ·exact h.up x hx
   ·simp only[List.mem_singleton]at hx
    subst hx
    exact⟨⟨by simp[upV,AV.cellAt,AV.toI],by simp[upV,AV.cellAt,AV.toI]⟩,fun hb=>⟨by simpa[upV,AV.cellAt,AV.toB]using hb,by simp[upV,AV.cellAt,AV.toI]⟩⟩
 ·exact h
theorem Zx2{ks rs l:List AV}{fl:Int}{s:ST}(h:VS ks rs l fl s){a:Int}(ha:0≤a∧a≤(l.length:Int)-1):VS ks rs l fl (Zgc ks rs l s a):=by
 unfold Zgc
 split
 ·rename_i hc
  obtain⟨hc1,hc2⟩:=hc
  have hto:s.to=false:=by
   cases ht:s.to
   ·rfl
   ·have:=(h.told ht).1;rw[hc1]at this;cases this
  have hu:∀x∈s.up,(x.cellAt 1).toB=false:=fun x hx=>by
   cases hb:(x.cellAt 1).toB
   ·rfl
   ·have:=((h.up x hx).2 hb).1;rw[hc1]at this;cases this
  have hlt:s.dn.length<l.length:=by omega
  split
  ·rename_i hn
   refine⟨h.t,⟨?_,h.len.2⟩,fun i hi=>?_,?_,fun hh=>?_,⟨h.base.1,?_⟩,fun hh=>?_,h.down,fun x hx=>?_⟩
   ·simp only[List.length_append,List.length_cons,List.length_nil];omega
   ·simp only[List.length_append,List.length_cons,List.length_nil]at hi
    by_cases hi2:i<s.dn.length
    ·exact ZqP hi2 (h.done i hi2)
    ·obtain rfl:i=s.dn.length:=by omega
     refine⟨by rw[Zew];exact hc2.symm▸rfl,by rw[Zew];exact Int.le_refl _,fun h0=>?_,?_⟩
     ·rw[Zew,ZdZ (by omega)]
      exact(h.done (s.dn.length-1) (by omega)).2.1
     ·rw[Zew,Zn8 (Nat.le_refl _)]
      exact hn
   ·simp
   ·rw[show s.ha=true from hh]at hc1;cases hc1
   ·simp only[List.length_append,List.length_cons,List.length_nil];have:=h.base.2;omega
   ·rw[show s.to=true from hh]at hto;cases hto
   ·obtain⟨g1,_⟩:=h.up x hx
    refine⟨⟨g1.1,?_⟩,fun hb=>by rw[hu x hx]at hb;cases hb⟩
    simp only[List.length_append,List.length_cons,List.length_nil];omega
  ·exact⟨h.t,h.len,h.done,h.mode,fun _=>by show s.dn.length≠l.length;omega,h.base,fun hh=>(by rw[show s.to=true from hh]at hto;cases hto),h.down,fun x hx=>⟨(h.up x hx).1,fun hb=>by rw[hu x hx]at hb;cases hb⟩⟩
 ·exact h
theorem Zgb{α:Type}{xs:List α}{n:Nat}{d:α}(h:n<xs.length):xs.getD n d∈xs:=by
 rw[List.getD_eq_getElem?_getD,List.getElem?_eq_getElem h];exact List.getElem_mem h
theorem Zy3{ks rs l:List AV}{wn fl:Int}{s:ST}{k n:Int}(h:VS ks rs l fl s)(hv:evE k n=0)(he:ZbZ l wn fl s k n=0):VS ks rs l fl (appS ks rs l fl s k n):=by
 have hv0:Zab k 0 8=true:=by
  unfold evE at hv
  split at hv
  ·assumption
  ·cases hv
 unfold evE at hv
 rw[if_pos hv0]at hv
 unfold appS
 unfold ZbZ at he
 split
 ·rename_i h0
  rw[if_pos h0]at hv he
  have hv:=within_iff.1 (ZaD hv (by decide))
  have hn:s.t+n≤1000000000000:=by
   split at he
   ·cases he
   ·omega
  refine⟨⟨by show 0≤s.t+n;have:=h.t;omega,hn⟩,h.len,fun i hi=>?_,h.mode,h.halt,h.base,h.told,h.down,h.up⟩
  obtain⟨a,b,c,d⟩:=h.done i hi
  exact⟨a,by show Zak s.dn i 1≤s.t+n;omega,c,d⟩
 rename_i h0
 rw[if_neg h0]at hv he
 split
 ·rename_i h1
  rw[if_pos h1]at hv he
  have hv:=within_iff.1 (ZaD hv (by decide))
  split at he
  ·rename_i hl
   split at he
   ·cases he
   ·split at he
    ·split at he
     ·rename_i hd
      refine⟨h.t,⟨h.len.1,?_,h.len.2.2⟩,h.done,h.mode,h.halt,h.base,h.told,fun x hx=>?_,h.up⟩
      ·simp only[List.length_append,List.length_cons,List.length_nil];omega
      ·rcases List.mem_append.1 hx with hx |hx
       ·exact h.down x hx
       ·simp only[List.mem_singleton]at hx;subst hx;omega
     ·cases he
    ·cases he
  ·cases he
 rename_i h1
 rw[if_neg h1]at hv he
 have cutD:VS ks rs l fl { s with dw:=ZbV s.dw n } :=⟨h.t,⟨h.len.1,by have:=Zmw s.dw n;have:=h.len.2.1;show((ZbV s.dw n).length:Int)≤fl;omega,h.len.2.2⟩,h.done,h.mode,h.halt,h.base,h.told,fun x hx=>h.down x (Zmn hx),h.up⟩
 have cutU:∀x∈ZbV s.up n,x∈s.up:=fun x hx=>Zmn hx
 have cutUl:((ZbV s.up n).length:Int)≤fl:=by have:=Zmw s.up n;have:=h.len.2.2;omega
 have pos:Zab k 2 6=true→0≤n:=fun hk=>by
  rw[if_pos hk]at hv
  exact(within_iff.1 (ZaD hv (by decide))).1
 split
 ·rename_i h2
  rw[if_pos (.inl h2)]at he
  have hn0:=pos (within_iff.2 (by omega))
  split at he
  ·rename_i hd
   exact Zr8 (Zx2 cutD (h.down _ (Zgb (by omega))))
  ·cases he
 rename_i h2
 split
 ·rename_i h3
  rw[if_neg (by omega),if_pos (.inl h3)]at he
  have hn0:=pos (within_iff.2 (by omega))
  split at he
  ·rename_i hu
   have hlt:n.toNat<s.up.length:=by omega
   obtain⟨⟨g1,g2⟩,g3⟩:=h.up _ (Zgb (d:=.top) hlt)
   have e0:Zak s.up n 0=((s.up.getD n.toNat .top).cellAt 0).toI:=rfl
   have hb:=h.base
   refine⟨h.t,⟨h.len.1,h.len.2.1,cutUl⟩,h.done,h.mode,h.halt,?_,fun ht=>?_,h.down,fun x hx=>h.up x (cutU x hx)⟩
   ·show 0≤max s.ba (Zak s.up n 0)∧max s.ba (Zak s.up n 0)≤s.dn.length
    rw[e0];omega
   ·show s.ha=true∧max s.ba (Zak s.up n 0)=s.dn.length
    rw[e0]
    have ht:(s.to||((s.up.getD n.toNat .top).cellAt 1).toB)=true:=ht
    rw[Bool.or_eq_true]at ht
    rcases ht with ht |ht
    ·obtain⟨k1,k2⟩:=h.told ht
     exact⟨k1,by omega⟩
    ·obtain⟨k1,k2⟩:=g3 ht
     exact⟨k1,by omega⟩
  ·cases he
 rename_i h3
 split
 ·exact cutD
 rename_i h4
 split
 ·exact⟨h.t,⟨h.len.1,h.len.2.1,cutUl⟩,h.done,h.mode,h.halt,h.base,h.told,h.down,fun x hx=>h.up x (cutU x hx)⟩
 rename_i h5
 split
 ·rename_i h6
  rw[if_neg (by omega),if_neg (by omega),if_pos h6]at he
  have hn0:=pos (within_iff.2 (by omega))
  split at he
  ·split at he
   ·refine⟨h.t,⟨h.len.1,?_,h.len.2.2⟩,h.done,h.mode,h.halt,h.base,h.told,fun x hx=>?_,h.up⟩
    ·simp only[List.length_append,List.length_cons,List.length_nil];omega
    ·rcases List.mem_append.1 hx with hx |hx
     ·exact h.down x hx
     ·simp only[List.mem_singleton]at hx;subst hx;exact h.down _ (Zgb (by omega))
   ·cases he
  ·cases he
 split
 ·exact⟨h.t,h.len,h.done,h.mode,h.halt,⟨Int.le_refl 0,by show(0:Int)≤s.dn.length;omega⟩,fun ht=>(by cases ht),h.down,h.up⟩
 ·exact Zr8 h
end Go.Proofs.YtkeoeooghhjibaaGreatDoor
/- Contracts as a list. No condition. -/
namespace Go.Proofs.YtkeoeooghhjibaaGreatDoor
def st0:ST:=⟨0,0,[],false,0,false,[],[]⟩
def Zkv(ks rs l:List AV)(wn fl:Int)(s:ST)(k n:Int):ST:=if ZbZ l wn fl s k n=0 then appS ks rs l fl s k n else st0
structure OkA (ms ks rs l:List AV) (wn fl:Int) (s:ST) (k n:Int):Prop where
 u:upE ms ks rs l wn fl=0
 s:stE ks rs l fl s.t s.mo s.dn s.ha s.ba s.to s.dw s.up=0
 e:evE k n=0
theorem ev0{n:Int}(h:evE 0 n=0):1≤n∧n≤1000000000000:=by
 unfold evE at h
 rw[if_pos (by decide),if_pos rfl]at h
 exact within_iff.1 (ZaD h (by decide))
theorem ev1{n:Int}(h:evE 1 n=0):0≤n∧n≤11:=by
 unfold evE at h
 rw[if_pos (by decide),if_neg (by decide),if_pos rfl]at h
 exact within_iff.1 (ZaD h (by decide))
theorem ZBz{k n:Int}(hk:2≤k∧k≤6)(h:evE k n=0):0≤n∧n≤5:=by
 unfold evE at h
 rw[if_pos (within_iff.2 (by omega)),if_neg (by omega),if_neg (by omega),if_pos (within_iff.2 hk)]at h
 exact within_iff.1 (ZaD h (by decide))
theorem ZFH(x:Int):Wk (.tup [.agg (.gen [.int .i64 0, .int .i64 0, .nils, .bool false, .int .i64 0, .bool false, .nils, .nils]), .int .i64 x]) (.tup [.agg (.gen [.int .i64 (st0).t, .int .i64 (st0).mo, .list (.big (.agg [.int .i64, .int .i64]) (st0).dn), .bool (st0).ha, .int .i64 (st0).ba, .bool (st0).to, .list (.ints .i64 (st0).dw), .list (.big (.agg [.int .i64, .bool]) (st0).up)]), .int .i64 x]):=Wk.tup' ⟨Wk.agg' ⟨.same _, .same _, .nil _ rfl, .same _, .same _, .same _, .nil _ rfl, .nil _ rfl,trivial⟩, .same _,trivial⟩
def Zkq(s:ST)(e:Int):AV:=.tup [.agg (.gen [.int .i64 (s).t, .int .i64 (s).mo, .list (.big (.agg [.int .i64, .int .i64]) (s).dn), .bool (s).ha, .int .i64 (s).ba, .bool (s).to, .list (.ints .i64 (s).dw), .list (.big (.agg [.int .i64, .bool]) (s).up)]), .int .i64 e]
theorem Zby{ks rs l:List AV}{wn fl:Int}{s:ST}{k n e:Int}(h:ZbZ l wn fl s k n=e)(he:e≠0):Wk (.tup [.agg (.gen [.int .i64 0, .int .i64 0, .nils, .bool false, .int .i64 0, .bool false, .nils, .nils]), .int .i64 e]) (Zkq (Zkv ks rs l wn fl s k n) (ZbZ l wn fl s k n)):=by
 unfold Zkv
 rw[h,if_neg he]
 exact ZFH e
theorem Zbe{ks rs l:List AV}{wn fl:Int}{s s':ST}{k n:Int}(h:ZbZ l wn fl s k n=0)(hs:appS ks rs l fl s k n=s'):Wk (Zkq s' 0) (Zkq (Zkv ks rs l wn fl s k n) (ZbZ l wn fl s k n)):=by
 unfold Zkv
 rw[h,if_pos rfl,hs]
 exact .same _
theorem ZBy{α:Type}(xs:List α)(n:Int)(h0:0≤n)(h:n<xs.length):(n+1).toNat=n.toNat+1∧n.toNat<xs.length:=by omega
theorem Zxd(a:Int)(b:Bool):Row.len std (.gen [.int .i64 a, .bool b])=2:=rfl
theorem Zq7(a b:Int):Row.len std (.gen [.int .i64 a, .int .i64 b])=2:=rfl
theorem ZiB{ms ks rs l:List AV}{wn fl at0 mo:Int}{dn:List AV}{ha:Bool}{ba:Int}{to:Bool}{dw:List Int}{up:List AV}{k en:Int}(h:OkA ms ks rs l wn fl ⟨at0,mo,dn,ha,ba,to,dw,up⟩ k en):
 (l.length≤12∧dn.length≤l.length)∧(dw.length:Int)≤fl∧(up.length:Int)≤fl∧(1≤wn∧wn≤6)∧fl≤6∧(0≤at0∧at0≤1000000000000)∧(0≤ba∧ba≤dn.length)∧ks.length≤8:=by
 obtain⟨hf,hw,hfl⟩:=Zc7 h.u
 have hs:=vs_iff.1 h.s
 exact⟨⟨hf.l1.2,hs.len.1⟩,hs.len.2.1,hs.len.2.2,hw,hfl.2,hs.t,hs.base,hf.ks1.2⟩
section
variable (ms ks rs l:List AV)(wn fl:Int)(at0 mo:Int)(dn:List AV)(ha:Bool)(ba:Int)(to:Bool)(dw:List Int)(up:List AV)(en:Int)
end
end Go.Proofs.YtkeoeooghhjibaaGreatDoor
/- Contracts as a list. No condition. -/
namespace Go.Proofs.YtkeoeooghhjibaaGreatDoor
theorem Zlx(l dn:List AV):∀(m i:Nat) (xs:List Int),(Zlv l dn m i xs).length=xs.length
 |0,_,_=>rfl
 |m+1,i,xs=>by rw[Zlv,Zlx l dn m,List.length_set]
theorem ZuS(ks l dn:List AV)(i:Nat):(m0L ks l dn i).length=ks.length:=by unfold m0L;rw[Zlx,List.length_replicate]
theorem Zmv{ms ks rs l:List AV}(hf:OkF ms ks rs l){fl:Int}{s:ST}(hs:VS ks rs l fl s):∀i,i≤s.dn.length→OkT ks (m0T s.dn i) (m0L ks l s.dn i)
 |0,_=>ZFm ks l s.dn
 |i+1,h=>by
  obtain⟨_,b,c,d⟩:=hs.done i (by omega)
  have hw:Zab (Zak s.dn i 1) (Zak l i 1) (Zak l i 2)=true:=by
   unfold Zjd at d
   simp only[Bool.and_eq_true]at d
   exact d.1
  exact(okD hf s.dn (Zmv hf hs i (by omega)) hs.t.2 b c hw (by have:=hs.len.1;omega)).2
theorem ZBx{ks rs l:List AV}{fl:Int}{s:ST}(hs:VS ks rs l fl s):m0T s.dn s.dn.length≤s.t:=by
 cases h:s.dn.length with
 |zero=>exact hs.t.1
 |succ i=>exact(hs.done i (by omega)).2.1
section
variable {C:Ctx}(hC:C.P=Tryz.prog)(ms ks rs l:List AV)(wn fl:Int)(hf:OkF ms ks rs l){Q:List AFrame→Zac→Prop}{V:AV}(at0 mo:Int)(dn:List AV)(ha:Bool)(ba:Int)(to:Bool)(up:List AV)
include hC hf
end
theorem ZlP{ks rs l:List AV}{fl:Int}{s:ST}{a:Int}(h:¬(s.ha=false∧a=s.dn.length)):Zer fl (Zgc ks rs l s a)=Zer fl s:=by unfold Zgc;rw[if_neg h]
theorem Zi8{ks rs l:List AV}{fl:Int}{s:ST}{a:Int}(h:s.ha=false∧a=s.dn.length)(hn:Zpx ks rs l s=true):Zer fl (Zgc ks rs l s a)=Zer fl { s with dn:=s.dn++[dnV a s.t],mo:=m0A ks l (s.dn.length+1) } :=by unfold Zgc;rw[if_pos h,if_pos hn]
theorem Zoe{ks rs l:List AV}{fl:Int}{s:ST}{a:Int}(h:s.ha=false∧a=s.dn.length)(hn:¬Zpx ks rs l s=true):Zer fl (Zgc ks rs l s a)=Zer fl { s with ha:=true } :=by unfold Zgc;rw[if_pos h,if_neg hn]
theorem Zgn{fl:Int}{s:ST}(h:(s.up.length:Int)<fl):Zer fl s= { s with up:=s.up++[upV s.dn.length s.ha] } :=by unfold Zer ZAj;rw[if_pos h]
theorem ZjP{fl:Int}{s:ST}(h:¬(s.up.length:Int)<fl):Zer fl s=s:=by unfold Zer ZAj;rw[if_neg h]
def okA(ms ks rs l:List AV)(wn fl:Int)(s:ST)(k n:Int):Bool:=decide (upE ms ks rs l wn fl=0∧stE ks rs l fl s.t s.mo s.dn s.ha s.ba s.to s.dw s.up=0∧evE k n=0)
def Bp:List Ctr:=Bn
theorem ZEw:ZaE Tryz.prog Bp:=Zc2
end Go.Proofs.YtkeoeooghhjibaaGreatDoor
/- Contracts as a list. No condition. -/
namespace Go.Proofs.YtkeoeooghhjibaaGreatDoor
def Bq:List Ctr:=Bp
theorem ZD5:ZaE Tryz.prog Bq:=ZEw
end Go.Proofs.YtkeoeooghhjibaaGreatDoor
/- Contracts as a list. No condition. -/
namespace Go.Proofs.YtkeoeooghhjibaaGreatDoor
section
variable {C:Ctx}(hC:C.P=Tryz.prog)(ms ks rs l:List AV)(wn fl:Int)(at0 mo:Int)(dn:List AV)(ha:Bool)(ba:Int)(to:Bool)(dw:List Int)(up:List AV)(h1:upE ms ks rs l wn fl=0)(h2:stE ks rs l fl at0 mo dn ha ba to dw up=0)
include hC h1 h2
end
def Br:List Ctr:=Bq
theorem ZDb:ZaE Tryz.prog Br:=ZD5
end Go.Proofs.YtkeoeooghhjibaaGreatDoor
/- slices.Delete of one element, as the explorer prints it: in short. No condition. -/
namespace Go.Proofs.YtkeoeooghhjibaaGreatDoor
def dT(A:Ar)(dw:List Int)(en:Int):List Int:=(A.sub3 dw (A.nat (A.add en 1)) (A.len dw-A.nat (A.add en 1)))
def dW(A:Ar)(dw:List Int)(en:Int):List Int:=(A.app (A.app (A.sub3 dw 0 (A.nat en-0)) (dT A dw en)) (A.sub3 dw (A.nat en-0+A.len (dT A dw en)) (A.len dw)))
def dV(A:Ar)(dw:List Int)(en:Int):List Int:=(A.sub3 (dW A dw en) 0 (A.nat en-0+A.len (dT A dw en)))
def dR(A:Ar)(dw:List Int)(en:Int):List Int:=(A.rep (A.nat (A.int (A.len dw))-A.nat (A.int (A.len (dV A dw en)))) 0)
def dY(A:Ar)(dw:List Int)(en:Int):List Int:=(A.app (A.app (A.sub3 (dW A dw en) 0 (0+A.nat (A.int (A.len (dV A dw en))))) (dR A dw en)) (A.sub3 (dW A dw en) (0+A.nat (A.int (A.len (dV A dw en)))+A.len (dR A dw en)) (A.len (dW A dw en))))
def dX(A:Ar)(dw:List Int)(en:Int):List Int:=(A.sub3 (dY A dw en) 0 (A.nat en-0+A.len (dT A dw en)))
def dM(A:Ar)(dw:List Int)(en:Int):Nat:=max (A.nat en-0+A.len (dT A dw en)) (Row.len A (.ints .i64 (dW A dw en)))
def dJ(A:Ar)(dw:List Int)(en:Int):List Bool:=[Zah (Zah (A.le 0 en) (A.le 0 (A.add en 1))) (Zah (Zah (Nat.ble (A.nat en) (A.nat (A.add en 1))) (Nat.ble (A.nat (A.add en 1)) (A.len dw))) (Zah (A.le 0 (A.int (A.len dw))) (Zah (Nat.ble (A.nat (A.add en 1)) (A.nat (A.int (A.len dw)))) (Nat.ble (A.nat (A.int (A.len dw))) (A.len dw))))),A.inR .i64 (A.add en 1),Zah (Nat.blt (A.nat en) (A.len dw)) true,Zah (A.le 0 en) (Nat.blt (A.nat en) (A.len dw))]
def dK(A:Ar)(dw:List Int)(en:Int):List Bool:=[Zah (Nat.ble (A.nat en-0+A.len (dT A dw en)) (A.len (dY A dw en))) true,Nat.ble (0+A.nat (A.int (A.len (dV A dw en)))+(A.nat (A.int (A.len dw))-A.nat (A.int (A.len (dV A dw en))))) (A.len (dW A dw en)),Zah (Zah (A.le 0 (A.int (A.len (dV A dw en)))) (A.le 0 (A.int (A.len dw)))) (Zah (Zah (Nat.ble (A.nat (A.int (A.len (dV A dw en)))) (A.nat (A.int (A.len dw)))) (Nat.ble (A.nat (A.int (A.len dw))) (dM A dw en))) true),Nat.ble (0+(A.nat en-0+A.len (dT A dw en))) (A.len (dW A dw en)),Zah (Zah (Nat.ble (A.nat (A.add en 1)+(A.len dw-A.nat (A.add en 1))) (A.len dw)) true) (Zah (Nat.ble (A.nat en-0+A.len (dT A dw en)) (A.len dw)) (Nat.blt 0 (A.len dw))),Zah (Zah (A.le 0 (A.add en 1)) true) (Zah (Zah (Nat.ble (A.nat (A.add en 1)) (A.len dw)) (Nat.ble (A.len dw) (A.len dw))) true),Zah (A.le 0 en) (Zah (Zah (Nat.ble 0 (A.nat en)) (Nat.ble (A.nat en) (A.len dw))) true)]
def eT(A:Ar)(up:List AV)(en:Int):List AV:=(A.subA up (A.nat (A.add en 1)) (A.lenA up-A.nat (A.add en 1)))
def eW(A:Ar)(up:List AV)(en:Int):List AV:=(A.appA (A.appA (A.subA up 0 (A.nat en-0)) (eT A up en)) (A.subA up (A.nat en-0+A.lenA (eT A up en)) (A.lenA up)))
def eV(A:Ar)(up:List AV)(en:Int):List AV:=(A.subA (eW A up en) 0 (A.nat en-0+A.lenA (eT A up en)))
def eR(A:Ar)(up:List AV)(en:Int):List AV:=(A.repA (A.nat (A.int (A.lenA up))-A.nat (A.int (A.lenA (eV A up en)))) (AV.agg (Row.gen [AV.int .i64 0,AV.bool false])))
def eY(A:Ar)(up:List AV)(en:Int):List AV:=(A.appA (A.appA (A.subA (eW A up en) 0 (0+A.nat (A.int (A.lenA (eV A up en))))) (eR A up en)) (A.subA (eW A up en) (0+A.nat (A.int (A.lenA (eV A up en)))+A.lenA (eR A up en)) (A.lenA (eW A up en))))
def eX(A:Ar)(up:List AV)(en:Int):List AV:=(A.subA (eY A up en) 0 (A.nat en-0+A.lenA (eT A up en)))
def eM(A:Ar)(up:List AV)(en:Int):Nat:=max (A.nat en-0+A.lenA (eT A up en)) (Row.len A (Row.big (Sh.agg [Sh.int .i64,Sh.bool]) (eW A up en)))
def eJ(A:Ar)(up:List AV)(en:Int):List Bool:=[Zah (Zah (A.le 0 en) (A.le 0 (A.add en 1))) (Zah (Zah (Nat.ble (A.nat en) (A.nat (A.add en 1))) (Nat.ble (A.nat (A.add en 1)) (A.lenA up))) (Zah (A.le 0 (A.int (A.lenA up))) (Zah (Nat.ble (A.nat (A.add en 1)) (A.nat (A.int (A.lenA up)))) (Nat.ble (A.nat (A.int (A.lenA up))) (A.lenA up))))),A.inR .i64 (A.add en 1),Zah (Nat.blt (A.nat en) (A.lenA up)) true,Zah (A.le 0 en) (Nat.blt (A.nat en) (A.lenA up))]
def eK(A:Ar)(up:List AV)(en:Int):List Bool:=[Zah (Nat.ble (A.nat en-0+A.lenA (eT A up en)) (A.lenA (eY A up en))) true,Nat.ble (0+A.nat (A.int (A.lenA (eV A up en)))+(A.nat (A.int (A.lenA up))-A.nat (A.int (A.lenA (eV A up en))))) (A.lenA (eW A up en)),Zah (Zah (A.le 0 (A.int (A.lenA (eV A up en)))) (A.le 0 (A.int (A.lenA up)))) (Zah (Zah (Nat.ble (A.nat (A.int (A.lenA (eV A up en)))) (A.nat (A.int (A.lenA up)))) (Nat.ble (A.nat (A.int (A.lenA up))) (eM A up en))) true),Nat.ble (0+(A.nat en-0+A.lenA (eT A up en))) (A.lenA (eW A up en)),Zah (Zah (Nat.ble (A.nat (A.add en 1)+(A.lenA up-A.nat (A.add en 1))) (A.lenA up)) true) (Zah (Nat.ble (A.nat en-0+A.lenA (eT A up en)) (A.lenA up)) (Nat.blt 0 (A.lenA up))),Zah (Zah (A.le 0 (A.add en 1)) true) (Zah (Zah (Nat.ble (A.nat (A.add en 1)) (A.lenA up)) (Nat.ble (A.lenA up) (A.lenA up))) true),Zah (A.le 0 en) (Zah (Zah (Nat.ble 0 (A.nat en)) (Nat.ble (A.nat en) (A.lenA up))) true)]
theorem Zog{dw:List Int}{i:Nat} :dT std dw i=dw.drop (i+1):=by
 have e:((i:Int)+1).toNat=i+1:=by omega
 simp only[dT,ZjS,ZoZ,Zhn,ZBU,e]
 exact List.take_of_length_le (by simp)
section
variable {dw:List Int}{i:Nat}(h:i<dw.length)
include h
theorem ZvI:dW std dw i=ZbV dw i++dw.drop (dw.length-1):=by
 have e2:i-0+(dw.length-(i+1))=dw.length-1:=by omega
 simp only[dW,Zog,Zz0,ZjS,ZoZ,Zhn,Int.toNat_natCast,List.length_drop,List.drop_zero,e2,ZbV]
 rw[List.take_of_length_le (l:=dw.drop (dw.length-1)) (by simp)];rfl
theorem Zez:(ZbV dw (i:Int)).length=dw.length-1:=by simp[ZbV];omega
theorem Zl8:(dW std dw i).length=dw.length:=by rw[ZvI h,List.length_append,Zez h,List.length_drop];omega
theorem ZrN:dV std dw i=ZbV dw i:=by
 have e2:i-0+(dw.length-(i+1))=dw.length-1:=by omega
 simp only[dV,Zog,ZvI h,ZjS,ZoZ,Zhn,Int.toNat_natCast,List.length_drop,List.drop_zero,e2]
 rw[←Zez h];exact List.take_left
theorem ZsQ:(dR std dw i).length=1:=by
 simp[dR,ZrN h,Zez h];omega
theorem ZAO:∃zs,dY std dw i=ZbV dw i++zs∧zs.length=1:=by
 have e:List.take (dw.length-1) (ZbV dw (i:Int)++dw.drop (dw.length-1))=ZbV dw i:=by rw[←Zez h];exact List.take_left
 refine⟨dR std dw i++((dW std dw i).drop (0+std.nat (std.int (std.len (dV std dw i)))+std.len (dR std dw i))).take (std.len (dW std dw i)),?_,?_⟩
 ·simp only[dY,Zz0,ZjS]
  rw[←List.append_assoc]
  congr 2
  simp[ZrN h,Zez h,ZvI h,e]
 ·have:=Zl8 h
  have:=ZsQ h
  simp[ZrN h,Zez h,Zl8 h,ZsQ h]
  omega
theorem Zy6:(dY std dw i).length=dw.length:=by
 obtain⟨zs,e,hz⟩:=ZAO h
 rw[e,List.length_append,Zez h];omega
theorem ZAy:dX std dw i=ZbV dw i:=by
 obtain⟨zs,e,hz⟩:=ZAO h
 have e2:i-0+(dw.length-(i+1))=dw.length-1:=by omega
 simp only[dX,Zog,ZjS,ZoZ,Zhn,Int.toNat_natCast,List.length_drop,List.drop_zero,e2,e]
 rw[←Zez h];exact List.take_left
theorem ZC4:dM std dw i=dw.length:=by
 have:Row.len std (.ints .i64 (dW std dw i))=dw.length:=Zl8 h
 simp only[dM,this,Zog,ZoZ,Zhn,Int.toNat_natCast,List.length_drop]
 omega
theorem Zzg(hl:dw.length≤1000000)(t:Prop):rB (dJ std dw i) t=t:=by
 have e:((i:Int)+1).toNat=i+1:=by omega
 simp[dJ,e]
 intro _;omega
theorem ZAk(hl:dw.length≤1000000)(t:Prop):rB (dK std dw i) t=t:=by
 have e:((i:Int)+1).toNat=i+1:=by omega
 simp[dK,e,ZC4 h,Zog,Zl8 h,ZrN h,Zez h,Zy6 h]
 intro _;omega
end
theorem Zg8{dw:List Int}{en:Int}(h0:0≤en)(h:en<dw.length):dX std dw en=ZbV dw en:=by
 obtain⟨i,rfl⟩:∃i:Nat,en=i:=⟨en.toNat,by omega⟩
 exact ZAy (by omega)
theorem ZDc{dw:List Int}{en:Int}(h0:0≤en)(h:en<dw.length)(hl:dw.length≤1000000)(t:Prop):rB (dJ std dw en) t=t:=by
 obtain⟨i,rfl⟩:∃i:Nat,en=i:=⟨en.toNat,by omega⟩
 exact Zzg (by omega) hl t
theorem ZEP{dw:List Int}{en:Int}(h0:0≤en)(h:en<dw.length)(hl:dw.length≤1000000)(t:Prop):rB (dK std dw en) t=t:=by
 obtain⟨i,rfl⟩:∃i:Nat,en=i:=⟨en.toNat,by omega⟩
 exact ZAk (by omega) hl t
theorem Zdp{dw:List Int}{en:Int}(h0:0≤en)(h:en<dw.length)(hl:dw.length≤1000000):AllT (dJ std dw en):=by
 have:=ZDc h0 h hl True
 rw[ZoR]at this
 exact(of_eq_true this).1
theorem Zde{dw:List Int}{en:Int}(h0:0≤en)(h:en<dw.length)(hl:dw.length≤1000000):AllT (dK std dw en):=by
 have:=ZEP h0 h hl True
 rw[ZoR]at this
 exact(of_eq_true this).1
theorem ZnU{up:List AV}{i:Nat} :eT std up i=up.drop (i+1):=by
 have e:((i:Int)+1).toNat=i+1:=by omega
 simp only[eT,Zjx,Zcn,Zhn,ZBU,e]
 exact List.take_of_length_le (by simp)
section
variable {up:List AV}{i:Nat}(h:i<up.length)
include h
theorem ZtS:eW std up i=ZbV up i++up.drop (up.length-1):=by
 have e2:i-0+(up.length-(i+1))=up.length-1:=by omega
 simp only[eW,ZnU,ZsM,Zjx,Zcn,Zhn,Int.toNat_natCast,List.length_drop,List.drop_zero,e2,ZbV]
 rw[List.take_of_length_le (l:=up.drop (up.length-1)) (by simp)];rfl
theorem ZeP:(ZbV up (i:Int)).length=up.length-1:=by simp[ZbV];omega
theorem ZlJ:(eW std up i).length=up.length:=by rw[ZtS h,List.length_append,ZeP h,List.length_drop];omega
theorem Zro:eV std up i=ZbV up i:=by
 have e2:i-0+(up.length-(i+1))=up.length-1:=by omega
 simp only[eV,ZnU,ZtS h,Zjx,Zcn,Zhn,Int.toNat_natCast,List.length_drop,List.drop_zero,e2]
 rw[←ZeP h];exact List.take_left
theorem ZsN:(eR std up i).length=1:=by
 simp[eR,Zro h,ZeP h];omega
theorem ZAT:∃zs,eY std up i=ZbV up i++zs∧zs.length=1:=by
 have e:List.take (up.length-1) (ZbV up (i:Int)++up.drop (up.length-1))=ZbV up i:=by rw[←ZeP h];exact List.take_left
 refine⟨eR std up i++((eW std up i).drop (0+std.nat (std.int (std.lenA (eV std up i)))+std.lenA (eR std up i))).take (std.lenA (eW std up i)),?_,?_⟩
 ·simp only[eY,ZsM,Zjx]
  rw[←List.append_assoc]
  congr 2
  simp[Zro h,ZeP h,ZtS h,e]
 ·have:=ZlJ h
  have:=ZsN h
  simp[Zro h,ZeP h,ZlJ h,ZsN h]
  omega
theorem Zyn:(eY std up i).length=up.length:=by
 obtain⟨zs,e,hz⟩:=ZAT h
 rw[e,List.length_append,ZeP h];omega
theorem Zzw:eX std up i=ZbV up i:=by
 obtain⟨zs,e,hz⟩:=ZAT h
 have e2:i-0+(up.length-(i+1))=up.length-1:=by omega
 simp only[eX,ZnU,Zjx,Zcn,Zhn,Int.toNat_natCast,List.length_drop,List.drop_zero,e2,e]
 rw[←ZeP h];exact List.take_left
theorem ZCD:eM std up i=up.length:=by
 have:Row.len std (.big (.agg [.int .i64, .bool]) (eW std up i))=up.length:=ZlJ h
 simp only[eM,this,ZnU,Zcn,Zhn,Int.toNat_natCast,List.length_drop]
 omega
theorem ZyB(hl:up.length≤1000000)(t:Prop):rB (eJ std up i) t=t:=by
 have e:((i:Int)+1).toNat=i+1:=by omega
 simp[eJ,e]
 intro _;omega
theorem Zxx(hl:up.length≤1000000)(t:Prop):rB (eK std up i) t=t:=by
 have e:((i:Int)+1).toNat=i+1:=by omega
 simp[eK,e,ZCD h,ZnU,ZlJ h,Zro h,ZeP h,Zyn h]
 intro _;omega
end
theorem ZvC{up:List AV}{en:Int}(h0:0≤en)(h:en<up.length):eX std up en=ZbV up en:=by
 obtain⟨i,rfl⟩:∃i:Nat,en=i:=⟨en.toNat,by omega⟩
 exact Zzw (by omega)
theorem ZEL{up:List AV}{en:Int}(h0:0≤en)(h:en<up.length)(hl:up.length≤1000000)(t:Prop):rB (eJ std up en) t=t:=by
 obtain⟨i,rfl⟩:∃i:Nat,en=i:=⟨en.toNat,by omega⟩
 exact ZyB (by omega) hl t
theorem ZC2{up:List AV}{en:Int}(h0:0≤en)(h:en<up.length)(hl:up.length≤1000000)(t:Prop):rB (eK std up en) t=t:=by
 obtain⟨i,rfl⟩:∃i:Nat,en=i:=⟨en.toNat,by omega⟩
 exact Zxx (by omega) hl t
theorem Zop{up:List AV}{en:Int}(h0:0≤en)(h:en<up.length)(hl:up.length≤1000000):AllT (eJ std up en):=by
 have:=ZEL h0 h hl True
 rw[ZoR]at this
 exact(of_eq_true this).1
theorem ZpQ{up:List AV}{en:Int}(h0:0≤en)(h:en<up.length)(hl:up.length≤1000000):AllT (eK std up en):=by
 have:=ZC2 h0 h hl True
 rw[ZoR]at this
 exact(of_eq_true this).1
end Go.Proofs.YtkeoeooghhjibaaGreatDoor
