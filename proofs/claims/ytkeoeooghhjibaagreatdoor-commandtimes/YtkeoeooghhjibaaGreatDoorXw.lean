/- Runs of the machine; a contract out of a run. No condition. -/
import Derived.Test.YtkeoeooghhjibaaGreatDoorXs
namespace Go.Proofs.YtkeoeooghhjibaaGreatDoor
open Go.RowKit (Below)
def Zth(f:AFrame):Bool:=
 match f.ret with
 |true=>false
 |false=>match f.todo with
  |it::_=>(match it with
   | .code c=>(match c with | .gh gs _=>(match gs with |[]=>true |_=>false) |_=>false)
   |_=>false)
  |[]=>false
abbrev ASt:=List Bool×AFrame×List AFrame×Zab
def ZCO(A:Ar)(T:Tab)(K:Con)(stop:Bool):Nat→List Bool→AFrame→List AFrame→Zab→ASt
 |0,acc,f,fs,h=>(acc,f,fs,h)
 |n+1,acc,f,fs,h=>match Zge A T K acc f fs h with
  |none=>(acc,f,fs,h)
  |some (acc',f',fs',h')=>match stop with
   |false=>ZCO A T K stop n acc' f' fs' h'
   |true=>match Zth f with
    |true=>(acc',f',fs',h')
    |false=>ZCO A T K stop n acc' f' fs' h'
section
variable {C:Ctx}{T:Tab}{K:Con}{h h':Zab}{f f':AFrame}{fs fs':List AFrame}{k:List AItem}{Q:List AFrame→Zab→Prop}{acc acc':List Bool}
def Zyc:List AV→Option (Nat×Nat)
 |[]=>none
 | .row a i::_=>some (a,i)
 |_::xs=>Zyc xs
def ZmC(a i:Nat):AV→AV
 | .row b j=>match Nat.beq b a with |true=>(match Nat.beq j i with |true=>.row 0 0 |false=>.top) |false=>.top
 |v=>v
def ZlW(h:Zab)(p:Nat×Nat)(v:AV):Option (AV×Option Fresh):=
 match blk h p.1 p.2 with
 | .row e sz r=>(match r.pure with
   |true=>(match ZpF v with |true=>some (v,some ⟨e,sz,r⟩) |false=>none)
   |false=>none)
 |_=>none
def ZlA(p:Nat×Nat):List AV→Bool
 |[]=>true
 | .row a i::xs=>match Nat.beq a p.1 with |true=>(match Nat.beq i p.2 with |true=>ZlA p xs |false=>false) |false=>false
 |_::xs=>ZlA p xs
def Zlf(h:Zab):AV→Option (AV×Option Fresh)
 | .tup xs=>match Zyc xs with
   |none=>(match AV.pureL xs with |true=>some (.tup xs,none) |false=>none)
   |some p=>match ZlA p xs with |true=>ZlW h p (.tup (xs.map (ZmC p.1 p.2))) |false=>none
 | .row a i=>ZlW h (a,i) (.row 0 0)
 |v=>match v.pure with |true=>some (v,none) |false=>none
def ZrE:AV→Bool
 | .slc .. =>false
 | .aslc .. =>false
 | .ptr .. =>false
 | .fn .. =>false
 |_=>true
def Zr4:AV→Bool
 | .tup xs=>xs.all ZrE
 |v=>ZrE v
def Zw6(h:Zab):AV→Option (AV×Option Fresh)
 | .tup xs=>match Zjs std (Zby std h 4) xs with |some (b,ys)=>(match b with |true=>some (.tup ys,none) |false=>none) |none=>none
 |v=>match Zby std h 4 v with |some (b,u)=>(match b with |true=>some (u,none) |false=>none) |none=>none
def ZeZ(h:Zab)(v:AV):Option (AV×Option Fresh):=
 match Zlf h v with
 |some r=>some r
 |none=>match Zr4 v with |true=>Zw6 h v |false=>none
theorem HRel.nil{L L':Lay}{w:World}(H:HRel C h L w):HRel C [] L' w:=
 ⟨H.below,fun _ _ ht=>absurd rfl ht,fun _ _=>trivial,fun _ _ _ _ ht=>absurd rfl ht,fun _ _ ht=>absurd rfl ht,H.low,H.base⟩
theorem ZbD(f:Fresh)(a i:Nat):blk (Zax (some f)) a i=if a=0∧i=0 then .row f.e f.sz f.r else .dead:=by
 by_cases ha:a=0
 ·subst ha
  by_cases hi:i=0
  ·subst hi;rfl
  ·rw[if_neg (by simp[hi])]
   exact ZkD (by show 0+1≤i;omega)
 ·rw[if_neg (by simp[ha])]
  have:ZaL (Zax (some f)) a=none:=by
   have hb:Nat.beq 0 a=false:=by cases hb:Nat.beq 0 a with |false=>rfl |true=>exact absurd (Nat.eq_of_beq_eq_true hb).symm ha
   simp[Zax,ZaL,hb]
  unfold blk fam
  rw[this]
  exact ZkD (h:=[]) (a:=0) (Nat.zero_le _)
theorem ZoW{L:Lay}{w:World}(H:HRel C h L w){a i e sz:Nat}{r:Row}(hb:blk h a i=.row e sz r)(hp:r.pure=true):∃L',HRel C (Zax (some ⟨e,sz,r⟩)) L' w∧(∀g,Zaw C h L g→Zaw C (Zax (some ⟨e,sz,r⟩)) L' g)∧
 ∀x,ZaC C h L w (.row a i) x→ZaC C (Zax (some ⟨e,sz,r⟩)) L' w (.row 0 0) x:=by
 obtain⟨ht,h0,h1,h2,h3,cur,h4,h5,h6,h7,h8⟩:=H.rowAt hb
 refine⟨⟨fun _ _=>L.loc a i,fun _ _=>L.size a i⟩,?_,?_,?_⟩
 ·have hok:∀g,Zaw C h L g→Zaw C (Zax (some ⟨e,sz,r⟩)) ⟨fun _ _=>L.loc a i,fun _ _=>L.size a i⟩ g:=fun g ho=>by
   rcases ho with ho |⟨q1,q2⟩
   ·exact .inl ho
   ·exact .inr ⟨q1,fun b j _=>q2 a i (by rw[ht];simp)⟩
  refine⟨H.below,fun b j _=>H.live a i (by rw[ht];simp),fun b j=>?_,fun b j c k hb1 hb2 _=>?_,fun b j hb1=>?_,H.low,H.base⟩
  rotate_right
  ·rw[ZbD]at hb1
   split at hb1
   ·rename_i e1
    rcases H.home a i (by rw[ht];simp)with h9 |⟨_,_,h9⟩
    ·exact .inl h9
    ·exact .inr ⟨e1.1,e1.2,h9⟩
   ·exact absurd rfl hb1
  ·rw[ZbD]
   split
   ·exact⟨h0,h1,h2,h3,cur,h4,h5,⟨h6.1,fun j u v hu hv=>((h6.2 j u v hu hv).okmono (fun g _ ho=>hok g ho)).pure (AV.pureL_mem (Za1 hp) hu)⟩,h7⟩
   ·trivial
  ·rw[ZbD]at hb1 hb2
   split at hb1
   ·split at hb2
    ·rename_i e1 e2;exact⟨e1.1.trans e2.1.symm,e1.2.trans e2.2.symm⟩
    ·exact absurd rfl hb2
   ·exact absurd rfl hb1
 ·intro g ho
  rcases ho with ho |⟨q1,q2⟩
  ·exact .inl ho
  ·exact .inr ⟨q1,fun b j _=>q2 a i (by rw[ht];simp)⟩
 ·intro x hx
  cases hx with
  |row _ _ g o n c hn hl=>
   have:=hl.2 _ ht
   refine .row 0 0 g o n c hn ⟨by show 0<0+1;omega,fun sz' hsz'=>?_⟩
   rw[ZbD]at hsz'
   simp only[and_self,if_true,Blk.tag,Option.some.injEq]at hsz'
   subst hsz'
   exact this
theorem Zop{L L':Lay}{w:World}{a i:Nat}{h2:Zab}(hok:∀g,Zaw C h L g→Zaw C h2 L' g)(hrow:∀x,ZaC C h L w (.row a i) x→ZaC C h2 L' w (.row 0 0) x){v:AV}{x:Value}(hr:ZaC C h L w v x)(hp:Zk5 (ZmC a i v)=true):ZaC C h2 L' w (ZmC a i v) x:=by
 have base:∀ {v:AV},ZaC C h L w v x→v.pure=true→ZaC C h2 L' w v x:=fun hr hp=>(hr.okmono (fun g _ ho=>hok g ho)).pure hp
 unfold ZmC at hp⊢
 split
 ·rename_i b j
  split
  ·rename_i hba
   split
   ·rename_i hji
    have:=Nat.eq_of_beq_eq_true hba
    have:=Nat.eq_of_beq_eq_true hji
    subst b;subst j
    exact hrow x hr
   ·exact .top _
  ·exact .top _
 ·rename_i hne
  have hpp:v.pure=true:=by
   cases v<;>first |exact hp |exact absurd rfl (hne _ _)
  exact base hr hpp
theorem Zi2{L:Lay}{w:World}(H:HRel C h L w){v r:AV}{fr:Option Fresh}{x:Value}(hr:ZaC C h L w v x)(he:Zlf h v=some (r,fr)):∃L',HRel C (Zax fr) L' w∧ZaC C (Zax fr) L' w r x:=by
 have base:∀ {v:AV},ZaC C h L w v x→v.pure=true→∃L',HRel C (Zax none) L' w∧ZaC C (Zax none) L' w v x:=fun hr hp=>⟨L,H.nil,(hr.okmono (fun g _ ho=>ZeK ho)).pure hp⟩
 unfold Zlf at he
 split at he
 ·rename_i xs
  split at he
  ·split at he
   ·rename_i hp
    cases he
    exact base hr (by simpa[AV.pure]using hp)
   ·cases he
  ·rename_i p hp
   split at he
   case h_2=>cases he
   unfold ZlW at he
   split at he
   ·rename_i e sz rr hb
    split at he
    ·rename_i hrp
     split at he
     ·rename_i hpt
      cases he
      obtain⟨L',H',hok,hrow⟩:=ZoW H hb hrp
      refine⟨L',H',?_⟩
      cases hr with
      |tup _ vs hl hh=>
       refine .tup _ vs (by simpa using hl) (fun j u v hu hv=>?_)
       rw[List.getElem?_map]at hu
       cases hx:xs[j]? with
       |none=>rw[hx]at hu;cases hu
       |some u0=>
        rw[hx]at hu
        simp only[Option.map_some,Option.some.injEq]at hu
        subst hu
        refine Zop hok hrow (hh j u0 v hx hv) ?_
        simp only[ZpF,List.all_eq_true,List.mem_map,forall_exists_index,and_imp,forall_apply_eq_imp_iff₂]at hpt
        exact hpt u0 (List.mem_of_getElem? hx)
     ·cases he
    ·cases he
   ·cases he
 ·rename_i a i
  unfold ZlW at he
  split at he
  ·rename_i e sz rr hb
   split at he
   ·rename_i hrp
    split at he
    ·cases he
     obtain⟨L',H',hok,hrow⟩:=ZoW H hb hrp
     exact⟨L',H',hrow x hr⟩
    ·cases he
   ·cases he
  ·cases he
 ·split at he
  ·rename_i hp;cases he;exact base hr hp
  ·cases he
theorem ZdF{L:Lay}{w:World}(H:HRel C h L w){v r:AV}{fr:Option Fresh}{x:Value}(hr:ZaC C h L w v x)(he:ZeZ h v=some (r,fr)):∃L',HRel C (Zax fr) L' w∧ZaC C (Zax fr) L' w r x:=by
 unfold ZeZ at he
 split at he
 ·rename_i q hq
  cases he
  exact Zi2 H hr hq
 ·rename_i hnone
  clear hnone
  generalize Zr4 v=ww at he
  cases ww
  case false=>cases he
  dsimp only at he
  unfold Zw6 at he
  split at he
  ·rename_i xs
   split at he
   ·rename_i b ys hm
    split at he
    ·cases he
     refine⟨L,H.nil,?_⟩
     cases hr with
     |tup _ vs hl hh=>
      obtain⟨g1,g2⟩:=ZcL hm
      refine .tup _ vs (by rw[←g1];exact hl) (fun j u v hu hv=>?_)
      have hlt:j<xs.length:=by rw[g1];exact(List.getElem?_eq_some_iff.1 hu).1
      exact ZeD H 4 _ _ _ (hh j _ v (List.getElem?_eq_getElem hlt) hv) (g2 j _ u (List.getElem?_eq_getElem hlt) hu)
    ·cases he
   ·cases he
  ·split at he
   ·rename_i b u hm
    split at he
    ·cases he
     exact⟨L,H.nil,ZeD H 4 _ _ _ hr hm⟩
    ·cases he
   ·cases he
def ZoK(A:Ar)(h:Zab):AV→Bool×AV
 | .slc a i k n c=>match Nat.beq k 0,c with
   |true,none=>(match blk h a i with | .row _ _ r=>(Nat.beq n (r.len A), .row a i) |_=>(true, .slc a i k n none))
   |_,c=>(true, .slc a i k n c)
 |v=>(true,v)
def ZbU(A:Ar)(h:Zab):List AV→Bool×List AV
 |[]=>(true,[])
 |v::vs=>match ZoK A h v,ZbU A h vs with |(b,u),(c,us)=>(Zaf b c,u::us)
def ZkX(A:Ar)(env:List (Nat×AV))(h:Zab)(rs:List ARes):Option (Bool×List AV):=
 match Zei A env h rs with
 |some (b,vs)=>match ZbU A h vs with |(c,us)=>some (Zaf b c,us)
 |none=>none
theorem ZmH{L:Lay}{w:World}(H:HRel C h L w){v u:AV}{x:Value}(hw:ZoK std h v=(true,u))(hr:ZaC C h L w v x):ZaC C h L w u x:=by
 unfold ZoK at hw
 split at hw
 ·rename_i a i k n c
  split at hw
  ·rename_i hk
   have hk:=Nat.eq_of_beq_eq_true hk
   subst hk
   split at hw
   ·rename_i e sz r hb
    simp only[Prod.mk.injEq]at hw
    obtain⟨hn,rfl⟩:=hw
    have hn:n=r.elems.length:=by rw[Row.len_std]at hn;simpa[std]using hn
    have htg:=H.tagAt hb
    cases hr with
    |slc _ _ _ _ _ g o c hnc hl=>
     rcases hl.2 _ htg with⟨hne,_⟩ |⟨rfl,rfl,hc1,hc2⟩
     ·exact absurd rfl hne
     ·refine .row a i _ _ n c hnc ⟨hl.1,fun s hs=>?_⟩
      rw[htg]at hs
      cases hs
      exact⟨rfl,by simp,hn,by simpa using hc2⟩
   ·cases hw;exact hr
  ·cases hw;exact hr
 ·cases hw;exact hr
theorem Zfw{L:Lay}{w:World}(H:HRel C h L w):∀ {vs us:List AV} {xs:List Value},ZbU std h vs=(true,us)→RelL w (Zaw C h L) h L vs xs→RelL w (Zaw C h L) h L us xs
 |[],us,xs,hw,hr=>by
  simp only[ZbU,Prod.mk.injEq]at hw
  rw[←hw.2];exact hr
 |v::vs,us,xs,hw,hr=>by
  simp only[ZbU,Prod.mk.injEq,std_and]at hw
  obtain⟨⟨h1,h2⟩,rfl⟩:=hw
  cases xs with
  |nil=>have:=hr.1;simp at this
  |cons x xs=>
   refine RelL.cons (ZmH H (v:=v) (by rw[←h1]) (hr.2 0 v x rfl rfl)) (Zfw H (vs:=vs) (by rw[←h2]) ⟨by have:=hr.1;simpa using this,fun j a b ha hb=>hr.2 (j+1) a b (by simpa using ha) (by simpa using hb)⟩)
theorem ZhF(h:Zab):∀ {vs us:List AV} {b:Bool},ZbU std h vs=(b,us)→us.length=vs.length
 |[],us,b,hw=>by
  simp only[ZbU,Prod.mk.injEq]at hw
  rw[←hw.2]
 |v::vs,us,b,hw=>by
  simp only[ZbU,Prod.mk.injEq]at hw
  rw[←hw.2,List.length_cons,List.length_cons,ZhF h (vs:=vs) rfl]
theorem Ze3{L:Lay}{w:World}(H:HRel C h L w){vs us:List AV}{x:Value}(hw:ZbU std h vs=(true,us))(hr:ZaC C h L w (Ze6 vs) x):ZaC C h L w (Ze6 us) x:=by
 have hl:=ZhF h hw
 have tup:∀ {vs us:List AV},ZbU std h vs=(true,us)→us.length=vs.length→ZaC C h L w (.tup vs) x→ZaC C h L w (.tup us) x:=fun hw hl hr=>by
  cases hr with
  |tup _ xs h1 h2=>
   have:=Zfw H hw (xs:=xs.toList) ⟨by simpa using h1,fun j u v hu hv=>h2 j u v hu (by simpa using hv)⟩
   exact .tup _ xs (by rw[hl];exact h1) (fun j u v hu hv=>this.2 j u v hu (by simpa using hv))
 match vs,us,hl with
 |[],[],_=>exact hr
 |[v],[u],_=>
  have:=Zfw H hw (xs:=[x]) (RelL.cons hr RelL.nil)
  exact this.2 0 u x rfl rfl
 |v::v2::vs,u::u2::us,hl=>exact tup hw hl hr
def Zb3(f:FuncId)(r:AV)(fr:Option Fresh)(fs:List AFrame)(h:Zab):Prop:=
 ∃g vs,fs=[g]∧g.fn=f∧g.ret=true∧g.rnd=none∧g.defs=[]∧ZkX std g.env h g.res=some (true,vs)∧ZeZ h (Ze6 vs)=some (r,fr)
theorem Zfe{P:Program}{T:Tab}(hT:Zbu P T){f:FuncId}{args:List AV}{af:AFrame}{r:AV}{fr:Option Fresh}(he:Zat T f args=some af)
 (hq:∀w okA cs,Ev (Ctx.of P w okA cs) [af] [] (Zb3 f r fr)):Zan P f args r fr:=by
 intro w okA L vs hargs hok cs
 have H0:HRel (Ctx.of P w okA cs) [] L w:=⟨Below.refl _ _,fun _ _ ht=>absurd rfl ht,fun _ _=>trivial,fun _ _ _ _ ht=>absurd rfl ht,fun _ _ ht=>absurd rfl ht,fun _ _ _=>rfl,Nat.le_refl _⟩
 obtain⟨hfr,_⟩:=ZdH (C:=(Ctx.of P w okA cs)) (h:=[]) (L:=L) (w:=w) hT he (by
  refine⟨hargs.1,fun j u v hu hv=>(hargs.2 j u v hu hv).okmono (fun g hg ho=>.inl ⟨hok g ho,ho⟩)⟩)
 obtain⟨fs',h',L',fr',cs',w',⟨g,us,rfl,hfn,hret,hrnd,hdefs,hc,hex⟩,_,hf',H',hst,_⟩:=hq w okA cs L _ cs w (.cons hfr .base) H0 (by simp)
 cases hf' with
 |cons hf' hk=>
  cases hk
  obtain⟨fn,hfn',hmr⟩:=hf'.res hrnd
  obtain⟨vs0,hc0,hwl⟩:∃vs0,Zei std g.env h' g.res=some (true,vs0)∧ZbU std h' vs0=(true,us):=by
   unfold ZkX at hc
   split at hc
   ·rename_i b vs hq
    generalize hz:ZbU std h' vs=z at hc
    obtain⟨c,us'⟩:=z
    simp only[Option.some.injEq,Prod.mk.injEq,std_and]at hc
    obtain⟨⟨rfl,rfl⟩,rfl⟩:=hc
    exact⟨vs,hq,hz⟩
   ·cases hc
  obtain⟨x,e1,e2⟩:=ZcV H' hf'.env hmr hc0
  replace e2:=Ze3 H' hwl e2
  obtain⟨L2,H2,r2⟩:=ZdF H' e2 hex
  have hnew:Zgj fr=false:=by
   cases fr with
   |none=>rfl
   |some f=>
    have hbr:=H2.blks 0 0
    rw[show blk (Zax (some f)) 0 0=.row f.e f.sz f.r from rfl]at hbr
    have:=hbr.1
    show Nat.beq f.sz 0=false
    cases hb:Nat.beq f.sz 0 with
    |false=>rfl
    |true=>have:=Nat.eq_of_beq_eq_true hb;omega
  refine⟨.returned x,w',fr',⟨x,L2,rfl,H2.below,by unfold ZmU;rw[hnew];exact⟨⟨H2.below,H2.live,H2.blks,H2.inj,H2.home,H2.low,H2.base⟩,r2⟩⟩,hst,hf'.fn.trans hfn,?_⟩
  rcases hf'.mode with⟨_,hm⟩ |⟨e,_⟩
  ·refine⟨hm,?_,hf'.kind,fn,?_,e1⟩
   ·obtain⟨gs,g1,g2,_⟩:=hf'.defs
    rw[hdefs]at g2
    rw[g1,List.eq_nil_of_length_eq_zero g2];rfl
   ·rw[hf'.fn];exact hfn'
  ·rw[hret]at e;cases e
end
end Go.Proofs.YtkeoeooghhjibaaGreatDoor
/- A function called at given values, run to its end. No condition. -/
namespace Go.Proofs.YtkeoeooghhjibaaGreatDoor
open Go.RowKit (Below)
def ZA4(A:Ar)(f:FuncId)(s:ASt):Option (Bool×AV×Option Fresh):=
 match s with
 |(acc,g,fs,h)=>match fs with
  |_::_=>none
  |[]=>match g.ret&&Nat.beq g.fn f with
   |false=>none
   |true=>match g.rnd with
    |some _=>none
    |none=>match g.defs with
     |_::_=>none
     |[]=>match ZkX A g.env h g.res with
      |none=>none
      |some (b,vs)=>match ZeZ h (Ze6 vs)with
       |none=>none
       |some (r,fr)=>match acc.all (fun b=>b)with
        |true=>(match b with |true=>some (true,r,fr) |false=>none)
        |false=>none
section
variable {P:Program}{T:Tab}{K:Con}
theorem ZjK{f:FuncId}{s:ASt}{r:AV}{fr:Option Fresh}(h:ZA4 std f s=some (true,r,fr)):∃acc g h',s=(acc,g,[],h')∧acc.all (fun b=>b)=true∧Zb3 f r fr [g] h':=by
 obtain⟨acc,g,fs,hp⟩:=s
 unfold ZA4 at h
 dsimp only at h
 split at h
 ·cases h
 ·split at h
  ·cases h
  ·rename_i hg
   simp only[Bool.and_eq_true]at hg
   split at h
   ·cases h
   ·rename_i hn
    split at h
    ·cases h
    ·rename_i hd
     split at h
     ·cases h
     ·rename_i b vs hc
      split at h
      ·cases h
      ·rename_i r' fr' hex
       split at h
       ·rename_i hacc
        cases b
        case false=>cases h
        simp only[Option.some.injEq,Prod.mk.injEq,true_and]at h
        obtain⟨rfl,rfl⟩:=h
        exact⟨acc,g,hp,rfl,hacc,g,vs,rfl,Nat.eq_of_beq_eq_true hg.2,hg.1,hn,hd,hc,hex⟩
       ·cases h
end
end Go.Proofs.YtkeoeooghhjibaaGreatDoor
/- The same arithmetic, ZnO for the kernel. No condition. -/
namespace Go.Proofs.YtkeoeooghhjibaaGreatDoor
def Q.addI:Int→Int→Int
 | .ofNat a, .ofNat b=>.ofNat (Nat.add a b)
 |a,b=>a+b
def Q.subI:Int→Int→Int
 | .ofNat a, .ofNat b=>(match Nat.ble b a with |true=>.ofNat (Nat.sub a b) |false=>.negSucc (Nat.pred (Nat.sub b a)))
 |a,b=>a-b
def Q.mulI:Int→Int→Int
 | .ofNat a, .ofNat b=>.ofNat (Nat.mul a b)
 |a,b=>a*b
def Q.ltI:Int→Int→Bool
 | .ofNat a, .ofNat b=>Nat.blt a b
 | .ofNat _, .negSucc _=>false
 | .negSucc _, .ofNat _=>true
 | .negSucc a, .negSucc b=>Nat.blt b a
def Q.leI:Int→Int→Bool
 | .ofNat a, .ofNat b=>Nat.ble a b
 | .ofNat _, .negSucc _=>false
 | .negSucc _, .ofNat _=>true
 | .negSucc a, .negSucc b=>Nat.ble b a
def Q.eqI:Int→Int→Bool
 | .ofNat a, .ofNat b=>Nat.beq a b
 | .ofNat _, .negSucc _=>false
 | .negSucc _, .ofNat _=>false
 | .negSucc a, .negSucc b=>Nat.beq a b
def Q.inR:IntKind→Int→Bool
 | .i64, .ofNat a=>Nat.ble a 9223372036854775807
 | .i64, .negSucc a=>Nat.ble a 9223372036854775807
 |k,n=>decide (k.min≤n∧n≤k.max)
def ZnO:Ar:={ std with
 add:=Q.addI,sub:=Q.subI,mul:=Q.mulI,lt:=Q.ltI,le:=Q.leI,eq:=Q.eqI,inR:=Q.inR }
theorem Zmq:ZnO=std:=by
 have hb:∀a b:Nat,Nat.beq a b=decide (a=b):=fun a b=>by rw[Bool.eq_iff_iff];simp
 have hl:∀a b:Nat,Nat.ble a b=decide (a≤b):=fun a b=>by rw[Bool.eq_iff_iff];simp
 have ht:∀a b:Nat,Nat.blt a b=decide (a<b):=fun a b=>by rw[Bool.eq_iff_iff];simp
 have dec:∀ {p q:Prop} [Decidable p] [Decidable q],(p↔q)→decide p=decide q:=fun h=>by simp[h]
 have decF:∀ {p:Prop} [Decidable p],¬p→false=decide p:=fun h=>by simp[h]
 have decT:∀ {p:Prop} [Decidable p],p→true=decide p:=fun h=>by simp[h]
 have h1:Q.addI=fun a b=>a+b:=by funext a b;cases a<;>cases b<;>rfl
 have h2:Q.subI=fun a b=>a-b:=by
  funext a b
  cases a with
  |ofNat a=>
   cases b with
   |ofNat b=>
    simp only[Q.subI,hl]
    by_cases h:b≤a
    ·simp only[h,decide_true,Int.ofNat_eq_natCast];exact Int.ofNat_sub h
    ·simp only[h,decide_false,Int.negSucc_eq,Int.ofNat_eq_natCast,Nat.pred_eq_sub_one,Nat.sub_eq];omega
   |negSucc b=>rfl
  |negSucc a=>cases b<;>rfl
 have h3:Q.mulI=fun a b=>a*b:=by funext a b;cases a<;>cases b<;>rfl
 have h4:Q.ltI=fun a b=>decide (a<b):=by
  funext a b
  cases a<;>cases b<;>simp only[Q.ltI,ht,Int.ofNat_eq_natCast,Int.negSucc_eq]
  ·exact dec (by omega)
  ·exact decF (by omega)
  ·exact decT (by omega)
  ·exact dec (by omega)
 have h5:Q.leI=fun a b=>decide (a≤b):=by
  funext a b
  cases a<;>cases b<;>simp only[Q.leI,hl,Int.ofNat_eq_natCast,Int.negSucc_eq]
  ·exact dec (by omega)
  ·exact decF (by omega)
  ·exact decT (by omega)
  ·exact dec (by omega)
 have h6:Q.eqI=fun a b=>decide (a=b):=by
  funext a b
  cases a<;>cases b<;>simp only[Q.eqI,hb,Int.ofNat_eq_natCast,Int.negSucc_eq]
  ·exact dec (by omega)
  ·exact decF (by omega)
  ·exact decF (by omega)
  ·exact dec (by omega)
 have h7:Q.inR=fun k n=>decide (k.min≤n∧n≤k.max):=by
  funext k n
  have e1:IntKind.i64.min= -9223372036854775808:=by decide
  have e2:IntKind.i64.max=9223372036854775807:=by decide
  unfold Q.inR
  split
  ·simp only[hl,Int.ofNat_eq_natCast]
   exact dec (by rw[e1,e2];omega)
  ·simp only[hl,Int.negSucc_eq]
   exact dec (by rw[e1,e2];omega)
  ·rfl
 unfold ZnO
 rw[h1,h2,h3,h4,h5,h6,h7]
 rfl
end Go.Proofs.YtkeoeooghhjibaaGreatDoor
namespace Go.Proofs.YtkeoeooghhjibaaGreatDoor
inductive FTree where
 |leaf
 |node (l:FTree) (k:Nat) (v:AFunc) (r:FTree)
def FTree.find:FTree→Nat→Option AFunc
 | .leaf,_=>none
 | .node l k v r,f=>match Nat.beq f k with |true=>some v |false=>match Nat.blt f k with |true=>l.find f |false=>r.find f
def FTree.All(P:Program):FTree→Prop
 | .leaf=>True
 | .node l k v r=>l.All P∧Zap P k v=true∧r.All P
theorem FTree.ok{P:Program} :∀ {t:FTree},t.All P→Zbu P t.find
 | .leaf,_,f,af,h=>by cases h
 | .node l k v r,⟨h1,h2,h3⟩,f,af,h=>by
   simp only[FTree.find]at h
   split at h
   ·rename_i e
    have e:f=k:=Nat.eq_of_beq_eq_true e
    cases h;rw[e];exact h2
   ·split at h
    ·exact FTree.ok h1 f af h
    ·exact FTree.ok h3 f af h
end Go.Proofs.YtkeoeooghhjibaaGreatDoor
/- Runs that keep their states small, for the kernel. No condition. -/
namespace Go.Proofs.YtkeoeooghhjibaaGreatDoor
section
variable {β:Type}
def fN(n:Nat)(k:Nat→β):β:=match n with |0=>k 0 |m+1=>k (Nat.succ m)
def fZ(z:Int)(k:Int→β):β:=match z with | .ofNat n=>fN n fun n=>k (.ofNat n) | .negSucc n=>fN n fun n=>k (.negSucc n)
def fB(b:Bool)(k:Bool→β):β:=match b with |true=>k true |false=>k false
def fL{α:Type}(fa:α→(α→β)→β):List α→(List α→β)→β
 |[],k=>k []
 |x::xs,k=>fa x fun x=>fL fa xs fun xs=>k (x::xs)
def ZAZ(fa:AV→(AV→β)→β)(r:Row)(k:Row→β):β:=
 match r with
 | .ints kd l=>fL fZ l fun l=>k (.ints kd l)
 | .flts kd l=>fL fN l fun l=>k (.flts kd l)
 | .gen xs=>fL fa xs fun xs=>k (.gen xs)
 | .big sh xs=>fL fa xs fun xs=>k (.big sh xs)
def fA:Nat→AV→(AV→β)→β
 |0,v,k=>k v
 |d+1,v,k=>match v with
  | .int kd n=>fZ n fun n=>k (.int kd n)
  | .bool b=>fB b fun b=>k (.bool b)
  | .list r=>ZAZ (fA d) r fun r=>k (.list r)
  | .agg r=>ZAZ (fA d) r fun r=>k (.agg r)
  | .tup xs=>fL (fA d) xs fun xs=>k (.tup xs)
  | .fn f xs=>fL (fA d) xs fun xs=>k (.fn f xs)
  | .eptr u o=>fA d u fun u=>fN o fun o=>k (.eptr u o)
  | .ptr a i j o=>fN i fun i=>fN j fun j=>fN o fun o=>k (.ptr a i j o)
  | .row a i=>fN i fun i=>k (.row a i)
  | .slc a i j n c=>fN i fun i=>fN j fun j=>fN n fun n=>(match c with |none=>k (.slc a i j n none) |some c=>fN c fun c=>k (.slc a i j n (some c)))
  | .aslc a i j o n=>fN i fun i=>fN j fun j=>fN o fun o=>fN n fun n=>k (.aslc a i j o n)
  | .yld a i=>fN i fun i=>k (.yld a i)
  |v=>k v
def ZB9(b:Blk)(k:Blk→β):β:=
 match b with
 | .row e sz r=>ZAZ (fA 3) r fun r=>k (.row e sz r)
 |b=>k b
def ZC5(f:Fam)(k:Fam→β):β:=match f with |⟨b,l⟩=>fN b fun b=>fL ZB9 l fun l=>k ⟨b,l⟩
def Zs3(h:Zab)(k:Zab→β):β:=fL (fun p k=>match p with |(a,f)=>ZC5 f fun f=>k (a,f)) h k
def ZDO(e:List (Nat×AV))(k:List (Nat×AV)→β):β:=fL (fun p k=>match p with |(t,v)=>fA 4 v fun v=>k (t,v)) e k
def fO(o:Option (Nat×Nat))(k:Option (Nat×Nat)→β):β:=match o with |none=>k none |some p=>match p with |(a,i)=>fN a fun a=>fN i fun i=>k (some (a,i))
def fH{α:Type}(l:List α)(k:List α→β):β:=match l with |[]=>k [] |x::xs=>k (x::xs)
def fFr(f:AFrame)(k:AFrame→β):β:=
 match f with
 |⟨fn,N,env,todo,defs,rnd,ret,res⟩=>fN fn fun fn=>fN N fun N=>fH defs fun defs=>fO rnd fun rnd=>fB ret fun ret=>fH res fun res=>k ⟨fn,N,env,todo,defs,rnd,ret,res⟩
def Zqr(f:AFrame)(k:AFrame→β):β:=
 match f with
 |⟨fn,N,env,todo,defs,rnd,ret,res⟩=>ZDO env fun env=>k ⟨fn,N,env,todo,defs,rnd,ret,res⟩
theorem Zhm(n:Nat)(k:Nat→β):fN n k=k n:=by cases n<;>rfl
theorem Zx5(z:Int)(k:Int→β):fZ z k=k z:=by cases z<;>simp only[fZ,Zhm]
theorem ZAC(b:Bool)(k:Bool→β):fB b k=k b:=by cases b<;>rfl
theorem ZhB{α:Type}{fa:α→(α→β)→β}(hf:∀x k,fa x k=k x):∀(l:List α) (k:List α→β),fL fa l k=k l
 |[],k=>rfl
 |x::xs,k=>by simp only[fL,hf];exact ZhB hf xs _
theorem Zk7{fa:AV→(AV→β)→β}(hf:∀x k,fa x k=k x)(r:Row)(k:Row→β):ZAZ fa r k=k r:=by
 cases r with
 |gen xs=>exact ZhB hf xs _
 |ints kd l=>exact ZhB Zx5 l _
 |flts kd l=>exact ZhB Zhm l _
 |big sh xs=>exact ZhB hf xs _
theorem Zuz:∀(d:Nat) (v:AV) (k:AV→β),fA d v k=k v
 |0,v,k=>rfl
 |d+1,v,k=>by
  have ih:=Zuz d
  cases v with
  |int kd n=>simp only[fA,Zx5]
  |bool b=>simp only[fA,ZAC]
  |list r=>simp only[fA,Zk7 ih]
  |agg r=>simp only[fA,Zk7 ih]
  |tup xs=>simp only[fA,ZhB ih]
  |fn f xs=>simp only[fA,ZhB ih]
  |eptr u o=>simp only[fA,ih,Zhm]
  |ptr a i j o=>simp only[fA,Zhm]
  |row a i=>simp only[fA,Zhm]
  |slc a i j n c=>simp only[fA,Zhm];cases c<;>rfl
  |aslc a i j o n=>simp only[fA,Zhm]
  |yld a i=>simp only[fA,Zhm]
  |_=>rfl
theorem ZsL(b:Blk)(k:Blk→β):ZB9 b k=k b:=by cases b<;>first |rfl |simp only[ZB9,Zk7 (Zuz 3)]
theorem ZuI(f:Fam)(k:Fam→β):ZC5 f k=k f:=by obtain⟨b,l⟩:=f;simp only[ZC5,Zhm];exact ZhB ZsL l _
theorem Zmi(h:Zab)(k:Zab→β):Zs3 h k=k h:=ZhB (fun p k=>by obtain⟨a,f⟩:=p;exact ZuI f _) h k
theorem Zuj(e:List (Nat×AV))(k:List (Nat×AV)→β):ZDO e k=k e:=ZhB (fun p k=>by obtain⟨t,v⟩:=p;exact Zuz 4 v _) e k
theorem ZB4(o:Option (Nat×Nat))(k:Option (Nat×Nat)→β):fO o k=k o:=by cases o<;>simp only[fO,Zhm]
theorem ZBz{α:Type}(l:List α)(k:List α→β):fH l k=k l:=by cases l<;>rfl
theorem Zyy(f:AFrame)(k:AFrame→β):fFr f k=k f:=by simp only[fFr,Zhm,ZBz,ZB4,ZAC]
theorem ZlH(f:AFrame)(k:AFrame→β):Zqr f k=k f:=by simp only[Zqr,Zuj]
end
def ZCz(acc:List Bool)(k:List Bool→ASt):ASt:=match acc.all (fun b=>b)with |true=>k [] |false=>k acc
def ZjT(A:Ar)(T:Tab)(K:Con)(n:Nat):List Bool→AFrame→List AFrame→Zab→ASt:=
 Nat.rec (motive:=fun _=>List Bool→AFrame→List AFrame→Zab→ASt) (fun acc f fs h=>(acc,f,fs,h))
  (fun _ ih acc f fs h=>match Zge A T K acc f fs h with
    |none=>(acc,f,fs,h)
    |some (acc',f',fs',h')=>fFr f' fun f'=>match Zth f with
     |true=>ZCz acc' fun acc'=>Zqr f' fun f'=>Zs3 h' fun h'=>ih acc' f' fs' h'
     |false=>ih acc' f' fs' h') n
theorem ZmL{A:Ar}{T:Tab}{K:Con}{n:Nat}{acc:List Bool}{f:AFrame}{fs:List AFrame}{h:Zab} :ZjT A T K (n+1) acc f fs h=match Zge A T K acc f fs h with
 |none=>(acc,f,fs,h)
 |some (acc',f',fs',h')=>fFr f' fun f'=>match Zth f with
  |true=>ZCz acc' fun acc'=>Zqr f' fun f'=>Zs3 h' fun h'=>ZjT A T K n acc' f' fs' h'
  |false=>ZjT A T K n acc' f' fs' h':=rfl
section
variable {C:Ctx}{T:Tab}{K:Con}{Q:List AFrame→Zab→Prop}
theorem Zeh(hfol:C.P.follows .mixedOrders=true)(hT:Zbu C.P T)(hK:Zfv C.P K):∀(n:Nat) {acc:List Bool} {f:AFrame} {fs:List AFrame} {h:Zab},ZgG C Q acc f fs h (some (ZjT std T K n acc f fs h))
 |0,acc,f,fs,h=>by
  intro acc' f' fs' h' he hb hq
  have he:some (acc,f,fs,h)=some (acc',f',fs',h'):=he
  simp only[Option.some.injEq,Prod.mk.injEq]at he
  obtain⟨rfl,rfl,rfl,rfl⟩:=he
  exact⟨hb,hq⟩
 |n+1,acc,f,fs,h=>by
  intro acc' f' fs' h' he hb hq
  rw[ZmL]at he
  split at he
  ·simp only[Option.some.injEq,Prod.mk.injEq]at he
   obtain⟨rfl,rfl,rfl,rfl⟩:=he
   exact⟨hb,hq⟩
  ·rename_i acc1 f1 fs1 h1 hs
   rw[Zyy]at he
   have go:∀acc2,((∀ b∈acc2,b=true)→∀b∈acc1,b=true)→some (ZjT std T K n acc2 f1 fs1 h1)=some (acc',f',fs',h')→(∀b∈acc,b=true)∧Ev C (f::fs) h Q:=fun acc2 ha he=>by
    obtain⟨hb1,hq1⟩:=Zeh hfol hT hK n _ _ _ _ he hb hq
    exact Zhi hfol hT hK _ _ _ _ hs (ha hb1) hq1
   split at he
   ·unfold ZCz at he
    split at he
    ·rename_i hall
     simp only[ZlH,Zmi]at he
     exact go [] (fun _ b hb=>by have:=List.all_eq_true.1 hall b hb;simpa using this) he
    ·simp only[ZlH,Zmi]at he
     exact go acc1 (fun h=>h) he
   ·exact go acc1 (fun h=>h) he
end
def ZCD(A:Ar)(T:Tab)(K:Con)(n:Nat)(f:FuncId)(args:List AV):Option (Bool×AV×Option Fresh):=
 match Zat T f args with
 |none=>none
 |some af=>ZA4 A f (ZjT A T K n [] af [] [])
theorem Znl{P:Program}{T:Tab}{K:Con}(hfol:P.follows .mixedOrders=true)(hT:Zbu P T)(hK:Zfv P K){n:Nat} :Zfv P (ZCD std T K n):=fun f args r fr h=>by
 unfold ZCD at h
 split at h
 ·cases h
 ·rename_i af haf
  obtain⟨acc,g,h',hs,hacc,hfin⟩:=ZjK h
  refine Zfe hT haf (fun w okA cs=>?_)
  refine(Zeh (C:=(Ctx.of P w okA cs)) hfol hT hK n (Q:=Zb3 f r fr) acc g [] h' (by rw[hs]) (fun b hb=>?_) (.now (by simp) hfin)).2
  have:=List.all_eq_true.1 hacc b hb
  simpa using this
end Go.Proofs.YtkeoeooghhjibaaGreatDoor
/- Contracts at given values, kept in a list. No condition. -/
namespace Go.Proofs.YtkeoeooghhjibaaGreatDoor
def eqL{α:Type}(f:α→α→Bool):List α→List α→Bool
 |[],[]=>true
 |x::xs,y::ys=>match f x y with |true=>eqL f xs ys |false=>false
 |_,_=>false
def eqZ:Int→Int→Bool
 | .ofNat a, .ofNat b=>Nat.beq a b
 | .negSucc a, .negSucc b=>Nat.beq a b
 |_,_=>false
def ZyJ:IntKind→IntKind→Bool
 | .i64, .i64=>true
 |k,k'=>decide (k=k')
def ZoY(f:AV→AV→Bool):Row→Row→Bool
 | .ints k l, .ints k' l'=>match ZyJ k k' with |true=>eqL eqZ l l' |false=>false
 | .flts k l, .flts k' l'=>(match decide (k=k')with |true=>eqL Nat.beq l l' |false=>false)
 | .gen xs, .gen ys=>eqL f xs ys
 | .big s xs, .big t ys=>(match ZbH s t with |true=>eqL f xs ys |false=>false)
 |_,_=>false
def eqV:Nat→Value→Value→Bool
 |0,_,_=>false
 |d+1,x,y=>match x,y with
  | .int k a, .int k' b=>(match eqZ a b with |true=>ZyJ k k' |false=>false)
  | .agg ⟨l⟩, .agg ⟨m⟩=>eqL (eqV d) l m
  | .func (.func f) ⟨l⟩ ⟨[]⟩, .func (.func g) ⟨m⟩ ⟨[]⟩=>(match Nat.beq f g with |true=>eqL (eqV d) l m |false=>false)
  |_,_=>false
def eqU(a b:UInt8):Bool:=Nat.beq a.toNat b.toNat
theorem ZwH(a b:UInt8)(h:eqU a b=true):a=b:=UInt8.toNat.inj (Nat.eq_of_beq_eq_true h)
def eqA:Nat→AV→AV→Bool
 |0,_,_=>false
 |d+1,x,y=>match x,y with
  | .int k a, .int k' b=>(match eqZ a b with |true=>ZyJ k k' |false=>false)
  | .bool a, .bool b=>a==b
  | .flt k a, .flt k' b=>(match Nat.beq a b with |true=>decide (k=k') |false=>false)
  | .nils, .nils=>true
  | .str a, .str b=>eqL eqU a b
  | .tup r, .tup s=>eqL (eqA d) r s
  | .val v, .val u=>eqV 4 v u
  | .list r, .list s=>ZoY (eqA d) r s
  | .agg r, .agg s=>ZoY (eqA d) r s
  | .fn f xs, .fn g ys=>(match Nat.beq f g with |true=>eqL (eqA d) xs ys |false=>false)
  | .eptr u o, .eptr v q=>(match Nat.beq o q with |true=>eqA d u v |false=>false)
  |_,_=>false
theorem Zds{α:Type}{f:α→α→Bool}(hf:∀x y,f x y=true→x=y):∀ {l m:List α},eqL f l m=true→l=m
 |[],[],_=>rfl
 |x::xs,y::ys,h=>by
  simp only[eqL]at h
  split at h
  ·rename_i e;rw[hf _ _ e,Zds hf h]
  ·cases h
 |[],_::_,h=>by cases h
 |_::_,[],h=>by cases h
theorem Zo1{a b:Int}(h:eqZ a b=true):a=b:=by
 cases a<;>cases b<;>simp only[eqZ,Bool.false_eq_true]at h
 ·rw[Nat.eq_of_beq_eq_true h]
 ·rw[Nat.eq_of_beq_eq_true h]
theorem ZkK{a b:IntKind}(h:ZyJ a b=true):a=b:=by
 unfold ZyJ at h
 split at h
 ·rfl
 ·simpa using h
theorem ZiX{f:AV→AV→Bool}(hf:∀x y,f x y=true→x=y){r s:Row}(h:ZoY f r s=true):r=s:=by
 cases r<;>cases s<;>simp only[ZoY,Bool.false_eq_true]at h
 ·rw[Zds hf h]
 ·split at h
  ·rename_i e;rw[ZkK e,Zds (fun _ _=>Zo1) h]
  ·cases h
 ·split at h
  ·rename_i e;rw[of_decide_eq_true e,Zds (fun _ _=>Nat.eq_of_beq_eq_true) h]
  ·cases h
 ·split at h
  ·rename_i e;rw[ZfE e,Zds hf h]
  ·cases h
theorem Zsa:∀ {d:Nat} {x y:Value},eqV d x y=true→x=y
 |0,_,_,h=>by cases h
 |d+1,x,y,h=>by
  have ih:∀x y,eqV d x y=true→x=y:=fun _ _ h=>Zsa h
  unfold eqV at h
  split at h
  ·split at h
   ·rename_i e;rw[Zo1 e,ZkK h]
   ·cases h
  ·rw[Zds ih h]
  ·split at h
   ·rename_i e
    have e:=Nat.eq_of_beq_eq_true e
    rw[e,Zds ih h]
   ·cases h
  ·cases h
theorem ZjI:∀ {d:Nat} {x y:AV},eqA d x y=true→x=y
 |0,_,_,h=>by cases h
 |d+1,x,y,h=>by
  have ih:∀x y,eqA d x y=true→x=y:=fun _ _ h=>ZjI h
  unfold eqA at h
  split at h
  ·split at h
   ·rename_i e;rw[Zo1 e,ZkK h]
   ·cases h
  ·rename_i a b;have:a=b:=by simpa using h
   rw[this]
  ·split at h
   ·rename_i e;rw[Nat.eq_of_beq_eq_true e,of_decide_eq_true h]
   ·cases h
  ·rfl
  ·rw[Zds ZwH h]
  ·rw[Zds ih h]
  ·rw[Zsa h]
  ·rw[ZiX ih h]
  ·rw[ZiX ih h]
  ·split at h
   ·rename_i e
    have e:=Nat.eq_of_beq_eq_true e
    rw[e,Zds ih h]
   ·cases h
  ·split at h
   ·rename_i e;rw[Nat.eq_of_beq_eq_true e,ZjI h]
   ·cases h
  ·cases h
structure Fact where
 f:FuncId
 args:List AV
 r:AV
 fr:Option Fresh
def Zwo:List Fact→Con
 |[],_,_=>none
 |q::qs,f,args=>match Nat.beq q.f f with
  |true=>(match eqL (eqA 8) q.args args with |true=>some (true,q.r,q.fr) |false=>Zwo qs f args)
  |false=>Zwo qs f args
def Zi7(P:Program):List Fact→Prop
 |[]=>True
 |q::qs=>Zan P q.f q.args q.r q.fr∧Zi7 P qs
theorem Zjh{P:Program} :∀ {l:List Fact},Zi7 P l→Zfv P (Zwo l)
 |[],_,f,args,r,fr,h=>by cases h
 |q::qs,⟨h1,h2⟩,f,args,r,fr,h=>by
  simp only[Zwo]at h
  split at h
  ·rename_i e
   have e:q.f=f:=Nat.eq_of_beq_eq_true e
   split at h
   ·rename_i e2
    have e2:=Zds (fun _ _=>ZjI) e2
    simp only[Option.some.injEq,Prod.mk.injEq,true_and]at h
    obtain⟨rfl,rfl⟩:=h
    rw[←e,←e2];exact h1
   ·exact Zjh h2 f args r fr h
  ·exact Zjh h2 f args r fr h
theorem Zac{P:Program}{T:Tab}(hfol:P.follows .mixedOrders=true)(hT:Zbu P T){l:List Fact}(hl:Zi7 P l){n:Nat}{f:FuncId}{args:List AV}{r:AV}{fr:Option Fresh}
 (h:ZCD ZnO T (Zwo l) n f args=some (true,r,fr)):Zan P f args r fr:=by
 rw[Zmq]at h
 exact Znl hfol hT (Zjh hl) f args r fr h
end Go.Proofs.YtkeoeooghhjibaaGreatDoor
/- All of a list of truths. No condition. -/
namespace Go.Proofs.YtkeoeooghhjibaaGreatDoor
def AllT:List Bool→Prop
 |[]=>True
 |b::l=>b=true∧AllT l
theorem AllT.mem:∀ {l:List Bool},AllT l→∀b∈l,b=true
 |_::_,⟨h1,h2⟩,b,hb=>by
  rcases List.mem_cons.1 hb with e |e
  ·rw[e];exact h1
  ·exact AllT.mem h2 b e
def oN(d:Nat)(k:OpK):AOp:=⟨some d,none,k⟩
def mV(d s:Nat):AOp:=⟨some d,none, .mov (.t s)⟩
def cI(n:Int):Opd:=.c (.int .i64 n)
end Go.Proofs.YtkeoeooghhjibaaGreatDoor
/- A call that changes a row of the caller's. No condition. -/
namespace Go.Proofs.YtkeoeooghhjibaaGreatDoor
open Go.RowKit (Below)
abbrev Ctx.mut(P:Program)(w:World)(okA:Nat→Prop)(cs:List Frame)(g:Nat):Ctx:=⟨P,w,okA,cs,0,g⟩
def ZBc(P:Program)(f:FuncId)(e:TypeId)(sz:Nat)(x y:Row)(args:List AV)(r:AV):Prop:=
 ∀(w:World) (okA:Nat→Prop) (L:Lay) (vs:Array Value),(∀k,okA k→k<w.heap.size)→
  HRel (Ctx.mut P w okA [] (L.loc 0 0)) (Zax (some ⟨e,sz,x⟩)) L w→
  RelL w (Zaw (Ctx.mut P w okA [] (L.loc 0 0)) (Zax (some ⟨e,sz,x⟩)) L) (Zax (some ⟨e,sz,x⟩)) L (.row 0 0::args) vs.toList→
  Calls P f vs w fun e' w'=>∃v L',e'=.returned v∧Fr (Ctx.mut P w okA [] (L.loc 0 0)) (Zax (some ⟨e,sz,x⟩)) L w (Zax (some ⟨e,sz,y⟩)) L' w'∧
   HRel (Ctx.mut P w okA [] (L.loc 0 0)) (Zax (some ⟨e,sz,y⟩)) L' w'∧ZaC (Ctx.mut P w okA [] (L.loc 0 0)) (Zax (some ⟨e,sz,y⟩)) L' w' r v
def Zwh:AV→Bool
 | .row a i=>Nat.beq a 0&&Nat.beq i 0
 | .slc a i _ _ _=>Nat.beq a 0&&Nat.beq i 0
 |v=>v.pure
def ZGG(f:FuncId)(e:TypeId)(sz:Nat)(y:Row)(r:AV)(fs:List AFrame)(h:Zab):Prop:=
 ∃g vs,fs=[g]∧g.fn=f∧g.ret=true∧g.rnd=none∧g.defs=[]∧Zei std g.env h g.res=some (true,vs)∧Ze6 vs=r∧Zwh r=true∧blk h 0 0=.row e sz y∧y.pure=true
section
variable {C:Ctx}{h:Zab}{L:Lay}{w:World}
def Zzg(a i:Nat):AV→AV
 | .row _ _=>.row a i
 | .slc _ _ k n c=>.slc a i k n c
 |v=>v
theorem Znr{f:FuncId}{a i e sz:Nat}{x y:Row}{args:List AV}{vs:Array Value}{r:AV}(H:HRel C h L w)(hb:blk h a i=.row e sz x)(hxp:x.pure=true)(hyp:y.pure=true)(hap:AV.pureL args=true)(hrel:RelL w (Zaw C h L) h L (.row a i::args) vs.toList)(hor:Zwh r=true)(hm:ZBc C.P f e sz x y args r):
 Calls C.P f vs w fun e' w'=>∃v L',e'=.returned v∧Step w (Zaw C h L) h L w' (Zaw C (ZaW h a i (.row e sz y)) L') (ZaW h a i (.row e sz y)) L'∧HRel C (ZaW h a i (.row e sz y)) L' w'∧ZaC C (ZaW h a i (.row e sz y)) L' w' (Zzg a i r) v:=by
 obtain⟨ht,h0,h1,h2,h3,cur,h4,h5,h6,h7,h8⟩:=H.rowAt hb
 have ht0:(blk h a i).tag≠none:=by rw[ht];simp
 have hnd:blk h a i≠ .dead:=by rw[hb];simp
 let okA:Nat→Prop:=fun k=>Zaw C h L k∧k<w.heap.size
 let L1:Lay:=⟨fun _ _=>L.loc a i,fun _ _=>L.size a i⟩
 have h00:∀(z:Row) b j,(blk (Zax (some ⟨e,sz,z⟩)) b j).tag≠none→b=0∧j=0:=fun z b j hx=>by
  rw[ZbD]at hx
  split at hx
  ·assumption
  ·exact absurd rfl hx
 have hno:¬okA (L.loc a i):=fun ho=>Zqc H ho.1 ht0 rfl
 have hok1:∀g,g<w.heap.size→Zaw C h L g→Zaw (Ctx.mut C.P w okA [] (L.loc a i)) (Zax (some ⟨e,sz,x⟩)) L1 g:=fun g hg ho=>.inl ⟨hg,ho,hg⟩
 have H1:HRel (Ctx.mut C.P w okA [] (L.loc a i)) (Zax (some ⟨e,sz,x⟩)) L1 w:=by
  refine⟨Below.refl _ _,fun b j _=>⟨Nat.zero_le _,(H.live a i ht0).2⟩,fun b j=>?_,fun b j c k hb1 hb2 _=>?_,fun b j hx=>?_,fun _ _ _=>rfl,Nat.zero_le _⟩
  ·rw[ZbD]
   split
   ·exact⟨h0,h1,h2,h3,cur,h4,h5,⟨h6.1,fun j u v hu hv=>((h6.2 j u v hu hv).okmono (fun g hg ho=>hok1 g hg ho)).pure (AV.pureL_mem (Za1 hxp) hu)⟩,h7⟩
   ·trivial
  ·obtain⟨rfl,rfl⟩:=h00 x b j hb1
   obtain⟨rfl,rfl⟩:=h00 x c k hb2
   exact⟨rfl,rfl⟩
  ·obtain⟨rfl,rfl⟩:=h00 x b j hx
   exact .inr ⟨rfl,rfl,rfl,hno⟩
 have hrel1:RelL w (Zaw (Ctx.mut C.P w okA [] (L.loc a i)) (Zax (some ⟨e,sz,x⟩)) L1) (Zax (some ⟨e,sz,x⟩)) L1 (.row 0 0::args) vs.toList:=by
  refine⟨by have:=hrel.1;simpa using this,fun j u v hu hv=>?_⟩
  cases j with
  |zero=>
   simp at hu;subst hu
   have hr:=hrel.2 0 _ v rfl hv
   cases hr with
   |row _ _ g o n c hn hl=>
    obtain⟨rfl,rfl,rfl,rfl⟩:=hl.2 _ ht
    refine .row 0 0 _ _ _ _ hn ⟨by show 0<0+1;omega,fun s hs=>?_⟩
    rw[ZbD]at hs
    simp only[and_self,if_true,Blk.tag,Option.some.injEq]at hs
    subst hs
    exact⟨rfl,rfl,rfl,rfl⟩
  |succ j=>
   have hu':args[j]? =some u:=by simpa using hu
   exact((hrel.2 (j+1) u v (by simpa using hu') hv).okmono (fun g hg ho=>hok1 g hg ho)).pure (AV.pureL_mem hap hu')
 refine(hm w okA L1 vs (fun k hk=>hk.2) H1 hrel1).mono ?_
 rintro e' w' ⟨v,L',rfl,hF,H2,rr⟩
 have ht2:(blk (Zax (some ⟨e,sz,y⟩)) 0 0).tag=some (sz,y.elems.length):=rfl
 obtain⟨t1,l1,s1⟩:=hF.tags _ (by show 0<0+1;omega) ht2
 have l1:L'.loc 0 0=L.loc a i:=l1
 have s1:L'.size 0 0=L.size a i:=s1
 have hlen:y.elems.length=x.elems.length:=by
  have:(blk (Zax (some ⟨e,sz,x⟩)) 0 0).tag=some (sz,x.elems.length):=rfl
  rw[this]at t1
  simp only[Option.some.injEq,Prod.mk.injEq,true_and]at t1
  exact t1.symm
 have hgr:w.grownBy w' (some (L.loc a i)):=⟨H2.below.os,H2.below.tape,H2.below.output,hF.size,fun k hk hne=>H2.low k hk (fun e=>hne (by rw[e]))⟩
 have hok2:∀(hst:Step w (Zaw C h L) h L w' (Zaw C (ZaW h a i (.row e sz y)) L) (ZaW h a i (.row e sz y)) L) g,Zaw (Ctx.mut C.P w okA [] (L.loc a i)) (Zax (some ⟨e,sz,y⟩)) L' g→Zaw C (ZaW h a i (.row e sz y)) L g:=fun hst g ho=>by
  rcases ho with⟨q1,q2⟩ |⟨q1,q2⟩
  ·exact(hst.mem g q2.2 q2.1).1
  ·have q1:w.heap.size≤g:=q1
   refine .inr ⟨Nat.le_trans H.top q1,fun b j hx hxe=>?_⟩
   have:(blk h b j).tag≠none:=by
    rw[Zc3 hnd]at hx
    split at hx
    ·rename_i e1;obtain⟨rfl,rfl⟩:=e1;exact ht0
    ·exact hx
   have:=(H.live b j this).2
   omega
 obtain⟨hst,H3⟩:=H.set (b:=.row e sz y) ht0 (by rw[ht];show some (sz,y.elems.length)=_;rw[hlen]) hgr (fun hst=>by
  have hbr:=H2.blks 0 0
  rw[show blk (Zax (some ⟨e,sz,y⟩)) 0 0=.row e sz y from rfl,l1,s1]at hbr
  obtain⟨g0,g1,g2,g3,cur2,g4,g5,g6,g7⟩:=hbr
  exact⟨g0,g1,g2,g3,cur2,g4,g5,⟨g6.1,fun j u v hu hv=>((g6.2 j u v hu hv).okmono (fun g _ ho=>hok2 hst g ho)).pure (AV.pureL_mem (Za1 hyp) hu)⟩,g7⟩)
 refine⟨v,L,rfl,hst,H3,?_⟩
 have hbs:blk (ZaW h a i (.row e sz y)) a i=.row e sz y:=by rw[Zc3 hnd,if_pos ⟨rfl,rfl⟩]
 have hlv:∀ {p p':Nat→Nat×Nat→Prop},Live (Zax (some ⟨e,sz,y⟩)) L' 0 0 p→(∀s,p (L'.loc 0 0) s→p' (L.loc a i) s)→Live (ZaW h a i (.row e sz y)) L a i p':=fun hp hpp=>by
  refine⟨ZrY (by rw[hbs];simp),fun s hs=>?_⟩
  rw[hbs]at hs
  simp only[Blk.tag,Option.some.injEq]at hs
  subst hs
  exact hpp _ (hp.2 _ ht2)
 have key:r.pure=true→ZaC C (ZaW h a i (.row e sz y)) L w' r v:=fun hp=>(rr.okmono (fun g _ ho=>hok2 hst g ho)).pure hp
 cases r with
 |row b j=>
  simp only[Zwh,Bool.and_eq_true]at hor
  have ha:=Nat.eq_of_beq_eq_true hor.1
  have hi:=Nat.eq_of_beq_eq_true hor.2
  subst ha;subst hi
  cases rr with
  |row _ _ g o n c hn hl=>exact .row a i g o n c hn (hlv hl fun s hp=>by rw[←s1,←l1];exact hp)
 |slc b j k n cap=>
  simp only[Zwh,Bool.and_eq_true]at hor
  have ha:=Nat.eq_of_beq_eq_true hor.1
  have hi:=Nat.eq_of_beq_eq_true hor.2
  subst ha;subst hi
  cases rr with
  |slc _ _ _ _ _ g o c hn hl=>exact .slc a i k n cap g o c hn (hlv hl fun s hp=>by rw[←s1,←l1];exact hp)
 |_=>exact key hor
end
section
variable {C:Ctx}{h:Zab}{Q:List AFrame→Zab→Prop}{f:AFrame}{fs:List AFrame}{k:List AItem}
theorem ZlI{o:AOp}{os:List AOp}{g:FuncId}{mm:Bool}{a0 a i e sz:Nat}{args:List Opd}{x y:Row}{rest:List AV}{r:AV}(hr:f.ret=false)(ht:f.todo=.inReg (o::os)::k)(hg:o.g=none)(hk:o.k=.ncall mm a0 g args)
 (ha:args.map (Zbd (ZaL f.env))=.row a i::rest) (hb:blk h a i=.row e sz x) (hxp:x.pure=true) (hyp:y.pure=true) (hap:AV.pureL rest=true) (hor:Zwh r=true) (hm:ZBc C.P g e sz x y rest r)
 (hq:Ev C ({ f with env:=ZmE f.env o.d (Zzg a i r),todo:=.inReg os::k } ::fs) (ZaW h a i (.row e sz y)) Q):Ev C (f::fs) h Q:=by
 intro L fr cs w hf H _
 cases hf with
 |cons hf hkk=>
  rcases hf.mode with⟨e,_⟩ |⟨_,hmo,hi⟩
  ·rw[hr]at e;cases e
  ·rw[ht]at hi
   cases hi':fr.todo with
   |nil=>rw[hi']at hi;cases hi
   |cons z l=>
    rw[hi']at hi
    cases hi with
    |cons hx hki=>
     cases hx with
     |inReg ops ix _ hmc=>
      obtain⟨kk,ix',op,rfl,e1,e2,e3⟩:=ZeM hmc
      have henv:EnvF C h L w (ZaL f.env) fr.tmps:=hf.env
      obtain⟨g0,_,_⟩:=ZlE henv e2
      have hwant:=g0 hg
      have e2':=e2
      simp only[ZnU,Bool.and_eq_true,beq_iff_eq]at e2'
      obtain⟨⟨⟨⟨hnd,hdst⟩,hdN⟩,_⟩,hmop⟩:=e2'
      have hdN':∀d',o.d=some d'→d'<fr.tmps.size:=fun d' e=>by rw[e]at hdN;rw[hf.size];simpa using hdN
      have e1':ops.toArray[kk]? =some op:=by simpa using e1
      have hfin:∀v,fr.finish v= { fr with tmps:=Zjp fr.tmps o.d v,todo:=.inRegion ops.toArray ix'::l } :=fun v=>by rw[ZfA hi' e1',hdst]
      have hρ:=ZzL henv
      rw[hk]at hmop
      simp only[mop]at hmop
      split at hmop
      ·rename_i f' args' ts ho
       simp only[Bool.and_eq_true,beq_iff_eq]at hmop
       obtain⟨⟨rfl,hmop⟩,hcal⟩:=hmop
       have hrel:=Zb9 hρ hmop
       rw[ha]at hrel
       have hrun:(execOp fr.eval op).run C.P w=.ok (.enter g (args'.map fr.eval)) w:=by simpa using Zgo (w:=w) ho (hρ.fnc g) hcal
       have hcalls:=Znr H hb hxp hyp hap hrel hor hm
       obtain⟨v,w',⟨v',L',e,s,H',hv⟩,hst⟩:=Zki (cs:=cs) hmo hi' e1' hwant hnd hrun hcalls (fun e w'' hh=>by obtain⟨x,_,e,_⟩:=hh;exact⟨x,e⟩)
       cases e
       rw[hfin]at hst
       have hfs:=hf.step s
       have he':EnvF C (ZaW h a i (.row _ sz y)) L' w' (Env.put (ZaL f.env) o.d (Zzg a i r)) (Zjp fr.tmps o.d v):=(EnvF.step s henv).put hdN' (fun _=>hv)
       obtain⟨fs2,h2',L2,fr2,cs2,w2,q2,n2,a2,b2,s2⟩:=hq L' { fr with tmps:=Zjp fr.tmps o.d v,todo:=.inRegion ops.toArray ix'::l } cs w'
        (.cons ⟨hf.fn,by rw[Zeu];exact hf.size,by intro t av hta;exact he' t av (by rw[←Zdb];exact hta),hf.kind,hfs.defs,hfs.rnd, .inr ⟨hr,hmo, .cons (.inReg ops ix' os e3) (hki.step s)⟩,hf.res⟩ (hkk.step s)) H' (by simp)
       exact⟨fs2,h2',L2,fr2,cs2,w2,q2,n2,a2,b2,hst.trans s2.1,(Fr.of s).trans s2.2⟩
      ·cases hmop
theorem Zp1{t a i e sz n:Nat}{r:Row}(ht:ZaL f.env t=some (.slc a i 0 n none))(hb:blk h a i=.row e sz r)(hz:Zl9 a=false)(hn:n≤r.elems.length)
 (hq:Ev C ({ f with env:=Zc8 f.env t (.row a (nxt h a)) } ::fs) (Zam (ZaW h a i .dead) a (.row e sz (r.sub std 0 n))) Q):Ev C (f::fs) h Q:=by
 intro L fr cs w hf H _
 cases hf with
 |cons hf hk=>
  obtain⟨htg,h0,h1,h2,h3,cur,h4,h5,h6,h7,h8⟩:=H.rowAt hb
  have hnd:blk h a i≠ .dead:=by rw[hb];simp
  have ht0:(blk h a i).tag≠none:=by rw[htg];simp
  obtain⟨k1,k2⟩:=ZeG hnd
  have hr:=hf.env t _ ht
  generalize hx:fr.tmps.getD t undef=x at hr
  cases hr with
  |slc _ _ _ _ _ g o c hnc hl=>
   rcases hl.2 _ htg with⟨hne,_⟩ |⟨rfl,rfl,hc1,hc2⟩
   ·exact absurd rfl hne
   ·have hc:c=L.size a i:=by simpa using hc2
    subst hc
    have hel:(r.sub std 0 n).elems=r.elems.take n:=by rw[Row.sub_std];simp[sub3]
    have hle:n*sz≤r.elems.length*sz:=Nat.mul_le_mul_right _ hn
    have hlv:=H.live a i ht0
    obtain⟨L',s,H',rr⟩:=Zfu (w':=w) H (fun b j=>b=a∧j=i) (ZaW h a i .dead) k1 k2 (a:=a) (e:=e) (sz:=sz) (r:=r.sub std 0 n) (g:=L.loc a i) (n:=n) (c:=L.size a i) (cs:=cur.toList.take (n*sz))
     ⟨by rw[List.length_take,Array.length_toList,h5];exact Nat.min_eq_left (Nat.le_trans hle (Nat.mul_le_mul_right _ h2)), .inr ⟨L.loc a i,L.size a i,cur,by simp,hlv.1,h4,hnc,h1,h5,rfl⟩⟩
     (by rw[hel,List.length_take];omega)
     (by
       rw[hel,ZaQ _ _ h3]
       have:=h6.take (n*sz)
       rw[List.take_take,Nat.min_eq_left hle]at this
       exact this)
     (fun x hx=>by rw[hel]at hx;exact h3 x (List.mem_of_mem_take hx))
     (fun c hc=>h7 c (by
       have:=List.take_subset_take_left cur.toList hle
       exact this hc))
     h0 (row:=some (L.loc a i)) ⟨rfl,rfl,rfl,Nat.le_refl _,fun _ _ _=>rfl⟩ (fun k hk=>by cases hk;exact⟨a,i,⟨rfl,rfl⟩,ht0,rfl⟩)
     (fun b j hbj _=>by obtain⟨rfl,rfl⟩:=hbj;exact H.far ht0 (Zfi hz)) (.inr rfl)
    have hfs:=hf.step s
    obtain⟨fs2,h2',L2,fr2,cs2,w2,q2,n2,a2,b2,s2⟩:=hq L' fr cs w (.cons ⟨hf.fn,hf.size,fun t' av ht'=>by
     rw[Zcb]at ht'
     split at ht'
     ·rename_i htt
      subst htt
      cases ht'
      rw[hx,show(0:Nat)*sz=0 from Nat.zero_mul _]
      exact rr
     ·exact hfs.env t' av ht',hf.kind,hfs.defs,hfs.rnd,hfs.mode,hf.res⟩ (hk.step s)) H' (by simp)
    exact⟨fs2,h2',L2,fr2,cs2,w2,q2,n2,a2,b2,s2.1,(Fr.of s).trans s2.2⟩
end
end Go.Proofs.YtkeoeooghhjibaaGreatDoor
/- Regions of which every order is looked at: a run in all of their orders. No condition. -/
namespace Go.Proofs.YtkeoeooghhjibaaGreatDoor
open Go.RowKit (Below)
def ZCT(es:List (Nat×Nat))(left:List Nat)(i:Nat):Bool:=es.all fun e=>match Nat.beq e.2 i with |true=>left.all (fun j=>!Nat.beq j e.1) |false=>true
def ZpN(es:List (Nat×Nat)):Nat→List Nat→List (List Nat)
 |0,_=>[[]]
 |n+1,left=>(left.filter (ZCT es left)).flatMap fun i=>(ZpN es n (left.filter fun j=>!Nat.beq j i)).map (i:: ·)
def ZtE(aos:List AOp):List Nat→List AOp
 |[]=>[]
 |i::σ=>match aos[i]? with |some o=>o::ZtE aos σ |none=>ZtE aos σ
theorem Zom{es:List (Nat×Nat)}{m:Nat} :∀(n:Nat) (left:List Nat),(∀i∈left,i<m)→∀σ∈ZpN es n left,∀i∈σ,i<m
 |0,_,_,σ,hσ,i,hi=>by simp only[ZpN,List.mem_singleton]at hσ;subst hσ;cases hi
 |n+1,left,hl,σ,hσ,i,hi=>by
  simp only[ZpN,List.mem_flatMap,List.mem_filter,List.mem_map]at hσ
  obtain⟨j,⟨hj,_⟩,τ,hτ,rfl⟩:=hσ
  rcases List.mem_cons.1 hi with rfl |hi
  ·exact hl _ hj
  ·exact Zom n _ (fun q hq=>hl q (List.mem_filter.1 hq).1) τ hτ i hi
theorem ZlF{P:Program}{N:Nat}{opl:List Oper}{aos:List AOp}(hm:Zdw P N opl opl aos=true):∀(σ:List Nat),(∀i∈σ,i<opl.length)→Zwv P N opl σ (ZtE aos σ)
 |[],_=>trivial
 |i::σ,h=>by
  obtain⟨h1,h2⟩:=ZcE hm
  have hi:=h i (by simp)
  have hia:i<aos.length:=by omega
  simp only[ZtE,List.getElem?_eq_getElem hia]
  exact⟨⟨opl[i],List.getElem?_eq_getElem hi,h2 i _ _ (List.getElem?_eq_getElem hi) (List.getElem?_eq_getElem hia)⟩,ZlF hm σ (fun j hj=>h j (by simp[hj]))⟩
theorem Zpj{ops:List Oper}{es:List (Nat×Nat)}(hlin:∀(j:Nat) (o:Oper),ops[j]? =some o→∀e∈o.after,Region.binds .any e=true→e.on<0+j)(hes:∀e∈es,Waits ops.toArray e.2 e.1):
 ∀(fuel t:Nat) (listed:Array Bool),listed.size=ops.length→Downed ops.toArray listed→((List.range ops.length).filter fun i=>!listed.getD i true).length=fuel→
  Region.linearise.go .any ops.toArray fuel t listed []∈ZpN es fuel ((List.range ops.length).filter fun i=>!listed.getD i true)
 |0,t,listed,hls,hdn,hf=>by simp[Region.linearise.go,ZpN]
 |fuel+1,t,listed,hls,hdn,hf=>by
  have hne:Region.ready .any ops.toArray listed≠[]:=by
   have:∃i,i<ops.length∧listed.getD i true=false:=by
    cases hff:(List.range ops.length).filter fun i=>!listed.getD i true with
    |nil=>rw[hff]at hf;simp at hf
    |cons i r=>
     have hi:i∈(List.range ops.length).filter fun i=>!listed.getD i true:=by rw[hff];simp
     simp only[List.mem_filter,List.mem_range,Bool.not_eq_true']at hi
     exact⟨i,hi⟩
   obtain⟨i,hi⟩:=this
   obtain⟨m,⟨h1,h2⟩,h3⟩:=ZhQ (p:=fun i=>i<ops.length∧listed.getD i true=false) i hi
   intro hnil
   have hmr:m∈Region.ready .any ops.toArray listed:=mem_ready.2 ⟨h2,ops[m],by simp[h1],fun e hee hb=>by
    have hlt:=hlin m ops[m] (by simp[h1]) e hee hb
    have h4:=h3 e.on (by omega)
    have h5:¬listed.getD e.on true=false:=fun h6=>h4 ⟨by omega,h6⟩
    rw[unl]at h5
    have h6:e.on<listed.size:=by omega
    simpa using(fun h7=>h5 ⟨h6,h7⟩:¬listed.getD e.on false=false)⟩
   rw[hnil]at hmr;cases hmr
  have hlt:t%(Region.ready .any ops.toArray listed).length<(Region.ready .any ops.toArray listed).length:=Nat.mod_lt _ (List.length_pos_iff.2 hne)
  generalize hi:(Region.ready .any ops.toArray listed)[t%(Region.ready .any ops.toArray listed).length]=i
  have hgi:(Region.ready .any ops.toArray listed)[t%(Region.ready .any ops.toArray listed).length]? =some i:=by rw[List.getElem?_eq_getElem hlt,hi]
  have hir:i∈Region.ready .any ops.toArray listed:=List.mem_of_getElem? hgi
  obtain⟨hun,op,hop,hall⟩:=mem_ready.1 hir
  have hop:ops[i]? =some op:=by simpa using hop
  have hil:i<ops.length:=(List.getElem?_eq_some_iff.1 hop).1
  have hgo:Region.linearise.go .any ops.toArray (fuel+1) t listed []=i::Region.linearise.go .any ops.toArray fuel (t/(Region.ready .any ops.toArray listed).length) (listed.setIfInBounds i true) []:=by
   simp only[Region.linearise.go]
   change (match (Region.ready .any ops.toArray listed)[t%(Region.ready .any ops.toArray listed).length]? with
    |some i=>Region.linearise.go .any ops.toArray fuel (t/(Region.ready .any ops.toArray listed).length) (listed.setIfInBounds i true) [i]
    |none=>[].reverse)=_
   rw[hgi]
   dsimp only
   rw[linearise_go_acc,List.reverse_singleton,List.singleton_append]
  have hleft:((List.range ops.length).filter fun j=>!(listed.setIfInBounds i true).getD j true)=((List.range ops.length).filter fun j=>!listed.getD j true).filter fun j=>!Nat.beq j i:=by
   rw[List.filter_filter]
   apply List.filter_congr
   intro j hj
   by_cases hji:j=i
   ·subst hji
    have e1:(listed.setIfInBounds j true).getD j true=true:=by simp[show j<listed.size by omega]
    rw[e1];simp
   ·rw[getD_set_ne true (Ne.symm hji)]
    have e2:Nat.beq j i=false:=by
     cases h:Nat.beq j i with
     |false=>rfl
     |true=>exact absurd (Nat.eq_of_beq_eq_true h) hji
    rw[e2];simp
  have hmem:i∈(List.range ops.length).filter fun j=>!listed.getD j true:=by simp only[List.mem_filter,List.mem_range,Bool.not_eq_true'];exact⟨hil,hun⟩
  have hf':((List.range ops.length).filter fun j=>!(listed.setIfInBounds i true).getD j true).length=fuel:=by
   have hsplit:=Zg4 hil
   have hset:∀j,j≠i→(listed.setIfInBounds i true).getD j true=listed.getD j true:=fun j hj=>getD_set_ne true (Ne.symm hj)
   have hseti:(listed.setIfInBounds i true).getD i true=true:=by simp[show i<listed.size by omega]
   have hf1:((List.range i).filter fun j=>!(listed.setIfInBounds i true).getD j true)=(List.range i).filter fun j=>!listed.getD j true:=by
    apply List.filter_congr
    intro j hj
    have:j<i:=by simpa using hj
    rw[hset j (by omega)]
   have hf2:(((List.range ops.length).drop (i+1)).filter fun j=>!(listed.setIfInBounds i true).getD j true)=((List.range ops.length).drop (i+1)).filter fun j=>!listed.getD j true:=by
    apply List.filter_congr
    intro j hj
    obtain⟨q,hq⟩:=List.mem_iff_getElem?.1 hj
    rw[List.getElem?_drop]at hq
    have hqj:j=i+1+q:=by
     have:=(List.getElem?_eq_some_iff.1 hq).2
     simpa using this.symm
    rw[hset j (by omega)]
   rw[hsplit,List.filter_append,List.filter_cons,if_pos (by simp[hun]),List.length_append,List.length_cons]at hf
   rw[hsplit,List.filter_append,List.filter_cons,if_neg (by simp[hseti]),hf1,hf2,List.length_append]
   omega
  have ih:=Zpj hlin hes fuel (t/(Region.ready .any ops.toArray listed).length) (listed.setIfInBounds i true) (by simpa using hls) (hdn.add hir) hf'
  rw[hgo]
  simp only[ZpN,List.mem_flatMap,List.mem_map]
  refine⟨i,?_,_,by rw[←hleft];exact ih,rfl⟩
  rw[List.mem_filter]
  refine⟨hmem,List.all_eq_true.2 fun e he=>?_⟩
  split
  ·rename_i h2
   have h2:=Nat.eq_of_beq_eq_true h2
   have hw:=hes e he
   rw[h2]at hw
   have h3:=ZcW hdn hw hir
   refine List.all_eq_true.2 fun j hj=>?_
   simp only[List.mem_filter,List.mem_range,Bool.not_eq_true']at hj
   cases hb:Nat.beq j e.1 with
   |false=>rfl
   |true=>
    have hb:=Nat.eq_of_beq_eq_true hb
    rw[hb]at hj
    rw[(unl.1 hj.2).2]at h3;cases h3
  ·rfl
section
variable {C:Ctx}{h h':Zab}{L L':Lay}{w w':World}{Q:List AFrame→Zab→Prop}{f:AFrame}{fs:List AFrame}{k:List AItem}
theorem Zme{fr:List (Nat×Nat)}{ops:List AOp}(hfol:C.P.follows .mixedOrders=true)(hany:Zkq fr=true)(hr:f.ret=false)(ht:f.todo=.code (.reg (some fr) ops)::k)
 (hq:∀σ∈ZpN (fr.drop 1) ops.length (List.range ops.length),Ev C ({ f with todo:=.inReg (ZtE ops σ)::k } ::fs) h Q):Ev C (f::fs) h Q:=by
 intro L fr' cs w hf H _
 cases hf with
 |cons hf hk=>
  rcases hf.mode with⟨e,_⟩ |⟨_,hm,hi⟩
  ·rw[hr]at e;cases e
  ·rw[ht]at hi
   obtain⟨fn,tmps,todo,defers,mode,kind,rnd⟩:=fr'
   cases hi with
   |cons hx hki=>
    cases hx with
    |code _ c hmc=>
     dsimp only at hm;subst hm
     cases c<;>simp only[Za4,Bool.false_eq_true,Bool.and_eq_true,beq_iff_eq]at hmc
     rename_i l id ops' draw
     obtain⟨⟨rfl,hmc⟩,hdr⟩:=hmc
     obtain⟨hlen0,_⟩:=ZcE hmc
     simp only[ZlM,hany,Bool.and_eq_true]at hdr
     obtain⟨hlin,hes⟩:=hdr
     have hlin:=Zfp ops'.toList 0 hlin
     have hcl:=ZeY ops'.toList ops'.toList [] (by simp) (fun j i hi=>by simp at hi)
     have hes:∀e∈fr.drop 1,Waits ops'.toList.toArray e.2 e.1:=fun e he=>hcl _ _ (by simpa using List.all_eq_true.1 hes e he)
     obtain⟨s0,H0⟩:=H.grow (w':=w.drew) ((Below.refl _ _).drew)
     have hall:((List.range ops'.toList.length).filter fun i=>!(Array.replicate ops'.size false).getD i true)=List.range ops'.toList.length:=by
      apply List.filter_eq_self.2
      intro i hi
      have:i<ops'.size:=by simpa using hi
      simp[this]
     have hgo:=Zpj hlin hes ops'.size (w.tape w.drawn (.order fn id)) (Array.replicate ops'.size false) (by simp) (fun j o hj hl=>by
      rcases Nat.lt_or_ge j ops'.size with h1 |h1
      ·simp[h1]at hl
      ·simp[Array.getElem?_eq_none (show (Array.replicate ops'.size false).size≤j by simpa using h1)]at hl) (by rw[hall];simp)
     rw[hall]at hgo
     have hsz:ops'.size=ops.length:=by rw[←hlen0];simp
     have hgo2:=hgo
     rw[hlen0]at hgo2
     rw[hsz]at hgo2
     have hf0:=hf.step s0
     obtain⟨fs2,h2',L2,fr2,cs2,w2,q2,n2,a2,b2,s2⟩:=hq _ hgo2 L { fn,tmps,todo:=.inRegion ops'.toList.toArray (Region.linearise.go .any ops'.toList.toArray ops.length (w.tape w.drawn (.order fn id)) (Array.replicate ops.length false) [])::l,defers,mode:=.run,kind,roundOf:=rnd } cs w.drew
      (.cons ⟨hf0.fn,hf.size,hf0.env,hf0.kind,hf0.defs,hf0.rnd, .inr ⟨hr,rfl, .cons (.inReg ops'.toList _ _ (ZlF hmc _ (fun i hi=>Zom _ _ (fun j hj=>by simpa[hlen0]using hj) _ hgo2 i hi))) (hki.step s0)⟩,hf0.res⟩ (hk.step s0)) H0 (by simp)
     refine⟨fs2,h2',L2,fr2,cs2,w2,q2,n2,a2,b2,?_,(Fr.of s0).trans s2.2⟩
     refine Steps.trans (go1 ?_) s2.1
     rw[←hsz]
     simp[stepG,stepG.exec,choose,Sem.run,Question.forced,Question.cut,Region.schedule,hfol,Region.linearise]
end
def ZCx:Option Fresh→Option Fresh→Bool
 |none,none=>true
 |some x,some y=>match Nat.beq x.e y.e with |true=>(match Nat.beq x.sz y.sz with |true=>ZoY (eqA 8) x.r y.r |false=>false) |false=>false
 |_,_=>false
theorem Zui{x y:Option Fresh}(h:ZCx x y=true):x=y:=by
 cases x<;>cases y<;>simp only[ZCx,Bool.false_eq_true]at h
 ·rfl
 ·rename_i x y
  split at h
  ·rename_i e1
   split at h
   ·rename_i e2
    obtain⟨a,b,c⟩:=x;obtain⟨a',b',c'⟩:=y
    have:=Nat.eq_of_beq_eq_true e1;have:=Nat.eq_of_beq_eq_true e2;have:=ZiX (fun _ _ e=>ZjI e) h
    simp_all
   ·cases h
  ·cases h
def Zq9(f:AFrame):Option (List AOp×List (Nat×Nat)×List AItem):=
 match f.ret with
 |true=>none
 |false=>match f.todo with
  | .code (.reg (some fr) ops)::k=>(match Zkq fr with |true=>some (ops,fr,k) |false=>none)
  |_=>none
def okT(A:Ar)(T:Tab)(K:Con)(n:Nat)(g:FuncId)(r:AV)(fr:Option Fresh):Nat→AFrame→List AFrame→Zab→Bool
 |0,_,_,_=>false
 |d+1,f,fs,h=>match ZjT A T K n [] f fs h with
  |(acc,f',fs',h')=>match Zq9 f' with
   |some (ops,es,k)=>(match acc.all (fun b=>b)with
    |true=>(ZpN (es.drop 1) ops.length (List.range ops.length)).all fun σ=>okT A T K n g r fr d { f' with todo:=.inReg (ZtE ops σ)::k } fs' h'
    |false=>false)
   |none=>match ZA4 A g (acc,f',fs',h')with
    |some (b,r',fr')=>(match b with |true=>(match eqA 8 r' r with |true=>ZCx fr' fr |false=>false) |false=>false)
    |none=>false
theorem ZjF{T:Tab}{K:Con}{C:Ctx}{n:Nat}{g:FuncId}{r:AV}{fr:Option Fresh}(hfol:C.P.follows .mixedOrders=true)(hT:Zbu C.P T)(hK:Zfv C.P K):
 ∀(d:Nat) {f:AFrame} {fs:List AFrame} {h:Zab},okT std T K n g r fr d f fs h=true→Ev C (f::fs) h (Zb3 g r fr)
 |0,_,_,_,h=>by cases h
 |d+1,f,fs,h,ho=>by
  rw[okT]at ho
  generalize hs:ZjT std T K n [] f fs h=s at ho
  obtain⟨acc,f',fs',h'⟩:=s
  have go:(∀b∈acc,b=true)→Ev C (f'::fs') h' (Zb3 g r fr)→Ev C (f::fs) h (Zb3 g r fr):=fun hb hq=>(Zeh hfol hT hK n _ _ _ _ (by rw[hs]) hb hq).2
  dsimp only at ho
  split at ho
  ·rename_i ops es k hany
   split at ho
   ·rename_i hacc
    refine go (fun b hb=>by have:=List.all_eq_true.1 hacc b hb;simpa using this) ?_
    have hr:f'.ret=false∧f'.todo=.code (.reg (some es) ops)::k∧Zkq es=true:=by
     unfold Zq9 at hany
     split at hany
     ·cases hany
     ·rename_i hret
      split at hany
      ·rename_i fr1 ops1 k1 htodo
       split at hany
       ·rename_i hi
        simp only[Option.some.injEq,Prod.mk.injEq]at hany
        obtain⟨rfl,rfl,rfl⟩:=hany
        exact⟨hret,htodo,hi⟩
       ·cases hany
      ·cases hany
    exact Zme hfol hr.2.2 hr.1 hr.2.1 (fun σ hσ=>ZjF hfol hT hK d (List.all_eq_true.1 ho σ hσ))
   ·cases ho
  ·split at ho
   ·rename_i b r' fr' hfin
    split at ho
    ·split at ho
     ·rename_i e1
      have e1:=ZjI e1
      have e2:=Zui ho
      subst e1;subst e2
      obtain⟨acc2,g2,h2,hs2,hacc,hq⟩:=ZjK hfin
      simp only[Prod.mk.injEq]at hs2
      obtain⟨rfl,rfl,rfl,rfl⟩:=hs2
      exact go (fun b hb=>by have:=List.all_eq_true.1 hacc b hb;simpa using this) (.now (by simp) hq)
     ·cases ho
    ·cases ho
   ·cases ho
def Zyf(A:Ar)(T:Tab)(K:Con)(n d:Nat)(f:FuncId)(args:List AV)(r:AV)(fr:Option Fresh):Bool:=
 match Zat T f args with
 |none=>false
 |some af=>okT A T K n f r fr d af [] []
theorem ZlK{P:Program}{T:Tab}(hfol:P.follows .mixedOrders=true)(hT:Zbu P T){l:List Fact}(hl:Zi7 P l){n d:Nat}{f:FuncId}{args:List AV}{r:AV}{fr:Option Fresh}
 (h:Zyf ZnO T (Zwo l) n d f args r fr=true):Zan P f args r fr:=by
 rw[Zmq]at h
 unfold Zyf at h
 split at h
 ·cases h
 ·rename_i af haf
  exact Zfe hT haf (fun w okA cs=>ZjF (C:=Ctx.of P w okA cs) hfol hT (Zjh hl) d h)
end Go.Proofs.YtkeoeooghhjibaaGreatDoor
