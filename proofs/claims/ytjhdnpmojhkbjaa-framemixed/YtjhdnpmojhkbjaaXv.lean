/- Runs of the machine; a contract out of a run. No condition. -/
import Derived.Test.YtjhdnpmojhkbjaaXs
namespace Go.Proofs.Ytjhdnpmojhkbjaa
open Go.RowKit (Below)
def ZxB(f:AFrame):Bool:=
 match f.ret with
 |true=>false
 |false=>match f.todo with
  |it::_=>(match it with
   | .code c=>(match c with | .gh gs _=>(match gs with |[]=>true |_=>false) |_=>false)
   |_=>false)
  |[]=>false
abbrev ASt:=List Bool×AFrame×List AFrame×Zaa
def ZKn(A:Ar)(T:Tab)(K:Con)(stop:Bool):Nat→List Bool→AFrame→List AFrame→Zaa→ASt
 |0,acc,f,fs,h=>(acc,f,fs,h)
 |n+1,acc,f,fs,h=>match Zhw A T K acc f fs h with
  |none=>(acc,f,fs,h)
  |some (acc',f',fs',h')=>match stop with
   |false=>ZKn A T K stop n acc' f' fs' h'
   |true=>match ZxB f with
    |true=>(acc',f',fs',h')
    |false=>ZKn A T K stop n acc' f' fs' h'
section
variable {C:Ctx}{T:Tab}{K:Con}{h h':Zaa}{f f':AFrame}{fs fs':List AFrame}{k:List AItem}{Q:List AFrame→Zaa→Prop}{acc acc':List Bool}
def ZJr:List AV→Option (Nat×Nat)
 |[]=>none
 | .row a i::_=>some (a,i)
 |_::xs=>ZJr xs
def ZoF(a i:Nat):AV→AV
 | .row b j=>match Nat.beq b a with |true=>(match Nat.beq j i with |true=>.row 0 0 |false=>.top) |false=>.top
 |v=>v
def ZoC(h:Zaa)(p:Nat×Nat)(v:AV):Option (AV×Option Fresh):=
 match blk h p.1 p.2 with
 | .row e sz r=>(match r.pure with
   |true=>(match Zr6 v with |true=>some (v,some ⟨e,sz,r⟩) |false=>none)
   |false=>none)
 |_=>none
def ZmU(p:Nat×Nat):List AV→Bool
 |[]=>true
 | .row a i::xs=>match Nat.beq a p.1 with |true=>(match Nat.beq i p.2 with |true=>ZmU p xs |false=>false) |false=>false
 |_::xs=>ZmU p xs
def ZmY(h:Zaa):AV→Option (AV×Option Fresh)
 | .tup xs=>match ZJr xs with
   |none=>(match AV.pureL xs with |true=>some (.tup xs,none) |false=>none)
   |some p=>match ZmU p xs with |true=>ZoC h p (.tup (xs.map (ZoF p.1 p.2))) |false=>none
 | .row a i=>ZoC h (a,i) (.row 0 0)
 |v=>match v.pure with |true=>some (v,none) |false=>none
def ZwI:AV→Bool
 | .slc .. =>false
 | .aslc .. =>false
 | .ptr .. =>false
 | .fn .. =>false
 |_=>true
def ZvS:AV→Bool
 | .tup xs=>xs.all ZwI
 |v=>ZwI v
def ZIq(h:Zaa):AV→Option (AV×Option Fresh)
 | .tup xs=>match ZkW std (Zb1 std h 4) xs with |some (b,ys)=>(match b with |true=>some (.tup ys,none) |false=>none) |none=>none
 |v=>match Zb1 std h 4 v with |some (b,u)=>(match b with |true=>some (u,none) |false=>none) |none=>none
def ZiN(h:Zaa)(v:AV):Option (AV×Option Fresh):=
 match ZmY h v with
 |some r=>some r
 |none=>match ZvS v with |true=>ZIq h v |false=>none
theorem HRel.nil{L L':Lay}{w:World}(H:HRel C h L w):HRel C [] L' w:=
 ⟨H.below,fun _ _ ht=>absurd rfl ht,fun _ _=>trivial,fun _ _ _ _ ht=>absurd rfl ht,fun _ _ ht=>absurd rfl ht,H.low,H.base⟩
theorem ZaX(f:Fresh)(a i:Nat):blk (Zaj (some f)) a i=if a=0∧i=0 then .row f.e f.sz f.r else .dead:=by
 by_cases ha:a=0
 ·subst ha
  by_cases hi:i=0
  ·subst hi;rfl
  ·rw[if_neg (by simp[hi])]
   exact Zlx (by show 0+1≤i;omega)
 ·rw[if_neg (by simp[ha])]
  have:ZaJ (Zaj (some f)) a=none:=by
   have hb:Nat.beq 0 a=false:=by cases hb:Nat.beq 0 a with |false=>rfl |true=>exact absurd (Nat.eq_of_beq_eq_true hb).symm ha
   simp[Zaj,ZaJ,hb]
  unfold blk fam
  rw[this]
  exact Zlx (h:=[]) (a:=0) (Nat.zero_le _)
theorem ZqZ{L:Lay}{w:World}(H:HRel C h L w){a i e sz:Nat}{r:Row}(hb:blk h a i=.row e sz r)(hp:r.pure=true):∃L',HRel C (Zaj (some ⟨e,sz,r⟩)) L' w∧(∀g,Zas C h L g→Zas C (Zaj (some ⟨e,sz,r⟩)) L' g)∧
 ∀x,ZaB C h L w (.row a i) x→ZaB C (Zaj (some ⟨e,sz,r⟩)) L' w (.row 0 0) x:=by
 obtain⟨ht,h0,h1,h2,h3,cur,h4,h5,h6,h7,h8⟩:=H.rowAt hb
 refine⟨⟨fun _ _=>L.loc a i,fun _ _=>L.size a i⟩,?_,?_,?_⟩
 ·have hok:∀g,Zas C h L g→Zas C (Zaj (some ⟨e,sz,r⟩)) ⟨fun _ _=>L.loc a i,fun _ _=>L.size a i⟩ g:=fun g ho=>by
   rcases ho with ho |⟨q1,q2⟩
   ·exact .inl ho
   ·exact .inr ⟨q1,fun b j _=>q2 a i (by rw[ht];simp)⟩
  refine⟨H.below,fun b j _=>H.live a i (by rw[ht];simp),fun b j=>?_,fun b j c k hb1 hb2 _=>?_,fun b j hb1=>?_,H.low,H.base⟩
  rotate_right
  ·rw[ZaX]at hb1
   split at hb1
   ·rename_i e1
    rcases H.home a i (by rw[ht];simp)with h9 |⟨_,_,h9⟩
    ·exact .inl h9
    ·exact .inr ⟨e1.1,e1.2,h9⟩
   ·exact absurd rfl hb1
  ·rw[ZaX]
   split
   ·exact⟨h0,h1,h2,h3,cur,h4,h5,⟨h6.1,fun j u v hu hv=>((h6.2 j u v hu hv).okmono (fun g _ ho=>hok g ho)).pure (AV.pureL_mem (ZaD hp) hu)⟩,h7⟩
   ·trivial
  ·rw[ZaX]at hb1 hb2
   split at hb1
   ·split at hb2
    ·rename_i e1 e2;exact⟨e1.1.trans e2.1.symm,e1.2.trans e2.2.symm⟩
    ·exact absurd rfl hb2
   ·exact absurd rfl hb1
 ·intro g ho
  rcases ho with ho |⟨q1,q2⟩
  ·exact .inl ho
  ·exact .inr ⟨q1,fun b j _=>q2 a i (by rw[ht];simp)⟩
 ·intro x hx
  cases hx with
  |row _ _ g o n c hn hl=>
   have:=hl.2 _ ht
   refine .row 0 0 g o n c hn ⟨by show 0<0+1;omega,fun sz' hsz'=>?_⟩
   rw[ZaX]at hsz'
   simp only[and_self,if_true,Blk.tag,Option.some.injEq]at hsz'
   subst hsz'
   exact this
theorem ZrA{L L':Lay}{w:World}{a i:Nat}{h2:Zaa}(hok:∀g,Zas C h L g→Zas C h2 L' g)(hrow:∀x,ZaB C h L w (.row a i) x→ZaB C h2 L' w (.row 0 0) x){v:AV}{x:Value}(hr:ZaB C h L w v x)(hp:Zni (ZoF a i v)=true):ZaB C h2 L' w (ZoF a i v) x:=by
 have base:∀ {v:AV},ZaB C h L w v x→v.pure=true→ZaB C h2 L' w v x:=fun hr hp=>(hr.okmono (fun g _ ho=>hok g ho)).pure hp
 unfold ZoF at hp⊢
 split
 ·rename_i b j
  split
  ·rename_i hba
   split
   ·rename_i hji
    have:=Nat.eq_of_beq_eq_true hba
    have:=Nat.eq_of_beq_eq_true hji
    subst b;subst j
    exact hrow x hr
   ·exact .top _
  ·exact .top _
 ·rename_i hne
  have hpp:v.pure=true:=by
   cases v<;>first |exact hp |exact absurd rfl (hne _ _)
  exact base hr hpp
theorem Zkh{L:Lay}{w:World}(H:HRel C h L w){v r:AV}{fr:Option Fresh}{x:Value}(hr:ZaB C h L w v x)(he:ZmY h v=some (r,fr)):∃L',HRel C (Zaj fr) L' w∧ZaB C (Zaj fr) L' w r x:=by
 have base:∀ {v:AV},ZaB C h L w v x→v.pure=true→∃L',HRel C (Zaj none) L' w∧ZaB C (Zaj none) L' w v x:=fun hr hp=>⟨L,H.nil,(hr.okmono (fun g _ ho=>Zcb ho)).pure hp⟩
 unfold ZmY at he
 split at he
 ·rename_i xs
  split at he
  ·split at he
   ·rename_i hp
    cases he
    exact base hr (by simpa[AV.pure]using hp)
   ·cases he
  ·rename_i p hp
   split at he
   case h_2=>cases he
   unfold ZoC at he
   split at he
   ·rename_i e sz rr hb
    split at he
    ·rename_i hrp
     split at he
     ·rename_i hpt
      cases he
      obtain⟨L',H',hok,hrow⟩:=ZqZ H hb hrp
      refine⟨L',H',?_⟩
      cases hr with
      |tup _ vs hl hh=>
       refine .tup _ vs (by simpa using hl) (fun j u v hu hv=>?_)
       rw[List.getElem?_map]at hu
       cases hx:xs[j]? with
       |none=>rw[hx]at hu;cases hu
       |some u0=>
        rw[hx]at hu
        simp only[Option.map_some,Option.some.injEq]at hu
        subst hu
        refine ZrA hok hrow (hh j u0 v hx hv) ?_
        simp only[Zr6,List.all_eq_true,List.mem_map,forall_exists_index,and_imp,forall_apply_eq_imp_iff₂]at hpt
        exact hpt u0 (List.mem_of_getElem? hx)
     ·cases he
    ·cases he
   ·cases he
 ·rename_i a i
  unfold ZoC at he
  split at he
  ·rename_i e sz rr hb
   split at he
   ·rename_i hrp
    split at he
    ·cases he
     obtain⟨L',H',hok,hrow⟩:=ZqZ H hb hrp
     exact⟨L',H',hrow x hr⟩
    ·cases he
   ·cases he
  ·cases he
 ·split at he
  ·rename_i hp;cases he;exact base hr hp
  ·cases he
theorem Zme{L:Lay}{w:World}(H:HRel C h L w){v r:AV}{fr:Option Fresh}{x:Value}(hr:ZaB C h L w v x)(he:ZiN h v=some (r,fr)):∃L',HRel C (Zaj fr) L' w∧ZaB C (Zaj fr) L' w r x:=by
 unfold ZiN at he
 split at he
 ·rename_i q hq
  cases he
  exact Zkh H hr hq
 ·rename_i hnone
  clear hnone
  generalize ZvS v=ww at he
  cases ww
  case false=>cases he
  dsimp only at he
  unfold ZIq at he
  split at he
  ·rename_i xs
   split at he
   ·rename_i b ys hm
    split at he
    ·cases he
     refine⟨L,H.nil,?_⟩
     cases hr with
     |tup _ vs hl hh=>
      obtain⟨g1,g2⟩:=Zdy hm
      refine .tup _ vs (by rw[←g1];exact hl) (fun j u v hu hv=>?_)
      have hlt:j<xs.length:=by rw[g1];exact(List.getElem?_eq_some_iff.1 hu).1
      exact Zgd H 4 _ _ _ (hh j _ v (List.getElem?_eq_getElem hlt) hv) (g2 j _ u (List.getElem?_eq_getElem hlt) hu)
    ·cases he
   ·cases he
  ·split at he
   ·rename_i b u hm
    split at he
    ·cases he
     exact⟨L,H.nil,Zgd H 4 _ _ _ hr hm⟩
    ·cases he
   ·cases he
def ZrR(A:Ar)(h:Zaa):AV→Bool×AV
 | .slc a i k n c=>match Nat.beq k 0,c with
   |true,none=>(match blk h a i with | .row _ _ r=>(Nat.beq n (r.len A), .row a i) |_=>(true, .slc a i k n none))
   |_,c=>(true, .slc a i k n c)
 |v=>(true,v)
def Zd8(A:Ar)(h:Zaa):List AV→Bool×List AV
 |[]=>(true,[])
 |v::vs=>match ZrR A h v,Zd8 A h vs with |(b,u),(c,us)=>(Zab b c,u::us)
def Ztp(A:Ar)(env:List (Nat×AV))(h:Zaa)(rs:List ARes):Option (Bool×List AV):=
 match ZgS A env h rs with
 |some (b,vs)=>match Zd8 A h vs with |(c,us)=>some (Zab b c,us)
 |none=>none
theorem Zpc{L:Lay}{w:World}(H:HRel C h L w){v u:AV}{x:Value}(hw:ZrR std h v=(true,u))(hr:ZaB C h L w v x):ZaB C h L w u x:=by
 unfold ZrR at hw
 split at hw
 ·rename_i a i k n c
  split at hw
  ·rename_i hk
   have hk:=Nat.eq_of_beq_eq_true hk
   subst hk
   split at hw
   ·rename_i e sz r hb
    simp only[Prod.mk.injEq]at hw
    obtain⟨hn,rfl⟩:=hw
    have hn:n=r.elems.length:=by rw[Row.len_std]at hn;simpa[std]using hn
    have htg:=H.tagAt hb
    cases hr with
    |slc _ _ _ _ _ g o c hnc hl=>
     rcases hl.2 _ htg with⟨hne,_⟩ |⟨rfl,rfl,hc1,hc2⟩
     ·exact absurd rfl hne
     ·refine .row a i _ _ n c hnc ⟨hl.1,fun s hs=>?_⟩
      rw[htg]at hs
      cases hs
      exact⟨rfl,by simp,hn,by simpa using hc2⟩
   ·cases hw;exact hr
  ·cases hw;exact hr
 ·cases hw;exact hr
theorem ZgE{L:Lay}{w:World}(H:HRel C h L w):∀ {vs us:List AV} {xs:List Value},Zd8 std h vs=(true,us)→RelL w (Zas C h L) h L vs xs→RelL w (Zas C h L) h L us xs
 |[],us,xs,hw,hr=>by
  simp only[Zd8,Prod.mk.injEq]at hw
  rw[←hw.2];exact hr
 |v::vs,us,xs,hw,hr=>by
  simp only[Zd8,Prod.mk.injEq,std_and]at hw
  obtain⟨⟨h1,h2⟩,rfl⟩:=hw
  cases xs with
  |nil=>have:=hr.1;simp at this
  |cons x xs=>
   refine RelL.cons (Zpc H (v:=v) (by rw[←h1]) (hr.2 0 v x rfl rfl)) (ZgE H (vs:=vs) (by rw[←h2]) ⟨by have:=hr.1;simpa using this,fun j a b ha hb=>hr.2 (j+1) a b (by simpa using ha) (by simpa using hb)⟩)
theorem Zj0(h:Zaa):∀ {vs us:List AV} {b:Bool},Zd8 std h vs=(b,us)→us.length=vs.length
 |[],us,b,hw=>by
  simp only[Zd8,Prod.mk.injEq]at hw
  rw[←hw.2]
 |v::vs,us,b,hw=>by
  simp only[Zd8,Prod.mk.injEq]at hw
  rw[←hw.2,List.length_cons,List.length_cons,Zj0 h (vs:=vs) rfl]
theorem Zo6{L:Lay}{w:World}(H:HRel C h L w){vs us:List AV}{x:Value}(hw:Zd8 std h vs=(true,us))(hr:ZaB C h L w (Zhv vs) x):ZaB C h L w (Zhv us) x:=by
 have hl:=Zj0 h hw
 have tup:∀ {vs us:List AV},Zd8 std h vs=(true,us)→us.length=vs.length→ZaB C h L w (.tup vs) x→ZaB C h L w (.tup us) x:=fun hw hl hr=>by
  cases hr with
  |tup _ xs h1 h2=>
   have:=ZgE H hw (xs:=xs.toList) ⟨by simpa using h1,fun j u v hu hv=>h2 j u v hu (by simpa using hv)⟩
   exact .tup _ xs (by rw[hl];exact h1) (fun j u v hu hv=>this.2 j u v hu (by simpa using hv))
 match vs,us,hl with
 |[],[],_=>exact hr
 |[v],[u],_=>
  have:=ZgE H hw (xs:=[x]) (RelL.cons hr RelL.nil)
  exact this.2 0 u x rfl rfl
 |v::v2::vs,u::u2::us,hl=>exact tup hw hl hr
def ZdV(f:FuncId)(r:AV)(fr:Option Fresh)(fs:List AFrame)(h:Zaa):Prop:=
 ∃g vs,fs=[g]∧g.fn=f∧g.ret=true∧g.rnd=none∧g.defs=[]∧Ztp std g.env h g.res=some (true,vs)∧ZiN h (Zhv vs)=some (r,fr)
theorem Zjj{P:Program}{T:Tab}(hT:Zch P T){f:FuncId}{args:List AV}{af:AFrame}{r:AV}{fr:Option Fresh}(he:Zak T f args=some af)
 (hq:∀w okA cs,Ev (Ctx.of P w okA cs) [af] [] (ZdV f r fr)):ZaH P f args r fr:=by
 intro w okA L vs hargs hok cs
 have H0:HRel (Ctx.of P w okA cs) [] L w:=⟨Below.refl _ _,fun _ _ ht=>absurd rfl ht,fun _ _=>trivial,fun _ _ _ _ ht=>absurd rfl ht,fun _ _ ht=>absurd rfl ht,fun _ _ _=>rfl,Nat.le_refl _⟩
 obtain⟨hfr,_⟩:=Zf3 (C:=(Ctx.of P w okA cs)) (h:=[]) (L:=L) (w:=w) hT he (by
  refine⟨hargs.1,fun j u v hu hv=>(hargs.2 j u v hu hv).okmono (fun g hg ho=>.inl ⟨hok g ho,ho⟩)⟩)
 obtain⟨fs',h',L',fr',cs',w',⟨g,us,rfl,hfn,hret,hrnd,hdefs,hc,hex⟩,_,hf',H',hst,_⟩:=hq w okA cs L _ cs w (.cons hfr .base) H0 (by simp)
 cases hf' with
 |cons hf' hk=>
  cases hk
  obtain⟨fn,hfn',hmr⟩:=hf'.res hrnd
  obtain⟨vs0,hc0,hwl⟩:∃vs0,ZgS std g.env h' g.res=some (true,vs0)∧Zd8 std h' vs0=(true,us):=by
   unfold Ztp at hc
   split at hc
   ·rename_i b vs hq
    generalize hz:Zd8 std h' vs=z at hc
    obtain⟨c,us'⟩:=z
    simp only[Option.some.injEq,Prod.mk.injEq,std_and]at hc
    obtain⟨⟨rfl,rfl⟩,rfl⟩:=hc
    exact⟨vs,hq,hz⟩
   ·cases hc
  obtain⟨x,e1,e2⟩:=Zfv H' hf'.env hmr hc0
  replace e2:=Zo6 H' hwl e2
  obtain⟨L2,H2,r2⟩:=Zme H' e2 hex
  have hnew:ZB4 fr=false:=by
   cases fr with
   |none=>rfl
   |some f=>
    have hbr:=H2.blks 0 0
    rw[show blk (Zaj (some f)) 0 0=.row f.e f.sz f.r from rfl]at hbr
    have:=hbr.1
    show Nat.beq f.sz 0=false
    cases hb:Nat.beq f.sz 0 with
    |false=>rfl
    |true=>have:=Nat.eq_of_beq_eq_true hb;omega
  refine⟨.returned x,w',fr',⟨x,L2,rfl,H2.below,by unfold Zk3;rw[hnew];exact⟨⟨H2.below,H2.live,H2.blks,H2.inj,H2.home,H2.low,H2.base⟩,r2⟩⟩,hst,hf'.fn.trans hfn,?_⟩
  rcases hf'.mode with⟨_,hm⟩ |⟨e,_⟩
  ·refine⟨hm,?_,hf'.kind,fn,?_,e1⟩
   ·obtain⟨gs,g1,g2,_⟩:=hf'.defs
    rw[hdefs]at g2
    rw[g1,List.eq_nil_of_length_eq_zero g2];rfl
   ·rw[hf'.fn];exact hfn'
  ·rw[hret]at e;cases e
end
end Go.Proofs.Ytjhdnpmojhkbjaa
/- A function called at given values, run to its end. No condition. -/
namespace Go.Proofs.Ytjhdnpmojhkbjaa
open Go.RowKit (Below)
def ZKO(A:Ar)(f:FuncId)(s:ASt):Option (Bool×AV×Option Fresh):=
 match s with
 |(acc,g,fs,h)=>match fs with
  |_::_=>none
  |[]=>match g.ret&&Nat.beq g.fn f with
   |false=>none
   |true=>match g.rnd with
    |some _=>none
    |none=>match g.defs with
     |_::_=>none
     |[]=>match Ztp A g.env h g.res with
      |none=>none
      |some (b,vs)=>match ZiN h (Zhv vs)with
       |none=>none
       |some (r,fr)=>match acc.all (fun b=>b)with
        |true=>(match b with |true=>some (true,r,fr) |false=>none)
        |false=>none
section
variable {P:Program}{T:Tab}{K:Con}
theorem ZqM{f:FuncId}{s:ASt}{r:AV}{fr:Option Fresh}(h:ZKO std f s=some (true,r,fr)):∃acc g h',s=(acc,g,[],h')∧acc.all (fun b=>b)=true∧ZdV f r fr [g] h':=by
 obtain⟨acc,g,fs,hp⟩:=s
 unfold ZKO at h
 dsimp only at h
 split at h
 ·cases h
 ·split at h
  ·cases h
  ·rename_i hg
   simp only[Bool.and_eq_true]at hg
   split at h
   ·cases h
   ·rename_i hn
    split at h
    ·cases h
    ·rename_i hd
     split at h
     ·cases h
     ·rename_i b vs hc
      split at h
      ·cases h
      ·rename_i r' fr' hex
       split at h
       ·rename_i hacc
        cases b
        case false=>cases h
        simp only[Option.some.injEq,Prod.mk.injEq,true_and]at h
        obtain⟨rfl,rfl⟩:=h
        exact⟨acc,g,hp,rfl,hacc,g,vs,rfl,Nat.eq_of_beq_eq_true hg.2,hg.1,hn,hd,hc,hex⟩
       ·cases h
end
end Go.Proofs.Ytjhdnpmojhkbjaa
/- The same arithmetic, ZoS for the kernel. No condition. -/
namespace Go.Proofs.Ytjhdnpmojhkbjaa
def Q.addI:Int→Int→Int
 | .ofNat a, .ofNat b=>.ofNat (Nat.add a b)
 |a,b=>a+b
def Q.subI:Int→Int→Int
 | .ofNat a, .ofNat b=>(match Nat.ble b a with |true=>.ofNat (Nat.sub a b) |false=>.negSucc (Nat.pred (Nat.sub b a)))
 |a,b=>a-b
def Q.mulI:Int→Int→Int
 | .ofNat a, .ofNat b=>.ofNat (Nat.mul a b)
 |a,b=>a*b
def Q.ltI:Int→Int→Bool
 | .ofNat a, .ofNat b=>Nat.blt a b
 | .ofNat _, .negSucc _=>false
 | .negSucc _, .ofNat _=>true
 | .negSucc a, .negSucc b=>Nat.blt b a
def Q.leI:Int→Int→Bool
 | .ofNat a, .ofNat b=>Nat.ble a b
 | .ofNat _, .negSucc _=>false
 | .negSucc _, .ofNat _=>true
 | .negSucc a, .negSucc b=>Nat.ble b a
def Q.eqI:Int→Int→Bool
 | .ofNat a, .ofNat b=>Nat.beq a b
 | .ofNat _, .negSucc _=>false
 | .negSucc _, .ofNat _=>false
 | .negSucc a, .negSucc b=>Nat.beq a b
def Q.inR:IntKind→Int→Bool
 | .i64, .ofNat a=>Nat.ble a 9223372036854775807
 | .i64, .negSucc a=>Nat.ble a 9223372036854775807
 |k,n=>decide (k.min≤n∧n≤k.max)
def ZoS:Ar:={ std with
 add:=Q.addI,sub:=Q.subI,mul:=Q.mulI,lt:=Q.ltI,le:=Q.leI,eq:=Q.eqI,inR:=Q.inR }
theorem Zt1:ZoS=std:=by
 have hb:∀a b:Nat,Nat.beq a b=decide (a=b):=fun a b=>by rw[Bool.eq_iff_iff];simp
 have hl:∀a b:Nat,Nat.ble a b=decide (a≤b):=fun a b=>by rw[Bool.eq_iff_iff];simp
 have ht:∀a b:Nat,Nat.blt a b=decide (a<b):=fun a b=>by rw[Bool.eq_iff_iff];simp
 have dec:∀ {p q:Prop} [Decidable p] [Decidable q],(p↔q)→decide p=decide q:=fun h=>by simp[h]
 have decF:∀ {p:Prop} [Decidable p],¬p→false=decide p:=fun h=>by simp[h]
 have decT:∀ {p:Prop} [Decidable p],p→true=decide p:=fun h=>by simp[h]
 have h1:Q.addI=fun a b=>a+b:=by funext a b;cases a<;>cases b<;>rfl
 have h2:Q.subI=fun a b=>a-b:=by
  funext a b
  cases a with
  |ofNat a=>
   cases b with
   |ofNat b=>
    simp only[Q.subI,hl]
    by_cases h:b≤a
    ·simp only[h,decide_true,Int.ofNat_eq_natCast];exact Int.ofNat_sub h
    ·simp only[h,decide_false,Int.negSucc_eq,Int.ofNat_eq_natCast,Nat.pred_eq_sub_one,Nat.sub_eq];omega
   |negSucc b=>rfl
  |negSucc a=>cases b<;>rfl
 have h3:Q.mulI=fun a b=>a*b:=by funext a b;cases a<;>cases b<;>rfl
 have h4:Q.ltI=fun a b=>decide (a<b):=by
  funext a b
  cases a<;>cases b<;>simp only[Q.ltI,ht,Int.ofNat_eq_natCast,Int.negSucc_eq]
  ·exact dec (by omega)
  ·exact decF (by omega)
  ·exact decT (by omega)
  ·exact dec (by omega)
 have h5:Q.leI=fun a b=>decide (a≤b):=by
  funext a b
  cases a<;>cases b<;>simp only[Q.leI,hl,Int.ofNat_eq_natCast,Int.negSucc_eq]
  ·exact dec (by omega)
  ·exact decF (by omega)
  ·exact decT (by omega)
  ·exact dec (by omega)
 have h6:Q.eqI=fun a b=>decide (a=b):=by
  funext a b
  cases a<;>cases b<;>simp only[Q.eqI,hb,Int.ofNat_eq_natCast,Int.negSucc_eq]
  ·exact dec (by omega)
  ·exact decF (by omega)
  ·exact decF (by omega)
  ·exact dec (by omega)
 have h7:Q.inR=fun k n=>decide (k.min≤n∧n≤k.max):=by
  funext k n
  have e1:IntKind.i64.min= -9223372036854775808:=by decide
  have e2:IntKind.i64.max=9223372036854775807:=by decide
  unfold Q.inR
  split
  ·simp only[hl,Int.ofNat_eq_natCast]
   exact dec (by rw[e1,e2];omega)
  ·simp only[hl,Int.negSucc_eq]
   exact dec (by rw[e1,e2];omega)
  ·rfl
 unfold ZoS
 rw[h1,h2,h3,h4,h5,h6,h7]
 rfl
end Go.Proofs.Ytjhdnpmojhkbjaa
namespace Go.Proofs.Ytjhdnpmojhkbjaa
inductive FTree where
 |leaf
 |node (l:FTree) (k:Nat) (v:AFunc) (r:FTree)
def FTree.find:FTree→Nat→Option AFunc
 | .leaf,_=>none
 | .node l k v r,f=>match Nat.beq f k with |true=>some v |false=>match Nat.blt f k with |true=>l.find f |false=>r.find f
def FTree.All(P:Program):FTree→Prop
 | .leaf=>True
 | .node l k v r=>l.All P∧Zao P k v=true∧r.All P
theorem FTree.ok{P:Program} :∀ {t:FTree},t.All P→Zch P t.find
 | .leaf,_,f,af,h=>by cases h
 | .node l k v r,⟨h1,h2,h3⟩,f,af,h=>by
   simp only[FTree.find]at h
   split at h
   ·rename_i e
    have e:f=k:=Nat.eq_of_beq_eq_true e
    cases h;rw[e];exact h2
   ·split at h
    ·exact FTree.ok h1 f af h
    ·exact FTree.ok h3 f af h
end Go.Proofs.Ytjhdnpmojhkbjaa
/- Runs that keep their states small, for the kernel. No condition. -/
namespace Go.Proofs.Ytjhdnpmojhkbjaa
section
variable {β:Type}
def fN(n:Nat)(k:Nat→β):β:=match n with |0=>k 0 |m+1=>k (Nat.succ m)
def fZ(z:Int)(k:Int→β):β:=match z with | .ofNat n=>fN n fun n=>k (.ofNat n) | .negSucc n=>fN n fun n=>k (.negSucc n)
def fB(b:Bool)(k:Bool→β):β:=match b with |true=>k true |false=>k false
def fL{α:Type}(fa:α→(α→β)→β):List α→(List α→β)→β
 |[],k=>k []
 |x::xs,k=>fa x fun x=>fL fa xs fun xs=>k (x::xs)
def ZJS(fa:AV→(AV→β)→β)(r:Row)(k:Row→β):β:=
 match r with
 | .ints kd l=>fL fZ l fun l=>k (.ints kd l)
 | .flts kd l=>fL fN l fun l=>k (.flts kd l)
 | .gen xs=>fL fa xs fun xs=>k (.gen xs)
 | .big sh xs=>fL fa xs fun xs=>k (.big sh xs)
def fA:Nat→AV→(AV→β)→β
 |0,v,k=>k v
 |d+1,v,k=>match v with
  | .int kd n=>fZ n fun n=>k (.int kd n)
  | .bool b=>fB b fun b=>k (.bool b)
  | .list r=>ZJS (fA d) r fun r=>k (.list r)
  | .agg r=>ZJS (fA d) r fun r=>k (.agg r)
  | .tup xs=>fL (fA d) xs fun xs=>k (.tup xs)
  | .fn f xs=>fL (fA d) xs fun xs=>k (.fn f xs)
  | .eptr u o=>fA d u fun u=>fN o fun o=>k (.eptr u o)
  | .ptr a i j o=>fN i fun i=>fN j fun j=>fN o fun o=>k (.ptr a i j o)
  | .row a i=>fN i fun i=>k (.row a i)
  | .slc a i j n c=>fN i fun i=>fN j fun j=>fN n fun n=>(match c with |none=>k (.slc a i j n none) |some c=>fN c fun c=>k (.slc a i j n (some c)))
  | .aslc a i j o n=>fN i fun i=>fN j fun j=>fN o fun o=>fN n fun n=>k (.aslc a i j o n)
  | .yld a i=>fN i fun i=>k (.yld a i)
  |v=>k v
def ZKr(b:Blk)(k:Blk→β):β:=
 match b with
 | .row e sz r=>ZJS (fA 3) r fun r=>k (.row e sz r)
 |b=>k b
def ZMV(f:Fam)(k:Fam→β):β:=match f with |⟨b,l⟩=>fN b fun b=>fL ZKr l fun l=>k ⟨b,l⟩
def Zzd(h:Zaa)(k:Zaa→β):β:=fL (fun p k=>match p with |(a,f)=>ZMV f fun f=>k (a,f)) h k
def ZN7(e:List (Nat×AV))(k:List (Nat×AV)→β):β:=fL (fun p k=>match p with |(t,v)=>fA 4 v fun v=>k (t,v)) e k
def fO(o:Option (Nat×Nat))(k:Option (Nat×Nat)→β):β:=match o with |none=>k none |some p=>match p with |(a,i)=>fN a fun a=>fN i fun i=>k (some (a,i))
def fH{α:Type}(l:List α)(k:List α→β):β:=match l with |[]=>k [] |x::xs=>k (x::xs)
def fFr(f:AFrame)(k:AFrame→β):β:=
 match f with
 |⟨fn,N,env,todo,defs,rnd,ret,res⟩=>fN fn fun fn=>fN N fun N=>fH defs fun defs=>fO rnd fun rnd=>fB ret fun ret=>fH res fun res=>k ⟨fn,N,env,todo,defs,rnd,ret,res⟩
def ZuN(f:AFrame)(k:AFrame→β):β:=
 match f with
 |⟨fn,N,env,todo,defs,rnd,ret,res⟩=>ZN7 env fun env=>k ⟨fn,N,env,todo,defs,rnd,ret,res⟩
theorem ZiU(n:Nat)(k:Nat→β):fN n k=k n:=by cases n<;>rfl
theorem ZCi(z:Int)(k:Int→β):fZ z k=k z:=by cases z<;>simp only[fZ,ZiU]
theorem ZGo(b:Bool)(k:Bool→β):fB b k=k b:=by cases b<;>rfl
theorem Zi3{α:Type}{fa:α→(α→β)→β}(hf:∀x k,fa x k=k x):∀(l:List α) (k:List α→β),fL fa l k=k l
 |[],k=>rfl
 |x::xs,k=>by simp only[fL,hf];exact Zi3 hf xs _
theorem Zm7{fa:AV→(AV→β)→β}(hf:∀x k,fa x k=k x)(r:Row)(k:Row→β):ZJS fa r k=k r:=by
 cases r with
 |gen xs=>exact Zi3 hf xs _
 |ints kd l=>exact Zi3 ZCi l _
 |flts kd l=>exact Zi3 ZiU l _
 |big sh xs=>exact Zi3 hf xs _
theorem Zys:∀(d:Nat) (v:AV) (k:AV→β),fA d v k=k v
 |0,v,k=>rfl
 |d+1,v,k=>by
  have ih:=Zys d
  cases v with
  |int kd n=>simp only[fA,ZCi]
  |bool b=>simp only[fA,ZGo]
  |list r=>simp only[fA,Zm7 ih]
  |agg r=>simp only[fA,Zm7 ih]
  |tup xs=>simp only[fA,Zi3 ih]
  |fn f xs=>simp only[fA,Zi3 ih]
  |eptr u o=>simp only[fA,ih,ZiU]
  |ptr a i j o=>simp only[fA,ZiU]
  |row a i=>simp only[fA,ZiU]
  |slc a i j n c=>simp only[fA,ZiU];cases c<;>rfl
  |aslc a i j o n=>simp only[fA,ZiU]
  |yld a i=>simp only[fA,ZiU]
  |_=>rfl
theorem ZAd(b:Blk)(k:Blk→β):ZKr b k=k b:=by cases b<;>first |rfl |simp only[ZKr,Zm7 (Zys 3)]
theorem Zx6(f:Fam)(k:Fam→β):ZMV f k=k f:=by obtain⟨b,l⟩:=f;simp only[ZMV,ZiU];exact Zi3 ZAd l _
theorem ZnQ(h:Zaa)(k:Zaa→β):Zzd h k=k h:=Zi3 (fun p k=>by obtain⟨a,f⟩:=p;exact Zx6 f _) h k
theorem Zy9(e:List (Nat×AV))(k:List (Nat×AV)→β):ZN7 e k=k e:=Zi3 (fun p k=>by obtain⟨t,v⟩:=p;exact Zys 4 v _) e k
theorem ZLQ(o:Option (Nat×Nat))(k:Option (Nat×Nat)→β):fO o k=k o:=by cases o<;>simp only[fO,ZiU]
theorem ZLU{α:Type}(l:List α)(k:List α→β):fH l k=k l:=by cases l<;>rfl
theorem ZDD(f:AFrame)(k:AFrame→β):fFr f k=k f:=by simp only[fFr,ZiU,ZLU,ZLQ,ZGo]
theorem Zod(f:AFrame)(k:AFrame→β):ZuN f k=k f:=by simp only[ZuN,Zy9]
end
def ZLA(acc:List Bool)(k:List Bool→ASt):ASt:=match acc.all (fun b=>b)with |true=>k [] |false=>k acc
def Zpe(A:Ar)(T:Tab)(K:Con)(n:Nat):List Bool→AFrame→List AFrame→Zaa→ASt:=
 Nat.rec (motive:=fun _=>List Bool→AFrame→List AFrame→Zaa→ASt) (fun acc f fs h=>(acc,f,fs,h))
  (fun _ ih acc f fs h=>match Zhw A T K acc f fs h with
    |none=>(acc,f,fs,h)
    |some (acc',f',fs',h')=>fFr f' fun f'=>match ZxB f with
     |true=>ZLA acc' fun acc'=>ZuN f' fun f'=>Zzd h' fun h'=>ih acc' f' fs' h'
     |false=>ih acc' f' fs' h') n
theorem ZoH{A:Ar}{T:Tab}{K:Con}{n:Nat}{acc:List Bool}{f:AFrame}{fs:List AFrame}{h:Zaa} :Zpe A T K (n+1) acc f fs h=match Zhw A T K acc f fs h with
 |none=>(acc,f,fs,h)
 |some (acc',f',fs',h')=>fFr f' fun f'=>match ZxB f with
  |true=>ZLA acc' fun acc'=>ZuN f' fun f'=>Zzd h' fun h'=>Zpe A T K n acc' f' fs' h'
  |false=>Zpe A T K n acc' f' fs' h':=rfl
section
variable {C:Ctx}{T:Tab}{K:Con}{Q:List AFrame→Zaa→Prop}
theorem Zit(hfol:C.P.follows .mixedOrders=true)(hT:Zch C.P T)(hK:Zhz C.P K):∀(n:Nat) {acc:List Bool} {f:AFrame} {fs:List AFrame} {h:Zaa},ZiJ C Q acc f fs h (some (Zpe std T K n acc f fs h))
 |0,acc,f,fs,h=>by
  intro acc' f' fs' h' he hb hq
  have he:some (acc,f,fs,h)=some (acc',f',fs',h'):=he
  simp only[Option.some.injEq,Prod.mk.injEq]at he
  obtain⟨rfl,rfl,rfl,rfl⟩:=he
  exact⟨hb,hq⟩
 |n+1,acc,f,fs,h=>by
  intro acc' f' fs' h' he hb hq
  rw[ZoH]at he
  split at he
  ·simp only[Option.some.injEq,Prod.mk.injEq]at he
   obtain⟨rfl,rfl,rfl,rfl⟩:=he
   exact⟨hb,hq⟩
  ·rename_i acc1 f1 fs1 h1 hs
   rw[ZDD]at he
   have go:∀acc2,((∀ b∈acc2,b=true)→∀b∈acc1,b=true)→some (Zpe std T K n acc2 f1 fs1 h1)=some (acc',f',fs',h')→(∀b∈acc,b=true)∧Ev C (f::fs) h Q:=fun acc2 ha he=>by
    obtain⟨hb1,hq1⟩:=Zit hfol hT hK n _ _ _ _ he hb hq
    exact ZhZ hfol hT hK _ _ _ _ hs (ha hb1) hq1
   split at he
   ·unfold ZLA at he
    split at he
    ·rename_i hall
     simp only[Zod,ZnQ]at he
     exact go [] (fun _ b hb=>by have:=List.all_eq_true.1 hall b hb;simpa using this) he
    ·simp only[Zod,ZnQ]at he
     exact go acc1 (fun h=>h) he
   ·exact go acc1 (fun h=>h) he
end
def ZJO(A:Ar)(T:Tab)(K:Con)(n:Nat)(f:FuncId)(args:List AV):Option (Bool×AV×Option Fresh):=
 match Zak T f args with
 |none=>none
 |some af=>ZKO A f (Zpe A T K n [] af [] [])
theorem Zp1{P:Program}{T:Tab}{K:Con}(hfol:P.follows .mixedOrders=true)(hT:Zch P T)(hK:Zhz P K){n:Nat} :Zhz P (ZJO std T K n):=fun f args r fr h=>by
 unfold ZJO at h
 split at h
 ·cases h
 ·rename_i af haf
  obtain⟨acc,g,h',hs,hacc,hfin⟩:=ZqM h
  refine Zjj hT haf (fun w okA cs=>?_)
  refine(Zit (C:=(Ctx.of P w okA cs)) hfol hT hK n (Q:=ZdV f r fr) acc g [] h' (by rw[hs]) (fun b hb=>?_) (.now (by simp) hfin)).2
  have:=List.all_eq_true.1 hacc b hb
  simpa using this
end Go.Proofs.Ytjhdnpmojhkbjaa
/- Contracts at given values, kept in a list. No condition. -/
namespace Go.Proofs.Ytjhdnpmojhkbjaa
def eqL{α:Type}(f:α→α→Bool):List α→List α→Bool
 |[],[]=>true
 |x::xs,y::ys=>match f x y with |true=>eqL f xs ys |false=>false
 |_,_=>false
def eqZ:Int→Int→Bool
 | .ofNat a, .ofNat b=>Nat.beq a b
 | .negSucc a, .negSucc b=>Nat.beq a b
 |_,_=>false
def ZCs:IntKind→IntKind→Bool
 | .i64, .i64=>true
 |k,k'=>decide (k=k')
def Zul(f:AV→AV→Bool):Row→Row→Bool
 | .ints k l, .ints k' l'=>match ZCs k k' with |true=>eqL eqZ l l' |false=>false
 | .flts k l, .flts k' l'=>(match decide (k=k')with |true=>eqL Nat.beq l l' |false=>false)
 | .gen xs, .gen ys=>eqL f xs ys
 | .big s xs, .big t ys=>(match Zca s t with |true=>eqL f xs ys |false=>false)
 |_,_=>false
def eqV:Nat→Value→Value→Bool
 |0,_,_=>false
 |d+1,x,y=>match x,y with
  | .int k a, .int k' b=>(match eqZ a b with |true=>ZCs k k' |false=>false)
  | .agg ⟨l⟩, .agg ⟨m⟩=>eqL (eqV d) l m
  | .func (.func f) ⟨l⟩ ⟨[]⟩, .func (.func g) ⟨m⟩ ⟨[]⟩=>(match Nat.beq f g with |true=>eqL (eqV d) l m |false=>false)
  |_,_=>false
def eqA:Nat→AV→AV→Bool
 |0,_,_=>false
 |d+1,x,y=>match x,y with
  | .int k a, .int k' b=>(match eqZ a b with |true=>ZCs k k' |false=>false)
  | .bool a, .bool b=>a==b
  | .flt k a, .flt k' b=>(match Nat.beq a b with |true=>decide (k=k') |false=>false)
  | .nils, .nils=>true
  | .val v, .val u=>eqV 4 v u
  | .list r, .list s=>Zul (eqA d) r s
  | .agg r, .agg s=>Zul (eqA d) r s
  | .fn f xs, .fn g ys=>(match Nat.beq f g with |true=>eqL (eqA d) xs ys |false=>false)
  | .eptr u o, .eptr v q=>(match Nat.beq o q with |true=>eqA d u v |false=>false)
  |_,_=>false
theorem Zgb{α:Type}{f:α→α→Bool}(hf:∀x y,f x y=true→x=y):∀ {l m:List α},eqL f l m=true→l=m
 |[],[],_=>rfl
 |x::xs,y::ys,h=>by
  simp only[eqL]at h
  split at h
  ·rename_i e;rw[hf _ _ e,Zgb hf h]
  ·cases h
 |[],_::_,h=>by cases h
 |_::_,[],h=>by cases h
theorem Zs1{a b:Int}(h:eqZ a b=true):a=b:=by
 cases a<;>cases b<;>simp only[eqZ,Bool.false_eq_true]at h
 ·rw[Nat.eq_of_beq_eq_true h]
 ·rw[Nat.eq_of_beq_eq_true h]
theorem Znh{a b:IntKind}(h:ZCs a b=true):a=b:=by
 unfold ZCs at h
 split at h
 ·rfl
 ·simpa using h
theorem Zop{f:AV→AV→Bool}(hf:∀x y,f x y=true→x=y){r s:Row}(h:Zul f r s=true):r=s:=by
 cases r<;>cases s<;>simp only[Zul,Bool.false_eq_true]at h
 ·rw[Zgb hf h]
 ·split at h
  ·rename_i e;rw[Znh e,Zgb (fun _ _=>Zs1) h]
  ·cases h
 ·split at h
  ·rename_i e;rw[of_decide_eq_true e,Zgb (fun _ _=>Nat.eq_of_beq_eq_true) h]
  ·cases h
 ·split at h
  ·rename_i e;rw[ZgO e,Zgb hf h]
  ·cases h
theorem ZwK:∀ {d:Nat} {x y:Value},eqV d x y=true→x=y
 |0,_,_,h=>by cases h
 |d+1,x,y,h=>by
  have ih:∀x y,eqV d x y=true→x=y:=fun _ _ h=>ZwK h
  unfold eqV at h
  split at h
  ·split at h
   ·rename_i e;rw[Zs1 e,Znh h]
   ·cases h
  ·rw[Zgb ih h]
  ·split at h
   ·rename_i e
    have e:=Nat.eq_of_beq_eq_true e
    rw[e,Zgb ih h]
   ·cases h
  ·cases h
theorem Zrd:∀ {d:Nat} {x y:AV},eqA d x y=true→x=y
 |0,_,_,h=>by cases h
 |d+1,x,y,h=>by
  have ih:∀x y,eqA d x y=true→x=y:=fun _ _ h=>Zrd h
  unfold eqA at h
  split at h
  ·split at h
   ·rename_i e;rw[Zs1 e,Znh h]
   ·cases h
  ·rename_i a b;have:a=b:=by simpa using h
   rw[this]
  ·split at h
   ·rename_i e;rw[Nat.eq_of_beq_eq_true e,of_decide_eq_true h]
   ·cases h
  ·rfl
  ·rw[ZwK h]
  ·rw[Zop ih h]
  ·rw[Zop ih h]
  ·split at h
   ·rename_i e
    have e:=Nat.eq_of_beq_eq_true e
    rw[e,Zgb ih h]
   ·cases h
  ·split at h
   ·rename_i e;rw[Nat.eq_of_beq_eq_true e,Zrd h]
   ·cases h
  ·cases h
structure Fact where
 f:FuncId
 args:List AV
 r:AV
 fr:Option Fresh
def ZCc:List Fact→Con
 |[],_,_=>none
 |q::qs,f,args=>match Nat.beq q.f f with
  |true=>(match eqL (eqA 5) q.args args with |true=>some (true,q.r,q.fr) |false=>ZCc qs f args)
  |false=>ZCc qs f args
def Zks(P:Program):List Fact→Prop
 |[]=>True
 |q::qs=>ZaH P q.f q.args q.r q.fr∧Zks P qs
theorem ZmC{P:Program} :∀ {l:List Fact},Zks P l→Zhz P (ZCc l)
 |[],_,f,args,r,fr,h=>by cases h
 |q::qs,⟨h1,h2⟩,f,args,r,fr,h=>by
  simp only[ZCc]at h
  split at h
  ·rename_i e
   have e:q.f=f:=Nat.eq_of_beq_eq_true e
   split at h
   ·rename_i e2
    have e2:=Zgb (fun _ _=>Zrd) e2
    simp only[Option.some.injEq,Prod.mk.injEq,true_and]at h
    obtain⟨rfl,rfl⟩:=h
    rw[←e,←e2];exact h1
   ·exact ZmC h2 f args r fr h
  ·exact ZmC h2 f args r fr h
theorem ZBv{P:Program}{T:Tab}(hfol:P.follows .mixedOrders=true)(hT:Zch P T){l:List Fact}(hl:Zks P l){n:Nat}{f:FuncId}{args:List AV}{r:AV}{fr:Option Fresh}
 (h:ZJO ZoS T (ZCc l) n f args=some (true,r,fr)):ZaH P f args r fr:=by
 rw[Zt1]at h
 exact Zp1 hfol hT (ZmC hl) f args r fr h
end Go.Proofs.Ytjhdnpmojhkbjaa
/- All of a list of truths. No condition. -/
namespace Go.Proofs.Ytjhdnpmojhkbjaa
def AllT:List Bool→Prop
 |[]=>True
 |b::l=>b=true∧AllT l
theorem AllT.mem:∀ {l:List Bool},AllT l→∀b∈l,b=true
 |_::_,⟨h1,h2⟩,b,hb=>by
  rcases List.mem_cons.1 hb with e |e
  ·rw[e];exact h1
  ·exact AllT.mem h2 b e
def oN(d:Nat)(k:OpK):AOp:=⟨some d,none,k⟩
def mV(d s:Nat):AOp:=⟨some d,none, .mov (.t s)⟩
def cI(n:Int):Opd:=.c (.int .i64 n)
end Go.Proofs.Ytjhdnpmojhkbjaa
/- A call that changes a row of the caller's. No condition. -/
namespace Go.Proofs.Ytjhdnpmojhkbjaa
open Go.RowKit (Below)
abbrev Ctx.mut(P:Program)(w:World)(okA:Nat→Prop)(cs:List Frame)(g:Nat):Ctx:=⟨P,w,okA,cs,0,g⟩
def Zmo(P:Program)(f:FuncId)(e:TypeId)(sz:Nat)(x y:Row)(args:List AV)(r:AV):Prop:=
 ∀(w:World) (okA:Nat→Prop) (L:Lay) (vs:Array Value),(∀k,okA k→k<w.heap.size)→
  HRel (Ctx.mut P w okA [] (L.loc 0 0)) (Zaj (some ⟨e,sz,x⟩)) L w→
  RelL w (Zas (Ctx.mut P w okA [] (L.loc 0 0)) (Zaj (some ⟨e,sz,x⟩)) L) (Zaj (some ⟨e,sz,x⟩)) L (.row 0 0::args) vs.toList→
  Calls P f vs w fun e' w'=>∃v L',e'=.returned v∧Fr (Ctx.mut P w okA [] (L.loc 0 0)) (Zaj (some ⟨e,sz,x⟩)) L w (Zaj (some ⟨e,sz,y⟩)) L' w'∧
   HRel (Ctx.mut P w okA [] (L.loc 0 0)) (Zaj (some ⟨e,sz,y⟩)) L' w'∧ZaB (Ctx.mut P w okA [] (L.loc 0 0)) (Zaj (some ⟨e,sz,y⟩)) L' w' r v
def Zs3:AV→Bool
 | .row a i=>Nat.beq a 0&&Nat.beq i 0
 | .slc a i _ _ _=>Nat.beq a 0&&Nat.beq i 0
 |v=>v.pure
def Zh1(f:FuncId)(e:TypeId)(sz:Nat)(y:Row)(r:AV)(fs:List AFrame)(h:Zaa):Prop:=
 ∃g vs,fs=[g]∧g.fn=f∧g.ret=true∧g.rnd=none∧g.defs=[]∧ZgS std g.env h g.res=some (true,vs)∧Zhv vs=r∧Zs3 r=true∧blk h 0 0=.row e sz y∧y.pure=true
section
variable {C:Ctx}{h:Zaa}{L:Lay}{w:World}
theorem ZBk{L':Lay}{e sz:Nat}{y:Row}(hb:blk h 0 0=.row e sz y)(hok:∀g,Zas C h L g→Zas C (Zaj (some ⟨e,sz,y⟩)) L' g)(hl:L'.loc 0 0=L.loc 0 0)(hs:L'.size 0 0=L.size 0 0){r:AV}{v:Value}(ho:Zs3 r=true)(hr:ZaB C h L w r v):ZaB C (Zaj (some ⟨e,sz,y⟩)) L' w r v:=by
 have ht:(blk h 0 0).tag=some (sz,y.elems.length):=by rw[hb];rfl
 have hlv:∀ {p:Nat→Nat×Nat→Prop} {p':Nat→Nat×Nat→Prop},Live h L 0 0 p→(∀s,p (L.loc 0 0) s→p' (L.loc 0 0) s)→Live (Zaj (some ⟨e,sz,y⟩)) L' 0 0 p':=fun hp hpp=>by
  refine⟨by show 0<0+1;omega,fun sz' hsz'=>?_⟩
  rw[ZaX]at hsz'
  simp only[and_self,if_true,Blk.tag,Option.some.injEq]at hsz'
  subst hsz'
  rw[hl];exact hpp _ (hp.2 _ ht)
 have key:r.pure=true→ZaB C (Zaj (some ⟨e,sz,y⟩)) L' w r v:=fun hp=>(hr.okmono (fun g _ ho=>hok g ho)).pure hp
 cases r with
 |row a i=>
  simp only[Zs3,Bool.and_eq_true]at ho
  have ha:=Nat.eq_of_beq_eq_true ho.1
  have hi:=Nat.eq_of_beq_eq_true ho.2
  subst ha;subst hi
  cases hr with
  |row _ _ g o n c hn hlive=>exact .row 0 0 g o n c hn (hlv hlive fun s hp=>by rw[hs];exact hp)
 |slc a i k n cap=>
  simp only[Zs3,Bool.and_eq_true]at ho
  have ha:=Nat.eq_of_beq_eq_true ho.1
  have hi:=Nat.eq_of_beq_eq_true ho.2
  subst ha;subst hi
  cases hr with
  |slc _ _ _ _ _ g o c hn hlive=>exact .slc 0 0 k n cap g o c hn (hlv hlive fun s hp=>by rw[hs];exact hp)
 |_=>exact key ho
theorem ZPz{e sz:Nat}{r:Row}(H:HRel C h L w)(hb:blk h 0 0=.row e sz r)(hp:r.pure=true):HRel C (Zaj (some ⟨e,sz,r⟩)) L w∧∀g,Zas C h L g→Zas C (Zaj (some ⟨e,sz,r⟩)) L g:=by
 obtain⟨ht,h0,h1,h2,h3,cur,h4,h5,h6,h7,h8⟩:=H.rowAt hb
 have h00:∀a i,(blk (Zaj (some ⟨e,sz,r⟩)) a i).tag≠none→a=0∧i=0:=fun a i hx=>by
  rw[ZaX]at hx
  split at hx
  ·assumption
  ·exact absurd rfl hx
 have ht0:(blk h 0 0).tag≠none:=by rw[ht];simp
 have hok:∀g,Zas C h L g→Zas C (Zaj (some ⟨e,sz,r⟩)) L g:=fun g ho=>by
  rcases ho with ho |⟨q1,q2⟩
  ·exact .inl ho
  ·exact .inr ⟨q1,fun b j hx=>by obtain⟨rfl,rfl⟩:=h00 b j hx;exact q2 0 0 ht0⟩
 refine⟨⟨H.below,fun b j hx=>?_,fun b j=>?_,fun b j c k hb1 hb2 _=>?_,fun b j hx=>?_,H.low,H.base⟩,hok⟩
 ·obtain⟨rfl,rfl⟩:=h00 b j hx;exact H.live 0 0 ht0
 ·rw[ZaX]
  split
  ·rename_i e1
   obtain⟨rfl,rfl⟩:=e1
   exact⟨h0,h1,h2,h3,cur,h4,h5,⟨h6.1,fun j u v hu hv=>((h6.2 j u v hu hv).okmono (fun g _ ho=>hok g ho)).pure (AV.pureL_mem (ZaD hp) hu)⟩,h7⟩
  ·trivial
 ·obtain⟨rfl,rfl⟩:=h00 b j hb1
  obtain⟨rfl,rfl⟩:=h00 c k hb2
  exact⟨rfl,rfl⟩
 ·obtain⟨rfl,rfl⟩:=h00 b j hx;exact H.home 0 0 ht0
theorem ZsR{P:Program}{T:Tab}(hT:Zch P T){f:FuncId}{e:TypeId}{sz:Nat}{x y:Row}{args:List AV}{af:AFrame}{r:AV}(he:Zak T f (.row 0 0::args)=some af)
 (hq:∀C:Ctx,C.P=P→Ev C [af] (Zaj (some ⟨e,sz,x⟩)) (Zh1 f e sz y r)):Zmo P f e sz x y args r:=by
 intro w okA L vs hok H hargs cs
 have H0:HRel (Ctx.mut P w okA cs (L.loc 0 0)) (Zaj (some ⟨e,sz,x⟩)) L w:=⟨H.below,H.live,H.blks,H.inj,H.home,H.low,H.base⟩
 obtain⟨hfr,_⟩:=Zf3 (C:=Ctx.mut P w okA cs (L.loc 0 0)) (h:=Zaj (some ⟨e,sz,x⟩)) (L:=L) (w:=w) hT he hargs
 obtain⟨fs',h',L',fr',cs',w',⟨g,us,rfl,hfn,hret,hrnd,hdefs,hc,hj,ho,hb,hyp⟩,_,hf',H',hst,hF⟩:=hq (Ctx.mut P w okA cs (L.loc 0 0)) rfl L _ cs w (.cons hfr .base) H0 (by simp)
 cases hf' with
 |cons hf' hk=>
  cases hk
  obtain⟨fn,hfn',hmr⟩:=hf'.res hrnd
  obtain⟨v,e1,e2⟩:=Zfv H' hf'.env hmr hc
  rw[hj]at e2
  obtain⟨H2,hok2⟩:=ZPz H' hb hyp
  have hrr:=ZBk (L':=L') hb hok2 rfl rfl ho e2
  have hF2:Fr (Ctx.mut P w okA [] (L.loc 0 0)) (Zaj (some ⟨e,sz,x⟩)) L w (Zaj (some ⟨e,sz,y⟩)) L' w':=by
   refine⟨hF.size,fun g hg ho=>⟨hok2 g (hF.mem g hg ho).1,(hF.mem g hg ho).2⟩,Nat.le_refl _,fun sz' h0 ht=>?_⟩
   refine hF.tags sz' h0 ?_
   rw[ZaX,if_pos ⟨rfl,rfl⟩]at ht
   rw[hb];exact ht
  refine⟨.returned v,w',fr',⟨v,L',rfl,hF2,⟨H2.below,H2.live,H2.blks,H2.inj,H2.home,H2.low,H2.base⟩,hrr⟩,hst,hf'.fn.trans hfn,?_⟩
  rcases hf'.mode with⟨_,hm⟩ |⟨e,_⟩
  ·refine⟨hm,?_,hf'.kind,fn,?_,e1⟩
   ·obtain⟨gs,g1,g2,_⟩:=hf'.defs
    rw[hdefs]at g2
    rw[g1,List.eq_nil_of_length_eq_zero g2];rfl
   ·rw[hf'.fn];exact hfn'
  ·rw[hret]at e;cases e
def ZER(a i:Nat):AV→AV
 | .row _ _=>.row a i
 | .slc _ _ k n c=>.slc a i k n c
 |v=>v
theorem Zo7{f:FuncId}{a i e sz:Nat}{x y:Row}{args:List AV}{vs:Array Value}{r:AV}(H:HRel C h L w)(hb:blk h a i=.row e sz x)(hxp:x.pure=true)(hyp:y.pure=true)(hap:AV.pureL args=true)(hrel:RelL w (Zas C h L) h L (.row a i::args) vs.toList)(hor:Zs3 r=true)(hm:Zmo C.P f e sz x y args r):
 Calls C.P f vs w fun e' w'=>∃v L',e'=.returned v∧Step w (Zas C h L) h L w' (Zas C (ZaZ h a i (.row e sz y)) L') (ZaZ h a i (.row e sz y)) L'∧HRel C (ZaZ h a i (.row e sz y)) L' w'∧ZaB C (ZaZ h a i (.row e sz y)) L' w' (ZER a i r) v:=by
 obtain⟨ht,h0,h1,h2,h3,cur,h4,h5,h6,h7,h8⟩:=H.rowAt hb
 have ht0:(blk h a i).tag≠none:=by rw[ht];simp
 have hnd:blk h a i≠ .dead:=by rw[hb];simp
 let okA:Nat→Prop:=fun k=>Zas C h L k∧k<w.heap.size
 let L1:Lay:=⟨fun _ _=>L.loc a i,fun _ _=>L.size a i⟩
 have h00:∀(z:Row) b j,(blk (Zaj (some ⟨e,sz,z⟩)) b j).tag≠none→b=0∧j=0:=fun z b j hx=>by
  rw[ZaX]at hx
  split at hx
  ·assumption
  ·exact absurd rfl hx
 have hno:¬okA (L.loc a i):=fun ho=>ZtA H ho.1 ht0 rfl
 have hok1:∀g,g<w.heap.size→Zas C h L g→Zas (Ctx.mut C.P w okA [] (L.loc a i)) (Zaj (some ⟨e,sz,x⟩)) L1 g:=fun g hg ho=>.inl ⟨hg,ho,hg⟩
 have H1:HRel (Ctx.mut C.P w okA [] (L.loc a i)) (Zaj (some ⟨e,sz,x⟩)) L1 w:=by
  refine⟨Below.refl _ _,fun b j _=>⟨Nat.zero_le _,(H.live a i ht0).2⟩,fun b j=>?_,fun b j c k hb1 hb2 _=>?_,fun b j hx=>?_,fun _ _ _=>rfl,Nat.zero_le _⟩
  ·rw[ZaX]
   split
   ·exact⟨h0,h1,h2,h3,cur,h4,h5,⟨h6.1,fun j u v hu hv=>((h6.2 j u v hu hv).okmono (fun g hg ho=>hok1 g hg ho)).pure (AV.pureL_mem (ZaD hxp) hu)⟩,h7⟩
   ·trivial
  ·obtain⟨rfl,rfl⟩:=h00 x b j hb1
   obtain⟨rfl,rfl⟩:=h00 x c k hb2
   exact⟨rfl,rfl⟩
  ·obtain⟨rfl,rfl⟩:=h00 x b j hx
   exact .inr ⟨rfl,rfl,rfl,hno⟩
 have hrel1:RelL w (Zas (Ctx.mut C.P w okA [] (L.loc a i)) (Zaj (some ⟨e,sz,x⟩)) L1) (Zaj (some ⟨e,sz,x⟩)) L1 (.row 0 0::args) vs.toList:=by
  refine⟨by have:=hrel.1;simpa using this,fun j u v hu hv=>?_⟩
  cases j with
  |zero=>
   simp at hu;subst hu
   have hr:=hrel.2 0 _ v rfl hv
   cases hr with
   |row _ _ g o n c hn hl=>
    obtain⟨rfl,rfl,rfl,rfl⟩:=hl.2 _ ht
    refine .row 0 0 _ _ _ _ hn ⟨by show 0<0+1;omega,fun s hs=>?_⟩
    rw[ZaX]at hs
    simp only[and_self,if_true,Blk.tag,Option.some.injEq]at hs
    subst hs
    exact⟨rfl,rfl,rfl,rfl⟩
  |succ j=>
   have hu':args[j]? =some u:=by simpa using hu
   exact((hrel.2 (j+1) u v (by simpa using hu') hv).okmono (fun g hg ho=>hok1 g hg ho)).pure (AV.pureL_mem hap hu')
 refine(hm w okA L1 vs (fun k hk=>hk.2) H1 hrel1).mono ?_
 rintro e' w' ⟨v,L',rfl,hF,H2,rr⟩
 have ht2:(blk (Zaj (some ⟨e,sz,y⟩)) 0 0).tag=some (sz,y.elems.length):=rfl
 obtain⟨t1,l1,s1⟩:=hF.tags _ (by show 0<0+1;omega) ht2
 have l1:L'.loc 0 0=L.loc a i:=l1
 have s1:L'.size 0 0=L.size a i:=s1
 have hlen:y.elems.length=x.elems.length:=by
  have:(blk (Zaj (some ⟨e,sz,x⟩)) 0 0).tag=some (sz,x.elems.length):=rfl
  rw[this]at t1
  simp only[Option.some.injEq,Prod.mk.injEq,true_and]at t1
  exact t1.symm
 have hgr:w.grownBy w' (some (L.loc a i)):=⟨H2.below.os,H2.below.tape,H2.below.output,hF.size,fun k hk hne=>H2.low k hk (fun e=>hne (by rw[e]))⟩
 have hok2:∀(hst:Step w (Zas C h L) h L w' (Zas C (ZaZ h a i (.row e sz y)) L) (ZaZ h a i (.row e sz y)) L) g,Zas (Ctx.mut C.P w okA [] (L.loc a i)) (Zaj (some ⟨e,sz,y⟩)) L' g→Zas C (ZaZ h a i (.row e sz y)) L g:=fun hst g ho=>by
  rcases ho with⟨q1,q2⟩ |⟨q1,q2⟩
  ·exact(hst.mem g q2.2 q2.1).1
  ·have q1:w.heap.size≤g:=q1
   refine .inr ⟨Nat.le_trans H.top q1,fun b j hx hxe=>?_⟩
   have:(blk h b j).tag≠none:=by
    rw[Zd4 hnd]at hx
    split at hx
    ·rename_i e1;obtain⟨rfl,rfl⟩:=e1;exact ht0
    ·exact hx
   have:=(H.live b j this).2
   omega
 obtain⟨hst,H3⟩:=H.set (b:=.row e sz y) ht0 (by rw[ht];show some (sz,y.elems.length)=_;rw[hlen]) hgr (fun hst=>by
  have hbr:=H2.blks 0 0
  rw[show blk (Zaj (some ⟨e,sz,y⟩)) 0 0=.row e sz y from rfl,l1,s1]at hbr
  obtain⟨g0,g1,g2,g3,cur2,g4,g5,g6,g7⟩:=hbr
  exact⟨g0,g1,g2,g3,cur2,g4,g5,⟨g6.1,fun j u v hu hv=>((g6.2 j u v hu hv).okmono (fun g _ ho=>hok2 hst g ho)).pure (AV.pureL_mem (ZaD hyp) hu)⟩,g7⟩)
 refine⟨v,L,rfl,hst,H3,?_⟩
 have hbs:blk (ZaZ h a i (.row e sz y)) a i=.row e sz y:=by rw[Zd4 hnd,if_pos ⟨rfl,rfl⟩]
 have hlv:∀ {p p':Nat→Nat×Nat→Prop},Live (Zaj (some ⟨e,sz,y⟩)) L' 0 0 p→(∀s,p (L'.loc 0 0) s→p' (L.loc a i) s)→Live (ZaZ h a i (.row e sz y)) L a i p':=fun hp hpp=>by
  refine⟨Zw2 (by rw[hbs];simp),fun s hs=>?_⟩
  rw[hbs]at hs
  simp only[Blk.tag,Option.some.injEq]at hs
  subst hs
  exact hpp _ (hp.2 _ ht2)
 have key:r.pure=true→ZaB C (ZaZ h a i (.row e sz y)) L w' r v:=fun hp=>(rr.okmono (fun g _ ho=>hok2 hst g ho)).pure hp
 cases r with
 |row b j=>
  simp only[Zs3,Bool.and_eq_true]at hor
  have ha:=Nat.eq_of_beq_eq_true hor.1
  have hi:=Nat.eq_of_beq_eq_true hor.2
  subst ha;subst hi
  cases rr with
  |row _ _ g o n c hn hl=>exact .row a i g o n c hn (hlv hl fun s hp=>by rw[←s1,←l1];exact hp)
 |slc b j k n cap=>
  simp only[Zs3,Bool.and_eq_true]at hor
  have ha:=Nat.eq_of_beq_eq_true hor.1
  have hi:=Nat.eq_of_beq_eq_true hor.2
  subst ha;subst hi
  cases rr with
  |slc _ _ _ _ _ g o c hn hl=>exact .slc a i k n cap g o c hn (hlv hl fun s hp=>by rw[←s1,←l1];exact hp)
 |_=>exact key hor
end
section
variable {C:Ctx}{h:Zaa}{Q:List AFrame→Zaa→Prop}{f:AFrame}{fs:List AFrame}{k:List AItem}
theorem ZnK{o:AOp}{os:List AOp}{g:FuncId}{mm:Bool}{a0 a i e sz:Nat}{args:List Opd}{x y:Row}{rest:List AV}{r:AV}(hr:f.ret=false)(ht:f.todo=.inReg (o::os)::k)(hg:o.g=none)(hk:o.k=.ncall mm a0 g args)
 (ha:args.map (Zbz (ZaJ f.env))=.row a i::rest) (hb:blk h a i=.row e sz x) (hxp:x.pure=true) (hyp:y.pure=true) (hap:AV.pureL rest=true) (hor:Zs3 r=true) (hm:Zmo C.P g e sz x y rest r)
 (hq:Ev C ({ f with env:=Zp4 f.env o.d (ZER a i r),todo:=.inReg os::k } ::fs) (ZaZ h a i (.row e sz y)) Q):Ev C (f::fs) h Q:=by
 intro L fr cs w hf H _
 cases hf with
 |cons hf hkk=>
  rcases hf.mode with⟨e,_⟩ |⟨_,hmo,hi⟩
  ·rw[hr]at e;cases e
  ·rw[ht]at hi
   cases hi':fr.todo with
   |nil=>rw[hi']at hi;cases hi
   |cons z l=>
    rw[hi']at hi
    cases hi with
    |cons hx hki=>
     cases hx with
     |inReg ops kk _ hmc=>
      obtain⟨op,e1,e2,e3,e4⟩:=Zf2 hmc
      rw[e4]at hi'
      have henv:EnvF C h L w (ZaJ f.env) fr.tmps:=hf.env
      obtain⟨g0,_,_⟩:=Zn6 henv e2
      have hwant:=g0 hg
      have e2':=e2
      simp only[Zq8,Bool.and_eq_true,beq_iff_eq]at e2'
      obtain⟨⟨⟨⟨hnd,hdst⟩,hdN⟩,_⟩,hmop⟩:=e2'
      have hdN':∀d',o.d=some d'→d'<fr.tmps.size:=fun d' e=>by rw[e]at hdN;rw[hf.size];simpa using hdN
      have e1':ops.toArray[kk]? =some op:=by simpa using e1
      have hfin:∀v,fr.finish v= { fr with tmps:=Zj5 fr.tmps o.d v,todo:=.inRegion ops.toArray ((List.range ops.length).drop (kk+1))::l } :=fun v=>by rw[Zgf hi' e1',hdst]
      have hρ:=ZEr henv
      rw[hk]at hmop
      simp only[mop]at hmop
      split at hmop
      ·rename_i f' args' ts ho
       simp only[Bool.and_eq_true,beq_iff_eq]at hmop
       obtain⟨⟨rfl,hmop⟩,hcal⟩:=hmop
       have hrel:=ZcR hρ hmop
       rw[ha]at hrel
       have hrun:(execOp fr.eval op).run C.P w=.ok (.enter g (args'.map fr.eval)) w:=by simpa using ZhK (w:=w) ho (hρ.fnc g) hcal
       have hcalls:=Zo7 H hb hxp hyp hap hrel hor hm
       obtain⟨v,w',⟨v',L',e,s,H',hv⟩,hst⟩:=ZkY (cs:=cs) hmo hi' e1' hwant hnd hrun hcalls (fun e w'' hh=>by obtain⟨x,_,e,_⟩:=hh;exact⟨x,e⟩)
       cases e
       rw[hfin]at hst
       have hfs:=hf.step s
       have he':EnvF C (ZaZ h a i (.row _ sz y)) L' w' (Env.put (ZaJ f.env) o.d (ZER a i r)) (Zj5 fr.tmps o.d v):=(EnvF.step s henv).put hdN' (fun _=>hv)
       obtain⟨fs2,h2',L2,fr2,cs2,w2,q2,n2,a2,b2,s2⟩:=hq L' { fr with tmps:=Zj5 fr.tmps o.d v,todo:=.inRegion ops.toArray ((List.range ops.length).drop (kk+1))::l } cs w'
        (.cons ⟨hf.fn,by rw[Zf4];exact hf.size,by intro t av hta;exact he' t av (by rw[←Zed];exact hta),hf.kind,hfs.defs,hfs.rnd, .inr ⟨hr,hmo, .cons (.inReg ops (kk+1) os e3) (hki.step s)⟩,hf.res⟩ (hkk.step s)) H' (by simp)
       exact⟨fs2,h2',L2,fr2,cs2,w2,q2,n2,a2,b2,hst.trans s2.1,(Fr.of s).trans s2.2⟩
      ·cases hmop
theorem ZuD{t a i e sz n:Nat}{r:Row}(ht:ZaJ f.env t=some (.slc a i 0 n none))(hb:blk h a i=.row e sz r)(hz:ZnJ a=false)(hn:n≤r.elems.length)
 (hq:Ev C ({ f with env:=Zec f.env t (.row a (nxt h a)) } ::fs) (Zam (ZaZ h a i .dead) a (.row e sz (r.sub std 0 n))) Q):Ev C (f::fs) h Q:=by
 intro L fr cs w hf H _
 cases hf with
 |cons hf hk=>
  obtain⟨htg,h0,h1,h2,h3,cur,h4,h5,h6,h7,h8⟩:=H.rowAt hb
  have hnd:blk h a i≠ .dead:=by rw[hb];simp
  have ht0:(blk h a i).tag≠none:=by rw[htg];simp
  obtain⟨k1,k2⟩:=ZfS hnd
  have hr:=hf.env t _ ht
  generalize hx:fr.tmps.getD t undef=x at hr
  cases hr with
  |slc _ _ _ _ _ g o c hnc hl=>
   rcases hl.2 _ htg with⟨hne,_⟩ |⟨rfl,rfl,hc1,hc2⟩
   ·exact absurd rfl hne
   ·have hc:c=L.size a i:=by simpa using hc2
    subst hc
    have hel:(r.sub std 0 n).elems=r.elems.take n:=by rw[Row.sub_std];simp[sub3]
    have hle:n*sz≤r.elems.length*sz:=Nat.mul_le_mul_right _ hn
    have hlv:=H.live a i ht0
    obtain⟨L',s,H',rr⟩:=ZgT (w':=w) H (fun b j=>b=a∧j=i) (ZaZ h a i .dead) k1 k2 (a:=a) (e:=e) (sz:=sz) (r:=r.sub std 0 n) (g:=L.loc a i) (n:=n) (c:=L.size a i) (cs:=cur.toList.take (n*sz))
     ⟨by rw[List.length_take,Array.length_toList,h5];exact Nat.min_eq_left (Nat.le_trans hle (Nat.mul_le_mul_right _ h2)), .inr ⟨L.loc a i,L.size a i,cur,by simp,hlv.1,h4,hnc,h1,h5,rfl⟩⟩
     (by rw[hel,List.length_take];omega)
     (by
       rw[hel,ZaU _ _ h3]
       have:=h6.take (n*sz)
       rw[List.take_take,Nat.min_eq_left hle]at this
       exact this)
     (fun x hx=>by rw[hel]at hx;exact h3 x (List.mem_of_mem_take hx))
     (fun c hc=>h7 c (by
       have:=List.take_subset_take_left cur.toList hle
       exact this hc))
     h0 (row:=some (L.loc a i)) ⟨rfl,rfl,rfl,Nat.le_refl _,fun _ _ _=>rfl⟩ (fun k hk=>by cases hk;exact⟨a,i,⟨rfl,rfl⟩,ht0,rfl⟩)
     (fun b j hbj _=>by obtain⟨rfl,rfl⟩:=hbj;exact H.far ht0 (ZgJ hz)) (.inr rfl)
    have hfs:=hf.step s
    obtain⟨fs2,h2',L2,fr2,cs2,w2,q2,n2,a2,b2,s2⟩:=hq L' fr cs w (.cons ⟨hf.fn,hf.size,fun t' av ht'=>by
     rw[Zc0]at ht'
     split at ht'
     ·rename_i htt
      subst htt
      cases ht'
      rw[hx,show(0:Nat)*sz=0 from Nat.zero_mul _]
      exact rr
     ·exact hfs.env t' av ht',hf.kind,hfs.defs,hfs.rnd,hfs.mode,hf.res⟩ (hk.step s)) H' (by simp)
    exact⟨fs2,h2',L2,fr2,cs2,w2,q2,n2,a2,b2,s2.1,(Fr.of s).trans s2.2⟩
end
end Go.Proofs.Ytjhdnpmojhkbjaa
