/- A region whose order is drawn: the text's order serves every order. No condition. -/
import Derived.Test.YtkeoeooghhjibaaGreatDoorXm
import Derived.OrdersIn
namespace Go.Proofs.YtkeoeooghhjibaaGreatDoor
open Go.RowKit (Below)
structure Foot where
 o:AOp
 r:List (Nat×Nat)
 w:List (Nat×Nat)
def Zbs(h:Zad):Nat→AV→List (Nat×Nat)
 |0,_=>[]
 |d+1,v=>match v with
  | .row a i=>(a,i)::(match blk h a i with | .row _ _ (.gen xs)=>xs.flatMap (Zbs h d) |_=>[])
  | .slc a i _ _ _=>(a,i)::(match blk h a i with | .row _ _ (.gen xs)=>xs.flatMap (Zbs h d) |_=>[])
  | .aslc a i _ _ _=>[(a,i)]
  | .ptr a i k _=>(a,i)::(match blk h a i with | .row _ _ r=>Zbs h d (r.get std k) |_=>[])
  | .agg (.gen xs)=>xs.flatMap (Zbs h d)
  | .fn _ xs=>xs.flatMap (Zbs h d)
  |_=>[]
def OpK.calls:OpK→Bool
 | .ncall .. =>true
 | .ncallv .. =>true
 |_=>false
def Zdq(h:Zad)(k:OpK)(v:AV):List (Nat×Nat):=match k.calls with
 |true=>Zbs h 6 v
 |false=>match k.reads with |true=>refs v |false=>[]
theorem Zjo:∀ {l:List Value} {xs:zA},ZeR l=some xs→∀u∈xs,∀h d,Zbs h d u=[]
 |[],xs,hv,u,hu,_,_=>by
  simp only[ZeR,zS]at hv
  subst hv;cases hu
 |v::l,xs,hv,u,hu,hh,d=>by
  cases v with
  |int k n=>
   simp only[ZeR]at hv
   split at hv
   ·rename_i l' hl
    simp only[zS]at hv
    subst hv
    rcases List.mem_cons.1 hu with rfl |hu
    ·cases d<;>rfl
    ·exact Zjo hl u hu hh d
   ·cases hv
  |_=>simp[ZeR]at hv
theorem Zo0{v:AV}{args avs:zA}{f:FuncId}(hf:ZAv v args=some (f,avs)):∀u∈avs,u∈args∨(∃caps,v=.fn f caps∧u∈caps)∨(∀h d,Zbs h d u=[]):=by
 intro u hu
 unfold ZAv at hf
 split at hf
 ·simp only[zS,zP]at hf
  obtain⟨rfl,rfl⟩:=hf
  rcases List.mem_append.1 hu with hu |hu
  ·exact .inl hu
  ·exact .inr (.inl ⟨_,rfl,hu⟩)
 ·split at hf
  ·rename_i q hq
   simp only[zS,zP]at hf
   obtain⟨rfl,rfl⟩:=hf
   rcases List.mem_cons.1 hu with rfl |hu
   ·refine .inr (.inr fun hh d=>?_)
    unfold ZHE at hq
    split at hq
    ·cases hq;cases d<;>rfl
    ·split at hq
     ·rename_i xs hx
      simp only[zS]at hq
      subst hq
      cases d with
      |zero=>rfl
      |succ d=>
       simp only[Zbs,List.flatMap_eq_nil_iff]
       exact fun y hy=>Zjo hx y hy hh d
     ·cases hq
    ·cases hq
   ·exact .inl hu
  ·cases hf
 ·cases hf
def Zc9(P:Program)(z:Foot)(ε:Env)(h:Zad)(r:AV)(h':Zad):Prop:=
 Zdk P z.o ε h r h'∧(∀x∈z.o.k.looks,∀p∈Zdq h z.o.k (Zbw ε x),p∈z.r)∧∀p:Nat×Nat,p∉z.w→blk h' p.1 p.2=blk h p.1 p.2
def ZFA(l m:List (Nat×Nat)):Prop:=∀p∈l,p∉m
def ZpU(x z:Foot):Prop:=(z.o.k.neutral=true∧ZFA z.r x.w)∨(x.o.k.neutral=true∧ZFA x.r z.w)∨(x.o.frees z.o=true∧ZFA x.r z.w)
def ZMU(x z:Foot):Prop:=x.o.apart z.o=true∧((x.o.k.neutral=true∧z.o.k.neutral=true)∨ZpU x z)
inductive Runs (P:Program):List Foot→Env→Zad→Env→Zad→Prop
 |nil (ε h):Runs P [] ε h ε h
 |cons {z zs ε h r h1 ε2 h2} (hd:Zc9 P z ε h r h1) (hk:Runs P zs (Env.put ε z.o.d r) h1 ε2 h2):Runs P (z::zs) ε h ε2 h2
section
variable {P:Program}{ε:Env}{h h':Zad}
theorem ZdQ{k:OpK}{ρ:Opd→AV}{r:AV}(hn:k.neutral=true)(hd:Zcw P ρ h k r h'):h'=h:=by
 have call:∀ {m:Bool} {a:Nat} {f:FuncId} {avs:zA},Nat.beq a 0=true→ZdH P h m a f avs r h'→h'=h:=by
  rintro m a f avs ha ⟨avs',r0,fr,_,_,hask,had⟩
  have ha:a=0:=by simpa using ha
  cases fr with
  |none=>simp only[ZcC,zP]at had;exact had.2.symm
  |some f=>
   rcases hask with⟨h0,_⟩ |⟨_,h1,_⟩
   ·have hz:Nat.beq f.sz 0=true:=by rw[h0];rfl
    simp only[ZcC,hz,zP]at had;exact had.2.symm
   ·exact absurd ha h1
 cases k with
 |ncall m a f args=>obtain⟨m',hd⟩:=hd;exact call hn hd
 |ncallv m a x args=>obtain⟨f,avs,m',_,_,hc⟩:=hd;exact call hn hc
 |_=>exact Zlb hn hd
theorem Zeo{k:OpK}{ρ ρ':Opd→AV}{r:AV}(hl:∀x∈k.looks,ρ x=ρ' x)(hd:Zcw P ρ h k r h'):Zcw P ρ' h k r h':=by
 have hm:∀xs:List Opd,(∀x∈xs,ρ x=ρ' x)→xs.map ρ=xs.map ρ':=fun xs hx=>List.map_congr_left hx
 cases k with
 |ncall m a f args=>show ∃m,ZdH P h m a f (args.map ρ') r h';rw[←hm args hl];exact hd
 |ncallv m a x args=>
  obtain⟨f,avs,m',hx,hc,hd⟩:=hd
  exact⟨f,avs,m',by rw[←hl x (by simp[OpK.looks]),←hm args (fun y hy=>hl y (by simp[OpK.looks,hy]))];exact hx,hc,hd⟩
 |_=>unfold Zcw at hd ⊢;dsimp only at hd ⊢;rw[←Znm hl];exact hd
theorem ZdW{d:Option Nat}{v:AV}{t:Nat}(hne:d≠some t):Env.put ε d v t=ε t:=by
 cases d with
 |none=>rfl
 |some d=>simp only[Env.put];rw[if_neg (fun e=>hne (by rw[e]))]
theorem ZqU{o:AOp}{r v:AV}{d:Option Nat}(ht:∀d',d=some d'→d'∉o.tmps):Zdk P o (Env.put ε d v) h r h'↔Zdk P o ε h r h':=by
 have hopd:∀x∈o.k.looks,Zbw (Env.put ε d v) x=Zbw ε x:=fun x hx=>by
  cases x with
  |c av=>rfl
  |t n=>
   simp only[Zbw]
   rw[ZdW (fun e=>ht n e (by simp only[AOp.tmps,List.mem_append,List.mem_filterMap];exact .inl ⟨.t n,hx,rfl⟩))]
  |s n=>
   simp only[Zbw]
   rw[ZdW (fun e=>ht n e (by simp only[AOp.tmps,List.mem_append,List.mem_filterMap];exact .inl ⟨.s n,hx,rfl⟩))]
 have hg:∀t want,o.g=some (t,want)→Env.put ε d v t=ε t:=fun t want e=>ZdW (fun e'=>ht t e' (by simp[AOp.tmps,e]))
 unfold Zdk
 split
 ·exact⟨Zeo hopd,Zeo (fun x hx=>(hopd x hx).symm)⟩
 ·rename_i t want e
  rw[hg t want e]
  have:Zcw P (Zbw (Env.put ε d v)) h o.k r h'↔Zcw P (Zbw ε) h o.k r h':=⟨Zeo hopd,Zeo (fun x hx=>(hopd x hx).symm)⟩
  rw[this]
theorem Zcp{o:AOp}{r:AV}(hn:o.k.neutral=true)(hd:Zdk P o ε h r h'):h'=h:=by
 unfold Zdk at hd
 split at hd
 ·exact ZdQ hn hd
 ·rcases hd with⟨_,h2⟩ |⟨_,_,h2⟩ |⟨_,_,h2⟩
  ·exact ZdQ hn h2
  ·exact h2
  ·exact h2
theorem ZuL{d e:Option Nat}(hne:∀d',d=some d'→e≠some d')(v u:AV):Env.put (Env.put ε d v) e u=Env.put (Env.put ε e u) d v:=by
 cases d with
 |none=>rfl
 |some d=>
  cases e with
  |none=>rfl
  |some e=>
   have hde:e≠d:=fun e'=>hne d rfl (by rw[e'])
   funext t
   simp only[Env.put]
   by_cases h1:e=t
   ·subst h1;simp[Ne.symm hde]
   ·simp[h1]
theorem ZpH{x y:AOp}(hxy:x.apart y=true):(∀d,x.d=some d→d∉y.tmps)∧(∀d,x.d=some d→y.d≠some d)∧(∀d,y.d=some d→d∉x.tmps):=by
 simp only[AOp.apart,Bool.and_eq_true]at hxy
 refine⟨fun d hd=>?_,fun d hd=>?_,fun d hd=>?_⟩
 ·have:=hxy.1;rw[hd]at this;simp at this;exact this.1
 ·have:=hxy.1;rw[hd]at this;simp at this;exact this.2
 ·have:=hxy.2;rw[hd]at this;simp at this;exact this
theorem Zc8{f g:AV→Option (Bool×AV)} :∀ {l:zA},(∀x∈l,f x=g x)→Zlv std f l=Zlv std g l
 |[],_=>rfl
 |x::l,hl=>by simp only[Zlv];rw[hl x (by simp),Zc8 (l:=l) (fun y hy=>hl y (by simp[hy]))]
theorem Zhx{f g:AV→Option (Bool×AV)}{o:Option (Bool×Row)}(ho:∀b xs,o=some (b, .gen xs)→∀x∈xs,f x=g x):ZeO std f o=ZeO std g o:=by
 cases o with
 |none=>rfl
 |some p=>
  obtain⟨b,r⟩:=p
  cases r with
  |gen xs=>simp only[ZeO];rw[Zc8 (ho b xs rfl)]
  |_=>rfl
theorem ZlA{h:Zad}{a i:Nat}{b:Bool}{xs:zA}(hc:ZbP std h (.row a i)=some (b, .gen xs)):∃e sz ys,blk h a i=.row e sz (.gen ys)∧∀x∈xs,x∈ys:=by
 simp only[ZbP]at hc
 split at hc
 ·rename_i e sz r hb
  cases hc
  exact⟨e,sz,xs,hb,fun x hx=>hx⟩
 ·cases hc
theorem Zl7{h:Zad}{a i k n:Nat}{c:Option Nat}{b:Bool}{xs:zA}(hc:ZbP std h (.slc a i k n c)=some (b, .gen xs)):∃e sz ys,blk h a i=.row e sz (.gen ys)∧∀x∈xs,x∈ys:=by
 simp only[ZbP]at hc
 split at hc
 ·rename_i e sz r hb
  simp only[zS,zP]at hc
  cases r with
  |gen ys=>
   refine⟨e,sz,ys,hb,fun x hx=>?_⟩
   have h2:=hc.2
   simp only[Row.sub,Row.gen.injEq]at h2
   rw[←h2]at hx
   unfold sub3 at hx
   exact List.mem_of_mem_drop (List.mem_of_mem_take hx)
  |ints kd l=>have h2:=hc.2;simp[Row.sub]at h2
  |flts kd l=>have h2:=hc.2;simp[Row.sub]at h2
  |big sh ys=>have h2:=hc.2;simp[Row.sub]at h2
  |refs a p=>have h2:=hc.2;simp[Row.sub]at h2
 ·cases hc
theorem ZiK{h2:Zad} :∀(d e:Nat) (v:AV),d≤e→Zck h h2 (Zbs h e v)→ZbQ std h2 d v=ZbQ std h d v
 |0,_,_,_,_=>rfl
 |d+1,0,_,hle,_=>by omega
 |d+1,e+1,v,hle,ha=>by
  have IH:∀u,Zck h h2 (Zbs h e u)→ZbQ std h2 d u=ZbQ std h d u:=fun u=>ZiK d e u (by omega)
  cases v with
  |row a i=>
   simp only[Zbs]at ha
   have hb:=ha (a,i) (by simp)
   simp only[ZbQ]
   rw[Zdv (h:=h) (h2:=h2) (fun p hp=>by simp only[refs,ZcL,Zbk,List.mem_singleton]at hp;rw[hp];exact hb)]
   split
   ·rfl
   refine Zhx (fun b xs hc x hx=>IH x (fun p hp=>ha p ?_))
   obtain⟨ee,sz,ys,hbl,hsub⟩:=ZlA hc
   rw[hbl]
   simp only[List.mem_cons,List.mem_flatMap]
   exact .inr ⟨x,hsub x hx,hp⟩
  |slc a i k n c=>
   simp only[Zbs]at ha
   have hb:=ha (a,i) (by simp)
   simp only[ZbQ]
   rw[Zdv (h:=h) (h2:=h2) (fun p hp=>by simp only[refs,ZcL,Zbk,List.mem_singleton]at hp;rw[hp];exact hb)]
   split
   ·rfl
   refine Zhx (fun b xs hc x hx=>IH x (fun p hp=>ha p ?_))
   obtain⟨ee,sz,ys,hbl,hsub⟩:=Zl7 hc
   rw[hbl]
   simp only[List.mem_cons,List.mem_flatMap]
   exact .inr ⟨x,hsub x hx,hp⟩
  |aslc a i k o n=>
   simp only[Zbs]at ha
   have hb:=ha (a,i) (by simp)
   simp only[ZbQ]
   rw[Zdv (h:=h) (h2:=h2) (fun p hp=>by simp only[refs,ZcL,Zbk,List.mem_singleton]at hp;rw[hp];exact hb)]
  |ptr a i k o=>
   simp only[Zbs]at ha
   have hb:blk h2 a i=blk h a i:=ha (a,i) (by simp)
   simp only[ZbQ,hb]
   split
   ·rename_i ee sz r _ hbl
    rw[IH (r.get std k) (fun p hp=>ha p (by rw[hbl];simp only[List.mem_cons];exact .inr hp))]
   ·rfl
  |agg r=>
   cases r with
   |gen xs=>
    simp only[Zbs]at ha
    simp only[ZbQ]
    rw[Zc8 (fun x hx=>IH x (fun p hp=>ha p (List.mem_flatMap.2 ⟨x,hx,hp⟩)))]
   |_=>rfl
  |fn f xs=>
   simp only[Zbs]at ha
   simp only[ZbQ]
   rw[Zc8 (fun x hx=>IH x (fun p hp=>ha p (List.mem_flatMap.2 ⟨x,hx,hp⟩)))]
  |_=>rfl
theorem Ze1{h2:Zad}{l:zA}(hl:∀v∈l,∃e,5≤e∧Zck h h2 (Zbs h e v)):Zqx std h2 l=Zqx std h l:=
 Zc8 (fun v hv=>by obtain⟨e,h1,h2⟩:=hl v hv;exact ZiK 5 e v h1 h2)
theorem Ze7{h2:Zad} :∀(d:Nat) (v:AV),Zck h h2 (Zbs h d v)→Zbs h2 d v=Zbs h d v
 |0,_,_=>rfl
 |d+1,v,ha=>by
  have IH:∀u,Zck h h2 (Zbs h d u)→Zbs h2 d u=Zbs h d u:=fun u=>Ze7 d u
  have fl:∀xs:zA,Zck h h2 (xs.flatMap (Zbs h d))→xs.flatMap (Zbs h2 d)=xs.flatMap (Zbs h d):=by
   intro xs
   induction xs with
   |nil=>intro _;rfl
   |cons x xs ih=>
    intro hx
    simp only[List.flatMap_cons]
    rw[IH x (fun p hp=>hx p (by simp only[List.flatMap_cons,List.mem_append];exact .inl hp)),ih (fun p hp=>hx p (by simp only[List.flatMap_cons,List.mem_append];exact .inr hp))]
  cases v with
  |row a i=>
   simp only[Zbs]at ha⊢
   have hb:blk h2 a i=blk h a i:=ha (a,i) (by simp)
   rw[hb]
   split
   ·rename_i ee sz xs hbl
    rw[fl xs (fun p hp=>ha p (by rw[hbl];simp only[List.mem_cons];exact .inr hp))]
   ·rfl
  |slc a i k n c=>
   simp only[Zbs]at ha⊢
   have hb:blk h2 a i=blk h a i:=ha (a,i) (by simp)
   rw[hb]
   split
   ·rename_i ee sz xs hbl
    rw[fl xs (fun p hp=>ha p (by rw[hbl];simp only[List.mem_cons];exact .inr hp))]
   ·rfl
  |ptr a i k o=>
   simp only[Zbs]at ha⊢
   have hb:blk h2 a i=blk h a i:=ha (a,i) (by simp)
   rw[hb]
   split
   ·rename_i ee sz r hbl
    rw[IH (r.get std k) (fun p hp=>ha p (by rw[hbl];simp only[List.mem_cons];exact .inr hp))]
   ·rfl
  |agg r=>
   cases r with
   |gen xs=>simp only[Zbs]at ha ⊢;exact fl xs ha
   |_=>rfl
  |fn f xs=>simp only[Zbs]at ha ⊢;exact fl xs ha
  |_=>rfl
theorem ZkF{h2:Zad}{k:OpK}{ρ:Opd→AV}{r:AV}(hn:k.neutral=true)(ha:∀x∈k.looks,Zck h h2 (Zdq h k (ρ x)))(hd:Zcw P ρ h k r h):Zcw P ρ h2 k r h2:=by
 have call:∀ {m:Bool} {a:Nat} {f:FuncId} {avs:zA},(∀v∈avs,∃e,5≤e∧Zck h h2 (Zbs h e v))→Nat.beq a 0=true→ZdH P h m a f avs r h→ZdH P h2 m a f avs r h2:=by
  rintro m a f avs hag hz ⟨avs',r0,fr,hs,hp,hask,had⟩
  have hz:a=0:=by simpa using hz
  cases fr with
  |none=>
   simp only[ZcC,zP]at had
   refine⟨avs',r0,none,?_,hp,hask,by simp only[ZcC,zP];exact⟨had.1,trivial⟩⟩
   split
   ·rename_i hm;rw[if_pos hm]at hs;rw[Ze1 hag];exact hs
   ·rename_i hm;rw[if_neg hm]at hs;exact hs
  |some f=>
   rcases hask with⟨h0,hpu⟩ |⟨_,h1,_⟩
   ·have hzz:Nat.beq f.sz 0=true:=by rw[h0];rfl
    simp only[ZcC,hzz,zP]at had
    refine⟨avs',r0,some f,?_,hp, .inl ⟨h0,hpu⟩,by simp only[ZcC,hzz,zP];exact⟨had.1,trivial⟩⟩
    split
    ·rename_i hm;rw[if_pos hm]at hs;rw[Ze1 hag];exact hs
    ·rename_i hm;rw[if_neg hm]at hs;exact hs
   ·exact absurd hz h1
 cases k with
 |ncall m a f args=>
  obtain⟨m',hd⟩:=hd
  refine⟨m',call (fun v hv=>?_) hn hd⟩
  obtain⟨x,hx,rfl⟩:=List.mem_map.1 hv
  exact⟨6,by omega,ha x (by simpa[OpK.looks]using hx)⟩
 |ncallv m a x args=>
  obtain⟨f,avs,m',hx,hc,hd⟩:=hd
  refine⟨f,avs,m',hx,hc,call (fun v hv=>?_) hn hd⟩
  rcases Zo0 hx v hv with hv |⟨caps,hcx,hv⟩ |hv
  ·obtain⟨y,hy,rfl⟩:=List.mem_map.1 hv
   exact⟨6,by omega,ha y (by simp[OpK.looks,hy])⟩
  ·refine⟨5,by omega,fun p hp=>ha x (by simp[OpK.looks]) p ?_⟩
   rw[hcx]
   simp only[Zdq,OpK.calls,Zbs,List.mem_flatMap]
   exact⟨v,hv,hp⟩
  ·exact⟨5,by omega,fun p hp=>by rw[hv]at hp;cases hp⟩
 |_=>exact Zna hn (fun hrd x hx=>by have:=ha x hx;simp only[Zdq,hrd]at this;exact this) hd
theorem ZnI{h2:Zad}{o:AOp}{r:AV}(hn:o.k.neutral=true)(ha:∀x∈o.k.looks,Zck h h2 (Zdq h o.k (Zbw ε x)))(hd:Zdk P o ε h r h):Zdk P o ε h2 r h2:=by
 unfold Zdk at hd⊢
 split
 ·rename_i hg
  rw[hg]at hd
  exact ZkF hn ha hd
 ·rename_i t want hg
  rw[hg]at hd
  rcases hd with⟨h1,h3⟩ |⟨h1,h3,_⟩ |⟨h1,h3,_⟩
  ·exact .inl ⟨h1,ZkF hn ha h3⟩
  ·exact .inr (.inl ⟨h1,h3,rfl⟩)
  ·exact .inr (.inr ⟨h1,h3,rfl⟩)
theorem Zmc{o:AOp}{v:AV}{d:Option Nat}(ht:∀d',d=some d'→d'∉o.tmps):∀x∈o.k.looks,Zbw (Env.put ε d v) x=Zbw ε x:=fun x hx=>by
 cases x with
 |c av=>rfl
 |t n=>
  simp only[Zbw]
  rw[ZdW (fun e=>ht n e (by simp only[AOp.tmps,List.mem_append,List.mem_filterMap];exact .inl ⟨.t n,hx,rfl⟩))]
 |s n=>
  simp only[Zbw]
  rw[ZdW (fun e=>ht n e (by simp only[AOp.tmps,List.mem_append,List.mem_filterMap];exact .inl ⟨.s n,hx,rfl⟩))]
theorem Zj4{z:Foot}{r v:AV}{d:Option Nat}(ht:∀d',d=some d'→d'∉z.o.tmps):Zc9 P z (Env.put ε d v) h r h'↔Zc9 P z ε h r h':=by
 unfold Zc9
 rw[ZqU ht]
 constructor
 ·rintro⟨h1,h2,h3⟩
  exact⟨h1,fun x hx p hp=>h2 x hx p (by rw[Zmc ht x hx];exact hp),h3⟩
 ·rintro⟨h1,h2,h3⟩
  exact⟨h1,fun x hx p hp=>h2 x hx p (by rw[Zmc ht x hx]at hp;exact hp),h3⟩
theorem Zhy{h2:Zad}{z:Foot}{r:AV}(hn:z.o.k.neutral=true)(ha:Zck h h2 z.r)(hd:Zc9 P z ε h r h):Zc9 P z ε h2 r h2:=
 ⟨ZnI hn (fun x hx p hp=>ha p (hd.2.1 x hx p hp)) hd.1,fun x hx p hp=>by
   have:Zdq h2 z.o.k (Zbw ε x)=Zdq h z.o.k (Zbw ε x):=by
    unfold Zdq
    split
    ·rename_i hc
     refine Ze7 _ _ (fun q hq=>ha q (hd.2.1 x hx q ?_))
     simp only[Zdq,hc];exact hq
    ·rfl
   rw[this]at hp
   exact hd.2.1 x hx p hp,fun _ _=>rfl⟩
theorem Zq6{α:Type} :∀(l:List (Nat×α)) (a c:Nat) (f g:α),a≠c→Zdz (Zdz l a f) c g=Zdz (Zdz l c g) a f:=by
 have hb:∀a b:Nat,Nat.beq a b=decide (a=b):=fun a b=>by rw[Bool.eq_iff_iff];simp
 have hl:∀a b:Nat,Nat.blt a b=decide (a<b):=fun a b=>by rw[Bool.eq_iff_iff,Nat.blt_eq];simp
 intro l
 induction l with
 |nil=>
  intro a c f g hne
  simp only[Zdz,hb,hl]
  rcases Nat.lt_trichotomy a c with h |h |h
  ·simp[hne,Ne.symm hne,h,Nat.lt_asymm h]
  ·exact absurd h hne
  ·simp[hne,Ne.symm hne,h,Nat.lt_asymm h]
 |cons p l ih=>
  intro a c f g hne
  obtain⟨i,x⟩:=p
  have h0:=ih a c f g hne
  simp only[Zdz,hb,hl]
  by_cases h1:i=a
  ·subst h1
   by_cases h2:c<i
   ·simp[hne,h2,Zdz,hb,hl,Ne.symm hne,Nat.lt_asymm h2]
   ·simp[hne,h2,Zdz,hb,hl]
  ·by_cases h2:i=c
   ·subst h2
    by_cases h3:a<i
    ·simp[h1,h3,Zdz,hb,hl,hne,Nat.lt_asymm h3]
    ·simp[h1,h3,Zdz,hb,hl]
   ·by_cases h3:a<i<;>by_cases h4:c<i<;>simp[h1,h2,h3,h4,Zdz,hb,hl,h0]
    ·rcases Nat.lt_trichotomy a c with h |h |h
     ·simp[hne,Ne.symm hne,h,Nat.lt_asymm h]
     ·exact absurd h hne
     ·simp[hne,Ne.symm hne,h,Nat.lt_asymm h]
    ·have:¬c<a:=by omega
     simp[hne,this]
    ·have:¬a<c:=by omega
     simp[Ne.symm hne,this]
theorem ZmM(h:Zad){a c:Nat}(hne:a≠c)(x y:Blk):Zal (Zal h a x) c y=Zal (Zal h c y) a x:=by
 have e1:fam (Zal h a x) c=fam h c:=by unfold Zal;rw[ZbR,if_neg hne]
 have e2:fam (Zal h c y) a=fam h a:=by unfold Zal;rw[ZbR,if_neg (Ne.symm hne)]
 show Zdz (Zal h a x) c _=Zdz (Zal h c y) a _
 rw[e1,e2]
 exact Zq6 h a c _ _ hne
theorem ZbV(h:Zad){a c:Nat}(hne:a≠c)(x:Blk):nxt (Zal h a x) c=nxt h c:=by rw[Zcs,if_neg hne]
theorem Zk6{k:OpK}{a:Nat}{ρ:Opd→AV}{r:AV}(hk:k.mkr=some a)(hd:Zcw P ρ h k r h'):∃b:Blk,True∧h'=Zal h a b∧∀h2,nxt h2 a=nxt h a→Zcw P ρ h2 k r (Zal h2 a b):=by
 cases k with
 |alloc c e z=>
  cases hk
  simp only[Zcw,Zat,zS,zP]at hd
  obtain⟨q,rfl,rfl⟩:=hd
  exact⟨_,by simp,rfl,fun h2 hn=>by simp only[Zcw,Zat,q,hn]⟩
 |bslice c e sz parts=>
  cases hk
  simp only[Zcw,Zat,zS,zP]at hd
  obtain⟨q,rfl,rfl⟩:=hd
  exact⟨_,by simp,rfl,fun h2 hn=>by simp only[Zcw,Zat,q,hn]⟩
 |mklst c e sz z ln=>
  cases hk
  simp only[Zcw,Zat]at hd
  split at hd
  ·rename_i kd n hq
   split at hd
   ·rename_i hp
    simp only[zS,zP]at hd
    obtain⟨q,rfl,rfl⟩:=hd
    exact⟨_,by simp,rfl,fun h2 _=>by simp only[Zcw,Zat,hq,hp,q]⟩
   ·cases hd
  ·cases hd
 |mkslice c e sz z ln=>
  cases hk
  simp only[Zcw,Zat]at hd
  split at hd
  ·rename_i kd n hq
   simp only[zS,zP]at hd
   obtain⟨q,rfl,rfl⟩:=hd
   exact⟨_,by simp,rfl,fun h2 hn=>by simp only[Zcw,Zat,hq,q,hn]⟩
  ·cases hd
 |_=>cases hk
theorem Zuq{k:OpK}{a c:Nat}{b:Blk}{ρ:Opd→AV}{r:AV}(hk:k.thr=some c)(hne:a≠c)(hd:Zcw P ρ h k r h')(ha:∀x∈k.looks,Zck h (Zal h a b) (Zdq h k (ρ x))):
 nxt h' a=nxt h a∧Zcw P ρ (Zal h a b) k r (Zal h' a b):=by
 have mk:k.mkr=some c→nxt h' a=nxt h a∧Zcw P ρ (Zal h a b) k r (Zal h' a b):=fun hm=>by
  obtain⟨b2,_,rfl,h3⟩:=Zk6 hm hd
  refine⟨ZbV h (Ne.symm hne) b2,?_⟩
  rw[ZmM h (Ne.symm hne)]
  exact h3 _ (ZbV h hne b)
 have call:∀ {m:Bool} {f:FuncId} {avs:zA},(∀v∈avs,∃e,5≤e∧Zck h (Zal h a b) (Zbs h e v))→ZdH P h m c f avs r h'→nxt h' a=nxt h a∧ZdH P (Zal h a b) m c f avs r (Zal h' a b):=by
  rintro m f avs hag ⟨avs',r0,fr,hs,hp,hask,had⟩
  have hs':if m=true then Zqx std (Zal h a b) avs=some (true,avs')else avs'=avs∧AV.pureL avs=true:=by
   split
   ·rename_i hm;rw[if_pos hm]at hs;rw[Ze1 hag];exact hs
   ·rename_i hm;rw[if_neg hm]at hs;exact hs
  cases fr with
  |none=>
   simp only[ZcC,zP]at had
   obtain⟨rfl,rfl⟩:=had
   exact⟨rfl,avs',r0,none,hs',hp,hask,rfl⟩
  |some f=>
   cases hz:Nat.beq f.sz 0 with
   |true=>
    simp only[ZcC,hz,zP]at had
    obtain⟨rfl,rfl⟩:=had
    exact⟨rfl,avs',r0,some f,hs',hp,hask,by simp only[ZcC,hz]⟩
   |false=>
    simp only[ZcC,hz,zP]at had
    obtain⟨rfl,rfl⟩:=had
    exact⟨ZbV h (Ne.symm hne) _,avs',r0,some f,hs',hp,hask,by simp only[ZcC,hz,ZbV h hne,ZmM h hne]⟩
 cases k with
 |ncall m a2 f args=>
  cases hk
  obtain⟨m',hd⟩:=hd
  obtain⟨g1,g2⟩:=call (fun v hv=>by
   obtain⟨x,hx,rfl⟩:=List.mem_map.1 hv
   exact⟨6,by omega,ha x (by simpa[OpK.looks]using hx)⟩) hd
  exact⟨g1,m',g2⟩
 |ncallv m a2 x args=>
  cases hk
  obtain⟨f,avs,m',hx,hc,hd⟩:=hd
  obtain⟨g1,g2⟩:=call (fun v hv=>by
   rcases Zo0 hx v hv with hv |⟨caps,hcx,hv⟩ |hv
   ·obtain⟨y,hy,rfl⟩:=List.mem_map.1 hv
    exact⟨6,by omega,ha y (by simp[OpK.looks,hy])⟩
   ·refine⟨5,by omega,fun p hp=>ha x (by simp[OpK.looks]) p ?_⟩
    rw[hcx]
    simp only[Zdq,OpK.calls,Zbs,List.mem_flatMap]
    exact⟨v,hv,hp⟩
   ·exact⟨5,by omega,fun p hp=>by rw[hv]at hp;cases hp⟩) hd
  exact⟨g1,f,avs,m',hx,hc,g2⟩
 |alloc c2 e z=>exact mk hk
 |bslice c2 e sz parts=>exact mk hk
 |mkslice c2 e sz z ln=>exact mk hk
 |mklst c2 e sz z ln=>exact mk hk
 |_=>cases hk
theorem Zn3{x z:Foot}{rx r:AV}{hx h1:Zad}(hf:x.o.frees z.o=true)(hdj:ZFA x.r z.w)(hd:Zc9 P x ε h rx hx)(hdo:Zc9 P z ε hx r h1):∃h1',Zc9 P z ε h r h1'∧Zc9 P x ε h1' rx h1:=by
 unfold AOp.frees at hf
 split at hf
 ·rename_i c a hc hak
  simp only[Bool.and_eq_true,Bool.not_eq_true',Option.isNone_iff_eq_none]at hf
  obtain⟨hne,hg⟩:=hf
  have hne:a≠c:=fun e=>by subst e;simp at hne
  obtain⟨hz1,hz2,hz3⟩:=hdo
  have hz1':Zcw P (Zbw ε) hx z.o.k r h1:=by unfold Zdk at hz1;rw[hg]at hz1;exact hz1
  obtain⟨b,_,rfl,hall⟩:=Zk6 hak hz1'
  have hmem:b≠ .dead→∀q,q=(a,nxt hx a)→q∈z.w:=fun hb q e=>by
   subst e
   apply Classical.byContradiction
   intro hn
   have h5:=hz3 (a,nxt hx a) hn
   rw[Za3,if_pos ⟨rfl,rfl⟩]at h5
   exact hb (by rw[h5];exact ZmF (Nat.le_refl _))
  have hoff:∀(hh:Zad),nxt hh a=nxt hx a→∀p:Nat×Nat,p∉z.w→blk (Zal hh a b) p.1 p.2=blk hh p.1 p.2:=fun hh hn p hp=>by
   rw[Za3]
   split
   ·rename_i e
    obtain⟨e1,e2⟩:=e
    by_cases hb:b=.dead
    ·rw[hb,←e1,e2];exact(ZmF (Nat.le_refl _)).symm
    ·exact absurd (hmem hb p (by obtain⟨p1,p2⟩:=p;simp only at e1 e2;rw[←e1,e2,hn])) hp
   ·rfl
  -- the other one leaves this family
  have step:nxt hx a=nxt h a∧(Zck h (Zal h a b) x.r→Zdk P x.o ε (Zal h a b) rx (Zal hx a b)):=by
   have hx1:=hd.1
   have sub:∀ {rx hx},Zck h (Zal h a b) x.r→Zcw P (Zbw ε) h x.o.k rx hx→Zcw P (Zbw ε) (Zal h a b) x.o.k rx (Zal hx a b):=fun hag hop=>
    (Zuq hc hne hop (fun y hy p hp=>hag p (hd.2.1 y hy p hp))).2
   have nx:∀ {rx hx},Zcw P (Zbw ε) h x.o.k rx hx→nxt hx a=nxt h a:=fun hop=>by
    have h6:∀k:OpK,k.thr=some c→∀ {r h'},Zcw P (Zbw ε) h k r h'→nxt h' a=nxt h a:=by
     intro k hk r h' hop
     have cl:∀ {m:Bool} {f:FuncId} {avs:zA},ZdH P h m c f avs r h'→nxt h' a=nxt h a:=by
      rintro m f avs ⟨avs',r0,fr,_,_,_,had⟩
      cases fr with
      |none=>simp only[ZcC,zP]at had;rw[had.2]
      |some f=>
       cases hz:Nat.beq f.sz 0 with
       |true=>simp only[ZcC,hz,zP]at had;rw[had.2]
       |false=>simp only[ZcC,hz,zP]at had;rw[←had.2];exact ZbV h (Ne.symm hne) _
     have mk:k.mkr=some c→nxt h' a=nxt h a:=fun hm=>by
      obtain⟨b2,_,e,_⟩:=Zk6 hm hop
      rw[e];exact ZbV h (Ne.symm hne) b2
     cases k with
     |ncall m a2 f args=>cases hk;obtain⟨m',hop⟩:=hop;exact cl hop
     |ncallv m a2 x args=>cases hk;obtain⟨f,avs,m',_,_,hop⟩:=hop;exact cl hop
     |alloc c2 e z=>exact mk hk
     |bslice c2 e sz parts=>exact mk hk
     |mkslice c2 e sz z ln=>exact mk hk
     |mklst c2 e sz z ln=>exact mk hk
     |_=>cases hk
    exact h6 _ hc hop
   unfold Zdk at hx1⊢
   split at hx1
   ·rename_i hgx
    exact⟨nx hx1,fun hag=>sub hag hx1⟩
   ·rename_i t want hgx
    rcases hx1 with⟨q1,q2⟩ |⟨q1,q2,q3⟩ |⟨q1,q2,q3⟩
    ·exact⟨nx q2,fun hag=>.inl ⟨q1,sub hag q2⟩⟩
    ·subst q3;exact⟨rfl,fun _=>.inr (.inl ⟨q1,q2,rfl⟩)⟩
    ·subst q3;exact⟨rfl,fun _=>.inr (.inr ⟨q1,q2,rfl⟩)⟩
  obtain⟨hnx,hstep⟩:=step
  have hag:Zck h (Zal h a b) x.r:=fun p hp=>hoff h hnx.symm p (hdj p hp)
  refine⟨Zal h a b,⟨?_,?_,fun p hp=>hoff h hnx.symm p hp⟩,hstep hag,?_,?_⟩
  ·unfold Zdk;rw[hg];exact hall h hnx.symm
  ·intro y hy p hp
   have hr:Zdq h z.o.k (Zbw ε y)=Zdq hx z.o.k (Zbw ε y):=by
    have:z.o.k.calls=false∧z.o.k.reads=false:=by
     cases hk:z.o.k<;>rw[hk]at hak<;>first |(cases hak;done) |exact⟨rfl,rfl⟩
    simp only[Zdq,this.1,this.2]
   rw[hr]at hp
   exact hz2 y hy p hp
  ·intro y hy p hp
   have:Zdq (Zal h a b) x.o.k (Zbw ε y)=Zdq h x.o.k (Zbw ε y):=by
    unfold Zdq
    split
    ·rename_i hcl
     refine Ze7 _ _ (fun q hq=>hag q (hd.2.1 y hy q ?_))
     simp only[Zdq,hcl];exact hq
    ·rfl
   rw[this]at hp
   exact hd.2.1 y hy p hp
  ·intro p hp
   by_cases e:p=(a,nxt h a)
   ·subst e
    rw[Za3,if_pos ⟨rfl,hnx.symm⟩,Za3,if_pos ⟨rfl,rfl⟩]
   ·have h7:∀hh,nxt hh a=nxt h a→blk (Zal hh a b) p.1 p.2=blk hh p.1 p.2:=fun hh hn=>by
     rw[Za3,if_neg]
     rintro⟨e1,e2⟩
     exact e (by obtain⟨p1,p2⟩:=p;simp only at e1 e2;rw[←e1,e2,hn])
    rw[h7 hx hnx,h7 h rfl]
    exact hd.2.2 p hp
 ·cases hf
theorem Runs.hoist{o:Foot}{l2:List Foot}{ε2:Env}{h2:Zad} :∀ {l1:List Foot} {ε:Env} {h:Zad},Runs P (l1++o::l2) ε h ε2 h2→(∀x∈l1,ZMU x o)→
 ∃r h1,Zc9 P o ε h r h1∧Runs P (l1++l2) (Env.put ε o.o.d r) h1 ε2 h2
 |[],ε,h,hr,_=>by
  cases hr with
  |cons hd hk=>exact⟨_,_,hd,hk⟩
 |x::l1,ε,h,hr,ha=>by
  cases hr with
  |cons hd hk=>
   rename_i rx hx
   obtain⟨ap,hc⟩:=ha x (by simp)
   obtain⟨a1,a2,a3⟩:=ZpH ap
   obtain⟨r,h1,hdo,hrest⟩:=Runs.hoist hk (fun y hy=>ha y (by simp[hy]))
   have hdo':=(Zj4 a1).1 hdo
   -- the two ways
   have way:∃r' h1',Zc9 P o ε h r h1'∧Zc9 P x ε h1' rx r'∧r'=h1:=by
    rcases hc with⟨n1,n2⟩ |⟨n2,hdj⟩ |⟨n1,hdj⟩ |⟨n1,hdj⟩
    ·have e1:=Zcp n1 hd.1
     have e2:=Zcp n2 hdo.1
     subst e1;subst e2
     exact⟨_,_,hdo',hd,rfl⟩
    ·have e2:=Zcp n2 hdo.1
     subst e2
     exact⟨_,_,Zhy n2 (fun p hp=>(hd.2.2 p (hdj p hp)).symm) hdo',hd,rfl⟩
    ·have e1:=Zcp n1 hd.1
     subst e1
     exact⟨_,_,hdo',Zhy n1 (fun p hp=>hdo.2.2 p (hdj p hp)) hd,rfl⟩
    ·obtain⟨h1',w1,w2⟩:=Zn3 n1 hdj hd hdo'
     exact⟨_,_,w1,w2,rfl⟩
   obtain⟨r',h1',w1,w2,rfl⟩:=way
   refine⟨r,h1',w1,?_⟩
   rw[List.cons_append]
   refine .cons (r:=rx) ((Zj4 a3).2 w2) ?_
   rw[ZuL (fun d' e=>fun e'=>a2 d' e' e)]
   exact hrest
end
inductive Waits (ops:Array Oper):Nat→Nat→Prop
 |edge (j i:Nat) (o:Oper) (e:Edge) (ho:ops[j]? =some o) (he:e∈o.after) (hb:Region.binds .any e=true) (hi:e.on=i):Waits ops j i
 |trans (j m i:Nat) (h1:Waits ops j m) (h2:Waits ops m i):Waits ops j i
def Downed(ops:Array Oper)(listed:Array Bool):Prop:=
 ∀(j:Nat) (o:Oper),ops[j]? =some o→listed.getD j false=true→∀e∈o.after,Region.binds .any e=true→listed.getD e.on false=true
section
variable {P:Program}{ops:Array Oper}{aos:List AOp}
theorem Downed.waits{listed:Array Bool}(hd:Downed ops listed){j i:Nat}(h:Waits ops j i):listed.getD j false=true→listed.getD i false=true:=by
 induction h with
 |edge j i o e ho he hb hi=>intro h1;rw[←hi];exact hd j o ho h1 e he hb
 |trans j m i h1 h2 ih1 ih2=>exact fun h=>ih2 (ih1 h)
theorem ZdE{listed:Array Bool}(hd:Downed ops listed){j i:Nat}(h:Waits ops j i)(hj:j∈Region.ready .any ops listed):listed.getD i false=true:=by
 obtain⟨_,o,ho,hall⟩:=mem_ready.1 hj
 induction h with
 |edge j i o' e ho' he hb hi=>rw[ho]at ho';cases ho';rw[←hi];exact hall e he hb
 |trans j m i h1 h2 ih1 ih2=>exact hd.waits h2 (ih1 hj ‹_› ho)
theorem Downed.add{listed:Array Bool}(hd:Downed ops listed){i:Nat}(hi:i∈Region.ready .any ops listed):Downed ops (listed.setIfInBounds i true):=by
 intro j o ho hj e he hb
 obtain⟨_,oi,hoi,hall⟩:=mem_ready.1 hi
 by_cases hij:i=j
 ·subst hij
  rw[ho]at hoi;cases hoi
  exact getD_set_true (hall e he hb)
 ·rw[getD_set_ne false hij]at hj
  exact getD_set_true (hd j o ho hj e he hb)
theorem ZgQ(all:List Oper):∀(os:List Oper) (acc:List (List Nat)),(∀j,os[j]? =all[acc.length+j]?)→
 (∀j i,i∈acc.getD j []→Waits all.toArray j i)→∀j i,i∈(Zr8 os acc).getD j []→Waits all.toArray j i
 |[],acc,_,h=>h
 |o::os,acc,hos,h=>by
  refine ZgQ all os _ (fun j=>by have:=hos (j+1);simpa[Nat.add_assoc,Nat.add_comm 1 j]using this) ?_
  intro j i hi
  rw[List.getD_eq_getElem?_getD,List.getElem?_append]at hi
  split at hi
  ·exact h j i (by rw[List.getD_eq_getElem?_getD];exact hi)
  ·rename_i hj
   have hj0:j=acc.length:=by
    rcases Nat.lt_or_ge acc.length j with h1 |h1
    ·rw[List.getElem?_eq_none (by simp;omega)]at hi;simp at hi
    ·omega
   subst hj0
   have ho:all[acc.length]? =some o:=by have:=hos 0;simpa using this.symm
   simp only[Nat.sub_self,List.getElem?_cons_zero,Option.getD_some,List.mem_eraseDups,List.mem_append,List.mem_flatMap,List.mem_map,List.mem_filter]at hi
   rcases hi with⟨e,⟨he,hb⟩,rfl⟩ |⟨m,⟨e,⟨he,hb⟩,rfl⟩,hm⟩
   ·exact .edge _ _ o e (by simpa using ho) (by simpa using he) hb rfl
   ·exact .trans _ e.on _ (.edge _ _ o e (by simpa using ho) (by simpa using he) hb rfl) (h _ _ hm)
theorem Zg7{fr:List (Nat×Nat)}{cl:List (List Nat)}(hcl:∀j i,i∈cl.getD j []→Waits ops j i):∀(os:List AOp) (k:Nat),(∀j,os[j]? =aos[k+j]?)→ZkJ fr aos cl k os=true→
 ∀(i j:Nat) (oi oj:AOp),k≤i→i<j→aos[i]? =some oi→aos[j]? =some oj→Waits ops j i∨(oi.apart oj=true∧((oi.k.neutral=true∧oj.k.neutral=true)∨((oi.k.neutral=true∨oj.k.neutral=true∨oi.frees oj=true)∧(i,j)∈fr)))
 |[],k,hos,_,i,j,oi,oj,hki,hij,hoi,_=>by
  have:=hos (i-k)
  rw[show k+(i-k)=i by omega,hoi]at this
  simp at this
 |o::os,k,hos,h,i,j,oi,oj,hki,hij,hoi,hoj=>by
  simp only[ZkJ,Bool.and_eq_true,List.all_eq_true,List.mem_range]at h
  rcases Nat.lt_or_ge k i with h1 |h1
  ·exact Zg7 hcl os (k+1) (fun j=>by have:=hos (j+1);simpa[Nat.add_assoc,Nat.add_comm 1 j]using this) h.2 i j oi oj h1 hij hoi hoj
  ·have hik:i=k:=by omega
   subst hik
   have ho:oi=o:=by have:=hos 0;simp[hoi]at this;exact this.symm
   subst ho
   have hlen:j-i-1<os.length:=by
    have:=hos (j-i)
    rw[show i+(j-i)=j by omega,hoj]at this
    have:=(List.getElem?_eq_some_iff.1 this).1
    simp at this;omega
   have h2:=h.1 (j-i-1) hlen
   rw[show i+1+(j-i-1)=j by omega,hoj]at h2
   simp only[Bool.or_eq_true,Bool.and_eq_true]at h2
   rcases h2 with h2 |h2
   ·exact .inl (hcl j i (by simpa using h2))
   ·exact .inr ⟨h2.1,h2.2.imp id fun h3=>⟨or_assoc.1 h3.1,by simpa using h3.2⟩⟩
theorem ZgU:∀(os:List Oper) (k:Nat),Zu0 k os=true→∀(j:Nat) (o:Oper),os[j]? =some o→∀e∈o.after,Region.binds .any e=true→e.on<k+j
 |[],k,_,j,o,ho=>by simp at ho
 |x::os,k,h,j,o,ho=>by
  simp only[Zu0,Bool.and_eq_true]at h
  cases j with
  |zero=>
   simp at ho;subst ho
   intro e he hb
   have h1:=h.1
   rw[Array.all_eq_true']at h1
   have:=h1 e he
   simp only[Bool.or_eq_true,Bool.not_eq_true',Nat.blt_eq]at this
   rcases this with h2 |h2
   ·rw[hb]at h2;cases h2
   ·simpa using h2
  |succ j=>
   intro e he hb
   have:=ZgU os (k+1) h.2 j o (by simpa using ho) e he hb
   omega
theorem Zdn{N:Nat}{all:List Oper} :∀ {l:List Oper} {aos:List AOp},ZdY P N all l aos=true→l.length=aos.length∧∀(j:Nat) (o:Oper) (ao:AOp),l[j]? =some o→aos[j]? =some ao→ZqQ P N all o ao=true
 |[],[],_=>⟨rfl,fun j o ao ho=>by simp at ho⟩
 |o::os,ao::aos,h=>by
  simp only[ZdY,Bool.and_eq_true]at h
  obtain⟨h1,h2⟩:=Zdn h.2
  refine⟨by simp[h1],fun j a b ha hb=>?_⟩
  cases j with
  |zero=>simp at ha hb;subst ha;subst hb;exact h.1
  |succ j=>exact h2 j a b (by simpa using ha) (by simpa using hb)
 |[],_::_,h=>by simp[ZdY]at h
 |_::_,[],h=>by simp[ZdY]at h
end
theorem ZjZ{p:Nat→Prop} :∀n,p n→∃m,p m∧∀j,j<m→¬p j:=by
 intro n
 induction n using Nat.strongRecOn with
 |_ n ih=>
  intro hp
  by_cases h:∃j,j<n∧p j
  ·obtain⟨j,h1,h2⟩:=h;exact ih j h1 h2
  ·exact⟨n,hp,fun j hj hpj=>h ⟨j,hj,hpj⟩⟩
theorem unl{listed:Array Bool}{i:Nat} :listed.getD i true=false↔i<listed.size∧listed.getD i false=false:=by
 rcases Nat.lt_or_ge i listed.size with h' |h'
 ·simp[h']
 ·simp[Array.getElem?_eq_none h'];omega
theorem Zix{n i:Nat}(h:i<n):List.range n=List.range i++i::(List.range n).drop (i+1):=by
 have h1:=List.take_append_drop i (List.range n)
 rw[List.drop_eq_getElem_cons (by simpa using h)]at h1
 refine h1.symm.trans ?_
 rw[List.take_range,Nat.min_eq_left (Nat.le_of_lt h)]
 simp
section
variable {C:Ctx}{opl:List Oper}{aos:List AOp}{N:Nat}
def left{α:Type}(aos:List α)(listed:Array Bool):List α:=((List.range aos.length).filter fun i=>!listed.getD i true).filterMap fun i=>aos[i]?
theorem Zls:∀aos:List AOp,Zdd aos≤aos.length
 |[]=>Nat.le_refl _
 |o::os=>by
  have:=Zls os
  simp only[Zdd,List.length_cons]
  split<;>omega
theorem Zqk{ops:List Oper}{cl:List (List Nat)}(hcl:∀j i,i∈cl.getD j []→Waits ops.toArray j i){c:Nat}(h:ZD8 cl ops.length c=true):∀j,j<ops.length→c≤j→∀i,i<j→Waits ops.toArray j i:=by
 intro j hj hc i hi
 have h1:=List.all_eq_true.1 h j (by simpa using hj)
 simp only[Bool.or_eq_true,Nat.blt_eq]at h1
 rcases h1 with h1 |h1
 ·omega
 ·have h2:=List.all_eq_true.1 h1 i (by simpa using hi)
  exact hcl j i (by simpa using h2)
theorem Zpa{ops:List Oper}(hlin:∀(j:Nat) (o:Oper),ops[j]? =some o→∀e∈o.after,Region.binds .any e=true→e.on<0+j){c:Nat}(hcw:∀j,j<ops.length→c≤j→∀i,i<j→Waits ops.toArray j i):
 ∀(f k t:Nat) (listed:Array Bool),listed.size=ops.length→k+f=ops.length→c≤k→Downed ops.toArray listed→(∀i,i<k→listed.getD i true=true)→(∀j,k≤j→listed.getD j false=false)→
  Region.linearise.go .any ops.toArray f t listed []=(List.range ops.length).drop k
 |0,k,t,listed,hls,hkf,hck,hdn,h1,h2=>by
  rw[List.drop_of_length_le (by simp;omega)];simp[Region.linearise.go]
 |f+1,k,t,listed,hls,hkf,hck,hdn,h1,h2=>by
  have hk:k<ops.length:=by omega
  have hkr:k∈Region.ready .any ops.toArray listed:=mem_ready.2 ⟨unl.2 ⟨by omega,h2 k (Nat.le_refl _)⟩,ops[k],by simp[hk],fun e hee hb=>by
   have hlt:=hlin k ops[k] (by simp[hk]) e hee hb
   have h4:=h1 e.on (by omega)
   have h6:e.on<listed.size:=by omega
   simpa[h6]using h4⟩
  have hne:Region.ready .any ops.toArray listed≠[]:=fun hnil=>by rw[hnil]at hkr;cases hkr
  have hlt:t%(Region.ready .any ops.toArray listed).length<(Region.ready .any ops.toArray listed).length:=Nat.mod_lt _ (List.length_pos_iff.2 hne)
  generalize hi:(Region.ready .any ops.toArray listed)[t%(Region.ready .any ops.toArray listed).length]=i
  have hgi:(Region.ready .any ops.toArray listed)[t%(Region.ready .any ops.toArray listed).length]? =some i:=by rw[List.getElem?_eq_getElem hlt,hi]
  have hir:i∈Region.ready .any ops.toArray listed:=List.mem_of_getElem? hgi
  obtain⟨hun,op,hop,_⟩:=mem_ready.1 hir
  have hop:ops[i]? =some op:=by simpa using hop
  have hil:i<ops.length:=(List.getElem?_eq_some_iff.1 hop).1
  have hik:i=k:=by
   rcases Nat.lt_trichotomy i k with h |h |h
   ·rw[h1 i h]at hun;cases hun
   ·exact h
   ·have:=ZdE hdn (hcw i hil (by omega) k h) hir
    rw[h2 k (Nat.le_refl _)]at this;cases this
  subst hik
  have hgo:Region.linearise.go .any ops.toArray (f+1) t listed []=i::Region.linearise.go .any ops.toArray f (t/(Region.ready .any ops.toArray listed).length) (listed.setIfInBounds i true) []:=by
   simp only[Region.linearise.go]
   change (match (Region.ready .any ops.toArray listed)[t%(Region.ready .any ops.toArray listed).length]? with
    |some i=>Region.linearise.go .any ops.toArray f (t/(Region.ready .any ops.toArray listed).length) (listed.setIfInBounds i true) [i]
    |none=>[].reverse)=_
   rw[hgi]
   dsimp only
   rw[linearise_go_acc,List.reverse_singleton,List.singleton_append]
  rw[hgo,Zpa hlin hcw f (i+1) _ _ (by simpa using hls) (by omega) (by omega) (hdn.add hir) (fun j hj=>?_) (fun j hj=>?_)]
  ·rw[List.drop_eq_getElem_cons (l:=List.range ops.length) (i:=i) (by simpa using hil)];simp
  ·rcases Nat.lt_or_ge j i with h |h
   ·rw[getD_set_ne true (show i≠j by omega)];exact h1 j h
   ·have:j=i:=by omega
    subst this
    simp[show j<listed.size by omega]
  ·rw[getD_set_ne false (show i≠j by omega)];exact h2 j (by omega)
theorem ZBs{fr:List (Nat×Nat)}{zs:List Foot}(hza:zs.map (·.o)=aos.take (Zdd aos))(hfree:∀(i j:Nat) (x z:Foot),(i,j)∈fr→zs[i]? =some x→zs[j]? =some z→(x.o.k.neutral=true∨z.o.k.neutral=true∨x.o.frees z.o=true)→ZpU x z)
 (hm:ZdY C.P N opl opl aos=true) (hdr:ZoH fr opl aos=true) (hany:ZmB fr=false) {fn:FuncId} {kind:CallKind} {defers:List Deferred} {rnd:Option Nat} {cs:List Frame} {l:List Item} {ε2:Env} {h2:Zad} :
 ∀(fuel t:Nat) (listed:Array Bool) (ε:Env) (h:Zad) (L:Lay) (w:World) (tmps:Array Value),listed.size=opl.length→Downed opl.toArray listed→(∀j,zs.length≤j→listed.getD j false=false)→((List.range zs.length).filter fun i=>!listed.getD i true).length=fuel→
  Runs C.P (left zs listed) ε h ε2 h2→HRel C h L w→EnvF C h L w ε tmps→tmps.size=N→
  ∃tmps' w' L',Step w (Zaz C h L) h L w' (Zaz C h2 L') h2 L'∧HRel C h2 L' w'∧EnvF C h2 L' w' ε2 tmps'∧tmps'.size=N∧
   Steps C.P (lone { fn,tmps,todo:=.inRegion opl.toArray (Region.linearise.go .any opl.toArray (fuel+(opl.length-zs.length)) t listed [])::l,defers,mode:=.run,kind,roundOf:=rnd } cs w) (lone { fn,tmps:=tmps',todo:=.inRegion opl.toArray ((List.range opl.length).drop zs.length)::l,defers,mode:=.run,kind,roundOf:=rnd } cs w'):=by
 obtain⟨hlen0,hmop⟩:=Zdn hm
 have hca:=Zls aos
 have hzl:zs.length=Zdd aos:=by have:=congrArg List.length hza;simp only[List.length_map,List.length_take]at this;omega
 have hlen:zs.length≤opl.length:=by omega
 have hzi':∀(i:Nat) (z:Foot),zs[i]? =some z→(aos.take (Zdd aos))[i]? =some z.o:=fun i z hz=>by rw[←hza,List.getElem?_map,hz];rfl
 have hzi:∀(i:Nat) (z:Foot),zs[i]? =some z→aos[i]? =some z.o:=fun i z hz=>by
  have h1:=hzi' i z hz
  rw[List.getElem?_take]at h1
  split at h1
  ·exact h1
  ·cases h1
 simp only[ZoH,hany,Bool.and_eq_true]at hdr
 obtain⟨hlin,hpairs,hcut⟩:=hdr
 have hlin:=ZgU opl 0 hlin
 have hcl:=ZgQ opl opl [] (by simp) (fun j i hi=>by simp at hi)
 have hpair:=Zg7 (ops:=opl.toArray) hcl (aos.take (Zdd aos)) 0 (by simp) hpairs
 have hcw:∀j,j<opl.length→zs.length≤j→∀i,i<j→Waits opl.toArray j i:=Zqk hcl (by rw[hlen0,hzl];exact hcut)
 intro fuel
 induction fuel with
 |zero=>
  intro t listed ε h L w tmps hls hdn hpost hf hr H he hN
  have hnil:left zs listed=[]:=by
   unfold left
   rw[List.eq_nil_of_length_eq_zero hf];rfl
  rw[hnil]at hr
  cases hr
  refine⟨tmps,w,L,Step.refl _ _ _ _,H,he,hN,?_⟩
  rw[Nat.zero_add,Zpa hlin hcw (opl.length-zs.length) zs.length t listed hls (by omega) (Nat.le_refl _) hdn (fun i hi=>?_) hpost]
  ·exact .refl _ _
  ·cases hq:listed.getD i true with
   |true=>rfl
   |false=>
    have:i∈(List.range zs.length).filter fun i=>!listed.getD i true:=by simp only[List.mem_filter,List.mem_range,hq];exact⟨hi,rfl⟩
    rw[List.eq_nil_of_length_eq_zero hf]at this;cases this
 |succ fuel ih=>
  intro t listed ε h L w tmps hls hdn hpost hf hr H he hN
  -- something is ready
  have hne:Region.ready .any opl.toArray listed≠[]:=by
   have:∃i,i<zs.length∧listed.getD i true=false:=by
    cases hff:(List.range zs.length).filter fun i=>!listed.getD i true with
    |nil=>rw[hff]at hf;simp at hf
    |cons i r=>
     have hi:i∈(List.range zs.length).filter fun i=>!listed.getD i true:=by rw[hff];simp
     simp only[List.mem_filter,List.mem_range,Bool.not_eq_true']at hi
     exact⟨i,hi⟩
   obtain⟨i,hi⟩:=this
   obtain⟨m,⟨h1,h2⟩,h3⟩:=ZjZ (p:=fun i=>i<zs.length∧listed.getD i true=false) i hi
   have hml:m<opl.length:=by omega
   intro hnil
   have hmr:m∈Region.ready .any opl.toArray listed:=mem_ready.2 ⟨h2,opl[m],by simp[hml],fun e hee hb=>by
    have hlt:=hlin m opl[m] (by simp[hml]) e hee hb
    have h4:=h3 e.on (by omega)
    have h5:¬listed.getD e.on true=false:=fun h6=>h4 ⟨by omega,h6⟩
    rw[unl]at h5
    have h6:e.on<listed.size:=by omega
    simpa using(fun h7=>h5 ⟨h6,h7⟩:¬listed.getD e.on false=false)⟩
   rw[hnil]at hmr;cases hmr
  have hlt:t%(Region.ready .any opl.toArray listed).length<(Region.ready .any opl.toArray listed).length:=Nat.mod_lt _ (List.length_pos_iff.2 hne)
  generalize hi:(Region.ready .any opl.toArray listed)[t%(Region.ready .any opl.toArray listed).length]=i
  have hgi:(Region.ready .any opl.toArray listed)[t%(Region.ready .any opl.toArray listed).length]? =some i:=by rw[List.getElem?_eq_getElem hlt,hi]
  have hir:i∈Region.ready .any opl.toArray listed:=List.mem_of_getElem? hgi
  obtain⟨hun,op,hop,hall⟩:=mem_ready.1 hir
  have hop:opl[i]? =some op:=by simpa using hop
  have hil:i<opl.length:=(List.getElem?_eq_some_iff.1 hop).1
  have hia:i<zs.length:=by
   rcases Nat.lt_or_ge i zs.length with h1 |h1
   ·exact h1
   ·exfalso
    cases hff:(List.range zs.length).filter fun i=>!listed.getD i true with
    |nil=>rw[hff]at hf;simp at hf
    |cons m r=>
     have hm':m∈(List.range zs.length).filter fun i=>!listed.getD i true:=by rw[hff];simp
     simp only[List.mem_filter,List.mem_range,Bool.not_eq_true']at hm'
     have:=ZdE hdn (hcw i hil h1 m (by omega)) hir
     rw[(unl.1 hm'.2).2]at this;cases this
  have hgo:Region.linearise.go .any opl.toArray (fuel+1+(opl.length-zs.length)) t listed []=i::Region.linearise.go .any opl.toArray (fuel+(opl.length-zs.length)) (t/(Region.ready .any opl.toArray listed).length) (listed.setIfInBounds i true) []:=by
   rw[show fuel+1+(opl.length-zs.length)=(fuel+(opl.length-zs.length))+1 by omega]
   simp only[Region.linearise.go]
   change (match (Region.ready .any opl.toArray listed)[t%(Region.ready .any opl.toArray listed).length]? with
    |some i=>Region.linearise.go .any opl.toArray (fuel+(opl.length-zs.length)) (t/(Region.ready .any opl.toArray listed).length) (listed.setIfInBounds i true) [i]
    |none=>[].reverse)=_
   rw[hgi]
   dsimp only
   rw[linearise_go_acc,List.reverse_singleton,List.singleton_append]
  -- it may come first
  have hsplit:=Zix hia
  let l1:=((List.range i).filter fun j=>!listed.getD j true).filterMap fun j=>zs[j]?
  let l2:=(((List.range zs.length).drop (i+1)).filter fun j=>!listed.getD j true).filterMap fun j=>zs[j]?
  have hL:left zs listed=l1++zs[i]::l2:=by
   unfold left
   rw[hsplit,List.filter_append,List.filterMap_append,List.filter_cons,if_pos (by simp[hun]),List.filterMap_cons,List.getElem?_eq_getElem hia]
  have hset:∀j,j≠i→(listed.setIfInBounds i true).getD j true=listed.getD j true:=fun j hj=>getD_set_ne true (Ne.symm hj)
  have hseti:(listed.setIfInBounds i true).getD i true=true:=by simp[show i<listed.size by omega]
  have hf1:((List.range i).filter fun j=>!(listed.setIfInBounds i true).getD j true)=(List.range i).filter fun j=>!listed.getD j true:=by
   apply List.filter_congr
   intro j hj
   have:j<i:=by simpa using hj
   rw[hset j (by omega)]
  have hf2:(((List.range zs.length).drop (i+1)).filter fun j=>!(listed.setIfInBounds i true).getD j true)=((List.range zs.length).drop (i+1)).filter fun j=>!listed.getD j true:=by
   apply List.filter_congr
   intro j hj
   obtain⟨q,hq⟩:=List.mem_iff_getElem?.1 hj
   rw[List.getElem?_drop]at hq
   have hqj:j=i+1+q:=by
    have:=(List.getElem?_eq_some_iff.1 hq).2
    simpa using this.symm
   rw[hset j (by omega)]
  have hL':left zs (listed.setIfInBounds i true)=l1++l2:=by
   unfold left
   rw[hsplit,List.filter_append,List.filterMap_append,List.filter_cons,if_neg (by simp[hseti]),hf1,hf2]
  have hf':((List.range zs.length).filter fun j=>!(listed.setIfInBounds i true).getD j true).length=fuel:=by
   rw[hsplit,List.filter_append,List.filter_cons,if_pos (by simp[hun]),List.length_append,List.length_cons]at hf
   rw[hsplit,List.filter_append,List.filter_cons,if_neg (by simp[hseti]),hf1,hf2,List.length_append]
   omega
  rw[hL]at hr
  obtain⟨r,h1,hdo,hrest⟩:=hr.hoist (fun x hx=>by
   simp only[l1,List.mem_filterMap,List.mem_filter,List.mem_range,Bool.not_eq_true']at hx
   obtain⟨j,⟨hj1,hj2⟩,hj3⟩:=hx
   rcases hpair j i x.o zs[i].o (Nat.zero_le _) hj1 (hzi' _ _ hj3) (hzi' _ _ (List.getElem?_eq_getElem hia))with hw |hw
   ·have:=ZdE hdn hw hir
    rw[(unl.1 hj2).2]at this;cases this
   ·exact⟨hw.1,hw.2.imp id fun h3=>hfree j i x zs[i] h3.2 hj3 (List.getElem?_eq_getElem hia) h3.1⟩)
  rw[←hL']at hrest
  obtain⟨v,w',L',s,H',he',hst⟩:=Zmn (cs:=cs) (fr:={ fn,tmps,todo:=.inRegion opl.toArray (i::Region.linearise.go .any opl.toArray (fuel+(opl.length-zs.length)) (t/(Region.ready .any opl.toArray listed).length) (listed.setIfInBounds i true) [])::l,defers,mode:=.run,kind,roundOf:=rnd }) H he hN rfl rfl hop (hmop i op zs[i].o hop (hzi _ _ (List.getElem?_eq_getElem hia))) hdo.1
  obtain⟨tmps2,w2,L2,s2,H2,he2,hN2,hst2⟩:=ih (t/(Region.ready .any opl.toArray listed).length) (listed.setIfInBounds i true) _ h1 L' w' (Zli tmps zs[i].o.d v) (by simpa using hls) (hdn.add hir) (fun j hj=>by rw[getD_set_ne false (show i≠j by omega)];exact hpost j hj) hf' hrest H' he' (by rw[ZfD];exact hN)
  refine⟨tmps2,w2,L2,⟨Nat.le_trans s.size s2.size,fun g hg ho=>?_,fun a=>Nat.le_trans (s.nx a) (s2.nx a),fun a j sz hj ht=>?_⟩,H2,he2,hN2,?_⟩
  ·obtain⟨q1,q2⟩:=s.mem g hg ho
   obtain⟨q3,q4⟩:=s2.mem g (Nat.lt_of_lt_of_le hg s.size) q1
   exact⟨q3,q4.trans q2⟩
  ·obtain⟨q1,q2,q3⟩:=s2.tags a j sz (Nat.lt_of_lt_of_le hj (s.nx a)) ht
   obtain⟨q4,q5,q6⟩:=s.tags a j sz hj q1
   exact⟨q4,q2.trans q5,q3.trans q6⟩
  ·rw[hgo];exact hst.trans hst2
end
end Go.Proofs.YtkeoeooghhjibaaGreatDoor
