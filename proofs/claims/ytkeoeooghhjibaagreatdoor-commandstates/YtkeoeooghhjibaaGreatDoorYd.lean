/- Runs at letters as trees: one theorem for all ways out of a head. No condition. -/
import Derived.Test.YtkeoeooghhjibaaGreatDoorYc
namespace Go.Proofs.YtkeoeooghhjibaaGreatDoor
open Go.RowKit (Below)
inductive Sp where
 |fn |fm |hd |no
 |run (n:Nat) (k:Sp)
 |alt (p:List Bool) (k r:Sp)
 |any (k:Sp)
def Sp.tf(a b:Sp):Sp:=.alt [true] a (.alt [false] b .no)
def Sp.ty(a:Sp):Sp:=.alt [true] a .no
def Sp.fy(a:Sp):Sp:=.alt [false] a .no
def qB:List Bool→Prop→Prop→Prop
 |[],t,_=>t
 |b::l,t,d=>match b with |true=>qB l t d |false=>d
abbrev KT:=List AFrame×Zac→Prop
abbrev FT:=AV→Option Fresh→Prop
abbrev MT:=AV→Nat→Nat→Row→Prop
def ZFB(A:Ar)(fn:FuncId)(F:FT)(g:AFrame)(gs:List AFrame)(h:Zac):Prop:=
 match gs with
 |_::_=>False
 |[]=>match g.ret&&Nat.beq g.fn fn with
  |false=>False
  |true=>match g.rnd with
   |some _=>False
   |none=>match g.defs with
    |_::_=>False
    |[]=>match ZmZ A g.env h g.res with
     |none=>False
     |some (b,vs)=>match ZeE h (Zfi vs)with
      |none=>False
      |some (r,fr)=>qB [b] (F r fr) False
def ZBE(A:Ar)(fn:FuncId)(M:MT)(g:AFrame)(gs:List AFrame)(h:Zac):Prop:=
 match gs with
 |_::_=>False
 |[]=>match g.ret&&Nat.beq g.fn fn with
  |false=>False
  |true=>match g.rnd with
   |some _=>False
   |none=>match g.defs with
    |_::_=>False
    |[]=>match Zet A g.env h g.res with
     |none=>False
     |some (b,vs)=>match blk h 0 0 with
      | .row e sz y=>match ZuZ (Zfi vs)&&y.pure with
        |true=>qB [b] (M (Zfi vs) e sz y) False
        |false=>False
      |_=>False
def ZEr:List (List Nat)→(List Nat→Prop)→Prop
 |[],_=>True
 |x::l,p=>p x∧ZEr l p
theorem Zmi{p:List Nat→Prop} :∀ {l:List (List Nat)},ZEr l p→∀x∈l,p x
 |_::_,h,_, .head _=>h.1
 |_::_,h,x, .tail _ hm=>Zmi h.2 x hm
def ZwR:Nat→Prop→Prop
 |0,_=>True
 |n+1,t=>t∧ZwR n t
@[simp] theorem ZsI (t:Prop):∀n:Nat,ZwR (n+1) t=t
 |0=>by simp[ZwR]
 |n+1=>by
  have e:ZwR (n+1+1) t=(t∧ZwR (n+1) t):=rfl
  rw[e,ZsI t n,and_self]
def ZaD(A:Ar)(T:Tab)(l:List Ctr)(fn:FuncId)(K:KT)(F:FT)(M:MT):Sp→List AFrame→Zac→Prop
 | .no,_,_=>False
 | .hd,fs,h=>match ZCe fs h with |none=>False |some p=>K p
 | .fn,fs,h=>match fs with |[]=>False |g::gs=>ZFB A fn F g gs h
 | .fm,fs,h=>match fs with |[]=>False |g::gs=>ZBE A fn M g gs h
 | .run n k,fs,h=>match fs with
   |[]=>False
   |f::fs=>match Zgh A T l n [] [] f fs h with
    |none=>False
    |some (acc,f',fs',h')=>qB acc (ZaD A T l fn K F M k (f'::fs') h') False
 | .alt p k r,fs,h=>match fs with
   |[]=>False
   |f::gs=>match Zrf A T l p [] f gs h with
    |none=>False
    |some (_,acc,f',fs',h')=>qB acc (ZaD A T l fn K F M k (f'::fs') h') (ZaD A T l fn K F M r (f::gs) h)
 | .any k,fs,h=>match fs with
   |[]=>False
   |f::gs=>match Zqb f with
    |none=>False
    |some (ops,fr,kk)=>ZEr (ZpM (fr.drop 1) ops.length (List.range ops.length)) fun σ=>ZaD A T l fn K F M k ({ f with todo:=.inReg (Zv8 ops σ)::kk } ::gs) h
theorem Zf7{l:List Bool}{t d:Prop}(h:qB l t d):((∀ b∈l,b=true)∧t)∨d:=by
 induction l with
 |nil=>exact .inl ⟨fun b hb=>(by cases hb),h⟩
 |cons b l ih=>
  cases b with
  |false=>exact .inr h
  |true=>rcases ih h with⟨h1,h2⟩ |h1
         ·exact .inl ⟨fun b hb=>(by rcases List.mem_cons.1 hb with rfl |e;rfl;exact h1 b e),h2⟩
         ·exact .inr h1
section
variable {C:Ctx}{T:Tab}{l:List Ctr}{fn:FuncId}{Q:List AFrame→Zac→Prop}{K:KT}{F:FT}{M:MT}
theorem Zbx(hfol:C.P.follows .mixedOrders=true)(hT:Zbt C.P T)(hl:ZaI C.P l)
 (hK:∀p,K p→Ev C p.1 p.2 Q) (hF:∀r fr,F r fr→∀fs h,ZbT fn r fr fs h→Q fs h) (hM:∀r e sz y,M r e sz y→∀fs h,ZHT fn e sz y r fs h→Q fs h):
 ∀(s:Sp) {fs:List AFrame} {h:Zac},ZaD std T l fn K F M s fs h→Ev C fs h Q
 | .no,fs,h,hg=>hg.elim
 | .hd,fs,h,hg=>by
   unfold ZaD at hg
   split at hg
   ·exact hg.elim
   ·rename_i p hp
    obtain⟨gs,h2⟩:=p
    exact Zoh hp (hK _ hg)
 | .fn,fs,h,hg=>by
   unfold ZaD at hg
   split at hg
   ·exact hg.elim
   ·rename_i g gs
    unfold ZFB at hg
    split at hg
    ·exact hg.elim
    ·split at hg
     ·exact hg.elim
     ·rename_i hr
      simp only[Bool.and_eq_true]at hr
      split at hg
      ·exact hg.elim
      ·rename_i hn
       split at hg
       ·exact hg.elim
       ·rename_i hd
        split at hg
        ·exact hg.elim
        ·rename_i b vs hc
         split at hg
         ·exact hg.elim
         ·rename_i r fr hex
          rcases Zf7 hg with⟨h1,h2⟩ |h1
          ·have hb1:b=true:=h1 b List.mem_cons_self
           subst hb1
           exact .now (by simp) (hF r fr h2 _ _ ⟨g,vs,rfl,Nat.eq_of_beq_eq_true hr.2,hr.1,hn,hd,hc,hex⟩)
          ·exact h1.elim
 | .fm,fs,h,hg=>by
   unfold ZaD at hg
   split at hg
   ·exact hg.elim
   ·rename_i g gs
    unfold ZBE at hg
    split at hg
    ·exact hg.elim
    ·split at hg
     ·exact hg.elim
     ·rename_i hr
      simp only[Bool.and_eq_true]at hr
      split at hg
      ·exact hg.elim
      ·rename_i hn
       split at hg
       ·exact hg.elim
       ·rename_i hd
        split at hg
        ·exact hg.elim
        ·rename_i b vs hc
         split at hg
         ·rename_i e sz y hbk
          split at hg
          ·rename_i hp
           simp only[Bool.and_eq_true]at hp
           rcases Zf7 hg with⟨h1,h2⟩ |h1
           ·have hb1:b=true:=h1 b List.mem_cons_self
            subst hb1
            exact .now (by simp) (hM _ e sz y h2 _ _ ⟨g,vs,rfl,Nat.eq_of_beq_eq_true hr.2,hr.1,hn,hd,hc,rfl,hp.1,hbk,hp.2⟩)
           ·exact h1.elim
          ·exact hg.elim
         ·exact hg.elim
 | .run n k,fs,h,hg=>by
   unfold ZaD at hg
   split at hg
   ·exact hg.elim
   ·split at hg
    ·exact hg.elim
    ·rename_i acc f' fs' h' hs
     rcases Zf7 hg with⟨h1,h2⟩ |h1
     ·exact(ZbM hfol hT hl n _ _ _ _ hs h1 (Zbx hfol hT hl hK hF hM k h2)).2
     ·exact h1.elim
 | .alt p k r,fs,h,hg=>by
   unfold ZaD at hg
   split at hg
   ·exact hg.elim
   ·split at hg
    ·exact hg.elim
    ·rename_i pa' acc f' fs' h' hs
     rcases Zf7 hg with⟨h1,h2⟩ |h1
     ·exact(Zhc hfol hT hl _ _ _ _ _ hs h1 (Zbx hfol hT hl hK hF hM k h2)).2
     ·exact Zbx hfol hT hl hK hF hM r h1
 | .any k,fs,h,hg=>by
   unfold ZaD at hg
   split at hg
   ·exact hg.elim
   ·rename_i f gs
    split at hg
    ·exact hg.elim
    ·rename_i ops fr kk ha
     unfold Zqb at ha
     split at ha
     ·cases ha
     ·rename_i hr
      split at ha
      ·rename_i fr' ops' kk' ht
       split at ha
       ·rename_i hany
        cases ha
        exact Zl9 hfol hany hr ht fun σ hσ=>Zbx hfol hT hl hK hF hM k (Zmi hg σ hσ)
       ·cases ha
      ·cases ha
end
def bB(b:Bool)(t d:Prop):Prop:=qB [b] t (qB [!b] d False)
def rB(l:List Bool)(t:Prop):Prop:=qB l t False
@[simp] theorem ZEN (t d:Prop):qB [] t d=t:=rfl
@[simp] theorem ZFj (a b:List AV):std.appA a b=a++b:=rfl
@[simp] theorem ZFw (l:List AV) (j:Nat) (x:AV):std.setA l j x=l.set j x:=rfl
@[simp] theorem ZFh (l:List AV) (k n:Nat):std.subA l k n=(l.drop k).take n:=rfl
@[simp] theorem ZFg (n:Nat) (x:AV):std.repA n x=List.replicate n x:=rfl
@[simp] theorem ZDP (b:Bool) (l:List Bool) (t d:Prop):qB (b::l) t d=if b=true then qB l t d else d:=by cases b<;>rfl
theorem Zmm:∀(l:List Bool) (t:Prop),qB l t False=(AllT l∧t)
 |[],t=>by simp[qB]
 |b::l,t=>by
  rw[ZDP,Zmm l]
  cases b<;>simp
@[simp] theorem ZGU (b:Bool) (t d:Prop):bB b t d=if b=true then t else d:=by cases b<;>simp[bB,qB]
@[simp] theorem ZFR (l:List Bool) (t:Prop):rB l t=(AllT l∧t):=Zmm l t
inductive Wk:AV→AV→Prop
 |nil (r:Row) (h:r.elems=[]):Wk .nils (.list r)
 |emp (r:Row) (h:r.elems=[]):Wk .emp (.list r)
 |same (v:AV):Wk v v
 |agg (xs ys:List AV) (hl:xs.length=ys.length) (h:∀(j:Nat) (x y:AV),xs[j]? =some x→ys[j]? =some y→Wk x y):Wk (.agg (.gen xs)) (.agg (.gen ys))
 |tup (xs ys:List AV) (hl:xs.length=ys.length) (h:∀(j:Nat) (x y:AV),xs[j]? =some x→ys[j]? =some y→Wk x y):Wk (.tup xs) (.tup ys)
def WkA:List AV→List AV→Prop
 |[],[]=>True
 |x::xs,y::ys=>Wk x y∧WkA xs ys
 |_,_=>False
theorem WkA.spec:∀ {xs ys:List AV},WkA xs ys→xs.length=ys.length∧∀(j:Nat) (x y:AV),xs[j]? =some x→ys[j]? =some y→Wk x y
 |[],[],_=>⟨rfl,fun j x y h=>by simp at h⟩
 |x::xs,y::ys,h=>by
  obtain⟨h1,h2⟩:=h
  obtain⟨e1,e2⟩:=WkA.spec h2
  refine⟨by simp[e1],fun j u v hu hv=>?_⟩
  cases j with
  |zero=>simp at hu hv;subst hu;subst hv;exact h1
  |succ j=>exact e2 j u v (by simpa using hu) (by simpa using hv)
theorem Wk.agg'{xs ys:List AV}(h:WkA xs ys):Wk (.agg (.gen xs)) (.agg (.gen ys)):=.agg _ _ h.spec.1 h.spec.2
theorem Wk.tup'{xs ys:List AV}(h:WkA xs ys):Wk (.tup xs) (.tup ys):=.tup _ _ h.spec.1 h.spec.2
theorem Wk.rel{w:World}{ok:Nat→Prop}{h:Zac}{L:Lay}{v v':AV}(hw:Wk v v'):∀ {x:Value},Rel w ok h L v x→Rel w ok h L v' x:=by
 induction hw with
 |nil r h=>intro x hr;cases hr with |nils=>exact .nil r none 0 h
 |emp r h=>intro x hr;cases hr with |emp ad=>exact .nil r (some ad) 0 h
 |same=>intro x hr;exact hr
 |agg xs ys hl _ ih=>
  intro x hr
  cases hr with
  |agg _ xs' hx vs hlv h1 hrr=>
   have hx:xs=xs':=hx.symm
   subst hx
   refine .agg _ ys rfl vs (by rw[←hl];exact hlv) h1 (fun j u v hu hv=>?_)
   have hj:j<xs.length:=by rw[hl];exact(List.getElem?_eq_some_iff.1 hu).1
   exact ih j _ u (List.getElem?_eq_getElem hj) hu (hrr j _ v (List.getElem?_eq_getElem hj) hv)
 |tup xs ys hl _ ih=>
  intro x hr
  cases hr with
  |tup _ vs hlv hrr=>
   refine .tup ys vs (by rw[←hl];exact hlv) (fun j u v hu hv=>?_)
   have hj:j<xs.length:=by rw[hl];exact(List.getElem?_eq_some_iff.1 hu).1
   exact ih j _ u (List.getElem?_eq_getElem hj) hu (hrr j _ v (List.getElem?_eq_getElem hj) hv)
def ZwS(fn:FuncId)(r:AV)(fr:Option Fresh)(fs:List AFrame)(h:Zac):Prop:=∃r',Wk r' r∧ZbT fn r' fr fs h
theorem Zll{P:Program}{T:Tab}(hT:Zbt P T){f:FuncId}{args:List AV}{af:AFrame}{r:AV}{fr:Option Fresh}(he:Zaq T f args=some af)
 (hq:∀w okA cs,Ev (Ctx.of P w okA cs) [af] [] (ZwS f r fr)):Zan P f args r fr:=by
 intro w okA L vs hargs hok cs
 have H0:HRel (Ctx.of P w okA cs) [] L w:=⟨Below.refl _ _,fun _ _ ht=>absurd rfl ht.tag,fun _ _=>trivial,fun _ _ _ _ ht=>absurd rfl ht.tag,fun _ _ ht=>absurd rfl ht.tag,fun _ _ _=>rfl,Nat.le_refl _⟩
 obtain⟨hfr,_⟩:=Zee (C:=(Ctx.of P w okA cs)) (h:=[]) (L:=L) (w:=w) hT he (by
  refine⟨hargs.1,fun j u v hu hv=>(hargs.2 j u v hu hv).okmono (fun g hg ho=>.inl ⟨hok g ho,ho⟩)⟩)
 obtain⟨fs',h',L',fr',cs',w',⟨r',hwk,g,us,rfl,hfn,hret,hrnd,hdefs,hc,hex⟩,_,hf',H',hst,_⟩:=hq w okA cs L _ cs w (.cons hfr .base) H0 (by simp)
 cases hf' with
 |cons hf' hk=>
  cases hk
  obtain⟨fn,hfn',hmr⟩:=hf'.res hrnd
  obtain⟨vs0,hc0,hwl⟩:∃vs0,Zet std g.env h' g.res=some (true,vs0)∧Zck std h' vs0=(true,us):=by
   unfold ZmZ at hc
   split at hc
   ·rename_i b vs hq
    generalize hz:Zck std h' vs=z at hc
    obtain⟨c,us'⟩:=z
    simp only[Option.some.injEq,Prod.mk.injEq,std_and]at hc
    obtain⟨⟨rfl,rfl⟩,rfl⟩:=hc
    exact⟨vs,hq,hz⟩
   ·cases hc
  obtain⟨x,e1,e2⟩:=ZdX H' hf'.env hmr hc0
  replace e2:=ZhY H' hwl e2
  obtain⟨L2,H2,r2⟩:=ZfI H' e2 hex
  have hnew:Zmw fr=false:=by
   cases fr with
   |none=>rfl
   |some f=>
    have hbr:=H2.blks 0 0
    rw[show blk (Zay (some f)) 0 0=.row f.e f.sz f.r from rfl]at hbr
    have:=hbr.1
    show Nat.beq f.sz 0=false
    cases hb:Nat.beq f.sz 0 with
    |false=>rfl
    |true=>have:=Nat.eq_of_beq_eq_true hb;omega
  refine⟨.returned x,w',fr',⟨x,L2,rfl,H2.below,by unfold Zi3;rw[hnew];exact⟨⟨H2.below,H2.live,H2.blks,H2.inj,H2.home,H2.low,H2.base⟩,hwk.rel r2⟩⟩,hst,hf'.fn.trans hfn,?_⟩
  rcases hf'.mode with⟨_,hm⟩ |⟨e,_⟩
  ·refine⟨hm,?_,hf'.kind,fn,?_,e1⟩
   ·obtain⟨gs,g1,g2,_⟩:=hf'.defs
    rw[hdefs]at g2
    rw[g1,List.eq_nil_of_length_eq_zero g2];rfl
   ·rw[hf'.fn];exact hfn'
  ·rw[hret]at e;cases e
theorem ZiD{P:Program}{f:FuncId}{args:List AV}{r0:AV}{e sz:Nat}{r:Row}(h:Zan P f args r0 none)(hb:bare r0=true)(hr:r.elems=[])(hsz:0<sz):Zan P f args (.row 0 0) (some ⟨e,sz,r⟩):=by
 intro w okA L vs ha hok
 refine(h w okA L vs ha hok).mono ?_
 rintro e' w' ⟨v,L',he,hbl,hp⟩
 obtain⟨H,rr⟩:HRel (Ctx.of P w okA []) [] L' w'∧ZaE (Ctx.of P w okA []) [] L' w' r0 v:=hp
 obtain⟨L2,s,H2,r2⟩:=ZdH H (fun _ _=>False) [] (fun _=>rfl) (fun _ _=>.inr ⟨fun e=>e,rfl⟩) (a:=0) (e:=e) hr hsz
 obtain⟨ad,hv⟩:=Zi5 hb rr
 refine⟨v,L2,he,hbl,?_⟩
 have hn:Zmw (some ⟨e,sz,r⟩)=false:=by
  show Nat.beq sz 0=false
  cases hz:Nat.beq sz 0 with
  |false=>rfl
  |true=>have:=Nat.eq_of_beq_eq_true hz;omega
 unfold Zi3
 rw[hn]
 exact⟨H2,by rw[hv];exact r2 ad⟩
theorem ZiA{P:Program}{f:FuncId}{args:List AV}{e sz:Nat}{r r':Row}(h:Zan P f args (.row 0 0) (some ⟨e,sz,r⟩))(hsz:0<sz)(he:r'.elems=r.elems):Zan P f args (.row 0 0) (some ⟨e,sz,r'⟩):=by
 intro w okA L vs ha hok
 refine(h w okA L vs ha hok).mono ?_
 rintro e' w' ⟨v,L',he',hbl,hp⟩
 have hn:∀r:Row,Zmw (some ⟨e,sz,r⟩)=false:=fun r=>by
  show Nat.beq sz 0=false
  cases hz:Nat.beq sz 0 with
  |false=>rfl
  |true=>have:=Nat.eq_of_beq_eq_true hz;omega
 unfold Zi3 at hp
 rw[hn]at hp
 obtain⟨H,rr⟩:=hp
 obtain⟨s,H2⟩:=H.same (a:=0) (j:=0) (e:=e) (sz:=sz) (r:=r) (r':=r') rfl he
 refine⟨v,L',he',hbl,?_⟩
 unfold Zi3
 rw[hn]
 exact⟨H2,rr.step s⟩
end Go.Proofs.YtkeoeooghhjibaaGreatDoor
