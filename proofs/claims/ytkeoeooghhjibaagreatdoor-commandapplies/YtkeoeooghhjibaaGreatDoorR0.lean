/- Runs at letters as trees: one theorem for all ways out of a head. No condition. -/
import Derived.Test.YtkeoeooghhjibaaGreatDoorXw
namespace Go.Proofs.YtkeoeooghhjibaaGreatDoor
open Go.RowKit (Below)
inductive Sp where
 |fn |fm |hd |no
 |run (n:Nat) (k:Sp)
 |alt (p:List Bool) (k r:Sp)
 |any (k:Sp)
 |toF (g n:Nat) (k:Sp)
def Sp.tf(a b:Sp):Sp:=.alt [true] a (.alt [false] b .no)
def Sp.ty(a:Sp):Sp:=.alt [true] a .no
def Sp.fy(a:Sp):Sp:=.alt [false] a .no
def qB:List Bool→Prop→Prop→Prop
 |[],t,_=>t
 |b::l,t,d=>match b with |true=>qB l t d |false=>d
abbrev KT:=List AFrame×Zad→Prop
abbrev FT:=AV→Option Fresh→Prop
abbrev MT:=AV→Nat→Nat→Row→Prop
def ZLn(A:Ar)(fn:FuncId)(F:FT)(g:AFrame)(gs:List AFrame)(h:Zad):Prop:=
 match gs with
 |_::_=>False
 |[]=>match g.ret&&Nat.beq g.fn fn with
  |false=>False
  |true=>match g.rnd with
   |some _=>False
   |none=>match g.defs with
    |_::_=>False
    |[]=>match ZnY A g.env h g.res with
     |none=>False
     |some (b,vs)=>match Zgm h (Zgw vs)with
      |none=>False
      |some (r,fr)=>qB [b] (F r fr) False
def ZCX(A:Ar)(fn:FuncId)(M:MT)(g:AFrame)(gs:List AFrame)(h:Zad):Prop:=
 match gs with
 |_::_=>False
 |[]=>match g.ret&&Nat.beq g.fn fn with
  |false=>False
  |true=>match g.rnd with
   |some _=>False
   |none=>match g.defs with
    |_::_=>False
    |[]=>match Zfk A g.env h g.res with
     |none=>False
     |some (b,vs)=>match blk h 0 0 with
      | .row e sz y=>match Zzz (Zgw vs)&&y.pure with
        |true=>qB [b] (M (Zgw vs) e sz y) False
        |false=>False
      |_=>False
def ZKb:List (List Nat)→(List Nat→Prop)→Prop
 |[],_=>True
 |x::l,p=>p x∧ZKb l p
theorem Zpi{p:List Nat→Prop} :∀ {l:List (List Nat)},ZKb l p→∀x∈l,p x
 |_::_,h,_, .head _=>h.1
 |_::_,h,x, .tail _ hm=>Zpi h.2 x hm
def Zu3:Nat→Prop→Prop
 |0,_=>True
 |n+1,t=>t∧Zu3 n t
@[simp] theorem Zy0 (t:Prop):∀n:Nat,Zu3 (n+1) t=t
 |0=>by simp[Zu3]
 |n+1=>by
  have e:Zu3 (n+1+1) t=(t∧Zu3 (n+1) t):=rfl
  rw[e,Zy0 t n,and_self]
def ZIt(g:Nat)(f:AFrame):Bool:=match ZsQ f with
 |some _=>true
 |none=>match Nat.beq f.fn g with
  |false=>false
  |true=>match f.todo with
   |[.code _]=>true
   |_=>false
def ZiW(A:Ar)(T:Tab)(l:List Ctr)(g:Nat):Nat→List Bool→List Bool→AFrame→List AFrame→Zad→Option ASt
 |0,_,acc,f,fs,h=>some (acc,f,fs,h)
 |n+1,pa,acc,f,fs,h=>match ZIt g f with
  |true=>some (acc,f,fs,h)
  |false=>match Zrk A T l pa acc f fs h with
   |none=>none
   |some (pa',acc',f',fs',h')=>ZiW A T l g n pa' acc' f' fs' h'
def Zaw(A:Ar)(T:Tab)(l:List Ctr)(fn:FuncId)(K:KT)(F:FT)(M:MT):Sp→List AFrame→Zad→Prop
 | .no,_,_=>False
 | .hd,fs,h=>match ZHQ fs h with |none=>False |some p=>K p
 | .fn,fs,h=>match fs with |[]=>False |g::gs=>ZLn A fn F g gs h
 | .fm,fs,h=>match fs with |[]=>False |g::gs=>ZCX A fn M g gs h
 | .run n k,fs,h=>match fs with
   |[]=>False
   |f::fs=>match Zja A T l n [] [] f fs h with
    |none=>False
    |some (acc,f',fs',h')=>qB acc (Zaw A T l fn K F M k (f'::fs') h') False
 | .alt p k r,fs,h=>match fs with
   |[]=>False
   |f::gs=>match Zrk A T l p [] f gs h with
    |none=>False
    |some (_,acc,f',fs',h')=>qB acc (Zaw A T l fn K F M k (f'::fs') h') (Zaw A T l fn K F M r (f::gs) h)
 | .any k,fs,h=>match fs with
   |[]=>False
   |f::gs=>match ZsQ f with
    |none=>False
    |some (ops,fr,kk)=>ZKb (Ztw (fr.drop 1) ops.length (List.range ops.length)) fun σ=>Zaw A T l fn K F M k ({ f with todo:=.inReg (ZyC ops σ)::kk } ::gs) h
 | .toF g n k,fs,h=>match fs with
   |[]=>False
   |f::fs=>match ZiW A T l g n [] [] f fs h with
    |none=>False
    |some (acc,f',fs',h')=>qB acc (Zaw A T l fn K F M k (f'::fs') h') False
theorem ZfH{l:List Bool}{t d:Prop}(h:qB l t d):((∀ b∈l,b=true)∧t)∨d:=by
 induction l with
 |nil=>exact .inl ⟨fun b hb=>(by cases hb),h⟩
 |cons b l ih=>
  cases b with
  |false=>exact .inr h
  |true=>rcases ih h with⟨h1,h2⟩ |h1
         ·exact .inl ⟨fun b hb=>(by rcases List.mem_cons.1 hb with rfl |e;rfl;exact h1 b e),h2⟩
         ·exact .inr h1
section
variable {C:Ctx}{T:Tab}{l:List Ctr}{fn:FuncId}{Q:List AFrame→Zad→Prop}{K:KT}{F:FT}{M:MT}
theorem ZfL(hfol:C.P.follows .mixedOrders=true)(hT:ZbH C.P T)(hl:ZaF C.P l)(g:Nat):∀(n:Nat) {pa acc:List Bool} {f:AFrame} {fs:List AFrame} {h:Zad},ZgD C Q acc f fs h (ZiW std T l g n pa acc f fs h)
 |0,pa,acc,f,fs,h=>by
  intro acc' f' fs' h' he hb hq
  simp only[ZiW,zS,zP]at he
  obtain⟨rfl,rfl,rfl,rfl⟩:=he
  exact⟨hb,hq⟩
 |n+1,pa,acc,f,fs,h=>by
  intro acc' f' fs' h' he hb hq
  simp only[ZiW]at he
  split at he
  ·simp only[zS,zP]at he
   obtain⟨rfl,rfl,rfl,rfl⟩:=he
   exact⟨hb,hq⟩
  ·split at he
   ·cases he
   ·rename_i pa1 acc1 f1 fs1 h1 hs
    obtain⟨hb1,hq1⟩:=ZfL hfol hT hl g n _ _ _ _ he hb hq
    exact Zfc hfol hT hl _ _ _ _ _ hs hb1 hq1
theorem Zbv(hfol:C.P.follows .mixedOrders=true)(hT:ZbH C.P T)(hl:ZaF C.P l)
 (hK:∀p,K p→Ev C p.1 p.2 Q) (hF:∀r fr,F r fr→∀fs h,Zco fn r fr fs h→Q fs h) (hM:∀r e sz y,M r e sz y→∀fs h,ZL8 fn e sz y r fs h→Q fs h):
 ∀(s:Sp) {fs:List AFrame} {h:Zad},Zaw std T l fn K F M s fs h→Ev C fs h Q
 | .no,fs,h,hg=>hg.elim
 | .hd,fs,h,hg=>by
   unfold Zaw at hg
   split at hg
   ·exact hg.elim
   ·rename_i p hp
    obtain⟨gs,h2⟩:=p
    exact Zrf hp (hK _ hg)
 | .fn,fs,h,hg=>by
   unfold Zaw at hg
   split at hg
   ·exact hg.elim
   ·rename_i g gs
    unfold ZLn at hg
    split at hg
    ·exact hg.elim
    ·split at hg
     ·exact hg.elim
     ·rename_i hr
      simp only[Bool.and_eq_true]at hr
      split at hg
      ·exact hg.elim
      ·rename_i hn
       split at hg
       ·exact hg.elim
       ·rename_i hd
        split at hg
        ·exact hg.elim
        ·rename_i b vs hc
         split at hg
         ·exact hg.elim
         ·rename_i r fr hex
          rcases ZfH hg with⟨h1,h2⟩ |h1
          ·have hb1:b=true:=h1 b List.mem_cons_self
           subst hb1
           exact .now (by simp) (hF r fr h2 _ _ ⟨g,vs,rfl,Nat.eq_of_beq_eq_true hr.2,hr.1,hn,hd,hc,hex⟩)
          ·exact h1.elim
 | .fm,fs,h,hg=>by
   unfold Zaw at hg
   split at hg
   ·exact hg.elim
   ·rename_i g gs
    unfold ZCX at hg
    split at hg
    ·exact hg.elim
    ·split at hg
     ·exact hg.elim
     ·rename_i hr
      simp only[Bool.and_eq_true]at hr
      split at hg
      ·exact hg.elim
      ·rename_i hn
       split at hg
       ·exact hg.elim
       ·rename_i hd
        split at hg
        ·exact hg.elim
        ·rename_i b vs hc
         split at hg
         ·rename_i e sz y hbk
          split at hg
          ·rename_i hp
           simp only[Bool.and_eq_true]at hp
           rcases ZfH hg with⟨h1,h2⟩ |h1
           ·have hb1:b=true:=h1 b List.mem_cons_self
            subst hb1
            exact .now (by simp) (hM _ e sz y h2 _ _ ⟨g,vs,rfl,Nat.eq_of_beq_eq_true hr.2,hr.1,hn,hd,hc,rfl,hp.1,hbk,hp.2⟩)
           ·exact h1.elim
          ·exact hg.elim
         ·exact hg.elim
 | .run n k,fs,h,hg=>by
   unfold Zaw at hg
   split at hg
   ·exact hg.elim
   ·split at hg
    ·exact hg.elim
    ·rename_i acc f' fs' h' hs
     rcases ZfH hg with⟨h1,h2⟩ |h1
     ·exact(Zcg hfol hT hl n _ _ _ _ hs h1 (Zbv hfol hT hl hK hF hM k h2)).2
     ·exact h1.elim
 | .alt p k r,fs,h,hg=>by
   unfold Zaw at hg
   split at hg
   ·exact hg.elim
   ·split at hg
    ·exact hg.elim
    ·rename_i pa' acc f' fs' h' hs
     rcases ZfH hg with⟨h1,h2⟩ |h1
     ·exact(Zfc hfol hT hl _ _ _ _ _ hs h1 (Zbv hfol hT hl hK hF hM k h2)).2
     ·exact Zbv hfol hT hl hK hF hM r h1
 | .any k,fs,h,hg=>by
   unfold Zaw at hg
   split at hg
   ·exact hg.elim
   ·rename_i f gs
    split at hg
    ·exact hg.elim
    ·rename_i ops fr kk ha
     unfold ZsQ at ha
     split at ha
     ·cases ha
     ·rename_i hr
      split at ha
      ·rename_i fr' ops' kk' ht
       split at ha
       ·rename_i hany
        cases ha
        exact Zpl hfol hany hr ht fun σ hσ=>Zbv hfol hT hl hK hF hM k (Zpi hg σ hσ)
       ·cases ha
      ·cases ha
 | .toF g n k,fs,h,hg=>by
   unfold Zaw at hg
   split at hg
   ·exact hg.elim
   ·split at hg
    ·exact hg.elim
    ·rename_i acc f' fs' h' hs
     rcases ZfH hg with⟨h1,h2⟩ |h1
     ·exact(ZfL hfol hT hl g n _ _ _ _ hs h1 (Zbv hfol hT hl hK hF hM k h2)).2
     ·exact h1.elim
end
def bB(b:Bool)(t d:Prop):Prop:=qB [b] t (qB [!b] d False)
def rB(l:List Bool)(t:Prop):Prop:=qB l t False
@[simp] theorem ZLC (t d:Prop):qB [] t d=t:=rfl
@[simp] theorem ZwI (a b:zA):std.appA a b=a++b:=rfl
@[simp] theorem ZLi (l:zA) (j:Nat) (x:AV):std.setA l j x=l.set j x:=rfl
@[simp] theorem Zlx (l:zA) (k n:Nat):std.subA l k n=(l.drop k).take n:=rfl
@[simp] theorem ZK6 (n:Nat) (x:AV):std.repA n x=List.replicate n x:=rfl
@[simp] theorem ZJg (b:Bool) (l:List Bool) (t d:Prop):qB (b::l) t d=if b=true then qB l t d else d:=by cases b<;>rfl
theorem Zpe:∀(l:List Bool) (t:Prop),qB l t False=(AllT l∧t)
 |[],t=>by simp[qB]
 |b::l,t=>by
  rw[ZJg,Zpe l]
  cases b<;>simp
@[simp] theorem Zy6 (b:Bool) (t d:Prop):bB b t d=if b=true then t else d:=by cases b<;>simp[bB,qB]
@[simp] theorem ZuJ (l:List Bool) (t:Prop):rB l t=(AllT l∧t):=Zpe l t
inductive Wk:AV→AV→Prop
 |nil (r:Row) (h:r.elems=[]):Wk .nils (.list r)
 |emp (r:Row) (h:r.elems=[]):Wk .emp (.list r)
 |same (v:AV):Wk v v
 |agg (xs ys:zA) (hl:xs.length=ys.length) (h:∀(j:Nat) (x y:AV),xs[j]? =some x→ys[j]? =some y→Wk x y):Wk (.agg (.gen xs)) (.agg (.gen ys))
 |tup (xs ys:zA) (hl:xs.length=ys.length) (h:∀(j:Nat) (x y:AV),xs[j]? =some x→ys[j]? =some y→Wk x y):Wk (.tup xs) (.tup ys)
def WkA:zA→zA→Prop
 |[],[]=>True
 |x::xs,y::ys=>Wk x y∧WkA xs ys
 |_,_=>False
theorem WkA.spec:∀ {xs ys:zA},WkA xs ys→xs.length=ys.length∧∀(j:Nat) (x y:AV),xs[j]? =some x→ys[j]? =some y→Wk x y
 |[],[],_=>⟨rfl,fun j x y h=>by simp at h⟩
 |x::xs,y::ys,h=>by
  obtain⟨h1,h2⟩:=h
  obtain⟨e1,e2⟩:=WkA.spec h2
  refine⟨by simp[e1],fun j u v hu hv=>?_⟩
  cases j with
  |zero=>simp at hu hv;subst hu;subst hv;exact h1
  |succ j=>exact e2 j u v (by simpa using hu) (by simpa using hv)
theorem Wk.agg'{xs ys:zA}(h:WkA xs ys):Wk (.agg (.gen xs)) (.agg (.gen ys)):=.agg _ _ h.spec.1 h.spec.2
theorem Wk.tup'{xs ys:zA}(h:WkA xs ys):Wk (.tup xs) (.tup ys):=.tup _ _ h.spec.1 h.spec.2
theorem Wk.rel{w:World}{ok:Nat→Prop}{h:Zad}{L:Lay}{v v':AV}(hw:Wk v v'):∀ {x:Value},Rel w ok h L v x→Rel w ok h L v' x:=by
 induction hw with
 |nil r h=>intro x hr;cases hr with |nils=>exact .nil r none 0 h
 |emp r h=>intro x hr;cases hr with |emp ad=>exact .nil r (some ad) 0 h
 |same=>intro x hr;exact hr
 |agg xs ys hl _ ih=>
  intro x hr
  cases hr with
  |agg _ xs' hx vs hlv h1 hrr=>
   have hx:xs=xs':=hx.symm
   subst hx
   refine .agg _ ys rfl vs (by rw[←hl];exact hlv) h1 (fun j u v hu hv=>?_)
   have hj:j<xs.length:=by rw[hl];exact(List.getElem?_eq_some_iff.1 hu).1
   exact ih j _ u (List.getElem?_eq_getElem hj) hu (hrr j _ v (List.getElem?_eq_getElem hj) hv)
 |tup xs ys hl _ ih=>
  intro x hr
  cases hr with
  |tup _ vs hlv hrr=>
   refine .tup ys vs (by rw[←hl];exact hlv) (fun j u v hu hv=>?_)
   have hj:j<xs.length:=by rw[hl];exact(List.getElem?_eq_some_iff.1 hu).1
   exact ih j _ u (List.getElem?_eq_getElem hj) hu (hrr j _ v (List.getElem?_eq_getElem hj) hv)
def Zhe(fn:FuncId)(r:AV)(fr:Option Fresh)(fs:List AFrame)(h:Zad):Prop:=∃r',Wk r' r∧Zco fn r' fr fs h
theorem Zm1{P:Program}{T:Tab}(hT:ZbH P T){f:FuncId}{args:zA}{af:AFrame}{r:AV}{fr:Option Fresh}(he:Zam T f args=some af)
 (hq:∀w okA cs,Ev (Ctx.of P w okA cs) [af] [] (Zhe f r fr)):Zan P f args r fr:=by
 intro w okA L vs hargs hok hG cs
 have H0:HRel (Ctx.of P w okA cs) [] L w:=⟨Below.refl _ _,fun _ _ ht=>absurd rfl ht.tag,fun _ _=>trivial,fun _ _ _ _ ht=>absurd rfl ht.tag,fun _ _ ht=>absurd rfl ht.tag,fun _ _ _=>rfl,Nat.le_refl _,hG⟩
 obtain⟨hfr,_⟩:=Zed (C:=(Ctx.of P w okA cs)) (h:=[]) (L:=L) (w:=w) hT he (by
  refine⟨hargs.1,fun j u v hu hv=>(hargs.2 j u v hu hv).okmono (fun g hg ho=>.inl ⟨hok g ho,ho⟩)⟩)
 obtain⟨fs',h',L',fr',cs',w',⟨r',hwk,g,us,rfl,hfn,hret,hrnd,hdefs,hc,hex⟩,_,hf',H',hst,_⟩:=hq w okA cs L _ cs w (.cons hfr .base) H0 (by simp)
 cases hf' with
 |cons hf' hk=>
  cases hk
  obtain⟨fn,hfn',hmr⟩:=hf'.res hrnd
  obtain⟨vs0,hc0,hwl⟩:∃vs0,Zfk std g.env h' g.res=some (true,vs0)∧Zcn std h' vs0=(true,us):=by
   unfold ZnY at hc
   split at hc
   ·rename_i b vs hq
    generalize hz:Zcn std h' vs=z at hc
    obtain⟨c,us'⟩:=z
    simp only[zS,zP,std_and]at hc
    obtain⟨⟨rfl,rfl⟩,rfl⟩:=hc
    exact⟨vs,hq,hz⟩
   ·cases hc
  obtain⟨x,e1,e2⟩:=Zdu H' hf'.env hmr hc0
  replace e2:=Zf9 H' hwl e2
  obtain⟨L2,H2,r2⟩:=ZdO H' e2 hex
  have hnew:ZhH fr=false:=by
   cases fr with
   |none=>rfl
   |some f=>
    have hbr:=H2.blks 0 0
    rw[show blk (ZaB (some f)) 0 0=.row f.e f.sz f.r from rfl]at hbr
    have:=hbr.1
    show Nat.beq f.sz 0=false
    cases hb:Nat.beq f.sz 0 with
    |false=>rfl
    |true=>have:=Nat.eq_of_beq_eq_true hb;omega
  refine⟨.returned x,w',fr',⟨x,L2,rfl,H2.below,by unfold ZkP;rw[hnew];exact⟨⟨H2.below,H2.live,H2.blks,H2.inj,H2.home,H2.low,H2.base,H2.good⟩,hwk.rel r2⟩⟩,hst,hf'.fn.trans hfn,?_⟩
  rcases hf'.mode with⟨_,hm⟩ |⟨e,_⟩
  ·refine⟨hm,?_,hf'.kind,fn,?_,e1⟩
   ·have e:=hf'.defs
    rw[hdefs]at e
    rw[e.nil_inv]
   ·rw[hf'.fn];exact hfn'
  ·rw[hret]at e;cases e
def Zh2(fn:FuncId)(r:AV)(fs:List AFrame)(h:Zad):Prop:=∃r' r'' fr',Wk r' r''∧Frz fr' r'' r∧ZhH fr'=false∧Zco fn r' fr' fs h
theorem Zzg{P:Program}{w w':World}{okA:Nat→Prop}{L':Lay}{fr:Option Fresh}(H:HRel (Ctx.of P w okA []) (ZaB fr) L' w'){r r':AV}{x:Value}(hs:Frz fr r r')(hr:ZaH (Ctx.of P w okA []) (ZaB fr) L' w' r x):ZaH (Ctx.of P w (fun _=>False) []) [] L' w' r' x:=by
 cases hs with
 |one hs=>exact ZhQ H hs hr
 |tup hs=>
  obtain⟨e1,e2⟩:=hs.spec
  cases hr with
  |tup xs vs hl hrr=>
   refine .tup _ vs (by rw[←e1];exact hl) (fun j u v hu hv=>?_)
   obtain⟨q,q1,q2⟩:=e2 j u hu
   exact ZhQ H q2 (hrr j q v q1 hv)
theorem Zm4{P:Program}{T:Tab}(hT:ZbH P T){f:FuncId}{args:zA}{af:AFrame}{r:AV}(he:Zam T f args=some af)
 (hq:∀w okA cs,Ev (Ctx.of P w okA cs) [af] [] (Zh2 f r)):Zan P f args r ZpJ:=by
 intro w okA L vs hargs hok hG cs
 have H0:HRel (Ctx.of P w okA cs) [] L w:=⟨Below.refl _ _,fun _ _ ht=>absurd rfl ht.tag,fun _ _=>trivial,fun _ _ _ _ ht=>absurd rfl ht.tag,fun _ _ ht=>absurd rfl ht.tag,fun _ _ _=>rfl,Nat.le_refl _,hG⟩
 obtain⟨hfr,_⟩:=Zed (C:=(Ctx.of P w okA cs)) (h:=[]) (L:=L) (w:=w) hT he (by
  refine⟨hargs.1,fun j u v hu hv=>(hargs.2 j u v hu hv).okmono (fun g hg ho=>.inl ⟨hok g ho,ho⟩)⟩)
 obtain⟨fs',h',L',fr',cs',w',⟨r',r'',fr,hwk,hfz,hnew,g,us,rfl,hfn,hret,hrnd,hdefs,hc,hex⟩,_,hf',H',hst,_⟩:=hq w okA cs L _ cs w (.cons hfr .base) H0 (by simp)
 cases hf' with
 |cons hf' hk=>
  cases hk
  obtain⟨fn,hfn',hmr⟩:=hf'.res hrnd
  obtain⟨vs0,hc0,hwl⟩:∃vs0,Zfk std g.env h' g.res=some (true,vs0)∧Zcn std h' vs0=(true,us):=by
   unfold ZnY at hc
   split at hc
   ·rename_i b vs hq
    generalize hz:Zcn std h' vs=z at hc
    obtain⟨c,us'⟩:=z
    simp only[zS,zP,std_and]at hc
    obtain⟨⟨rfl,rfl⟩,rfl⟩:=hc
    exact⟨vs,hq,hz⟩
   ·cases hc
  obtain⟨x,e1,e2⟩:=Zdu H' hf'.env hmr hc0
  replace e2:=Zf9 H' hwl e2
  obtain⟨L2,H2,r2⟩:=ZdO H' e2 hex
  refine⟨.returned x,w',fr',⟨x,L2,rfl,H2.below,Zzg ⟨H2.below,H2.live,H2.blks,H2.inj,H2.home,H2.low,H2.base,H2.good⟩ hfz (hwk.rel r2)⟩,hst,hf'.fn.trans hfn,?_⟩
  rcases hf'.mode with⟨_,hm⟩ |⟨e,_⟩
  ·refine⟨hm,?_,hf'.kind,fn,?_,e1⟩
   ·have e:=hf'.defs
    rw[hdefs]at e
    rw[e.nil_inv]
   ·rw[hf'.fn];exact hfn'
  ·rw[hret]at e;cases e
theorem Zld{P:Program}{f:FuncId}{args:zA}{r0:AV}{e sz:Nat}{r:Row}(h:Zan P f args r0 none)(hb:bare r0=true)(hr:r.elems=[])(hsz:0<sz):Zan P f args (.row 0 0) (some ⟨e,sz,r⟩):=by
 intro w okA L vs ha hok hG
 refine(h w okA L vs ha hok hG).mono ?_
 rintro e' w' ⟨v,L',he,hbl,hp⟩
 obtain⟨H,rr⟩:HRel (Ctx.of P w okA []) [] L' w'∧ZaH (Ctx.of P w okA []) [] L' w' r0 v:=hp
 obtain⟨L2,s,H2,r2⟩:=ZcO H (fun _ _=>False) [] (fun _=>rfl) (fun _ _=>.inr ⟨fun e=>e,rfl⟩) (a:=0) (e:=e) hr hsz
 obtain⟨ad,hv⟩:=ZhV hb rr
 refine⟨v,L2,he,hbl,?_⟩
 have hn:ZhH (some ⟨e,sz,r⟩)=false:=by
  show Nat.beq sz 0=false
  cases hz:Nat.beq sz 0 with
  |false=>rfl
  |true=>have:=Nat.eq_of_beq_eq_true hz;omega
 unfold ZkP
 rw[hn]
 exact⟨H2,by rw[hv];exact r2 ad⟩
theorem Zk7{P:Program}{f:FuncId}{args:zA}{e sz:Nat}{r r':Row}(h:Zan P f args (.row 0 0) (some ⟨e,sz,r⟩))(hsz:0<sz)(he:r'.elems=r.elems):Zan P f args (.row 0 0) (some ⟨e,sz,r'⟩):=by
 intro w okA L vs ha hok hG
 refine(h w okA L vs ha hok hG).mono ?_
 rintro e' w' ⟨v,L',he',hbl,hp⟩
 have hn:∀r:Row,ZhH (some ⟨e,sz,r⟩)=false:=fun r=>by
  show Nat.beq sz 0=false
  cases hz:Nat.beq sz 0 with
  |false=>rfl
  |true=>have:=Nat.eq_of_beq_eq_true hz;omega
 unfold ZkP at hp
 rw[hn]at hp
 obtain⟨H,rr⟩:=hp
 obtain⟨s,H2⟩:=H.same (a:=0) (j:=0) (e:=e) (sz:=sz) (r:=r) (r':=r') rfl he
 refine⟨v,L',he',hbl,?_⟩
 unfold ZkP
 rw[hn]
 exact⟨H2,rr.step s⟩
end Go.Proofs.YtkeoeooghhjibaaGreatDoor
namespace Go.Proofs.YtkeoeooghhjibaaGreatDoor
def E0:List Ctr:=[]
theorem ZaJ:ZaF Tryz.prog E0:=trivial
section
variable {C:Ctx}{K:List Ctr}{n:Nat}{pa acc:List Bool}{fs gs:List AFrame}{h h':Zad}{Q:List AFrame→Zad→Prop}
theorem go(hC:C.P=Tryz.prog)(hK:ZaF Tryz.prog K)(hw:ZaD std tab K n pa fs h=some (acc,gs,h'))(hb:AllT acc)(hq:Ev C gs h' Q):Ev C fs h Q:=ZKN (by rw[hC];exact follows) (by rw[hC];exact Zah) (by rw[hC];exact hK) hw hb hq
theorem fin(hC:C.P=Tryz.prog)(hK:ZaF Tryz.prog K){fn:FuncId}{r r':AV}{fr fr':Option Fresh}(hw:Za9 std tab K n pa fn fs h=some (acc,r',fr'))(hb:AllT acc)(hr:r'=r)(hfr:fr'=fr):Ev C fs h (Zco fn r fr):=ZDh (by rw[hC];exact follows) (by rw[hC];exact Zah) (by rw[hC];exact hK) hw hb hr hfr
theorem start{fn:FuncId}{args:zA}{af:AFrame}{r:AV}{fr:Option Fresh}(he:Zam tab fn args=some af)(hq:∀C:Ctx,C.P=Tryz.prog→Ev C [af] [] (Zco fn r fr)):Zan Tryz.prog fn args r fr:=Zg1 Zah he fun _ _ _=>hq _ rfl
theorem tgo(hC:C.P=Tryz.prog)(hK:ZaF Tryz.prog K){fn:FuncId}{r:AV}{fr:Option Fresh}{s:Sp}{X:Prop}(he:Zaw std tab K fn (fun p=>Ev C p.1 p.2 (Zco fn r fr)) (fun r' fr'=>r'=r∧fr'=fr) (fun _ _ _ _=>False) s fs h=X)(hx:X):Ev C fs h (Zco fn r fr):=
 Zbv (K:=fun p=>Ev C p.1 p.2 (Zco fn r fr)) (F:=fun r' fr'=>r'=r∧fr'=fr) (M:=fun _ _ _ _=>False) (by rw[hC];exact follows) (by rw[hC];exact Zah) (by rw[hC];exact hK) (fun _ h=>h) (fun r' fr' h _ _ hf=>by obtain⟨rfl,rfl⟩:=h;exact hf) (fun _ _ _ _ h=>h.elim) s (by rw[he];exact hx)
theorem ZeE(hC:C.P=Tryz.prog)(hK:ZaF Tryz.prog K){fn:FuncId}{r:AV}{fr:Option Fresh}{s:Sp}{X:Prop}(he:Zaw std tab K fn (fun p=>Ev C p.1 p.2 (Zhe fn r fr)) (fun r' fr'=>Wk r' r∧fr'=fr) (fun _ _ _ _=>False) s fs h=X)(hx:X):Ev C fs h (Zhe fn r fr):=
 Zbv (K:=fun p=>Ev C p.1 p.2 (Zhe fn r fr)) (F:=fun r' fr'=>Wk r' r∧fr'=fr) (M:=fun _ _ _ _=>False) (by rw[hC];exact follows) (by rw[hC];exact Zah) (by rw[hC];exact hK) (fun _ h=>h) (fun r' fr' h _ _ hf=>by obtain⟨h1,rfl⟩:=h;exact⟨r',h1,hf⟩) (fun _ _ _ _ h=>h.elim) s (by rw[he];exact hx)
theorem Zd4{fn:FuncId}{args:zA}{af:AFrame}{r:AV}{fr:Option Fresh}(he:Zam tab fn args=some af)(hq:∀C:Ctx,C.P=Tryz.prog→Ev C [af] [] (Zhe fn r fr)):Zan Tryz.prog fn args r fr:=Zm1 Zah he fun _ _ _=>hq _ rfl
theorem Zho(hC:C.P=Tryz.prog)(hK:ZaF Tryz.prog K){fn:FuncId}{r:AV}{s:Sp}{X:Prop}(he:Zaw std tab K fn (fun p=>Ev C p.1 p.2 (Zh2 fn r)) (fun r' fr'=>∃r'',Wk r' r''∧Frz fr' r'' r∧ZhH fr'=false) (fun _ _ _ _=>False) s fs h=X)(hx:X):Ev C fs h (Zh2 fn r):=
 Zbv (K:=fun p=>Ev C p.1 p.2 (Zh2 fn r)) (F:=fun r' fr'=>∃r'',Wk r' r''∧Frz fr' r'' r∧ZhH fr'=false) (M:=fun _ _ _ _=>False) (by rw[hC];exact follows) (by rw[hC];exact Zah) (by rw[hC];exact hK) (fun _ h=>h) (fun r' fr' h _ _ hf=>by obtain⟨r'',h1,h2,h3⟩:=h;exact⟨r',r'',fr',h1,h2,h3,hf⟩) (fun _ _ _ _ h=>h.elim) s (by rw[he];exact hx)
theorem ZsI{fn:FuncId}{args:zA}{af:AFrame}{r:AV}(he:Zam tab fn args=some af)(hq:∀C:Ctx,C.P=Tryz.prog→Ev C [af] [] (Zh2 fn r)):Zan Tryz.prog fn args r ZpJ:=Zm4 Zah he fun _ _ _=>hq _ rfl
end
theorem Zzl{f:FuncId}{args:zA}{e sz:Nat}{r:Row}(h:Zan Tryz.prog f args (.row 0 0) (some ⟨e,sz+1,r⟩))(hp:r.pure=true)(hs:r.solid=true):Zan Tryz.prog f args (.list r) ZpJ:=
 ZvA h rfl (.one (.row _ rfl hp hs))
theorem Rel.same{w:World}{ok:Nat→Prop}{h:Zad}{L:Lay}{r r':Row}{v:Value}(he:r.elems=r'.elems)(hr:Rel w ok h L (.list r) v):Rel w ok h L (.list r') v:=by
 cases hr with
 |nil _ a c h0=>exact .nil _ a c (he▸h0)
 |list _ xs hx ad n cap sz cs hb hok hn hcap hsz hl h1 hc hp hrr=>exact .list r' xs (hx.trans he) ad n cap sz cs hb hok hn hcap hsz hl h1 hc hp hrr
theorem Zf8{f:FuncId}{r:Row}{x:AV}{fr:Option Fresh}(he:r.elems=[])(h:∀ad cap,Zan Tryz.prog f [.val (.slice ad 0 cap)] x fr):Zan Tryz.prog f [.list r] x fr:=by
 intro w okA L vs hargs hok hG
 obtain⟨h1,h2⟩:=hargs
 obtain⟨l⟩:=vs
 match l,h1 with
 |[v0],_=>
  have r0:=h2 0 _ _ rfl rfl
  obtain⟨ad,cap,rfl⟩:∃ad cap,v0=.slice ad 0 cap:=by
   cases r0 with
   |nil _ a c _=>exact⟨a,c,rfl⟩
   |list _ xs hx ad n cap sz cs hbb hok hn=>rw[he]at hx;subst hx;exact⟨some ad,cap,by rw[hn];rfl⟩
  exact h ad cap w okA L _ (RelL.cons (.val _) RelL.nil) hok hG
inductive Wk1:AV→AV→Prop
 |nil (r:Row) (h:r.elems=[]):Wk1 .nils (.list r)
 |same (v:AV):Wk1 v v
def WkL:zA→zA→Prop
 |[],[]=>True
 |x::xs,y::ys=>Wk1 x y∧WkL xs ys
 |_,_=>False
theorem WkL.spec:∀ {xs ys:zA},WkL xs ys→xs.length=ys.length∧∀(j:Nat) (y:AV),ys[j]? =some y→∃x,xs[j]? =some x∧Wk1 x y
 |[],[],_=>⟨rfl,fun j y h=>by simp at h⟩
 |x::xs,y::ys,h=>by
  obtain⟨h1,h2⟩:=h
  obtain⟨e1,e2⟩:=WkL.spec h2
  refine⟨by simp[e1],fun j z hz=>?_⟩
  cases j with
  |zero=>simp at hz;subst hz;exact⟨x,rfl,h1⟩
  |succ j=>obtain⟨q,q1,q2⟩:=e2 j z (by simpa using hz);exact⟨q,by simpa using q1,q2⟩
theorem Wk1.rel{w:World}{ok:Nat→Prop}{h:Zad}{L:Lay}{v v':AV}{x:Value}(hw:Wk1 v v')(hr:Rel w ok h L v x):Rel w ok h L v' x:=by
 cases hw with
 |nil r h=>cases hr with |nils=>exact .nil r none 0 h
 |same=>exact hr
def vI(t:Nat)(n:Int):Nat×AV:=(t,.int .i64 n)
def vL(t:Nat)(l:zI):Nat×AV:=(t,.list (.ints .i64 l))
def vR(t a:Nat):Nat×AV:=(t,.row a 0)
def vP(t a:Nat):Nat×AV:=(t,.ptr a 0 0 0)
def vB(t:Nat)(b:Bool):Nat×AV:=(t,.bool b)
def vK(a:Nat)(l:zI):Nat×Fam:=(a,{ base:=0,blks:=[.row 3 1 (.ints .i64 l)] })
def vG(a:Nat)(v:AV):Nat×Fam:=(a,{ base:=0,blks:=[.row 3 1 (.gen [v])] })
def vF(f n:Nat)(e:List (Nat×AV))(t:List AItem)(r:List ARes):AFrame:=⟨f,n,e,t,[],none,false,r⟩
def vC(c:ACode)(t:List AItem):List AItem:=.code (.gh [] c)::t
def v6Q:List AOp:=[oN 9 (.alloc 46010 63 (AV.agg (Row.gen [.int .i64 0, .int .i64 0]))),{ d:=none,g:=none,k:=OpK.store 2 (.t 9) (.t 21) }]
def v7Q:ACode:=.cond (.t 26) (.reg none [oN 27 (.load false 1 (.t 8)),oN 28 (.load true 2 (.t 9)),oN 29 (.bslice 46030 63 2 [.t 28]),oN 30 (.append 46031 63 2 (.t 27) (.t 29)),{ d:=none,g:=none,k:=OpK.store 1 (.t 8) (.t 30) }]) ACode.skip
def v2Q:ACode:=.seq (.reg (some [(5,5),(0,1),(1,3),(2,3),(3,4)]) [oN 22 (.load false 1 (.t 6)),oN 23 (.icall 94 [.t 22]),oN 24 (.load true 2 (.t 9)),oN 25 (.icall 70 [.t 23,.t 24]),oN 26 (.bin Go.BinOp.eql (.t 25) (cI 0))]) v7Q
def v5Q:ACode:=.seq (.reg none [oN 31 (.load false 1 (.t 8)),mV 4 31,oN 5 (.mov (cI 0))]) ACode.ret
def v0Q:List AItem:=[.inReg [oN 13 (.icall 80 [.t 11,.t 12]),mV 10 13,oN 14 (.ext 0 (.t 10)),oN 15 (.ext 1 (.t 10)),oN 6 (.alloc 46007 123 (AV.val (Go.Value.pointer none))),{ d:=none,g:=none,k:=OpK.store 1 (.t 6) (.t 14) },mV 7 15], .code (.gh [.keep [4,5,6,7]] (.seq (.seq (.reg none [mV 16 7,oN 17 (.bin Go.BinOp.neq (.t 16) (cI 0))]) (.cond (.t 17) (.seq (.reg none [mV 18 7,oN 4 (.mov (.c AV.nils)),mV 5 18]) ACode.ret) ACode.skip)) (.seq (.reg none [oN 8 (.alloc 46009 30 AV.nils)]) (.gh [.ownc 8 46031 63 2 (Row.big (.agg [.int .i64, .int .i64]) [])] (.seq (.seq (.reg none [oN 19 (.load false 1 (.t 6)),oN 20 (.mkmth 95 (.t 19))]) (.block 0 (.rf 46901 (.t 20) [21] (.reg none v6Q) (.block 1 v2Q)))) v5Q)))))]
def v1Q:List AItem:=[.inReg [oN 13 (.icall 80 [.t 11,.t 12]),mV 10 13,oN 14 (.ext 0 (.t 10)),oN 15 (.ext 1 (.t 10)),mV 8 14,mV 9 15], .code (.gh [.keep [5,6,8,9]] (.seq (.seq (.reg none [mV 16 9,oN 17 (.load true 2 (.t 5)),oN 18 (.ncall true 0 37 [.t 17]),oN 19 (.bslice 40020 38 1 [.t 16,.t 18]),oN 20 (.ncall true 0 67 [.t 19]),mV 9 20]) (.seq (.reg none [mV 21 9,oN 22 (.bin Go.BinOp.eql (.t 21) (cI 0))]) (.cond (.t 22) (.reg none [mV 23 8,oN 24 (.load true 2 (.t 5)),oN 25 (.icall 70 [.t 23,.t 24]),mV 9 25]) ACode.skip))) (.seq (.seq (.reg none [mV 26 9,oN 27 (.bin Go.BinOp.neq (.t 26) (cI 0))]) (.cond (.t 27) (.seq (.reg none [oN 28 (.build (Row.gen [.int .i64 0, .int .i64 0,AV.nils, .bool false, .int .i64 0, .bool false,AV.nils,AV.nils]) []),mV 29 9,{ d:=none,g:=none,k:=OpK.store 8 (.t 6) (.t 28) },mV 7 29]) ACode.ret) ACode.skip)) (.seq (.reg none [mV 30 8,oN 31 (.nilck (.t 30)),oN 32 (.faddr 6 (.t 31)),oN 33 (.load true 8 (.t 32)),{ d:=none,g:=none,k:=OpK.store 8 (.t 6) (.t 33) },oN 7 (.mov (cI 0))]) ACode.ret))))]
def v3Q:ACode:=.gh [.keep [2,4]] (.seq (.reg (some [(2,4),(3,4)]) [oN 27 (.faddr 0 (.t 4)),oN 28 (.load true 2 (.t 27)),oN 29 (.faddr 2 (.t 4)),oN 30 (.load false 1 (.t 29)),{ d:=none,g:=none,k:=OpK.store 2 (.t 2) (.t 28) },mV 3 30]) ACode.ret)
def v4Q:List AItem:=[.inReg [oN 120 (.icall 98 [.t 117,.t 118,.t 119]),{ d:=none,g:=none,k:=OpK.store 8 (.t 8) (.t 120) }],.inBlock 0, .code (.seq (.reg none [oN 207 (.load true 8 (.t 8)),{ d:=none,g:=none,k:=OpK.store 8 (.t 6) (.t 207) },oN 7 (.mov (cI 0))]) ACode.ret)]
def v8Q:ACode:=.seq (.reg none [oN 21 (.faddr 2 (.t 1)),oN 22 (.load false 1 (.t 21)),oN 23 (.len (.t 22)),oN 24 (.mkfn 164 [.t 1]),oN 25 (.mkfn 165 [.t 1,.t 7,.t 5,.t 6]),oN 26 (.icall 159 [.t 4,cI 3,.t 23,cI 0,cI 10,.t 24,.t 25])]) v3Q
def v9Q:List AItem:=[.inReg [oN 7 (.ncall true 0 137 [.t 5,.t 6]),oN 8 (.bin Go.BinOp.geq (.t 7) (cI 0)),mV 4 8], .code ACode.ret]
def v10Q:List AOp:=[mV 191 13,oN 192 (.not (.t 191)),oN 193 (.ncall true 0 68 [.t 192,cI 6]),oN 194 (.bslice 80195 38 1 [.t 160,.t 171,.t 176,.t 190,.t 193]),oN 195 (.ncall true 0 67 [.t 194]),mV 8 195]
def v11Q:ACode:=.gh [.keep [3,7,8,12]] (.seq (.seq (.reg none [oN 196 (.faddr 7 (.t 3)),oN 197 (.load false 1 (.t 196)),oN 198 (.len (.t 197)),oN 199 (.mov (cI 0))]) (.block 2 (.loop Zt9))) ZuZ)
def v12Q:ACode:=.seq (.reg none [oN 65 (.load true 6 (.t 3)),oN 66 (.load true 8 (.t 4)),oN 67 (.icall 99 [.t 65,.t 66]),{ d:=none,g:=none,k:=OpK.store 8 (.t 6) (.t 67) }]) ACode.ret
def v13Q:List AOp:=[oN 148 (.ncall true 0 90 [.t 146,.t 147]),mV 13 148]
def vU (a b c d : zA) (e f : Int) : AV := .agg (.gen [.list (.big .str a),.list (.big (.agg [.str,.int .i64]) b),.list (.big (.agg [.str,.int .i64,.int .i64,.int .i64,.int .i64]) c),.list (.big (.agg [.int .i64,.int .i64,.int .i64]) d),.int .i64 e,.int .i64 f])
def vM (a b c : zA) : AV := .agg (.gen [.list (.big .str a),.list (.big (.agg [.str,.int .i64]) b),.list (.big (.agg [.str,.int .i64,.int .i64,.int .i64,.int .i64]) c)])
def vS (a b : Int) (c : zA) (d : Bool) (e : Int) (f : Bool) (g : List Int) (h : zA) : AV := .agg (.gen [.int .i64 a,.int .i64 b,.list (.big (.agg [.int .i64,.int .i64]) c),.bool d,.int .i64 e,.bool f,.list (.ints .i64 g),.list (.big (.agg [.int .i64,.bool]) h)])
def vH (a e z:Nat)(r:Row):Nat×Fam:=(a,{ base:=0,blks:=[.row e z r] })
def vp (a:Nat):AV:=.ptr a 0 0 0
def vi (n:Int):AV:=.int .i64 n
def vb (b:Bool):AV:=.bool b
def vx (xs:List AV):Row:=.gen xs
def vy (xs:List AV):AV:=.agg (.gen xs)
def vw (a:Nat):AV:=.row a 0
def vsR:Sh:=.agg [.str,.int .i64,.int .i64,.int .i64,.int .i64]
def vsK:Sh:=.agg [.str,.int .i64]
def vsA:Sh:=.agg [.int .i64,.int .i64,.int .i64]
def vsD:Sh:=.agg [.int .i64,.int .i64]
def vsU:Sh:=.agg [.int .i64,.bool]
def vl (s:Sh)(xs:List AV):AV:=.list (.big s xs)
def vz (xs:List Int):AV:=.list (.ints .i64 xs)
abbrev vT(A:Ar)(T:Tab)(l:List Ctr)(fn:FuncId)(K:KT)(F:FT)(M:MT)(g:Sp)(p:List AFrame×Zad):Prop:=Zaw A T l fn K F M g p.1 p.2
abbrev vE(C:Ctx)(p:List AFrame×Zad)(Q:List AFrame→Zad→Prop):Prop:=Ev C p.1 p.2 Q
end Go.Proofs.YtkeoeooghhjibaaGreatDoor
