/- Contracts; an operation, with its guard, in whatever frame it stands. No condition. -/
import Derived.Test.YtkeoeooghhjibaaGreatDoorXj
import Derived.Orders
namespace Go.Proofs.YtkeoeooghhjibaaGreatDoor
open Go.RowKit (Below)
structure Fresh where
 e:TypeId
 sz:Nat
 r:Row
def ZaB:Option Fresh→Zad
 |none=>[]
 |some f=>[(0,⟨0,[.row f.e f.sz f.r], .no⟩)]
def ZhH:Option Fresh→Bool
 |none=>false
 |some f=>Nat.beq f.sz 0
def ZpJ:Option Fresh:=some ⟨0,0, .gen []⟩
def ZkP(P:Program)(w:World)(okA:Nat→Prop)(fr:Option Fresh)(L':Lay)(w':World)(r:AV)(v:Value):Prop:=
 match ZhH fr with
 |true=>ZaH (Ctx.of P w (fun _=>False) []) [] L' w' r v
 |false=>HRel (Ctx.of P w okA []) (ZaB fr) L' w'∧ZaH (Ctx.of P w okA []) (ZaB fr) L' w' r v
def Zan(P:Program)(f:FuncId)(args:zA)(r:AV)(fr:Option Fresh):Prop:=
 ∀(w:World) (okA:Nat→Prop) (L:Lay) (vs:Array Value),RelL w okA [] L args vs.toList→(∀g,okA g→g<w.heap.size)→GoodW P w w.heap.size 0→
  Calls P f vs w fun e w'=>∃v L',e=.returned v∧Below w.heap.size w w'∧ZkP P w okA fr L' w' r v
def ren1(a i:Nat):AV→AV
 | .row 0 0=>.row a i
 |v=>v
def ZLA(a i:Nat):AV→AV
 | .tup xs=>.tup (xs.map (ren1 a i))
 |v=>ren1 a i v
def Zng:AV→Bool
 | .row 0 0=>true
 |v=>v.pure
def Zrh:AV→Bool
 | .tup xs=>xs.all Zng
 |v=>Zng v
def Row.allPure(r:Row):Prop:=AV.pureL (Zai r.elems)=true
def Row.allSolid(r:Row):Prop:=AV.solidL (Zai r.elems)=true
def Znf:Option (Bool×Row)→Option (Bool×AV)
 |some (b,r)=>(match r.pure with |true=>some (b, .list r) |false=>none)
 |none=>none
def Zlv(A:Ar)(f:AV→Option (Bool×AV)):zA→Option (Bool×zA)
 |[]=>some (true,[])
 |x::xs=>match f x,Zlv A f xs with
  |some (b1,y),some (b2,ys)=>some (Zag b1 b2,y::ys)
  |_,_=>none
def ZeO(A:Ar)(f:AV→Option (Bool×AV)):Option (Bool×Row)→Option (Bool×AV)
 |some (b, .gen xs)=>(match Zlv A f xs with |some (b2,ys)=>some (Zag b b2, .list (.gen ys)) |none=>none)
 |r=>Znf r
def ZvC(v:AV):Option (Bool×AV):=match v.pure with |true=>some (true,v) |false=>none
def ZbQ(A:Ar)(h:Zad):Nat→AV→Option (Bool×AV)
 |0,v=>ZvC v
 |d+1,v=>match v with
  | .row a i=>(match ZkW a with |true=>none |false=>ZeO A (ZbQ A h d) (ZbP A h (.row a i)))
  | .slc a i k n c=>(match ZkW a with |true=>none |false=>ZeO A (ZbQ A h d) (ZbP A h (.slc a i k n c)))
  | .aslc a i k o n=>(match ZkW a with |true=>none |false=>Znf (ZbP A h (.aslc a i k o n)))
  | .ptr a i k off=>(match ZkW a,blk h a i with
    |false, .row _ _ r=>(match ZbQ A h d (r.get A k)with |some (b,u)=>some (Zag (Nat.blt k (r.len A)) b, .eptr u off) |none=>none)
    |_,_=>none)
  | .agg (.gen xs)=>(match Zlv A (ZbQ A h d) xs with |some (b,ys)=>some (b, .agg (.gen ys)) |none=>none)
  | .fn f xs=>(match Zlv A (ZbQ A h d) xs with |some (b,ys)=>some (b, .fn f ys) |none=>none)
  |v=>ZvC v
def Zqx(A:Ar)(h:Zad)(xs:zA):Option (Bool×zA):=Zlv A (ZbQ A h 5) xs
def ZcC(h:Zad)(a:Nat)(r:AV):Option Fresh→AV×Zad
 |none=>(r,h)
 |some f=>match Nat.beq f.sz 0 with |true=>(r,h) |false=>(ZLA a (nxt h a) r,Zal h a (.row f.e f.sz f.r))
def Zt8(a:Nat)(r:AV)(m:Bool):Option Fresh→Prop
 |none=>r.pure=true∧(m=true→r.solid=true)
 |some f=>(f.sz=0∧r.pure=true)∨(f.sz≠0∧a≠0∧Zrh r=true∧f.r.allPure∧(m=true→r.solid=true∧f.r.allSolid))
def ZdH(P:Program)(h:Zad)(m:Bool)(a:Nat)(f:FuncId)(avs:zA)(r:AV)(h':Zad):Prop:=
 ∃avs' r0 fr,(if m=true then Zqx std h avs=some (true,avs')else avs'=avs∧AV.pureL avs=true)∧Zan P f avs' r0 fr∧Zt8 a r0 m fr∧ZcC h a r0 fr=(r,h')
def Zcw(P:Program)(ρ:Opd→AV)(h:Zad)(k:OpK)(r:AV)(h':Zad):Prop:=
 match k with
 | .ncall _ a f args=>∃m,ZdH P h m a f (args.map ρ) r h'
 | .ncallv _ a x args=>∃f avs m,ZAv (ρ x) (args.map ρ)=some (f,avs)∧ZbF P f=true∧ZdH P h m a f avs r h'
 |k=>Zat std ρ h k=some (true,r,h')
abbrev Env:=Nat→Option AV
def Env.put(ε:Env)(d:Option Nat)(v:AV):Env:=match d with |some d=>fun t=>if d=t then some v else ε t |none=>ε
def Zdk(P:Program)(o:AOp)(ε:Env)(h:Zad)(r:AV)(h':Zad):Prop:=
 match o.g with
 |none=>Zcw P (Zbw ε) h o.k r h'
 |some (t,want)=>(ε t=some (.bool want)∧Zcw P (Zbw ε) h o.k r h')∨(ε t=some (.bool (!want))∧r=.und∧h'=h)∨(ε t=some .und∧r=.und∧h'=h)
section
variable {C:Ctx}{o:Oper}{ρ:Opd→AV}{h h':Zad}{w w':World}{L:Lay}{v:AV}
theorem Rel.okmono{w:World}{ok ok':Nat→Prop}{h:Zad}{L:Lay}{u:AV}{x:Value}(hr:Rel w ok h L u x)(hok:∀g,g<w.heap.size→ok g→ok' g):Rel w ok' h L u x:=
 hr.step ⟨Nat.le_refl _,fun g hg ho=>⟨hok g hg ho,rfl⟩,fun _=>Nat.le_refl _,fun _ _ _ _ h=>⟨h,rfl,rfl⟩⟩
theorem Zns{q:Row}(hq:q.pure=true):AV.pureL q.elems=true:=by
 have hal:∀l:zA,(∀z∈l,z.pure=true)→AV.pureL l=true:=by
  intro l
  induction l with
  |nil=>intro _;rfl
  |cons z zs ihz=>intro hz;simp only[AV.pureL,Bool.and_eq_true];exact⟨hz z List.mem_cons_self,ihz (fun q hq=>hz q (List.mem_cons_of_mem _ hq))⟩
 exact hal _ (fun z hz=>by obtain⟨j,hj⟩:=List.mem_iff_getElem?.1 hz;exact Row.pure_mem hq hj)
theorem ZeS{xs:zA}(hy:∀x∈xs,x.pure=true):AV.pureL (Zai xs)=true:=by
 have hap:∀(a b:zA),AV.pureL a=true→AV.pureL b=true→AV.pureL (a++b)=true:=by
  intro a b
  induction a with
  |nil=>exact fun _ h=>h
  |cons z zs ihz=>intro ha hb;simp only[List.cons_append,AV.pureL,Bool.and_eq_true]at ha ⊢;exact⟨ha.1,ihz ha.2 hb⟩
 have hal:∀l:zA,(∀z∈l,z.pure=true)→AV.pureL l=true:=by
  intro l
  induction l with
  |nil=>intro _;rfl
  |cons z zs ihz=>intro hz;simp only[AV.pureL,Bool.and_eq_true];exact⟨hz z List.mem_cons_self,ihz (fun q hq=>hz q (List.mem_cons_of_mem _ hq))⟩
 induction xs with
 |nil=>rfl
 |cons y ys ih=>
  rw[ZaL]
  refine hap _ _ ?_ (ih (fun z hz=>hy z (List.mem_cons_of_mem _ hz)))
  have h1:=hy y List.mem_cons_self
  cases y with
  |agg q=>
   have hq:q.pure=true:=by simpa[AV.pure]using h1
   exact hal _ (fun z hz=>by obtain⟨j,hj⟩:=List.mem_iff_getElem?.1 hz;exact Row.pure_mem hq hj)
  |_=>simp only[AV.flat,AV.pureL,Bool.and_true];exact h1
theorem ZlT(H:HRel C h L w){u u':AV}{x:Value}(hz:nzV u=true)(hr:ZaH C h L w u x)(hs:Znf (ZbP std h u)=some (true,u')):Rel w (Zaz C [] L) [] L u' x:=by
 unfold Znf at hs
 split at hs
 ·rename_i b r hc
  split at hs
  ·rename_i hp
   simp only[zS,zP]at hs
   obtain⟨rfl,rfl⟩:=hs
   obtain⟨ad,n,c,rfl,hn,hnc,hsome,hnone,sz,hsz⟩:=Zcd H hr hc
   by_cases he:r.elems=[]
   ·have:n=0:=by rw[hn,he];rfl
    subst this
    exact .nil r _ _ he
   ·cases ad with
    |none=>exact absurd (hnone rfl) he
    |some a'=>
     obtain⟨cs,e1,e2,e3,e4,e5⟩:=hsome a' rfl he
     have hpe:AV.pureL (Zai r.elems)=true:=ZeS (fun z hz=>by obtain⟨j,hj⟩:=List.mem_iff_getElem?.1 hz;exact Row.pure_mem hp hj)
     exact .list r _ rfl a' n c sz cs e5 (Zfd H hr hc hz _ _ _ rfl he) hn hnc hsz e1 e2 e3 hpe (fun j u v hu hv=>((e4.2 j u v hu hv).okmono (fun g _ ho=>Zfq ho)).pure (AV.pureL_mem hpe hu))
  ·cases hs
 ·cases hs
theorem Zde{f:AV→Option (Bool×AV)} :∀ {xs ys:zA},Zlv std f xs=some (true,ys)→xs.length=ys.length∧∀(j:Nat) (x y:AV),xs[j]? =some x→ys[j]? =some y→f x=some (true,y)
 |[],ys,h=>by simp[Zlv]at h;subst h;exact⟨rfl,fun j x y hx=>by simp at hx⟩
 |x::xs,ys,h=>by
  simp only[Zlv]at h
  split at h
  ·rename_i b1 y b2 ys' hx hxs
   simp only[zS,zP,std_and]at h
   obtain⟨⟨rfl,rfl⟩,rfl⟩:=h
   obtain⟨h1,h2⟩:=Zde hxs
   refine⟨by simp[h1],fun j a b ha hb=>?_⟩
   cases j with
   |zero=>simp at ha hb;subst ha;subst hb;exact hx
   |succ j=>exact h2 j a b (by simpa using ha) (by simpa using hb)
  ·cases h
theorem ZcA{u u':AV}{b:Bool}(hs:ZvC u=some (b,u')):u'=u∧u.pure=true:=by
 unfold ZvC at hs
 split at hs
 ·rename_i hp;cases hs;exact⟨rfl,hp⟩
 ·cases hs
theorem Zfy{A:Ar}{f:AV→Option (Bool×AV)}(hf:∀u b u',f u=some (b,u')→u'.pure=true):∀ {xs ys:zA} {b:Bool},Zlv A f xs=some (b,ys)→AV.pureL ys=true
 |[],ys,b,h=>by simp[Zlv]at h;rw[h.2];rfl
 |x::xs,ys,b,h=>by
  simp only[Zlv]at h
  split at h
  ·rename_i b1 y b2 ys' hx hxs
   cases h
   simp only[AV.pureL,Bool.and_eq_true]
   exact⟨hf _ _ _ hx,Zfy hf hxs⟩
  ·cases h
theorem Zg5{o:Option (Bool×Row)}{b:Bool}{u:AV}(hs:Znf o=some (b,u)):∃r,u=.list r:=by
 unfold Znf at hs
 split at hs
 ·split at hs
  ·cases hs;exact⟨_,rfl⟩
  ·cases hs
 ·cases hs
theorem Zdx{A:Ar}{f:AV→Option (Bool×AV)}{o:Option (Bool×Row)}{b:Bool}{u:AV}(hs:ZeO A f o=some (b,u)):∃r,u=.list r:=by
 unfold ZeO at hs
 split at hs
 ·split at hs
  ·cases hs;exact⟨_,rfl⟩
  ·cases hs
 ·exact Zg5 hs
theorem Zek{A:Ar}{h:Zad} :∀ {d:Nat} {u u':AV} {b:Bool},ZbQ A h d u=some (b,u')→u'.pure=true
 |0,u,u',b,hs=>by obtain⟨e,hp⟩:=ZcA hs;rw[e];exact hp
 |d+1,u,u',b,hs=>by
  unfold ZbQ at hs
  split at hs
  ·split at hs
   ·cases hs
   ·obtain⟨r,rfl⟩:=Zdx hs;rfl
  ·split at hs
   ·cases hs
   ·obtain⟨r,rfl⟩:=Zdx hs;rfl
  ·split at hs
   ·cases hs
   ·obtain⟨r,rfl⟩:=Zg5 hs;rfl
  ·split at hs
   ·split at hs
    ·cases hs;rfl
    ·cases hs
   ·cases hs
  ·split at hs
   ·rename_i hm;cases hs
    simp only[AV.pure,Row.pure];exact Zfy (fun _ _ _=>Zek (d:=d)) hm
   ·cases hs
  ·split at hs
   ·rename_i hm;cases hs
    simp only[AV.pure];exact Zfy (fun _ _ _=>Zek (d:=d)) hm
   ·cases hs
  ·obtain⟨e,hp⟩:=ZcA hs;rw[e];exact hp
def AV.isAgg:AV→Bool
 | .agg _=>true
 |_=>false
theorem ZrD{A:Ar}{h:Zad}{d:Nat}{u u':AV}{b:Bool}(hs:ZbQ A h d u=some (b,u')):u'.isAgg=u.isAgg:=by
 cases d with
 |zero=>obtain⟨e,hp⟩:=ZcA hs;rw[e]
 |succ d=>
  unfold ZbQ at hs
  split at hs
  ·split at hs
   ·cases hs
   ·obtain⟨r,rfl⟩:=Zdx hs;rfl
  ·split at hs
   ·cases hs
   ·obtain⟨r,rfl⟩:=Zdx hs;rfl
  ·split at hs
   ·cases hs
   ·obtain⟨r,rfl⟩:=Zg5 hs;rfl
  ·split at hs
   ·split at hs
    ·cases hs;rfl
    ·cases hs
   ·cases hs
  ·split at hs
   ·cases hs;rfl
   ·cases hs
  ·split at hs
   ·cases hs;rfl
   ·cases hs
  ·obtain⟨e,hp⟩:=ZcA hs;rw[e]
theorem ZjH{u:AV}(hu:u.isAgg=false):u.flat=[u]:=by cases u<;>first |rfl |cases hu
abbrev ZFI(C:Ctx)(w:World)(L:Lay):AV→Value→Prop:=Rel w (Zaz C [] L) [] L
def ZoJ(C:Ctx)(h:Zad)(L:Lay)(w:World)(d:Nat):Prop:=∀u u' x,ZaH C h L w u x→ZbQ std h d u=some (true,u')→ZFI C w L u' x
theorem Zlz{d:Nat}(IH:ZoJ C h L w d){u u':AV}{cs:List Value}(hs:ZbQ std h d u=some (true,u'))(hr:RelL w (Zaz C h L) h L u.flat cs)(h1:∀c∈cs,c.oneCell'=true):RelL w (Zaz C [] L) [] L u'.flat cs:=by
 have hag:=ZrD hs
 cases hua:u.isAgg with
 |false=>
  rw[ZjH hua]at hr
  rw[ZjH (hag.trans hua)]
  obtain⟨c,rfl⟩:∃c,cs=[c]:=by
   have:=hr.1
   cases cs with
   |nil=>simp at this
   |cons c r=>cases r with
    |nil=>exact⟨c,rfl⟩
    |cons y r=>simp at this
  refine⟨rfl,fun j a v ha hv=>?_⟩
  cases j with
  |zero=>simp at ha hv;subst ha;subst hv;exact IH u _ _ (hr.2 0 u _ rfl rfl) hs
  |succ j=>simp at ha
 |true=>
  cases u with
  |agg q=>
   cases u' with
   |agg q'=>
    have:ZFI C w L (.agg q') (.agg cs.toArray):=IH _ _ _ (.agg q _ rfl cs.toArray (by have:=hr.1;simpa[AV.flat]using this) (by simpa using h1) (fun j a v ha hv=>hr.2 j a v ha (by simpa using hv))) hs
    cases this with
    |agg _ xs' hx vs hl h1' hrr=>subst hx;exact⟨by simpa[AV.flat]using hl,fun j a v ha hv=>hrr j a v ha (by simpa using hv)⟩
   |_=>cases hag
  |_=>cases hua
theorem ZjD{d:Nat}(IH:ZoJ C h L w d):∀ {xs ys:zA} {cs:List Value},Zlv std (ZbQ std h d) xs=some (true,ys)→RelL w (Zaz C h L) h L (Zai xs) cs→(∀c∈cs,c.oneCell'=true)→
 RelL w (Zaz C [] L) [] L (Zai ys) cs∧∀(j:Nat) (y:AV),ys[j]? =some y→∃x:AV,xs[j]? =some x∧y.flat.length=x.flat.length
 |[],ys,cs,hm,hr,_=>by
  simp[Zlv]at hm;subst hm
  exact⟨⟨hr.1,fun j a v ha=>by simp[Zai]at ha⟩,fun j y hy=>by simp at hy⟩
 |x::xs,ys,cs,hm,hr,h1=>by
  simp only[Zlv]at hm
  split at hm
  ·rename_i b1 y b2 ys' hx hxs
   simp only[zS,zP,std_and]at hm
   obtain⟨⟨rfl,rfl⟩,rfl⟩:=hm
   rw[ZaL]at hr⊢
   have hlen:=hr.1
   rw[List.length_append]at hlen
   have ha:RelL w (Zaz C h L) h L x.flat (cs.take x.flat.length):=⟨by rw[List.length_take];omega,fun j a v ha hv=>by
    have hj:=(List.getElem?_eq_some_iff.1 ha).1
    rw[List.getElem?_take,if_pos hj]at hv
    exact hr.2 j a v (by rw[List.getElem?_append_left hj];exact ha) hv⟩
   have hb:RelL w (Zaz C h L) h L (Zai xs) (cs.drop x.flat.length):=⟨by rw[List.length_drop];omega,fun j a v ha hv=>by
    rw[List.getElem?_drop]at hv
    exact hr.2 (x.flat.length+j) a v (by rw[List.getElem?_append_right (by omega)];simpa using ha) hv⟩
   have i1:=Zlz IH hx ha (fun c hc=>h1 c (List.mem_of_mem_take hc))
   obtain⟨i2,i3⟩:=ZjD IH hxs hb (fun c hc=>h1 c (List.mem_of_mem_drop hc))
   have hyl:y.flat.length=x.flat.length:=by have:=i1.1;have:=ha.1;omega
   refine⟨?_,fun j z hz=>?_⟩
   ·have:=i1.append i2
    rw[List.take_append_drop]at this
    exact this
   ·cases j with
    |zero=>simp at hz;subst hz;exact⟨x,rfl,hyl⟩
    |succ j=>obtain⟨q,q1,q2⟩:=i3 j z (by simpa using hz);exact⟨q,by simpa using q1,q2⟩
  ·cases hm
theorem ZkE(H:HRel C h L w){d:Nat}(IH:ZoJ C h L w d){u u':AV}{x:Value}(hz:nzV u=true)(hr:ZaH C h L w u x)(hs:ZeO std (ZbQ std h d) (ZbP std h u)=some (true,u')):ZFI C w L u' x:=by
 unfold ZeO at hs
 split at hs
 ·rename_i b xs hc
  split at hs
  ·rename_i b2 ys hm
   simp only[zS,zP,std_and]at hs
   obtain⟨⟨rfl,rfl⟩,rfl⟩:=hs
   obtain⟨ad,n,c,rfl,hn,hnc,hsome,hnone,sz,hsz⟩:=Zcd H hr hc
   have hl:=(Zde hm).1
   by_cases he:xs=[]
   ·subst he
    have:n=0:=by rw[hn];rfl
    subst this
    have:ys=[]:=List.eq_nil_of_length_eq_zero (by rw[←hl];rfl)
    subst this
    exact .nil _ _ _ rfl
   ·cases ad with
    |none=>exact absurd (hnone rfl) he
    |some a'=>
     obtain⟨cs,e1,e2,e3,e4,e5⟩:=hsome a' rfl he
     obtain⟨f1,f2⟩:=ZjD IH hm e4 e2
     have hp:=Zfy (fun _ _ _=>Zek (d:=d)) hm
     have hpa:AV.pureL (Zai ys)=true:=ZeS (fun z hz=>AV.pureL_mem hp (List.mem_iff_getElem?.1 hz).choose_spec)
     refine .list (.gen ys) ys rfl a' n c sz cs e5 (Zfd H hr hc hz _ _ _ rfl he) (by rw[hn];exact hl) hnc (fun z hz=>?_) f1.1.symm e2 e3 hpa f1.2
     obtain⟨j,hj⟩:=List.mem_iff_getElem?.1 hz
     obtain⟨q,q1,q2⟩:=f2 j z hj
     rw[q2];exact hsz q (List.mem_of_getElem? q1)
  ·cases hs
 ·exact ZlT H hz hr hs
theorem Zdo(H:HRel C h L w):∀d,ZoJ C h L w d
 |0,u,u',x,hr,hs=>by
  obtain⟨e,hp⟩:=ZcA hs
  rw[e];exact(hr.okmono (fun g _ ho=>Zfq ho)).pure hp
 |d+1,u,u',x,hr,hs=>by
  have IH:=Zdo H d
  unfold ZbQ at hs
  split at hs
  ·split at hs
   ·cases hs
   ·rename_i hz;exact ZkE H IH (by simp only[nzV];show(!ZkW _)=true;rw[hz];rfl) hr hs
  ·split at hs
   ·cases hs
   ·rename_i hz;exact ZkE H IH (by simp only[nzV];show(!ZkW _)=true;rw[hz];rfl) hr hs
  ·split at hs
   ·cases hs
   ·rename_i hz;exact ZlT H (by simp only[nzV];show(!ZkW _)=true;rw[hz];rfl) hr hs
  ·rename_i a i k off
   split at hs
   ·rename_i e sz r hfz hb
    split at hs
    ·rename_i b u2 hu
     simp only[zS,zP,std_and]at hs
     obtain⟨⟨hk,rfl⟩,rfl⟩:=hs
     have hk:k<r.elems.length:=by rw[Row.len_std]at hk;simpa[std]using hk
     obtain⟨ht,h0,h1,h2,h3⟩:=H.rowAt hb
     obtain⟨hpl,cur,h4,h5,h6,h7,h8⟩:=H.curAt hb (by omega)
     have hget:=Row.get_std hk
     have hsub:=ZeJ h3 hget
     have hlen:(r.get std k).flat.length=sz:=h3 _ (List.mem_of_getElem? hget)
     have hfl:(Zai r.elems).length=r.elems.length*sz:=Zax h3
     have hbnd:k*sz+sz≤r.elems.length*sz:=by have:=Nat.mul_le_mul_right sz hk;rw[Nat.succ_mul]at this;exact this
     have hcl:=h6.1
     have hrel:RelL w (Zaz C h L) h L (r.get std k).flat (((cur.toList.take (r.elems.length*sz)).drop (k*sz)).take sz):=by
      refine⟨by rw[List.length_take,List.length_drop];omega,fun j a v ha hv=>?_⟩
      have hj:=(List.getElem?_eq_some_iff.1 ha).1
      rw[List.getElem?_take,if_pos (by omega),List.getElem?_drop]at hv
      exact h6.2 (k*sz+j) a v (by rw[hsub j (by omega)];exact ha) hv
     have hone:∀c∈((cur.toList.take (r.elems.length*sz)).drop (k*sz)).take sz,c.oneCell'=true:=fun c hc=>h7 c (List.mem_of_mem_drop (List.mem_of_mem_take hc))
     have hf:=Zlz IH hu hrel hone
     cases hr with
     |ptr _ _ _ _ g o hl=>
      obtain⟨rfl,rfl⟩:=hl.2 _ ht
      have hlv:=(H.live a i hpl).2
      have:=Rel.eptr (w:=w) (ok:=Zaz C [] L) (h:=[]) (L:=L) u2 off ⟨L.loc a i,k*sz,none⟩ _ rfl hlv (.inr ⟨H.far hpl (Zdt hfz),fun _ _ ht=>absurd rfl ht.tag⟩) hf.1.symm hone (fun j v hj=>by
       rw[List.getElem?_take]at hj
       split at hj
       ·rw[List.getElem?_drop]at hj
        have:=h8 _ v hj
        rw[Zbn,Nat.zero_add]at this
        rw[Zbn];exact this
       ·cases hj) (by
       have:=Zek hu
       cases u2 with
       |agg q=>exact Zns (by simpa[AV.pure]using this)
       |_=>simp only[AV.flat,AV.pureL,Bool.and_true];exact this) hf.2
      rw[Zbn]at this
      exact this
    ·cases hs
   ·cases hs
  ·rename_i xs
   split at hs
   ·rename_i b ys hm
    simp only[zS,zP]at hs
    obtain⟨rfl,rfl⟩:=hs
    obtain⟨h1,h2⟩:=Zde hm
    cases hr with
    |agg _ xs' hx vs hl h1' hrr=>
     have hx:xs'=xs:=hx
     subst hx
     refine .agg _ ys rfl vs (by rw[←h1];exact hl) h1' (fun j u v hu hv=>?_)
     have hlt:j<xs'.length:=by rw[h1];exact(List.getElem?_eq_some_iff.1 hu).1
     exact IH _ _ _ (hrr j _ v (List.getElem?_eq_getElem hlt) hv) (h2 j _ u (List.getElem?_eq_getElem hlt) hu)
   ·cases hs
  ·rename_i f xs
   split at hs
   ·rename_i b ys hm
    simp only[zS,zP]at hs
    obtain⟨rfl,rfl⟩:=hs
    obtain⟨h1,h2⟩:=Zde hm
    cases hr with
    |fn _ _ vs hl hrr=>
     refine .fn _ ys vs (by rw[←h1];exact hl) (fun j u v hu hv=>?_)
     have hlt:j<xs.length:=by rw[h1];exact(List.getElem?_eq_some_iff.1 hu).1
     exact IH _ _ _ (hrr j _ v (List.getElem?_eq_getElem hlt) hv) (h2 j _ u (List.getElem?_eq_getElem hlt) hu)
   ·cases hs
  ·obtain⟨e,hp⟩:=ZcA hs
   rw[e];exact(hr.okmono (fun g _ ho=>Zfq ho)).pure hp
theorem Ztg(H:HRel C h L w){us us':zA}{vs:List Value}(hr:RelL w (Zaz C h L) h L us vs)(hs:Zqx std h us=some (true,us')):RelL w (fun g=>g<w.heap.size) [] L us' vs:=by
 obtain⟨h1,h2⟩:=Zde hs
 refine⟨by rw[←h1];exact hr.1,fun j u v hu hv=>?_⟩
 have hlt:j<us.length:=by rw[h1];exact(List.getElem?_eq_some_iff.1 hu).1
 exact(Zdo H 5 _ _ _ (hr.2 j _ v (List.getElem?_eq_getElem hlt) hv) (h2 j _ u (List.getElem?_eq_getElem hlt) hu)).okmono (fun g hg _=>hg)
theorem Rel.ren1{w:World}{ok ok':Nat→Prop}{h:Zad}{L L':Lay}{a i:Nat}{h2:Zad}{u:AV}{x:Value}(hp:Zng u=true)(hr:Rel w ok h2 L' u x)(hm:u.pure=true→Rel w ok h2 L' u x→Rel w ok' h L u x)
 (hrow:Rel w ok h2 L' (.row 0 0) x→Rel w ok' h L (.row a i) x):Rel w ok' h L (YtkeoeooghhjibaaGreatDoor.ren1 a i u) x:=by
 unfold YtkeoeooghhjibaaGreatDoor.ren1
 split
 ·exact hrow hr
 ·rename_i hne
  refine hm ?_ hr
  unfold Zng at hp
  split at hp
  ·exact absurd rfl hne
  ·exact hp
theorem Zz1(H:HRel C h L w){okA:Nat→Prop}{m:Bool}{a:Nat}{r0 r:AV}{fr:Option Fresh}{x:Value}{L2:Lay}(hb:Below w.heap.size w w')(H2:HRel (Ctx.of C.P w okA []) (ZaB fr) L2 w')(hr:ZaH (Ctx.of C.P w okA []) (ZaB fr) L2 w' r0 x)
 (hask:Zt8 a r0 m fr) (hok:m=false→∀g,okA g→Zaz C h L g) (had:ZcC h a r0 fr=(r,h')):∃L',Step w (Zaz C h L) h L w' (Zaz C h' L') h' L'∧HRel C h' L' w'∧ZaH C h' L' w' r x:=by
 cases fr with
 |none=>
  obtain⟨hp,hs⟩:=hask
  simp only[ZcC,zP]at had
  obtain⟨rfl,rfl⟩:=had
  obtain⟨s,H'⟩:=H.grow hb
  refine⟨L,s,H',?_⟩
  have h1:Rel w' (Zaz (Ctx.of C.P w okA []) [] L2) h L r0 x:=hr.pure hp
  cases m with
  |true=>exact h1.solid (hs rfl)
  |false=>
   refine h1.okmono (fun g hg ho=>?_)
   rcases ho with⟨h2,h3⟩ |⟨h2,h3⟩
   ·exact hok rfl g h3
   ·have h2:w.heap.size≤g:=h2
    exact .inr ⟨Nat.le_trans H.top h2,fun b j ht e=>by have:=(H.live b j ht).2;omega⟩
 |some f=>
  have hblk2:blk (ZaB (some f)) 0 0=.row f.e f.sz f.r:=rfl
  have hlive2:=H2.live 0 0
  have hbr:=H2.blks 0 0
  rw[hblk2]at hbr
  obtain⟨b1,b2,b3,b4,hcur⟩:=hbr
  have hpp:∀ {L':Lay} {b j:Nat},blk (Zal h a (.row f.e f.sz f.r)) b j=.row f.e f.sz f.r→L'.size b j=L2.size 0 0→Plc (Zal h a (.row f.e f.sz f.r)) L' b j→Plc (ZaB (some f)) L2 0 0:=fun e1 e2 p=>by
   obtain⟨s,e',hn⟩:=p
   exact⟨s,by rw[hblk2,←e1];exact e',e2▸hn⟩
  have hz:Nat.beq f.sz 0=false:=by cases hb:Nat.beq f.sz 0 with |false=>rfl |true=>have:=Nat.eq_of_beq_eq_true hb;omega
  rcases hask with⟨h0,_⟩ |⟨_,ha,hp,hpr,hs⟩
  ·omega
  simp only[ZcC,hz,zP]at had
  obtain⟨rfl,rfl⟩:=had
  have hbase2:((Ctx.of C.P w okA []):Ctx).base=w.heap.size:=rfl
  rw[hbase2]at hlive2
  -- what was immutable for the callee is for the caller
  have hokk:∀L',(∀b j,Plc (Zal h a (.row f.e f.sz f.r)) L' b j→L'.loc b j<w.heap.size∨(L'.loc b j=L2.loc 0 0∧Plc (ZaB (some f)) L2 0 0))→m=false→∀g,Zaz (Ctx.of C.P w okA []) (ZaB (some f)) L2 g→(∀g,g<w.heap.size→Zaz C h L g→Zaz C (Zal h a (.row f.e f.sz f.r)) L' g)→Zaz C (Zal h a (.row f.e f.sz f.r)) L' g:=by
   intro L' hL' hm g ho hkeep
   rcases ho with⟨h2,h3⟩ |⟨h2,h3⟩
   ·exact hkeep g h2 (hok hm g h3)
   ·have h2:w.heap.size≤g:=h2
    refine .inr ⟨Nat.le_trans H.top h2,fun b j ht e=>?_⟩
    rcases hL' b j ht with h4 |⟨h4,h5⟩
    ·omega
    ·exact h3 0 0 h5 (h4.symm.trans e)
  have hLput:∀b j,Plc (Zal h a (.row f.e f.sz f.r)) (L.put a (nxt h a) (L2.loc 0 0) (L2.size 0 0)) b j→(L.put a (nxt h a) (L2.loc 0 0) (L2.size 0 0)).loc b j<w.heap.size∨((L.put a (nxt h a) (L2.loc 0 0) (L2.size 0 0)).loc b j=L2.loc 0 0∧Plc (ZaB (some f)) L2 0 0):=by
   intro b j ht
   by_cases hne:b=a∧j=nxt h a
   ·obtain⟨rfl,rfl⟩:=hne;exact .inr ⟨Lay.put_loc _ _ _ _ _,hpp (by rw[Za3,if_pos ⟨rfl,rfl⟩]) (Lay.put_size _ _ _ _ _) ht⟩
   ·rw[(L.put_ne _ _ hne).1]
    exact .inl (H.live b j (ht.to (by rw[Za3,if_neg (fun e=>hne ⟨e.1.symm,e.2⟩)]) (L.put_ne _ _ hne).2.symm)).2
  have hconv:∀(s:Step w (Zaz C h L) h L w' (Zaz C (Zal h a (.row f.e f.sz f.r)) (L.put a (nxt h a) (L2.loc 0 0) (L2.size 0 0))) (Zal h a (.row f.e f.sz f.r)) (L.put a (nxt h a) (L2.loc 0 0) (L2.size 0 0))) {u:AV} {y:Value},
   Rel w' (Zaz (Ctx.of C.P w okA []) (ZaB (some f)) L2) (ZaB (some f)) L2 u y→u.pure=true→(m=true→u.solid=true)→ZaH C (Zal h a (.row f.e f.sz f.r)) (L.put a (nxt h a) (L2.loc 0 0) (L2.size 0 0)) w' u y:=by
   intro s u y hu hpu hsu
   have h1:Rel w' (Zaz (Ctx.of C.P w okA []) (ZaB (some f)) L2) (Zal h a (.row f.e f.sz f.r)) (L.put a (nxt h a) (L2.loc 0 0) (L2.size 0 0)) u y:=hu.pure hpu
   cases hm:m with
   |true=>exact h1.solid (hsu hm)
   |false=>exact h1.okmono (fun g hg ho=>hokk _ hLput hm g ho (fun g hg ho=>(s.mem g hg ho).1))
  obtain⟨s,H'⟩:=H.pushP a (.row f.e f.sz f.r) (L2.loc 0 0) (L2.size 0 0) hb hlive2 (fun s=>by
   refine⟨b1,b2,b3,b4,fun hn=>?_⟩
   obtain⟨cur,b5,b6,b7,b8⟩:=hcur hn
   refine⟨cur,b5,b6,⟨b7.1,fun j u y hu hy=>?_⟩,b8⟩
   exact hconv s (b7.2 j u y hu hy) (AV.pureL_mem hpr hu) (fun hm=>AV.solidL_mem (hs hm).2 hu))
  refine⟨_,s,H',?_⟩
  have hrow:∀y,Rel w' (Zaz (Ctx.of C.P w okA []) (ZaB (some f)) L2) (ZaB (some f)) L2 (.row 0 0) y→ZaH C (Zal h a (.row f.e f.sz f.r)) (L.put a (nxt h a) (L2.loc 0 0) (L2.size 0 0)) w' (.row a (nxt h a)) y:=by
   intro y hy
   cases hy with
   |row _ _ ad n c hn hl=>
    obtain⟨had,rfl,rfl⟩:=hl.2 _ rfl
    exact .row _ _ _ _ _ hn (ZcB (fun s hs=>by cases hs;exact⟨had,rfl,by rw[Lay.put_size]⟩))
  unfold ZLA
  split
  ·rename_i xs
   have hpx:xs.all Zng=true:=hp
   have hsx:m=true→AV.solidL xs=true:=fun hm=>by simpa[AV.solid]using(hs hm).1
   cases hr with
   |tup _ vs hl hrr=>
    refine .tup _ vs (by simpa using hl) (fun j u y hu hy=>?_)
    rw[List.getElem?_map]at hu
    cases hxj:xs[j]? with
    |none=>simp[hxj]at hu
    |some z=>
     simp[hxj]at hu;subst hu
     have hz:=List.all_eq_true.1 hpx z (List.mem_of_getElem? hxj)
     exact(hrr j z y hxj hy).ren1 hz (fun hpz hz=>hconv s hz hpz (fun hm=>AV.solidL_mem (hsx hm) hxj)) (hrow y)
  ·rename_i hnt
   have hp1:Zng r0=true:=by
    unfold Zrh at hp
    split at hp
    ·exact absurd rfl (hnt _)
    ·exact hp
   exact hr.ren1 hp1 (fun hpz hz=>hconv s hz hpz (fun hm=>(hs hm).1)) (hrow x)
theorem Zo3(H:HRel C h L w){okA:Nat→Prop}{m:Bool}{a:Nat}{r0 r:AV}{fr:Option Fresh}{x:Value}{L2:Lay}(hb:Below w.heap.size w w')(hp:ZkP C.P w okA fr L2 w' r0 x)
 (hask:Zt8 a r0 m fr) (hok:m=false→∀g,okA g→Zaz C h L g) (had:ZcC h a r0 fr=(r,h')):∃L',Step w (Zaz C h L) h L w' (Zaz C h' L') h' L'∧HRel C h' L' w'∧ZaH C h' L' w' r x:=by
 unfold ZkP at hp
 split at hp
 ·rename_i hn
  cases fr with
  |none=>cases hn
  |some f=>
   have hz:f.sz=0:=Nat.eq_of_beq_eq_true hn
   have hpu:r0.pure=true:=by
    rcases hask with⟨_,hp⟩ |⟨hne,_⟩
    ·exact hp
    ·exact absurd hz hne
   have hn:Nat.beq f.sz 0=true:=hn
   simp only[ZcC,hn,zP]at had
   obtain⟨rfl,rfl⟩:=had
   obtain⟨s,H'⟩:=H.grow hb
   refine⟨L,s,H',?_⟩
   have h1:Rel w' (Zaz (Ctx.of C.P w (fun _=>False) []) [] L2) h L r0 x:=hp.pure hpu
   refine h1.okmono (fun g hg ho=>?_)
   rcases ho with⟨h2,h3⟩ |⟨h2,h3⟩
   ·exact h3.elim
   ·have h2:w.heap.size≤g:=h2
    exact .inr ⟨Nat.le_trans H.top h2,fun b j ht e=>by have:=(H.live b j ht).2;omega⟩
 ·exact Zz1 H hb hp.1 hp.2 hask hok had
theorem Zhj(H:HRel C h L w){m:Bool}{a:Nat}{f:FuncId}{avs:zA}{vs:Array Value}{r:AV}(hrel:RelL w (Zaz C h L) h L avs vs.toList)(hc:ZdH C.P h m a f avs r h'):
 Calls C.P f vs w fun e w'=>∃x L',e=.returned x∧Step w (Zaz C h L) h L w' (Zaz C h' L') h' L'∧HRel C h' L' w'∧ZaH C h' L' w' r x:=by
 obtain⟨avs',r0,fr,hs,hp,hask,had⟩:=hc
 cases m with
 |true=>
  simp only[if_true]at hs
  refine(hp w (fun g=>g<w.heap.size) L vs (Ztg H hrel hs) (fun g hg=>hg) (H.good.at H.below H.low)).mono ?_
  rintro e w' ⟨x,L2,rfl,hb,hpo⟩
  obtain⟨L',s,H',rr⟩:=Zo3 H hb hpo hask (fun e=>by cases e) had
  exact⟨x,L',rfl,s,H',rr⟩
 |false=>
  simp only[Bool.false_eq_true,if_false]at hs
  obtain⟨rfl,hpl⟩:=hs
  refine(hp w (fun g=>g<w.heap.size∧Zaz C h L g) L vs ⟨hrel.1,fun j u v hu hv=>((hrel.2 j u v hu hv).okmono (fun g hg ho=>⟨hg,ho⟩)).pure (AV.pureL_mem hpl hu)⟩ (fun g hg=>hg.1) (H.good.at H.below H.low)).mono ?_
  rintro e w' ⟨x,L2,rfl,hb,hpo⟩
  obtain⟨L',s,H',rr⟩:=Zo3 H hb hpo hask (fun _ g hg=>hg.2) had
  exact⟨x,L',rfl,s,H',rr⟩
theorem ZdL{P:Program}{f:FuncId}{vs:Array Value}(h:ZbF P f=true)(w:World):(callFunc f vs).run P w=.ok (.enter f vs) w:=by
 unfold ZbF at h
 cases hf:P.funcs[f]? with
 |none=>simp[hf]at h
 |some fn=>
  simp only[hf,Bool.and_eq_true,bne_iff_ne,ne_eq]at h
  have h2:fn.body.isNone=false:=by cases hb:fn.body with
   |none=>simp[hb]at h
   |some _=>rfl
  have h1 : (fn.name == "runtime.NumGoroutine") = false := by simpa using h.1
  simp only[callFunc,Sem.run_bind,run_program,Result.andThen_ok,hf,h1,h2,Bool.false_eq_true,if_false,Sem.run_pure]
def ZMd(C:Ctx)(h:Zad)(L:Lay)(w:World)(ev:Operand→Value)(o:Oper)(h':Zad)(v:AV):Prop:=
 ∃f vs,(execOp ev o).run C.P w=.ok (.enter f vs) w∧Calls C.P f vs w fun e w'=>∃x L',e=.returned x∧Step w (Zaz C h L) h L w' (Zaz C h' L') h' L'∧HRel C h' L' w'∧ZaH C h' L' w' v x
theorem ZsC{ev:Operand→Value}{f:FuncId}{x':Operand}{args':Array Operand}{ts:Array TypeId}{b c:Array Value}(ho:o.op=.call { callee:=.value x',args:=args',argTypes:=ts })(hx:ev x'=.func (.func f) b c)(hok:ZbF C.P f=true):
 (execOp ev o).run C.P w=.ok (.enter f (b++args'.map ev++c)) w:=by
 simp[execOp,ho,resolve,hx,Deferred.ofValue,invoke,ZdL hok]
theorem ZhU{ev:Operand→Value}{f:FuncId}{x':Operand}{args':Array Operand}{ts:Array TypeId}{caps:Array Value}(ho:o.op=.call { callee:=.value x',args:=args',argTypes:=ts })(hx:ev x'=.func (.func f) #[] caps)(hok:ZbF C.P f=true):
 (execOp ev o).run C.P w=.ok (.enter f (args'.map ev++caps)) w:=by
 simp[execOp,ho,resolve,hx,Deferred.ofValue,invoke,ZdL hok]
theorem ZH2{f:FuncId}{caps:zA}{x:Value}(hr:ZaH C h L w (.fn f caps) x):∃vs:Array Value,x=.func (.func f) #[] vs∧RelL w (Zaz C h L) h L caps vs.toList:=by
 cases hr with |fn _ _ vs hl hrr=>exact⟨vs,rfl,by simpa using hl,fun j u v hu hv=>hrr j u v hu (by simpa using hv)⟩
theorem ZpO{ev:Operand→Value}(H:HRel C h L w)(hρ:Rho C h L w ρ ev){k:OpK}(hm:mop C.P o k=true)(hd:Zcw C.P ρ h k v h'):Snd C h L w ev o h' v∨ZMd C h L w ev o h' v:=by
 cases k with
 |ncall m a f args=>
  right
  simp only[mop]at hm
  split at hm
  ·rename_i f' args' ts ho
   simp only[Bool.and_eq_true,beq_iff_eq]at hm
   obtain⟨⟨rfl,hm⟩,hcal⟩:=hm
   have hrel:=ZcK hρ hm
   obtain⟨m',hd⟩:=hd
   exact⟨f,args'.map ev,by simpa using ZhU (w:=w) ho (hρ.fnc f) hcal,Zhj H hrel hd⟩
  ·cases hm
 |ncallv m a x args=>
  right
  obtain⟨f,avs,m',hx,hcal,hd⟩:=hd
  simp only[mop]at hm
  split at hm
  ·rename_i x' args' ts ho
   simp only[Bool.and_eq_true]at hm
   have hrel:=ZcK hρ hm.2
   have rx:=hρ.rel x x' hm.1
   obtain⟨b,c,e1,e2⟩:=ZuS hx rx hrel
   exact⟨f,b++args'.map ev++c,ZsC (w:=w) ho e1 hcal,Zhj H (by simpa using e2) hd⟩
  ·cases hm
 |_=>exact .inl (ZrI H hρ hm hd)
end
end Go.Proofs.YtkeoeooghhjibaaGreatDoor
