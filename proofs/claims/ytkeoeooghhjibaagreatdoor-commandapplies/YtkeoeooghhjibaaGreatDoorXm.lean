/- The machine: frames, and how they stand to the model's; the moves that compute nothing. No condition. -/
import Derived.Test.YtkeoeooghhjibaaGreatDoorXk
import Derived.RangeFuncRecord
namespace Go.Proofs.YtkeoeooghhjibaaGreatDoor
open Go.RowKit (Below)
inductive AItem where
 |code (c:ACode)
 |inBlock (id:Nat)
 |inLoop (b:ACode)
 |inReg (ops:List AOp)
 |inRF (a i:Nat)
 |endRF (a i:Nat)
 |beginRound
inductive ARes where
 |tmp (t:Nat)
 |cell (t:Nat) (ag:Bool) (n:Nat)
structure AFrame where
 fn:FuncId
 N:Nat
 env:List (Nat×AV)
 todo:List AItem
 defs:List (Nat×Nat)
 rnd:Option (Nat×Nat)
 ret:Bool
 res:List ARes
structure AFunc where
 N:Nat
 code:ACode
 res:List ARes
abbrev Tab:=FuncId→Option AFunc
def ZqB(P:Program):List ResultVar→List ARes→Bool
 |[],[]=>true
 | .tmp t::rs, .tmp t'::as=>t==t'&&ZqB P rs as
 | .cell t ty::rs, .cell t' ag n::as=>t==t'&&Zia P ty ag n&&ZqB P rs as
 |_,_=>false
def Zas(P:Program)(f:FuncId)(af:AFunc):Bool:=
 match P.funcs[f]? with
 |some fn=>fn.ntmps==af.N&&(match fn.body with |some c=>Zbp P af.N af.code c |none=>false)&&ZqB P fn.results.toList af.res&&ZbF P f
 |none=>false
def ZbH(P:Program)(T:Tab):Prop:=∀f af,T f=some af→Zas P f af=true
def Zih:Nat→zA→List (Nat×AV)
 |_,[]=>[]
 |k,x::xs=>(k,x)::Zih (k+1) xs
theorem ZiJ:∀(args:zA) (k t:Nat),ZaP (Zih k args) t=if k≤t then args[t-k]? else none
 |[],k,t=>by simp[Zih,ZaP]
 |x::xs,k,t=>by
  have hb:Nat.beq k t=decide (k=t):=by rw[Bool.eq_iff_iff];simp
  simp only[Zih,ZaP,hb]
  by_cases hkt:k=t
  ·subst hkt;simp
  ·simp only[hkt,decide_false]
   rw[ZiJ xs (k+1) t]
   by_cases hlt:k≤t
   ·rw[if_pos (by omega),if_pos hlt,show t-k=(t-(k+1))+1 from by omega];simp
   ·rw[if_neg (by omega),if_neg hlt]
def ZJr(t:Bool)(a b:ACode):ACode:=match t with |true=>a |false=>b
def Zc3(id:Nat):List AItem→Option (List AItem)
 | .inBlock id'::k=>match Nat.beq id' id with |true=>some k |false=>Zc3 id k
 |_::k=>Zc3 id k
 |[]=>none
def ZqS(a:Nat):Bool:=Nat.ble 1000000 a
abbrev ZHF(g:Nat):Deferred:={ target:=.collected g,args:= #[] }
inductive DefRel (h:Zad) (L:Lay):List (Nat×Nat)→List Deferred→Prop
 |nil:DefRel h L [] []
 |one (a i g:Nat) {ds cs} (hb:ZqS a=false) (hl:Live h L a i fun l _=>g=l) (hr:DefRel h L ds cs):DefRel h L ((a,i)::ds) (ZHF g::cs)
 |pool (a i:Nat) (gs js:List Nat) {ds cs} (hb:ZqS a=true) (hn:js.length=gs.length) (hd:js.Nodup) (hl:∀(k j g:Nat),js[k]? =some j→gs[k]? =some g→Live h L a j fun l _=>g=l) (hr:DefRel h L ds cs):DefRel h L ((a,i)::ds) (gs.map ZHF++cs)
theorem DefRel.nil_inv{h:Zad}{L:Lay}{cs:List Deferred}(hd:DefRel h L [] cs):cs=[]:=by cases hd;rfl
def RndRel(h:Zad)(L:Lay):Option (Nat×Nat)→Option Nat→Prop
 |none,r=>r=none
 |some (a,i),r=>∃g,r=some g∧Live h L a i fun l _=>g=l
def ZBA(P:Program)(N:Nat)(ops:List Oper):List Nat→List AOp→Prop
 |[],[]=>True
 |i::ix,o::os=>(∃op,ops[i]? =some op∧ZqQ P N ops op o=true)∧ZBA P N ops ix os
 |_,_=>False
theorem Zgg{P:Program}{N:Nat}{ops:List Oper} :∀ {l:List Oper} {os:List AOp} {k:Nat},ops.drop k=l→ZdY P N ops l os=true→ZBA P N ops ((List.range ops.length).drop k) os
 |[],[],k,h,_=>by
  have:ops.length≤k:=by
   rcases Nat.lt_or_ge k ops.length with h1 |h1
   ·rw[List.drop_eq_getElem_cons h1]at h;cases h
   ·exact h1
  rw[List.drop_of_length_le (by simpa using this)];trivial
 |op::l,o::os,k,h,hm=>by
  have h1:k<ops.length:=by
   rcases Nat.lt_or_ge k ops.length with h1 |h1
   ·exact h1
   ·rw[List.drop_of_length_le h1]at h;cases h
  rw[List.drop_eq_getElem_cons h1]at h
  simp only[List.cons.injEq]at h
  simp only[ZdY,Bool.and_eq_true]at hm
  rw[List.drop_eq_getElem_cons (by simpa using h1)]
  refine⟨⟨op,by rw[List.getElem_range,List.getElem?_eq_getElem h1,h.1],hm.1⟩,Zgg h.2 hm.2⟩
 |[],o::os,k,_,hm=>by simp[ZdY]at hm
 |op::l,[],k,_,hm=>by simp[ZdY]at hm
inductive ItRel (P:Program) (h:Zad) (L:Lay) (N:Nat):AItem→Item→Prop
 |code (a:ACode) (c:Code) (hm:Zbp P N a c=true):ItRel P h L N (.code a) (.code c)
 |inBlock (id:Nat):ItRel P h L N (.inBlock id) (.inBlock id)
 |inLoop (a:ACode) (c:Code) (hm:Zbp P N a c=true):ItRel P h L N (.inLoop a) (.inLoop c)
 |inReg (ops:List Oper) (ix:List Nat) (aos:List AOp) (hm:ZBA P N ops ix aos):ItRel P h L N (.inReg aos) (.inRegion ops.toArray ix)
 |inRF (a i g:Nat) (hl:Live h L a i fun l _=>g=l):ItRel P h L N (.inRF a i) (.inRangeFunc g)
 |endRF (a i g:Nat) (hl:Live h L a i fun l _=>g=l):ItRel P h L N (.endRF a i) (.endRangeFunc g)
 |beginRound:ItRel P h L N .beginRound .beginRound
inductive ItsRel (P:Program) (h:Zad) (L:Lay) (N:Nat):List AItem→List Item→Prop
 |nil:ItsRel P h L N [] []
 |cons {x y k l} (hx:ItRel P h L N x y) (hk:ItsRel P h L N k l):ItsRel P h L N (x::k) (y::l)
structure FrRel (C:Ctx) (h:Zad) (L:Lay) (w:World) (af:AFrame) (fr:Frame):Prop where
 fn:fr.fn=af.fn
 size:fr.tmps.size=af.N
 env:EnvRel C h L w af.env fr.tmps
 kind:fr.kind=.normal
 defs:DefRel h L af.defs fr.defers
 rnd:RndRel h L af.rnd fr.roundOf
 mode:(af.ret=true∧fr.mode=.returning)∨(af.ret=false∧fr.mode=.run∧ItsRel C.P h L af.N af.todo fr.todo)
 res:af.rnd=none→∃fn,C.P.funcs[af.fn]? =some fn∧ZqB C.P fn.results.toList af.res=true
inductive FrsRel (C:Ctx) (h:Zad) (L:Lay) (w:World):List AFrame→List Frame→Prop
 |base:FrsRel C h L w [] C.cs0
 |cons {af fr afs cs} (hf:FrRel C h L w af fr) (hk:FrsRel C h L w afs cs):FrsRel C h L w (af::afs) (fr::cs)
section
variable {C:Ctx}{h h':Zad}{L L':Lay}{w w':World}{P:Program}
theorem DefRel.step{ok ok':Nat→Prop}(s:Step w ok h L w' ok' h' L'){ds:List (Nat×Nat)}{cs:List Deferred}(hd:DefRel h L ds cs):DefRel h' L' ds cs:=by
 induction hd with
 |nil=>exact .nil
 |one a i g hb hl _ ih=>exact .one a i g hb (hl.step s fun _ _ _ _ _ e=>e) ih
 |pool a i gs js hb hn hd hl _ ih=>exact .pool a i gs js hb hn hd (fun k j g h1 h2=>(hl k j g h1 h2).step s fun _ _ _ _ _ e=>e) ih
theorem RndRel.step{ok ok':Nat→Prop}(s:Step w ok h L w' ok' h' L'){r:Option (Nat×Nat)}{q:Option Nat}(hr:RndRel h L r q):RndRel h' L' r q:=by
 cases r with
 |none=>exact hr
 |some p=>obtain⟨g,e,hl⟩:=hr;exact⟨g,e,hl.step s fun _ _ _ _ _ e=>e⟩
theorem ItRel.step{ok ok':Nat→Prop}(s:Step w ok h L w' ok' h' L'){N:Nat}{x:AItem}{y:Item}(hx:ItRel P h L N x y):ItRel P h' L' N x y:=by
 cases hx with
 |code a c hm=>exact .code a c hm
 |inBlock id=>exact .inBlock id
 |inLoop a c hm=>exact .inLoop a c hm
 |inReg ops k aos hm=>exact .inReg ops k aos hm
 |inRF a i g hl=>exact .inRF a i g (hl.step s fun _ _ _ _ _ e=>e)
 |endRF a i g hl=>exact .endRF a i g (hl.step s fun _ _ _ _ _ e=>e)
 |beginRound=>exact .beginRound
theorem ItsRel.step{ok ok':Nat→Prop}(s:Step w ok h L w' ok' h' L'){N:Nat}{x:List AItem}{y:List Item}(hx:ItsRel P h L N x y):ItsRel P h' L' N x y:=by
 induction hx with
 |nil=>exact .nil
 |cons hx _ ih=>exact .cons (hx.step s) ih
theorem FrRel.step(s:Step w (Zaz C h L) h L w' (Zaz C h' L') h' L'){af:AFrame}{fr:Frame}(hf:FrRel C h L w af fr):FrRel C h' L' w' af fr:=
 { hf with env:=hf.env.step s,defs:=hf.defs.step s,rnd:=hf.rnd.step s,mode:=hf.mode.imp id fun⟨a,b,c⟩=>⟨a,b,c.step s⟩ }
theorem FrsRel.step(s:Step w (Zaz C h L) h L w' (Zaz C h' L') h' L'){afs:List AFrame}{cs:List Frame}(hf:FrsRel C h L w afs cs):FrsRel C h' L' w' afs cs:=by
 induction hf with
 |base=>exact .base
 |cons hf _ ih=>exact .cons (hf.step s) ih
end
structure Fr (C:Ctx) (h:Zad) (L:Lay) (w:World) (h':Zad) (L':Lay) (w':World):Prop where
 size:w.heap.size≤w'.heap.size
 mem:∀g,g<w.heap.size→Zaz C h L g→Zaz C h' L' g∧w'.heap[g]? =w.heap[g]?
 nx:nxt h 0≤nxt h' 0
 tags:∀sz,0<nxt h 0→(blk h' 0 0).tag=some sz→(blk h 0 0).tag=some sz∧L'.loc 0 0=L.loc 0 0∧L'.size 0 0=L.size 0 0
theorem Fr.refl(C:Ctx)(h:Zad)(L:Lay)(w:World):Fr C h L w h L w:=⟨Nat.le_refl _,fun _ _ ho=>⟨ho,rfl⟩,Nat.le_refl _,fun _ _ ht=>⟨ht,rfl,rfl⟩⟩
theorem Fr.trans{C:Ctx}{h h1 h2:Zad}{L L1 L2:Lay}{w w1 w2:World}(a:Fr C h L w h1 L1 w1)(b:Fr C h1 L1 w1 h2 L2 w2):Fr C h L w h2 L2 w2:=
 ⟨Nat.le_trans a.size b.size,fun g hg ho=>by
   obtain⟨o1,e1⟩:=a.mem g hg ho
   obtain⟨o2,e2⟩:=b.mem g (Nat.lt_of_lt_of_le hg a.size) o1
   exact⟨o2,e2.trans e1⟩,Nat.le_trans a.nx b.nx,fun sz h0 ht=>by
   obtain⟨t1,l1,s1⟩:=b.tags sz (Nat.lt_of_lt_of_le h0 a.nx) ht
   obtain⟨t2,l2,s2⟩:=a.tags sz h0 t1
   exact⟨t2,l1.trans l2,s1.trans s2⟩⟩
theorem Fr.of{C:Ctx}{h h':Zad}{L L':Lay}{w w':World}(s:Step w (Zaz C h L) h L w' (Zaz C h' L') h' L'):Fr C h L w h' L' w':=
 ⟨s.size,s.mem,s.nx 0,fun sz h0 ht=>s.tags 0 0 sz h0 ht⟩
def Ev(C:Ctx)(fs:List AFrame)(h:Zad)(Q:List AFrame→Zad→Prop):Prop:=
 ∀L fr cs w,FrsRel C h L w fs (fr::cs)→HRel C h L w→fs≠[]→
  ∃fs' h' L' fr' cs' w',Q fs' h'∧fs'≠[]∧FrsRel C h' L' w' fs' (fr'::cs')∧HRel C h' L' w'∧Steps C.P (lone fr cs w) (lone fr' cs' w')∧Fr C h L w h' L' w'
section
variable {C:Ctx}{h h':Zad}{L L':Lay}{w w':World}{Q:List AFrame→Zad→Prop}{f:AFrame}{fs:List AFrame}{k:List AItem}
theorem Ev.now(hne:fs≠[])(hq:Q fs h):Ev C fs h Q:=fun L fr cs w hf H _=>⟨fs,h,L,fr,cs,w,hq,hne,hf,H, .refl _ _, .refl _ _ _ _⟩
theorem Ev.mono{Q':List AFrame→Zad→Prop}(he:Ev C fs h Q)(hq:∀fs h,Q fs h→Q' fs h):Ev C fs h Q':=fun L fr cs w hf H hne=>
 let ⟨fs',h',L',fr',cs',w',q,n,a,b,s⟩:=he L fr cs w hf H hne
 ⟨fs',h',L',fr',cs',w',hq _ _ q,n,a,b,s⟩
theorem go1{P:Program}{fr fr':Frame}{cs cs':List Frame}{w w':World}
 (h:(stepG P true { frame:=fr,callers:=cs,status:=.running,dying:=none } w).bare=.go { frame:=fr',callers:=cs',status:=.running,dying:=none } w'):Steps P (lone fr cs w) (lone fr' cs' w'):=.one (step_lone_go h)
theorem ZcZ{todo':List AItem}(hr:f.ret=false)(hc:∀(fr:Frame) (L:Lay),fr.mode=.run→ItsRel C.P h L f.N f.todo fr.todo→∃t',ItsRel C.P h L f.N todo' t'∧∀cs w,Steps C.P (lone fr cs w) (lone { fr with todo:=t' } cs w))
 (hq:Ev C ({ f with todo:=todo' } ::fs) h Q):Ev C (f::fs) h Q:=by
 intro L fr cs w hf H _
 cases hf with
 |cons hf hk=>
  rcases hf.mode with⟨e,_⟩ |⟨_,hm,hi⟩
  ·rw[hr]at e;cases e
  ·obtain⟨t',h1,h2⟩:=hc fr L hm hi
   obtain⟨fs2,h2',L2,fr2,cs2,w2,q2,n2,a2,b2,s2⟩:=hq L { fr with todo:=t' } cs w (.cons ⟨hf.fn,hf.size,hf.env,hf.kind,hf.defs,hf.rnd, .inr ⟨hr,hm,h1⟩,hf.res⟩ hk) H (by simp)
   exact⟨fs2,h2',L2,fr2,cs2,w2,q2,n2,a2,b2,(h2 cs w).trans s2.1,s2.2⟩
theorem Zy9(hr:f.ret=false)(ht:f.todo=.code .skip::k)(hq:Ev C ({ f with todo:=k } ::fs) h Q):Ev C (f::fs) h Q:=by
 refine ZcZ hr (fun fr L hm hi=>?_) hq
 rw[ht]at hi
 obtain⟨fn,tmps,todo,defers,mode,kind,rnd⟩:=fr
 cases hi with
 |cons hx hk=>
  cases hx with
  |code a c hmc=>
   dsimp only at hm;subst hm
   cases c<;>simp only[Zbp,Bool.false_eq_true]at hmc
   exact⟨_,hk,fun cs w=>go1 (by simp[stepG,stepG.exec])⟩
theorem ZEK{gs:List Ghost}{c:ACode}(hr:f.ret=false)(ht:f.todo=.code (.gh gs c)::k)(hq:Ev C ({ f with todo:=.code c::k } ::fs) h Q):Ev C (f::fs) h Q:=by
 refine ZcZ hr (fun fr L hm hi=>?_) hq
 rw[ht]at hi
 cases hi':fr.todo with
 |nil=>rw[hi']at hi;cases hi
 |cons y l=>
  rw[hi']at hi
  cases hi with
  |cons hx hk=>
   cases hx with
   |code a c hmc=>
    refine⟨_, .cons (.code _ _ (by simpa[Zbp]using hmc)) hk,fun cs w=>?_⟩
    rw[←hi']
    exact .refl _ _
theorem Zp5{id:Nat}(hr:f.ret=false)(ht:f.todo=.inBlock id::k)(hq:Ev C ({ f with todo:=k } ::fs) h Q):Ev C (f::fs) h Q:=by
 refine ZcZ hr (fun fr L hm hi=>?_) hq
 rw[ht]at hi
 obtain⟨fn,tmps,todo,defers,mode,kind,rnd⟩:=fr
 cases hi with
 |cons hx hk=>
  cases hx
  dsimp only at hm;subst hm
  exact⟨_,hk,fun cs w=>go1 (by simp[stepG,stepG.exec])⟩
theorem ZHn{a b:ACode}(hr:f.ret=false)(ht:f.todo=.code (.seq a b)::k)(hq:Ev C ({ f with todo:=.code a::.code b::k } ::fs) h Q):Ev C (f::fs) h Q:=by
 refine ZcZ hr (fun fr L hm hi=>?_) hq
 rw[ht]at hi
 obtain⟨fn,tmps,todo,defers,mode,kind,rnd⟩:=fr
 cases hi with
 |cons hx hk=>
  cases hx with
  |code _ c hmc=>
   dsimp only at hm;subst hm
   cases c<;>simp only[Zbp,Bool.false_eq_true,Bool.and_eq_true]at hmc
   exact⟨_, .cons (.code _ _ hmc.1) (.cons (.code _ _ hmc.2) hk),fun cs w=>go1 (by simp[stepG,stepG.exec])⟩
theorem ZtB{id:Nat}{b:ACode}(hr:f.ret=false)(ht:f.todo=.code (.block id b)::k)(hq:Ev C ({ f with todo:=.code b::.inBlock id::k } ::fs) h Q):Ev C (f::fs) h Q:=by
 refine ZcZ hr (fun fr L hm hi=>?_) hq
 rw[ht]at hi
 obtain⟨fn,tmps,todo,defers,mode,kind,rnd⟩:=fr
 cases hi with
 |cons hx hk=>
  cases hx with
  |code _ c hmc=>
   dsimp only at hm;subst hm
   cases c<;>simp only[Zbp,Bool.false_eq_true,Bool.and_eq_true,beq_iff_eq]at hmc
   obtain⟨rfl,hmc⟩:=hmc
   exact⟨_, .cons (.code _ _ hmc) (.cons (.inBlock _) hk),fun cs w=>go1 (by simp[stepG,stepG.exec])⟩
theorem ZxR{b:ACode}(hr:f.ret=false)(ht:f.todo=.code (.loop b)::k)(hq:Ev C ({ f with todo:=.code b::.inLoop b::k } ::fs) h Q):Ev C (f::fs) h Q:=by
 refine ZcZ hr (fun fr L hm hi=>?_) hq
 rw[ht]at hi
 obtain⟨fn,tmps,todo,defers,mode,kind,rnd⟩:=fr
 cases hi with
 |cons hx hk=>
  cases hx with
  |code _ c hmc=>
   dsimp only at hm;subst hm
   cases c<;>simp only[Zbp,Bool.false_eq_true]at hmc
   exact⟨_, .cons (.code _ _ hmc) (.cons (.inLoop _ _ hmc) hk),fun cs w=>go1 (by simp[stepG,stepG.exec])⟩
theorem Zsf{b:ACode}(hr:f.ret=false)(ht:f.todo=.inLoop b::k)(hq:Ev C ({ f with todo:=.code b::.inLoop b::k } ::fs) h Q):Ev C (f::fs) h Q:=by
 refine ZcZ hr (fun fr L hm hi=>?_) hq
 rw[ht]at hi
 obtain⟨fn,tmps,todo,defers,mode,kind,rnd⟩:=fr
 cases hi with
 |cons hx hk=>
  cases hx with
  |inLoop _ c hmc=>
   dsimp only at hm;subst hm
   exact⟨_, .cons (.code _ _ hmc) (.cons (.inLoop _ _ hmc) hk),fun cs w=>go1 (by simp[stepG,stepG.exec])⟩
theorem Zlp{P:Program}{N id:Nat} :∀ {k:List AItem} {l:List Item} {k':List AItem},ItsRel P h L N k l→Zc3 id k=some k'→∃l',exitTo id l=some l'∧ItsRel P h L N k' l'
 |[],[],k', .nil,he=>by cases he
 |x::k,y::l,k', .cons hx hk,he=>by
  cases hx with
  |inBlock id'=>
   simp only[Zc3]at he
   by_cases e:id'=id
   ·subst e
    have:Nat.beq id' id'=true:=by simp
    rw[this]at he
    cases he
    exact⟨l,by simp[exitTo],hk⟩
   ·have:Nat.beq id' id=false:=by cases hb:Nat.beq id' id with |false=>rfl |true=>exact absurd (Nat.eq_of_beq_eq_true hb) e
    rw[this]at he
    obtain⟨l',h1,h2⟩:=Zlp hk he
    exact⟨l',by simp[exitTo,e,h1],h2⟩
  |_=>obtain⟨l',h1,h2⟩:=Zlp hk he;exact⟨l',by simp[exitTo,h1],h2⟩
theorem ZiT{P:Program}{N id:Nat} :∀ {k:List AItem} {l:List Item},ItsRel P h L N k l→Zc3 id k=none→exitTo id l=none
 |[],[], .nil,_=>rfl
 |x::k,y::l, .cons hx hk,he=>by
  cases hx with
  |inBlock id'=>
   simp only[Zc3]at he
   by_cases e:id'=id
   ·subst e
    have:Nat.beq id' id'=true:=by simp
    rw[this]at he;cases he
   ·have:Nat.beq id' id=false:=by cases hb:Nat.beq id' id with |false=>rfl |true=>exact absurd (Nat.eq_of_beq_eq_true hb) e
    rw[this]at he
    have h1:=ZiT hk he
    simp[exitTo,e,h1]
  |_=>have h1:=ZiT hk he;simp[exitTo,h1]
theorem ZAo{id:Nat}{k':List AItem}(hr:f.ret=false)(ht:f.todo=.code (.exit id)::k)(he:Zc3 id k=some k')(hq:Ev C ({ f with todo:=k' } ::fs) h Q):Ev C (f::fs) h Q:=by
 refine ZcZ hr (fun fr L hm hi=>?_) hq
 rw[ht]at hi
 obtain⟨fn,tmps,todo,defers,mode,kind,rnd⟩:=fr
 cases hi with
 |cons hx hk=>
  cases hx with
  |code _ c hmc=>
   dsimp only at hm;subst hm
   cases c<;>simp only[Zbp,Bool.false_eq_true,beq_iff_eq]at hmc
   subst hmc
   obtain⟨l',h1,h2⟩:=Zlp hk he
   exact⟨_,h2,fun cs w=>go1 (by simp[stepG,stepG.exec,h1])⟩
theorem ZBY{ops:List AOp}(hr:f.ret=false)(ht:f.todo=.code (.reg none ops)::k)(hq:Ev C ({ f with todo:=.inReg ops::k } ::fs) h Q):Ev C (f::fs) h Q:=by
 refine ZcZ hr (fun fr L hm hi=>?_) hq
 rw[ht]at hi
 obtain⟨fn,tmps,todo,defers,mode,kind,rnd⟩:=fr
 cases hi with
 |cons hx hk=>
  cases hx with
  |code _ c hmc=>
   dsimp only at hm;subst hm
   cases c<;>simp only[Zbp,Bool.false_eq_true,Bool.and_eq_true,beq_iff_eq]at hmc
   rename_i id ops' draw
   obtain⟨⟨rfl,hmc⟩,_⟩:=hmc
   refine⟨_, .cons (.inReg ops'.toList _ _ (Zgg (k:=0) rfl hmc)) hk,fun cs w=>go1 ?_⟩
   simp[stepG,stepG.exec]
theorem ZiQ(hr:f.ret=false)(ht:f.todo=.inReg []::k)(hq:Ev C ({ f with todo:=k } ::fs) h Q):Ev C (f::fs) h Q:=by
 refine ZcZ hr (fun fr L hm hi=>?_) hq
 rw[ht]at hi
 obtain⟨fn,tmps,todo,defers,mode,kind,rnd⟩:=fr
 cases hi with
 |cons hx hk=>
  cases hx with
  |inReg ops ix _ hmc=>
   dsimp only at hm;subst hm
   have hnil:ix=[]:=by
    cases ix with
    |nil=>rfl
    |cons a b=>cases hmc
   refine⟨_,hk,fun cs w=>go1 ?_⟩
   rw[hnil]
   simp[stepG,stepG.exec]
theorem ZO1{x:Opd}{y:Operand}{fr:Frame}(hm:Za6 x y=true)(he:EnvRel C h L w f.env fr.tmps):ZaH C h L w (Zbw (ZaP f.env) x) (fr.eval y):=by
 unfold Za6 at hm
 split at hm
 ·rename_i n m
  have:n=m:=by simpa using hm
  subst this
  simp only[Zbw,Frame.eval]
  cases hg:ZaP f.env n with
  |none=>exact .top _
  |some av=>exact he n av hg
 ·rename_i n m
  have:n=m:=by simpa using hm
  subst this
  simp only[Zbw,Frame.eval]
  cases hg:ZaP f.env n with
  |none=>exact .top _
  |some av=>exact he n av hg
 ·rename_i av v
  exact Zex hm
 ·rename_i f' g
  have:f'=g:=by simpa using hm
  subst this
  exact .fn _ _ _ rfl (fun j u v hu=>by simp at hu)
 ·cases hm
theorem Zn4{c:Opd}{a b:ACode}{t:Bool}(hr:f.ret=false)(ht:f.todo=.code (.cond c a b)::k)(hc:Zbw (ZaP f.env) c=.bool t)(hq:Ev C ({ f with todo:=.code (ZJr t a b)::k } ::fs) h Q):Ev C (f::fs) h Q:=by
 intro L fr cs w hf H _
 cases hf with
 |cons hf hk=>
  rcases hf.mode with⟨e,_⟩ |⟨_,hm,hi⟩
  ·rw[hr]at e;cases e
  ·rw[ht]at hi
   cases hi':fr.todo with
   |nil=>rw[hi']at hi;cases hi
   |cons y l=>
    rw[hi']at hi
    cases hi with
    |cons hx hki=>
     cases hx with
     |code _ cc hmc=>
      cases cc<;>simp only[Zbp,Bool.false_eq_true,Bool.and_eq_true]at hmc
      rename_i c' x y
      obtain⟨⟨h1,h2⟩,h3⟩:=hmc
      have hv:fr.eval c'=.bool t:=by have:=ZO1 h1 hf.env;rw[hc]at this;exact Ze6 this
      have hcode:Zbp C.P f.N (ZJr t a b) (if t then x else y)=true:=by cases t<;>simpa
      obtain⟨fs2,h2',L2,fr2,cs2,w2,q2,n2,a2,b2,s2⟩:=hq L { fr with todo:=.code (if t then x else y)::l } cs w (.cons ⟨hf.fn,hf.size,hf.env,hf.kind,hf.defs,hf.rnd, .inr ⟨hr,hm, .cons (.code _ _ hcode) hki⟩,hf.res⟩ hk) H (by simp)
      refine⟨fs2,h2',L2,fr2,cs2,w2,q2,n2,a2,b2,Steps.trans (go1 ?_) s2.1,s2.2⟩
      obtain⟨fn,tmps,todo,defers,mode,kind,rnd⟩:=fr
      dsimp only at hm hi' hv
      subst hm;subst hi'
      simp[stepG,stepG.exec,hv]
theorem Zrs(hr:f.ret=false)(hn:f.rnd=none)(ht:f.todo=[]∨∃k,f.todo=.code .ret::k)(hq:Ev C ({ f with ret:=true,todo:=[] } ::fs) h Q):Ev C (f::fs) h Q:=by
 intro L fr cs w hf H _
 cases hf with
 |cons hf hk=>
  rcases hf.mode with⟨e,_⟩ |⟨_,hm,hi⟩
  ·rw[hr]at e;cases e
  ·have hrn:fr.roundOf=none:=by have:=hf.rnd;rw[hn]at this;exact this
   have hst:Steps C.P (lone fr cs w) (lone { fr with mode:=.returning } cs w):=by
    obtain⟨fn,tmps,todo,defers,mode,kind,rnd⟩:=fr
    dsimp only at hm hrn hi
    subst hm;subst hrn
    rcases ht with ht |⟨k,ht⟩
    ·rw[ht]at hi;cases hi
     exact go1 (by simp[stepG,stepG.exec])
    ·rw[ht]at hi
     cases hi with
     |cons hx hki=>
      cases hx with
      |code _ cc hmc=>
       cases cc<;>simp only[Zbp,Bool.false_eq_true]at hmc
       exact go1 (by simp[stepG,stepG.exec])
   obtain⟨fs2,h2',L2,fr2,cs2,w2,q2,n2,a2,b2,s2⟩:=hq L { fr with mode:=.returning } cs w (.cons ⟨hf.fn,hf.size,hf.env,hf.kind,hf.defs,hf.rnd, .inl ⟨rfl,rfl⟩,hf.res⟩ hk) H (by simp)
   exact⟨fs2,h2',L2,fr2,cs2,w2,q2,n2,a2,b2,hst.trans s2.1,s2.2⟩
end
end Go.Proofs.YtkeoeooghhjibaaGreatDoor
namespace Go.Proofs.YtkeoeooghhjibaaGreatDoor
open Go.RowKit (Below)
def Zli(tmps:Array Value)(d:Option Nat)(v:Value):Array Value:=match d with |some d=>tmps.setIfInBounds d v |none=>tmps
section
variable {P:Program}{fr:Frame}{cs:List Frame}{w w':World}{ops:Array Oper}{i:Nat}{rest:List Nat}{l:List Item}{o:Oper}{v:Value}
theorem Zem(hm:fr.mode=.run)(ht:fr.todo=.inRegion ops (i::rest)::l)(ho:ops[i]? =some o)(hw:Region.wanted o (yielded ops fr.tmps)=true)(hd:Zfi o.op=true):
 stepG P true { frame:=fr,callers:=cs,status:=.running,dying:=none } w=stepG.apply P true fr cs none (execOp fr.eval o) w:=by
 obtain⟨fn,tmps,todo,defers,mode,kind,rnd⟩:=fr
 dsimp only at hm ht hw
 subst hm;subst ht
 have h1:stepG P true { frame:={ fn,tmps,todo:=.inRegion ops (i::rest)::l,defers,mode:=.run,kind,roundOf:=rnd },callers:=cs,status:=.running,dying:=none } w=
  stepG.oper P true { fn,tmps,todo:=.inRegion ops (i::rest)::l,defers,mode:=.run,kind,roundOf:=rnd } cs none w:=by
  simp[stepG,stepG.exec,ho,hw]
 rw[h1]
 unfold stepG.oper
 simp only[Frame.oper?,ho]
 split
 ·rename_i l' c _ hop
  rw[hop]at hd;cases hd
 ·rfl
theorem ZpK(hm:fr.mode=.run)(ht:fr.todo=.inRegion ops (i::rest)::l)(ho:ops[i]? =some o)(hw:Region.wanted o (yielded ops fr.tmps)=true)(hd:Zfi o.op=true)
 (hr:(execOp fr.eval o).run P w=.ok (.value v) w'):Steps P (lone fr cs w) (lone (fr.finish v) cs w'):=
 go1 (by rw[Zem hm ht ho hw hd];simp[stepG.apply,hr])
theorem Zqf(hm:fr.mode=.run)(ht:fr.todo=.inRegion ops (i::rest)::l)(ho:ops[i]? =some o)(hw:Region.wanted o (yielded ops fr.tmps)=true)(hd:Zfi o.op=true)
 (hr:(execOp fr.eval o).run P w=.ok .skip w'):Steps P (lone fr cs w) (lone (fr.finish undef) cs w'):=
 go1 (by rw[Zem hm ht ho hw hd];simp[stepG.apply,hr])
theorem ZjA{f:FuncId}{vs:Array Value}(hm:fr.mode=.run)(ht:fr.todo=.inRegion ops (i::rest)::l)(ho:ops[i]? =some o)(hw:Region.wanted o (yielded ops fr.tmps)=true)(hd:Zfi o.op=true)
 (hr:(execOp fr.eval o).run P w=.ok (.enter f vs) w'):Steps P (lone fr cs w) (lone (Frame.enter P f vs .normal) (fr::cs) w'):=
 go1 (by rw[Zem hm ht ho hw hd];simp[stepG.apply,hr,ht])
theorem Zp6{r:Nat}{f:FuncId}{tmps:Array Value}{asg body:Code}(hm:fr.mode=.run)(ht:fr.todo=.inRegion ops (i::rest)::l)(ho:ops[i]? =some o)(hw:Region.wanted o (yielded ops fr.tmps)=true)(hd:Zfi o.op=true)
 (hr:(execOp fr.eval o).run P w=.ok (.round r f tmps asg body) w'):Steps P (lone fr cs w) (lone (Frame.round r f tmps asg body .normal) (fr::cs) w'):=
 go1 (by rw[Zem hm ht ho hw hd];simp[stepG.apply,hr])
theorem Zvs(hm:fr.mode=.run)(ht:fr.todo=.inRegion ops (i::rest)::l)(ho:ops[i]? =some o)(hw:Region.wanted o (yielded ops fr.tmps)=false):
 Steps P (lone fr cs w) (lone (fr.finish undef) cs w):=by
 obtain⟨fn,tmps,todo,defers,mode,kind,rnd⟩:=fr
 dsimp only at hm ht hw
 subst hm;subst ht
 exact go1 (by simp[stepG,stepG.exec,ho,hw])
theorem Zmx{f:FuncId}{vs:Array Value}{R:Ending→World→Prop}(hm:fr.mode=.run)(ht:fr.todo=.inRegion ops (i::rest)::l)(ho:ops[i]? =some o)(hw:Region.wanted o (yielded ops fr.tmps)=true)(hd:Zfi o.op=true)
 (hr:(execOp fr.eval o).run P w=.ok (.enter f vs) w') (hc:Calls P f vs w' R) (hR:∀e w'',R e w''→∃x,e=.returned x):∃x w'',R (.returned x) w''∧Steps P (lone fr cs w) (lone (fr.finish x) cs w''):=by
 obtain⟨e,w'',fr',h1,h2,h3,h4⟩:=hc (fr::cs)
 obtain⟨x,rfl⟩:=hR e w'' h1
 exact⟨x,w'',h1,(ZjA hm ht ho hw hd hr).trans (Steps.trans h2 (.one (step_leave_returned h4)))⟩
theorem Zgr(ht:fr.todo=.inRegion ops (i::rest)::l)(ho:ops[i]? =some o):fr.finish v= { fr with tmps:=Zli fr.tmps o.dst v,todo:=.inRegion ops rest::l } :=by
 obtain⟨fn,tmps,todo,defers,mode,kind,rnd⟩:=fr
 dsimp only at ht;subst ht
 simp only[Frame.finish,ho,Option.bind_some,Zli]
 cases o.dst<;>rfl
end
def EnvF(C:Ctx)(h:Zad)(L:Lay)(w:World)(ε:Env)(tmps:Array Value):Prop:=∀t av,ε t=some av→ZaH C h L w av (tmps.getD t undef)
section
variable {C:Ctx}{h h':Zad}{L L':Lay}{w w':World}
theorem EnvF.step{ε:Env}{tmps:Array Value}(s:Step w (Zaz C h L) h L w' (Zaz C h' L') h' L')(he:EnvF C h L w ε tmps):EnvF C h' L' w' ε tmps:=fun t av ht=>(he t av ht).step s
theorem EnvF.put{ε:Env}{tmps:Array Value}(he:EnvF C h L w ε tmps){d:Option Nat}(hd:∀d',d=some d'→d'<tmps.size){r:AV}{v:Value}(hr:d≠none→ZaH C h L w r v):EnvF C h L w (Env.put ε d r) (Zli tmps d v):=by
 cases d with
 |none=>exact he
 |some d=>
  intro t av ht
  simp only[Env.put]at ht
  simp only[Zli]
  by_cases hdt:d=t
  ·subst hdt
   simp only[if_true,zS]at ht
   subst ht
   have hlt:=hd d rfl
   have:(tmps.setIfInBounds d v).getD d undef=v:=by simp[hlt]
   rw[this];exact hr (by simp)
  ·simp only[if_neg hdt]at ht
   have:(tmps.setIfInBounds d v).getD t undef=tmps.getD t undef:=by simp[Array.getElem?_setIfInBounds_ne hdt]
   rw[this];exact he t av ht
theorem ZfD(tmps:Array Value)(d:Option Nat)(v:Value):(Zli tmps d v).size=tmps.size:=by cases d<;>simp[Zli]
theorem ZOZ{x:Opd}{y:Operand}{fr:Frame}{ε:Env}(hm:Za6 x y=true)(he:EnvF C h L w ε fr.tmps):ZaH C h L w (Zbw ε x) (fr.eval y):=by
 unfold Za6 at hm
 split at hm
 ·rename_i n m
  have:n=m:=by simpa using hm
  subst this
  simp only[Zbw,Frame.eval]
  cases hg:ε n with
  |none=>exact .top _
  |some av=>exact he n av hg
 ·rename_i n m
  have:n=m:=by simpa using hm
  subst this
  simp only[Zbw,Frame.eval]
  cases hg:ε n with
  |none=>exact .top _
  |some av=>exact he n av hg
 ·exact Zex hm
 ·rename_i f' g
  have:f'=g:=by simpa using hm
  subst this
  exact .fn _ _ _ rfl (fun j u v hu=>by simp at hu)
 ·cases hm
theorem ZCC{fr:Frame}{ε:Env}(he:EnvF C h L w ε fr.tmps):Rho C h L w (Zbw ε) fr.eval:=⟨fun _ _ hm=>ZOZ hm he,fun _=>rfl,fun _=>rfl⟩
theorem Zpx{ε:Env}{tmps:Array Value}(he:EnvF C h L w ε tmps){ops:List Oper}{o:Oper}{ao:AOp}{N:Nat}(hm:ZqQ C.P N ops o ao=true):
 (ao.g=none→Region.wanted o (yielded ops.toArray tmps)=true)∧(∀t want b,ao.g=some (t,want)→ε t=some (.bool b)→Region.wanted o (yielded ops.toArray tmps)=(b==want))∧
 (∀t want,ao.g=some (t,want)→ε t=some .und→Region.wanted o (yielded ops.toArray tmps)=false):=by
 simp only[ZqQ,Bool.and_eq_true,beq_iff_eq]at hm
 obtain⟨⟨⟨⟨_,_⟩,_⟩,hg⟩,_⟩:=hm
 have hy:∀(t j:Nat) (oj:Oper),ops[j]? =some oj→oj.dst=some t→yielded ops.toArray tmps j=(match (tmps[t]? :Option Value)with |some (.bool b)=>some b |_=>none):=fun t j oj hoj hojd=>by
  simp only[yielded,List.getElem?_toArray,hoj,Option.bind_some,hojd]
  rfl
 have hj:∀t want,ao.g=some (t,want)→∃j,o.guard=some (j,want)∧∃oj,ops[j]? =some oj∧oj.dst=some t:=fun t want e=>by
  rw[e]at hg
  cases hh:o.guard with
  |none=>rw[hh]at hg;simp at hg
  |some p=>
   obtain⟨j,want'⟩:=p
   rw[hh]at hg
   simp only[Bool.and_eq_true,beq_iff_eq]at hg
   obtain⟨rfl,h2⟩:=hg
   cases h3:ops[j]? with
   |none=>rw[h3]at h2;simp at h2
   |some oj=>rw[h3]at h2;exact⟨j,rfl,oj,h3,by simpa using h2⟩
 refine⟨fun e=>?_,fun t want b e hb=>?_,fun t want e hb=>?_⟩
 ·rw[e]at hg
  have:o.guard=none:=by
   cases hh:o.guard with
   |none=>rfl
   |some p=>obtain⟨j,want⟩:=p;rw[hh]at hg;simp at hg
  simp[Region.wanted,this]
 ·obtain⟨j,hog,oj,hoj,hojd⟩:=hj t want e
  have hv':tmps.getD t undef=.bool b:=Ze6 (he t _ hb)
  have htm:tmps[t]? =some (.bool b):=by
   cases hh:tmps[t]? with
   |none=>simp[Array.getD_eq_getD_getElem?,hh,undef]at hv'
   |some x=>simp[Array.getD_eq_getD_getElem?,hh]at hv';rw[hv']
  have:=hy t j oj hoj hojd
  rw[htm]at this
  simp only[Region.wanted,hog,this]
  cases b<;>cases want<;>rfl
 ·obtain⟨j,hog,oj,hoj,hojd⟩:=hj t want e
  have hv':tmps.getD t undef=undef:=ZDV (he t _ hb)
  have hy':yielded ops.toArray tmps j=none:=by
   rw[hy t j oj hoj hojd]
   cases hh:tmps[t]? with
   |none=>rfl
   |some x=>simp[Array.getD_eq_getD_getElem?,hh]at hv';rw[hv'];rfl
  simp[Region.wanted,hog,hy']
theorem Zmn{ε:Env}{fr:Frame}{cs:List Frame}{ops:List Oper}{i:Nat}{rest:List Nat}{l:List Item}{o:Oper}{ao:AOp}{N:Nat}{r:AV}(H:HRel C h L w)(he:EnvF C h L w ε fr.tmps)(hN:fr.tmps.size=N)
 (hmode:fr.mode=.run) (ht:fr.todo=.inRegion ops.toArray (i::rest)::l) (ho:ops[i]? =some o) (hm:ZqQ C.P N ops o ao=true) (hd:Zdk C.P ao ε h r h'):
 ∃v w' L',Step w (Zaz C h L) h L w' (Zaz C h' L') h' L'∧HRel C h' L' w'∧EnvF C h' L' w' (Env.put ε ao.d r) (Zli fr.tmps ao.d v)∧
  Steps C.P (lone fr cs w) (lone { fr with tmps:=Zli fr.tmps ao.d v,todo:=.inRegion ops.toArray rest::l } cs w'):=by
 obtain⟨g0,g1,g2⟩:=Zpx he hm
 have hm':=hm
 simp only[ZqQ,Bool.and_eq_true,beq_iff_eq]at hm'
 obtain⟨⟨⟨⟨hnd,hdst⟩,hdN⟩,_⟩,hk⟩:=hm'
 have hdN':∀d',ao.d=some d'→d'<fr.tmps.size:=fun d' e=>by rw[e]at hdN;rw[hN];simpa using hdN
 have ho':ops.toArray[i]? =some o:=by simpa using ho
 have hfin:∀v,fr.finish v= { fr with tmps:=Zli fr.tmps ao.d v,todo:=.inRegion ops.toArray rest::l } :=fun v=>by rw[Zgr ht ho',hdst]
 -- the operation runs
 have run:Region.wanted o (yielded ops.toArray fr.tmps)=true→Zcw C.P (Zbw ε) h ao.k r h'→∃v w' L',Step w (Zaz C h L) h L w' (Zaz C h' L') h' L'∧HRel C h' L' w'∧EnvF C h' L' w' (Env.put ε ao.d r) (Zli fr.tmps ao.d v)∧
  Steps C.P (lone fr cs w) (lone { fr with tmps:=Zli fr.tmps ao.d v,todo:=.inRegion ops.toArray rest::l } cs w'):=by
  intro hw hop
  rcases ZpO H (ZCC he) hk hop with⟨w',L',x,hrun,s,H',hrel⟩ |⟨f,vs,hrun,hcalls⟩
  ·rcases hrun with hrun |⟨hrun,hnone⟩
   ·exact⟨x,w',L',s,H',(he.step s).put hdN' (fun e=>hrel (by rw[hdst];exact e)),by rw[←hfin];exact ZpK hmode ht ho' hw hnd hrun⟩
   ·rw[hdst]at hnone
    refine⟨undef,w',L',s,H',?_,by rw[←hfin];exact Zqf hmode ht ho' hw hnd hrun⟩
    rw[hnone];exact he.step s
  ·obtain⟨x,w',⟨x',L',e,s,H',hrel⟩,hst⟩:=Zmx (cs:=cs) hmode ht ho' hw hnd hrun hcalls (fun e w'' hh=>by obtain⟨x,_,e,_⟩:=hh;exact⟨x,e⟩)
   cases e
   exact⟨x,w',L',s,H',(he.step s).put hdN' (fun _=>hrel),by rw[←hfin];exact hst⟩
 have not:Region.wanted o (yielded ops.toArray fr.tmps)=false→r=.und→h'=h→∃v w' L',Step w (Zaz C h L) h L w' (Zaz C h' L') h' L'∧HRel C h' L' w'∧EnvF C h' L' w' (Env.put ε ao.d r) (Zli fr.tmps ao.d v)∧
  Steps C.P (lone fr cs w) (lone { fr with tmps:=Zli fr.tmps ao.d v,todo:=.inRegion ops.toArray rest::l } cs w'):=by
  rintro hw rfl rfl
  exact⟨undef,w,L,Step.refl _ _ _ _,H,he.put hdN' (fun _=>.und),by rw[←hfin];exact Zvs hmode ht ho' hw⟩
 unfold Zdk at hd
 split at hd
 ·rename_i hg;exact run (g0 hg) hd
 ·rename_i t want hg
  rcases hd with⟨h1,h2⟩ |⟨h1,h2,h3⟩ |⟨h1,h2,h3⟩
  ·exact run (by rw[g1 t want _ hg h1];simp) h2
  ·exact not (by rw[g1 t want _ hg h1];cases want<;>rfl) h2 h3
  ·exact not (g2 t want hg h1) h2 h3
end
section
variable {C:Ctx}{h h':Zad}{L L':Lay}{w w':World}{Q:List AFrame→Zad→Prop}{f:AFrame}{fs:List AFrame}{k:List AItem}
def Zos(env:List (Nat×AV))(d:Option Nat)(v:AV):List (Nat×AV):=match d with |some d=>Zdz env d v |none=>env
theorem ZdX(env:List (Nat×AV))(d:Option Nat)(v:AV):ZaP (Zos env d v)=Env.put (ZaP env) d v:=by
 cases d with
 |none=>rfl
 |some d=>funext t;simp only[Zos,Env.put,Zci]
theorem ZfM{P:Program}{N:Nat}{ops:List Oper}{ix:List Nat}{o:AOp}{os:List AOp}(hm:ZBA P N ops ix (o::os)):∃i ix' op,ix=i::ix'∧ops[i]? =some op∧ZqQ P N ops op o=true∧ZBA P N ops ix' os:=by
 cases ix with
 |nil=>cases hm
 |cons i ix'=>
  obtain⟨⟨op,h1,h2⟩,h3⟩:=hm
  exact⟨i,ix',op,rfl,h1,h2,h3⟩
theorem ZGp{o:AOp}{os:List AOp}{r:AV}(hr:f.ret=false)(ht:f.todo=.inReg (o::os)::k)(hd:Zdk C.P o (ZaP f.env) h r h')(hq:Ev C ({ f with env:=Zos f.env o.d r,todo:=.inReg os::k } ::fs) h' Q):Ev C (f::fs) h Q:=by
 intro L fr cs w hf H _
 cases hf with
 |cons hf hk=>
  rcases hf.mode with⟨e,_⟩ |⟨_,hm,hi⟩
  ·rw[hr]at e;cases e
  ·rw[ht]at hi
   cases hi':fr.todo with
   |nil=>rw[hi']at hi;cases hi
   |cons y l=>
    rw[hi']at hi
    cases hi with
    |cons hx hki=>
     cases hx with
     |inReg ops ix _ hmc=>
      obtain⟨kk,ix',op,rfl,e1,e2,e3⟩:=ZfM hmc
      obtain⟨v,w',L',s,H',he',hst⟩:=Zmn (cs:=cs) H hf.env hf.size hm hi' e1 e2 hd
      have hfs:=hf.step s
      obtain⟨fs2,h2',L2,fr2,cs2,w2,q2,n2,a2,b2,s2⟩:=hq L' { fr with tmps:=Zli fr.tmps o.d v,todo:=.inRegion ops.toArray ix'::l } cs w'
       (.cons ⟨hf.fn,by rw[ZfD];exact hf.size,by intro t av hta;exact he' t av (by rw[←ZdX];exact hta),hf.kind,hfs.defs,hfs.rnd, .inr ⟨hr,hm, .cons (.inReg ops ix' os e3) (hki.step s)⟩,hf.res⟩ (hk.step s)) H' (by simp)
      exact⟨fs2,h2',L2,fr2,cs2,w2,q2,n2,a2,b2,hst.trans s2.1,(Fr.of s).trans s2.2⟩
end
end Go.Proofs.YtkeoeooghhjibaaGreatDoor
