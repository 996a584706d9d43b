/- Regions of which every order is looked at: a run in all of their orders. No condition. -/
import Derived.Test.YtjhldefnjghcdaaGreatYc
namespace Go.Proofs.YtjhldefnjghcdaaGreat
open Go.RowKit (Below)
def ZLw(es:List (Nat×Nat))(left:List Nat)(i:Nat):Bool:=es.all fun e=>match Nat.beq e.2 i with |true=>left.all (fun j=>!Nat.beq j e.1) |false=>true
def ZxK(es:List (Nat×Nat)):Nat→List Nat→List (List Nat)
 |0,_=>[[]]
 |n+1,left=>(left.filter (ZLw es left)).flatMap fun i=>(ZxK es n (left.filter fun j=>!Nat.beq j i)).map (i:: ·)
def ZEG(aos:List AOp):List Nat→List AOp
 |[]=>[]
 |i::σ=>match aos[i]? with |some o=>o::ZEG aos σ |none=>ZEG aos σ
theorem ZvP{es:List (Nat×Nat)}{m:Nat} :∀(n:Nat) (left:List Nat),(∀i∈left,i<m)→∀σ∈ZxK es n left,∀i∈σ,i<m
 |0,_,_,σ,hσ,i,hi=>by simp only[ZxK,List.mem_singleton]at hσ;subst hσ;cases hi
 |n+1,left,hl,σ,hσ,i,hi=>by
  simp only[ZxK,List.mem_flatMap,List.mem_filter,List.mem_map]at hσ
  obtain⟨j,⟨hj,_⟩,τ,hτ,rfl⟩:=hσ
  rcases List.mem_cons.1 hi with rfl |hi
  ·exact hl _ hj
  ·exact ZvP n _ (fun q hq=>hl q (List.mem_filter.1 hq).1) τ hτ i hi
theorem Zss{P:Program}{N:Nat}{opl:List Oper}{aos:List AOp}(hm:Zd3 P N opl opl aos=true):∀(σ:List Nat),(∀i∈σ,i<opl.length)→ZEA P N opl σ (ZEG aos σ)
 |[],_=>trivial
 |i::σ,h=>by
  obtain⟨h1,h2⟩:=Zc9 hm
  have hi:=h i (by simp)
  have hia:i<aos.length:=by omega
  simp only[ZEG,List.getElem?_eq_getElem hia]
  exact⟨⟨opl[i],List.getElem?_eq_getElem hi,h2 i _ _ (List.getElem?_eq_getElem hi) (List.getElem?_eq_getElem hia)⟩,Zss hm σ (fun j hj=>h j (by simp[hj]))⟩
theorem ZwA{ops:List Oper}{es:List (Nat×Nat)}(hlin:∀(j:Nat) (o:Oper),ops[j]? =some o→∀e∈o.after,Region.binds .any e=true→e.on<0+j)(hes:∀e∈es,Waits ops.toArray e.2 e.1):
 ∀(fuel t:Nat) (listed:Array Bool),listed.size=ops.length→Downed ops.toArray listed→((List.range ops.length).filter fun i=>!listed.getD i true).length=fuel→
  Region.linearise.go .any ops.toArray fuel t listed []∈ZxK es fuel ((List.range ops.length).filter fun i=>!listed.getD i true)
 |0,t,listed,hls,hdn,hf=>by simp[Region.linearise.go,ZxK]
 |fuel+1,t,listed,hls,hdn,hf=>by
  have hne:Region.ready .any ops.toArray listed≠[]:=by
   have:∃i,i<ops.length∧listed.getD i true=false:=by
    cases hff:(List.range ops.length).filter fun i=>!listed.getD i true with
    |nil=>rw[hff]at hf;simp at hf
    |cons i r=>
     have hi:i∈(List.range ops.length).filter fun i=>!listed.getD i true:=by rw[hff];simp
     simp only[List.mem_filter,List.mem_range,Bool.not_eq_true']at hi
     exact⟨i,hi⟩
   obtain⟨i,hi⟩:=this
   obtain⟨m,⟨h1,h2⟩,h3⟩:=ZmU (p:=fun i=>i<ops.length∧listed.getD i true=false) i hi
   intro hnil
   have hmr:m∈Region.ready .any ops.toArray listed:=mem_ready.2 ⟨h2,ops[m],by simp[h1],fun e hee hb=>by
    have hlt:=hlin m ops[m] (by simp[h1]) e hee hb
    have h4:=h3 e.on (by omega)
    have h5:¬listed.getD e.on true=false:=fun h6=>h4 ⟨by omega,h6⟩
    rw[unl]at h5
    have h6:e.on<listed.size:=by omega
    simpa using(fun h7=>h5 ⟨h6,h7⟩:¬listed.getD e.on false=false)⟩
   rw[hnil]at hmr;cases hmr
  have hlt:t%(Region.ready .any ops.toArray listed).length<(Region.ready .any ops.toArray listed).length:=Nat.mod_lt _ (List.length_pos_iff.2 hne)
  generalize hi:(Region.ready .any ops.toArray listed)[t%(Region.ready .any ops.toArray listed).length]=i
  have hgi:(Region.ready .any ops.toArray listed)[t%(Region.ready .any ops.toArray listed).length]? =some i:=by rw[List.getElem?_eq_getElem hlt,hi]
  have hir:i∈Region.ready .any ops.toArray listed:=List.mem_of_getElem? hgi
  obtain⟨hun,op,hop,hall⟩:=mem_ready.1 hir
  have hop:ops[i]? =some op:=by simpa using hop
  have hil:i<ops.length:=(List.getElem?_eq_some_iff.1 hop).1
  have hgo:Region.linearise.go .any ops.toArray (fuel+1) t listed []=i::Region.linearise.go .any ops.toArray fuel (t/(Region.ready .any ops.toArray listed).length) (listed.setIfInBounds i true) []:=by
   simp only[Region.linearise.go]
   change (match (Region.ready .any ops.toArray listed)[t%(Region.ready .any ops.toArray listed).length]? with
    |some i=>Region.linearise.go .any ops.toArray fuel (t/(Region.ready .any ops.toArray listed).length) (listed.setIfInBounds i true) [i]
    |none=>[].reverse)=_
   rw[hgi]
   dsimp only
   rw[linearise_go_acc,List.reverse_singleton,List.singleton_append]
  have hleft:((List.range ops.length).filter fun j=>!(listed.setIfInBounds i true).getD j true)=((List.range ops.length).filter fun j=>!listed.getD j true).filter fun j=>!Nat.beq j i:=by
   rw[List.filter_filter]
   apply List.filter_congr
   intro j hj
   by_cases hji:j=i
   ·subst hji
    have e1:(listed.setIfInBounds j true).getD j true=true:=by simp[show j<listed.size by omega]
    rw[e1];simp
   ·rw[getD_set_ne true (Ne.symm hji)]
    have e2:Nat.beq j i=false:=by
     cases h:Nat.beq j i with
     |false=>rfl
     |true=>exact absurd (Nat.eq_of_beq_eq_true h) hji
    rw[e2];simp
  have hmem:i∈(List.range ops.length).filter fun j=>!listed.getD j true:=by simp only[List.mem_filter,List.mem_range,Bool.not_eq_true'];exact⟨hil,hun⟩
  have hf':((List.range ops.length).filter fun j=>!(listed.setIfInBounds i true).getD j true).length=fuel:=by
   have hsplit:=Zkt hil
   have hset:∀j,j≠i→(listed.setIfInBounds i true).getD j true=listed.getD j true:=fun j hj=>getD_set_ne true (Ne.symm hj)
   have hseti:(listed.setIfInBounds i true).getD i true=true:=by simp[show i<listed.size by omega]
   have hf1:((List.range i).filter fun j=>!(listed.setIfInBounds i true).getD j true)=(List.range i).filter fun j=>!listed.getD j true:=by
    apply List.filter_congr
    intro j hj
    have:j<i:=by simpa using hj
    rw[hset j (by omega)]
   have hf2:(((List.range ops.length).drop (i+1)).filter fun j=>!(listed.setIfInBounds i true).getD j true)=((List.range ops.length).drop (i+1)).filter fun j=>!listed.getD j true:=by
    apply List.filter_congr
    intro j hj
    obtain⟨q,hq⟩:=List.mem_iff_getElem?.1 hj
    rw[List.getElem?_drop]at hq
    have hqj:j=i+1+q:=by
     have:=(List.getElem?_eq_some_iff.1 hq).2
     simpa using this.symm
    rw[hset j (by omega)]
   rw[hsplit,List.filter_append,List.filter_cons,if_pos (by simp[hun]),List.length_append,List.length_cons]at hf
   rw[hsplit,List.filter_append,List.filter_cons,if_neg (by simp[hseti]),hf1,hf2,List.length_append]
   omega
  have ih:=ZwA hlin hes fuel (t/(Region.ready .any ops.toArray listed).length) (listed.setIfInBounds i true) (by simpa using hls) (hdn.add hir) hf'
  rw[hgo]
  simp only[ZxK,List.mem_flatMap,List.mem_map]
  refine⟨i,?_,_,by rw[←hleft];exact ih,rfl⟩
  rw[List.mem_filter]
  refine⟨hmem,List.all_eq_true.2 fun e he=>?_⟩
  split
  ·rename_i h2
   have h2:=Nat.eq_of_beq_eq_true h2
   have hw:=hes e he
   rw[h2]at hw
   have h3:=Zdm hdn hw hir
   refine List.all_eq_true.2 fun j hj=>?_
   simp only[List.mem_filter,List.mem_range,Bool.not_eq_true']at hj
   cases hb:Nat.beq j e.1 with
   |false=>rfl
   |true=>
    have hb:=Nat.eq_of_beq_eq_true hb
    rw[hb]at hj
    rw[(unl.1 hj.2).2]at h3;cases h3
  ·rfl
section
variable {C:Ctx}{h h':Zaa}{L L':Lay}{w w':World}{Q:List AFrame→Zaa→Prop}{f:AFrame}{fs:List AFrame}{k:List AItem}
theorem Zy0{fr:List (Nat×Nat)}{ops:List AOp}(hfol:C.P.follows .mixedOrders=true)(hany:ZqN fr=true)(hr:f.ret=false)(ht:f.todo=.code (.reg (some fr) ops)::k)
 (hq:∀σ∈ZxK (fr.drop 1) ops.length (List.range ops.length),Ev C ({ f with todo:=.inReg (ZEG ops σ)::k } ::fs) h Q):Ev C (f::fs) h Q:=by
 intro L fr' cs w hf H _
 cases hf with
 |cons hf hk=>
  rcases hf.mode with⟨e,_⟩ |⟨_,hm,hi⟩
  ·rw[hr]at e;cases e
  ·rw[ht]at hi
   obtain⟨fn,tmps,todo,defers,mode,kind,rnd⟩:=fr'
   cases hi with
   |cons hx hki=>
    cases hx with
    |code _ c hmc=>
     dsimp only at hm;subst hm
     cases c<;>simp only[Za3,Bool.false_eq_true,Bool.and_eq_true,beq_iff_eq]at hmc
     rename_i l id ops' draw
     obtain⟨⟨rfl,hmc⟩,hdr⟩:=hmc
     obtain⟨hlen0,_⟩:=Zc9 hmc
     simp only[ZsV,hany,Bool.and_eq_true]at hdr
     obtain⟨hlin,hes⟩:=hdr
     have hlin:=ZgL ops'.toList 0 hlin
     have hcl:=Zgz ops'.toList ops'.toList [] (by simp) (fun j i hi=>by simp at hi)
     have hes:∀e∈fr.drop 1,Waits ops'.toList.toArray e.2 e.1:=fun e he=>hcl _ _ (by simpa using List.all_eq_true.1 hes e he)
     obtain⟨s0,H0⟩:=H.grow (w':=w.drew) ((Below.refl _ _).drew)
     have hall:((List.range ops'.toList.length).filter fun i=>!(Array.replicate ops'.size false).getD i true)=List.range ops'.toList.length:=by
      apply List.filter_eq_self.2
      intro i hi
      have:i<ops'.size:=by simpa using hi
      simp[this]
     have hgo:=ZwA hlin hes ops'.size (w.tape w.drawn (.order fn id)) (Array.replicate ops'.size false) (by simp) (fun j o hj hl=>by
      rcases Nat.lt_or_ge j ops'.size with h1 |h1
      ·simp[h1]at hl
      ·simp[Array.getElem?_eq_none (show (Array.replicate ops'.size false).size≤j by simpa using h1)]at hl) (by rw[hall];simp)
     rw[hall]at hgo
     have hsz:ops'.size=ops.length:=by rw[←hlen0];simp
     have hgo2:=hgo
     rw[hlen0]at hgo2
     rw[hsz]at hgo2
     have hf0:=hf.step s0
     obtain⟨fs2,h2',L2,fr2,cs2,w2,q2,n2,a2,b2,s2⟩:=hq _ hgo2 L { fn,tmps,todo:=.inRegion ops'.toList.toArray (Region.linearise.go .any ops'.toList.toArray ops.length (w.tape w.drawn (.order fn id)) (Array.replicate ops.length false) [])::l,defers,mode:=.run,kind,roundOf:=rnd } cs w.drew
      (.cons ⟨hf0.fn,hf.size,hf0.env,hf0.kind,hf0.defs,hf0.rnd, .inr ⟨hr,rfl, .cons (.inReg ops'.toList _ _ (Zss hmc _ (fun i hi=>ZvP _ _ (fun j hj=>by simpa[hlen0]using hj) _ hgo2 i hi))) (hki.step s0)⟩,hf0.res⟩ (hk.step s0)) H0 (by simp)
     refine⟨fs2,h2',L2,fr2,cs2,w2,q2,n2,a2,b2,?_,(Fr.of s0).trans s2.2⟩
     refine Steps.trans (go1 ?_) s2.1
     rw[←hsz]
     simp[stepG,stepG.exec,choose,Sem.run,Question.forced,Question.cut,Region.schedule,hfol,Region.linearise]
end
def ZFd(f:AFrame):Option (List AOp×List (Nat×Nat)×List AItem):=
 match f.ret with
 |true=>none
 |false=>match f.todo with
  | .code (.reg (some fr) ops)::k=>(match ZqN fr with |true=>some (ops,fr,k) |false=>none)
  |_=>none
end Go.Proofs.YtjhldefnjghcdaaGreat
namespace Go.Proofs.YtjhldefnjghcdaaGreat
open Go.RowKit (Below)
inductive Sp where
 |fn |fm |hd |no
 |run (n:Nat) (k:Sp)
 |alt (p:List Bool) (k r:Sp)
 |any (k:Sp)
def Sp.tf(a b:Sp):Sp:=.alt [true] a (.alt [false] b .no)
def Sp.ty(a:Sp):Sp:=.alt [true] a .no
def Sp.fy(a:Sp):Sp:=.alt [false] a .no
def qB:List Bool→Prop→Prop→Prop
 |[],t,_=>t
 |b::l,t,d=>match b with |true=>qB l t d |false=>d
abbrev KT:=List AFrame×Zaa→Prop
abbrev FT:=AV→Option Fresh→Prop
abbrev MT:=AV→Nat→Nat→Row→Prop
def ZOQ(A:Ar)(fn:FuncId)(F:FT)(g:AFrame)(gs:List AFrame)(h:Zaa):Prop:=
 match gs with
 |_::_=>False
 |[]=>match g.ret&&Nat.beq g.fn fn with
  |false=>False
  |true=>match g.rnd with
   |some _=>False
   |none=>match g.defs with
    |_::_=>False
    |[]=>match Zuz A g.env h g.res with
     |none=>False
     |some (b,vs)=>match Zha h (ZhP vs)with
      |none=>False
      |some (r,fr)=>qB [b] (F r fr) False
def ZJH(A:Ar)(fn:FuncId)(M:MT)(g:AFrame)(gs:List AFrame)(h:Zaa):Prop:=
 match gs with
 |_::_=>False
 |[]=>match g.ret&&Nat.beq g.fn fn with
  |false=>False
  |true=>match g.rnd with
   |some _=>False
   |none=>match g.defs with
    |_::_=>False
    |[]=>match Zf6 A g.env h g.res with
     |none=>False
     |some (b,vs)=>match blk h 0 0 with
      | .row e sz y=>match ZCj (ZhP vs)&&y.pure with
        |true=>qB [b] (M (ZhP vs) e sz y) False
        |false=>False
      |_=>False
def ZLD:List (List Nat)→(List Nat→Prop)→Prop
 |[],_=>True
 |x::l,p=>p x∧ZLD l p
theorem Zs0{p:List Nat→Prop} :∀ {l:List (List Nat)},ZLD l p→∀x∈l,p x
 |_::_,h,_, .head _=>h.1
 |_::_,h,x, .tail _ hm=>Zs0 h.2 x hm
def ZFA:Nat→Prop→Prop
 |0,_=>True
 |n+1,t=>t∧ZFA n t
@[simp] theorem ZBG (t:Prop):∀n:Nat,ZFA (n+1) t=t
 |0=>by simp[ZFA]
 |n+1=>by
  have e:ZFA (n+1+1) t=(t∧ZFA (n+1) t):=rfl
  rw[e,ZBG t n,and_self]
def Zah(A:Ar)(T:Tab)(l:List Ctr)(fn:FuncId)(K:KT)(F:FT)(M:MT):Sp→List AFrame→Zaa→Prop
 | .no,_,_=>False
 | .hd,fs,h=>match ZLe fs h with |none=>False |some p=>K p
 | .fn,fs,h=>match fs with |[]=>False |g::gs=>ZOQ A fn F g gs h
 | .fm,fs,h=>match fs with |[]=>False |g::gs=>ZJH A fn M g gs h
 | .run n k,fs,h=>match fs with
   |[]=>False
   |f::fs=>match Zki A T l n [] [] f fs h with
    |none=>False
    |some (acc,f',fs',h')=>qB acc (Zah A T l fn K F M k (f'::fs') h') False
 | .alt p k r,fs,h=>match fs with
   |[]=>False
   |f::gs=>match Zzb A T l p [] f gs h with
    |none=>False
    |some (_,acc,f',fs',h')=>qB acc (Zah A T l fn K F M k (f'::fs') h') (Zah A T l fn K F M r (f::gs) h)
 | .any k,fs,h=>match fs with
   |[]=>False
   |f::gs=>match ZFd f with
    |none=>False
    |some (ops,fr,kk)=>ZLD (ZxK (fr.drop 1) ops.length (List.range ops.length)) fun σ=>Zah A T l fn K F M k ({ f with todo:=.inReg (ZEG ops σ)::kk } ::gs) h
theorem ZiO{l:List Bool}{t d:Prop}(h:qB l t d):((∀ b∈l,b=true)∧t)∨d:=by
 induction l with
 |nil=>exact .inl ⟨fun b hb=>(by cases hb),h⟩
 |cons b l ih=>
  cases b with
  |false=>exact .inr h
  |true=>rcases ih h with⟨h1,h2⟩ |h1
         ·exact .inl ⟨fun b hb=>(by rcases List.mem_cons.1 hb with rfl |e;rfl;exact h1 b e),h2⟩
         ·exact .inr h1
section
variable {C:Ctx}{T:Tab}{l:List Ctr}{fn:FuncId}{Q:List AFrame→Zaa→Prop}{K:KT}{F:FT}{M:MT}
theorem ZbI(hfol:C.P.follows .mixedOrders=true)(hT:ZbM C.P T)(hl:Zar C.P l)
 (hK:∀p,K p→Ev C p.1 p.2 Q) (hF:∀r fr,F r fr→∀fs h,ZaD fn r fr fs h→Q fs h) (hM:∀r e sz y,M r e sz y→∀fs h,ZRd fn e sz y r fs h→Q fs h):
 ∀(s:Sp) {fs:List AFrame} {h:Zaa},Zah std T l fn K F M s fs h→Ev C fs h Q
 | .no,fs,h,hg=>hg.elim
 | .hd,fs,h,hg=>by
   unfold Zah at hg
   split at hg
   ·exact hg.elim
   ·rename_i p hp
    obtain⟨gs,h2⟩:=p
    exact Zvr hp (hK _ hg)
 | .fn,fs,h,hg=>by
   unfold Zah at hg
   split at hg
   ·exact hg.elim
   ·rename_i g gs
    unfold ZOQ at hg
    split at hg
    ·exact hg.elim
    ·split at hg
     ·exact hg.elim
     ·rename_i hr
      simp only[Bool.and_eq_true]at hr
      split at hg
      ·exact hg.elim
      ·rename_i hn
       split at hg
       ·exact hg.elim
       ·rename_i hd
        split at hg
        ·exact hg.elim
        ·rename_i b vs hc
         split at hg
         ·exact hg.elim
         ·rename_i r fr hex
          rcases ZiO hg with⟨h1,h2⟩ |h1
          ·have hb1:b=true:=h1 b List.mem_cons_self
           subst hb1
           exact .now (by simp) (hF r fr h2 _ _ ⟨g,vs,rfl,Nat.eq_of_beq_eq_true hr.2,hr.1,hn,hd,hc,hex⟩)
          ·exact h1.elim
 | .fm,fs,h,hg=>by
   unfold Zah at hg
   split at hg
   ·exact hg.elim
   ·rename_i g gs
    unfold ZJH at hg
    split at hg
    ·exact hg.elim
    ·split at hg
     ·exact hg.elim
     ·rename_i hr
      simp only[Bool.and_eq_true]at hr
      split at hg
      ·exact hg.elim
      ·rename_i hn
       split at hg
       ·exact hg.elim
       ·rename_i hd
        split at hg
        ·exact hg.elim
        ·rename_i b vs hc
         split at hg
         ·rename_i e sz y hbk
          split at hg
          ·rename_i hp
           simp only[Bool.and_eq_true]at hp
           rcases ZiO hg with⟨h1,h2⟩ |h1
           ·have hb1:b=true:=h1 b List.mem_cons_self
            subst hb1
            exact .now (by simp) (hM _ e sz y h2 _ _ ⟨g,vs,rfl,Nat.eq_of_beq_eq_true hr.2,hr.1,hn,hd,hc,rfl,hp.1,hbk,hp.2⟩)
           ·exact h1.elim
          ·exact hg.elim
         ·exact hg.elim
 | .run n k,fs,h,hg=>by
   unfold Zah at hg
   split at hg
   ·exact hg.elim
   ·split at hg
    ·exact hg.elim
    ·rename_i acc f' fs' h' hs
     rcases ZiO hg with⟨h1,h2⟩ |h1
     ·exact(ZbS hfol hT hl n _ _ _ _ hs h1 (ZbI hfol hT hl hK hF hM k h2)).2
     ·exact h1.elim
 | .alt p k r,fs,h,hg=>by
   unfold Zah at hg
   split at hg
   ·exact hg.elim
   ·split at hg
    ·exact hg.elim
    ·rename_i pa' acc f' fs' h' hs
     rcases ZiO hg with⟨h1,h2⟩ |h1
     ·exact(Zj1 hfol hT hl _ _ _ _ _ hs h1 (ZbI hfol hT hl hK hF hM k h2)).2
     ·exact ZbI hfol hT hl hK hF hM r h1
 | .any k,fs,h,hg=>by
   unfold Zah at hg
   split at hg
   ·exact hg.elim
   ·rename_i f gs
    split at hg
    ·exact hg.elim
    ·rename_i ops fr kk ha
     unfold ZFd at ha
     split at ha
     ·cases ha
     ·rename_i hr
      split at ha
      ·rename_i fr' ops' kk' ht
       split at ha
       ·rename_i hany
        cases ha
        exact Zy0 hfol hany hr ht fun σ hσ=>ZbI hfol hT hl hK hF hM k (Zs0 hg σ hσ)
       ·cases ha
      ·cases ha
end
def bB(b:Bool)(t d:Prop):Prop:=qB [b] t (qB [!b] d False)
def rB(l:List Bool)(t:Prop):Prop:=qB l t False
@[simp] theorem ZPc (t d:Prop):qB [] t d=t:=rfl
@[simp] theorem ZO4 (a b:List AV):std.appA a b=a++b:=rfl
@[simp] theorem ZOZ (l:List AV) (j:Nat) (x:AV):std.setA l j x=l.set j x:=rfl
@[simp] theorem ZPg (l:List AV) (k n:Nat):std.subA l k n=(l.drop k).take n:=rfl
@[simp] theorem ZOD (n:Nat) (x:AV):std.repA n x=List.replicate n x:=rfl
@[simp] theorem Zw3 (b:Bool) (l:List Bool) (t d:Prop):qB (b::l) t d=if b=true then qB l t d else d:=by cases b<;>rfl
theorem Zr0:∀(l:List Bool) (t:Prop),qB l t False=(AllT l∧t)
 |[],t=>by simp[qB]
 |b::l,t=>by
  rw[Zw3,Zr0 l]
  cases b<;>simp
@[simp] theorem ZKw (b:Bool) (t d:Prop):bB b t d=if b=true then t else d:=by cases b<;>simp[bB,qB]
@[simp] theorem ZCV (l:List Bool) (t:Prop):rB l t=(AllT l∧t):=Zr0 l t
inductive Wk:AV→AV→Prop
 |nil (r:Row) (h:r.elems=[]):Wk .nils (.list r)
 |emp (r:Row) (h:r.elems=[]):Wk .emp (.list r)
 |same (v:AV):Wk v v
 |agg (xs ys:List AV) (hl:xs.length=ys.length) (h:∀(j:Nat) (x y:AV),xs[j]? =some x→ys[j]? =some y→Wk x y):Wk (.agg (.gen xs)) (.agg (.gen ys))
 |tup (xs ys:List AV) (hl:xs.length=ys.length) (h:∀(j:Nat) (x y:AV),xs[j]? =some x→ys[j]? =some y→Wk x y):Wk (.tup xs) (.tup ys)
def WkA:List AV→List AV→Prop
 |[],[]=>True
 |x::xs,y::ys=>Wk x y∧WkA xs ys
 |_,_=>False
theorem WkA.spec:∀ {xs ys:List AV},WkA xs ys→xs.length=ys.length∧∀(j:Nat) (x y:AV),xs[j]? =some x→ys[j]? =some y→Wk x y
 |[],[],_=>⟨rfl,fun j x y h=>by simp at h⟩
 |x::xs,y::ys,h=>by
  obtain⟨h1,h2⟩:=h
  obtain⟨e1,e2⟩:=WkA.spec h2
  refine⟨by simp[e1],fun j u v hu hv=>?_⟩
  cases j with
  |zero=>simp at hu hv;subst hu;subst hv;exact h1
  |succ j=>exact e2 j u v (by simpa using hu) (by simpa using hv)
theorem Wk.rel{w:World}{ok:Nat→Prop}{h:Zaa}{L:Lay}{v v':AV}(hw:Wk v v'):∀ {x:Value},Rel w ok h L v x→Rel w ok h L v' x:=by
 induction hw with
 |nil r h=>intro x hr;cases hr with |nils=>exact .nil r none 0 h
 |emp r h=>intro x hr;cases hr with |emp ad=>exact .nil r (some ad) 0 h
 |same=>intro x hr;exact hr
 |agg xs ys hl _ ih=>
  intro x hr
  cases hr with
  |agg _ xs' hx vs hlv h1 hrr=>
   have hx:xs=xs':=hx.symm
   subst hx
   refine .agg _ ys rfl vs (by rw[←hl];exact hlv) h1 (fun j u v hu hv=>?_)
   have hj:j<xs.length:=by rw[hl];exact(List.getElem?_eq_some_iff.1 hu).1
   exact ih j _ u (List.getElem?_eq_getElem hj) hu (hrr j _ v (List.getElem?_eq_getElem hj) hv)
 |tup xs ys hl _ ih=>
  intro x hr
  cases hr with
  |tup _ vs hlv hrr=>
   refine .tup ys vs (by rw[←hl];exact hlv) (fun j u v hu hv=>?_)
   have hj:j<xs.length:=by rw[hl];exact(List.getElem?_eq_some_iff.1 hu).1
   exact ih j _ u (List.getElem?_eq_getElem hj) hu (hrr j _ v (List.getElem?_eq_getElem hj) hv)
def Zk2(fn:FuncId)(r:AV)(fs:List AFrame)(h:Zaa):Prop:=∃r' r'' fr',Wk r' r''∧Frz fr' r'' r∧ZpK fr'=false∧ZaD fn r' fr' fs h
theorem ZBO{P:Program}{w w':World}{okA:Nat→Prop}{L':Lay}{fr:Option Fresh}(H:HRel (Ctx.of P w okA []) (Zat fr) L' w'){r r':AV}{x:Value}(hs:Frz fr r r')(hr:Zau (Ctx.of P w okA []) (Zat fr) L' w' r x):Zau (Ctx.of P w (fun _=>False) []) [] L' w' r' x:=by
 cases hs with
 |one hs=>exact Zi0 H hs hr
 |tup hs=>
  obtain⟨e1,e2⟩:=hs.spec
  cases hr with
  |tup xs vs hl hrr=>
   refine .tup _ vs (by rw[←e1];exact hl) (fun j u v hu hv=>?_)
   obtain⟨q,q1,q2⟩:=e2 j u hu
   exact Zi0 H q2 (hrr j q v q1 hv)
theorem Zqv{P:Program}{T:Tab}(hT:ZbM P T){f:FuncId}{args:List AV}{af:AFrame}{r:AV}(he:Zak T f args=some af)
 (hq:∀w okA cs,Ev (Ctx.of P w okA cs) [af] [] (Zk2 f r)):ZaK P f args r Zk4:=by
 intro w okA L vs hargs hok hG cs
 have H0:HRel (Ctx.of P w okA cs) [] L w:=⟨Below.refl _ _,fun _ _ ht=>absurd rfl ht.tag,fun _ _=>trivial,fun _ _ _ _ ht=>absurd rfl ht.tag,fun _ _ ht=>absurd rfl ht.tag,fun _ _ _=>rfl,Nat.le_refl _,hG⟩
 obtain⟨hfr,_⟩:=ZfK (C:=(Ctx.of P w okA cs)) (h:=[]) (L:=L) (w:=w) hT he (by
  refine⟨hargs.1,fun j u v hu hv=>(hargs.2 j u v hu hv).okmono (fun g hg ho=>.inl ⟨hok g ho,ho⟩)⟩)
 obtain⟨fs',h',L',fr',cs',w',⟨r',r'',fr,hwk,hfz,hnew,g,us,rfl,hfn,hret,hrnd,hdefs,hc,hex⟩,_,hf',H',hst,_⟩:=hq w okA cs L _ cs w (.cons hfr .base) H0 (by simp)
 cases hf' with
 |cons hf' hk=>
  cases hk
  obtain⟨fn,hfn',hmr⟩:=hf'.res hrnd
  obtain⟨vs0,hc0,hwl⟩:∃vs0,Zf6 std g.env h' g.res=some (true,vs0)∧Zcs std h' vs0=(true,us):=by
   unfold Zuz at hc
   split at hc
   ·rename_i b vs hq
    generalize hz:Zcs std h' vs=z at hc
    obtain⟨c,us'⟩:=z
    simp only[Option.some.injEq,Prod.mk.injEq,std_and]at hc
    obtain⟨⟨rfl,rfl⟩,rfl⟩:=hc
    exact⟨vs,hq,hz⟩
   ·cases hc
  obtain⟨x,e1,e2⟩:=Ze7 H' hf'.env hmr hc0
  replace e2:=ZnH H' hwl e2
  obtain⟨L2,H2,r2⟩:=Zip H' e2 hex
  refine⟨.returned x,w',fr',⟨x,L2,rfl,H2.below,ZBO ⟨H2.below,H2.live,H2.blks,H2.inj,H2.home,H2.low,H2.base,H2.good⟩ hfz (hwk.rel r2)⟩,hst,hf'.fn.trans hfn,?_⟩
  rcases hf'.mode with⟨_,hm⟩ |⟨e,_⟩
  ·refine⟨hm,?_,hf'.kind,fn,?_,e1⟩
   ·have e:=hf'.defs
    rw[hdefs]at e
    rw[e.nil_inv]
   ·rw[hf'.fn];exact hfn'
  ·rw[hret]at e;cases e
theorem ZyG{P:Program}{f:FuncId}{args:List AV}{r0:AV}{e sz:Nat}{r:Row}(h:ZaK P f args r0 none)(hb:bare r0=true)(hr:r.elems=[])(hsz:0<sz):ZaK P f args (.row 0 0) (some ⟨e,sz,r⟩):=by
 intro w okA L vs ha hok hG
 refine(h w okA L vs ha hok hG).mono ?_
 rintro e' w' ⟨v,L',he,hbl,hp⟩
 obtain⟨H,rr⟩:HRel (Ctx.of P w okA []) [] L' w'∧Zau (Ctx.of P w okA []) [] L' w' r0 v:=hp
 obtain⟨L2,s,H2,r2⟩:=Zcw H (fun _ _=>False) [] (fun _=>rfl) (fun _ _=>.inr ⟨fun e=>e,rfl⟩) (a:=0) (e:=e) hr hsz
 obtain⟨ad,hv⟩:=ZiP hb rr
 refine⟨v,L2,he,hbl,?_⟩
 have hn:ZpK (some ⟨e,sz,r⟩)=false:=by
  show Nat.beq sz 0=false
  cases hz:Nat.beq sz 0 with
  |false=>rfl
  |true=>have:=Nat.eq_of_beq_eq_true hz;omega
 unfold Zpe
 rw[hn]
 exact⟨H2,by rw[hv];exact r2 ad⟩
theorem Zza{P:Program}{f:FuncId}{args:List AV}{e sz:Nat}{r r':Row}(h:ZaK P f args (.row 0 0) (some ⟨e,sz,r⟩))(hsz:0<sz)(he:r'.elems=r.elems):ZaK P f args (.row 0 0) (some ⟨e,sz,r'⟩):=by
 intro w okA L vs ha hok hG
 refine(h w okA L vs ha hok hG).mono ?_
 rintro e' w' ⟨v,L',he',hbl,hp⟩
 have hn:∀r:Row,ZpK (some ⟨e,sz,r⟩)=false:=fun r=>by
  show Nat.beq sz 0=false
  cases hz:Nat.beq sz 0 with
  |false=>rfl
  |true=>have:=Nat.eq_of_beq_eq_true hz;omega
 unfold Zpe at hp
 rw[hn]at hp
 obtain⟨H,rr⟩:=hp
 obtain⟨s,H2⟩:=H.same (a:=0) (j:=0) (e:=e) (sz:=sz) (r:=r) (r':=r') rfl he
 refine⟨v,L',he',hbl,?_⟩
 unfold Zpe
 rw[hn]
 exact⟨H2,rr.step s⟩
end Go.Proofs.YtjhldefnjghcdaaGreat
namespace Go.Proofs.YtjhldefnjghcdaaGreat
def E0:List Ctr:=[]
theorem ZyP:Zar Tryz.prog E0:=trivial
section
variable {C:Ctx}{K:List Ctr}{n:Nat}{pa acc:List Bool}{fs gs:List AFrame}{h h':Zaa}{Q:List AFrame→Zaa→Prop}
theorem go(hC:C.P=Tryz.prog)(hK:Zar Tryz.prog K)(hw:Zvg std tab K n pa fs h=some (acc,gs,h'))(hb:AllT acc)(hq:Ev C gs h' Q):Ev C fs h Q:=ZMu (by rw[hC];exact follows) (by rw[hC];exact Zb5) (by rw[hC];exact hK) hw hb hq
theorem fin(hC:C.P=Tryz.prog)(hK:Zar Tryz.prog K){fn:FuncId}{r r':AV}{fr fr':Option Fresh}(hw:ZLY std tab K n pa fn fs h=some (acc,r',fr'))(hb:AllT acc)(hr:r'=r)(hfr:fr'=fr):Ev C fs h (ZaD fn r fr):=ZIK (by rw[hC];exact follows) (by rw[hC];exact Zb5) (by rw[hC];exact hK) hw hb hr hfr
theorem start{fn:FuncId}{args:List AV}{af:AFrame}{r:AV}{fr:Option Fresh}(he:Zak tab fn args=some af)(hq:∀C:Ctx,C.P=Tryz.prog→Ev C [af] [] (ZaD fn r fr)):ZaK Tryz.prog fn args r fr:=Zm9 Zb5 he fun _ _ _=>hq _ rfl
theorem tgo(hC:C.P=Tryz.prog)(hK:Zar Tryz.prog K){fn:FuncId}{r:AV}{fr:Option Fresh}{s:Sp}{X:Prop}(he:Zah std tab K fn (fun p=>Ev C p.1 p.2 (ZaD fn r fr)) (fun r' fr'=>r'=r∧fr'=fr) (fun _ _ _ _=>False) s fs h=X)(hx:X):Ev C fs h (ZaD fn r fr):=
 ZbI (K:=fun p=>Ev C p.1 p.2 (ZaD fn r fr)) (F:=fun r' fr'=>r'=r∧fr'=fr) (M:=fun _ _ _ _=>False) (by rw[hC];exact follows) (by rw[hC];exact Zb5) (by rw[hC];exact hK) (fun _ h=>h) (fun r' fr' h _ _ hf=>by obtain⟨rfl,rfl⟩:=h;exact hf) (fun _ _ _ _ h=>h.elim) s (by rw[he];exact hx)
theorem Zfo(hC:C.P=Tryz.prog)(hK:Zar Tryz.prog K){fn:FuncId}{r:AV}{s:Sp}{X:Prop}(he:Zah std tab K fn (fun p=>Ev C p.1 p.2 (Zk2 fn r)) (fun r' fr'=>∃r'',Wk r' r''∧Frz fr' r'' r∧ZpK fr'=false) (fun _ _ _ _=>False) s fs h=X)(hx:X):Ev C fs h (Zk2 fn r):=
 ZbI (K:=fun p=>Ev C p.1 p.2 (Zk2 fn r)) (F:=fun r' fr'=>∃r'',Wk r' r''∧Frz fr' r'' r∧ZpK fr'=false) (M:=fun _ _ _ _=>False) (by rw[hC];exact follows) (by rw[hC];exact Zb5) (by rw[hC];exact hK) (fun _ h=>h) (fun r' fr' h _ _ hf=>by obtain⟨r'',h1,h2,h3⟩:=h;exact⟨r',r'',fr',h1,h2,h3,hf⟩) (fun _ _ _ _ h=>h.elim) s (by rw[he];exact hx)
theorem ZpE{fn:FuncId}{args:List AV}{af:AFrame}{r:AV}(he:Zak tab fn args=some af)(hq:∀C:Ctx,C.P=Tryz.prog→Ev C [af] [] (Zk2 fn r)):ZaK Tryz.prog fn args r Zk4:=Zqv Zb5 he fun _ _ _=>hq _ rfl
end
theorem Zvu{f:FuncId}{args:List AV}{e sz:Nat}{r:Row}(h:ZaK Tryz.prog f args (.row 0 0) (some ⟨e,sz+1,r⟩))(hp:r.pure=true)(hs:r.solid=true):ZaK Tryz.prog f args (.list r) Zk4:=
 Zoe h rfl (.one (.row _ rfl hp hs))
theorem Rel.same{w:World}{ok:Nat→Prop}{h:Zaa}{L:Lay}{r r':Row}{v:Value}(he:r.elems=r'.elems)(hr:Rel w ok h L (.list r) v):Rel w ok h L (.list r') v:=by
 cases hr with
 |nil _ a c h0=>exact .nil _ a c (he▸h0)
 |list _ xs hx ad n cap sz cs hb hok hn hcap hsz hl h1 hc hp hrr=>exact .list r' xs (hx.trans he) ad n cap sz cs hb hok hn hcap hsz hl h1 hc hp hrr
theorem Ztr{f:FuncId}{r:Row}{x:AV}{fr:Option Fresh}(he:r.elems=[])(h:∀ad cap,ZaK Tryz.prog f [.val (.slice ad 0 cap)] x fr):ZaK Tryz.prog f [.list r] x fr:=by
 intro w okA L vs hargs hok hG
 obtain⟨h1,h2⟩:=hargs
 obtain⟨l⟩:=vs
 match l,h1 with
 |[v0],_=>
  have r0:=h2 0 _ _ rfl rfl
  obtain⟨ad,cap,rfl⟩:∃ad cap,v0=.slice ad 0 cap:=by
   cases r0 with
   |nil _ a c _=>exact⟨a,c,rfl⟩
   |list _ xs hx ad n cap sz cs hbb hok hn=>rw[he]at hx;subst hx;exact⟨some ad,cap,by rw[hn];rfl⟩
  exact h ad cap w okA L _ (RelL.cons (.val _) RelL.nil) hok hG
inductive Wk1:AV→AV→Prop
 |nil (r:Row) (h:r.elems=[]):Wk1 .nils (.list r)
 |same (v:AV):Wk1 v v
def WkL:List AV→List AV→Prop
 |[],[]=>True
 |x::xs,y::ys=>Wk1 x y∧WkL xs ys
 |_,_=>False
theorem WkL.spec:∀ {xs ys:List AV},WkL xs ys→xs.length=ys.length∧∀(j:Nat) (y:AV),ys[j]? =some y→∃x,xs[j]? =some x∧Wk1 x y
 |[],[],_=>⟨rfl,fun j y h=>by simp at h⟩
 |x::xs,y::ys,h=>by
  obtain⟨h1,h2⟩:=h
  obtain⟨e1,e2⟩:=WkL.spec h2
  refine⟨by simp[e1],fun j z hz=>?_⟩
  cases j with
  |zero=>simp at hz;subst hz;exact⟨x,rfl,h1⟩
  |succ j=>obtain⟨q,q1,q2⟩:=e2 j z (by simpa using hz);exact⟨q,by simpa using q1,q2⟩
theorem Wk1.rel{w:World}{ok:Nat→Prop}{h:Zaa}{L:Lay}{v v':AV}{x:Value}(hw:Wk1 v v')(hr:Rel w ok h L v x):Rel w ok h L v' x:=by
 cases hw with
 |nil r h=>cases hr with |nils=>exact .nil r none 0 h
 |same=>exact hr
def vI(t:Nat)(n:Int):Nat×AV:=(t,.int .i64 n)
def vL(t:Nat)(l:zI):Nat×AV:=(t,.list (.ints .i64 l))
def vR(t a:Nat):Nat×AV:=(t,.row a 0)
def vP(t a:Nat):Nat×AV:=(t,.ptr a 0 0 0)
def vB(t:Nat)(b:Bool):Nat×AV:=(t,.bool b)
def vK(a:Nat)(l:zI):Nat×Fam:=(a,{ base:=0,blks:=[.row 3 1 (.ints .i64 l)] })
def vG(a:Nat)(v:AV):Nat×Fam:=(a,{ base:=0,blks:=[.row 3 1 (.gen [v])] })
def vF(f n:Nat)(e:List (Nat×AV))(t:List AItem)(r:List ARes):AFrame:=⟨f,n,e,t,[],none,false,r⟩
def vC(c:ACode)(t:List AItem):List AItem:=.code (.gh [] c)::t
end Go.Proofs.YtjhldefnjghcdaaGreat
