/- Regions of which every order is looked at: a run in all of their orders. No condition. -/
import Derived.Test.YtkeoeooghhjibaaGreatDoorYc
namespace Go.Proofs.YtkeoeooghhjibaaGreatDoor
open Go.RowKit (Below)
def ZG5(es:List (Nat×Nat))(left:List Nat)(i:Nat):Bool:=es.all fun e=>match Nat.beq e.2 i with |true=>left.all (fun j=>!Nat.beq j e.1) |false=>true
def Zti(es:List (Nat×Nat)):Nat→List Nat→List (List Nat)
 |0,_=>[[]]
 |n+1,left=>(left.filter (ZG5 es left)).flatMap fun i=>(Zti es n (left.filter fun j=>!Nat.beq j i)).map (i:: ·)
def ZyC(aos:List AOp):List Nat→List AOp
 |[]=>[]
 |i::σ=>match aos[i]? with |some o=>o::ZyC aos σ |none=>ZyC aos σ
theorem Zsk{es:List (Nat×Nat)}{m:Nat} :∀(n:Nat) (left:List Nat),(∀i∈left,i<m)→∀σ∈Zti es n left,∀i∈σ,i<m
 |0,_,_,σ,hσ,i,hi=>by simp only[Zti,List.mem_singleton]at hσ;subst hσ;cases hi
 |n+1,left,hl,σ,hσ,i,hi=>by
  simp only[Zti,List.mem_flatMap,List.mem_filter,List.mem_map]at hσ
  obtain⟨j,⟨hj,_⟩,τ,hτ,rfl⟩:=hσ
  rcases List.mem_cons.1 hi with rfl |hi
  ·exact hl _ hj
  ·exact Zsk n _ (fun q hq=>hl q (List.mem_filter.1 hq).1) τ hτ i hi
theorem Zo5{P:Program}{N:Nat}{opl:List Oper}{aos:List AOp}(hm:Zer P N opl opl aos=true):∀(σ:List Nat),(∀i∈σ,i<opl.length)→ZAb P N opl σ (ZyC aos σ)
 |[],_=>trivial
 |i::σ,h=>by
  obtain⟨h1,h2⟩:=Zdc hm
  have hi:=h i (by simp)
  have hia:i<aos.length:=by omega
  simp only[ZyC,List.getElem?_eq_getElem hia]
  exact⟨⟨opl[i],List.getElem?_eq_getElem hi,h2 i _ _ (List.getElem?_eq_getElem hi) (List.getElem?_eq_getElem hia)⟩,Zo5 hm σ (fun j hj=>h j (by simp[hj]))⟩
theorem ZrJ{ops:List Oper}{es:List (Nat×Nat)}(hlin:∀(j:Nat) (o:Oper),ops[j]? =some o→∀e∈o.after,Region.binds .any e=true→e.on<0+j)(hes:∀e∈es,Waits ops.toArray e.2 e.1):
 ∀(fuel t:Nat) (listed:Array Bool),listed.size=ops.length→Downed ops.toArray listed→((List.range ops.length).filter fun i=>!listed.getD i true).length=fuel→
  Region.linearise.go .any ops.toArray fuel t listed []∈Zti es fuel ((List.range ops.length).filter fun i=>!listed.getD i true)
 |0,t,listed,hls,hdn,hf=>by simp[Region.linearise.go,Zti]
 |fuel+1,t,listed,hls,hdn,hf=>by
  have hne:Region.ready .any ops.toArray listed≠[]:=by
   have:∃i,i<ops.length∧listed.getD i true=false:=by
    cases hff:(List.range ops.length).filter fun i=>!listed.getD i true with
    |nil=>rw[hff]at hf;simp at hf
    |cons i r=>
     have hi:i∈(List.range ops.length).filter fun i=>!listed.getD i true:=by rw[hff];simp
     simp only[List.mem_filter,List.mem_range,Bool.not_eq_true']at hi
     exact⟨i,hi⟩
   obtain⟨i,hi⟩:=this
   obtain⟨m,⟨h1,h2⟩,h3⟩:=ZjZ (p:=fun i=>i<ops.length∧listed.getD i true=false) i hi
   intro hnil
   have hmr:m∈Region.ready .any ops.toArray listed:=mem_ready.2 ⟨h2,ops[m],by simp[h1],fun e hee hb=>by
    have hlt:=hlin m ops[m] (by simp[h1]) e hee hb
    have h4:=h3 e.on (by omega)
    have h5:¬listed.getD e.on true=false:=fun h6=>h4 ⟨by omega,h6⟩
    rw[unl]at h5
    have h6:e.on<listed.size:=by omega
    simpa using(fun h7=>h5 ⟨h6,h7⟩:¬listed.getD e.on false=false)⟩
   rw[hnil]at hmr;cases hmr
  have hlt:t%(Region.ready .any ops.toArray listed).length<(Region.ready .any ops.toArray listed).length:=Nat.mod_lt _ (List.length_pos_iff.2 hne)
  generalize hi:(Region.ready .any ops.toArray listed)[t%(Region.ready .any ops.toArray listed).length]=i
  have hgi:(Region.ready .any ops.toArray listed)[t%(Region.ready .any ops.toArray listed).length]? =some i:=by rw[List.getElem?_eq_getElem hlt,hi]
  have hir:i∈Region.ready .any ops.toArray listed:=List.mem_of_getElem? hgi
  obtain⟨hun,op,hop,hall⟩:=mem_ready.1 hir
  have hop:ops[i]? =some op:=by simpa using hop
  have hil:i<ops.length:=(List.getElem?_eq_some_iff.1 hop).1
  have hgo:Region.linearise.go .any ops.toArray (fuel+1) t listed []=i::Region.linearise.go .any ops.toArray fuel (t/(Region.ready .any ops.toArray listed).length) (listed.setIfInBounds i true) []:=by
   simp only[Region.linearise.go]
   change (match (Region.ready .any ops.toArray listed)[t%(Region.ready .any ops.toArray listed).length]? with
    |some i=>Region.linearise.go .any ops.toArray fuel (t/(Region.ready .any ops.toArray listed).length) (listed.setIfInBounds i true) [i]
    |none=>[].reverse)=_
   rw[hgi]
   dsimp only
   rw[linearise_go_acc,List.reverse_singleton,List.singleton_append]
  have hleft:((List.range ops.length).filter fun j=>!(listed.setIfInBounds i true).getD j true)=((List.range ops.length).filter fun j=>!listed.getD j true).filter fun j=>!Nat.beq j i:=by
   rw[List.filter_filter]
   apply List.filter_congr
   intro j hj
   by_cases hji:j=i
   ·subst hji
    have e1:(listed.setIfInBounds j true).getD j true=true:=by simp[show j<listed.size by omega]
    rw[e1];simp
   ·rw[getD_set_ne true (Ne.symm hji)]
    have e2:Nat.beq j i=false:=by
     cases h:Nat.beq j i with
     |false=>rfl
     |true=>exact absurd (Nat.eq_of_beq_eq_true h) hji
    rw[e2];simp
  have hmem:i∈(List.range ops.length).filter fun j=>!listed.getD j true:=by simp only[List.mem_filter,List.mem_range,Bool.not_eq_true'];exact⟨hil,hun⟩
  have hf':((List.range ops.length).filter fun j=>!(listed.setIfInBounds i true).getD j true).length=fuel:=by
   have hsplit:=ZiC hil
   have hset:∀j,j≠i→(listed.setIfInBounds i true).getD j true=listed.getD j true:=fun j hj=>getD_set_ne true (Ne.symm hj)
   have hseti:(listed.setIfInBounds i true).getD i true=true:=by simp[show i<listed.size by omega]
   have hf1:((List.range i).filter fun j=>!(listed.setIfInBounds i true).getD j true)=(List.range i).filter fun j=>!listed.getD j true:=by
    apply List.filter_congr
    intro j hj
    have:j<i:=by simpa using hj
    rw[hset j (by omega)]
   have hf2:(((List.range ops.length).drop (i+1)).filter fun j=>!(listed.setIfInBounds i true).getD j true)=((List.range ops.length).drop (i+1)).filter fun j=>!listed.getD j true:=by
    apply List.filter_congr
    intro j hj
    obtain⟨q,hq⟩:=List.mem_iff_getElem?.1 hj
    rw[List.getElem?_drop]at hq
    have hqj:j=i+1+q:=by
     have:=(List.getElem?_eq_some_iff.1 hq).2
     simpa using this.symm
    rw[hset j (by omega)]
   rw[hsplit,List.filter_append,List.filter_cons,if_pos (by simp[hun]),List.length_append,List.length_cons]at hf
   rw[hsplit,List.filter_append,List.filter_cons,if_neg (by simp[hseti]),hf1,hf2,List.length_append]
   omega
  have ih:=ZrJ hlin hes fuel (t/(Region.ready .any ops.toArray listed).length) (listed.setIfInBounds i true) (by simpa using hls) (hdn.add hir) hf'
  rw[hgo]
  simp only[Zti,List.mem_flatMap,List.mem_map]
  refine⟨i,?_,_,by rw[←hleft];exact ih,rfl⟩
  rw[List.mem_filter]
  refine⟨hmem,List.all_eq_true.2 fun e he=>?_⟩
  split
  ·rename_i h2
   have h2:=Nat.eq_of_beq_eq_true h2
   have hw:=hes e he
   rw[h2]at hw
   have h3:=ZdD hdn hw hir
   refine List.all_eq_true.2 fun j hj=>?_
   simp only[List.mem_filter,List.mem_range,Bool.not_eq_true']at hj
   cases hb:Nat.beq j e.1 with
   |false=>rfl
   |true=>
    have hb:=Nat.eq_of_beq_eq_true hb
    rw[hb]at hj
    rw[(unl.1 hj.2).2]at h3;cases h3
  ·rfl
section
variable {C:Ctx}{h h':Zaa}{L L':Lay}{w w':World}{Q:List AFrame→Zaa→Prop}{f:AFrame}{fs:List AFrame}{k:List AItem}
theorem ZoK{fr:List (Nat×Nat)}{ops:List AOp}(hfol:C.P.follows .mixedOrders=true)(hany:Znj fr=true)(hr:f.ret=false)(ht:f.todo=.code (.reg (some fr) ops)::k)
 (hq:∀σ∈Zti (fr.drop 1) ops.length (List.range ops.length),Ev C ({ f with todo:=.inReg (ZyC ops σ)::k } ::fs) h Q):Ev C (f::fs) h Q:=by
 intro L fr' cs w hf H _
 cases hf with
 |cons hf hk=>
  rcases hf.mode with⟨e,_⟩ |⟨_,hm,hi⟩
  ·rw[hr]at e;cases e
  ·rw[ht]at hi
   obtain⟨fn,tmps,todo,defers,mode,kind,rnd⟩:=fr'
   cases hi with
   |cons hx hki=>
    cases hx with
    |code _ c hmc=>
     dsimp only at hm;subst hm
     cases c<;>simp only[Za9,Bool.false_eq_true,Bool.and_eq_true,beq_iff_eq]at hmc
     rename_i l id ops' draw
     obtain⟨⟨rfl,hmc⟩,hdr⟩:=hmc
     obtain⟨hlen0,_⟩:=Zdc hmc
     simp only[ZoX,hany,Bool.and_eq_true]at hdr
     obtain⟨hlin,hes⟩:=hdr
     have hlin:=ZgQ ops'.toList 0 hlin
     have hcl:=Zhf ops'.toList ops'.toList [] (by simp) (fun j i hi=>by simp at hi)
     have hes:∀e∈fr.drop 1,Waits ops'.toList.toArray e.2 e.1:=fun e he=>hcl _ _ (by simpa using List.all_eq_true.1 hes e he)
     obtain⟨s0,H0⟩:=H.grow (w':=w.drew) ((Below.refl _ _).drew)
     have hall:((List.range ops'.toList.length).filter fun i=>!(Array.replicate ops'.size false).getD i true)=List.range ops'.toList.length:=by
      apply List.filter_eq_self.2
      intro i hi
      have:i<ops'.size:=by simpa using hi
      simp[this]
     have hgo:=ZrJ hlin hes ops'.size (w.tape w.drawn (.order fn id)) (Array.replicate ops'.size false) (by simp) (fun j o hj hl=>by
      rcases Nat.lt_or_ge j ops'.size with h1 |h1
      ·simp[h1]at hl
      ·simp[Array.getElem?_eq_none (show (Array.replicate ops'.size false).size≤j by simpa using h1)]at hl) (by rw[hall];simp)
     rw[hall]at hgo
     have hsz:ops'.size=ops.length:=by rw[←hlen0];simp
     have hgo2:=hgo
     rw[hlen0]at hgo2
     rw[hsz]at hgo2
     have hf0:=hf.step s0
     obtain⟨fs2,h2',L2,fr2,cs2,w2,q2,n2,a2,b2,s2⟩:=hq _ hgo2 L { fn,tmps,todo:=.inRegion ops'.toList.toArray (Region.linearise.go .any ops'.toList.toArray ops.length (w.tape w.drawn (.order fn id)) (Array.replicate ops.length false) [])::l,defers,mode:=.run,kind,roundOf:=rnd } cs w.drew
      (.cons ⟨hf0.fn,hf.size,hf0.env,hf0.kind,hf0.defs,hf0.rnd, .inr ⟨hr,rfl, .cons (.inReg ops'.toList _ _ (Zo5 hmc _ (fun i hi=>Zsk _ _ (fun j hj=>by simpa[hlen0]using hj) _ hgo2 i hi))) (hki.step s0)⟩,hf0.res⟩ (hk.step s0)) H0 (by simp)
     refine⟨fs2,h2',L2,fr2,cs2,w2,q2,n2,a2,b2,?_,(Fr.of s0).trans s2.2⟩
     refine Steps.trans (go1 ?_) s2.1
     rw[←hsz]
     simp[stepG,stepG.exec,choose,Sem.run,Question.forced,Question.cut,Region.schedule,hfol,Region.linearise]
end
def ZFv:Option Fresh→Option Fresh→Bool
 |none,none=>true
 |some x,some y=>match Nat.beq x.e y.e with |true=>(match Nat.beq x.sz y.sz with |true=>Zrh (eqA 8) x.r y.r |false=>false) |false=>false
 |_,_=>false
theorem Zw5{x y:Option Fresh}(h:ZFv x y=true):x=y:=by
 cases x<;>cases y<;>simp only[ZFv,Bool.false_eq_true]at h
 ·rfl
 ·rename_i x y
  split at h
  ·rename_i e1
   split at h
   ·rename_i e2
    obtain⟨a,b,c⟩:=x;obtain⟨a',b',c'⟩:=y
    have:=Nat.eq_of_beq_eq_true e1;have:=Nat.eq_of_beq_eq_true e2;have:=ZlD (fun _ _ e=>Znh e) h
    simp_all
   ·cases h
  ·cases h
def ZtQ(f:AFrame):Option (List AOp×List (Nat×Nat)×List AItem):=
 match f.ret with
 |true=>none
 |false=>match f.todo with
  | .code (.reg (some fr) ops)::k=>(match Znj fr with |true=>some (ops,fr,k) |false=>none)
  |_=>none
def okT(A:Ar)(T:Tab)(K:Con)(n:Nat)(g:FuncId)(r:AV)(fr:Option Fresh):Nat→AFrame→List AFrame→Zaa→Bool
 |0,_,_,_=>false
 |d+1,f,fs,h=>match ZmS A T K n [] f fs h with
  |(acc,f',fs',h')=>match ZtQ f' with
   |some (ops,es,k)=>(match acc.all (fun b=>b)with
    |true=>(Zti (es.drop 1) ops.length (List.range ops.length)).all fun σ=>okT A T K n g r fr d { f' with todo:=.inReg (ZyC ops σ)::k } fs' h'
    |false=>false)
   |none=>match ZE8 A g (acc,f',fs',h')with
    |some (b,r',fr')=>(match b with |true=>(match eqA 8 r' r with |true=>ZFv fr' fr |false=>false) |false=>false)
    |none=>false
theorem Znc{T:Tab}{K:Con}{C:Ctx}{n:Nat}{g:FuncId}{r:AV}{fr:Option Fresh}(hfol:C.P.follows .mixedOrders=true)(hT:ZbE C.P T)(hK:Zhe C.P K):
 ∀(d:Nat) {f:AFrame} {fs:List AFrame} {h:Zaa},okT std T K n g r fr d f fs h=true→Ev C (f::fs) h (ZbH g r fr)
 |0,_,_,_,h=>by cases h
 |d+1,f,fs,h,ho=>by
  rw[okT]at ho
  generalize hs:ZmS std T K n [] f fs h=s at ho
  obtain⟨acc,f',fs',h'⟩:=s
  have go:(∀b∈acc,b=true)→Ev C (f'::fs') h' (ZbH g r fr)→Ev C (f::fs) h (ZbH g r fr):=fun hb hq=>(ZfA hfol hT hK n _ _ _ _ (by rw[hs]) hb hq).2
  dsimp only at ho
  split at ho
  ·rename_i ops es k hany
   split at ho
   ·rename_i hacc
    refine go (fun b hb=>by have:=List.all_eq_true.1 hacc b hb;simpa using this) ?_
    have hr:f'.ret=false∧f'.todo=.code (.reg (some es) ops)::k∧Znj es=true:=by
     unfold ZtQ at hany
     split at hany
     ·cases hany
     ·rename_i hret
      split at hany
      ·rename_i fr1 ops1 k1 htodo
       split at hany
       ·rename_i hi
        simp only[Option.some.injEq,Prod.mk.injEq]at hany
        obtain⟨rfl,rfl,rfl⟩:=hany
        exact⟨hret,htodo,hi⟩
       ·cases hany
      ·cases hany
    exact ZoK hfol hr.2.2 hr.1 hr.2.1 (fun σ hσ=>Znc hfol hT hK d (List.all_eq_true.1 ho σ hσ))
   ·cases ho
  ·split at ho
   ·rename_i b r' fr' hfin
    split at ho
    ·split at ho
     ·rename_i e1
      have e1:=Znh e1
      have e2:=Zw5 ho
      subst e1;subst e2
      obtain⟨acc2,g2,h2,hs2,hacc,hq⟩:=Zmq hfin
      simp only[Prod.mk.injEq]at hs2
      obtain⟨rfl,rfl,rfl,rfl⟩:=hs2
      exact go (fun b hb=>by have:=List.all_eq_true.1 hacc b hb;simpa using this) (.now (by simp) hq)
     ·cases ho
    ·cases ho
   ·cases ho
def ZDm(A:Ar)(T:Tab)(K:Con)(n d:Nat)(f:FuncId)(args:List AV)(r:AV)(fr:Option Fresh):Bool:=
 match ZaB T f args with
 |none=>false
 |some af=>okT A T K n f r fr d af [] []
theorem Zph{P:Program}{T:Tab}(hfol:P.follows .mixedOrders=true)(hT:ZbE P T){l:List Fact}(hl:ZlZ P l){n d:Nat}{f:FuncId}{args:List AV}{r:AV}{fr:Option Fresh}
 (h:ZDm Zp4 T (Zz3 l) n d f args r fr=true):Zat P f args r fr:=by
 rw[ZpA]at h
 unfold ZDm at h
 split at h
 ·cases h
 ·rename_i af haf
  exact Zg9 hT haf (fun w okA cs=>Znc (C:=Ctx.of P w okA cs) hfol hT (Zlc hl) d h)
end Go.Proofs.YtkeoeooghhjibaaGreatDoor
/- Runs at letters as trees: one theorem for all ways out of a head. No condition. -/
namespace Go.Proofs.YtkeoeooghhjibaaGreatDoor
open Go.RowKit (Below)
inductive Sp where
 |fn |fm |hd |no
 |run (n:Nat) (k:Sp)
 |alt (p:List Bool) (k r:Sp)
 |any (k:Sp)
def Sp.tf(a b:Sp):Sp:=.alt [true] a (.alt [false] b .no)
def Sp.ty(a:Sp):Sp:=.alt [true] a .no
def Sp.fy(a:Sp):Sp:=.alt [false] a .no
def qB:List Bool→Prop→Prop→Prop
 |[],t,_=>t
 |b::l,t,d=>match b with |true=>qB l t d |false=>d
abbrev KT:=List AFrame×Zaa→Prop
abbrev FT:=AV→Option Fresh→Prop
abbrev MT:=AV→Nat→Nat→Row→Prop
def ZH2(A:Ar)(fn:FuncId)(F:FT)(g:AFrame)(gs:List AFrame)(h:Zaa):Prop:=
 match gs with
 |_::_=>False
 |[]=>match g.ret&&Nat.beq g.fn fn with
  |false=>False
  |true=>match g.rnd with
   |some _=>False
   |none=>match g.defs with
    |_::_=>False
    |[]=>match Znw A g.env h g.res with
     |none=>False
     |some (b,vs)=>match Zg7 h (Zgi vs)with
      |none=>False
      |some (r,fr)=>qB [b] (F r fr) False
def ZDn(A:Ar)(fn:FuncId)(M:MT)(g:AFrame)(gs:List AFrame)(h:Zaa):Prop:=
 match gs with
 |_::_=>False
 |[]=>match g.ret&&Nat.beq g.fn fn with
  |false=>False
  |true=>match g.rnd with
   |some _=>False
   |none=>match g.defs with
    |_::_=>False
    |[]=>match Zfq A g.env h g.res with
     |none=>False
     |some (b,vs)=>match blk h 0 0 with
      | .row e sz y=>match ZzK (Zgi vs)&&y.pure with
        |true=>qB [b] (M (Zgi vs) e sz y) False
        |false=>False
      |_=>False
def ZFT:List (List Nat)→(List Nat→Prop)→Prop
 |[],_=>True
 |x::l,p=>p x∧ZFT l p
theorem Zo0{p:List Nat→Prop} :∀ {l:List (List Nat)},ZFT l p→∀x∈l,p x
 |_::_,h,_, .head _=>h.1
 |_::_,h,x, .tail _ hm=>Zo0 h.2 x hm
def ZA7:Nat→Prop→Prop
 |0,_=>True
 |n+1,t=>t∧ZA7 n t
@[simp] theorem Zwr (t:Prop):∀n:Nat,ZA7 (n+1) t=t
 |0=>by simp[ZA7]
 |n+1=>by
  have e:ZA7 (n+1+1) t=(t∧ZA7 (n+1) t):=rfl
  rw[e,Zwr t n,and_self]
def ZaG(A:Ar)(T:Tab)(l:List Ctr)(fn:FuncId)(K:KT)(F:FT)(M:MT):Sp→List AFrame→Zaa→Prop
 | .no,_,_=>False
 | .hd,fs,h=>match ZE6 fs h with |none=>False |some p=>K p
 | .fn,fs,h=>match fs with |[]=>False |g::gs=>ZH2 A fn F g gs h
 | .fm,fs,h=>match fs with |[]=>False |g::gs=>ZDn A fn M g gs h
 | .run n k,fs,h=>match fs with
   |[]=>False
   |f::fs=>match Zjc A T l n [] [] f fs h with
    |none=>False
    |some (acc,f',fs',h')=>qB acc (ZaG A T l fn K F M k (f'::fs') h') False
 | .alt p k r,fs,h=>match fs with
   |[]=>False
   |f::gs=>match Zuc A T l p [] f gs h with
    |none=>False
    |some (_,acc,f',fs',h')=>qB acc (ZaG A T l fn K F M k (f'::fs') h') (ZaG A T l fn K F M r (f::gs) h)
 | .any k,fs,h=>match fs with
   |[]=>False
   |f::gs=>match ZtQ f with
    |none=>False
    |some (ops,fr,kk)=>ZFT (Zti (fr.drop 1) ops.length (List.range ops.length)) fun σ=>ZaG A T l fn K F M k ({ f with todo:=.inReg (ZyC ops σ)::kk } ::gs) h
theorem Zij{l:List Bool}{t d:Prop}(h:qB l t d):((∀ b∈l,b=true)∧t)∨d:=by
 induction l with
 |nil=>exact .inl ⟨fun b hb=>(by cases hb),h⟩
 |cons b l ih=>
  cases b with
  |false=>exact .inr h
  |true=>rcases ih h with⟨h1,h2⟩ |h1
         ·exact .inl ⟨fun b hb=>(by rcases List.mem_cons.1 hb with rfl |e;rfl;exact h1 b e),h2⟩
         ·exact .inr h1
section
variable {C:Ctx}{T:Tab}{l:List Ctr}{fn:FuncId}{Q:List AFrame→Zaa→Prop}{K:KT}{F:FT}{M:MT}
theorem Zbu(hfol:C.P.follows .mixedOrders=true)(hT:ZbE C.P T)(hl:Zaw C.P l)
 (hK:∀p,K p→Ev C p.1 p.2 Q) (hF:∀r fr,F r fr→∀fs h,ZbH fn r fr fs h→Q fs h) (hM:∀r e sz y,M r e sz y→∀fs h,ZKE fn e sz y r fs h→Q fs h):
 ∀(s:Sp) {fs:List AFrame} {h:Zaa},ZaG std T l fn K F M s fs h→Ev C fs h Q
 | .no,fs,h,hg=>hg.elim
 | .hd,fs,h,hg=>by
   unfold ZaG at hg
   split at hg
   ·exact hg.elim
   ·rename_i p hp
    obtain⟨gs,h2⟩:=p
    exact ZsL hp (hK _ hg)
 | .fn,fs,h,hg=>by
   unfold ZaG at hg
   split at hg
   ·exact hg.elim
   ·rename_i g gs
    unfold ZH2 at hg
    split at hg
    ·exact hg.elim
    ·split at hg
     ·exact hg.elim
     ·rename_i hr
      simp only[Bool.and_eq_true]at hr
      split at hg
      ·exact hg.elim
      ·rename_i hn
       split at hg
       ·exact hg.elim
       ·rename_i hd
        split at hg
        ·exact hg.elim
        ·rename_i b vs hc
         split at hg
         ·exact hg.elim
         ·rename_i r fr hex
          rcases Zij hg with⟨h1,h2⟩ |h1
          ·have hb1:b=true:=h1 b List.mem_cons_self
           subst hb1
           exact .now (by simp) (hF r fr h2 _ _ ⟨g,vs,rfl,Nat.eq_of_beq_eq_true hr.2,hr.1,hn,hd,hc,hex⟩)
          ·exact h1.elim
 | .fm,fs,h,hg=>by
   unfold ZaG at hg
   split at hg
   ·exact hg.elim
   ·rename_i g gs
    unfold ZDn at hg
    split at hg
    ·exact hg.elim
    ·split at hg
     ·exact hg.elim
     ·rename_i hr
      simp only[Bool.and_eq_true]at hr
      split at hg
      ·exact hg.elim
      ·rename_i hn
       split at hg
       ·exact hg.elim
       ·rename_i hd
        split at hg
        ·exact hg.elim
        ·rename_i b vs hc
         split at hg
         ·rename_i e sz y hbk
          split at hg
          ·rename_i hp
           simp only[Bool.and_eq_true]at hp
           rcases Zij hg with⟨h1,h2⟩ |h1
           ·have hb1:b=true:=h1 b List.mem_cons_self
            subst hb1
            exact .now (by simp) (hM _ e sz y h2 _ _ ⟨g,vs,rfl,Nat.eq_of_beq_eq_true hr.2,hr.1,hn,hd,hc,rfl,hp.1,hbk,hp.2⟩)
           ·exact h1.elim
          ·exact hg.elim
         ·exact hg.elim
 | .run n k,fs,h,hg=>by
   unfold ZaG at hg
   split at hg
   ·exact hg.elim
   ·split at hg
    ·exact hg.elim
    ·rename_i acc f' fs' h' hs
     rcases Zij hg with⟨h1,h2⟩ |h1
     ·exact(Zb4 hfol hT hl n _ _ _ _ hs h1 (Zbu hfol hT hl hK hF hM k h2)).2
     ·exact h1.elim
 | .alt p k r,fs,h,hg=>by
   unfold ZaG at hg
   split at hg
   ·exact hg.elim
   ·split at hg
    ·exact hg.elim
    ·rename_i pa' acc f' fs' h' hs
     rcases Zij hg with⟨h1,h2⟩ |h1
     ·exact(ZiV hfol hT hl _ _ _ _ _ hs h1 (Zbu hfol hT hl hK hF hM k h2)).2
     ·exact Zbu hfol hT hl hK hF hM r h1
 | .any k,fs,h,hg=>by
   unfold ZaG at hg
   split at hg
   ·exact hg.elim
   ·rename_i f gs
    split at hg
    ·exact hg.elim
    ·rename_i ops fr kk ha
     unfold ZtQ at ha
     split at ha
     ·cases ha
     ·rename_i hr
      split at ha
      ·rename_i fr' ops' kk' ht
       split at ha
       ·rename_i hany
        cases ha
        exact ZoK hfol hany hr ht fun σ hσ=>Zbu hfol hT hl hK hF hM k (Zo0 hg σ hσ)
       ·cases ha
      ·cases ha
end
def bB(b:Bool)(t d:Prop):Prop:=qB [b] t (qB [!b] d False)
def rB(l:List Bool)(t:Prop):Prop:=qB l t False
@[simp] theorem ZHv (t d:Prop):qB [] t d=t:=rfl
@[simp] theorem ZHW (a b:List AV):std.appA a b=a++b:=rfl
@[simp] theorem ZHU (l:List AV) (j:Nat) (x:AV):std.setA l j x=l.set j x:=rfl
@[simp] theorem ZIe (l:List AV) (k n:Nat):std.subA l k n=(l.drop k).take n:=rfl
@[simp] theorem ZHw (n:Nat) (x:AV):std.repA n x=List.replicate n x:=rfl
@[simp] theorem ZFV (b:Bool) (l:List Bool) (t d:Prop):qB (b::l) t d=if b=true then qB l t d else d:=by cases b<;>rfl
theorem ZoS:∀(l:List Bool) (t:Prop),qB l t False=(AllT l∧t)
 |[],t=>by simp[qB]
 |b::l,t=>by
  rw[ZFV,ZoS l]
  cases b<;>simp
@[simp] theorem ZKB (b:Bool) (t d:Prop):bB b t d=if b=true then t else d:=by cases b<;>simp[bB,qB]
@[simp] theorem ZJo (l:List Bool) (t:Prop):rB l t=(AllT l∧t):=ZoS l t
inductive Wk:AV→AV→Prop
 |nil (r:Row) (h:r.elems=[]):Wk .nils (.list r)
 |emp (r:Row) (h:r.elems=[]):Wk .emp (.list r)
 |same (v:AV):Wk v v
 |agg (xs ys:List AV) (hl:xs.length=ys.length) (h:∀(j:Nat) (x y:AV),xs[j]? =some x→ys[j]? =some y→Wk x y):Wk (.agg (.gen xs)) (.agg (.gen ys))
 |tup (xs ys:List AV) (hl:xs.length=ys.length) (h:∀(j:Nat) (x y:AV),xs[j]? =some x→ys[j]? =some y→Wk x y):Wk (.tup xs) (.tup ys)
def WkA:List AV→List AV→Prop
 |[],[]=>True
 |x::xs,y::ys=>Wk x y∧WkA xs ys
 |_,_=>False
theorem WkA.spec:∀ {xs ys:List AV},WkA xs ys→xs.length=ys.length∧∀(j:Nat) (x y:AV),xs[j]? =some x→ys[j]? =some y→Wk x y
 |[],[],_=>⟨rfl,fun j x y h=>by simp at h⟩
 |x::xs,y::ys,h=>by
  obtain⟨h1,h2⟩:=h
  obtain⟨e1,e2⟩:=WkA.spec h2
  refine⟨by simp[e1],fun j u v hu hv=>?_⟩
  cases j with
  |zero=>simp at hu hv;subst hu;subst hv;exact h1
  |succ j=>exact e2 j u v (by simpa using hu) (by simpa using hv)
theorem Wk.agg'{xs ys:List AV}(h:WkA xs ys):Wk (.agg (.gen xs)) (.agg (.gen ys)):=.agg _ _ h.spec.1 h.spec.2
theorem Wk.tup'{xs ys:List AV}(h:WkA xs ys):Wk (.tup xs) (.tup ys):=.tup _ _ h.spec.1 h.spec.2
theorem Wk.rel{w:World}{ok:Nat→Prop}{h:Zaa}{L:Lay}{v v':AV}(hw:Wk v v'):∀ {x:Value},Rel w ok h L v x→Rel w ok h L v' x:=by
 induction hw with
 |nil r h=>intro x hr;cases hr with |nils=>exact .nil r none 0 h
 |emp r h=>intro x hr;cases hr with |emp ad=>exact .nil r (some ad) 0 h
 |same=>intro x hr;exact hr
 |agg xs ys hl _ ih=>
  intro x hr
  cases hr with
  |agg _ xs' hx vs hlv h1 hrr=>
   have hx:xs=xs':=hx.symm
   subst hx
   refine .agg _ ys rfl vs (by rw[←hl];exact hlv) h1 (fun j u v hu hv=>?_)
   have hj:j<xs.length:=by rw[hl];exact(List.getElem?_eq_some_iff.1 hu).1
   exact ih j _ u (List.getElem?_eq_getElem hj) hu (hrr j _ v (List.getElem?_eq_getElem hj) hv)
 |tup xs ys hl _ ih=>
  intro x hr
  cases hr with
  |tup _ vs hlv hrr=>
   refine .tup ys vs (by rw[←hl];exact hlv) (fun j u v hu hv=>?_)
   have hj:j<xs.length:=by rw[hl];exact(List.getElem?_eq_some_iff.1 hu).1
   exact ih j _ u (List.getElem?_eq_getElem hj) hu (hrr j _ v (List.getElem?_eq_getElem hj) hv)
def ZfQ(fn:FuncId)(r:AV)(fr:Option Fresh)(fs:List AFrame)(h:Zaa):Prop:=∃r',Wk r' r∧ZbH fn r' fr fs h
theorem Znt{P:Program}{T:Tab}(hT:ZbE P T){f:FuncId}{args:List AV}{af:AFrame}{r:AV}{fr:Option Fresh}(he:ZaB T f args=some af)
 (hq:∀w okA cs,Ev (Ctx.of P w okA cs) [af] [] (ZfQ f r fr)):Zat P f args r fr:=by
 intro w okA L vs hargs hok hG cs
 have H0:HRel (Ctx.of P w okA cs) [] L w:=⟨Below.refl _ _,fun _ _ ht=>absurd rfl ht.tag,fun _ _=>trivial,fun _ _ _ _ ht=>absurd rfl ht.tag,fun _ _ ht=>absurd rfl ht.tag,fun _ _ _=>rfl,Nat.le_refl _,hG⟩
 obtain⟨hfr,_⟩:=ZdM (C:=(Ctx.of P w okA cs)) (h:=[]) (L:=L) (w:=w) hT he (by
  refine⟨hargs.1,fun j u v hu hv=>(hargs.2 j u v hu hv).okmono (fun g hg ho=>.inl ⟨hok g ho,ho⟩)⟩)
 obtain⟨fs',h',L',fr',cs',w',⟨r',hwk,g,us,rfl,hfn,hret,hrnd,hdefs,hc,hex⟩,_,hf',H',hst,_⟩:=hq w okA cs L _ cs w (.cons hfr .base) H0 (by simp)
 cases hf' with
 |cons hf' hk=>
  cases hk
  obtain⟨fn,hfn',hmr⟩:=hf'.res hrnd
  obtain⟨vs0,hc0,hwl⟩:∃vs0,Zfq std g.env h' g.res=some (true,vs0)∧Zcd std h' vs0=(true,us):=by
   unfold Znw at hc
   split at hc
   ·rename_i b vs hq
    generalize hz:Zcd std h' vs=z at hc
    obtain⟨c,us'⟩:=z
    simp only[Option.some.injEq,Prod.mk.injEq,std_and]at hc
    obtain⟨⟨rfl,rfl⟩,rfl⟩:=hc
    exact⟨vs,hq,hz⟩
   ·cases hc
  obtain⟨x,e1,e2⟩:=Zdr H' hf'.env hmr hc0
  replace e2:=Zgz H' hwl e2
  obtain⟨L2,H2,r2⟩:=Zeb H' e2 hex
  have hnew:ZmO fr=false:=by
   cases fr with
   |none=>rfl
   |some f=>
    have hbr:=H2.blks 0 0
    rw[show blk (Zaz (some f)) 0 0=.row f.e f.sz f.r from rfl]at hbr
    have:=hbr.1
    show Nat.beq f.sz 0=false
    cases hb:Nat.beq f.sz 0 with
    |false=>rfl
    |true=>have:=Nat.eq_of_beq_eq_true hb;omega
  refine⟨.returned x,w',fr',⟨x,L2,rfl,H2.below,by unfold Zsu;rw[hnew];exact⟨⟨H2.below,H2.live,H2.blks,H2.inj,H2.home,H2.low,H2.base,H2.good⟩,hwk.rel r2⟩⟩,hst,hf'.fn.trans hfn,?_⟩
  rcases hf'.mode with⟨_,hm⟩ |⟨e,_⟩
  ·refine⟨hm,?_,hf'.kind,fn,?_,e1⟩
   ·obtain⟨gs,g1,g2,_⟩:=hf'.defs
    rw[hdefs]at g2
    rw[g1,List.eq_nil_of_length_eq_zero g2];rfl
   ·rw[hf'.fn];exact hfn'
  ·rw[hret]at e;cases e
def Zz4(fn:FuncId)(r:AV)(fs:List AFrame)(h:Zaa):Prop:=∃r' r'' fr',Wk r' r''∧Frz fr' r'' r∧ZmO fr'=false∧ZbH fn r' fr' fs h
theorem Zyl{P:Program}{w w':World}{okA:Nat→Prop}{L':Lay}{fr:Option Fresh}(H:HRel (Ctx.of P w okA []) (Zaz fr) L' w'){r r':AV}{x:Value}(hs:Frz fr r r')(hr:ZaF (Ctx.of P w okA []) (Zaz fr) L' w' r x):ZaF (Ctx.of P w (fun _=>False) []) [] L' w' r' x:=by
 cases hs with
 |one hs=>exact ZpD H hs hr
 |tup hs=>
  obtain⟨e1,e2⟩:=hs.spec
  cases hr with
  |tup xs vs hl hrr=>
   refine .tup _ vs (by rw[←e1];exact hl) (fun j u v hu hv=>?_)
   obtain⟨q,q1,q2⟩:=e2 j u hu
   exact ZpD H q2 (hrr j q v q1 hv)
theorem Znq{P:Program}{T:Tab}(hT:ZbE P T){f:FuncId}{args:List AV}{af:AFrame}{r:AV}(he:ZaB T f args=some af)
 (hq:∀w okA cs,Ev (Ctx.of P w okA cs) [af] [] (Zz4 f r)):Zat P f args r ZwC:=by
 intro w okA L vs hargs hok hG cs
 have H0:HRel (Ctx.of P w okA cs) [] L w:=⟨Below.refl _ _,fun _ _ ht=>absurd rfl ht.tag,fun _ _=>trivial,fun _ _ _ _ ht=>absurd rfl ht.tag,fun _ _ ht=>absurd rfl ht.tag,fun _ _ _=>rfl,Nat.le_refl _,hG⟩
 obtain⟨hfr,_⟩:=ZdM (C:=(Ctx.of P w okA cs)) (h:=[]) (L:=L) (w:=w) hT he (by
  refine⟨hargs.1,fun j u v hu hv=>(hargs.2 j u v hu hv).okmono (fun g hg ho=>.inl ⟨hok g ho,ho⟩)⟩)
 obtain⟨fs',h',L',fr',cs',w',⟨r',r'',fr,hwk,hfz,hnew,g,us,rfl,hfn,hret,hrnd,hdefs,hc,hex⟩,_,hf',H',hst,_⟩:=hq w okA cs L _ cs w (.cons hfr .base) H0 (by simp)
 cases hf' with
 |cons hf' hk=>
  cases hk
  obtain⟨fn,hfn',hmr⟩:=hf'.res hrnd
  obtain⟨vs0,hc0,hwl⟩:∃vs0,Zfq std g.env h' g.res=some (true,vs0)∧Zcd std h' vs0=(true,us):=by
   unfold Znw at hc
   split at hc
   ·rename_i b vs hq
    generalize hz:Zcd std h' vs=z at hc
    obtain⟨c,us'⟩:=z
    simp only[Option.some.injEq,Prod.mk.injEq,std_and]at hc
    obtain⟨⟨rfl,rfl⟩,rfl⟩:=hc
    exact⟨vs,hq,hz⟩
   ·cases hc
  obtain⟨x,e1,e2⟩:=Zdr H' hf'.env hmr hc0
  replace e2:=Zgz H' hwl e2
  obtain⟨L2,H2,r2⟩:=Zeb H' e2 hex
  refine⟨.returned x,w',fr',⟨x,L2,rfl,H2.below,Zyl ⟨H2.below,H2.live,H2.blks,H2.inj,H2.home,H2.low,H2.base,H2.good⟩ hfz (hwk.rel r2)⟩,hst,hf'.fn.trans hfn,?_⟩
  rcases hf'.mode with⟨_,hm⟩ |⟨e,_⟩
  ·refine⟨hm,?_,hf'.kind,fn,?_,e1⟩
   ·obtain⟨gs,g1,g2,_⟩:=hf'.defs
    rw[hdefs]at g2
    rw[g1,List.eq_nil_of_length_eq_zero g2];rfl
   ·rw[hf'.fn];exact hfn'
  ·rw[hret]at e;cases e
end Go.Proofs.YtkeoeooghhjibaaGreatDoor
/- How contracts are closed for the program. No condition. -/
namespace Go.Proofs.YtkeoeooghhjibaaGreatDoor
def E0:List Ctr:=[]
theorem ZaE:Zaw Tryz.prog E0:=trivial
section
variable {C:Ctx}{K:List Ctr}{n:Nat}{pa acc:List Bool}{fs gs:List AFrame}{h h':Zaa}{Q:List AFrame→Zaa→Prop}
theorem go(hC:C.P=Tryz.prog)(hK:Zaw Tryz.prog K)(hw:ZaH std tab K n pa fs h=some (acc,gs,h'))(hb:AllT acc)(hq:Ev C gs h' Q):Ev C fs h Q:=ZHe (by rw[hC];exact follows) (by rw[hC];exact Zah) (by rw[hC];exact hK) hw hb hq
theorem fin(hC:C.P=Tryz.prog)(hK:Zaw Tryz.prog K){fn:FuncId}{r r':AV}{fr fr':Option Fresh}(hw:Zbc std tab K n pa fn fs h=some (acc,r',fr'))(hb:AllT acc)(hr:r'=r)(hfr:fr'=fr):Ev C fs h (ZbH fn r fr):=ZEI (by rw[hC];exact follows) (by rw[hC];exact Zah) (by rw[hC];exact hK) hw hb hr hfr
theorem start{fn:FuncId}{args:List AV}{af:AFrame}{r:AV}{fr:Option Fresh}(he:ZaB tab fn args=some af)(hq:∀C:Ctx,C.P=Tryz.prog→Ev C [af] [] (ZbH fn r fr)):Zat Tryz.prog fn args r fr:=Zg9 Zah he fun _ _ _=>hq _ rfl
theorem tgo(hC:C.P=Tryz.prog)(hK:Zaw Tryz.prog K){fn:FuncId}{r:AV}{fr:Option Fresh}{s:Sp}{X:Prop}(he:ZaG std tab K fn (fun p=>Ev C p.1 p.2 (ZbH fn r fr)) (fun r' fr'=>r'=r∧fr'=fr) (fun _ _ _ _=>False) s fs h=X)(hx:X):Ev C fs h (ZbH fn r fr):=
 Zbu (K:=fun p=>Ev C p.1 p.2 (ZbH fn r fr)) (F:=fun r' fr'=>r'=r∧fr'=fr) (M:=fun _ _ _ _=>False) (by rw[hC];exact follows) (by rw[hC];exact Zah) (by rw[hC];exact hK) (fun _ h=>h) (fun r' fr' h _ _ hf=>by obtain⟨rfl,rfl⟩:=h;exact hf) (fun _ _ _ _ h=>h.elim) s (by rw[he];exact hx)
theorem Zl2(hC:C.P=Tryz.prog)(hK:Zaw Tryz.prog K){fn:FuncId}{r:AV}{fr:Option Fresh}{s:Sp}{X:Prop}(he:ZaG std tab K fn (fun p=>Ev C p.1 p.2 (ZfQ fn r fr)) (fun r' fr'=>Wk r' r∧fr'=fr) (fun _ _ _ _=>False) s fs h=X)(hx:X):Ev C fs h (ZfQ fn r fr):=
 Zbu (K:=fun p=>Ev C p.1 p.2 (ZfQ fn r fr)) (F:=fun r' fr'=>Wk r' r∧fr'=fr) (M:=fun _ _ _ _=>False) (by rw[hC];exact follows) (by rw[hC];exact Zah) (by rw[hC];exact hK) (fun _ h=>h) (fun r' fr' h _ _ hf=>by obtain⟨h1,rfl⟩:=h;exact⟨r',h1,hf⟩) (fun _ _ _ _ h=>h.elim) s (by rw[he];exact hx)
theorem ZvC{fn:FuncId}{args:List AV}{af:AFrame}{r:AV}{fr:Option Fresh}(he:ZaB tab fn args=some af)(hq:∀C:Ctx,C.P=Tryz.prog→Ev C [af] [] (ZfQ fn r fr)):Zat Tryz.prog fn args r fr:=Znt Zah he fun _ _ _=>hq _ rfl
theorem ZE3(hC:C.P=Tryz.prog)(hK:Zaw Tryz.prog K){fn:FuncId}{r:AV}{s:Sp}{X:Prop}(he:ZaG std tab K fn (fun p=>Ev C p.1 p.2 (Zz4 fn r)) (fun r' fr'=>∃r'',Wk r' r''∧Frz fr' r'' r∧ZmO fr'=false) (fun _ _ _ _=>False) s fs h=X)(hx:X):Ev C fs h (Zz4 fn r):=
 Zbu (K:=fun p=>Ev C p.1 p.2 (Zz4 fn r)) (F:=fun r' fr'=>∃r'',Wk r' r''∧Frz fr' r'' r∧ZmO fr'=false) (M:=fun _ _ _ _=>False) (by rw[hC];exact follows) (by rw[hC];exact Zah) (by rw[hC];exact hK) (fun _ h=>h) (fun r' fr' h _ _ hf=>by obtain⟨r'',h1,h2,h3⟩:=h;exact⟨r',r'',fr',h1,h2,h3,hf⟩) (fun _ _ _ _ h=>h.elim) s (by rw[he];exact hx)
theorem ZA3{fn:FuncId}{args:List AV}{af:AFrame}{r:AV}(he:ZaB tab fn args=some af)(hq:∀C:Ctx,C.P=Tryz.prog→Ev C [af] [] (Zz4 fn r)):Zat Tryz.prog fn args r ZwC:=Znq Zah he fun _ _ _=>hq _ rfl
end
theorem Rel.same{w:World}{ok:Nat→Prop}{h:Zaa}{L:Lay}{r r':Row}{v:Value}(he:r.elems=r'.elems)(hr:Rel w ok h L (.list r) v):Rel w ok h L (.list r') v:=by
 cases hr with
 |nil _ a c h0=>exact .nil _ a c (he▸h0)
 |list _ xs hx ad n cap sz cs hb hok hn hcap hsz hl h1 hc hp hrr=>exact .list r' xs (hx.trans he) ad n cap sz cs hb hok hn hcap hsz hl h1 hc hp hrr
inductive Wk1:AV→AV→Prop
 |nil (r:Row) (h:r.elems=[]):Wk1 .nils (.list r)
 |same (v:AV):Wk1 v v
def WkL:List AV→List AV→Prop
 |[],[]=>True
 |x::xs,y::ys=>Wk1 x y∧WkL xs ys
 |_,_=>False
theorem WkL.spec:∀ {xs ys:List AV},WkL xs ys→xs.length=ys.length∧∀(j:Nat) (y:AV),ys[j]? =some y→∃x,xs[j]? =some x∧Wk1 x y
 |[],[],_=>⟨rfl,fun j y h=>by simp at h⟩
 |x::xs,y::ys,h=>by
  obtain⟨h1,h2⟩:=h
  obtain⟨e1,e2⟩:=WkL.spec h2
  refine⟨by simp[e1],fun j z hz=>?_⟩
  cases j with
  |zero=>simp at hz;subst hz;exact⟨x,rfl,h1⟩
  |succ j=>obtain⟨q,q1,q2⟩:=e2 j z (by simpa using hz);exact⟨q,by simpa using q1,q2⟩
theorem Wk1.rel{w:World}{ok:Nat→Prop}{h:Zaa}{L:Lay}{v v':AV}{x:Value}(hw:Wk1 v v')(hr:Rel w ok h L v x):Rel w ok h L v' x:=by
 cases hw with
 |nil r h=>cases hr with |nils=>exact .nil r none 0 h
 |same=>exact hr
end Go.Proofs.YtkeoeooghhjibaaGreatDoor
