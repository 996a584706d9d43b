/- Regions of which every order is looked at: a run in all of their orders. No condition. -/
import Derived.Test.YtkeoeooghhjibaaGreatDoorXv
namespace Go.Proofs.YtkeoeooghhjibaaGreatDoor
open Go.RowKit (Below)
def ZEh(es:List (Nat×Nat))(left:List Nat)(i:Nat):Bool:=es.all fun e=>match Nat.beq e.2 i with |true=>left.all (fun j=>!Nat.beq j e.1) |false=>true
def ZpM(es:List (Nat×Nat)):Nat→List Nat→List (List Nat)
 |0,_=>[[]]
 |n+1,left=>(left.filter (ZEh es left)).flatMap fun i=>(ZpM es n (left.filter fun j=>!Nat.beq j i)).map (i:: ·)
def Zv8(aos:List AOp):List Nat→List AOp
 |[]=>[]
 |i::σ=>match aos[i]? with |some o=>o::Zv8 aos σ |none=>Zv8 aos σ
theorem Zoj{es:List (Nat×Nat)}{m:Nat} :∀(n:Nat) (left:List Nat),(∀i∈left,i<m)→∀σ∈ZpM es n left,∀i∈σ,i<m
 |0,_,_,σ,hσ,i,hi=>by simp only[ZpM,List.mem_singleton]at hσ;subst hσ;cases hi
 |n+1,left,hl,σ,hσ,i,hi=>by
  simp only[ZpM,List.mem_flatMap,List.mem_filter,List.mem_map]at hσ
  obtain⟨j,⟨hj,_⟩,τ,hτ,rfl⟩:=hσ
  rcases List.mem_cons.1 hi with rfl |hi
  ·exact hl _ hj
  ·exact Zoj n _ (fun q hq=>hl q (List.mem_filter.1 hq).1) τ hτ i hi
theorem Zlx{P:Program}{N:Nat}{opl:List Oper}{aos:List AOp}(hm:Zdp P N opl opl aos=true):∀(σ:List Nat),(∀i∈σ,i<opl.length)→ZwW P N opl σ (Zv8 aos σ)
 |[],_=>trivial
 |i::σ,h=>by
  obtain⟨h1,h2⟩:=Zcw hm
  have hi:=h i (by simp)
  have hia:i<aos.length:=by omega
  simp only[Zv8,List.getElem?_eq_getElem hia]
  exact⟨⟨opl[i],List.getElem?_eq_getElem hi,h2 i _ _ (List.getElem?_eq_getElem hi) (List.getElem?_eq_getElem hia)⟩,Zlx hm σ (fun j hj=>h j (by simp[hj]))⟩
theorem ZoG{ops:List Oper}{es:List (Nat×Nat)}(hlin:∀(j:Nat) (o:Oper),ops[j]? =some o→∀e∈o.after,Region.binds .any e=true→e.on<0+j)(hes:∀e∈es,Waits ops.toArray e.2 e.1):
 ∀(fuel t:Nat) (listed:Array Bool),listed.size=ops.length→Downed ops.toArray listed→((List.range ops.length).filter fun i=>!listed.getD i true).length=fuel→
  Region.linearise.go .any ops.toArray fuel t listed []∈ZpM es fuel ((List.range ops.length).filter fun i=>!listed.getD i true)
 |0,t,listed,hls,hdn,hf=>by simp[Region.linearise.go,ZpM]
 |fuel+1,t,listed,hls,hdn,hf=>by
  have hne:Region.ready .any ops.toArray listed≠[]:=by
   have:∃i,i<ops.length∧listed.getD i true=false:=by
    cases hff:(List.range ops.length).filter fun i=>!listed.getD i true with
    |nil=>rw[hff]at hf;simp at hf
    |cons i r=>
     have hi:i∈(List.range ops.length).filter fun i=>!listed.getD i true:=by rw[hff];simp
     simp only[List.mem_filter,List.mem_range,Bool.not_eq_true']at hi
     exact⟨i,hi⟩
   obtain⟨i,hi⟩:=this
   obtain⟨m,⟨h1,h2⟩,h3⟩:=ZhH (p:=fun i=>i<ops.length∧listed.getD i true=false) i hi
   intro hnil
   have hmr:m∈Region.ready .any ops.toArray listed:=mem_ready.2 ⟨h2,ops[m],by simp[h1],fun e hee hb=>by
    have hlt:=hlin m ops[m] (by simp[h1]) e hee hb
    have h4:=h3 e.on (by omega)
    have h5:¬listed.getD e.on true=false:=fun h6=>h4 ⟨by omega,h6⟩
    rw[unl]at h5
    have h6:e.on<listed.size:=by omega
    simpa using(fun h7=>h5 ⟨h6,h7⟩:¬listed.getD e.on false=false)⟩
   rw[hnil]at hmr;cases hmr
  have hlt:t%(Region.ready .any ops.toArray listed).length<(Region.ready .any ops.toArray listed).length:=Nat.mod_lt _ (List.length_pos_iff.2 hne)
  generalize hi:(Region.ready .any ops.toArray listed)[t%(Region.ready .any ops.toArray listed).length]=i
  have hgi:(Region.ready .any ops.toArray listed)[t%(Region.ready .any ops.toArray listed).length]? =some i:=by rw[List.getElem?_eq_getElem hlt,hi]
  have hir:i∈Region.ready .any ops.toArray listed:=List.mem_of_getElem? hgi
  obtain⟨hun,op,hop,hall⟩:=mem_ready.1 hir
  have hop:ops[i]? =some op:=by simpa using hop
  have hil:i<ops.length:=(List.getElem?_eq_some_iff.1 hop).1
  have hgo:Region.linearise.go .any ops.toArray (fuel+1) t listed []=i::Region.linearise.go .any ops.toArray fuel (t/(Region.ready .any ops.toArray listed).length) (listed.setIfInBounds i true) []:=by
   simp only[Region.linearise.go]
   change (match (Region.ready .any ops.toArray listed)[t%(Region.ready .any ops.toArray listed).length]? with
    |some i=>Region.linearise.go .any ops.toArray fuel (t/(Region.ready .any ops.toArray listed).length) (listed.setIfInBounds i true) [i]
    |none=>[].reverse)=_
   rw[hgi]
   dsimp only
   rw[linearise_go_acc,List.reverse_singleton,List.singleton_append]
  have hleft:((List.range ops.length).filter fun j=>!(listed.setIfInBounds i true).getD j true)=((List.range ops.length).filter fun j=>!listed.getD j true).filter fun j=>!Nat.beq j i:=by
   rw[List.filter_filter]
   apply List.filter_congr
   intro j hj
   by_cases hji:j=i
   ·subst hji
    have e1:(listed.setIfInBounds j true).getD j true=true:=by simp[show j<listed.size by omega]
    rw[e1];simp
   ·rw[getD_set_ne true (Ne.symm hji)]
    have e2:Nat.beq j i=false:=by
     cases h:Nat.beq j i with
     |false=>rfl
     |true=>exact absurd (Nat.eq_of_beq_eq_true h) hji
    rw[e2];simp
  have hmem:i∈(List.range ops.length).filter fun j=>!listed.getD j true:=by simp only[List.mem_filter,List.mem_range,Bool.not_eq_true'];exact⟨hil,hun⟩
  have hf':((List.range ops.length).filter fun j=>!(listed.setIfInBounds i true).getD j true).length=fuel:=by
   have hsplit:=Zgp hil
   have hset:∀j,j≠i→(listed.setIfInBounds i true).getD j true=listed.getD j true:=fun j hj=>getD_set_ne true (Ne.symm hj)
   have hseti:(listed.setIfInBounds i true).getD i true=true:=by simp[show i<listed.size by omega]
   have hf1:((List.range i).filter fun j=>!(listed.setIfInBounds i true).getD j true)=(List.range i).filter fun j=>!listed.getD j true:=by
    apply List.filter_congr
    intro j hj
    have:j<i:=by simpa using hj
    rw[hset j (by omega)]
   have hf2:(((List.range ops.length).drop (i+1)).filter fun j=>!(listed.setIfInBounds i true).getD j true)=((List.range ops.length).drop (i+1)).filter fun j=>!listed.getD j true:=by
    apply List.filter_congr
    intro j hj
    obtain⟨q,hq⟩:=List.mem_iff_getElem?.1 hj
    rw[List.getElem?_drop]at hq
    have hqj:j=i+1+q:=by
     have:=(List.getElem?_eq_some_iff.1 hq).2
     simpa using this.symm
    rw[hset j (by omega)]
   rw[hsplit,List.filter_append,List.filter_cons,if_pos (by simp[hun]),List.length_append,List.length_cons]at hf
   rw[hsplit,List.filter_append,List.filter_cons,if_neg (by simp[hseti]),hf1,hf2,List.length_append]
   omega
  have ih:=ZoG hlin hes fuel (t/(Region.ready .any ops.toArray listed).length) (listed.setIfInBounds i true) (by simpa using hls) (hdn.add hir) hf'
  rw[hgo]
  simp only[ZpM,List.mem_flatMap,List.mem_map]
  refine⟨i,?_,_,by rw[←hleft];exact ih,rfl⟩
  rw[List.mem_filter]
  refine⟨hmem,List.all_eq_true.2 fun e he=>?_⟩
  split
  ·rename_i h2
   have h2:=Nat.eq_of_beq_eq_true h2
   have hw:=hes e he
   rw[h2]at hw
   have h3:=ZcS hdn hw hir
   refine List.all_eq_true.2 fun j hj=>?_
   simp only[List.mem_filter,List.mem_range,Bool.not_eq_true']at hj
   cases hb:Nat.beq j e.1 with
   |false=>rfl
   |true=>
    have hb:=Nat.eq_of_beq_eq_true hb
    rw[hb]at hj
    rw[(unl.1 hj.2).2]at h3;cases h3
  ·rfl
section
variable {C:Ctx}{h h':Zac}{L L':Lay}{w w':World}{Q:List AFrame→Zac→Prop}{f:AFrame}{fs:List AFrame}{k:List AItem}
theorem Zl9{fr:List (Nat×Nat)}{ops:List AOp}(hfol:C.P.follows .mixedOrders=true)(hany:Zkc fr=true)(hr:f.ret=false)(ht:f.todo=.code (.reg (some fr) ops)::k)
 (hq:∀σ∈ZpM (fr.drop 1) ops.length (List.range ops.length),Ev C ({ f with todo:=.inReg (Zv8 ops σ)::k } ::fs) h Q):Ev C (f::fs) h Q:=by
 intro L fr' cs w hf H _
 cases hf with
 |cons hf hk=>
  rcases hf.mode with⟨e,_⟩ |⟨_,hm,hi⟩
  ·rw[hr]at e;cases e
  ·rw[ht]at hi
   obtain⟨fn,tmps,todo,defers,mode,kind,rnd⟩:=fr'
   cases hi with
   |cons hx hki=>
    cases hx with
    |code _ c hmc=>
     dsimp only at hm;subst hm
     cases c<;>simp only[Za8,Bool.false_eq_true,Bool.and_eq_true,beq_iff_eq]at hmc
     rename_i l id ops' draw
     obtain⟨⟨rfl,hmc⟩,hdr⟩:=hmc
     obtain⟨hlen0,_⟩:=Zcw hmc
     simp only[Zmf,hany,Bool.and_eq_true]at hdr
     obtain⟨hlin,hes⟩:=hdr
     have hlin:=Zfa ops'.toList 0 hlin
     have hcl:=Zfd ops'.toList ops'.toList [] (by simp) (fun j i hi=>by simp at hi)
     have hes:∀e∈fr.drop 1,Waits ops'.toList.toArray e.2 e.1:=fun e he=>hcl _ _ (by simpa using List.all_eq_true.1 hes e he)
     obtain⟨s0,H0⟩:=H.grow (w':=w.drew) ((Below.refl _ _).drew)
     have hall:((List.range ops'.toList.length).filter fun i=>!(Array.replicate ops'.size false).getD i true)=List.range ops'.toList.length:=by
      apply List.filter_eq_self.2
      intro i hi
      have:i<ops'.size:=by simpa using hi
      simp[this]
     have hgo:=ZoG hlin hes ops'.size (w.tape w.drawn (.order fn id)) (Array.replicate ops'.size false) (by simp) (fun j o hj hl=>by
      rcases Nat.lt_or_ge j ops'.size with h1 |h1
      ·simp[h1]at hl
      ·simp[Array.getElem?_eq_none (show (Array.replicate ops'.size false).size≤j by simpa using h1)]at hl) (by rw[hall];simp)
     rw[hall]at hgo
     have hsz:ops'.size=ops.length:=by rw[←hlen0];simp
     have hgo2:=hgo
     rw[hlen0]at hgo2
     rw[hsz]at hgo2
     have hf0:=hf.step s0
     obtain⟨fs2,h2',L2,fr2,cs2,w2,q2,n2,a2,b2,s2⟩:=hq _ hgo2 L { fn,tmps,todo:=.inRegion ops'.toList.toArray (Region.linearise.go .any ops'.toList.toArray ops.length (w.tape w.drawn (.order fn id)) (Array.replicate ops.length false) [])::l,defers,mode:=.run,kind,roundOf:=rnd } cs w.drew
      (.cons ⟨hf0.fn,hf.size,hf0.env,hf0.kind,hf0.defs,hf0.rnd, .inr ⟨hr,rfl, .cons (.inReg ops'.toList _ _ (Zlx hmc _ (fun i hi=>Zoj _ _ (fun j hj=>by simpa[hlen0]using hj) _ hgo2 i hi))) (hki.step s0)⟩,hf0.res⟩ (hk.step s0)) H0 (by simp)
     refine⟨fs2,h2',L2,fr2,cs2,w2,q2,n2,a2,b2,?_,(Fr.of s0).trans s2.2⟩
     refine Steps.trans (go1 ?_) s2.1
     rw[←hsz]
     simp[stepG,stepG.exec,choose,Sem.run,Question.forced,Question.cut,Region.schedule,hfol,Region.linearise]
end
def ZCF:Option Fresh→Option Fresh→Bool
 |none,none=>true
 |some x,some y=>match Nat.beq x.e y.e with |true=>(match Nat.beq x.sz y.sz with |true=>Zon (eqA 8) x.r y.r |false=>false) |false=>false
 |_,_=>false
theorem ZsL{x y:Option Fresh}(h:ZCF x y=true):x=y:=by
 cases x<;>cases y<;>simp only[ZCF,Bool.false_eq_true]at h
 ·rfl
 ·rename_i x y
  split at h
  ·rename_i e1
   split at h
   ·rename_i e2
    obtain⟨a,b,c⟩:=x;obtain⟨a',b',c'⟩:=y
    have:=Nat.eq_of_beq_eq_true e1;have:=Nat.eq_of_beq_eq_true e2;have:=ZiL (fun _ _ e=>ZjQ e) h
    simp_all
   ·cases h
  ·cases h
def Zqb(f:AFrame):Option (List AOp×List (Nat×Nat)×List AItem):=
 match f.ret with
 |true=>none
 |false=>match f.todo with
  | .code (.reg (some fr) ops)::k=>(match Zkc fr with |true=>some (ops,fr,k) |false=>none)
  |_=>none
def okT(A:Ar)(T:Tab)(K:Con)(n:Nat)(g:FuncId)(r:AV)(fr:Option Fresh):Nat→AFrame→List AFrame→Zac→Bool
 |0,_,_,_=>false
 |d+1,f,fs,h=>match Zkh A T K n [] f fs h with
  |(acc,f',fs',h')=>match Zqb f' with
   |some (ops,es,k)=>(match acc.all (fun b=>b)with
    |true=>(ZpM (es.drop 1) ops.length (List.range ops.length)).all fun σ=>okT A T K n g r fr d { f' with todo:=.inReg (Zv8 ops σ)::k } fs' h'
    |false=>false)
   |none=>match ZB7 A g (acc,f',fs',h')with
    |some (b,r',fr')=>(match b with |true=>(match eqA 8 r' r with |true=>ZCF fr' fr |false=>false) |false=>false)
    |none=>false
theorem ZjA{T:Tab}{K:Con}{C:Ctx}{n:Nat}{g:FuncId}{r:AV}{fr:Option Fresh}(hfol:C.P.follows .mixedOrders=true)(hT:Zbt C.P T)(hK:Ze6 C.P K):
 ∀(d:Nat) {f:AFrame} {fs:List AFrame} {h:Zac},okT std T K n g r fr d f fs h=true→Ev C (f::fs) h (ZbT g r fr)
 |0,_,_,_,h=>by cases h
 |d+1,f,fs,h,ho=>by
  rw[okT]at ho
  generalize hs:Zkh std T K n [] f fs h=s at ho
  obtain⟨acc,f',fs',h'⟩:=s
  have go:(∀b∈acc,b=true)→Ev C (f'::fs') h' (ZbT g r fr)→Ev C (f::fs) h (ZbT g r fr):=fun hb hq=>(Zd4 hfol hT hK n _ _ _ _ (by rw[hs]) hb hq).2
  dsimp only at ho
  split at ho
  ·rename_i ops es k hany
   split at ho
   ·rename_i hacc
    refine go (fun b hb=>by have:=List.all_eq_true.1 hacc b hb;simpa using this) ?_
    have hr:f'.ret=false∧f'.todo=.code (.reg (some es) ops)::k∧Zkc es=true:=by
     unfold Zqb at hany
     split at hany
     ·cases hany
     ·rename_i hret
      split at hany
      ·rename_i fr1 ops1 k1 htodo
       split at hany
       ·rename_i hi
        simp only[Option.some.injEq,Prod.mk.injEq]at hany
        obtain⟨rfl,rfl,rfl⟩:=hany
        exact⟨hret,htodo,hi⟩
       ·cases hany
      ·cases hany
    exact Zl9 hfol hr.2.2 hr.1 hr.2.1 (fun σ hσ=>ZjA hfol hT hK d (List.all_eq_true.1 ho σ hσ))
   ·cases ho
  ·split at ho
   ·rename_i b r' fr' hfin
    split at ho
    ·split at ho
     ·rename_i e1
      have e1:=ZjQ e1
      have e2:=ZsL ho
      subst e1;subst e2
      obtain⟨acc2,g2,h2,hs2,hacc,hq⟩:=Zj3 hfin
      simp only[Prod.mk.injEq]at hs2
      obtain⟨rfl,rfl,rfl,rfl⟩:=hs2
      exact go (fun b hb=>by have:=List.all_eq_true.1 hacc b hb;simpa using this) (.now (by simp) hq)
     ·cases ho
    ·cases ho
   ·cases ho
def ZxC(A:Ar)(T:Tab)(K:Con)(n d:Nat)(f:FuncId)(args:List AV)(r:AV)(fr:Option Fresh):Bool:=
 match Zaq T f args with
 |none=>false
 |some af=>okT A T K n f r fr d af [] []
theorem Zmb{P:Program}{T:Tab}(hfol:P.follows .mixedOrders=true)(hT:Zbt P T){l:List Fact}(hl:Zi4 P l){n d:Nat}{f:FuncId}{args:List AV}{r:AV}{fr:Option Fresh}
 (h:ZxC Zm5 T (ZwM l) n d f args r fr=true):Zan P f args r fr:=by
 rw[ZlM]at h
 unfold ZxC at h
 split at h
 ·cases h
 ·rename_i af haf
  exact ZeX hT haf (fun w okA cs=>ZjA (C:=Ctx.of P w okA cs) hfol hT (ZiT hl) d h)
end Go.Proofs.YtkeoeooghhjibaaGreatDoor
/- Guided runs: where the way hangs on a letter, a list of choices says which way is taken. No condition. -/
namespace Go.Proofs.YtkeoeooghhjibaaGreatDoor
open Go.RowKit (Below)
def ZzM:List (Nat×AV)→Nat→AV→List (Nat×AV)
 |[],_,_=>[]
 |(i,x)::l,t,y=>match Nat.beq i t with |true=>(i,y)::l |false=>(i,x)::ZzM l t y
theorem Zgq:∀ {env:List (Nat×AV)} {t:Nat} {v:AV},ZaM env t=some v→ZzM env t v=env
 |[],t,v,h=>by cases h
 |(i,x)::l,t,v,h=>by
  simp only[ZaM]at h
  simp only[ZzM]
  split
  ·rename_i hb;rw[hb]at h;cases h;rfl
  ·rename_i hb;rw[hb]at h;rw[Zgq h]
def asB(p b:Bool):Bool:=match p with |true=>b |false=>!b
theorem ZrT{p b:Bool}(h:asB p b=true):b=p:=by cases p<;>cases b<;>first |rfl |cases h
abbrev Zfw:=List (Nat×AV)
def ZoT(env:Zfw)(pa acc:List Bool)(t:Nat):Option (List Bool×List Bool×Zfw):=
 match ZaM env t with
 |some v=>(match v with
  | .bool b=>(match pa with
    |p::ps=>some (ps,asB p b::acc,ZzM env t (.bool p))
    |[]=>none)
  |_=>some (pa,acc,env))
 |none=>some (pa,acc,env)
theorem ZoE{env env':Zfw}{pa pa' acc acc':List Bool}{t:Nat}(h:ZoT env pa acc t=some (pa',acc',env'))(hb:∀b∈acc',b=true):env'=env∧∀b∈acc,b=true:=by
 unfold ZoT at h
 split at h
 ·rename_i v hv
  split at h
  ·rename_i b
   split at h
   ·rename_i p ps
    cases h
    have:=ZrT (hb _ List.mem_cons_self)
    subst this
    exact⟨Zgq hv,fun b hb'=>hb b (List.mem_cons_of_mem _ hb')⟩
   ·cases h
  ·cases h;exact⟨rfl,hb⟩
 ·cases h;exact⟨rfl,hb⟩
def inN(t:Nat):List Nat→Bool
 |[]=>false
 |x::l=>match Nat.beq x t with |true=>true |false=>inN t l
def ZIL(d:Option Nat)(l:List Nat):List Nat:=match d with |none=>l |some t=>l.filter fun x=>!Nat.beq x t
abbrev ZBY:=Option (List Bool×List Bool×Zfw×List Nat)
def ZiS(st:List Nat)(env:Zfw)(pa acc:List Bool)(t:Nat):ZBY:=
 match inN t st with
 |true=>some (pa,acc,env,st)
 |false=>match ZoT env pa acc t with
  |none=>none
  |some (pa',acc',env')=>some (pa',acc',env',t::st)
theorem Ze8{st st':List Nat}{env env':Zfw}{pa pa' acc acc':List Bool}{t:Nat}(h:ZiS st env pa acc t=some (pa',acc',env',st'))(hb:∀b∈acc',b=true):env'=env∧∀b∈acc,b=true:=by
 unfold ZiS at h
 split at h
 ·cases h;exact⟨rfl,hb⟩
 ·split at h
  ·cases h
  ·rename_i hs;cases h;exact ZoE hs hb
def Zzl:Nat→List Bool→Option (Nat×List Bool)
 |_,[]=>none
 |j,b::pa=>match b with |true=>some (j,pa) |false=>Zzl (j+1) pa
def ZkM(A:Ar)(st:List Nat)(env:Zfw)(pa acc:List Bool)(t:Nat):ZBY:=
 match ZaM env t with
 |some v=>(match v with
  | .int k n=>(match Zzl 0 pa with
    |some (j,ps)=>some (ps,A.eq n (Int.ofNat j)::acc,ZzM env t (.int k (Int.ofNat j)),st)
    |none=>none)
  |_=>some (pa,acc,env,st))
 |none=>some (pa,acc,env,st)
theorem Znq{st st':List Nat}{env env':Zfw}{pa pa' acc acc':List Bool}{t:Nat}(h:ZkM std st env pa acc t=some (pa',acc',env',st'))(hb:∀b∈acc',b=true):env'=env∧∀b∈acc,b=true:=by
 unfold ZkM at h
 split at h
 ·rename_i v hv
  split at h
  ·rename_i k n
   split at h
   ·rename_i j ps _
    cases h
    have e:std.eq n (Int.ofNat j)=true:=hb _ List.mem_cons_self
    have e:n=Int.ofNat j:=by simpa[std]using e
    subst e
    exact⟨Zgq hv,fun b hb'=>hb b (List.mem_cons_of_mem _ hb')⟩
   ·cases h
  ·cases h;exact⟨rfl,hb⟩
 ·cases h;exact⟨rfl,hb⟩
def Zi0(A:Ar)(st:List Nat)(i:Opd)(env:Zfw)(pa acc:List Bool):ZBY:=
 match i with
 | .s t=>ZkM A st env pa acc t
 |_=>some (pa,acc,env,st)
theorem Zhs{st st':List Nat}{i:Opd}{env env':Zfw}{pa pa' acc acc':List Bool}(h:Zi0 std st i env pa acc=some (pa',acc',env',st'))(hb:∀b∈acc',b=true):env'=env∧∀b∈acc,b=true:=by
 unfold Zi0 at h
 split at h
 ·exact Znq h hb
 ·cases h;exact⟨rfl,hb⟩
def ZiX(A:Ar)(st:List Nat)(k:OpK)(env:Zfw)(pa acc:List Bool):ZBY:=
 match k with
 | .aaddr _ _ _ i=>Zi0 A st i env pa acc
 | .idxa _ _ _ i=>Zi0 A st i env pa acc
 | .pick c _ _=>(match c with | .t n=>ZiS st env pa acc n |_=>some (pa,acc,env,st))
 |_=>some (pa,acc,env,st)
theorem ZhL{st st':List Nat}{k:OpK}{env env':Zfw}{pa pa' acc acc':List Bool}(h:ZiX std st k env pa acc=some (pa',acc',env',st'))(hb:∀b∈acc',b=true):env'=env∧∀b∈acc,b=true:=by
 unfold ZiX at h
 split at h
 ·exact Zhs h hb
 ·exact Zhs h hb
 ·split at h
  ·exact Ze8 h hb
  ·cases h;exact⟨rfl,hb⟩
 ·cases h;exact⟨rfl,hb⟩
def ZiQ(A:Ar)(st:List Nat)(o:AOp)(env:Zfw)(pa acc:List Bool):ZBY:=
 match o.g with
 |none=>ZiX A st o.k env pa acc
 |some p=>match ZiS st env pa acc p.1 with
  |none=>none
  |some (pa1,acc1,env1,st1)=>match Zfu o env1 with
   |some g=>(match g with |true=>ZiX A st1 o.k env1 pa1 acc1 |false=>some (pa1,acc1,env1,st1))
   |none=>none
theorem Zfg{st st':List Nat}{o:AOp}{env env':Zfw}{pa pa' acc acc':List Bool}(h:ZiQ std st o env pa acc=some (pa',acc',env',st'))(hb:∀b∈acc',b=true):env'=env∧∀b∈acc,b=true:=by
 unfold ZiQ at h
 split at h
 ·exact ZhL h hb
 ·split at h
  ·cases h
  ·rename_i pa1 acc1 env1 st1 hs
   split at h
   ·split at h
    ·obtain⟨e1,h1⟩:=ZhL h hb
     obtain⟨e2,h2⟩:=Ze8 hs h1
     exact⟨e1.trans e2,h2⟩
    ·cases h;exact Ze8 hs hb
   ·cases h
structure Ctr where
 f:FuncId
 n:Nat
 run:List Bool→List AV→Option (Bool×AV×Option Fresh)
def Zt4(P:Program)(f:FuncId)(args:List AV)(r:AV)(fr:Option Fresh):Prop:=
 match Nat.blt f 1000000 with
 |true=>Zan P f args r fr
 |false=>∀x rest fs,args=.list x::rest→fr=some fs→ZCa P (f-1000000) fs.e fs.sz x fs.r rest r
def Ctr.OK(P:Program)(c:Ctr):Prop:=∀pa args r fr,c.run pa args=some (true,r,fr)→Zt4 P c.f args r fr
def Znw:List Ctr→List Bool→Con
 |[],_,_,_=>none
 |c::l,pa,f,args=>match Nat.beq c.f f with
  |true=>(match Nat.blt f 1000000 with
   |true=>(match c.run pa args with |some r=>some r |none=>Znw l pa f args)
   |false=>none)
  |false=>Znw l pa f args
def ZA8:List Ctr→List Bool→FuncId→List AV→Option (Bool×AV×Option Fresh)
 |[],_,_,_=>none
 |c::l,pa,f,args=>match Nat.beq c.f (f+1000000)with
  |true=>(match c.run pa args with |some r=>some r |none=>ZA8 l pa f args)
  |false=>ZA8 l pa f args
def ZFI:List Ctr→FuncId→Nat
 |[],_=>0
 |c::l,f=>match Nat.beq c.f f with |true=>c.n |false=>ZFI l f
def ZaI(P:Program):List Ctr→Prop
 |[]=>True
 |c::l=>c.OK P∧ZaI P l
theorem ZgG{P:Program} :∀ {l:List Ctr},ZaI P l→∀pa,Ze6 P (Znw l pa)
 |[],_,pa=>fun f args r fr h=>by cases h
 |c::l,⟨h1,h2⟩,pa=>fun f args r fr h=>by
  simp only[Znw]at h
  split at h
  ·rename_i e
   have e:c.f=f:=Nat.eq_of_beq_eq_true e
   split at h
   ·rename_i hlt
    split at h
    ·rename_i q hq
     cases h
     have:=h1 _ _ _ _ hq
     unfold Zt4 at this
     rw[e,hlt]at this
     exact this
    ·exact ZgG h2 pa f args r fr h
   ·cases h
  ·exact ZgG h2 pa f args r fr h
theorem ZiN{P:Program} :∀ {l:List Ctr},ZaI P l→∀ {pa:List Bool} {f:FuncId} {x:Row} {rest:List AV} {r:AV} {fs:Fresh},ZA8 l pa f (.list x::rest)=some (true,r,some fs)→ZCa P f fs.e fs.sz x fs.r rest r
 |[],_,pa,f,x,rest,r,fs,h=>by cases h
 |c::l,⟨h1,h2⟩,pa,f,x,rest,r,fs,h=>by
  simp only[ZA8]at h
  split at h
  ·rename_i e
   have e:c.f=f+1000000:=Nat.eq_of_beq_eq_true e
   split at h
   ·rename_i q hq
    cases h
    have:=h1 _ _ _ _ hq
    unfold Zt4 at this
    have hb:Nat.blt c.f 1000000=false:=Zb6 (by rw[e];exact Nat.le_add_left _ _)
    rw[hb]at this
    have h3:=this x rest fs rfl rfl
    rw[e,Nat.add_sub_cancel]at h3
    exact h3
   ·exact ZiN h2 h
  ·exact ZiN h2 h
theorem Zj9{α:Type}(t:Nat)(x y:α):∀l:List (Nat×α),ZcW (ZcW l t x) t y=ZcW l t y
 |[]=>by have:Nat.beq t t=true:=by simp
         simp only[ZcW,this]
 |(i,z)::l=>by
  have ht:Nat.beq t t=true:=by simp
  cases hb:Nat.beq i t with
  |true=>simp only[ZcW,hb]
  |false=>cases hl:Nat.blt t i with
   |true=>simp only[ZcW,hb,hl,ht]
   |false=>simp only[ZcW,hb,hl,Zj9 t x y l]
def ZuP:AV→Option Nat
 | .slc _ _ k n c=>(match Nat.beq k 0,c with |true,none=>some n |_,_=>none)
 |_=>none
theorem Znc{r:AV}{n a i:Nat}(h:ZuP r=some n):ZzA a i r=.slc a i 0 n none:=by
 unfold ZuP at h
 split at h
 ·rename_i b j k m c
  split at h
  ·rename_i hk
   have:=Nat.eq_of_beq_eq_true hk
   subst this
   cases h;rfl
  ·cases h
 ·cases h
def ZDz(A:Ar)(l:List Ctr)(pa:List Bool)(env:Zfw)(h:Zac)(o:AOp):Option (Bool×AV×Zac):=
 match o.g with
 |some _=>none
 |none=>match o.k with
  | .ncall _ _ g args=>match args.map (Zbd (ZaM env))with
    |v::rest=>match v with
     | .row a i=>match blk h a i with
       | .row e sz x=>match AV.pureL rest&&x.pure with
         |true=>match ZA8 l pa g (.list x::rest)with
          |some (b,r,some fs)=>match fs.r.pure&&ZuZ r with
           |true=>(match ZuP r,Zk1 a,o.d with
            |some n,false,some _=>some (Zaf (Nat.blt 0 (x.len A))<|Zaf (Nat.ble n (fs.r.len A)) (Zaf b (Zaf (Nat.beq fs.e e) (Nat.beq fs.sz sz))), .row a (nxt (ZaO h a i (.row e sz fs.r)) a),Zaj (ZaO (ZaO h a i (.row e sz fs.r)) a i .dead) a (.row e sz (fs.r.sub A 0 n)))
            |_,_,_=>some (Zaf (Nat.blt 0 (x.len A))<|Zaf b (Zaf (Nat.beq fs.e e) (Nat.beq fs.sz sz)),ZzA a i r,ZaO h a i (.row e sz fs.r)))
           |false=>none
          |_=>none
         |false=>none
       |_=>none
     |_=>none
    |[]=>none
  |_=>none
theorem Zv3{C:Ctx}{l:List Ctr}{pa:List Bool}{h h':Zac}{Q:List AFrame→Zac→Prop}{f:AFrame}{fs:List AFrame}{k:List AItem}{o:AOp}{os:List AOp}{r:AV}(hl:ZaI C.P l)(hr:f.ret=false)(ht:f.todo=.inReg (o::os)::k)(hm:ZDz std l pa f.env h o=some (true,r,h'))
 (hq:Ev C ({ f with env:=Zm9 f.env o.d r,todo:=.inReg os::k } ::fs) h' Q):Ev C (f::fs) h Q:=by
 unfold ZDz at hm
 split at hm
 ·cases hm
 ·rename_i hg
  split at hm
  ·rename_i mm a0 g args hk
   split at hm
   ·rename_i v rest ha
    split at hm
    ·rename_i a i
     split at hm
     ·rename_i e sz x hb
      split at hm
      ·rename_i hp
       split at hm
       ·rename_i b r0 fs0 hc
        split at hm
        ·rename_i hp2
         simp only[Bool.and_eq_true]at hp hp2
         split at hm
         ·rename_i n d hpm hfz hd
          simp only[Option.some.injEq,Prod.mk.injEq,std_and]at hm
          obtain⟨⟨hxn,hle,rfl,he,hs⟩,rfl,rfl⟩:=hm
          have hxn:0<x.elems.length:=by rw[Row.len_std]at hxn;simpa[std]using hxn
          have he:fs0.e=e:=by simpa[std]using he
          have hs:fs0.sz=sz:=by simpa[std]using hs
          have hle:n≤fs0.r.elems.length:=by rw[Row.len_std]at hle;simpa[std]using hle
          have hmu:=ZiN hl hc
          rw[he,hs]at hmu
          have hnd:blk h a i≠ .dead:=by rw[hb];simp
          refine ZlE hr ht hg hk ha hb hxn hp.2 hp2.1 hp.1 hp2.2 hmu ?_
          rw[Znc hpm]
          refine Zqa (t:=d) (a:=a) (i:=i) (e:=e) (sz:=sz) (n:=n) (r:=fs0.r) ?_ (by rw[Zcd hnd,if_pos ⟨rfl,rfl⟩]) hfz hle ?_
          ·simp only[hd,Zm9,ZbH,if_true]
          ·simp only[hd,Zm9,Zj9]at hq⊢
           exact hq
         ·simp only[Option.some.injEq,Prod.mk.injEq,std_and]at hm
          obtain⟨⟨hxn,rfl,he,hs⟩,rfl,rfl⟩:=hm
          have hxn:0<x.elems.length:=by rw[Row.len_std]at hxn;simpa[std]using hxn
          have he:fs0.e=e:=by simpa[std]using he
          have hs:fs0.sz=sz:=by simpa[std]using hs
          have hmu:=ZiN hl hc
          rw[he,hs]at hmu
          exact ZlE hr ht hg hk ha hb hxn hp.2 hp2.1 hp.1 hp2.2 hmu hq
        ·cases hm
       ·cases hm
      ·cases hm
     ·cases hm
    ·cases hm
   ·cases hm
  ·cases hm
def ZvQ(o:AOp)(env:Zfw):Option FuncId:=
 match o.k with
 | .ncall _ _ f _=>some f
 | .ncallv _ _ x _=>(match Zt7 (Zbd (ZaM env) x) []with |some (f,_)=>some f |none=>none)
 |_=>none
def Zkb(l:List Ctr)(o:AOp)(env:Zfw)(pa:List Bool):List Bool:=
 match ZvQ o env with
 |none=>pa
 |some f=>match Zfu o env with
  |some g=>(match g with |true=>pa.drop (ZFI l f) |false=>pa)
  |none=>pa
def ZiO(A:Ar)(T:Tab)(l:List Ctr):List AOp→List Nat→List Bool→List Bool→Zfw→Zac→Option (List Bool×List Bool×Zfw×Zac×List Foot)
 |[],_,pa,acc,env,h=>some (pa,acc,env,h,[])
 |o::os,st,pa,acc,env,h=>match ZiQ A st o env pa acc with
  |none=>none
  |some (pa1,acc1,env1,st1)=>match ZeZ A T (Znw l pa1) o env1 h with
   |none=>none
   |some (b,r,h1)=>match ZiO A T l os (ZIL o.d st1) (Zkb l o env1 pa1) (b::acc1) (Zm9 env1 o.d r) h1 with
    |none=>none
    |some (pa2,acc2,env2,h2,zs)=>some (pa2,acc2,env2,h2,Ziq env1 h o::zs)
def ZlN(fr:List (Nat×Nat))(zs:List Foot):Bool:=match fr with |[]=>true |fr=>ZmQ zs fr
abbrev ZwQ:=Option (List Bool×List Bool×AFrame×List AFrame×Zac)
def Zjj(pa:List Bool):ZoL→ZwQ
 |none=>none
 |some (acc,f,fs,h)=>some (pa,acc,f,fs,h)
def ZE8(A:Ar)(T:Tab)(l:List Ctr)(pa acc:List Bool)(f:AFrame)(k:List AItem)(fs:List AFrame)(h:Zac)(fr:List (Nat×Nat))(ops:List AOp):ZwQ:=
 match Zkc fr with
 |true=>none
 |false=>match ZjM ops with
  |false=>(match ZiO A T l ops [] pa acc f.env h with
   |none=>none
   |some (pa',acc',env',h',zs)=>match ZlN fr zs with
    |true=>some (pa',acc',{ f with env:=env',todo:=k },fs,h')
    |false=>none)
  |true=>match ZiO A T l (ops.take (ZcE ops)) [] pa acc f.env h with
   |none=>none
   |some (pa',acc',env',h',zs)=>match ZlN fr zs with
    |true=>some (pa',acc',{ f with env:=env',todo:=.inReg (ops.drop (ZcE ops))::k },fs,h')
    |false=>none
def opG(A:Ar)(T:Tab)(l:List Ctr)(pa acc:List Bool)(o:AOp)(os:List AOp)(f:AFrame)(k:List AItem)(fs:List AFrame)(h:Zac):ZwQ:=
 match ZDz A l pa f.env h o with
 |some (b,r,h2)=>some (pa,b::acc,{ f with env:=Zm9 f.env o.d r,todo:=.inReg os::k },fs,h2)
 |none=>match ZiQ A [] o f.env pa acc with
 |none=>none
 |some (pa1,acc1,env1,_)=>match opA A T (Znw l pa1) acc1 o os { f with env:=env1 } k fs h with
  |none=>none
  |some (acc2,f2,fs2,h2)=>some (Zkb l o env1 pa1,acc2,f2,fs2,h2)
def ZAm(pa acc:List Bool)(f:AFrame)(k:List AItem)(fs:List AFrame)(h:Zac)(v:AV)(a b:ACode):ZwQ:=
 match v with
 | .bool t=>(match pa with
   |p::ps=>some (ps,asB p t::acc,{ f with todo:=.code (ZDi p a b)::k },fs,h)
   |[]=>none)
 |_=>none
def Zrf(A:Ar)(T:Tab)(l:List Ctr)(pa acc:List Bool)(f:AFrame)(fs:List AFrame)(h:Zac):ZwQ:=
 match f.ret with
 |true=>Zjj pa (Zf1 A T (Znw l pa) acc f fs h)
 |false=>match f.todo with
  |[]=>Zjj pa (Zf1 A T (Znw l pa) acc f fs h)
  |it::k=>match it with
   | .inReg os=>(match os with
     |[]=>Zjj pa (Zf1 A T (Znw l pa) acc f fs h)
     |o::os=>opG A T l pa acc o os f k fs h)
   | .code c=>(match c with
     | .cond c a b=>ZAm pa acc f k fs h (Zbd (ZaM f.env) c) a b
     | .reg d ops=>(match d with
       |some fr=>ZE8 A T l pa acc f k fs h fr ops
       |none=>Zjj pa (Zf1 A T (Znw l pa) acc f fs h))
     |_=>Zjj pa (Zf1 A T (Znw l pa) acc f fs h))
   |_=>Zjj pa (Zf1 A T (Znw l pa) acc f fs h)
def Zgh(A:Ar)(T:Tab)(l:List Ctr):Nat→List Bool→List Bool→AFrame→List AFrame→Zac→Option ASt
 |0,_,acc,f,fs,h=>some (acc,f,fs,h)
 |n+1,pa,acc,f,fs,h=>match Zrf A T l pa acc f fs h with
  |none=>none
  |some (pa',acc',f',fs',h')=>Zgh A T l n pa' acc' f' fs' h'
section
variable {C:Ctx}{T:Tab}{l:List Ctr}{h h':Zac}{f f':AFrame}{fs fs':List AFrame}{k:List AItem}{Q:List AFrame→Zac→Prop}{pa pa' acc acc':List Bool}
theorem Zes:∀ {os:List AOp} {st:List Nat} {pa pa' acc acc':List Bool} {env env':Zfw} {h h':Zac} {zs:List Foot},ZiO std T l os st pa acc env h=some (pa',acc',env',h',zs)→(∀b∈acc',b=true)→∀b∈acc,b=true
 |[],st,pa,pa',acc,acc',env,env',h,h',zs,hd,hb=>by simp only[ZiO,Option.some.injEq,Prod.mk.injEq]at hd;obtain⟨_,rfl,_⟩:=hd;exact hb
 |o::os,st,pa,pa',acc,acc',env,env',h,h',zs,hd,hb=>by
  simp only[ZiO]at hd
  split at hd
  ·cases hd
  ·rename_i hs
   split at hd
   ·cases hd
   ·split at hd
    ·cases hd
    ·rename_i hr
     cases hd
     have:=Zes hr hb
     exact(Zfg hs (fun b hb'=>this b (List.mem_cons_of_mem _ hb'))).2
theorem ZdZ(hT:Zbt C.P T)(hl:ZaI C.P l):∀ {os:List AOp} {st:List Nat} {pa pa' acc acc':List Bool} {env env':Zfw} {h h':Zac} {zs:List Foot},ZiO std T l os st pa acc env h=some (pa',acc',env',h',zs)→(∀b∈acc',b=true)→zs.map (·.o)=os∧Runs C.P zs (ZaM env) h (ZaM env') h'
 |[],st,pa,pa',acc,acc',env,env',h,h',zs,hd,_=>by simp only[ZiO,Option.some.injEq,Prod.mk.injEq]at hd;obtain⟨_,_,rfl,rfl,rfl⟩:=hd;exact⟨rfl, .nil _ _⟩
 |o::os,st,pa,pa',acc,acc',env,env',h,h',zs,hd,hb=>by
  simp only[ZiO]at hd
  split at hd
  ·cases hd
  ·rename_i pa1 acc1 env1 st1 hs
   split at hd
   ·cases hd
   ·rename_i b r h1 ho
    split at hd
    ·cases hd
    ·rename_i hr
     cases hd
     have ha:=Zes hr hb
     obtain⟨i1,i2⟩:=ZdZ hT hl hr hb
     obtain⟨e,_⟩:=Zfg hs (fun b hb'=>ha b (List.mem_cons_of_mem _ hb'))
     subst e
     have hbt:=ha b List.mem_cons_self
     subst hbt
     rw[Zdi]at i2
     have:=ZcK hT (ZgG hl pa1) ho
     exact⟨by simp[Ziq,i1], .cons ⟨this,fun x hx p hp=>by simp only[Ziq,List.mem_flatMap];exact⟨x,hx,hp⟩,Zj1 this⟩ i2⟩
theorem ZgT{fr:List (Nat×Nat)}{zs:List Foot}(hb:ZlN fr zs=true):∀(i j:Nat) (x z:Foot),(i,j)∈fr→zs[i]? =some x→zs[j]? =some z→ZmD x z:=by
 unfold ZlN at hb
 split at hb
 ·intro i j x z hm;simp at hm
 ·exact ZeG hb
def Zn5(C:Ctx)(Q:List AFrame→Zac→Prop)(acc:List Bool)(f:AFrame)(fs:List AFrame)(h:Zac)(r:ZwQ):Prop:=
 ∀pa' acc' f' fs' h',r=some (pa',acc',f',fs',h')→(∀b∈acc',b=true)→Ev C (f'::fs') h' Q→(∀b∈acc,b=true)∧Ev C (f::fs) h Q
theorem Zlh{r:ZoL}(hs:ZgX C Q acc f fs h r):Zn5 C Q acc f fs h (Zjj pa r):=by
 intro pa' acc' f' fs' h' he hb hq
 cases r with
 |none=>cases he
 |some p=>obtain⟨a,b,c,d⟩:=p;cases he;exact hs _ _ _ _ rfl hb hq
theorem Zhc(hfol:C.P.follows .mixedOrders=true)(hT:Zbt C.P T)(hl:ZaI C.P l):Zn5 C Q acc f fs h (Zrf std T l pa acc f fs h):=by
 have base:Zn5 C Q acc f fs h (Zjj pa (Zf1 std T (Znw l pa) acc f fs h)):=Zlh (Zgb hfol hT (ZgG hl pa))
 unfold Zrf
 split
 ·exact base
 ·rename_i hr
  split
  ·exact base
  ·rename_i it k ht
   split
   ·split
    ·exact base
    ·rename_i o os
     intro pa' acc' f' fs' h' he hb hq
     unfold opG at he
     split at he
     ·rename_i bm rm hm2 hmr
      cases he
      have hbt:=hb bm List.mem_cons_self
      subst hbt
      exact⟨fun b hb'=>hb b (List.mem_cons_of_mem _ hb'),Zv3 hl hr ht hmr hq⟩
     split at he
     ·cases he
     ·rename_i pa1 acc1 env1 st1 hs
      split at he
      ·cases he
      ·rename_i acc2 f2 fs2 h2 ho
       cases he
       have key:(∀b∈acc1,b=true)→env1=f.env∧∀b∈acc,b=true:=fun h1=>Zfg hs h1
       have hsd:=Zjw (Q:=Q) hT (ZgG hl pa1) (f:={ f with env:=env1 }) (acc:=acc1) (fs:=fs) (h:=h) (k:=k) (o:=o) (os:=os) hr ht _ _ _ _ ho hb hq
       obtain⟨e,h3⟩:=key hsd.1
       refine⟨h3,?_⟩
       have:=hsd.2
       rw[e]at this
       exact this
   ·rename_i c
    split
    ·rename_i c a b
     intro pa' acc' f' fs' h' he hb hq
     unfold ZAm at he
     split at he
     ·rename_i t hc
      split at he
      ·rename_i p ps
       cases he
       have:=ZrT (hb _ List.mem_cons_self)
       subst this
       exact⟨fun b hb'=>hb b (List.mem_cons_of_mem _ hb'),ZkU hr ht hc (by cases t<;>exact hq)⟩
      ·cases he
     ·cases he
    ·split
     ·rename_i ops fr
      intro pa' acc' f' fs' h' he hb hq
      unfold ZE8 at he
      split at he
      ·cases he
      rename_i hany
      split at he
      ·rename_i hni
       split at he
       ·cases he
       ·rename_i pa1 acc1 env1 h1 zs hd
        split at he
        ·rename_i hfree
         cases he
         obtain⟨d1,d2⟩:=ZdZ hT hl hd hb
         have hc:=Ze0 hni
         refine⟨Zes hd hb,ZiU hfol hany hr ht (by rw[hc,List.take_length];exact d1) (fun i j x z hm hx hz _=>ZgT hfree i j x z hm hx hz) d2 (fun _ _ e=>e) ?_⟩
         rw[hc,List.drop_length]
         exact ZgB hr rfl hq
        ·cases he
      ·split at he
       ·cases he
       ·rename_i pa1 acc1 env1 h1 zs hd
        split at he
        ·rename_i hfree
         cases he
         obtain⟨d1,d2⟩:=ZdZ hT hl hd hb
         exact⟨Zes hd hb,ZiU hfol hany hr ht d1 (fun i j x z hm hx hz _=>ZgT hfree i j x z hm hx hz) d2 (fun _ _ e=>e) hq⟩
        ·cases he
     ·exact base
    ·exact base
   ·exact base
theorem ZbM(hfol:C.P.follows .mixedOrders=true)(hT:Zbt C.P T)(hl:ZaI C.P l):∀(n:Nat) {pa acc:List Bool} {f:AFrame} {fs:List AFrame} {h:Zac},ZgX C Q acc f fs h (Zgh std T l n pa acc f fs h)
 |0,pa,acc,f,fs,h=>by
  intro acc' f' fs' h' he hb hq
  simp only[Zgh,Option.some.injEq,Prod.mk.injEq]at he
  obtain⟨rfl,rfl,rfl,rfl⟩:=he
  exact⟨hb,hq⟩
 |n+1,pa,acc,f,fs,h=>by
  intro acc' f' fs' h' he hb hq
  simp only[Zgh]at he
  split at he
  ·cases he
  ·rename_i pa1 acc1 f1 fs1 h1 hs
   obtain⟨hb1,hq1⟩:=ZbM hfol hT hl n _ _ _ _ he hb hq
   exact Zhc hfol hT hl _ _ _ _ _ hs hb1 hq1
end
end Go.Proofs.YtkeoeooghhjibaaGreatDoor
/- Tracked blocks are named anew: those that nothing names are dropped, the others are counted from 0. No condition. -/
namespace Go.Proofs.YtkeoeooghhjibaaGreatDoor
open Go.RowKit (Below)
mutual
def AV.ren(σ:Nat→Nat→Option Nat):AV→AV
 | .ptr a i k o=>match σ a i with |some j=>.ptr a j k o |none=>.top
 | .row a i=>match σ a i with |some j=>.row a j |none=>.top
 | .slc a i k n c=>match σ a i with |some j=>.slc a j k n c |none=>.top
 | .aslc a i k o n=>match σ a i with |some j=>.aslc a j k o n |none=>.top
 | .yld a i=>match σ a i with |some j=>.yld a j |none=>.top
 | .mp a i=>match σ a i with |some j=>.mp a j |none=>.top
 | .emp=>.emp
 | .agg r=>.agg (Row.ren σ r)
 | .tup xs=>.tup (AV.renL σ xs)
 | .fn f xs=>.fn f (AV.renL σ xs)
 | .int k n=>.int k n
 | .bool b=>.bool b
 | .str s=>.str s
 | .flt k b=>.flt k b
 | .val v=>.val v
 | .nils=>.nils
 | .list r=>.list r
 | .eptr x o=>.eptr x o
 | .und=>.und
 | .top=>.top
def AV.renL(σ:Nat→Nat→Option Nat):List AV→List AV
 |[]=>[]
 |x::xs=>AV.ren σ x::AV.renL σ xs
def Row.ren(σ:Nat→Nat→Option Nat):Row→Row
 | .gen xs=>.gen (AV.renL σ xs)
 | .ints k l=>.ints k l
 | .flts k l=>.flts k l
 | .big sh xs=>.big sh xs
end
section
variable {σ:Nat→Nat→Option Nat}
theorem Zf5:∀xs:List AV,AV.renL σ xs=xs.map (AV.ren σ)
 |[]=>rfl
 |x::xs=>by rw[AV.renL,Zf5 xs];rfl
theorem ZjK(s:Sh)(v:AV):AV.ren σ (s.view1 v)=s.view1 v:=by cases s<;>rfl
theorem Zjx:∀(ss:List Sh) (i:Nat) (v:AV),AV.renL σ (Zd3 ss i v)=Zd3 ss i v
 |[],_,_=>rfl
 |s::ss,i,v=>by rw[Zd3,AV.renL,ZjK,Zjx ss]
theorem Zq6(s:Sh)(v:AV):AV.ren σ (s.view v)=s.view v:=by
 cases s with
 |agg ss=>simp only[Sh.view,AV.ren,Row.ren,Zjx]
 |_=>simp only[Sh.view];exact ZjK _ _
theorem Zcc(r:Row):(Row.ren σ r).elems=r.elems.map (AV.ren σ):=by
 cases r with
 |gen xs=>rw[Row.ren,Row.elems,Row.elems,Zf5]
 |ints k l=>rw[Row.ren,Row.elems,List.map_map];rfl
 |flts k l=>rw[Row.ren,Row.elems,List.map_map];rfl
 |big sh xs=>rw[Row.ren,Row.elems,List.map_map];exact List.map_congr_left fun v _=>(Zq6 sh v).symm
theorem Zl3(v:AV):(AV.ren σ v).flat=v.flat.map (AV.ren σ):=by
 cases v with
 |agg r=>simp only[AV.ren,AV.flat,Zcc]
 |ptr a i k o=>simp only[AV.ren];split<;>simp_all[AV.flat,AV.ren]
 |row a i=>simp only[AV.ren];split<;>simp_all[AV.flat,AV.ren]
 |slc a i k n c=>simp only[AV.ren];split<;>simp_all[AV.flat,AV.ren]
 |aslc a i k o n=>simp only[AV.ren];split<;>simp_all[AV.flat,AV.ren]
 |yld a i=>simp only[AV.ren];split<;>simp_all[AV.flat,AV.ren]
 |mp a i=>simp only[AV.ren];split<;>simp_all[AV.flat,AV.ren]
 |_=>rfl
theorem ZkH(xs:List AV):Zag (xs.map (AV.ren σ))=(Zag xs).map (AV.ren σ):=by
 induction xs with
 |nil=>rfl
 |cons x xs ih=>rw[List.map_cons,ZaH,ZaH,List.map_append,ih,Zl3]
end
structure Good (h:Zac) (L:Lay) (h':Zac) (L':Lay) (σ:Nat→Nat→Option Nat):Prop where
 fwd:∀a i j,σ a i=some j→j<nxt h' a∧(∀sz,(blk h' a j).tag=some sz→(blk h a i).tag=some sz)∧L'.loc a j=L.loc a i∧L'.size a j=L.size a i
 bwd:∀a j,Plc h' L' a j→∃i,Plc h L a i∧L'.loc a j=L.loc a i
section
variable {C:Ctx}{h h':Zac}{L L':Lay}{w:World}{σ:Nat→Nat→Option Nat}{ok ok':Nat→Prop}
theorem Good.okk(G:Good h L h' L' σ){g:Nat}(ho:Zav C h L g):Zav C h' L' g:=by
 rcases ho with ho |⟨h1,h2⟩
 ·exact .inl ho
 ·refine .inr ⟨h1,fun a j ht e=>?_⟩
  obtain⟨i,hi,hl⟩:=G.bwd a j ht
  exact h2 a i hi (hl.symm.trans e)
theorem Live.ren(G:Good h L h' L' σ){a i j:Nat}(hs:σ a i=some j){p p':Nat→Nat×Nat→Prop}(hl:Live h L a i p)(hp:∀sz,L'.size a j=L.size a i→p (L.loc a i) sz→p' (L.loc a i) sz):Live h' L' a j p':=by
 obtain⟨g1,g2,g3,g4⟩:=G.fwd a i j hs
 exact⟨g1,fun sz ht=>by rw[g3];exact hp sz g4 (hl.2 sz (g2 sz ht))⟩
theorem Rel.ren(G:Good h L h' L' σ)(hok:∀g,ok g→ok' g){av:AV}{v:Value}(hr:Rel w ok h L av v):Rel w ok' h' L' (AV.ren σ av) v:=by
 induction hr with
 |int k n=>exact .int k n
 |bool b=>exact .bool b
 |str x=>exact .str x
 |flt k b=>exact .flt k b
 |val v=>exact .val v
 |nils=>exact .nils
 |nil r a c hr=>exact .nil r a c hr
 |list r xs hx ad n cap sz cs hb ho hn hcap hsz hl h1 hc hp hr ih=>
  exact .list r xs hx ad n cap sz cs hb (hok _ ho) hn hcap hsz hl h1 hc hp (fun j u v hu hv=>((hr j u v hu hv).okmono (fun g _ ho=>hok g ho)).pure (AV.pureL_mem hp hu))
 |eptr x off ad cs hs hb ho hl h1 hc hp hr ih=>
  exact .eptr x off ad cs hs hb (hok _ ho) hl h1 hc hp (fun j u v hu hv=>((hr j u v hu hv).okmono (fun g _ ho=>hok g ho)).pure (AV.pureL_mem hp hu))
 |agg r xs hx vs hl h1 hr ih=>
  rw[AV.ren]
  refine .agg _ (xs.map (AV.ren σ)) (by rw[Zcc,hx]) vs (by simpa using hl) h1 (fun j u v hu hv=>?_)
  rw[List.getElem?_map]at hu
  cases hxj:xs[j]? with
  |none=>rw[hxj]at hu;cases hu
  |some z=>rw[hxj]at hu;simp only[Option.map_some,Option.some.injEq]at hu;subst hu;exact ih j z v hxj hv
 |tup xs vs hl hr ih=>
  rw[AV.ren,Zf5]
  refine .tup _ vs (by simpa using hl) (fun j u v hu hv=>?_)
  rw[List.getElem?_map]at hu
  cases hxj:xs[j]? with
  |none=>rw[hxj]at hu;cases hu
  |some z=>rw[hxj]at hu;simp only[Option.map_some,Option.some.injEq]at hu;subst hu;exact ih j z v hxj hv
 |fn f xs vs hl hr ih=>
  rw[AV.ren,Zf5]
  refine .fn f _ vs (by simpa using hl) (fun j u v hu hv=>?_)
  rw[List.getElem?_map]at hu
  cases hxj:xs[j]? with
  |none=>rw[hxj]at hu;cases hu
  |some z=>rw[hxj]at hu;simp only[Option.map_some,Option.some.injEq]at hu;subst hu;exact ih j z v hxj hv
 |ptr a i k off g o hl=>
  rw[AV.ren]
  cases hs:σ a i with
  |none=>exact .top _
  |some j=>exact .ptr a j k off g o (hl.ren G hs fun _ _ h=>h)
 |row a i ad n c hn hl=>
  rw[AV.ren]
  cases hs:σ a i with
  |none=>exact .top _
  |some j=>exact .row a j ad n c hn (hl.ren G hs fun _ e h=>by rw[e];exact h)
 |slc a i k n cap ad c hn hl=>
  rw[AV.ren]
  cases hs:σ a i with
  |none=>exact .top _
  |some j=>exact .slc a j k n cap ad c hn (hl.ren G hs fun _ e h=>by rw[e];exact h)
 |aslc a i k off n g o c hn hl=>
  rw[AV.ren]
  cases hs:σ a i with
  |none=>exact .top _
  |some j=>exact .aslc a j k off n g o c hn (hl.ren G hs fun _ _ h=>h)
 |yld a i g hl=>
  rw[AV.ren]
  cases hs:σ a i with
  |none=>exact .top _
  |some j=>exact .yld a j g (hl.ren G hs fun _ _ h=>h)
 |mp a i g hl=>
  rw[AV.ren]
  cases hs:σ a i with
  |none=>exact .top _
  |some j=>exact .mp a j g (hl.ren G hs fun _ _ h=>h)
 |emp ad=>exact .emp ad
 |und=>exact .und
 |top v=>exact .top v
def ZgU(σ:Nat→Nat→Option Nat):Zfw→Zfw
 |[]=>[]
 |(t,v)::l=>(t,AV.ren σ v)::ZgU σ l
theorem Zg7:∀(env:Zfw) (t:Nat),ZaM (ZgU σ env) t=(ZaM env t).map (AV.ren σ)
 |[],t=>rfl
 |(i,x)::l,t=>by
  simp only[ZgU,ZaM]
  split
  ·rfl
  ·exact Zg7 l t
theorem EnvRel.ren(G:Good h L h' L' σ){env:Zfw}{tmps:Array Value}(he:EnvRel C h L w env tmps):EnvRel C h' L' w (ZgU σ env) tmps:=by
 intro t av ht
 rw[Zg7]at ht
 cases hx:ZaM env t with
 |none=>rw[hx]at ht;cases ht
 |some u=>rw[hx]at ht;simp only[Option.map_some,Option.some.injEq]at ht;subst ht;exact(he t u hx).ren G (fun g ho=>G.okk ho)
def Blk.ren(σ:Nat→Nat→Option Nat):Blk→Blk
 | .row e sz r=>.row e sz (Row.ren σ r)
 | .lp l=>.lp { l with env:=ZgU σ l.env }
 | .dfr=>.dfr
 | .mp ks=>.mp ks
 | .dead=>.dead
theorem Blk.ren_tag(b:Blk):(b.ren σ).tag=b.tag:=by
 cases b with
 |row e sz r=>simp only[Blk.ren,Blk.tag,Zcc,List.length_map]
 |_=>rfl
theorem BRel.ren(G:Good h L h' L' σ){g n:Nat}{b:Blk}(hb:BRel C h L w g n b):BRel C h' L' w g n (b.ren σ):=by
 cases b with
 |row e sz r=>
  obtain⟨h0,h1,h2,h3,hcur⟩:=hb
  refine⟨h0,h1,by rw[Zcc,List.length_map];exact h2,fun x hx=>?_,fun hn=>?_⟩
  ·rw[Zcc]at hx
   obtain⟨y,hy,rfl⟩:=List.mem_map.1 hx
   rw[Zl3,List.length_map];exact h3 y hy
  ·obtain⟨cur,h4,h5,h6,h7⟩:=hcur hn
   refine⟨cur,h4,h5,?_,by rw[Zcc,List.length_map];exact h7⟩
   rw[Zcc,List.length_map,ZkH]
   refine⟨by rw[List.length_map];exact h6.1,fun j u v hu hv=>?_⟩
   rw[List.getElem?_map]at hu
   cases hx:(Zag r.elems)[j]? with
   |none=>rw[hx]at hu;cases hu
   |some z=>rw[hx]at hu;simp only[Option.map_some,Option.some.injEq]at hu;subst hu;exact(h6.2 j z v hx hv).ren G (fun g ho=>G.okk ho)
 |lp l=>
  obtain⟨r,h1,h2,h3,h4,h5,h6,h7,h8,h9⟩:=hb
  exact⟨r,h1,h2,h3,h4,h5.ren G,h6,h7,h8,h9⟩
 |dfr=>exact hb
 |mp ks=>exact hb
 |dead=>trivial
def Zq8(σ:Nat→Nat→Option Nat):AItem→Option AItem
 | .inRF a i=>match σ a i with |some j=>some (.inRF a j) |none=>none
 | .endRF a i=>match σ a i with |some j=>some (.endRF a j) |none=>none
 | .code c=>some (.code c)
 | .inBlock i=>some (.inBlock i)
 | .inLoop b=>some (.inLoop b)
 | .inReg os=>some (.inReg os)
 | .beginRound=>some .beginRound
def ZhQ(σ:Nat→Nat→Option Nat):List AItem→Option (List AItem)
 |[]=>some []
 |x::k=>match Zq8 σ x with
  |none=>none
  |some y=>match ZhQ σ k with |some l=>some (y::l) |none=>none
def Zqy(σ:Nat→Nat→Option Nat):List (Nat×Nat)→Option (List (Nat×Nat))
 |[]=>some []
 |(a,i)::k=>match σ a i with
  |none=>none
  |some j=>match Zqy σ k with |some l=>some ((a,j)::l) |none=>none
def ZrM(σ:Nat→Nat→Option Nat):Option (Nat×Nat)→Option (Option (Nat×Nat))
 |none=>some none
 |some (a,i)=>match σ a i with |some j=>some (some (a,j)) |none=>none
def ZuQ:AItem→Bool
 | .inRF _ _=>false
 | .endRF _ _=>false
 |_=>true
def Zev:List AItem→Bool
 |[]=>true
 |x::k=>match ZuQ x with |true=>Zev k |false=>false
def ZDo(σ:Nat→Nat→Option Nat)(f:AFrame):Option AFrame:=
 match Zqy σ f.defs with
 |none=>none
 |some ds=>match ZrM σ f.rnd with
  |none=>none
  |some rd=>match Zev f.todo with
   |true=>some { f with env:=ZgU σ f.env,defs:=ds,rnd:=rd }
   |false=>match ZhQ σ f.todo with
    |none=>none
    |some td=>some { f with env:=ZgU σ f.env,todo:=td,defs:=ds,rnd:=rd }
def Zow(σ:Nat→Nat→Option Nat):List AFrame→Option (List AFrame)
 |[]=>some []
 |f::fs=>match ZDo σ f with
  |none=>none
  |some g=>match Zow σ fs with |some gs=>some (g::gs) |none=>none
theorem ItRel.ren{P:Program}{N:Nat}(G:Good h L h' L' σ){x x':AItem}{y:Item}(hr:Zq8 σ x=some x')(hx:ItRel P h L N x y):ItRel P h' L' N x' y:=by
 cases hx with
 |code a c hm=>cases hr;exact .code a c hm
 |inBlock id=>cases hr;exact .inBlock id
 |inLoop a c hm=>cases hr;exact .inLoop a c hm
 |inReg ops k aos hm=>cases hr;exact .inReg ops k aos hm
 |beginRound=>cases hr;exact .beginRound
 |inRF a i g hl=>
  simp only[Zq8]at hr
  split at hr
  ·rename_i j hs;cases hr;exact .inRF a j g (hl.ren G hs fun _ _ h=>h)
  ·cases hr
 |endRF a i g hl=>
  simp only[Zq8]at hr
  split at hr
  ·rename_i j hs;cases hr;exact .endRF a j g (hl.ren G hs fun _ _ h=>h)
  ·cases hr
theorem ItsRel.ren{P:Program}{N:Nat}(G:Good h L h' L' σ):∀ {x x':List AItem} {y:List Item},ZhQ σ x=some x'→ItsRel P h L N x y→ItsRel P h' L' N x' y
 |[],x',y,hr,hx=>by cases hx;cases hr;exact .nil
 |x::k,x',y,hr,hx=>by
  cases hx with
  |cons hx hk=>
   simp only[ZhQ]at hr
   split at hr
   ·cases hr
   ·rename_i z hz
    split at hr
    ·rename_i l hl;cases hr;exact .cons (hx.ren G hz) (ItsRel.ren G hl hk)
    ·cases hr
theorem Zjc:∀ {x:List AItem},Zev x=true→ZhQ σ x=some x
 |[],_=>rfl
 |x::k,hp=>by
  simp only[Zev]at hp
  split at hp
  ·rename_i h1
   simp only[ZhQ,Zjc hp]
   cases x<;>first |rfl |cases h1
  ·cases hp
theorem Zh5(G:Good h L h' L' σ){p:Nat→Nat×Nat→Prop} :∀ {l l':List (Nat×Nat)},Zqy σ l=some l'→l'.length=l.length∧∀(j:Nat) (d:Nat×Nat),l'[j]? =some d→∃d0:Nat×Nat,l[j]? =some d0∧d0.1=d.1∧σ d0.1 d0.2=some d.2
 |[],l',hr=>by cases hr;exact⟨rfl,fun j d hd=>by simp at hd⟩
 |(a,i)::k,l',hr=>by
  simp only[Zqy]at hr
  split at hr
  ·cases hr
  ·rename_i j hs
   split at hr
   ·rename_i l hl
    cases hr
    obtain⟨h1,h2⟩:=Zh5 (p:=p) G hl
    refine⟨by simp[h1],fun q d hd=>?_⟩
    cases q with
    |zero=>simp at hd;subst hd;exact⟨(a,i),rfl,rfl,hs⟩
    |succ q=>obtain⟨d0,e1,e2,e3⟩:=h2 q d (by simpa using hd);exact⟨d0,by simpa using e1,e2,e3⟩
   ·cases hr
theorem FrRel.ren(G:Good h L h' L' σ){af af':AFrame}{fr:Frame}(hr:ZDo σ af=some af')(hf:FrRel C h L w af fr):FrRel C h' L' w af' fr:=by
 unfold ZDo at hr
 split at hr
 ·cases hr
 ·rename_i ds hds
  split at hr
  ·cases hr
  ·rename_i rd hrd
   have hd:DefRel h' L' ds fr.defers:=by
    obtain⟨gs,h1,h2,h3⟩:=hf.defs
    obtain⟨e1,e2⟩:=Zh5 (p:=fun _ _=>True) G hds
    refine⟨gs,h1,h2.trans e1.symm,fun j d g hd hg=>?_⟩
    obtain⟨d0,q1,q2,q3⟩:=e2 j d hd
    obtain⟨d1,d2⟩:=d
    obtain⟨d3,d4⟩:=d0
    simp only at q2 q3
    subst q2
    exact(h3 j _ g q1 hg).ren G q3 fun _ _ h=>h
   have hn:RndRel h' L' rd fr.roundOf∧(rd=none→af.rnd=none):=by
    have hrn:=hf.rnd
    unfold ZrM at hrd
    split at hrd
    ·rename_i e;cases hrd;rw[e]at hrn;exact⟨hrn,fun _=>e⟩
    ·rename_i a i e
     rw[e]at hrn
     split at hrd
     ·rename_i j hs;cases hrd
      obtain⟨g,hg,hl⟩:=hrn
      exact⟨⟨g,hg,hl.ren G hs fun _ _ h=>h⟩,fun e=>by cases e⟩
     ·cases hrd
   split at hr
   ·rename_i hp
    cases hr
    exact⟨hf.fn,hf.size,hf.env.ren G,hf.kind,hd,hn.1,hf.mode.imp id fun⟨a,b,c⟩=>⟨a,b,c.ren G (Zjc hp)⟩,fun e=>hf.res (hn.2 e)⟩
   ·split at hr
    ·cases hr
    ·rename_i td htd
     cases hr
     exact⟨hf.fn,hf.size,hf.env.ren G,hf.kind,hd,hn.1,hf.mode.imp id fun⟨a,b,c⟩=>⟨a,b,c.ren G htd⟩,fun e=>hf.res (hn.2 e)⟩
theorem FrsRel.ren(G:Good h L h' L' σ):∀ {afs afs':List AFrame} {cs:List Frame},Zow σ afs=some afs'→FrsRel C h L w afs cs→FrsRel C h' L' w afs' cs
 |[],afs',cs,hr,hf=>by cases hf;cases hr;exact .base
 |f::fs,afs',cs,hr,hf=>by
  cases hf with
  |cons hf hk=>
   simp only[Zow]at hr
   split at hr
   ·cases hr
   ·rename_i g hg
    split at hr
    ·rename_i gs hgs;cases hr;exact .cons (hf.ren G hg) (FrsRel.ren G hgs hk)
    ·cases hr
end
abbrev ZvX:=List (Nat×Nat×List Blk)
def Zxg:Blk→Bool
 | .dead=>true
 |_=>false
def ZkE(R:List (Nat×Nat))(a:Nat):Nat→List Blk→List Blk
 |_,[]=>[]
 |i,b::l=>match(match Zsh (a,i) R with |true=>b |false=>.dead),ZkE R a (i+1) l with
  | .dead,[]=>[]
  |b',l'=>b'::l'
def ZoH:Nat→List Blk→Nat×List Blk
 |n,[]=>(n,[])
 |n,b::l=>match Zxg b with |true=>ZoH (n+1) l |false=>(n,b::l)
def ZkG(R:List (Nat×Nat))(a:Nat)(f:Fam):Nat×List Blk:=ZoH f.base (ZkE R a f.base f.blks)
def Za9(R:List (Nat×Nat)):Zac→ZvX
 |[]=>[]
 |(a,f)::rest=>match ZkG R a f with
  |(s,l)=>(match l,ZaM rest a with
   |[],none=>Za9 R rest
   |l,_=>(a,s,l)::Za9 R rest)
def ZmN(t:ZvX)(a i:Nat):Option Nat:=
 match ZaM t a with
 |none=>none
 |some p=>match Nat.ble p.1 i with
  |false=>none
  |true=>match Zxg (p.2.getD (i-p.1) .dead)with |true=>none |false=>some (i-p.1)
def Zhi(σ:Nat→Nat→Option Nat):ZvX→Zac
 |[]=>[]
 |(a,_,l)::t=>(a,⟨0,l.map (Blk.ren σ)⟩)::Zhi σ t
def ZkW(t:ZvX)(L:Lay):Lay:=⟨fun a j=>L.loc a (j+match ZaM t a with |some p=>p.1 |none=>0),fun a j=>L.size a (j+match ZaM t a with |some p=>p.1 |none=>0)⟩
theorem Zhv{R:List (Nat×Nat)}{a:Nat} :∀(l:List Blk) (i j:Nat),(ZkE R a i l).getD j .dead=.dead∨(ZkE R a i l).getD j .dead=l.getD j .dead
 |[],i,j=>.inl (by simp[ZkE])
 |b::l,i,j=>by
  have ih:=Zhv (R:=R) (a:=a) l (i+1)
  simp only[ZkE]
  split
  ·left;simp
  ·cases j with
   |zero=>
    simp only[List.getD_cons_zero]
    split
    ·right;rfl
    ·left;rfl
   |succ j=>simp only[List.getD_cons_succ];exact ih j
theorem ZhT:∀(l:List Blk) (n j:Nat),∃d,(ZoH n l).1=n+d∧(ZoH n l).2.getD j .dead=l.getD (j+d) .dead
 |[],n,j=>⟨0,rfl,rfl⟩
 |b::l,n,j=>by
  simp only[ZoH]
  split
  ·obtain⟨d,h1,h2⟩:=ZhT l (n+1) j
   exact⟨d+1,by rw[h1];omega,by rw[h2,←Nat.add_assoc,List.getD_cons_succ]⟩
  ·exact⟨0,rfl,rfl⟩
theorem ZhO{R:List (Nat×Nat)} :∀ {h:Zac} {a:Nat} {p:Nat×List Blk},ZaM (Za9 R h) a=some p→∃f,ZaM h a=some f∧ZkG R a f=p
 |[],a,p,h=>by cases h
 |(b,f)::rest,a,p,h=>by
  have ih:= @ZhO R rest a p
  have hb:∀x y:Nat,Nat.beq x y=decide (x=y):=fun x y=>by rw[Bool.eq_iff_iff];simp
  simp only[Za9]at h
  split at h
  ·rename_i hl hr
   obtain⟨f',h1,h2⟩:=ih h
   refine⟨f',?_,h2⟩
   simp only[ZaM,hb]
   by_cases hba:b=a
   ·subst hba;rw[hr]at h1;cases h1
   ·simp only[hba,decide_false];exact h1
  ·simp only[ZaM,hb]at h⊢
   by_cases hba:b=a
   ·subst hba;simp only[decide_true,Option.some.injEq]at h ⊢;exact⟨f,rfl,h⟩
   ·simp only[hba,decide_false]at h ⊢;exact ih h
theorem ZhE{σ:Nat→Nat→Option Nat} :∀(t:ZvX) (a:Nat),ZaM (Zhi σ t) a=(ZaM t a).map fun p=>⟨0,p.2.map (Blk.ren σ)⟩
 |[],a=>rfl
 |(b,s,l)::t,a=>by
  simp only[Zhi,ZaM]
  split
  ·rfl
  ·exact ZhE t a
theorem Zc8{σ:Nat→Nat→Option Nat}(t:ZvX)(a j:Nat):blk (Zhi σ t) a j=Blk.ren σ (match ZaM t a with |some p=>p.2.getD j .dead |none=>.dead)∧nxt (Zhi σ t) a=match ZaM t a with |some p=>p.2.length |none=>0:=by
 unfold blk nxt fam
 rw[ZhE]
 cases ZaM t a with
 |none=>simp[Fam.get,Zb6,Blk.ren]
 |some p=>
  simp only[Option.map_some,Option.getD_some,Fam.get,Zb6 (Nat.zero_le _),Nat.sub_zero,List.length_map,Nat.zero_add,and_true]
  simp only[List.getD_eq_getElem?_getD,List.getElem?_map]
  cases p.2[j]?<;>rfl
theorem Zdl{R:List (Nat×Nat)}{h:Zac}{a:Nat}{p:Nat×List Blk}(hp:ZaM (Za9 R h) a=some p)(j:Nat):p.2.getD j .dead=.dead∨p.2.getD j .dead=blk h a (j+p.1):=by
 obtain⟨f,h1,h2⟩:=ZhO hp
 unfold ZkG at h2
 obtain⟨d,e1,e2⟩:=ZhT (ZkE R a f.base f.blks) f.base j
 rw[h2]at e1 e2
 rw[e2]
 rcases Zhv (R:=R) (a:=a) f.blks f.base (j+d)with h3 |h3
 ·exact .inl h3
 ·right
  rw[h3,e1]
  unfold blk fam Fam.get
  rw[h1]
  simp only[Option.getD_some,Zb6 (show f.base≤j+(f.base+d) by omega)]
  congr 1;omega
theorem pack_good{R:List (Nat×Nat)}{h:Zac}{L:Lay} :Good h L (Zhi (ZmN (Za9 R h)) (Za9 R h)) (ZkW (Za9 R h) L) (ZmN (Za9 R h)):=by
 refine⟨fun a i j hs=>?_,fun a j ht=>?_⟩
 ·obtain⟨hb,hn⟩:=Zc8 (σ:=ZmN (Za9 R h)) (Za9 R h) a j
  unfold ZmN at hs
  cases hp:ZaM (Za9 R h) a with
  |none=>rw[hp]at hs;cases hs
  |some p=>
   rw[hp]at hs hb hn
   simp only at hs hb hn
   split at hs
   ·cases hs
   ·rename_i hle
    have hle:p.1≤i:=by simpa using hle
    split at hs
    ·cases hs
    ·rename_i hd
     cases hs
     have hlt:i-p.1<p.2.length:=by
      rcases Nat.lt_or_ge (i-p.1) p.2.length with h1 |h1
      ·exact h1
      ·rw[List.getD_eq_getElem?_getD,List.getElem?_eq_none h1]at hd;cases hd
     have hadd:i-p.1+p.1=i:=by omega
     refine⟨by rw[hn];exact hlt,fun sz ht=>?_,by simp only[ZkW,hp,hadd],by simp only[ZkW,hp,hadd]⟩
     rw[hb,Blk.ren_tag]at ht
     rcases Zdl hp (i-p.1)with h1 |h1
     ·rw[h1]at hd;cases hd
     ·rw[h1,hadd]at ht;exact ht
 ·obtain⟨hb,_⟩:=Zc8 (σ:=ZmN (Za9 R h)) (Za9 R h) a j
  obtain⟨s,ht,hn⟩:=ht
  rw[hb,Blk.ren_tag]at ht
  cases hp:ZaM (Za9 R h) a with
  |none=>rw[hp]at ht;cases ht
  |some p=>
   rw[hp]at ht
   simp only at ht
   rcases Zdl hp j with h1 |h1
   ·rw[h1]at ht;cases ht
   ·exact⟨j+p.1,⟨s,by rw[←h1];exact ht,by simpa only[ZkW,hp]using hn⟩,by simp only[ZkW,hp]⟩
theorem HRel.packed{C:Ctx}{R:List (Nat×Nat)}{h:Zac}{L:Lay}{w:World}(H:HRel C h L w):HRel C (Zhi (ZmN (Za9 R h)) (Za9 R h)) (ZkW (Za9 R h) L) w:=by
 have key:∀a j,Plc (Zhi (ZmN (Za9 R h)) (Za9 R h)) (ZkW (Za9 R h) L) a j→∃p,ZaM (Za9 R h) a=some p∧Plc h L a (j+p.1):=fun a j ht=>by
  obtain⟨hb,_⟩:=Zc8 (σ:=ZmN (Za9 R h)) (Za9 R h) a j
  obtain⟨s,ht,hn⟩:=ht
  rw[hb,Blk.ren_tag]at ht
  cases hp:ZaM (Za9 R h) a with
  |none=>rw[hp]at ht;cases ht
  |some p=>
   rw[hp]at ht
   simp only at ht
   rcases Zdl hp j with h1 |h1
   ·rw[h1]at ht;cases ht
   ·exact⟨p,rfl,s,by rw[←h1];exact ht,by simpa only[ZkW,hp]using hn⟩
 refine⟨H.below,fun a j ht=>?_,fun a j=>?_,fun a i b j h1 h2 e=>?_,fun a j ht=>?_,H.low,H.base⟩
 rotate_right
 ·obtain⟨p,hp,ht'⟩:=key a j ht
  simp only[ZkW,hp]
  rcases H.home a _ ht' with h9 |⟨h7,h8,h9⟩
  ·exact .inl h9
  ·exact .inr ⟨h7,by omega,h9⟩
 ·obtain⟨p,hp,ht'⟩:=key a j ht
  simp only[ZkW,hp];exact H.live a _ ht'
 ·obtain⟨hb,_⟩:=Zc8 (σ:=ZmN (Za9 R h)) (Za9 R h) a j
  rw[hb]
  cases hp:ZaM (Za9 R h) a with
  |none=>trivial
  |some p=>
   simp only
   rcases Zdl hp j with h1 |h1
   ·rw[h1];trivial
   ·rw[h1];simp only[ZkW,hp];exact(H.blks a _).ren pack_good
 ·obtain⟨p,hp,hp'⟩:=key a i h1
  obtain⟨q,hq,hq'⟩:=key b j h2
  simp only[ZkW,hp,hq]at e
  obtain⟨rfl,e2⟩:=H.inj _ _ _ _ hp' hq' e
  rw[hp]at hq;cases hq
  exact⟨rfl,by omega⟩
def ZAC:AV→List (Nat×Nat)
 | .tup xs=>xs.flatMap ZeD
 |v=>ZeD v
def ZC4:Row→List (Nat×Nat)
 | .gen xs=>xs.flatMap ZAC
 |_=>[]
def Ztx:Zfw→List (Nat×Nat)
 |[]=>[]
 |(_,v)::l=>ZAC v++Ztx l
def ZCh:Blk→List (Nat×Nat)
 | .row _ _ r=>ZC4 r
 | .lp l=>Ztx l.env
 |_=>[]
def ZxV:List AItem→List (Nat×Nat)
 |[]=>[]
 |x::k=>(match x with | .inRF a i=>[(a,i)] | .endRF a i=>[(a,i)] |_=>[])++ZxV k
def ZAA:List AFrame→List (Nat×Nat)
 |[]=>[]
 |f::fs=>Ztx f.env++((match Zev f.todo with |true=>[] |false=>ZxV f.todo)++(f.defs++((match f.rnd with |some p=>[p] |none=>[])++ZAA fs)))
def ZCb(R:List (Nat×Nat)):List (Nat×Nat)→List (Nat×Nat)
 |[]=>R
 |p::l=>match Zsh p R with |true=>ZCb R l |false=>ZCb (p::R) l
def Zsv(h:Zac):Nat→List (Nat×Nat)→List (Nat×Nat)→List (Nat×Nat)
 |0,R,_=>R
 |n+1,R,new=>match new.flatMap (fun p=>ZCh (blk h p.1 p.2))with
  |[]=>R
  |l=>Zsv h n (ZCb R l) l
def ZpV(h:Zac)(t:ZvX):Bool:=
 match ZaM t 0 with
 |none=>Nat.beq (nxt h 0) 0
 |some p=>match Nat.beq p.1 0 with |true=>Nat.ble (nxt h 0) p.2.length |false=>false
def ZD3(fs:List AFrame):List (Nat×Nat):=ZCb [] ((0,0)::ZAA fs)
def ZCe(fs:List AFrame)(h:Zac):Option (List AFrame×Zac):=
 match ZD3 fs with
 |R0=>match Za9 (Zsv h 4 R0 R0) h with
  |t=>match ZpV h t with
   |false=>none
   |true=>match Zow (ZmN t) fs with
    |none=>none
    |some fs'=>some (fs',Zhi (ZmN t) t)
theorem Zwy{C:Ctx}{R:List (Nat×Nat)}{h:Zac}{L:Lay}{w:World}(hk:ZpV h (Za9 R h)=true):Fr C h L w (Zhi (ZmN (Za9 R h)) (Za9 R h)) (ZkW (Za9 R h) L) w:=by
 obtain⟨hb,hn⟩:=Zc8 (σ:=ZmN (Za9 R h)) (Za9 R h) 0 0
 refine⟨Nat.le_refl _,fun g _ ho=>⟨pack_good.okk ho,rfl⟩,?_,fun sz _ ht=>?_⟩
 ·rw[hn]
  unfold ZpV at hk
  cases hp:ZaM (Za9 R h) 0 with
  |none=>rw[hp]at hk;have:=Nat.eq_of_beq_eq_true hk;omega
  |some p=>
   rw[hp]at hk
   simp only at hk⊢
   split at hk
   ·simpa using hk
   ·cases hk
 ·rw[hb,Blk.ren_tag]at ht
  unfold ZpV at hk
  cases hp:ZaM (Za9 R h) 0 with
  |none=>rw[hp]at ht;cases ht
  |some p=>
   rw[hp]at ht hk
   simp only at ht hk
   split at hk
   ·rename_i h0
    have h0:p.1=0:=Nat.eq_of_beq_eq_true h0
    rcases Zdl hp 0 with h1 |h1
    ·rw[h1]at ht;cases ht
    ·rw[h1,h0]at ht
     refine⟨ht,?_,?_⟩
     ·simp only[ZkW,hp,h0]
     ·simp only[ZkW,hp,h0]
   ·cases hk
theorem Zoh{C:Ctx}{fs fs':List AFrame}{h h':Zac}{Q:List AFrame→Zac→Prop}(hp:ZCe fs h=some (fs',h'))(hq:Ev C fs' h' Q):Ev C fs h Q:=by
 intro L fr cs w hf H hne
 unfold ZCe at hp
 dsimp only at hp
 split at hp
 ·cases hp
 ·rename_i hkeep
  split at hp
  ·cases hp
  ·rename_i gs hgs
   cases hp
   obtain⟨fs2,h2',L2,fr2,cs2,w2,q2,n2,a2,b2,s2⟩:=hq _ fr cs w (FrsRel.ren pack_good hgs hf) H.packed (fun e=>by
    subst e
    cases fs with
    |nil=>exact hne rfl
    |cons f fs=>
     simp only[Zow]at hgs
     split at hgs
     ·cases hgs
     ·split at hgs<;>cases hgs)
   exact⟨fs2,h2',L2,fr2,cs2,w2,q2,n2,a2,b2,s2.1,(Zwy hkeep).trans s2.2⟩
def ZvS(A:Ar)(T:Tab)(l:List Ctr)(n:Nat)(pk:Bool)(pa:List Bool)(f:AFrame)(fs:List AFrame)(h:Zac):Option (List Bool×List AFrame×Zac):=
 match Zgh A T l n pa [] f fs h with
 |none=>none
 |some (acc,f',fs',h')=>match pk with
  |false=>some (acc,f'::fs',h')
  |true=>match ZCe (f'::fs') h' with
   |none=>none
   |some (gs,h2)=>some (acc,gs,h2)
theorem ZtW{C:Ctx}{T:Tab}{l:List Ctr}{n:Nat}{pk:Bool}{pa acc:List Bool}{f:AFrame}{fs gs:List AFrame}{h h':Zac}{Q:List AFrame→Zac→Prop}(hfol:C.P.follows .mixedOrders=true)(hT:Zbt C.P T)(hl:ZaI C.P l)
 (hw:ZvS std T l n pk pa f fs h=some (acc,gs,h')) (hb:AllT acc) (hq:Ev C gs h' Q):Ev C (f::fs) h Q:=by
 unfold ZvS at hw
 split at hw
 ·cases hw
 ·rename_i acc1 f1 fs1 h1 hs
  split at hw
  ·cases hw
   exact(ZbM hfol hT hl n _ _ _ _ hs hb.mem hq).2
  ·split at hw
   ·cases hw
   ·rename_i gs2 h2 hp
    cases hw
    exact(ZbM hfol hT hl n _ _ _ _ hs hb.mem (Zoh hp hq)).2
end Go.Proofs.YtkeoeooghhjibaaGreatDoor
/- What comes back is read as a value. No condition. -/
namespace Go.Proofs.YtkeoeooghhjibaaGreatDoor
open Go.RowKit (Below)
inductive Frz1 (fr:Option Fresh):AV→AV→Prop
 |row (f:Fresh) (hf:fr=some f) (hp:f.r.pure=true) (hs:f.r.solid=true):Frz1 fr (.row 0 0) (.list f.r)
 |nil (r:Row) (h:r.elems=[]):Frz1 fr .nils (.list r)
 |same (v:AV) (hp:v.pure=true) (hs:v.solid=true):Frz1 fr v v
def FrzL(fr:Option Fresh):List AV→List AV→Prop
 |[],[]=>True
 |x::xs,y::ys=>Frz1 fr x y∧FrzL fr xs ys
 |_,_=>False
inductive Frz (fr:Option Fresh):AV→AV→Prop
 |one {v v':AV} (h:Frz1 fr v v'):Frz fr v v'
 |tup {xs ys:List AV} (h:FrzL fr xs ys):Frz fr (.tup xs) (.tup ys)
theorem FrzL.spec{fr:Option Fresh} :∀ {xs ys:List AV},FrzL fr xs ys→xs.length=ys.length∧∀(j:Nat) (y:AV),ys[j]? =some y→∃x,xs[j]? =some x∧Frz1 fr x y
 |[],[],_=>⟨rfl,fun j y h=>by simp at h⟩
 |x::xs,y::ys,h=>by
  obtain⟨h1,h2⟩:=h
  obtain⟨e1,e2⟩:=FrzL.spec h2
  refine⟨by simp[e1],fun j z hz=>?_⟩
  cases j with
  |zero=>simp at hz;subst hz;exact⟨x,rfl,h1⟩
  |succ j=>obtain⟨q,q1,q2⟩:=e2 j z (by simpa using hz);exact⟨q,by simpa using q1,q2⟩
section
variable {P:Program}{w w':World}{okA:Nat→Prop}{L':Lay}{fr:Option Fresh}
theorem Zme(H:HRel (Ctx.of P w okA []) (Zay fr) L' w'){v v':AV}{x:Value}(hs:Frz1 fr v v')(hr:ZaE (Ctx.of P w okA []) (Zay fr) L' w' v x):ZaE (Ctx.of P w (fun _=>False) []) [] L' w' v' x:=by
 cases hs with
 |nil r h=>cases hr with |nils=>exact .nil r none 0 h
 |same _ hp hs=>
  exact((hr.pure hp:Rel w' _ [] L' v x).solid hs)
 |row f hf hp hso=>
  subst hf
  have hb:blk (Zay (some f)) 0 0=.row f.e f.sz f.r:=rfl
  obtain⟨ht,h0,h1,h2,h3⟩:=H.rowAt hb
  cases hr with
  |row _ _ ad n c hn hlv=>
   obtain⟨had,rfl,rfl⟩:=hlv.2 _ ht
   by_cases hs0:L'.size 0 0=0
   ·have hre:f.r.elems=[]:=List.eq_nil_of_length_eq_zero (by omega)
    rw[hs0,show(f.sz,f.r.elems.length).2=0 by simp[hre]]
    exact .nil f.r _ _ hre
   obtain⟨hpl,cur,h4,h5,h6,h7,h8⟩:=H.curAt hb hs0
   have had:=had hs0
   subst had
   have hl:=H.live 0 0 hpl
   have hpa:=Za4 hp
   refine .list f.r _ rfl ⟨L'.loc 0 0,0,none⟩ _ _ f.sz _ hl.2 (.inr ⟨hl.1,fun a i ht=>absurd rfl ht.tag⟩) rfl hn h3 h6.1.symm h7 (fun j v hj=>h8 j v hj) hpa (fun j u v hu hv=>?_)
   have hsu:u.solid=true:=AV.solidL_mem (ZgD hso) hu
   exact((h6.2 j u v hu hv).pure (AV.pureL_mem hpa hu):Rel w' _ [] L' u v).solid hsu
theorem ZqS{f:FuncId}{args:List AV}{r r':AV}(h:Zan P f args r fr)(hz:Zmw fr=false)(hs:Frz fr r r'):Zan P f args r' ZB0:=by
 intro w okA L vs hargs hok
 refine(h w okA L vs hargs hok).mono ?_
 rintro e w' ⟨x,L',rfl,hb,hp⟩
 unfold Zi3 at hp
 rw[hz]at hp
 obtain⟨H,hr⟩:=hp
 refine⟨x,L',rfl,hb,?_⟩
 show ZaE (Ctx.of P w (fun _=>False) []) [] L' w' r' x
 cases hs with
 |one hs=>exact Zme H hs hr
 |tup hs=>
  obtain⟨e1,e2⟩:=hs.spec
  cases hr with
  |tup xs vs hl hrr=>
   refine .tup _ vs (by rw[←e1];exact hl) (fun j u v hu hv=>?_)
   obtain⟨q,q1,q2⟩:=e2 j u hu
   exact Zme H q2 (hrr j q v q1 hv)
end
def Zaz(A:Ar)(T:Tab)(l:List Ctr)(n:Nat)(pa:List Bool)(fs:List AFrame)(h:Zac):Option (List Bool×List AFrame×Zac):=
 match fs with
 |[]=>none
 |f::fs=>ZvS A T l n true pa f fs h
def ZaT(A:Ar)(T:Tab)(l:List Ctr)(n:Nat)(pa:List Bool)(fn:FuncId)(fs:List AFrame)(h:Zac):Option (List Bool×AV×Option Fresh):=
 match fs with
 |[]=>none
 |f::fs=>match Zgh A T l n pa [] f fs h with
  |none=>none
  |some (acc,g,gs,h')=>match gs with
   |_::_=>none
   |[]=>match g.ret&&Nat.beq g.fn fn with
    |false=>none
    |true=>match g.rnd with
     |some _=>none
     |none=>match g.defs with
      |_::_=>none
      |[]=>match ZmZ A g.env h' g.res with
       |none=>none
       |some (b,vs)=>match ZeE h' (Zfi vs)with
        |none=>none
        |some (r,fr)=>some (b::acc,r,fr)
section
variable {C:Ctx}{T:Tab}{l:List Ctr}{n:Nat}{pa acc:List Bool}{fs gs:List AFrame}{h h':Zac}{Q:List AFrame→Zac→Prop}
theorem ZDw(hfol:C.P.follows .mixedOrders=true)(hT:Zbt C.P T)(hl:ZaI C.P l)(hw:Zaz std T l n pa fs h=some (acc,gs,h'))(hb:AllT acc)(hq:Ev C gs h' Q):Ev C fs h Q:=by
 unfold Zaz at hw
 split at hw
 ·cases hw
 ·exact ZtW hfol hT hl hw hb hq
theorem ZxI(hfol:C.P.follows .mixedOrders=true)(hT:Zbt C.P T)(hl:ZaI C.P l){fn:FuncId}{r r':AV}{fr fr':Option Fresh}(hw:ZaT std T l n pa fn fs h=some (acc,r',fr'))(hb:AllT acc)(hr:r'=r)(hfr:fr'=fr):Ev C fs h (ZbT fn r fr):=by
 subst hr;subst hfr
 unfold ZaT at hw
 split at hw
 ·cases hw
 ·split at hw
  ·cases hw
  ·rename_i acc1 g gs1 h1 hs
   split at hw
   ·cases hw
   ·split at hw
    ·cases hw
    ·rename_i hg
     simp only[Bool.and_eq_true]at hg
     split at hw
     ·cases hw
     ·rename_i hn
      split at hw
      ·cases hw
      ·rename_i hd
       split at hw
       ·cases hw
       ·rename_i b vs hc
        split at hw
        ·cases hw
        ·rename_i hex
         cases hw
         have hb1:b=true:=hb.1
         subst hb1
         exact(ZbM hfol hT hl n _ _ _ _ hs hb.2.mem (.now (by simp) ⟨g,vs,rfl,Nat.eq_of_beq_eq_true hg.2,hg.1,hn,hd,hc,hex⟩)).2
end
end Go.Proofs.YtkeoeooghhjibaaGreatDoor
namespace Go.Proofs.YtkeoeooghhjibaaGreatDoor
@[simp] theorem ZGO (a b:Int):std.add a b=a+b:=rfl
@[simp] theorem ZHR (a b:Int):std.sub a b=a-b:=rfl
@[simp] theorem ZGx (a b:Int):std.mul a b=a*b:=rfl
@[simp] theorem ZF2 (a b:Int):std.quo a b=Int.tdiv a b:=rfl
@[simp] theorem ZId (a b:Int):std.rem a b=Int.tmod a b:=rfl
@[simp] theorem ZG1 (a:Int):std.neg a= -a:=rfl
@[simp] theorem ZFt (a b:Int):std.lt a b=decide (a<b):=rfl
@[simp] theorem Zsw (a b:Int):std.le a b=decide (a≤b):=rfl
@[simp] theorem ZB1 (a b:Int):std.eq a b=decide (a=b):=rfl
@[simp] theorem ZFU (a:Int):std.nat a=a.toNat:=rfl
@[simp] theorem Zjh (a:Nat):std.int a=(a:Int):=rfl
@[simp] theorem ZF3 (a b:Int):std.max a b=Max.max a b:=rfl
@[simp] theorem ZHl (a b:Int):std.min a b=Min.min a b:=rfl
@[simp] theorem ZGW (l:List Int):std.len l=l.length:=rfl
@[simp] theorem ZGi (l:List Int) (j:Nat):std.nth l j=l.getD j 0:=rfl
@[simp] theorem ZH7 (l:List Int) (j:Nat) (x:Int):std.set l j x=l.set j x:=rfl
@[simp] theorem ZHj (a b:List Int):std.app a b=a++b:=rfl
@[simp] theorem ZFM (l:List Int) (k n:Nat):std.sub3 l k n=(l.drop k).take n:=rfl
@[simp] theorem ZHZ (n:Nat) (x:Int):std.rep n x=List.replicate n x:=rfl
@[simp] theorem ZG9 (a:Bool):std.not a=!a:=rfl
@[simp] theorem ZE4 (l:List UInt8):std.lenS l=l.length:=rfl
@[simp] theorem ZE7 (l:List UInt8) (j:Nat):std.nthS l j=((l.getD j 0).toNat:Int):=rfl
@[simp] theorem ZFJ (a b:List UInt8):std.appS a b=a++b:=rfl
@[simp] theorem ZES (l:List UInt8) (k n:Nat):std.subS l k n=sub3 l k n:=rfl
@[simp] theorem ZHg (a b:List UInt8):std.eqS a b=(a==b):=rfl
@[simp] theorem Zc9 (ks:List AV) (s:List UInt8):std.hasS ks s=ks.any fun k=>k.toS==s:=rfl
@[simp] theorem ZG5 (s:List UInt8):std.byt s=s.map fun b=>(b.toNat:Int):=rfl
@[simp] theorem ZHV (a b:Int):std.shl a b=a*2^b.toNat:=rfl
@[simp] theorem ZHN (a b:Int):std.shr a b=a.fdiv (2^b.toNat):=rfl
@[simp] theorem ZCD (n:Int):std.inR .i64 n=decide (-9223372036854775808≤n∧n≤9223372036854775807):=rfl
@[simp] theorem ZGm (a b:Bool):Zaf a b=(a&&b):=by cases a<;>rfl
@[simp] theorem ZF8 (a b:Nat):Nat.blt a b=decide (a<b):=by rw[Bool.eq_iff_iff];simp
@[simp] theorem ZH6 (a b:Nat):Nat.ble a b=decide (a≤b):=by rw[Bool.eq_iff_iff];simp
@[simp] theorem ZHP (a b:Nat):Nat.beq a b=decide (a=b):=by rw[Bool.eq_iff_iff];simp
@[simp] theorem ZCd:AllT []=True:=rfl
@[simp] theorem Zkf (b:Bool) (l:List Bool):AllT (b::l)=(b=true∧AllT l):=rfl
def tru:Nat→List Bool→List Bool
 |0,l=>l
 |n+1,l=>true::tru n l
def tr:List Nat→List Bool→List Bool
 |k::ks,x::xs=>tru k (x::tr ks xs)
 |k::_,[]=>tru k []
 |[],xs=>xs
theorem ZiH(l:List Bool):∀n,AllT (tru n l)=AllT l
 |0=>rfl
 |n+1=>by simp only[tru,Zkf,ZiH l n,true_and]
@[simp] theorem Zwk:∀ks xs,AllT (tr ks xs)=AllT xs
 |k::ks,x::xs=>by simp only[tr,ZiH,Zkf,Zwk ks xs]
 |k::ks,[]=>by simp only[tr,ZiH]
 |[],xs=>rfl
end Go.Proofs.YtkeoeooghhjibaaGreatDoor
