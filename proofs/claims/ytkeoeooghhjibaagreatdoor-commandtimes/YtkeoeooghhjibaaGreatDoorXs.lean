/- Drawn regions, calls, returns, rounds of a loop over a function. No condition. -/
import Derived.Test.YtkeoeooghhjibaaGreatDoorXn
import Derived.RangeFuncNested
namespace Go.Proofs.YtkeoeooghhjibaaGreatDoor
open Go.RowKit (Below)
section
variable {C:Ctx}{h h':Zab}{L L':Lay}{w w':World}{Q:List AFrame→Zab→Prop}{f:AFrame}{fs:List AFrame}{k:List AItem}
theorem Zib{P:Program}{N:Nat}{all:List Oper} :∀ {l:List Oper} {aos:List AOp},Zdw P N all l aos=true→∀k,Zdw P N all (l.drop k) (aos.drop k)=true
 |l,aos,h,0=>h
 |[],[],_,k+1=>rfl
 |o::os,ao::aos,h,k+1=>by
  simp only[Zdw,Bool.and_eq_true]at h
  exact Zib h.2 k
 |[],_::_,h,_=>by simp[Zdw]at h
 |_::_,[],h,_=>by simp[Zdw]at h
theorem ZiY{fr:List (Nat×Nat)}{ops:List AOp}{zs:List Foot}{ε2:Env}{env2:List (Nat×AV)}(hfol:C.P.follows .mixedOrders=true)(hany:Zkq fr=false)(hr:f.ret=false)(ht:f.todo=.code (.reg (some fr) ops)::k)(hza:zs.map (·.o)=ops.take (ZcF ops))(hfree:∀(i j:Nat) (x z:Foot),(i,j)∈fr→zs[i]? =some x→zs[j]? =some z→(x.o.k.neutral=true∨z.o.k.neutral=true∨x.o.frees z.o=true)→Zm0 x z)
 (hrun:Runs C.P zs (ZaL f.env) h ε2 h') (henv:∀t av,ZaL env2 t=some av→ε2 t=some av)
 (hq:Ev C ({ f with env:=env2,todo:=.inReg (ops.drop (ZcF ops))::k } ::fs) h' Q):Ev C (f::fs) h Q:=by
 intro L fr cs w hf H _
 cases hf with
 |cons hf hk=>
  rcases hf.mode with⟨e,_⟩ |⟨_,hm,hi⟩
  ·rw[hr]at e;cases e
  ·rw[ht]at hi
   obtain⟨fn,tmps,todo,defers,mode,kind,rnd⟩:=fr
   cases hi with
   |cons hx hki=>
    cases hx with
    |code _ c hmc=>
     dsimp only at hm;subst hm
     cases c<;>simp only[Za4,Bool.false_eq_true,Bool.and_eq_true,beq_iff_eq]at hmc
     rename_i l id ops' draw
     obtain⟨⟨rfl,hmc⟩,hdr⟩:=hmc
     obtain⟨hlen0,_⟩:=ZcE hmc
     have hca:=ZiT ops
     have hzl:zs.length=ZcF ops:=by have:=congrArg List.length hza;simp only[List.length_map,List.length_take]at this;omega
     have hlen:zs.length≤ops'.toList.length:=by omega
     obtain⟨s0,H0⟩:=H.grow (w':=w.drew) ((Below.refl _ _).drew)
     have hleft:left zs (Array.replicate ops'.size false)=zs:=by
      unfold left
      have:((List.range zs.length).filter fun i=>!(Array.replicate ops'.size false).getD i true)=List.range zs.length:=by
       apply List.filter_eq_self.2
       intro i hi
       have:i<ops'.size:=by have:i<zs.length:=by simpa using hi
                            have h2:=Nat.lt_of_lt_of_le this hlen;simpa using h2
       simp[this]
      rw[this]
      apply List.ext_getElem?
      intro j
      have key:∀n,n≤zs.length→(List.range n).filterMap (fun i=>zs[i]?)=zs.take n:=by
       intro n
       induction n with
       |zero=>intro _;rfl
       |succ n ih=>
        intro hn
        rw[List.range_succ,List.filterMap_append,ih (by omega),List.take_add_one]
        cases hh:zs[n]?<;>simp[hh]
      rw[key _ (Nat.le_refl _),List.take_length]
     have hcount:((List.range zs.length).filter fun i=>!(Array.replicate ops'.size false).getD i true).length=zs.length:=by
      have:((List.range zs.length).filter fun i=>!(Array.replicate ops'.size false).getD i true)=List.range zs.length:=by
       apply List.filter_eq_self.2
       intro i hi
       have:i<ops'.size:=by have:i<zs.length:=by simpa using hi
                            have h2:=Nat.lt_of_lt_of_le this hlen;simpa using h2
       simp[this]
      rw[this];simp only[List.length_range]
     have hf0:=hf.step s0
     obtain⟨tmps',w',L',s,H',he',hN',hst⟩:=Zwb (C:=C) (opl:=ops'.toList) hza hfree hmc hdr hany (fn:=fn) (kind:=kind) (defers:=defers) (rnd:=rnd) (cs:=cs) (l:=l) zs.length (w.tape w.drawn (.order fn id)) (Array.replicate ops'.size false) (ZaL f.env) h L w.drew tmps
      (by simp) (fun j o hj hl=>by
        have:j<ops'.size∨ops'.size≤j:=Nat.lt_or_ge _ _
        rcases this with h1 |h1
        ·simp[h1]at hl
        ·simp[Array.getElem?_eq_none (show (Array.replicate ops'.size false).size≤j by simpa using h1)]at hl) (fun j _=>by rcases Nat.lt_or_ge j ops'.size with h1 |h1<;>simp[h1]) hcount (by rw[hleft];exact hrun) H0 hf0.env hf.size
     have s':=s0.trans s
     have hfs:=hf.step s'
     obtain⟨fs2,h2',L2,fr2,cs2,w2,q2,n2,a2,b2,s2⟩:=hq L' { fn,tmps:=tmps',todo:=.inRegion ops'.toList.toArray ((List.range ops'.toList.length).drop zs.length)::l,defers,mode:=.run,kind,roundOf:=rnd } cs w'
      (.cons ⟨hf.fn,hN',fun t av hta=>he' t av (henv t av hta),hf.kind,hfs.defs,hfs.rnd, .inr ⟨hr,rfl, .cons (.inReg ops'.toList _ _ (Ze7 (l:=ops'.toList.drop zs.length) rfl (by rw[hzl];exact Zib hmc _))) (hki.step s')⟩,hf.res⟩ (hk.step s')) H' (by simp)
     refine⟨fs2,h2',L2,fr2,cs2,w2,q2,n2,a2,b2,?_,(Fr.of s').trans s2.2⟩
     replace s2:=s2.1
     have e0:ops'.toList.length=ops'.size:=by simp
     have hfuel:zs.length+(ops'.toList.length-zs.length)=ops'.size:=by omega
     rw[hfuel]at hst
     refine Steps.trans (go1 (w':=w.drew) (fr':={ fn,tmps,todo:=.inRegion ops'.toList.toArray (Region.linearise.go .any ops'.toList.toArray ops'.size (w.tape w.drawn (.order fn id)) (Array.replicate ops'.size false) [])::l,defers,mode:=.run,kind,roundOf:=rnd }) ?_) (hst.trans s2)
     simp[stepG,stepG.exec,choose,Sem.run,Question.forced,Question.cut,Region.schedule,hfol,Region.linearise]
def Zat(T:Tab)(g:FuncId)(avs:List AV):Option AFrame:=
 match T g with
 |some af=>match Nat.ble avs.length af.N with
  |true=>some { fn:=g,N:=af.N,env:=Zg2 0 avs,todo:=[.code af.code],defs:=[],rnd:=none,ret:=false,res:=af.res }
  |false=>none
 |none=>none
theorem ZdH{T:Tab}(hT:Zbu C.P T){g:FuncId}{avs:List AV}{af:AFrame}{vs:Array Value}(he:Zat T g avs=some af)(hrel:RelL w (Zaw C h L) h L avs vs.toList):FrRel C h L w af (Frame.enter C.P g vs .normal)∧Zbj C.P g=true:=by
 unfold Zat at he
 split at he
 ·rename_i fu hfu
  split at he
  ·rename_i hle
   have hle:avs.length≤fu.N:=by simpa using hle
   cases he
   have hmf:=hT g fu hfu
   unfold Zap at hmf
   split at hmf
   ·rename_i fn hfn
    simp only[Bool.and_eq_true,beq_iff_eq]at hmf
    obtain⟨⟨⟨h1,h2⟩,h3⟩,h4⟩:=hmf
    split at h2
    ·rename_i c hc
     have hsz:vs.size≤fu.N:=by have:=hrel.1;simp at this;omega
     refine⟨⟨rfl,?_,?_,rfl,⟨[],rfl,rfl,fun j d g hd=>by simp at hd⟩,rfl, .inr ⟨rfl,rfl,?_⟩,fun _=>⟨fn,hfn,h3⟩⟩,h4⟩
     ·simp[Frame.enter,hfn,h1];omega
     ·intro t av ht
      rw[ZgM]at ht
      simp only[Nat.zero_le,if_true,Nat.sub_zero]at ht
      have hlt:t<avs.length:=(List.getElem?_eq_some_iff.1 ht).1
      have hv:vs.toList[t]? =some (vs.toList[t]'(by rw[←hrel.1];exact hlt)):=List.getElem?_eq_getElem _
      have hr:=hrel.2 t av _ ht hv
      have hlv:t<vs.size:=by have:=hrel.1;simp at this;omega
      have:(Frame.enter C.P g vs .normal).tmps.getD t undef=vs.toList[t]'(by rw[←hrel.1];exact hlt):=by
       simp[Frame.enter,hfn,Array.getD_eq_getD_getElem?,Array.getElem?_append_left hlv,hlv]
      rw[this];exact hr
     ·have:(Frame.enter C.P g vs .normal).todo=[.code c]:=by simp[Frame.enter,hfn,hc]
      rw[this]
      exact .cons (.code _ _ h2) .nil
    ·cases h2
   ·cases hmf
  ·cases he
 ·cases he
def ZfF(o:AOp)(env:List (Nat×AV)):Prop:=match o.g with |none=>True |some (t,want)=>ZaL env t=some (.bool want)
theorem ZvG{T:Tab}(hT:Zbu C.P T){o:AOp}{os:List AOp}{g:FuncId}{avs:List AV}{af:AFrame}(hr:f.ret=false)(ht:f.todo=.inReg (o::os)::k)(hg:ZfF o f.env)
 (ho:(∃args m a,(o.k=.icall g args∨o.k=.ncall m a g args)∧avs=args.map (Zbd (ZaL f.env)))∨(∃x args caps m a,(o.k=.icallv x args∨o.k=.ncallv m a x args)∧Zbd (ZaL f.env) x=.fn g caps∧avs=args.map (Zbd (ZaL f.env))++caps))
 (he:Zat T g avs=some af) (hq:Ev C (af::f::fs) h Q):Ev C (f::fs) h Q:=by
 intro L fr cs w hf H _
 cases hf with
 |cons hf hk=>
  rcases hf.mode with⟨e,_⟩ |⟨_,hm,hi⟩
  ·rw[hr]at e;cases e
  ·have hi0:=hi
   rw[ht]at hi
   cases hi':fr.todo with
   |nil=>rw[hi']at hi;cases hi
   |cons y l=>
    rw[hi']at hi
    cases hi with
    |cons hx hki=>
     cases hx with
     |inReg ops ix _ hmc=>
      obtain⟨kk,ix',op,rfl,e1,e2,e3⟩:=ZeM hmc
      have henv:EnvF C h L w (ZaL f.env) fr.tmps:=hf.env
      obtain⟨g0,g1,_⟩:=ZlE henv e2
      have hwant:Region.wanted op (yielded ops.toArray fr.tmps)=true:=by
       unfold ZfF at hg
       split at hg
       ·rename_i hgg;exact g0 hgg
       ·rename_i t want hgg;rw[g1 t want want hgg hg];simp
      have e2':=e2
      simp only[ZnU,Bool.and_eq_true,beq_iff_eq]at e2'
      obtain⟨⟨⟨⟨hnd,_⟩,_⟩,_⟩,hmop⟩:=e2'
      have hρ:=ZzL henv
      obtain⟨vs,hrun,hrel⟩:∃vs,(∀hc:Zbj C.P g=true,(execOp fr.eval op).run C.P w=.ok (.enter g vs) w)∧RelL w (Zaw C h L) h L avs vs.toList:=by
       rcases ho with⟨args,m,a,hok,rfl⟩ |⟨x,args,caps,m,a,hok,hx,rfl⟩
       ·rcases hok with hok |hok<;>rw[hok]at hmop<;>simp only[mop]at hmop<;>split at hmop<;>first
         |(rename_i f' args' ts hop
           simp only[Bool.and_eq_true,beq_iff_eq]at hmop
           obtain⟨⟨rfl,hmop⟩,hcal⟩:=hmop
           exact⟨args'.map fr.eval,fun hc=>by simpa using Zgo (w:=w) hop (hρ.fnc g) hc,Zb9 hρ hmop⟩)
         |cases hmop
       ·rcases hok with hok |hok<;>rw[hok]at hmop<;>simp only[mop]at hmop<;>split at hmop<;>first
         |(rename_i x' args' ts hop
           simp only[Bool.and_eq_true]at hmop
           have rx:=hρ.rel x x' hmop.1
           rw[hx]at rx
           obtain⟨cvs,c1,c2⟩:=ZzP rx
           exact⟨args'.map fr.eval++cvs,fun hc=>Zgo (w:=w) hop c1 hc,by rw[Array.toList_append];exact(Zb9 hρ hmop.2).append c2⟩)
         |cases hmop
      obtain⟨hfr,hcal⟩:=ZdH hT he hrel
      obtain⟨fs2,h2',L2,fr2,cs2,w2,q2,n2,a2,b2,s2⟩:=hq L _ (fr::cs) w (.cons hfr (.cons ⟨hf.fn,hf.size,hf.env,hf.kind,hf.defs,hf.rnd, .inr ⟨hr,hm,hi0⟩,hf.res⟩ hk)) H (by simp)
      exact⟨fs2,h2',L2,fr2,cs2,w2,q2,n2,a2,b2,(Zim hm hi' (by simpa using e1) hwant hnd (hrun hcal)).trans s2.1,s2.2⟩
def Zei(A:Ar)(env:List (Nat×AV))(h:Zab):List ARes→Option (Bool×List AV)
 |[]=>some (true,[])
 | .tmp t::rs=>match Zei A env h rs with
   |some (b,vs)=>some (b,Zbd (ZaL env) (.t t)::vs)
   |none=>none
 | .cell t ag n::rs=>match ZkI A h ag n (Zbd (ZaL env) (.t t)),Zei A env h rs with
   |some (b1,v),some (b2,vs)=>some (Zaf b1 b2,v::vs)
   |_,_=>none
def Ze6:List AV→AV
 |[v]=>v
 |vs=>.tup vs
def Zzb(tmps:Array Value):ResultVar→Sem Value
 | .tmp t=>pure (tmps.getD t undef)
 | .cell a t=>do loadVar t (←asAddr (tmps.getD a undef))
theorem ZhL(fn:Func)(tmps:Array Value):results fn tmps=(fn.results.mapM (Zzb tmps) >>= fun vs=>pure (if h:vs.size=1 then vs[0]else .tuple vs)):=rfl
theorem Zja(H:HRel C h L w){env:List (Nat×AV)}{tmps:Array Value}(he:EnvRel C h L w env tmps):∀(rs:List ResultVar) (as:List ARes) (vs:List AV),Zm4 C.P rs as=true→Zei std env h as=some (true,vs)→
 ∃xs:List Value,RelL w (Zaw C h L) h L vs xs∧(rs.mapM (Zzb tmps)).run C.P w=.ok xs w
 |[],[],vs,_,hc=>by simp only[Zei,Option.some.injEq,Prod.mk.injEq,true_and]at hc;subst hc;exact⟨[],RelL.nil,by simp⟩
 | .tmp t::rs, .tmp t'::as,vs,hm,hc=>by
   simp only[Zm4,Bool.and_eq_true,beq_iff_eq]at hm
   obtain⟨rfl,hm⟩:=hm
   simp only[Zei]at hc
   split at hc
   ·rename_i b vs' hc'
    simp only[Option.some.injEq,Prod.mk.injEq]at hc
    obtain⟨rfl,rfl⟩:=hc
    obtain⟨xs,h1,h2⟩:=Zja H he rs as vs' hm hc'
    have hv:ZaC C h L w (Zbd (ZaL env) (.t t)) (tmps.getD t undef):=by
     simp only[Zbd]
     cases hg:ZaL env t with
     |none=>exact .top _
     |some av=>exact he t av hg
    exact⟨tmps.getD t undef::xs,RelL.cons hv h1,by simp only[List.mapM_cons,Zzb,Sem.run_bind,Sem.run_pure,Result.andThen_ok];rw[h2];rfl⟩
   ·cases hc
 | .cell t ty::rs, .cell t' ag n::as,vs,hm,hc=>by
   simp only[Zm4,Bool.and_eq_true,beq_iff_eq]at hm
   obtain⟨⟨rfl,hsh⟩,hm⟩:=hm
   obtain⟨d,i,hd,hag,hi,hn,hne⟩:=Zb2 hsh
   simp only[Zei]at hc
   split at hc
   ·rename_i b1 v b2 vs' hl hc'
    simp only[Option.some.injEq,Prod.mk.injEq,std_and]at hc
    obtain⟨⟨rfl,rfl⟩,rfl⟩:=hc
    obtain⟨xs,h1,h2⟩:=Zja H he rs as vs' hm hc'
    have hv:ZaC C h L w (Zbd (ZaL env) (.t t)) (tmps.getD t undef):=by
     simp only[Zbd]
     cases hg:ZaL env t with
     |none=>exact .top _
     |some av=>exact he t av hg
    obtain⟨x,ad,e1,e2,e3⟩:=Zl8 H hv hd hag hi hn hne hl
    have ea:(asAddr (tmps.getD t undef)).run C.P w=.ok ad w:=by rw[e1];rfl
    exact⟨x::xs,RelL.cons e3 h1,by simp only[List.mapM_cons,Zzb,Sem.run_bind,Result.andThen_ok,ea,e2];rw[h2];rfl⟩
   ·cases hc
 |[],_::_,_,hm,_=>by simp[Zm4]at hm
 | .tmp _::_,[],_,hm,_=>by simp[Zm4]at hm
 | .cell _ _::_,[],_,hm,_=>by simp[Zm4]at hm
 | .tmp _::_, .cell _ _ _::_,_,hm,_=>by simp[Zm4]at hm
 | .cell _ _::_, .tmp _::_,_,hm,_=>by simp[Zm4]at hm
theorem ZcV(H:HRel C h L w){env:List (Nat×AV)}{tmps:Array Value}(he:EnvRel C h L w env tmps){fn:Func}{as:List ARes}{vs:List AV}(hm:Zm4 C.P fn.results.toList as=true)(hc:Zei std env h as=some (true,vs)):
 ∃x,(results fn tmps).run C.P w=.ok x w∧ZaC C h L w (Ze6 vs) x:=by
 obtain⟨xs,h1,h2⟩:=Zja H he fn.results.toList as vs hm hc
 have h3:(fn.results.mapM (Zzb tmps)).run C.P w=.ok xs.toArray w:=by
  rw[Array.mapM_eq_mapM_toList]
  show Sem.run C.P (List.mapM _ _ >>= fun x=>pure x.toArray) w=_
  rw[Sem.run_bind,h2]
  rfl
 have hl:=h1.1
 unfold Ze6
 split
 ·rename_i v
  obtain⟨x,rfl⟩:∃x,xs=[x]:=by
   cases xs with
   |nil=>simp at hl
   |cons x r=>cases r with
    |nil=>exact⟨x,rfl⟩
    |cons y r=>simp at hl
  exact⟨x,by rw[ZhL,Sem.run_bind,h3];rfl,h1.2 0 v x rfl rfl⟩
 ·rename_i hne
  have hsz:xs.toArray.size≠1:=by
   intro e
   cases vs with
   |nil=>simp at hl e;omega
   |cons v r=>cases r with
    |nil=>exact hne v rfl
    |cons y r=>simp at hl e;omega
  exact⟨.tuple xs.toArray,by rw[ZhL,Sem.run_bind,h3,Result.andThen_ok,dif_neg hsz];rfl, .tup vs xs.toArray (by simpa using hl) (fun j u v hu hv=>h1.2 j u v hu (by simpa using hv))⟩
def Zws(f:AFrame)(v:AV):Option AFrame:=
 match f.ret,f.todo with
 |false, .inReg (o::os)::k=>some { f with env:=ZmE f.env o.d v,todo:=.inReg os::k }
 |false, .inRF a i::k=>some { f with todo:=.endRF a i::k }
 |_,_=>none
theorem ZnY{f f':AFrame}{fr:Frame}{v:AV}{x:Value}(hf:FrRel C h L w f fr)(hv:ZaC C h L w v x)(he:Zws f v=some f'):FrRel C h L w f' (fr.finish x):=by
 unfold Zws at he
 split at he
 ·rename_i o os k hr ht
  cases he
  rcases hf.mode with⟨e,_⟩ |⟨_,hm,hi⟩
  ·rw[hr]at e;cases e
  ·rw[ht]at hi
   cases hi':fr.todo with
   |nil=>rw[hi']at hi;cases hi
   |cons y l=>
    rw[hi']at hi
    cases hi with
    |cons hx hki=>
     cases hx with
     |inReg ops ix _ hmc=>
      obtain⟨kk,ix',op,rfl,e1,e2,e3⟩:=ZeM hmc
      have e2':=e2
      simp only[ZnU,Bool.and_eq_true,beq_iff_eq]at e2'
      obtain⟨⟨⟨⟨_,hdst⟩,hdN⟩,_⟩,_⟩:=e2'
      rw[ZfA hi' (by simpa using e1),hdst]
      have hp:EnvF C h L w (Env.put (ZaL f.env) o.d v) (Zjp fr.tmps o.d x):=EnvF.put hf.env (fun d' e=>by rw[e]at hdN;rw[hf.size];simpa using hdN) (fun _=>hv)
      exact⟨hf.fn,by rw[Zeu];exact hf.size,fun t av hta=>hp t av (by rw[←Zdb];exact hta),hf.kind,hf.defs,hf.rnd, .inr ⟨hr,hm, .cons (.inReg ops ix' os e3) hki⟩,hf.res⟩
 ·rename_i a i k hr ht
  cases he
  rcases hf.mode with⟨e,_⟩ |⟨_,hm,hi⟩
  ·rw[hr]at e;cases e
  ·rw[ht]at hi
   cases hi':fr.todo with
   |nil=>rw[hi']at hi;cases hi
   |cons y l=>
    rw[hi']at hi
    cases hi with
    |cons hx hki=>
     cases hx with
     |inRF _ _ g hl=>
      have:fr.finish x= { fr with todo:=.endRangeFunc g::l } :=by
       obtain⟨fn,tmps,todo,defers,mode,kind,rnd⟩:=fr
       dsimp only at hi';subst hi'
       rfl
      rw[this]
      exact⟨hf.fn,hf.size,hf.env,hf.kind,hf.defs,hf.rnd, .inr ⟨hr,hm, .cons (.endRF _ _ g hl) hki⟩,hf.res⟩
 ·cases he
theorem ZxQ{c c':AFrame}{vs:List AV}(hr:f.ret=true)(hn:f.rnd=none)(hd:f.defs=[])(hc:Zei std f.env h f.res=some (true,vs))(hfin:Zws c (Ze6 vs)=some c')(hq:Ev C (c'::fs) h Q):Ev C (f::c::fs) h Q:=by
 intro L fr cs w hf H _
 cases hf with
 |cons hf hk=>
  cases hk with
  |cons hfc hk=>
   rename_i frc csc
   rcases hf.mode with⟨_,hm⟩ |⟨e,_⟩
   ·obtain⟨fn,hfn,hmr⟩:=hf.res hn
    obtain⟨x,e1,e2⟩:=ZcV H hf.env hmr hc
    obtain⟨fs2,h2',L2,fr2,cs2,w2,q2,n2,a2,b2,s2⟩:=hq L (frc.finish x) csc w (.cons (ZnY hfc e2 hfin) hk) H (by simp)
    refine⟨fs2,h2',L2,fr2,cs2,w2,q2,n2,a2,b2,Steps.trans (.one (step_leave_returned ⟨hm,?_,hf.kind,fn,?_,e1⟩)) s2.1,s2.2⟩
    ·obtain⟨gs,g1,g2,_⟩:=hf.defs
     rw[hd]at g2
     rw[g1,List.eq_nil_of_length_eq_zero g2];rfl
    ·rw[hf.fn];exact hfn
   ·rw[hr]at e;cases e
end
end Go.Proofs.YtkeoeooghhjibaaGreatDoor
/- Ghosts; the rounds of a loop over a function. No condition. -/
namespace Go.Proofs.YtkeoeooghhjibaaGreatDoor
open Go.RowKit (Below)
section
variable {C:Ctx}{h h':Zab}{L L':Lay}{w w':World}{Q:List AFrame→Zab→Prop}{f:AFrame}{fs:List AFrame}{k:List AItem}
theorem ZdG(w:World)(g:Nat)(o:Obj):w.grownBy (w.putObj g o) (some g):=⟨rfl,rfl,rfl,by simp,fun k _ hne=>World.putObj_heap_other (fun e=>hne (by rw[e]))⟩
theorem HRel.killW(H:HRel C h L w){a i:Nat}(hl:(blk h a i).tag≠none)(hg:w.grownBy w' (some (L.loc a i))):Step w (Zaw C h L) h L w' (Zaw C (ZaW h a i .dead) L) (ZaW h a i .dead) L∧HRel C (ZaW h a i .dead) L w':=by
 have hnd:blk h a i≠ .dead:=fun e=>hl (by rw[e];rfl)
 have hblk:∀c j,blk (ZaW h a i .dead) c j=if a=c∧i=j then .dead else blk h c j:=fun c j=>Zc3 hnd c j .dead
 have hb:Below C.base w w':=(Below.refl _ _).grown hg H.hbase (fun k hk=>by cases hk;exact(H.live a i hl).1)
 have htag:∀c j,(blk (ZaW h a i .dead) c j).tag≠none→(blk h c j).tag≠none∧¬(c=a∧j=i):=fun c j ht=>by
  rw[hblk]at ht
  split at ht
  ·exact absurd rfl ht
  ·rename_i hne;exact⟨ht,fun e=>hne ⟨e.1.symm,e.2.symm⟩⟩
 have hs:Step w (Zaw C h L) h L w' (Zaw C (ZaW h a i .dead) L) (ZaW h a i .dead) L:=by
  refine⟨hb.size,fun k hk ho=>⟨?_,hg.block k hk (fun e=>Zqc H ho hl (by simpa using e))⟩,fun c=>by rw[ZeX];exact Nat.le_refl _,fun c j sz _ ht=>?_⟩
  ·rcases ho with ho |⟨h1,h2⟩
   ·exact .inl ho
   ·exact .inr ⟨h1,fun c j hc=>h2 c j (htag c j hc).1⟩
  ·rw[hblk]at ht
   split at ht
   ·cases ht
   ·exact⟨ht,rfl,rfl⟩
 refine⟨hs,H.one hs hb a i (fun c j hne=>?_) (fun ht=>?_) (fun ht=>absurd rfl (by rw[hblk,if_pos ⟨rfl,rfl⟩]at ht;exact ht)) (fun k hk ho=>hg.block k (Nat.lt_of_lt_of_le hk H.top) (fun e=>H.off hk ho hl (by simpa using e))) ?_ (fun c j _ _ ht=>?_)⟩
 ·have he:blk (ZaW h a i .dead) c j=blk h c j:=by rw[hblk,if_neg (fun e=>hne ⟨e.1.symm,e.2.symm⟩)]
  by_cases hdd:(blk h c j).tag=none
  ·rw[Zgk hdd]at he;exact .inl he
  ·refine .inr ⟨he,rfl,rfl,hg.block _ (H.live c j hdd).2 (fun e=>?_)⟩
   obtain⟨rfl,rfl⟩:=H.inj c j a i hdd hl (by simpa using e)
   exact hne ⟨rfl,rfl⟩
 ·rw[hblk,if_pos ⟨rfl,rfl⟩]at ht;exact absurd rfl ht
 ·rw[hblk,if_pos ⟨rfl,rfl⟩];trivial
 ·rw[hblk,if_pos ⟨rfl,rfl⟩]at ht;exact absurd rfl ht
def ZzI(ts:List Nat)(env:List (Nat×AV)):List (Nat×AV):=env.filter fun p=>ts.any fun t=>Nat.beq p.1 t
def Zkd(env:List (Nat×AV))(h:Zab):Ghost→Option (List (Nat×AV)×Zab)
 | .keep ts=>some (ZzI ts env,h)
 | .drop a=>some (env,Zng h a)
 | .frz t=>match ZaL env t with
   |some (.row a i)=>match Zl9 a,blk h a i with
    |false, .row _ _ r=>(match r.pure with |true=>some (Zc8 env t (.list r),ZaW h a i .dead) |false=>none)
    |_,_=>none
   |some .nils=>some (Zc8 env t (.list (.ints .i64 [])),h)
   |some (.list _)=>some (env,h)
   |_=>none
def Zeg(env:List (Nat×AV))(h:Zab):List Ghost→Option (List (Nat×AV)×Zab)
 |[]=>some (env,h)
 |g::gs=>match Zkd env h g with |some (e,h1)=>Zeg e h1 gs |none=>none
theorem ZkZ(p:Nat→Bool)(env:List (Nat×AV))(t:Nat):ZaL (env.filter fun q=>p q.1) t=if p t then ZaL env t else none:=by
 have hb:∀a b:Nat,Nat.beq a b=decide (a=b):=fun a b=>by rw[Bool.eq_iff_iff];simp
 induction env with
 |nil=>simp[ZaL]
 |cons q env ih=>
  obtain⟨i,x⟩:=q
  by_cases hp:p i=true
  ·rw[List.filter_cons,if_pos hp]
   simp only[ZaL,hb]
   by_cases hi:i=t
   ·subst hi;simp[hp]
   ·simp only[hi,decide_false,ih]
  ·rw[List.filter_cons,if_neg hp,ih]
   simp only[ZaL,hb]
   by_cases hi:i=t
   ·subst hi;simp[hp]
   ·simp only[hi,decide_false]
theorem ZkN(H:HRel C h L w){env env':List (Nat×AV)}{tmps:Array Value}(he:EnvRel C h L w env tmps){g:Ghost}(hg:Zkd env h g=some (env',h')):Step w (Zaw C h L) h L w (Zaw C h' L) h' L∧HRel C h' L w∧EnvRel C h' L w env' tmps:=by
 cases g with
 |keep ts=>
  simp only[Zkd,Option.some.injEq,Prod.mk.injEq]at hg
  obtain⟨rfl,rfl⟩:=hg
  refine⟨Step.refl _ _ _ _,H,fun t av ht=>?_⟩
  unfold ZzI at ht
  rw[ZkZ (fun i=>ts.any fun t=>Nat.beq i t)]at ht
  split at ht
  ·exact he t av ht
  ·cases ht
 |drop a=>
  simp only[Zkd,Option.some.injEq,Prod.mk.injEq]at hg
  obtain⟨rfl,rfl⟩:=hg
  obtain⟨s,H'⟩:=H.kill (Zng h a) (fun b=>ZqG _ _ _) (fun b i=>by rw[Zqi];split;exact .inl rfl;exact .inr rfl)
  exact⟨s,H',he.step s⟩
 |frz t=>
  simp only[Zkd]at hg
  split at hg
  ·rename_i a i hta
   split at hg
   ·rename_i e sz r hfz hb
    split at hg
    ·rename_i hp
     simp only[Option.some.injEq,Prod.mk.injEq]at hg
     obtain⟨rfl,rfl⟩:=hg
     have hnd:blk h a i≠ .dead:=by rw[hb];simp
     obtain⟨k1,k2⟩:=ZeG hnd
     obtain⟨s,H'⟩:=H.kill (ZaW h a i .dead) k1 (fun b j=>(k2 b j).imp id fun e=>e.2)
     refine⟨s,H',fun t' av ht'=>?_⟩
     rw[Zcb]at ht'
     split at ht'
     ·rename_i htt
      subst htt
      cases ht'
      have hr:=he t _ hta
      obtain⟨ht,h0,h1,h2,h3,cur,h4,h5,h6,h7,h8⟩:=H.rowAt hb
      generalize tmps.getD t undef=x at hr
      cases hr with
      |row _ _ g o n c hn hl=>
       obtain⟨rfl,rfl,rfl,rfl⟩:=hl.2 _ ht
       have hlv:=H.live a i (by rw[ht];simp)
       refine .list r _ rfl ⟨L.loc a i,0,none⟩ _ _ sz (cur.toList.take (r.elems.length*sz)) hlv.2 (.inr ⟨H.far (by rw[ht];simp) (Zfi hfz),fun b j htb e=>?_⟩) rfl hn h3 h6.1.symm h7 h8 (Za1 hp) (fun j u v hu hv=>(h6.2 j u v hu hv).step s)
       rw[Zc3 hnd]at htb
       split at htb
       ·exact absurd rfl htb
       ·rename_i hne
        obtain⟨rfl,rfl⟩:=H.inj b j a i htb (by rw[ht];simp) e
        exact hne ⟨rfl,rfl⟩
     ·exact(he t' av ht').step s
    ·cases hg
   ·cases hg
  ·rename_i hta
   simp only[Option.some.injEq,Prod.mk.injEq]at hg
   obtain⟨rfl,rfl⟩:=hg
   refine⟨Step.refl _ _ _ _,H,fun t' av ht'=>?_⟩
   rw[Zcb]at ht'
   split at ht'
   ·rename_i htt
    subst htt
    cases ht'
    have hr:=he t _ hta
    generalize tmps.getD t undef=x at hr
    cases hr with
    |nils=>exact .nil _ none 0 rfl
   ·exact he t' av ht'
  ·simp only[Option.some.injEq,Prod.mk.injEq]at hg
   obtain⟨rfl,rfl⟩:=hg
   exact⟨Step.refl _ _ _ _,H,he⟩
  ·cases hg
theorem ZfV:∀ {gs:List Ghost} {h:Zab} {env env':List (Nat×AV)} {tmps:Array Value},HRel C h L w→EnvRel C h L w env tmps→Zeg env h gs=some (env',h')→Step w (Zaw C h L) h L w (Zaw C h' L) h' L∧HRel C h' L w∧EnvRel C h' L w env' tmps
 |[],h,env,env',tmps,H,he,hg=>by
  simp only[Zeg,Option.some.injEq,Prod.mk.injEq]at hg
  obtain⟨rfl,rfl⟩:=hg
  exact⟨Step.refl _ _ _ _,H,he⟩
 |g::gs,h,env,env',tmps,H,he,hg=>by
  simp only[Zeg]at hg
  split at hg
  ·rename_i e h1 hg1
   obtain⟨s1,H1,he1⟩:=ZkN H he hg1
   obtain⟨s2,H2,he2⟩:=ZfV H1 he1 hg
   exact⟨s1.trans s2,H2,he2⟩
  ·cases hg
theorem Zps{gs:List Ghost}{env':List (Nat×AV)}(hg:Zeg f.env h gs=some (env',h'))(hq:Ev C ({ f with env:=env' } ::fs) h' Q):Ev C (f::fs) h Q:=by
 intro L fr cs w hf H _
 cases hf with
 |cons hf hk=>
  obtain⟨s,H',he⟩:=ZfV H hf.env hg
  have hfs:=hf.step s
  obtain⟨fs2,h2',L2,fr2,cs2,w2,q2,n2,a2,b2,s2⟩:=hq L fr cs w (.cons ⟨hf.fn,hf.size,he,hf.kind,hfs.defs,hfs.rnd,hfs.mode,hf.res⟩ (hk.step s)) H' (by simp)
  exact⟨fs2,h2',L2,fr2,cs2,w2,q2,n2,a2,b2,s2.1,(Fr.of s).trans s2.2⟩
theorem ZBm{gs:List Ghost}{c:ACode}{env':List (Nat×AV)}(hr:f.ret=false)(ht:f.todo=.code (.gh gs c)::k)(hg:Zeg f.env h gs=some (env',h'))(hq:Ev C ({ f with env:=env',todo:=.code c::k } ::fs) h' Q):Ev C (f::fs) h Q:=
 Zye hr ht (Zps (f:={ f with todo:=.code c::k }) hg hq)
theorem Zo0{a i:Nat}{ds:List (Nat×Nat)}(hr:f.ret=true)(hd:f.defs=(a,i)::ds)(hb:blk h a i=.dfr)(hq:Ev C ({ f with defs:=ds } ::fs) (ZaW h a i .dead) Q):Ev C (f::fs) h Q:=by
 intro L fr cs w hf H _
 cases hf with
 |cons hf hk=>
  rcases hf.mode with⟨_,hm⟩ |⟨e,_⟩
  ·have hlive:(blk h a i).tag≠none:=by rw[hb];simp[Blk.tag]
   have hob:=H.blks a i
   rw[hb]at hob
   have hob:w.heap[L.loc a i]? =some (.deferred (some [])):=hob
   obtain⟨gs,g1,g2,g3⟩:=hf.defs
   rw[hd]at g2 g3
   cases gs with
   |nil=>simp at g2
   |cons g gs=>
    have hg:=(g3 0 (a,i) g rfl rfl).2 (0,0) (by rw[hb];rfl)
    have hg:g=L.loc a i:=hg
    subst hg
    obtain⟨s,H'⟩:=H.killW (w':=w.putObj (L.loc a i) (.deferred none)) hlive (ZdG _ _ _)
    have hfs:=hf.step s
    have hdf:DefRel (ZaW h a i .dead) L ds (gs.map fun g=>{ target:=.collected g,args:= #[] }):=
     DefRel.step s ⟨gs,rfl,by simpa using g2,fun j d q h1 h2=>g3 (j+1) d q (by simpa using h1) (by simpa using h2)⟩
    obtain⟨fs2,h2',L2,fr2,cs2,w2,q2,n2,a2,b2,s2⟩:=hq L { fr with defers:=gs.map fun g=>{ target:=.collected g,args:= #[] } } cs (w.putObj (L.loc a i) (.deferred none))
     (.cons ⟨hf.fn,hf.size,hfs.env,hf.kind,hdf,hfs.rnd, .inl ⟨hr,hm⟩,hf.res⟩ (hk.step s)) H' (by simp)
    refine⟨fs2,h2',L2,fr2,cs2,w2,q2,n2,a2,b2,Steps.trans (go1 ?_) s2.1,(Fr.of s).trans s2.2⟩
    obtain⟨fn,tmps,todo,defers,mode,kind,rnd⟩:=fr
    dsimp only at hm g1
    subst hm;subst g1
    have:=run_takeDeferred (P:=C.P) hob
    simp[stepG,unwind,this]
  ·rw[hr]at e;cases e
theorem ZgW(H:HRel C h L w){a i:Nat}{l:ALoop}(hb:blk h a i=.lp l):(blk h a i).tag=some (0,0)∧∃r:Loop,w.heap[L.loc a i]? =some (.loop r)∧ZA8 C.P l.N l.st r.state r.pending∧r.fn=l.fn∧r.tmps.size=l.N∧EnvRel C h L w l.env r.tmps∧r.params.toList=l.params∧(∀p∈l.params,p<l.N)∧
 Za4 C.P l.N l.asg r.assign=true∧Za4 C.P l.N l.body r.body=true:=by
 have:=H.blks a i
 rw[hb]at this
 exact⟨by rw[hb];rfl,this⟩
theorem HRel.setLoop(H:HRel C h L w){a i:Nat}{l:ALoop}(hb:blk h a i=.lp l){r:Loop}(_hr:w.heap[L.loc a i]? =some (.loop r))(st:RSt)(ls:LoopState)(pd:Option Code)(hj:ZA8 C.P l.N st ls pd)
 (hrest:r.fn=l.fn∧r.tmps.size=l.N∧EnvRel C h L w l.env r.tmps∧r.params.toList=l.params∧(∀p∈l.params,p<l.N)∧Za4 C.P l.N l.asg r.assign=true∧Za4 C.P l.N l.body r.body=true):
 Step w (Zaw C h L) h L (w.putObj (L.loc a i) (.loop { r with state:=ls,pending:=pd })) (Zaw C (ZaW h a i (.lp { l with st:=st })) L) (ZaW h a i (.lp { l with st:=st })) L∧HRel C (ZaW h a i (.lp { l with st:=st })) L (w.putObj (L.loc a i) (.loop { r with state:=ls,pending:=pd })):=by
 have ht:(blk h a i).tag≠none:=by rw[hb];simp[Blk.tag]
 refine H.set ht (by rw[hb];rfl) (ZdG _ _ _) (fun s=>?_)
 obtain⟨e1,e2,e3,e4,e5,e6,e7⟩:=hrest
 exact⟨_,World.putObj_heap_same (H.live a i ht).2,hj,e1,e2,e3.step s,e4,e5,e6,e7⟩
theorem Zq4{a i:Nat}{l:ALoop}(hr:f.ret=false)(hn:f.rnd=some (a,i))(ht:f.todo=.beginRound::k)(hb:blk h a i=.lp l)(hst:l.st=.ready)(hq:Ev C ({ f with todo:=k } ::fs) (ZaW h a i (.lp { l with st:=.busy })) Q):Ev C (f::fs) h Q:=by
 intro L fr cs w hf H _
 cases hf with
 |cons hf hk=>
  rcases hf.mode with⟨e,_⟩ |⟨_,hm,hi⟩
  ·rw[hr]at e;cases e
  ·rw[ht]at hi
   obtain⟨htag,r,h1,h2,h3⟩:=ZgW H hb
   have hrnd:=hf.rnd
   rw[hn]at hrnd
   obtain⟨g,hg,hl⟩:=hrnd
   have hg':g=L.loc a i:=hl.2 _ htag
   subst hg'
   rw[hst]at h2
   obtain⟨s,H'⟩:=H.setLoop hb h1 .busy .busy r.pending rfl h3
   have hfs:=hf.step s
   obtain⟨fn,tmps,todo,defers,mode,kind,rnd⟩:=fr
   cases hi with
   |cons hx hki=>
    cases hx
    rename_i l'
    dsimp only at hm hg;subst hm;subst hg
    obtain⟨fs2,h2',L2,fr2,cs2,w2,q2,n2,a2,b2,s2⟩:=hq L { fn,tmps,todo:=l',defers,mode:=.run,kind,roundOf:=some (L.loc a i) } cs _
     (.cons ⟨hf.fn,hf.size,hfs.env,hf.kind,hfs.defs,hfs.rnd, .inr ⟨hr,rfl,hki.step s⟩,hf.res⟩ (hk.step s)) H' (by simp)
    refine⟨fs2,h2',L2,fr2,cs2,w2,q2,n2,a2,b2,Steps.trans (go1 ?_) s2.1,(Fr.of s).trans s2.2⟩
    have hbr:=run_beginRound (P:=C.P) h1 h2.1
    simp[stepG,stepG.exec,stepG.apply,hbr,Frame.finish]
def ZA1:Option ACode→RSt
 |none=>.ready
 |some j=>.done j
theorem Zrb{a i:Nat}{l:ALoop}{c c':AFrame}(jump:Option ACode)(hr:f.ret=false)(hn:f.rnd=some (a,i))(hb:blk h a i=.lp l)
 (ht:(jump=none∧f.todo=[])∨(jump=some .ret∧∃k,f.todo=.code .ret::k)∨∃id k,jump=some (.exit id)∧f.todo=.code (.exit id)::k∧Zcw id k=none)
 (hfin:Zws c (.bool jump.isNone)=some c') (hq:Ev C (c'::fs) (ZaW h a i (.lp { l with st:=ZA1 jump })) Q):Ev C (f::c::fs) h Q:=by
 intro L fr cs w hf H _
 cases hf with
 |cons hf hk=>
  cases hk with
  |cons hfc hk=>
   rename_i frc csc
   rcases hf.mode with⟨e,_⟩ |⟨_,hm,hi⟩
   ·rw[hr]at e;cases e
   ·obtain⟨htag,r,h1,h2,h3⟩:=ZgW H hb
    have hrnd:=hf.rnd
    rw[hn]at hrnd
    obtain⟨g,hg,hl⟩:=hrnd
    have hg':g=L.loc a i:=hl.2 _ htag
    subst hg'
    have hkind:=hf.kind
    -- the model's jump
    obtain⟨jc,hjc,hstep⟩:∃jc:Option Code,(jc.isNone=jump.isNone∧ZA8 C.P l.N (ZA1 jump) (if jc.isNone then .ready else .done) jc)∧
     ∀(w':World),(Instr.endRound (L.loc a i) jc).run C.P w=.ok (.bool jc.isNone) w'→Steps C.P (lone fr (frc::csc) w) (lone (frc.finish (.bool jc.isNone)) csc w'):=by
     obtain⟨fn,tmps,todo,defers,mode,kind,rnd⟩:=fr
     dsimp only at hm hg hkind;subst hm;subst hg;subst hkind
     rcases ht with⟨rfl,ht⟩ |⟨rfl,k,ht⟩ |⟨id,k,rfl,ht,hex⟩
     ·rw[ht]at hi;cases hi
      exact⟨none,⟨rfl,rfl,rfl⟩,fun w' hrun=>go1 (by simp[stepG,stepG.exec,hrun,doReturn])⟩
     ·rw[ht]at hi
      cases hi with
      |cons hx hki=>
       cases hx with
       |code _ cc hmc=>
        cases cc<;>simp only[Za4,Bool.false_eq_true]at hmc
        exact⟨some .ret,⟨rfl,rfl, .ret,rfl,rfl⟩,fun w' hrun=>go1 (by simp[stepG,stepG.exec,hrun,doReturn])⟩
     ·rw[ht]at hi
      cases hi with
      |cons hx hki=>
       cases hx with
       |code _ cc hmc=>
        cases cc<;>simp only[Za4,Bool.false_eq_true,beq_iff_eq]at hmc
        rename_i id2
        have hid:id2=id:=by first |exact hmc |exact hmc.symm
        subst hid
        have hen:=ZgO hki hex
        exact⟨some (.exit id2),⟨rfl,rfl, .exit id2,rfl,by simp[Za4]⟩,fun w' hrun=>go1 (by simp[stepG,stepG.exec,hen,hrun,doReturn])⟩
    have hend:=run_endRound (P:=C.P) jc h1
    obtain⟨s,H'⟩:=H.setLoop hb h1 (ZA1 jump) (if jc.isNone then .ready else .done) jc hjc.2 h3
    obtain⟨fs2,h2',L2,fr2,cs2,w2,q2,n2,a2,b2,s2⟩:=hq L (frc.finish (.bool jc.isNone)) csc _ (.cons (ZnY (hfc.step s) (by rw[hjc.1];exact .bool _) hfin) (hk.step s)) H' (by simp)
    exact⟨fs2,h2',L2,fr2,cs2,w2,q2,n2,a2,b2,(hstep _ hend).trans s2.1,(Fr.of s).trans s2.2⟩
theorem Zmb{a i:Nat}{l:ALoop}(hr:f.ret=false)(ht:f.todo=.endRF a i::k)(hb:blk h a i=.lp l)(hN:l.N=f.N)(hst:l.st=.ready∨∃j,l.st=.done j)
 (hq:Ev C ({ f with todo:=match l.st with | .done j=>.code j::k |_=>k } ::fs) (ZaW h a i .dead) Q):Ev C (f::fs) h Q:=by
 intro L fr cs w hf H _
 cases hf with
 |cons hf hk=>
  rcases hf.mode with⟨e,_⟩ |⟨_,hm,hi⟩
  ·rw[hr]at e;cases e
  ·rw[ht]at hi
   obtain⟨htag,r,h1,h2,h3⟩:=ZgW H hb
   obtain⟨fn,tmps,todo,defers,mode,kind,rnd⟩:=fr
   cases hi with
   |cons hx hki=>
    cases hx with
    |endRF _ _ g hl=>
     rename_i l'
     have hg':g=L.loc a i:=hl.2 _ htag
     subst hg'
     dsimp only at hm;subst hm
     obtain⟨s,H'⟩:=H.killW (w':=w.putObj (L.loc a i) (.loop { r with state:=.exhausted })) (by rw[htag];simp) (ZdG _ _ _)
     have hfs:=hf.step s
     have hnb:r.state≠ .busy:=by
      rcases hst with hst |⟨j,hst⟩<;>rw[hst]at h2
      ·rw[h2.1];simp
      ·rw[h2.1];simp
     have hend:=run_endLoop (P:=C.P) h1 hnb
     have hits:ItsRel C.P (ZaW h a i .dead) L f.N (match l.st with | .done j=>.code j::k |_=>k) ((r.pending.map Item.code).toList++l'):=by
      rcases hst with hst |⟨j,hst⟩<;>rw[hst]at h2⊢
      ·rw[h2.2];exact hki.step s
      ·obtain⟨_,c,hc,hmc⟩:=h2
       rw[hc]
       exact .cons (.code _ _ (by rw[←hN];exact hmc)) (hki.step s)
     obtain⟨fs2,h2',L2,fr2,cs2,w2,q2,n2,a2,b2,s2⟩:=hq L { fn,tmps,todo:=(r.pending.map Item.code).toList++l',defers,mode:=.run,kind,roundOf:=rnd } cs _
      (.cons ⟨hf.fn,hf.size,hfs.env,hf.kind,hfs.defs,hfs.rnd, .inr ⟨hr,rfl,hits⟩,hf.res⟩ (hk.step s)) H' (by simp)
     refine⟨fs2,h2',L2,fr2,cs2,w2,q2,n2,a2,b2,Steps.trans (go1 ?_) s2.1,(Fr.of s).trans s2.2⟩
     simp[stepG,stepG.exec,hend]
def ZkP(env:List (Nat×AV)):List Nat→List AV→List (Nat×AV)
 |p::ps,v::vs=>ZkP (Zc8 env p v) ps vs
 |_,_=>env
theorem Zj9:∀(ps:List Nat) (avs:List AV) (vs:List Value) (env:List (Nat×AV)) (tmps:Array Value),EnvRel C h L w env tmps→RelL w (Zaw C h L) h L avs vs→(∀p∈ps,p<tmps.size)→
 EnvRel C h L w (ZkP env ps avs) ((ps.zip vs).foldl (fun tmps (p:Nat×Value)=>tmps.setIfInBounds p.1 p.2) tmps)∧((ps.zip vs).foldl (fun tmps (p:Nat×Value)=>tmps.setIfInBounds p.1 p.2) tmps).size=tmps.size
 |[],avs,vs,env,tmps,he,_,_=>by simpa[ZkP]using he
 |p::ps,[],vs,env,tmps,he,hr,_=>by
  have:vs=[]:=List.eq_nil_of_length_eq_zero hr.1.symm
  subst this;simpa[ZkP]using he
 |p::ps,v::avs,[],env,tmps,he,hr,_=>by simp[RelL]at hr
 |p::ps,v::avs,x::vs,env,tmps,he,hr,hp=>by
  have h0:ZaC C h L w v x:=hr.2 0 v x rfl rfl
  have he':EnvRel C h L w (Zc8 env p v) (tmps.setIfInBounds p x):=by
   have:=EnvF.put (d:=some p) (r:=v) (v:=x) he (fun d' e=>by cases e;exact hp p (by simp)) (fun _=>h0)
   intro t av ht
   exact this t av (by rw[Zcb]at ht;exact ht)
  obtain⟨i1,i2⟩:=Zj9 ps avs vs (Zc8 env p v) (tmps.setIfInBounds p x) he' ⟨by simpa using hr.1,fun j u y hu hy=>hr.2 (j+1) u y (by simpa using hu) (by simpa using hy)⟩ (fun q hq=>by simpa using hp q (by simp[hq]))
  refine⟨by simpa[ZkP]using i1,by simpa using i2⟩
theorem ZpU{o:AOp}{os:List AOp}{x:Opd}{args:List Opd}{a i:Nat}{l:ALoop}(hr:f.ret=false)(ht:f.todo=.inReg (o::os)::k)(hg:ZfF o f.env)(ho:o.k=.icallv x args)(hx:Zbd (ZaL f.env) x=.yld a i)(hb:blk h a i=.lp l)(hlen:args.length=l.params.length)
 (hq:Ev C ({ fn:=l.fn,N:=l.N,env:=ZkP l.env l.params (args.map (Zbd (ZaL f.env))),todo:=[.code l.asg, .beginRound, .code l.body],defs:=[],rnd:=some (a,i),ret:=false,res:=[] } ::f::fs) h Q):Ev C (f::fs) h Q:=by
 intro L fr cs w hf H _
 cases hf with
 |cons hf hk=>
  rcases hf.mode with⟨e,_⟩ |⟨_,hm,hi⟩
  ·rw[hr]at e;cases e
  ·have hi0:=hi
   rw[ht]at hi
   cases hi':fr.todo with
   |nil=>rw[hi']at hi;cases hi
   |cons y l'=>
    rw[hi']at hi
    cases hi with
    |cons hxx hki=>
     cases hxx with
     |inReg ops ix _ hmc=>
      obtain⟨kk,ix',op,rfl,e1,e2,e3⟩:=ZeM hmc
      have henv:EnvF C h L w (ZaL f.env) fr.tmps:=hf.env
      obtain⟨g0,g1,_⟩:=ZlE henv e2
      have hwant:Region.wanted op (yielded ops.toArray fr.tmps)=true:=by
       unfold ZfF at hg
       split at hg
       ·rename_i hgg;exact g0 hgg
       ·rename_i t want hgg;rw[g1 t want want hgg hg];simp
      have e2':=e2
      simp only[ZnU,Bool.and_eq_true,beq_iff_eq]at e2'
      obtain⟨⟨⟨⟨hnd,_⟩,_⟩,_⟩,hmop⟩:=e2'
      have hρ:=ZzL henv
      rw[ho]at hmop
      simp only[mop]at hmop
      split at hmop
      ·rename_i x' args' ts hop
       simp only[Bool.and_eq_true]at hmop
       have rx:=hρ.rel x x' hmop.1
       rw[hx]at rx
       obtain⟨htag,r,h1,h2,h3,h4,h5,h6,h7,h8,h9⟩:=ZgW H hb
       generalize hxv:fr.eval x'=xv at rx
       cases rx with
       |yld _ _ g hl=>
        have hg':g=L.loc a i:=hl.2 _ htag
        subst hg'
        have hrel:=Zb9 hρ hmop.2
        have hsz:(args'.map fr.eval).size=r.params.size:=by
         have:=hrel.1
         rw[List.length_map]at this
         have h6':=congrArg List.length h6
         simp at this h6' ⊢;omega
        have hy:=run_yield (P:=C.P) h1 hsz
        have hrun:(execOp fr.eval op).run C.P w=.ok (.round (L.loc a i) r.fn ((r.params.zip (args'.map fr.eval)).foldl (fun tmps (t,a)=>tmps.setIfInBounds t a) r.tmps) r.assign r.body) w:=by
         simp[execOp,hop,resolve,hxv,Deferred.ofValue,invoke]at hy⊢
         exact hy
        obtain⟨p1,p2⟩:=Zj9 l.params (args.map (Zbd (ZaL f.env))) (args'.map fr.eval).toList l.env r.tmps h5 hrel (fun p hp=>by rw[h4];exact h7 p hp)
        have hfold:(r.params.zip (args'.map fr.eval)).foldl (fun tmps (t,a)=>tmps.setIfInBounds t a) r.tmps=(l.params.zip (args'.map fr.eval).toList).foldl (fun tmps (p:Nat×Value)=>tmps.setIfInBounds p.1 p.2) r.tmps:=by
         rw[←Array.foldl_toList,Array.toList_zip,h6]
        rw[hfold]at hrun
        obtain⟨fs2,h2',L2,fr2,cs2,w2,q2,n2,a2,b2,s2⟩:=hq L (Frame.round (L.loc a i) r.fn ((l.params.zip (args'.map fr.eval).toList).foldl (fun tmps (p:Nat×Value)=>tmps.setIfInBounds p.1 p.2) r.tmps) r.assign r.body .normal) (fr::cs) w
         (.cons ⟨h3,by rw[←h4];exact p2,p1,rfl,⟨[],rfl,rfl,fun j d g hd=>by simp at hd⟩,⟨_,rfl,hl⟩, .inr ⟨rfl,rfl, .cons (.code _ _ h8) (.cons .beginRound (.cons (.code _ _ h9) .nil))⟩,fun e=>by cases e⟩ (.cons ⟨hf.fn,hf.size,hf.env,hf.kind,hf.defs,hf.rnd, .inr ⟨hr,hm,hi0⟩,hf.res⟩ hk)) H (by simp)
        exact⟨fs2,h2',L2,fr2,cs2,w2,q2,n2,a2,b2,(ZnC hm hi' (by simpa using e1) hwant hnd hrun).trans s2.1,s2.2⟩
      ·cases hmop
end
end Go.Proofs.YtkeoeooghhjibaaGreatDoor
/- A loop over a function begins. No condition. -/
namespace Go.Proofs.YtkeoeooghhjibaaGreatDoor
open Go.RowKit (Below)
section
variable {C:Ctx}{h h':Zab}{L L':Lay}{w w':World}{Q:List AFrame→Zab→Prop}{f:AFrame}{fs:List AFrame}{k:List AItem}
theorem ZiF(w:World)(o:Obj):Below w.heap.size w (w.alloc o):=(Below.refl _ _).alloc (Nat.le_refl _) o
theorem Zvy(H:HRel C h L w)(a:Nat)(l:ALoop)(r:Loop)(hst:l.st=.ready∧r.state=.ready∧r.pending=none)
 (hrest:r.fn=l.fn∧r.tmps.size=l.N∧EnvRel C h L w l.env r.tmps∧r.params.toList=l.params∧(∀p∈l.params,p<l.N)∧Za4 C.P l.N l.asg r.assign=true∧Za4 C.P l.N l.body r.body=true):
 Step w (Zaw C h L) h L (w.alloc (.loop r)) (Zaw C (Zam h a (.lp l)) (L.put a (nxt h a) w.heap.size 0)) (Zam h a (.lp l)) (L.put a (nxt h a) w.heap.size 0)∧HRel C (Zam h a (.lp l)) (L.put a (nxt h a) w.heap.size 0) (w.alloc (.loop r)):=by
 refine H.push a (.lp l) w.heap.size 0 (ZiF w _) ⟨Nat.le_refl _,by simp[World.size_alloc]⟩ (fun s=>?_)
 obtain⟨e1,e2,e3,e4,e5,e6,e7⟩:=hrest
 exact⟨r,World.alloc_heap_new w _,by rw[hst.1];exact hst.2,e1,e2,e3.step s,e4,e5,e6,e7⟩
theorem Zra(H:HRel C h L w)(a:Nat):
 Step w (Zaw C h L) h L (w.alloc (.deferred (some []))) (Zaw C (Zam h a .dfr) (L.put a (nxt h a) w.heap.size 0)) (Zam h a .dfr) (L.put a (nxt h a) w.heap.size 0)∧HRel C (Zam h a .dfr) (L.put a (nxt h a) w.heap.size 0) (w.alloc (.deferred (some []))):=
 H.push a .dfr w.heap.size 0 (ZiF w _) ⟨Nat.le_refl _,by simp[World.size_alloc]⟩ (fun _=>World.alloc_heap_new w _)
theorem ZlC:∀ {xs ys:List Nat},Zns xs ys=true→ys=xs
 |[],[],_=>rfl
 |x::xs,y::ys,h=>by
  simp only[Zns,Bool.and_eq_true]at h
  rw[ZlC h.2,Nat.eq_of_beq_eq_true h.1]
 |[],_::_,h=>by simp[Zns]at h
 |_::_,[],h=>by simp[Zns]at h
theorem Zti{fr:Frame}{cs:List Frame}{x:Operand}{ps:Array Tmp}{asg body:Code}{l:List Item}{lw:Nat}{mark:List Deferred}{g:FuncId}{cvs:Array Value}(hm:fr.mode=.run)(ht:fr.todo=.code (.rangeFunc x ps asg body)::l)
 (hen:(Instr.enterLoop fr.fn fr.tmps ps asg body fr.roundOf).run C.P w=.ok (lw,mark) w') (hx:fr.eval x=.func (.func g) #[] cvs) (hc:Zbj C.P g=true):
 Steps C.P (lone fr cs w) (lone (Frame.enter C.P g (#[.func (.yield lw) #[] #[]]++cvs) .normal) ({ fr with todo:=.inRangeFunc lw::l,defers:=mark++fr.defers } ::cs) w'):=by
 obtain⟨fn,tmps,todo,defers,mode,kind,rnd⟩:=fr
 dsimp only at hm ht;subst hm;subst ht
 have he2:(Frame.eval { fn:=fn,tmps:=tmps,todo:=.inRangeFunc lw::l,defers:=mark++defers,mode:=.run,kind:=kind,roundOf:=rnd } x)=.func (.func g) #[] cvs:=hx
 have he3:∀q:Array Value,(Frame.eval { fn:=fn,tmps:=tmps,todo:=.inRangeFunc lw::l,defers:=mark++defers,mode:=.run,kind:=kind,roundOf:=rnd } (.const (.func (.yield lw) #[] #[])))=.func (.yield lw) #[] #[]:=fun _=>rfl
 refine go1 ?_
 dsimp only at hen
 simp[stepG,stepG.exec,hen,stepG.apply,resolve,he2,he3 #[],Deferred.ofValue,invoke,ZdI hc]
theorem Zz6{T:Tab}(hT:Zbu C.P T){a:Nat}{x:Opd}{ps:List Nat}{asg body:ACode}{g:FuncId}{caps:List AV}{af:AFrame}{hd:Zab}{df:List (Nat×Nat)}(hr:f.ret=false)(ht:f.todo=.code (.rf a x ps asg body)::k)
 (hx:Zbd (ZaL f.env) x=.fn g caps) (hdf:(f.rnd=none∧hd=Zam h a .dfr∧df=(a,nxt h a)::f.defs)∨((∃ a0 i0 l0,f.rnd=some (a0,i0)∧blk h a0 i0=.lp l0)∧hd=h∧df=f.defs))
 (he:Zat T g (.yld a (nxt hd a)::caps)=some af)
 (hq:Ev C (af:: { f with todo:=.inRF a (nxt hd a)::k,defs:=df } ::fs) (Zam hd a (.lp { st:=.ready,fn:=f.fn,N:=f.N,env:=f.env,params:=ps,asg:=asg,body:=body })) Q):Ev C (f::fs) h Q:=by
 intro L fr cs w hf H _
 cases hf with
 |cons hf hk=>
  rcases hf.mode with⟨e,_⟩ |⟨_,hm,hi⟩
  ·rw[hr]at e;cases e
  ·rw[ht]at hi
   cases hi':fr.todo with
   |nil=>rw[hi']at hi;cases hi
   |cons y l'=>
    rw[hi']at hi
    cases hi with
    |cons hxx hki=>
     cases hxx with
     |code _ c hmc=>
      cases c<;>simp only[Za4,Bool.false_eq_true,Bool.and_eq_true]at hmc
      rename_i x' ps' asg' body'
      obtain⟨⟨⟨⟨hm1,hm2⟩,hm3⟩,hm4⟩,hm5⟩:=hmc
      have hρ:=ZzL (show EnvF C h L w (ZaL f.env) fr.tmps from hf.env)
      have rx:=hρ.rel x x' hm1
      rw[hx]at rx
      obtain⟨cvs,c1,c2⟩:=ZzP rx
      have hps:=ZlC hm2
      have hpN:∀p∈ps,p<f.N:=fun p hp=>by have:=List.all_eq_true.1 hm3 p hp;simpa using this
      obtain⟨Ld,wd,lw,mark,sd,Hd,hmk',hmk,hen⟩:∃(Ld:Lay) (wd:World) (lw:Nat) (mark:List Deferred),Step w (Zaw C h L) h L wd (Zaw C hd Ld) hd Ld∧HRel C hd Ld wd∧DefRel hd Ld df (mark++fr.defers)∧lw=wd.heap.size∧
       ∃d,∀tmps,(Instr.enterLoop fr.fn tmps ps' asg' body' fr.roundOf).run C.P w=.ok (lw,mark) (wd.alloc (.loop { state:=.ready,pending:=none,fn:=fr.fn,tmps:=tmps,params:=ps',assign:=asg',body:=body',defers:=d })):=by
       rcases hdf with⟨hn,rfl,rfl⟩ |⟨⟨a0,i0,l0,hn,hb⟩,rfl,rfl⟩
       ·obtain⟨s,H'⟩:=Zra H a
        have hrnd:=hf.rnd
        rw[hn]at hrnd
        have hrnd:fr.roundOf=none:=hrnd
        refine⟨_,_,w.heap.size+1,[{ target:=.collected w.heap.size,args:= #[] }],s,H',?_,by simp[World.size_alloc],w.heap.size,fun tmps=>by rw[hrnd];exact run_enterLoop_outer _ _ _ _ _⟩
        obtain⟨gs,g1,g2,g3⟩:=hf.defs.step s
        refine⟨w.heap.size::gs,by simp[g1],by simpa using g2,fun j d q h1 h2=>?_⟩
        cases j with
        |zero=>
         simp only[List.getElem?_cons_zero,Option.some.injEq]at h1 h2
         subst h1;subst h2
         exact Zdd (fun _ _=>rfl)
        |succ j=>exact g3 j d q (by simpa using h1) (by simpa using h2)
       ·have hrnd:=hf.rnd
        rw[hn]at hrnd
        obtain⟨g0,hg0,hl0⟩:=hrnd
        obtain⟨htag,r0,h1,_⟩:=ZgW H hb
        have hg':g0=L.loc a0 i0:=hl0.2 _ htag
        subst hg'
        exact⟨L,w,w.heap.size,[],Step.refl _ _ _ _,H,by simpa using hf.defs,rfl,r0.defers,fun tmps=>by rw[hg0];exact run_enterLoop_inner h1 _ _ _ _ _⟩
      obtain⟨d,hen⟩:=hen
      subst hmk
      have hfd:=hf.step sd
      obtain⟨s2,H2⟩:=Zvy Hd a { st:=.ready,fn:=f.fn,N:=f.N,env:=f.env,params:=ps,asg:=asg,body:=body } { state:=.ready,pending:=none,fn:=fr.fn,tmps:=fr.tmps,params:=ps',assign:=asg',body:=body',defers:=d }
       ⟨rfl,rfl,rfl⟩ ⟨hf.fn,hf.size,hfd.env,hps,hpN,hm4,hm5⟩
      have hfs2:=hfd.step s2
      have hlive:Live (Zam hd a (.lp { st:=.ready,fn:=f.fn,N:=f.N,env:=f.env,params:=ps,asg:=asg,body:=body })) (Ld.put a (nxt hd a) wd.heap.size 0) a (nxt hd a) fun l _=>wd.heap.size=l:=Zdd (fun _ _=>rfl)
      obtain⟨hfr,hcal⟩:=ZdH hT (vs:= #[.func (.yield wd.heap.size) #[] #[]]++cvs) he (by
       rw[Array.toList_append]
       exact RelL.cons (.yld _ _ _ hlive) ((c2.step sd).step s2))
      have hstep:=Zti (C:=C) (cs:=cs) hm hi' (g:=g) (cvs:=cvs) (lw:=wd.heap.size) (mark:=mark) (w:=w) (hen _) c1 hcal
      obtain⟨fs2,h2',L2,fr2,cs2,w2,q2,n2,a2,b2,s3⟩:=hq _ _ ({ fr with todo:=.inRangeFunc wd.heap.size::l',defers:=mark++fr.defers } ::cs) _ (.cons hfr (.cons ⟨hf.fn,hf.size,hfs2.env,hf.kind,hmk'.step s2,hfs2.rnd, .inr ⟨hr,hm, .cons (.inRF _ _ _ hlive) ((hki.step sd).step s2)⟩,hf.res⟩ ((hk.step sd).step s2))) H2 (by simp)
      exact⟨fs2,h2',L2,fr2,cs2,w2,q2,n2,a2,b2,hstep.trans s3.1,((Fr.of sd).trans (Fr.of s2)).trans s3.2⟩
end
end Go.Proofs.YtkeoeooghhjibaaGreatDoor
/- The machine runs. No condition. -/
namespace Go.Proofs.YtkeoeooghhjibaaGreatDoor
open Go.RowKit (Below)
abbrev Con:=FuncId→List AV→Option (Bool×AV×Option Fresh)
def Zfv(P:Program)(K:Con):Prop:=∀f args r fr,K f args=some (true,r,fr)→Zan P f args r fr
def ZAw(a:Nat)(r:AV)(m:Bool):Option Fresh→Bool
 |none=>r.pure&&(!m||r.solid)
 |some f=>match Nat.beq f.sz 0 with |true=>r.pure |false=>Nat.blt 0 a&&(ZpF r&&(f.r.pure&&(!m||(r.solid&&f.r.solid))))
def Zyz(A:Ar)(h:Zab)(m:Bool)(avs:List AV):Option (Bool×List AV):=
 match m with
 |true=>Zm1 A h avs
 |false=>match AV.pureL avs with |true=>some (true,avs) |false=>none
def Zp0(A:Ar)(K:Con)(h:Zab)(a:Nat)(f:FuncId)(avs:List AV):Option (Bool×AV×Zab):=
 match Zyz A h (!AV.pureL avs) avs with
 |none=>none
 |some (b0,avs')=>match K f avs' with
  |none=>none
  |some (b,r0,fr)=>match ZAw a r0 (!AV.pureL avs) fr with
   |true=>some (Zaf b0 b,Zcf h a r0 fr)
   |false=>none
def isF(T:Tab)(f:FuncId):Bool:=match T f with |some _=>true |none=>false
def Zpq(A:Ar)(T:Tab)(K:Con)(ρ:Opd→AV)(h:Zab):OpK→Option (Bool×AV×Zab)
 | .ncall _ a f args=>Zp0 A K h a f (args.map ρ)
 | .ncallv _ a x args=>match Zwj (ρ x) (args.map ρ)with
   |some (f,avs)=>(match isF T f with |true=>Zp0 A K h a f avs |false=>none)
   |none=>none
 |k=>Zaq A ρ h k
def ZfQ(o:AOp)(env:List (Nat×AV)):Option Bool:=
 match o.g with
 |none=>some true
 |some (t,want)=>match ZaL env t with
  |some (.bool b)=>(match want with |true=>some b |false=>some (!b))
  |some .und=>some false
  |_=>none
def Zfr(A:Ar)(T:Tab)(K:Con)(o:AOp)(env:List (Nat×AV))(h:Zab):Option (Bool×AV×Zab):=
 match ZfQ o env with
 |none=>none
 |some g=>match g with
  |true=>Zpq A T K (Zbd (ZaL env)) h o.k
  |false=>some (true, .und,h)
def wOf(ρ:Opd→AV)(h:Zab):OpK→List (Nat×Nat)
 | .store _ p _=>Zbh (ρ p)
 | .box a _ _=>[(a,nxt h a)]
 | .alloc a _ _=>[(a,nxt h a)]
 | .bslice a _ _ _=>[(a,nxt h a)]
 | .mkslice a _ _ _ _=>[(a,nxt h a)]
 | .mklst a _ _ _ _=>[(a,nxt h a)]
 | .append a _ _ x _=>(a,nxt h a)::Zbh (ρ x)
 | .appz a _ _ _ x _=>(a,nxt h a)::Zbh (ρ x)
 | .copy _ x _=>Zbh (ρ x)
 | .clr _ _ _ x=>Zbh (ρ x)
 | .mkmap a=>[(a,nxt h a)]
 | .mupd x _=>Zbh (ρ x)
 | .ncall _ a _ _=>[(a,nxt h a)]
 | .ncallv _ a _ _=>[(a,nxt h a)]
 |_=>[]
def ZiP(env:List (Nat×AV))(h:Zab)(o:AOp):Foot:=⟨o,o.k.looks.flatMap fun x=>ZcT h o.k (Zbd (ZaL env) x),wOf (Zbd (ZaL env)) h o.k⟩
def Zr5(p:Nat×Nat):List (Nat×Nat)→Bool
 |[]=>false
 |q::l=>match Nat.beq p.1 q.1 with |true=>(match Nat.beq p.2 q.2 with |true=>true |false=>Zr5 p l) |false=>Zr5 p l
def Znq(m:List (Nat×Nat)):List (Nat×Nat)→Bool
 |[]=>true
 |p::l=>match Zr5 p m with |true=>false |false=>Znq m l
def ZnR(zs:List Foot):List (Nat×Nat)→Bool
 |[]=>true
 |(i,j)::fr=>match zs[i]?,zs[j]? with
  |some x,some z=>(match (z.o.k.neutral&&Znq x.w z.r)||(x.o.k.neutral&&Znq z.w x.r)||(x.o.frees z.o&&Znq z.w x.r)with |true=>ZnR zs fr |false=>false)
  |_,_=>ZnR zs fr
def ZiV(A:Ar)(T:Tab)(K:Con):List AOp→List Bool→List (Nat×AV)→Zab→Option (List Bool×List (Nat×AV)×Zab)
 |[],acc,env,h=>some (acc,env,h)
 |o::os,acc,env,h=>match Zfr A T K o env h with
  |some (b,r,h')=>ZiV A T K os (b::acc) (ZmE env o.d r) h'
  |none=>none
def Zlm(A:Ar)(T:Tab)(K:Con):List AOp→List (Nat×AV)→Zab→List Foot
 |[],_,_=>[]
 |o::os,env,h=>ZiP env h o::match Zfr A T K o env h with
  |some (_,r,h')=>Zlm A T K os (ZmE env o.d r) h'
  |none=>[]
def Zqt(A:Ar)(T:Tab)(K:Con)(fr:List (Nat×Nat))(os:List AOp)(env:List (Nat×AV))(h:Zab):Bool:=
 match fr with
 |[]=>true
 |fr=>ZnR (Zlm A T K os env h) fr
section
variable {C:Ctx}{T:Tab}{K:Con}{h h':Zab}{f:AFrame}{fs:List AFrame}{k:List AItem}{Q:List AFrame→Zab→Prop}
theorem Zfh:∀(l:List AV),(∀z∈l,z.solid=true)→AV.solidL l=true
 |[],_=>rfl
 |z::zs,hz=>by simp only[AV.solidL,Bool.and_eq_true];exact⟨hz z List.mem_cons_self,Zfh zs (fun q hq=>hz q (List.mem_cons_of_mem _ hq))⟩
theorem ZgU:∀ {l:List AV},AV.solidL l=true→∀z∈l,z.solid=true
 |y::ys,h,z,hz=>by
  simp only[AV.solidL,Bool.and_eq_true]at h
  rcases List.mem_cons.1 hz with e |e
  ·rw[e];exact h.1
  ·exact ZgU h.2 z e
theorem ZmM{a b:List AV}(ha:AV.solidL a=true)(hb:AV.solidL b=true):AV.solidL (a++b)=true:=
 Zfh _ (fun z hz=>(List.mem_append.1 hz).elim (ZgU ha z) (ZgU hb z))
theorem Zjx{r:Row}(hs:r.solid=true):∀z∈r.elems,z.solid=true:=fun z hz=>by
 obtain⟨j,hj⟩:=List.mem_iff_getElem?.1 hz
 exact Row.solid_mem hs hj
theorem Zg3{r:Row}(hs:r.solid=true):r.allSolid:=by
 have hm:=Zjx hs
 unfold Row.allSolid
 generalize r.elems=l at hm
 induction l with
 |nil=>rfl
 |cons y ys ih=>
  rw[ZaE]
  refine ZmM ?_ (ih (fun z hz=>hm z (List.mem_cons_of_mem _ hz)))
  have h1:=hm y List.mem_cons_self
  cases y with
  |agg q=>exact Zfh _ (Zjx (by simpa[AV.solid]using h1))
  |_=>simp only[AV.flat,AV.solidL,Bool.and_true];exact h1
theorem Zsz{a:Nat}{r:AV}{m:Bool}{fr:Option Fresh}(h:ZAw a r m fr=true):Zqu a r m fr:=by
 cases fr with
 |none=>
  simp only[ZAw,Bool.and_eq_true,Bool.or_eq_true,Bool.not_eq_true']at h
  exact⟨h.1,fun e=>by rcases h.2 with h2 |h2<;>simp_all⟩
 |some f=>
  cases hz:Nat.beq f.sz 0 with
  |true=>simp only[ZAw,hz]at h;exact .inl ⟨Nat.eq_of_beq_eq_true hz,h⟩
  |false=>
   simp only[ZAw,hz,Bool.and_eq_true,Bool.or_eq_true,Bool.not_eq_true',Nat.blt_eq]at h
   obtain⟨h1,h2,h3,h4⟩:=h
   exact .inr ⟨(fun e=>by rw[e]at hz;cases hz),(by omega),h2,Za1 h3,fun e=>by rcases h4 with h4 |h4<;>simp_all[Zg3]⟩
theorem Zhh{P:Program}(hK:Zfv P K){a:Nat}{f:FuncId}{avs:List AV}{r:AV}(hc:Zp0 std K h a f avs=some (true,r,h')):∃m,Zc6 P h m a f avs r h':=by
 unfold Zp0 at hc
 split at hc
 ·cases hc
 ·rename_i b0 avs' ha
  split at hc
  ·cases hc
  ·rename_i b r0 fr hk
   split at hc
   ·rename_i hask
    simp only[Option.some.injEq,Prod.mk.injEq,std_and]at hc
    obtain⟨⟨rfl,rfl⟩,hc⟩:=hc
    refine⟨!AV.pureL avs,avs',r0,fr,?_,hK _ _ _ _ hk,Zsz hask,hc⟩
    unfold Zyz at ha
    generalize hm:(!AV.pureL avs)=m at ha
    cases m with
    |true=>simpa using ha
    |false=>
     simp only at ha
     split at ha
     ·rename_i hp;cases ha;simp[hp]
     ·cases ha
   ·cases hc
theorem ZnZ(hT:Zbu C.P T){f:FuncId}(hi:isF T f=true):Zbj C.P f=true:=by
 unfold isF at hi
 split at hi
 ·rename_i af hf
  have:=hT f af hf
  unfold Zap at this
  split at this
  ·simp only[Bool.and_eq_true]at this;exact this.2
  ·cases this
 ·cases hi
theorem Zdj(hT:Zbu C.P T)(hK:Zfv C.P K){ρ:Opd→AV}{kk:OpK}{r:AV}(hc:Zpq std T K ρ h kk=some (true,r,h')):Zcg C.P ρ h kk r h':=by
 cases kk with
 |ncall m a f args=>exact Zhh hK hc
 |ncallv m a x args=>
  simp only[Zpq]at hc
  split at hc
  ·rename_i f avs hx
   split at hc
   ·rename_i hi
    obtain⟨m',hc⟩:=Zhh hK hc
    exact⟨f,avs,m',hx,ZnZ hT hi,hc⟩
   ·cases hc
  ·cases hc
 |_=>exact hc
theorem ZcR(hT:Zbu C.P T)(hK:Zfv C.P K){o:AOp}{env:List (Nat×AV)}{r:AV}(hc:Zfr std T K o env h=some (true,r,h')):ZcH C.P o (ZaL env) h r h':=by
 unfold Zfr at hc
 unfold ZcH
 split at hc
 ·cases hc
 ·rename_i g hg
  unfold ZfQ at hg
  split at hc
  ·split at hg
   ·rename_i hgg;rw[hgg];exact Zdj hT hK hc
   ·rename_i t want hgg
    rw[hgg]
    split at hg
    ·rename_i b hb
     split at hg
     ·simp only[Option.some.injEq]at hg;subst hg;exact .inl ⟨hb,Zdj hT hK hc⟩
     ·simp only[Option.some.injEq,Bool.not_eq_true']at hg;subst hg;exact .inl ⟨hb,Zdj hT hK hc⟩
    ·simp at hg
    ·cases hg
  ·simp only[Option.some.injEq,Prod.mk.injEq,true_and]at hc
   obtain⟨rfl,rfl⟩:=hc
   split at hg
   ·simp at hg
   ·rename_i t want hgg
    rw[hgg]
    split at hg
    ·rename_i b hb
     split at hg
     ·simp only[Option.some.injEq]at hg;subst hg;exact .inr (.inl ⟨hb,rfl,rfl⟩)
     ·simp only[Option.some.injEq,Bool.not_eq_false']at hg;subst hg;exact .inr (.inl ⟨hb,rfl,rfl⟩)
    ·rename_i hb;exact .inr (.inr ⟨hb,rfl,rfl⟩)
    ·cases hg
theorem Zey{A:Ar} :∀ {os:List AOp} {acc acc':List Bool} {env env':List (Nat×AV)} {h h':Zab},ZiV A T K os acc env h=some (acc',env',h')→∀b∈acc,b∈acc'
 |[],acc,acc',env,env',h,h',hd,b,hb=>by simp only[ZiV,Option.some.injEq,Prod.mk.injEq]at hd;obtain⟨rfl,_,_⟩:=hd;exact hb
 |o::os,acc,acc',env,env',h,h',hd,b,hb=>by
  simp only[ZiV]at hd
  split at hd
  ·exact Zey hd b (List.mem_cons_of_mem _ hb)
  ·cases hd
theorem memB_iff{p:Nat×Nat} :∀ {l:List (Nat×Nat)},Zr5 p l=true↔p∈l
 |[]=>by simp[Zr5]
 |q::l=>by
  obtain⟨a,i⟩:=p;obtain⟨b,j⟩:=q
  have ih:=memB_iff (p:=(a,i)) (l:=l)
  have hb:∀a b:Nat,Nat.beq a b=decide (a=b):=fun a b=>by rw[Bool.eq_iff_iff];simp
  simp only[Zr5,hb,List.mem_cons,Prod.mk.injEq]
  by_cases h1:a=b
  ·subst h1
   by_cases h2:i=j
   ·subst h2;simp
   ·simp[h2,ih]
  ·simp[h1,ih]
theorem ZdK{m:List (Nat×Nat)} :∀ {l:List (Nat×Nat)},Znq m l=true→Zzk l m
 |[],_=>fun p hp=>by simp at hp
 |q::l,h=>by
  simp only[Znq]at h
  split at h
  ·cases h
  ·rename_i hq
   intro p hp
   rcases List.mem_cons.1 hp with e |e
   ·rw[e];intro hm;rw[memB_iff.2 hm]at hq;cases hq
   ·exact ZdK h p e
theorem Ze0{zs:List Foot} :∀ {fr:List (Nat×Nat)},ZnR zs fr=true→∀(i j:Nat) (x z:Foot),(i,j)∈fr→zs[i]? =some x→zs[j]? =some z→Zm0 x z
 |[],_,i,j,x,z,hm,_,_=>by simp at hm
 |(a,b)::fr,h,i,j,x,z,hm,hx,hz=>by
  simp only[ZnR]at h
  rcases List.mem_cons.1 hm with e |e
  ·cases e
   rw[hx,hz]at h
   simp only at h
   split at h
   ·rename_i hc
    simp only[Bool.or_eq_true,Bool.and_eq_true]at hc
    rcases hc with(h |h) |h
    ·exact .inl ⟨h.1,ZdK h.2⟩
    ·exact .inr (.inl ⟨h.1,ZdK h.2⟩)
    ·exact .inr (.inr ⟨h.1,ZdK h.2⟩)
   ·cases h
  ·refine Ze0 (fr:=fr) ?_ i j x z e hx hz
   split at h
   ·split at h
    ·exact h
    ·cases h
   ·exact h
theorem ZcX{h:Zab}{c i:Nat}{b:Blk}(hb:blk h c i≠ .dead){p:Nat×Nat}(hp:p≠(c,i)):blk (ZaW h c i b) p.1 p.2=blk h p.1 p.2:=by
 rw[Zc3 hb,if_neg (fun e=>hp (by obtain⟨a,j⟩:=p;simp only at e;rw[e.1,e.2]))]
theorem Zbv{h:Zab}{a:Nat}{b:Blk}{p:Nat×Nat}(hp:p≠(a,nxt h a)):blk (Zam h a b) p.1 p.2=blk h p.1 p.2:=by
 rw[Za6,if_neg (fun e=>hp (by obtain⟨c,j⟩:=p;simp only at e;rw[←e.1,e.2]))]
theorem Zmd{P:Program}{m:Bool}{a:Nat}{f:FuncId}{avs:List AV}{r:AV}(hd:Zc6 P h m a f avs r h'){p:Nat×Nat}(hp:p≠(a,nxt h a)):blk h' p.1 p.2=blk h p.1 p.2:=by
 obtain⟨avs',r0,fr,_,_,_,had⟩:=hd
 cases fr with
 |none=>simp only[Zcf,Prod.mk.injEq]at had;rw[←had.2]
 |some f=>
  simp only[Zcf]at had
  split at had
  ·simp only[Prod.mk.injEq]at had;rw[←had.2]
  ·simp only[Prod.mk.injEq]at had;rw[←had.2];exact Zbv hp
theorem ZlT{P:Program}{k:OpK}{ρ:Opd→AV}{r:AV}(hd:Zcg P ρ h k r h'):∀p:Nat×Nat,p∉wOf ρ h k→blk h' p.1 p.2=blk h p.1 p.2:=by
 intro p hp
 by_cases hn:k.neutral=true
 ·rw[Zdr hn hd]
 have row_ne:∀ {c i e sz:Nat} {r:Row},blk h c i=.row e sz r→blk h c i≠ .dead:=fun hb=>by rw[hb];simp
 cases k with
 |ncall m a f args=>obtain⟨m',hd⟩:=hd;exact Zmd hd (by simpa[wOf]using hp)
 |ncallv m a x args=>obtain⟨f,avs,m',_,_,hc⟩:=hd;exact Zmd hc (by simpa[wOf]using hp)
 |box a e x=>
  simp only[Zcg,Zaq,Option.some.injEq,Prod.mk.injEq]at hd
  rw[←hd.2.2];exact Zbv (by simpa[wOf]using hp)
 |alloc a e z=>
  simp only[Zcg,Zaq,Option.some.injEq,Prod.mk.injEq]at hd
  rw[←hd.2.2];exact Zbv (by simpa[wOf]using hp)
 |bslice a e sz ps=>
  simp only[Zcg,Zaq,Option.some.injEq,Prod.mk.injEq]at hd
  rw[←hd.2.2];exact Zbv (by simpa[wOf]using hp)
 |mklst a e sz z ln=>
  simp only[Zcg,Zaq]at hd
  split at hd
  ·split at hd
   ·simp only[Option.some.injEq,Prod.mk.injEq]at hd
    rw[←hd.2.2];exact Zbv (by simpa[wOf]using hp)
   ·cases hd
  ·cases hd
 |mkslice a e sz z ln=>
  simp only[Zcg,Zaq]at hd
  split at hd
  ·simp only[Option.some.injEq,Prod.mk.injEq]at hd
   rw[←hd.2.2];exact Zbv (by simpa[wOf]using hp)
  ·cases hd
 |store n q x=>
  simp only[Zcg,Zaq,Zl6,wOf]at hd hp
  split at hd
  ·rename_i a i k off hq
   rw[hq]at hp
   split at hd
   ·rename_i e sz rr hb
    split at hd
    ·simp only[Option.some.injEq,Prod.mk.injEq]at hd
     rw[←hd.2.2];exact ZcX (row_ne hb) (by simpa[Zbh]using hp)
    ·cases hd
   ·cases hd
  ·cases hd
 |copy sz x y=>
  simp only[Zcg,Zaq,Zrf,wOf]at hd hp
  split at hd
  ·cases hd
  ·split at hd
   ·rename_i c i hx
    rw[hx]at hp
    split at hd
    ·rename_i hb
     simp only[Option.some.injEq,Prod.mk.injEq]at hd
     rw[←hd.2.2];exact ZcX (row_ne hb) (by simpa[Zbh]using hp)
    ·cases hd
   ·rename_i c i k n q hx
    rw[hx]at hp
    split at hd
    ·rename_i hb
     simp only[Option.some.injEq,Prod.mk.injEq]at hd
     rw[←hd.2.2];exact ZcX (row_ne hb) (by simpa[Zbh]using hp)
    ·cases hd
   ·rename_i c i k off n hx
    rw[hx]at hp
    split at hd
    ·rename_i hb
     split at hd
     ·simp only[Option.some.injEq,Prod.mk.injEq]at hd
      rw[←hd.2.2];exact ZcX (row_ne hb) (by simpa[Zbh]using hp)
     ·cases hd
    ·cases hd
   ·cases hd
 |clr e sz z x=>
  simp only[Zcg,Zaq,ZA0,wOf]at hd hp
  split at hd
  ·rename_i c i k n q hx
   rw[hx]at hp
   split at hd
   ·rename_i hb
    split at hd
    ·simp only[Option.some.injEq,Prod.mk.injEq]at hd
     rw[←hd.2.2];exact ZcX (row_ne hb) (by simpa[Zbh]using hp)
    ·cases hd
   ·cases hd
  ·cases hd
 |append a e sz x y=>
  simp only[Zcg,Zaq,ZA2,wOf,List.mem_cons,not_or]at hd hp
  obtain⟨hp1,hp2⟩:=hp
  split at hd
  ·cases hd
  ·split at hd
   ·split at hd
    ·simp only[Option.some.injEq,Prod.mk.injEq]at hd;rw[←hd.2.2]
    ·simp only[Option.some.injEq,Prod.mk.injEq]at hd;rw[←hd.2.2];exact Zbv hp1
   ·rename_i c i hx
    rw[hx]at hp2
    split at hd
    ·rename_i hb
     simp only[Option.some.injEq,Prod.mk.injEq]at hd
     rw[←hd.2.2]
     rw[Zbv (by rw[ZeX];exact hp1),ZcX (row_ne hb) (by simpa[Zbh]using hp2)]
    ·cases hd
   ·rename_i c i n hx
    rw[hx]at hp2
    split at hd
    ·rename_i hb
     simp only[Option.some.injEq,Prod.mk.injEq]at hd
     rw[←hd.2.2];exact ZcX (row_ne hb) (by simpa[Zbh]using hp2)
    ·cases hd
   ·cases hd
 |appz a e sz z x ln=>
  simp only[Zcg,Zaq,wOf,List.mem_cons,not_or]at hd hp
  obtain⟨hp1,hp2⟩:=hp
  split at hd
  ·unfold ZqM at hd
   split at hd
   ·simp only[Option.some.injEq,Prod.mk.injEq]at hd;rw[←hd.2.2];exact Zbv hp1
   ·rename_i c i hx
    rw[hx]at hp2
    split at hd
    ·rename_i hb
     simp only[Option.some.injEq,Prod.mk.injEq]at hd
     rw[←hd.2.2]
     rw[Zbv (by rw[ZeX];exact hp1),ZcX (row_ne hb) (by simpa[Zbh]using hp2)]
    ·cases hd
   ·cases hd
  ·cases hd
 |s2b x=>
  simp only[Zcg,Zaq]at hd
  split at hd
  ·simp only[Option.some.injEq,Prod.mk.injEq]at hd
   rw[←hd.2.2]
  ·cases hd
 |mkmap a=>
  simp only[Zcg,Zaq,Option.some.injEq,Prod.mk.injEq]at hd
  rw[←hd.2.2];exact Zbv (by simpa[wOf]using hp)
 |mupd x k=>
  simp only[Zcg,Zaq,wOf]at hd hp
  split at hd
  ·rename_i a i s hx _
   rw[hx]at hp
   split at hd
   ·rename_i ks hb
    simp only[Option.some.injEq,Prod.mk.injEq]at hd
    rw[←hd.2.2];exact ZcX (by rw[hb];intro e;cases e) (by simpa[Zbh]using hp)
   ·cases hd
  ·cases hd
 |_=>first |(exact absurd rfl hn) |(simp [Zcg,Zaq]at hd)
theorem ZjA{P:Program}{o:AOp}{ε:Env}{r:AV}(hd:ZcH P o ε h r h'):∀p:Nat×Nat,p∉wOf (Zbd ε) h o.k→blk h' p.1 p.2=blk h p.1 p.2:=by
 unfold ZcH at hd
 split at hd
 ·exact ZlT hd
 ·rcases hd with⟨_,h3⟩ |⟨_,_,h3⟩ |⟨_,_,h3⟩
  ·exact ZlT h3
  ·rw[h3];exact fun _ _=>rfl
  ·rw[h3];exact fun _ _=>rfl
theorem Zee(hT:Zbu C.P T)(hK:Zfv C.P K):∀ {os:List AOp} {acc acc':List Bool} {env env':List (Nat×AV)} {h h':Zab},ZiV std T K os acc env h=some (acc',env',h')→(∀b∈acc',b=true)→(Zlm std T K os env h).map (·.o)=os∧Runs C.P (Zlm std T K os env h) (ZaL env) h (ZaL env') h'
 |[],acc,acc',env,env',h,h',hd,_=>by simp only[ZiV,Option.some.injEq,Prod.mk.injEq]at hd;obtain⟨_,rfl,rfl⟩:=hd;exact⟨rfl, .nil _ _⟩
 |o::os,acc,acc',env,env',h,h',hd,hb=>by
  simp only[ZiV]at hd
  split at hd
  ·rename_i b r h1 hs
   have hbt:b=true:=hb b (Zey hd b List.mem_cons_self)
   subst hbt
   obtain⟨i1,i2⟩:=Zee hT hK hd hb
   rw[Zdb]at i2
   simp only[Zlm,hs]
   have:=ZcR hT hK hs
   exact⟨by simp[ZiP,i1], .cons ⟨this,fun x hx p hp=>by simp only[ZiP,List.mem_flatMap];exact⟨x,hx,hp⟩,ZjA this⟩ i2⟩
  ·cases hd
theorem ZhX{fr:List (Nat×Nat)}{os:List AOp}{env:List (Nat×AV)}(hb:Zqt std T K fr os env h=true):∀(i j:Nat) (x z:Foot),(i,j)∈fr→(Zlm std T K os env h)[i]? =some x→(Zlm std T K os env h)[j]? =some z→Zm0 x z:=by
 unfold Zqt at hb
 split at hb
 ·intro i j x z hm;simp at hm
 ·exact Ze0 hb
end
end Go.Proofs.YtkeoeooghhjibaaGreatDoor
/- A step of the machine. No condition. -/
namespace Go.Proofs.YtkeoeooghhjibaaGreatDoor
open Go.RowKit (Below)
abbrev ZpH:=Option (List Bool×AFrame×List AFrame×Zab)
def Zj5(acc:List Bool)(fs:List AFrame)(h:Zab)(rnd:Option (Nat×Nat))(jump:Option ACode):ZpH:=
 match rnd with
 |none=>none
 |some (a,i)=>match fs with
  |[]=>none
  |c::fs'=>match blk h a i with
   | .lp l=>(match Zws c (.bool jump.isNone)with
     |some c'=>some (acc,c',fs',ZaW h a i (.lp { l with st:=ZA1 jump }))
     |none=>none)
   |_=>none
def ZoH(acc:List Bool)(o:AOp)(f:AFrame)(fs:List AFrame)(h:Zab)(x:AV)(args:List Opd):ZpH:=
 match ZfQ o f.env with
 |some true=>(match x with
  | .yld a i=>(match blk h a i with
    | .lp l=>(match Nat.beq args.length l.params.length with
      |true=>some (acc,{ fn:=l.fn,N:=l.N,env:=ZkP l.env l.params (args.map (Zbd (ZaL f.env))),todo:=[.code l.asg, .beginRound, .code l.body],defs:=[],rnd:=some (a,i),ret:=false,res:=[] },f::fs,h)
      |false=>none)
    |_=>none)
  |_=>none)
 |_=>none
def ZiC(T:Tab)(acc:List Bool)(o:AOp)(f:AFrame)(fs:List AFrame)(h:Zab)(g:FuncId)(avs:List AV):ZpH:=
 match ZfQ o f.env with
 |some true=>(match Zat T g avs with
  |some af=>some (acc,af,f::fs,h)
  |none=>none)
 |_=>none
def opA(A:Ar)(T:Tab)(K:Con)(acc:List Bool)(o:AOp)(os:List AOp)(f:AFrame)(k:List AItem)(fs:List AFrame)(h:Zab):ZpH:=
 match Zfr A T K o f.env h with
 |some (b,r,h')=>some (b::acc,{ f with env:=ZmE f.env o.d r,todo:=.inReg os::k },fs,h')
 |none=>match o.k with
  | .icall g args=>ZiC T acc o f fs h g (args.map (Zbd (ZaL f.env)))
  | .ncall _ _ g args=>ZiC T acc o f fs h g (args.map (Zbd (ZaL f.env)))
  | .ncallv _ _ x args=>(match Zbd (ZaL f.env) x with
    | .fn g caps=>ZiC T acc o f fs h g (args.map (Zbd (ZaL f.env))++caps)
    |_=>none)
  | .icallv x args=>(match Zbd (ZaL f.env) x with
    | .fn g caps=>ZiC T acc o f fs h g (args.map (Zbd (ZaL f.env))++caps)
    |v=>ZoH acc o f fs h v args)
  |_=>none
def rfA(T:Tab)(acc:List Bool)(f:AFrame)(k:List AItem)(fs:List AFrame)(h:Zab)(a:Nat)(x:AV)(ps:List Nat)(asg body:ACode):ZpH:=
 match x with
 | .fn g caps=>(match f.rnd with
   |none=>(match Zat T g (.yld a (nxt (Zam h a .dfr) a)::caps)with
    |some af=>some (acc,af,{ f with todo:=.inRF a (nxt (Zam h a .dfr) a)::k,defs:=(a,nxt h a)::f.defs } ::fs,Zam (Zam h a .dfr) a (.lp { st:=.ready,fn:=f.fn,N:=f.N,env:=f.env,params:=ps,asg:=asg,body:=body }))
    |none=>none)
   |some (a0,i0)=>(match blk h a0 i0 with
    | .lp _=>(match Zat T g (.yld a (nxt h a)::caps)with
      |some af=>some (acc,af,{ f with todo:=.inRF a (nxt h a)::k } ::fs,Zam h a (.lp { st:=.ready,fn:=f.fn,N:=f.N,env:=f.env,params:=ps,asg:=asg,body:=body }))
      |none=>none)
    |_=>none))
 |_=>none
def Zke:List AOp→Bool
 |[]=>false
 |o::os=>match o.k.inl with |true=>true |false=>Zke os
theorem Zfa:∀ {os:List AOp},Zke os=false→ZcF os=os.length
 |[],_=>rfl
 |o::os,h=>by
  simp only[Zke]at h
  split at h
  ·cases h
  ·rename_i e;simp only[ZcF,e,List.length_cons];rw[Zfa h]
def ZkS(A:Ar)(T:Tab)(K:Con)(acc:List Bool)(f:AFrame)(k:List AItem)(fs:List AFrame)(h:Zab):ACode→ZpH
 | .skip=>some (acc,{ f with todo:=k },fs,h)
 | .reg d ops=>(match d with
   |none=>some (acc,{ f with todo:=.inReg ops::k },fs,h)
   |some fr=>match Zkq fr with
    |true=>none
    |false=>match Zke ops with
     |false=>(match ZiV A T K ops acc f.env h with
      |some (acc',env',h')=>(match Zqt A T K fr ops f.env h with
       |true=>some (acc',{ f with env:=env',todo:=k },fs,h')
       |false=>none)
      |none=>none)
     |true=>match ZiV A T K (ops.take (ZcF ops)) acc f.env h with
      |some (acc',env',h')=>(match Zqt A T K fr (ops.take (ZcF ops)) f.env h with
       |true=>some (acc',{ f with env:=env',todo:=.inReg (ops.drop (ZcF ops))::k },fs,h')
       |false=>none)
      |none=>none)
 | .seq a b=>some (acc,{ f with todo:=.code a::.code b::k },fs,h)
 | .cond c a b=>(match Zbd (ZaL f.env) c with
   | .bool t=>(match t with
     |true=>some (acc,{ f with todo:=.code a::k },fs,h)
     |false=>some (acc,{ f with todo:=.code b::k },fs,h))
   |_=>none)
 | .block id b=>some (acc,{ f with todo:=.code b::.inBlock id::k },fs,h)
 | .loop b=>some (acc,{ f with todo:=.code b::.inLoop b::k },fs,h)
 | .rf a x ps asg body=>rfA T acc f k fs h a (Zbd (ZaL f.env) x) ps asg body
 | .exit id=>(match Zcw id k with
   |some k'=>some (acc,{ f with todo:=k' },fs,h)
   |none=>Zj5 acc fs h f.rnd (some (.exit id)))
 | .ret=>(match f.rnd with
   |none=>some (acc,{ f with ret:=true,todo:=[] },fs,h)
   |some p=>Zj5 acc fs h (some p) (some .ret))
 | .junk=>none
 | .gh gs c=>(match Zeg f.env h gs with
   |some (env',h')=>some (acc,{ f with env:=env',todo:=.code c::k },fs,h')
   |none=>none)
def ZB8(A:Ar)(acc:List Bool)(f:AFrame)(fs:List AFrame)(h:Zab):ZpH:=
 match f.defs with
 |(a,i)::ds=>(match blk h a i with
  | .dfr=>some (acc,{ f with defs:=ds },fs,ZaW h a i .dead)
  |_=>none)
 |[]=>match f.rnd with
  |some _=>none
  |none=>match fs with
   |[]=>none
   |c::fs'=>match Zei A f.env h f.res with
    |some (b,vs)=>(match Zws c (Ze6 vs)with
     |some c'=>some (b::acc,c',fs',h)
     |none=>none)
    |none=>none
def Zge(A:Ar)(T:Tab)(K:Con)(acc:List Bool)(f:AFrame)(fs:List AFrame)(h:Zab):ZpH:=
 match f.ret with
 |true=>ZB8 A acc f fs h
 |false=>match f.todo with
  |[]=>(match f.rnd with
   |none=>some (acc,{ f with ret:=true,todo:=[] },fs,h)
   |some p=>Zj5 acc fs h (some p) none)
  |it::k=>match it with
   | .inBlock _=>some (acc,{ f with todo:=k },fs,h)
   | .inLoop b=>some (acc,{ f with todo:=.code b::.inLoop b::k },fs,h)
   | .inReg os=>(match os with
     |[]=>some (acc,{ f with todo:=k },fs,h)
     |o::os=>opA A T K acc o os f k fs h)
   | .inRF _ _=>none
   | .endRF a i=>(match blk h a i with
     | .lp l=>(match Nat.beq l.N f.N with
       |true=>(match l.st with
        | .ready=>some (acc,{ f with todo:=k },fs,ZaW h a i .dead)
        | .done j=>some (acc,{ f with todo:=.code j::k },fs,ZaW h a i .dead)
        | .busy=>none)
       |false=>none)
     |_=>none)
   | .beginRound=>(match f.rnd with
     |some (a,i)=>(match blk h a i with
      | .lp l=>(match l.st with
        | .ready=>some (acc,{ f with todo:=k },fs,ZaW h a i (.lp { l with st:=.busy }))
        |_=>none)
      |_=>none)
     |none=>none)
   | .code c=>ZkS A T K acc f k fs h c
section
variable {C:Ctx}{T:Tab}{K:Con}{h h':Zab}{f f':AFrame}{fs fs':List AFrame}{k:List AItem}{Q:List AFrame→Zab→Prop}{acc acc':List Bool}
def ZgG(C:Ctx)(Q:List AFrame→Zab→Prop)(acc:List Bool)(f:AFrame)(fs:List AFrame)(h:Zab)(r:ZpH):Prop:=
 ∀acc' f' fs' h',r=some (acc',f',fs',h')→(∀b∈acc',b=true)→Ev C (f'::fs') h' Q→(∀b∈acc,b=true)∧Ev C (f::fs) h Q
theorem Zdc{jump:Option ACode}(hr:f.ret=false)
 (ht:(jump=none∧f.todo=[])∨(jump=some .ret∧∃k,f.todo=.code .ret::k)∨∃id k,jump=some (.exit id)∧f.todo=.code (.exit id)::k∧Zcw id k=none):ZgG C Q acc f fs h (Zj5 acc fs h f.rnd jump):=by
 intro acc' f' fs' h' he hb hq
 unfold Zj5 at he
 split at he
 ·cases he
 ·rename_i a i hn
  split at he
  ·cases he
  ·rename_i c fs2
   split at he
   ·rename_i l hbl
    split at he
    ·rename_i c' hfin
     cases he
     exact⟨hb,Zrb jump hr hn hbl ht hfin hq⟩
    ·cases he
   ·cases he
theorem Zh1{o:AOp}(hg:ZfQ o f.env=some true):ZfF o f.env:=by
 unfold ZfQ at hg
 unfold ZfF
 split
 ·trivial
 ·rename_i t want hgg
  rw[hgg]at hg
  simp only at hg
  split at hg
  ·rename_i b hb
   rw[hb]
   cases want<;>simp at hg<;>simp[hg]
  ·simp at hg
  ·cases hg
theorem Zck(hT:Zbu C.P T){o:AOp}{os:List AOp}{g:FuncId}{avs:List AV}(hr:f.ret=false)(ht:f.todo=.inReg (o::os)::k)
 (ho:(∃args m a,(o.k=.icall g args∨o.k=.ncall m a g args)∧avs=args.map (Zbd (ZaL f.env)))∨(∃x args caps m a,(o.k=.icallv x args∨o.k=.ncallv m a x args)∧Zbd (ZaL f.env) x=.fn g caps∧avs=args.map (Zbd (ZaL f.env))++caps)):
 ZgG C Q acc f fs h (ZiC T acc o f fs h g avs):=by
 intro acc' f' fs' h' he hb hq
 unfold ZiC at he
 split at he
 ·rename_i hg
  split at he
  ·rename_i af haf
   cases he
   exact⟨hb,ZvG hT hr ht (Zh1 hg) ho haf hq⟩
  ·cases he
 ·cases he
theorem Zkz{o:AOp}{os:List AOp}{x:Opd}{args:List Opd}(hr:f.ret=false)(ht:f.todo=.inReg (o::os)::k)(ho:o.k=.icallv x args):ZgG C Q acc f fs h (ZoH acc o f fs h (Zbd (ZaL f.env) x) args):=by
 intro acc' f' fs' h' he hb hq
 unfold ZoH at he
 split at he
 ·rename_i hg
  split at he
  ·rename_i a i hx
   split at he
   ·rename_i l hbl
    split at he
    ·rename_i hlen
     cases he
     exact⟨hb,ZpU hr ht (Zh1 hg) ho hx hbl (by simpa using hlen) hq⟩
    ·cases he
   ·cases he
  ·cases he
 ·cases he
theorem ZjQ(hT:Zbu C.P T)(hK:Zfv C.P K){o:AOp}{os:List AOp}(hr:f.ret=false)(ht:f.todo=.inReg (o::os)::k):ZgG C Q acc f fs h (opA std T K acc o os f k fs h):=by
 intro acc' f' fs' h' he hb hq
 unfold opA at he
 split at he
 ·rename_i b r h1 hs
  cases he
  have hbt:b=true:=hb b List.mem_cons_self
  subst hbt
  exact⟨fun b hb'=>hb b (List.mem_cons_of_mem _ hb'),ZCa hr ht (ZcR hT hK hs) hq⟩
 ·split at he
  ·rename_i g args ho
   exact Zck hT hr ht (.inl ⟨args,false,0, .inl ho,rfl⟩) _ _ _ _ he hb hq
  ·rename_i m a g args ho
   exact Zck hT hr ht (.inl ⟨args,m,a, .inr ho,rfl⟩) _ _ _ _ he hb hq
  ·rename_i m a x args ho
   split at he
   ·rename_i g caps hx
    exact Zck hT hr ht (.inr ⟨x,args,caps,m,a, .inr ho,hx,rfl⟩) _ _ _ _ he hb hq
   ·cases he
  ·rename_i x args ho
   split at he
   ·rename_i g caps hx
    exact Zck hT hr ht (.inr ⟨x,args,caps,false,0, .inl ho,hx,rfl⟩) _ _ _ _ he hb hq
   ·exact Zkz hr ht ho _ _ _ _ he hb hq
  ·cases he
theorem Zpu(hT:Zbu C.P T){a:Nat}{x:Opd}{ps:List Nat}{asg body:ACode}(hr:f.ret=false)(ht:f.todo=.code (.rf a x ps asg body)::k):ZgG C Q acc f fs h (rfA T acc f k fs h a (Zbd (ZaL f.env) x) ps asg body):=by
 intro acc' f' fs' h' he hb hq
 unfold rfA at he
 split at he
 ·rename_i g caps hx
  split at he
  ·rename_i hn
   split at he
   ·rename_i af haf
    cases he
    exact⟨hb,Zz6 hT hr ht hx (.inl ⟨hn,rfl,rfl⟩) haf hq⟩
   ·cases he
  ·rename_i a0 i0 hn
   split at he
   ·rename_i l0 hl0
    split at he
    ·rename_i af haf
     cases he
     exact⟨hb,Zz6 hT hr ht hx (.inr ⟨⟨a0,i0,l0,hn,hl0⟩,rfl,rfl⟩) haf hq⟩
    ·cases he
   ·cases he
 ·cases he
theorem Znb(hr:f.ret=true):ZgG C Q acc f fs h (ZB8 std acc f fs h):=by
 intro acc' f' fs' h' he hb hq
 unfold ZB8 at he
 split at he
 ·rename_i a i ds hd
  split at he
  ·rename_i hbl
   cases he
   exact⟨hb,Zo0 hr hd hbl hq⟩
  ·cases he
 ·rename_i hd
  split at he
  ·cases he
  ·rename_i hn
   split at he
   ·cases he
   ·rename_i c fs2
    split at he
    ·rename_i b vs hc
     split at he
     ·rename_i c' hfin
      cases he
      have hbt:b=true:=hb b List.mem_cons_self
      subst hbt
      exact⟨fun b hb'=>hb b (List.mem_cons_of_mem _ hb'),ZxQ hr hn hd hc hfin hq⟩
     ·cases he
    ·cases he
theorem Zly(hfol:C.P.follows .mixedOrders=true)(hT:Zbu C.P T)(hK:Zfv C.P K){c:ACode}(hr:f.ret=false)(ht:f.todo=.code c::k):ZgG C Q acc f fs h (ZkS std T K acc f k fs h c):=by
 intro acc' f' fs' h' he hb hq
 cases c with
 |skip=>cases he;exact⟨hb,Zu6 hr ht hq⟩
 |reg d ops=>
  simp only[ZkS]at he
  split at he
  ·cases he;exact⟨hb,ZAg hr ht hq⟩
  ·split at he
   ·cases he
   rename_i hany
   split at he
   ·rename_i hni
    split at he
    ·rename_i acc1 env1 h1 hd
     split at he
     ·rename_i hfree
      cases he
      obtain⟨d1,d2⟩:=Zee hT hK hd hb
      have hc:=Zfa hni
      refine⟨fun b hb'=>hb b (Zey hd b hb'),ZiY hfol hany hr ht (by rw[hc,List.take_length];exact d1) (fun i j x z hm hx hz _=>ZhX hfree i j x z hm hx hz) d2 (fun _ _ e=>e) ?_⟩
      rw[hc,List.drop_length]
      exact ZgD hr rfl hq
     ·cases he
    ·cases he
   ·split at he
    ·rename_i acc1 env1 h1 hd
     split at he
     ·rename_i hfree
      cases he
      obtain⟨d1,d2⟩:=Zee hT hK hd hb
      exact⟨fun b hb'=>hb b (Zey hd b hb'),ZiY hfol hany hr ht d1 (fun i j x z hm hx hz _=>ZhX hfree i j x z hm hx hz) d2 (fun _ _ e=>e) hq⟩
     ·cases he
    ·cases he
 |seq a b=>cases he;exact⟨hb,ZzO hr ht hq⟩
 |cond c a b=>
  simp only[ZkS]at he
  split at he
  ·rename_i t hc
   split at he
   ·cases he;exact⟨hb,ZkO hr ht hc hq⟩
   ·cases he;exact⟨hb,ZkO hr ht hc hq⟩
  ·cases he
 |block id b=>cases he;exact⟨hb,Zqy hr ht hq⟩
 |loop b=>cases he;exact⟨hb,Zt8 hr ht hq⟩
 |rf a x ps asg body=>exact Zpu hT hr ht _ _ _ _ he hb hq
 |exit id=>
  simp only[ZkS]at he
  split at he
  ·rename_i k' hk
   cases he;exact⟨hb,Zs5 hr ht hk hq⟩
  ·rename_i hk
   exact Zdc hr (.inr (.inr ⟨id,k,rfl,ht,hk⟩)) _ _ _ _ he hb hq
 |ret=>
  simp only[ZkS]at he
  split at he
  ·rename_i hn
   cases he;exact⟨hb,ZoU hr hn (.inr ⟨k,ht⟩) hq⟩
  ·rename_i p hn
   rw[←hn]at he
   exact Zdc hr (.inr (.inl ⟨rfl,k,ht⟩)) _ _ _ _ he hb hq
 |junk=>cases he
 |gh gs c=>
  simp only[ZkS]at he
  split at he
  ·rename_i env1 h1 hg
   cases he
   exact⟨hb,ZBm hr ht hg hq⟩
  ·cases he
theorem Zhi(hfol:C.P.follows .mixedOrders=true)(hT:Zbu C.P T)(hK:Zfv C.P K):ZgG C Q acc f fs h (Zge std T K acc f fs h):=by
 intro acc' f' fs' h' he hb hq
 unfold Zge at he
 split at he
 ·rename_i hr
  exact Znb hr _ _ _ _ he hb hq
 ·rename_i hr
  split at he
  ·rename_i ht
   split at he
   ·rename_i hn
    cases he;exact⟨hb,ZoU hr hn (.inl ht) hq⟩
   ·rename_i p hn
    rw[←hn]at he
    exact Zdc hr (.inl ⟨rfl,ht⟩) _ _ _ _ he hb hq
  ·rename_i it k ht
   split at he
   ·cases he;exact⟨hb,ZnI hr ht hq⟩
   ·cases he;exact⟨hb,Zob hr ht hq⟩
   ·split at he
    ·cases he;exact⟨hb,ZgD hr ht hq⟩
    ·exact ZjQ hT hK hr ht _ _ _ _ he hb hq
   ·cases he
   ·rename_i a i
    split at he
    ·rename_i l hbl
     split at he
     ·rename_i hN
      have hN:l.N=f.N:=by simpa using hN
      split at he
      ·rename_i hst
       cases he
       exact⟨hb,Zmb hr ht hbl hN (.inl hst) (by rw[hst];exact hq)⟩
      ·rename_i j hst
       cases he
       exact⟨hb,Zmb hr ht hbl hN (.inr ⟨j,hst⟩) (by rw[hst];exact hq)⟩
      ·cases he
     ·cases he
    ·cases he
   ·split at he
    ·rename_i a i hn
     split at he
     ·rename_i l hbl
      split at he
      ·rename_i hst
       cases he
       exact⟨hb,Zq4 hr hn ht hbl hst hq⟩
      ·cases he
     ·cases he
    ·cases he
   ·rename_i c
    exact Zly hfol hT hK hr ht _ _ _ _ he hb hq
end
end Go.Proofs.YtkeoeooghhjibaaGreatDoor
