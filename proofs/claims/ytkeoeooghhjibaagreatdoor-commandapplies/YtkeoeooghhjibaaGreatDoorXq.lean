/- Drawn regions, calls, returns, rounds of a loop over a function. No condition. -/
import Derived.Test.YtkeoeooghhjibaaGreatDoorXn
import Derived.RangeFuncNested
namespace Go.Proofs.YtkeoeooghhjibaaGreatDoor
open Go.RowKit (Below)
section
variable {C:Ctx}{h h':Zad}{L L':Lay}{w w':World}{Q:List AFrame→Zad→Prop}{f:AFrame}{fs:List AFrame}{k:List AItem}
theorem Zka{P:Program}{N:Nat}{all:List Oper} :∀ {l:List Oper} {aos:List AOp},ZdY P N all l aos=true→∀k,ZdY P N all (l.drop k) (aos.drop k)=true
 |l,aos,h,0=>h
 |[],[],_,k+1=>rfl
 |o::os,ao::aos,h,k+1=>by
  simp only[ZdY,Bool.and_eq_true]at h
  exact Zka h.2 k
 |[],_::_,h,_=>by simp[ZdY]at h
 |_::_,[],h,_=>by simp[ZdY]at h
theorem Zk4{fr:List (Nat×Nat)}{ops:List AOp}{zs:List Foot}{ε2:Env}{env2:List (Nat×AV)}(hfol:C.P.follows .mixedOrders=true)(hany:ZmB fr=false)(hr:f.ret=false)(ht:f.todo=.code (.reg (some fr) ops)::k)(hza:zs.map (·.o)=ops.take (Zdd ops))(hfree:∀(i j:Nat) (x z:Foot),(i,j)∈fr→zs[i]? =some x→zs[j]? =some z→(x.o.k.neutral=true∨z.o.k.neutral=true∨x.o.frees z.o=true)→ZpU x z)
 (hrun:Runs C.P zs (ZaP f.env) h ε2 h') (henv:∀t av,ZaP env2 t=some av→ε2 t=some av)
 (hq:Ev C ({ f with env:=env2,todo:=.inReg (ops.drop (Zdd ops))::k } ::fs) h' Q):Ev C (f::fs) h Q:=by
 intro L fr cs w hf H _
 cases hf with
 |cons hf hk=>
  rcases hf.mode with⟨e,_⟩ |⟨_,hm,hi⟩
  ·rw[hr]at e;cases e
  ·rw[ht]at hi
   obtain⟨fn,tmps,todo,defers,mode,kind,rnd⟩:=fr
   cases hi with
   |cons hx hki=>
    cases hx with
    |code _ c hmc=>
     dsimp only at hm;subst hm
     cases c<;>simp only[Zbp,Bool.false_eq_true,Bool.and_eq_true,beq_iff_eq]at hmc
     rename_i l id ops' draw
     obtain⟨⟨rfl,hmc⟩,hdr⟩:=hmc
     obtain⟨hlen0,_⟩:=Zdn hmc
     have hca:=Zls ops
     have hzl:zs.length=Zdd ops:=by have:=congrArg List.length hza;simp only[List.length_map,List.length_take]at this;omega
     have hlen:zs.length≤ops'.toList.length:=by omega
     obtain⟨s0,H0⟩:=H.grow (w':=w.drew) ((Below.refl _ _).drew)
     have hleft:left zs (Array.replicate ops'.size false)=zs:=by
      unfold left
      have:((List.range zs.length).filter fun i=>!(Array.replicate ops'.size false).getD i true)=List.range zs.length:=by
       apply List.filter_eq_self.2
       intro i hi
       have:i<ops'.size:=by have:i<zs.length:=by simpa using hi
                            have h2:=Nat.lt_of_lt_of_le this hlen;simpa using h2
       simp[this]
      rw[this]
      apply List.ext_getElem?
      intro j
      have key:∀n,n≤zs.length→(List.range n).filterMap (fun i=>zs[i]?)=zs.take n:=by
       intro n
       induction n with
       |zero=>intro _;rfl
       |succ n ih=>
        intro hn
        rw[List.range_succ,List.filterMap_append,ih (by omega),List.take_add_one]
        cases hh:zs[n]?<;>simp[hh]
      rw[key _ (Nat.le_refl _),List.take_length]
     have hcount:((List.range zs.length).filter fun i=>!(Array.replicate ops'.size false).getD i true).length=zs.length:=by
      have:((List.range zs.length).filter fun i=>!(Array.replicate ops'.size false).getD i true)=List.range zs.length:=by
       apply List.filter_eq_self.2
       intro i hi
       have:i<ops'.size:=by have:i<zs.length:=by simpa using hi
                            have h2:=Nat.lt_of_lt_of_le this hlen;simpa using h2
       simp[this]
      rw[this];simp only[List.length_range]
     have hf0:=hf.step s0
     obtain⟨tmps',w',L',s,H',he',hN',hst⟩:=ZBs (C:=C) (opl:=ops'.toList) hza hfree hmc hdr hany (fn:=fn) (kind:=kind) (defers:=defers) (rnd:=rnd) (cs:=cs) (l:=l) zs.length (w.tape w.drawn (.order fn id)) (Array.replicate ops'.size false) (ZaP f.env) h L w.drew tmps
      (by simp) (fun j o hj hl=>by
        have:j<ops'.size∨ops'.size≤j:=Nat.lt_or_ge _ _
        rcases this with h1 |h1
        ·simp[h1]at hl
        ·simp[Array.getElem?_eq_none (show (Array.replicate ops'.size false).size≤j by simpa using h1)]at hl) (fun j _=>by rcases Nat.lt_or_ge j ops'.size with h1 |h1<;>simp[h1]) hcount (by rw[hleft];exact hrun) H0 hf0.env hf.size
     have s':=s0.trans s
     have hfs:=hf.step s'
     obtain⟨fs2,h2',L2,fr2,cs2,w2,q2,n2,a2,b2,s2⟩:=hq L' { fn,tmps:=tmps',todo:=.inRegion ops'.toList.toArray ((List.range ops'.toList.length).drop zs.length)::l,defers,mode:=.run,kind,roundOf:=rnd } cs w'
      (.cons ⟨hf.fn,hN',fun t av hta=>he' t av (henv t av hta),hf.kind,hfs.defs,hfs.rnd, .inr ⟨hr,rfl, .cons (.inReg ops'.toList _ _ (Zgg (l:=ops'.toList.drop zs.length) rfl (by rw[hzl];exact Zka hmc _))) (hki.step s')⟩,hf.res⟩ (hk.step s')) H' (by simp)
     refine⟨fs2,h2',L2,fr2,cs2,w2,q2,n2,a2,b2,?_,(Fr.of s').trans s2.2⟩
     replace s2:=s2.1
     have e0:ops'.toList.length=ops'.size:=by simp
     have hfuel:zs.length+(ops'.toList.length-zs.length)=ops'.size:=by omega
     rw[hfuel]at hst
     refine Steps.trans (go1 (w':=w.drew) (fr':={ fn,tmps,todo:=.inRegion ops'.toList.toArray (Region.linearise.go .any ops'.toList.toArray ops'.size (w.tape w.drawn (.order fn id)) (Array.replicate ops'.size false) [])::l,defers,mode:=.run,kind,roundOf:=rnd }) ?_) (hst.trans s2)
     simp[stepG,stepG.exec,choose,Sem.run,Question.forced,Question.cut,Region.schedule,hfol,Region.linearise]
def Zam(T:Tab)(g:FuncId)(avs:zA):Option AFrame:=
 match T g with
 |some af=>match Nat.ble avs.length af.N with
  |true=>some { fn:=g,N:=af.N,env:=Zih 0 avs,todo:=[.code af.code],defs:=[],rnd:=none,ret:=false,res:=af.res }
  |false=>none
 |none=>none
theorem Zed{T:Tab}(hT:ZbH C.P T){g:FuncId}{avs:zA}{af:AFrame}{vs:Array Value}(he:Zam T g avs=some af)(hrel:RelL w (Zaz C h L) h L avs vs.toList):FrRel C h L w af (Frame.enter C.P g vs .normal)∧ZbF C.P g=true:=by
 unfold Zam at he
 split at he
 ·rename_i fu hfu
  split at he
  ·rename_i hle
   have hle:avs.length≤fu.N:=by simpa using hle
   cases he
   have hmf:=hT g fu hfu
   unfold Zas at hmf
   split at hmf
   ·rename_i fn hfn
    simp only[Bool.and_eq_true,beq_iff_eq]at hmf
    obtain⟨⟨⟨h1,h2⟩,h3⟩,h4⟩:=hmf
    split at h2
    ·rename_i c hc
     have hsz:vs.size≤fu.N:=by have:=hrel.1;simp at this;omega
     refine⟨⟨rfl,?_,?_,rfl, .nil,rfl, .inr ⟨rfl,rfl,?_⟩,fun _=>⟨fn,hfn,h3⟩⟩,h4⟩
     ·simp[Frame.enter,hfn,h1];omega
     ·intro t av ht
      rw[ZiJ]at ht
      simp only[Nat.zero_le,if_true,Nat.sub_zero]at ht
      have hlt:t<avs.length:=(List.getElem?_eq_some_iff.1 ht).1
      have hv:vs.toList[t]? =some (vs.toList[t]'(by rw[←hrel.1];exact hlt)):=List.getElem?_eq_getElem _
      have hr:=hrel.2 t av _ ht hv
      have hlv:t<vs.size:=by have:=hrel.1;simp at this;omega
      have:(Frame.enter C.P g vs .normal).tmps.getD t undef=vs.toList[t]'(by rw[←hrel.1];exact hlt):=by
       simp[Frame.enter,hfn,Array.getD_eq_getD_getElem?,Array.getElem?_append_left hlv,hlv]
      rw[this];exact hr
     ·have:(Frame.enter C.P g vs .normal).todo=[.code c]:=by simp[Frame.enter,hfn,hc]
      rw[this]
      exact .cons (.code _ _ h2) .nil
    ·cases h2
   ·cases hmf
  ·cases he
 ·cases he
def Zgy(o:AOp)(env:List (Nat×AV)):Prop:=match o.g with |none=>True |some (t,want)=>ZaP env t=some (.bool want)
theorem ZAz{T:Tab}(hT:ZbH C.P T){o:AOp}{os:List AOp}{g:FuncId}{avs:zA}{af:AFrame}(hr:f.ret=false)(ht:f.todo=.inReg (o::os)::k)(hg:Zgy o f.env)
 (ho:(∃args m a,(o.k=.icall g args∨o.k=.ncall m a g args)∧avs=args.map (Zbw (ZaP f.env)))∨(∃x args caps m a,(o.k=.icallv x args∨o.k=.ncallv m a x args)∧Zbw (ZaP f.env) x=.fn g caps∧avs=args.map (Zbw (ZaP f.env))++caps))
 (he:Zam T g avs=some af) (hq:Ev C (af::f::fs) h Q):Ev C (f::fs) h Q:=by
 intro L fr cs w hf H _
 cases hf with
 |cons hf hk=>
  rcases hf.mode with⟨e,_⟩ |⟨_,hm,hi⟩
  ·rw[hr]at e;cases e
  ·have hi0:=hi
   rw[ht]at hi
   cases hi':fr.todo with
   |nil=>rw[hi']at hi;cases hi
   |cons y l=>
    rw[hi']at hi
    cases hi with
    |cons hx hki=>
     cases hx with
     |inReg ops ix _ hmc=>
      obtain⟨kk,ix',op,rfl,e1,e2,e3⟩:=ZfM hmc
      have henv:EnvF C h L w (ZaP f.env) fr.tmps:=hf.env
      obtain⟨g0,g1,_⟩:=Zpx henv e2
      have hwant:Region.wanted op (yielded ops.toArray fr.tmps)=true:=by
       unfold Zgy at hg
       split at hg
       ·rename_i hgg;exact g0 hgg
       ·rename_i t want hgg;rw[g1 t want want hgg hg];simp
      have e2':=e2
      simp only[ZqQ,Bool.and_eq_true,beq_iff_eq]at e2'
      obtain⟨⟨⟨⟨hnd,_⟩,_⟩,_⟩,hmop⟩:=e2'
      have hρ:=ZCC henv
      obtain⟨vs,hrun,hrel⟩:∃vs,(∀hc:ZbF C.P g=true,(execOp fr.eval op).run C.P w=.ok (.enter g vs) w)∧RelL w (Zaz C h L) h L avs vs.toList:=by
       rcases ho with⟨args,m,a,hok,rfl⟩ |⟨x,args,caps,m,a,hok,hx,rfl⟩
       ·rcases hok with hok |hok<;>rw[hok]at hmop<;>simp only[mop]at hmop<;>split at hmop<;>first
         |(rename_i f' args' ts hop
           simp only[Bool.and_eq_true,beq_iff_eq]at hmop
           obtain⟨⟨rfl,hmop⟩,hcal⟩:=hmop
           exact⟨args'.map fr.eval,fun hc=>by simpa using ZhU (w:=w) hop (hρ.fnc g) hc,ZcK hρ hmop⟩)
         |cases hmop
       ·rcases hok with hok |hok<;>rw[hok]at hmop<;>simp only[mop]at hmop<;>split at hmop<;>first
         |(rename_i x' args' ts hop
           simp only[Bool.and_eq_true]at hmop
           have rx:=hρ.rel x x' hmop.1
           rw[hx]at rx
           obtain⟨cvs,c1,c2⟩:=ZH2 rx
           exact⟨args'.map fr.eval++cvs,fun hc=>ZhU (w:=w) hop c1 hc,by rw[Array.toList_append];exact(ZcK hρ hmop.2).append c2⟩)
         |cases hmop
      obtain⟨hfr,hcal⟩:=Zed hT he hrel
      obtain⟨fs2,h2',L2,fr2,cs2,w2,q2,n2,a2,b2,s2⟩:=hq L _ (fr::cs) w (.cons hfr (.cons ⟨hf.fn,hf.size,hf.env,hf.kind,hf.defs,hf.rnd, .inr ⟨hr,hm,hi0⟩,hf.res⟩ hk)) H (by simp)
      exact⟨fs2,h2',L2,fr2,cs2,w2,q2,n2,a2,b2,(ZjA hm hi' (by simpa using e1) hwant hnd (hrun hcal)).trans s2.1,s2.2⟩
def Zfk(A:Ar)(env:List (Nat×AV))(h:Zad):List ARes→Option (Bool×zA)
 |[]=>some (true,[])
 | .tmp t::rs=>match Zfk A env h rs with
   |some (b,vs)=>some (b,Zbw (ZaP env) (.t t)::vs)
   |none=>none
 | .cell t ag n::rs=>match Zjg A h ag n (Zbw (ZaP env) (.t t)),Zfk A env h rs with
   |some (b1,v),some (b2,vs)=>some (Zag b1 b2,v::vs)
   |_,_=>none
def Zgw:zA→AV
 |[v]=>v
 |vs=>.tup vs
def ZEg(tmps:Array Value):ResultVar→Sem Value
 | .tmp t=>pure (tmps.getD t undef)
 | .cell a t=>do loadVar t (←asAddr (tmps.getD a undef))
theorem ZkC(fn:Func)(tmps:Array Value):results fn tmps=(fn.results.mapM (ZEg tmps) >>= fun vs=>pure (if h:vs.size=1 then vs[0]else .tuple vs)):=rfl
theorem Zk0(H:HRel C h L w){env:List (Nat×AV)}{tmps:Array Value}(he:EnvRel C h L w env tmps):∀(rs:List ResultVar) (as:List ARes) (vs:zA),ZqB C.P rs as=true→Zfk std env h as=some (true,vs)→
 ∃xs:List Value,RelL w (Zaz C h L) h L vs xs∧(rs.mapM (ZEg tmps)).run C.P w=.ok xs w
 |[],[],vs,_,hc=>by simp only[Zfk,zS,zP,true_and]at hc;subst hc;exact⟨[],RelL.nil,by simp⟩
 | .tmp t::rs, .tmp t'::as,vs,hm,hc=>by
   simp only[ZqB,Bool.and_eq_true,beq_iff_eq]at hm
   obtain⟨rfl,hm⟩:=hm
   simp only[Zfk]at hc
   split at hc
   ·rename_i b vs' hc'
    simp only[zS,zP]at hc
    obtain⟨rfl,rfl⟩:=hc
    obtain⟨xs,h1,h2⟩:=Zk0 H he rs as vs' hm hc'
    have hv:ZaH C h L w (Zbw (ZaP env) (.t t)) (tmps.getD t undef):=by
     simp only[Zbw]
     cases hg:ZaP env t with
     |none=>exact .top _
     |some av=>exact he t av hg
    exact⟨tmps.getD t undef::xs,RelL.cons hv h1,by simp only[List.mapM_cons,ZEg,Sem.run_bind,Sem.run_pure,Result.andThen_ok];rw[h2];rfl⟩
   ·cases hc
 | .cell t ty::rs, .cell t' ag n::as,vs,hm,hc=>by
   simp only[ZqB,Bool.and_eq_true,beq_iff_eq]at hm
   obtain⟨⟨rfl,hsh⟩,hm⟩:=hm
   obtain⟨d,i,hd,hag,hi,hn,hne⟩:=ZcG hsh
   simp only[Zfk]at hc
   split at hc
   ·rename_i b1 v b2 vs' hl hc'
    simp only[zS,zP,std_and]at hc
    obtain⟨⟨rfl,rfl⟩,rfl⟩:=hc
    obtain⟨xs,h1,h2⟩:=Zk0 H he rs as vs' hm hc'
    have hv:ZaH C h L w (Zbw (ZaP env) (.t t)) (tmps.getD t undef):=by
     simp only[Zbw]
     cases hg:ZaP env t with
     |none=>exact .top _
     |some av=>exact he t av hg
    obtain⟨x,ad,e1,e2,e3⟩:=Zpy H hv hd hag hi hn hne hl
    have ea:(asAddr (tmps.getD t undef)).run C.P w=.ok ad w:=by rw[e1];rfl
    exact⟨x::xs,RelL.cons e3 h1,by simp only[List.mapM_cons,ZEg,Sem.run_bind,Result.andThen_ok,ea,e2];rw[h2];rfl⟩
   ·cases hc
 |[],_::_,_,hm,_=>by simp[ZqB]at hm
 | .tmp _::_,[],_,hm,_=>by simp[ZqB]at hm
 | .cell _ _::_,[],_,hm,_=>by simp[ZqB]at hm
 | .tmp _::_, .cell _ _ _::_,_,hm,_=>by simp[ZqB]at hm
 | .cell _ _::_, .tmp _::_,_,hm,_=>by simp[ZqB]at hm
theorem Zdu(H:HRel C h L w){env:List (Nat×AV)}{tmps:Array Value}(he:EnvRel C h L w env tmps){fn:Func}{as:List ARes}{vs:zA}(hm:ZqB C.P fn.results.toList as=true)(hc:Zfk std env h as=some (true,vs)):
 ∃x,(results fn tmps).run C.P w=.ok x w∧ZaH C h L w (Zgw vs) x:=by
 obtain⟨xs,h1,h2⟩:=Zk0 H he fn.results.toList as vs hm hc
 have h3:(fn.results.mapM (ZEg tmps)).run C.P w=.ok xs.toArray w:=by
  rw[Array.mapM_eq_mapM_toList]
  show Sem.run C.P (List.mapM _ _ >>= fun x=>pure x.toArray) w=_
  rw[Sem.run_bind,h2]
  rfl
 have hl:=h1.1
 unfold Zgw
 split
 ·rename_i v
  obtain⟨x,rfl⟩:∃x,xs=[x]:=by
   cases xs with
   |nil=>simp at hl
   |cons x r=>cases r with
    |nil=>exact⟨x,rfl⟩
    |cons y r=>simp at hl
  exact⟨x,by rw[ZkC,Sem.run_bind,h3];rfl,h1.2 0 v x rfl rfl⟩
 ·rename_i hne
  have hsz:xs.toArray.size≠1:=by
   intro e
   cases vs with
   |nil=>simp at hl e;omega
   |cons v r=>cases r with
    |nil=>exact hne v rfl
    |cons y r=>simp at hl e;omega
  exact⟨.tuple xs.toArray,by rw[ZkC,Sem.run_bind,h3,Result.andThen_ok,dif_neg hsz];rfl, .tup vs xs.toArray (by simpa using hl) (fun j u v hu hv=>h1.2 j u v hu (by simpa using hv))⟩
def ZBF(f:AFrame)(v:AV):Option AFrame:=
 match f.ret,f.todo with
 |false, .inReg (o::os)::k=>some { f with env:=Zos f.env o.d v,todo:=.inReg os::k }
 |false, .inRF a i::k=>some { f with todo:=.endRF a i::k }
 |_,_=>none
theorem ZrT{f f':AFrame}{fr:Frame}{v:AV}{x:Value}(hf:FrRel C h L w f fr)(hv:ZaH C h L w v x)(he:ZBF f v=some f'):FrRel C h L w f' (fr.finish x):=by
 unfold ZBF at he
 split at he
 ·rename_i o os k hr ht
  cases he
  rcases hf.mode with⟨e,_⟩ |⟨_,hm,hi⟩
  ·rw[hr]at e;cases e
  ·rw[ht]at hi
   cases hi':fr.todo with
   |nil=>rw[hi']at hi;cases hi
   |cons y l=>
    rw[hi']at hi
    cases hi with
    |cons hx hki=>
     cases hx with
     |inReg ops ix _ hmc=>
      obtain⟨kk,ix',op,rfl,e1,e2,e3⟩:=ZfM hmc
      have e2':=e2
      simp only[ZqQ,Bool.and_eq_true,beq_iff_eq]at e2'
      obtain⟨⟨⟨⟨_,hdst⟩,hdN⟩,_⟩,_⟩:=e2'
      rw[Zgr hi' (by simpa using e1),hdst]
      have hp:EnvF C h L w (Env.put (ZaP f.env) o.d v) (Zli fr.tmps o.d x):=EnvF.put hf.env (fun d' e=>by rw[e]at hdN;rw[hf.size];simpa using hdN) (fun _=>hv)
      exact⟨hf.fn,by rw[ZfD];exact hf.size,fun t av hta=>hp t av (by rw[←ZdX];exact hta),hf.kind,hf.defs,hf.rnd, .inr ⟨hr,hm, .cons (.inReg ops ix' os e3) hki⟩,hf.res⟩
 ·rename_i a i k hr ht
  cases he
  rcases hf.mode with⟨e,_⟩ |⟨_,hm,hi⟩
  ·rw[hr]at e;cases e
  ·rw[ht]at hi
   cases hi':fr.todo with
   |nil=>rw[hi']at hi;cases hi
   |cons y l=>
    rw[hi']at hi
    cases hi with
    |cons hx hki=>
     cases hx with
     |inRF _ _ g hl=>
      have:fr.finish x= { fr with todo:=.endRangeFunc g::l } :=by
       obtain⟨fn,tmps,todo,defers,mode,kind,rnd⟩:=fr
       dsimp only at hi';subst hi'
       rfl
      rw[this]
      exact⟨hf.fn,hf.size,hf.env,hf.kind,hf.defs,hf.rnd, .inr ⟨hr,hm, .cons (.endRF _ _ g hl) hki⟩,hf.res⟩
 ·cases he
theorem ZGw{c c':AFrame}{vs:zA}(hr:f.ret=true)(hn:f.rnd=none)(hd:f.defs=[])(hc:Zfk std f.env h f.res=some (true,vs))(hfin:ZBF c (Zgw vs)=some c')(hq:Ev C (c'::fs) h Q):Ev C (f::c::fs) h Q:=by
 intro L fr cs w hf H _
 cases hf with
 |cons hf hk=>
  cases hk with
  |cons hfc hk=>
   rename_i frc csc
   rcases hf.mode with⟨_,hm⟩ |⟨e,_⟩
   ·obtain⟨fn,hfn,hmr⟩:=hf.res hn
    obtain⟨x,e1,e2⟩:=Zdu H hf.env hmr hc
    obtain⟨fs2,h2',L2,fr2,cs2,w2,q2,n2,a2,b2,s2⟩:=hq L (frc.finish x) csc w (.cons (ZrT hfc e2 hfin) hk) H (by simp)
    refine⟨fs2,h2',L2,fr2,cs2,w2,q2,n2,a2,b2,Steps.trans (.one (step_leave_returned ⟨hm,?_,hf.kind,fn,?_,e1⟩)) s2.1,s2.2⟩
    ·have e:=hf.defs
     rw[hd]at e
     rw[e.nil_inv]
    ·rw[hf.fn];exact hfn
   ·rw[hr]at e;cases e
end
end Go.Proofs.YtkeoeooghhjibaaGreatDoor
namespace Go.Proofs.YtkeoeooghhjibaaGreatDoor
open Go.RowKit (Below)
section
variable {C:Ctx}{h h':Zad}{L L':Lay}{w w':World}{Q:List AFrame→Zad→Prop}{f:AFrame}{fs:List AFrame}{k:List AItem}
theorem ZcX(w:World)(g:Nat)(o:Obj):w.grownBy (w.putObj g o) (some g):=⟨rfl,rfl,rfl,by simp,fun k _ hne=>World.putObj_heap_other (fun e=>hne (by rw[e]))⟩
theorem HRel.killW(H:HRel C h L w){a i:Nat}(hl:Plc h L a i)(hg:w.grownBy w' (some (L.loc a i))):Step w (Zaz C h L) h L w' (Zaz C (ZaY h a i .dead) L) (ZaY h a i .dead) L∧HRel C (ZaY h a i .dead) L w':=by
 have hnd:blk h a i≠ .dead:=fun e=>hl.tag (by rw[e];rfl)
 have hblk:∀c j,blk (ZaY h a i .dead) c j=if a=c∧i=j then .dead else blk h c j:=fun c j=>Zcm hnd c j .dead
 have hb:Below C.base w w':=(Below.refl _ _).grown hg H.hbase (fun k hk=>by cases hk;exact(H.live a i hl).1)
 have hnp:¬Plc (ZaY h a i .dead) L a i:=fun p=>p.tag (by rw[hblk,if_pos ⟨rfl,rfl⟩];rfl)
 have htag:∀c j,Plc (ZaY h a i .dead) L c j→Plc h L c j:=fun c j p=>by
  by_cases hne:a=c∧i=j
  ·obtain⟨rfl,rfl⟩:=hne;exact absurd p hnp
  ·exact p.to (by rw[hblk,if_neg hne]) rfl
 have hs:Step w (Zaz C h L) h L w' (Zaz C (ZaY h a i .dead) L) (ZaY h a i .dead) L:=by
  refine⟨hb.size,fun k hk ho=>⟨?_,hg.block k hk (fun e=>ZvD H ho hl (by simpa using e))⟩,fun c=>by rw[ZdJ];exact Nat.le_refl _,fun c j sz _ ht=>?_⟩
  ·rcases ho with ho |⟨h1,h2⟩
   ·exact .inl ho
   ·exact .inr ⟨h1,fun c j hc=>h2 c j (htag c j hc)⟩
  ·rw[hblk]at ht
   split at ht
   ·cases ht
   ·exact⟨ht,rfl,rfl⟩
 refine⟨hs,H.one hs hb a i (fun c j hne=>?_) (fun ht=>absurd ht hnp) (fun ht=>absurd ht hnp) (fun k hk ho=>hg.block k (Nat.lt_of_lt_of_le hk H.top) (fun e=>H.off hk ho hl (by simpa using e))) ?_ (fun c j _ _ ht=>absurd ht hnp)⟩
 ·have he:blk (ZaY h a i .dead) c j=blk h c j:=by rw[hblk,if_neg (fun e=>hne ⟨e.1.symm,e.2.symm⟩)]
  refine .inr ⟨he,rfl,rfl,fun hdd=>hg.block _ (H.live c j hdd).2 (fun e=>?_)⟩
  obtain⟨rfl,rfl⟩:=H.inj c j a i hdd hl (by simpa using e)
  exact hne ⟨rfl,rfl⟩
 ·rw[hblk,if_pos ⟨rfl,rfl⟩];trivial
def ZGQ(ts:List Nat)(env:List (Nat×AV)):List (Nat×AV):=env.filter fun p=>ts.any fun t=>Nat.beq p.1 t
def bare:AV→Bool
 | .nils=>true
 | .emp=>true
 |_=>false
theorem ZhV{ok:Nat→Prop}{v:AV}{x:Value}(hb:bare v=true)(hr:Rel w ok h L v x):∃ad,x=.slice ad 0 0:=by
 unfold bare at hb
 split at hb
 ·cases hr;exact⟨none,rfl⟩
 ·cases hr with |emp ad=>exact⟨some ad,rfl⟩
 ·cases hb
def Zfs(env:List (Nat×AV))(h:Zad):Ghost→Option (List (Nat×AV)×Zad)
 | .keep ts=>some (ZGQ ts env,h)
 | .drop a=>some (env,ZkV h a)
 | .frz t=>match ZaP env t with
   |some (.row a i)=>match ZkW a,blk h a i with
    |false, .row _ _ r=>(match r.pure with |true=>some (Zdz env t (.list r),ZaY h a i .dead) |false=>none)
    |_,_=>none
   |some .nils=>some (Zdz env t (.list (.ints .i64 [])),h)
   |some (.list _)=>some (env,h)
   |_=>none
 | .own t a e sz r=>match ZaP env t,r.none,Nat.blt 0 sz with
   |some v,true,true=>(match bare v with
    |true=>some (Zdz env t (.row a (nxt h a)),Zal h a (.row e sz r))
    |false=>some (env,h))
   |_,_,_=>none
 | .ownb t off a e sz r=>match ZaP env t,r.none,Nat.blt 0 sz with
   |some (.ptr b i 0 0),true,true=>(match blk h b i with
    | .row e' sz' (.gen [.agg (.gen xs)])=>(match bare (xs.getD off .top)with
      |true=>some (env,ZaY (Zal h a (.row e sz r)) b i (.row e' sz' (.gen [.agg (.gen (xs.set off (.row a (nxt h a))))])))
      |false=>some (env,h))
    |_=>none)
   |_,_,_=>none
 | .ownc t a e sz r=>match ZaP env t,r.none,Nat.blt 0 sz with
   |some (.ptr b i 0 0),true,true=>(match blk h b i with
    | .row e' sz' (.gen [x])=>(match bare x with
      |true=>some (env,ZaY (Zal h a (.row e sz r)) b i (.row e' sz' (.gen [.row a (nxt h a)])))
      |false=>some (env,h))
    |_=>none)
   |_,_,_=>none
 | .sym a s=>match ZnQ (fam h a),Ztk s with
   |true,true=>some (env,ZgF h a s)
   |_,_=>none
def Ze2(env:List (Nat×AV))(h:Zad):List Ghost→Option (List (Nat×AV)×Zad)
 |[]=>some (env,h)
 |g::gs=>match Zfs env h g with |some (e,h1)=>Ze2 e h1 gs |none=>none
theorem Znc(p:Nat→Bool)(env:List (Nat×AV))(t:Nat):ZaP (env.filter fun q=>p q.1) t=if p t then ZaP env t else none:=by
 have hb:∀a b:Nat,Nat.beq a b=decide (a=b):=fun a b=>by rw[Bool.eq_iff_iff];simp
 induction env with
 |nil=>simp[ZaP]
 |cons q env ih=>
  obtain⟨i,x⟩:=q
  by_cases hp:p i=true
  ·rw[List.filter_cons,if_pos hp]
   simp only[ZaP,hb]
   by_cases hi:i=t
   ·subst hi;simp[hp]
   ·simp only[hi,decide_false,ih]
  ·rw[List.filter_cons,if_neg hp,ih]
   simp only[ZaP,hb]
   by_cases hi:i=t
   ·subst hi;simp[hp]
   ·simp only[hi,decide_false]
theorem ZnM(H:HRel C h L w){env env':List (Nat×AV)}{tmps:Array Value}(he:EnvRel C h L w env tmps){g:Ghost}(hg:Zfs env h g=some (env',h')):∃L',Step w (Zaz C h L) h L w (Zaz C h' L') h' L'∧HRel C h' L' w∧EnvRel C h' L' w env' tmps:=by
 cases g with
 |keep ts=>
  simp only[Zfs,zS,zP]at hg
  obtain⟨rfl,rfl⟩:=hg
  refine⟨L,Step.refl _ _ _ _,H,fun t av ht=>?_⟩
  unfold ZGQ at ht
  rw[Znc (fun i=>ts.any fun t=>Nat.beq i t)]at ht
  split at ht
  ·exact he t av ht
  ·cases ht
 |sym a s=>
  simp only[Zfs]at hg
  split at hg
  ·rename_i hnf hsy
   simp only[zS,zP]at hg
   obtain⟨rfl,rfl⟩:=hg
   obtain⟨o1,o2⟩:=Zfr hnf (Znv hsy)
   obtain⟨s',H'⟩:=H.kill (ZgF h a s) o1 (fun b i=>.inr (o2 b i))
   exact⟨L,s',H',he.step s'⟩
  ·cases hg
 |drop a=>
  simp only[Zfs,zS,zP]at hg
  obtain⟨rfl,rfl⟩:=hg
  obtain⟨s,H'⟩:=H.kill (ZkV h a) (fun b=>Zpj _ _ _) (fun b i=>by rw[Zor];split;exact .inl rfl;exact .inr rfl)
  exact⟨L,s,H',he.step s⟩
 |frz t=>
  simp only[Zfs]at hg
  split at hg
  ·rename_i a i hta
   split at hg
   ·rename_i e sz r hfz hb
    split at hg
    ·rename_i hp
     simp only[zS,zP]at hg
     obtain⟨rfl,rfl⟩:=hg
     have hnd:blk h a i≠ .dead:=by rw[hb];simp
     obtain⟨k1,k2⟩:=Zdb hnd
     obtain⟨s,H'⟩:=H.kill (ZaY h a i .dead) k1 (fun b j=>(k2 b j).imp id fun e=>e.2)
     refine⟨L,s,H',fun t' av ht'=>?_⟩
     rw[Zci]at ht'
     split at ht'
     ·rename_i htt
      subst htt
      cases ht'
      have hr:=he t _ hta
      obtain⟨ht,h0,h1,h2,h3⟩:=H.rowAt hb
      generalize tmps.getD t undef=x at hr
      cases hr with
      |row _ _ ad n c hn hl=>
       obtain⟨had,rfl,rfl⟩:=hl.2 _ ht
       by_cases hs0:L.size a i=0
       ·have hre:r.elems=[]:=List.eq_nil_of_length_eq_zero (by omega)
        rw[hs0,show(sz,r.elems.length).2=0 by simp[hre]]
        exact .nil r _ _ hre
       obtain⟨hpl,cur,h4,h5,h6,h7,h8⟩:=H.curAt hb hs0
       have had:=had hs0
       subst had
       have hlv:=H.live a i hpl
       refine .list r _ rfl ⟨L.loc a i,0,none⟩ _ _ sz (cur.toList.take (r.elems.length*sz)) hlv.2 (.inr ⟨H.far hpl (Zdt hfz),fun b j htb e=>?_⟩) rfl hn h3 h6.1.symm h7 h8 (Zbj hp) (fun j u v hu hv=>(h6.2 j u v hu hv).step s)
       by_cases hne:a=b∧i=j
       ·obtain⟨rfl,rfl⟩:=hne
        exact absurd (by rw[Zcm hnd,if_pos ⟨rfl,rfl⟩];rfl) htb.tag
       ·obtain⟨rfl,rfl⟩:=H.inj b j a i (htb.to (by rw[Zcm hnd,if_neg hne]) rfl) hpl e
        exact hne ⟨rfl,rfl⟩
     ·exact(he t' av ht').step s
    ·cases hg
   ·cases hg
  ·rename_i hta
   simp only[zS,zP]at hg
   obtain⟨rfl,rfl⟩:=hg
   refine⟨L,Step.refl _ _ _ _,H,fun t' av ht'=>?_⟩
   rw[Zci]at ht'
   split at ht'
   ·rename_i htt
    subst htt
    cases ht'
    have hr:=he t _ hta
    generalize tmps.getD t undef=x at hr
    cases hr with
    |nils=>exact .nil _ none 0 rfl
   ·exact he t' av ht'
  ·simp only[zS,zP]at hg
   obtain⟨rfl,rfl⟩:=hg
   exact⟨L,Step.refl _ _ _ _,H,he⟩
  ·cases hg
 |own t a e sz r=>
  simp only[Zfs]at hg
  split at hg
  ·rename_i v hta hrn hsz
   have hre:=Row.none_elems hrn
   have hsz:0<sz:=by simpa[Nat.blt_eq]using hsz
   split at hg
   ·rename_i hb
    simp only[zS,zP]at hg
    obtain⟨rfl,rfl⟩:=hg
    obtain⟨L',s,H',rr⟩:=ZcO H (fun _ _=>False) h (fun _=>rfl) (fun _ _=>.inr ⟨fun e=>e,rfl⟩) (a:=a) (e:=e) hre hsz
    refine⟨L',s,H',fun t' av ht'=>?_⟩
    rw[Zci]at ht'
    split at ht'
    ·rename_i htt
     subst htt
     cases ht'
     obtain⟨ad,hx⟩:=ZhV hb (he t _ hta)
     rw[hx];exact rr ad
    ·exact(he t' av ht').step s
   ·simp only[zS,zP]at hg
    obtain⟨rfl,rfl⟩:=hg
    exact⟨L,Step.refl _ _ _ _,H,he⟩
  ·cases hg
 |ownc t a e sz r=>
  simp only[Zfs]at hg
  split at hg
  ·rename_i b i hta hrn hsz
   have hre:=Row.none_elems hrn
   have hsz:0<sz:=by simpa[Nat.blt_eq]using hsz
   split at hg
   ·rename_i e' sz' x hbk
    split at hg
    ·rename_i hb
     simp only[zS,zP]at hg
     obtain⟨rfl,rfl⟩:=hg
     obtain⟨L',s,H',rr⟩:=ZcO H (fun _ _=>False) h (fun _=>rfl) (fun _ _=>.inr ⟨fun e=>e,rfl⟩) (a:=a) (e:=e) hre hsz
     have hi:i<nxt h b:=Zof (by rw[hbk];simp)
     have hbk':blk (Zal h a (.row e sz r)) b i=.row e' sz' (.gen [x]):=by
      rw[Za3,if_neg,hbk]
      rintro⟨rfl,rfl⟩;omega
     have hfx:x.flat=[x]:=by cases x<;>first |rfl |cases hb
     have hfl:=(H'.rowAt hbk').2.2.2.2
     have hxl:1=sz':=by have:=hfl _ (List.mem_singleton.2 rfl);rw[hfx]at this;simpa using this
     obtain⟨s2,H2⟩:=H'.rerel hbk' (r':=.gen [.row a (nxt h a)]) rfl (fun y hy=>by
      simp only[Row.elems,List.mem_singleton]at hy
      subst hy;simp[AV.flat,hxl]) (fun cs hc=>by
      have e1:Zai (Row.gen [x]).elems=[x]:=by show x.flat++[]=[x];rw[hfx];rfl
      have e2:Zai (Row.gen [AV.row a (nxt h a)]).elems=[AV.row a (nxt h a)]:=rfl
      rw[e1]at hc
      rw[e2]
      refine⟨hc.1,fun j u v hu hv=>?_⟩
      cases j with
      |succ j=>simp at hu
      |zero=>
       simp only[List.getElem?_cons_zero,zS]at hu
       subst hu
       obtain⟨ad,hx⟩:=ZhV hb (hc.2 0 x v rfl hv)
       rw[hx];exact rr ad)
     exact⟨L',s.trans s2,H2,(he.step s).step s2⟩
    ·simp only[zS,zP]at hg
     obtain⟨rfl,rfl⟩:=hg
     exact⟨L,Step.refl _ _ _ _,H,he⟩
   ·cases hg
  ·cases hg
 |ownb t off a e sz r=>
  simp only[Zfs]at hg
  split at hg
  ·rename_i b i hta hrn hsz
   have hre:=Row.none_elems hrn
   have hsz:0<sz:=by simpa[Nat.blt_eq]using hsz
   split at hg
   ·rename_i e' sz' xs hbk
    split at hg
    ·rename_i hb
     simp only[zS,zP]at hg
     obtain⟨rfl,rfl⟩:=hg
     obtain⟨L',s,H',rr⟩:=ZcO H (fun _ _=>False) h (fun _=>rfl) (fun _ _=>.inr ⟨fun e=>e,rfl⟩) (a:=a) (e:=e) hre hsz
     have hi:i<nxt h b:=Zof (by rw[hbk];simp)
     have hbk':blk (Zal h a (.row e sz r)) b i=.row e' sz' (.gen [.agg (.gen xs)]):=by
      rw[Za3,if_neg,hbk]
      rintro⟨rfl,rfl⟩;omega
     have hfl:=(H'.rowAt hbk').2.2.2.2
     have hxl:xs.length=sz':=by have:=hfl _ (List.mem_singleton.2 rfl);simpa[AV.flat,Row.elems]using this
     obtain⟨s2,H2⟩:=H'.rerel hbk' (r':=.gen [.agg (.gen (xs.set off (.row a (nxt h a))))]) rfl (fun x hx=>by
      simp only[Row.elems,List.mem_singleton]at hx
      subst hx;simp[AV.flat,Row.elems,hxl]) (fun cs hc=>by
      have e1:Zai (Row.gen [AV.agg (.gen xs)]).elems=xs:=by simp[Zai,Row.elems,AV.flat]
      have e2:Zai (Row.gen [AV.agg (.gen (xs.set off (.row a (nxt h a))))]).elems=xs.set off (.row a (nxt h a)):=by simp[Zai,Row.elems,AV.flat]
      rw[e1]at hc
      rw[e2]
      refine⟨by rw[List.length_set];exact hc.1,fun j u v hu hv=>?_⟩
      by_cases hj:off=j
      ·subst hj
       have hlt:=(List.getElem?_eq_some_iff.1 hu).1
       rw[List.length_set]at hlt
       rw[List.getElem?_set_self hlt]at hu
       cases hu
       have hg:xs[off]? =some (xs.getD off .top):=by rw[List.getD_eq_getElem?_getD,List.getElem?_eq_getElem hlt];rfl
       obtain⟨ad,hx⟩:=ZhV hb (hc.2 off _ v hg hv)
       rw[hx];exact rr ad
      ·rw[List.getElem?_set_ne hj]at hu
       exact hc.2 j u v hu hv)
     exact⟨L',s.trans s2,H2,(he.step s).step s2⟩
    ·simp only[zS,zP]at hg
     obtain⟨rfl,rfl⟩:=hg
     exact⟨L,Step.refl _ _ _ _,H,he⟩
   ·cases hg
  ·cases hg
theorem ZhD:∀ {gs:List Ghost} {h:Zad} {L:Lay} {env env':List (Nat×AV)} {tmps:Array Value},HRel C h L w→EnvRel C h L w env tmps→Ze2 env h gs=some (env',h')→∃L',Step w (Zaz C h L) h L w (Zaz C h' L') h' L'∧HRel C h' L' w∧EnvRel C h' L' w env' tmps
 |[],h,L,env,env',tmps,H,he,hg=>by
  simp only[Ze2,zS,zP]at hg
  obtain⟨rfl,rfl⟩:=hg
  exact⟨_,Step.refl _ _ _ _,H,he⟩
 |g::gs,h,L,env,env',tmps,H,he,hg=>by
  simp only[Ze2]at hg
  split at hg
  ·rename_i e h1 hg1
   obtain⟨L1,s1,H1,he1⟩:=ZnM H he hg1
   obtain⟨L2,s2,H2,he2⟩:=ZhD H1 he1 hg
   exact⟨L2,s1.trans s2,H2,he2⟩
  ·cases hg
theorem Zsp{gs:List Ghost}{env':List (Nat×AV)}(hg:Ze2 f.env h gs=some (env',h'))(hq:Ev C ({ f with env:=env' } ::fs) h' Q):Ev C (f::fs) h Q:=by
 intro L fr cs w hf H _
 cases hf with
 |cons hf hk=>
  obtain⟨L',s,H',he⟩:=ZhD H hf.env hg
  have hfs:=hf.step s
  obtain⟨fs2,h2',L2,fr2,cs2,w2,q2,n2,a2,b2,s2⟩:=hq L' fr cs w (.cons ⟨hf.fn,hf.size,he,hf.kind,hfs.defs,hfs.rnd,hfs.mode,hf.res⟩ (hk.step s)) H' (by simp)
  exact⟨fs2,h2',L2,fr2,cs2,w2,q2,n2,a2,b2,s2.1,(Fr.of s).trans s2.2⟩
theorem ZKn{gs:List Ghost}{c:ACode}{env':List (Nat×AV)}(hr:f.ret=false)(ht:f.todo=.code (.gh gs c)::k)(hg:Ze2 f.env h gs=some (env',h'))(hq:Ev C ({ f with env:=env',todo:=.code c::k } ::fs) h' Q):Ev C (f::fs) h Q:=
 ZEK hr ht (Zsp (f:={ f with todo:=.code c::k }) hg hq)
theorem ZrM{a i:Nat}{ds:List (Nat×Nat)}(hr:f.ret=true)(hd:f.defs=(a,i)::ds)(hbig:ZqS a=false)(hb:blk h a i=.dfr)(hq:Ev C ({ f with defs:=ds } ::fs) (ZaY h a i .dead) Q):Ev C (f::fs) h Q:=by
 intro L fr cs w hf H _
 cases hf with
 |cons hf hk=>
  rcases hf.mode with⟨_,hm⟩ |⟨e,_⟩
  ·have hlive:Plc h L a i:=Plc.of (by rw[hb];rfl) (.inl rfl)
   have hob:=H.blks a i
   rw[hb]at hob
   have hob:w.heap[L.loc a i]? =some (.deferred (some [])):=hob
   have hdr:=hf.defs
   rw[hd]at hdr
   generalize hfd:fr.defers=fds at hdr
   cases hdr with
   |pool _ _ gs js hb2=>rw[hbig]at hb2;cases hb2
   |one _ _ g hb9 hl hrest=>
    rename_i cs0
    have hg:g=L.loc a i:=hl.2 (0,0) (by rw[hb];rfl)
    subst hg
    obtain⟨s,H'⟩:=H.killW (w':=w.putObj (L.loc a i) (.deferred none)) hlive (ZcX _ _ _)
    have hfs:=hf.step s
    obtain⟨fs2,h2',L2,fr2,cs2,w2,q2,n2,a2,b2,s2⟩:=hq L { fr with defers:=cs0 } cs (w.putObj (L.loc a i) (.deferred none))
     (.cons ⟨hf.fn,hf.size,hfs.env,hf.kind,hrest.step s,hfs.rnd, .inl ⟨hr,hm⟩,hf.res⟩ (hk.step s)) H' (by simp)
    refine⟨fs2,h2',L2,fr2,cs2,w2,q2,n2,a2,b2,Steps.trans (go1 ?_) s2.1,(Fr.of s).trans s2.2⟩
    obtain⟨fn,tmps,todo,defers,mode,kind,rnd⟩:=fr
    dsimp only at hm hfd
    subst hm;subst hfd
    have:=run_takeDeferred (P:=C.P) hob
    simp[stepG,unwind,this]
  ·rw[hr]at e;cases e
theorem ZiL{d:Nat}{L:Lay}{cs0:List Deferred}{cs:List Frame} :∀(gs js:List Nat) (h:Zad) (w:World) (fr:Frame),HRel C h L w→js.length=gs.length→js.Nodup→
 (∀(k j g:Nat),js[k]? =some j→gs[k]? =some g→g=L.loc d j∧blk h d j=.dfr)→fr.defers=gs.map ZHF++cs0→fr.mode=.returning→
 ∃w' h',Steps C.P (lone fr cs w) (lone { fr with defers:=cs0 } cs w')∧Step w (Zaz C h L) h L w' (Zaz C h' L) h' L∧HRel C h' L w'∧(∀b,nxt h' b=nxt h b)∧∀b i,b≠d→blk h' b i=blk h b i
 |[],js,h,w,fr,H,hn,hnd,hl,hfd,hm=>by
  have:fr= { fr with defers:=cs0 } :=by
   obtain⟨fn,tmps,todo,defers,mode,kind,rnd⟩:=fr
   dsimp only at hfd
   subst hfd;rfl
  refine⟨w,h,?_,Step.refl _ _ _ _,H,fun _=>rfl,fun _ _ _=>rfl⟩
  rw[←this];exact .refl _ _
 |g::gs,[],h,w,fr,H,hn,hnd,hl,hfd,hm=>by simp at hn
 |g::gs,j::js,h,w,fr,H,hn,hnd,hl,hfd,hm=>by
  obtain⟨rfl,hb⟩:=hl 0 j g rfl rfl
  have hlive:Plc h L d j:=Plc.of (by rw[hb];rfl) (.inl rfl)
  have hob:=H.blks d j
  rw[hb]at hob
  have hob:w.heap[L.loc d j]? =some (.deferred (some [])):=hob
  obtain⟨s,H'⟩:=H.killW (w':=w.putObj (L.loc d j) (.deferred none)) hlive (ZcX _ _ _)
  have hdead:blk h d j≠ .dead:=by rw[hb];intro e;cases e
  have hblk:∀c i,blk (ZaY h d j .dead) c i=if d=c∧j=i then .dead else blk h c i:=fun c i=>Zcm hdead c i .dead
  obtain⟨hj,hnd'⟩:=List.nodup_cons.1 hnd
  obtain⟨w',h',t1,t2,t3,t4,t5⟩:=ZiL (d:=d) (L:=L) (cs0:=cs0) (cs:=cs) gs js (ZaY h d j .dead) (w.putObj (L.loc d j) (.deferred none)) { fr with defers:=gs.map ZHF++cs0 } H' (by simpa using hn) hnd' (fun k i g' h1 h2=>by
   obtain⟨e1,e2⟩:=hl (k+1) i g' (by simpa using h1) (by simpa using h2)
   refine⟨e1,?_⟩
   rw[hblk,if_neg (by rintro⟨_,rfl⟩;exact hj (List.mem_of_getElem? h1)),e2]) rfl hm
  refine⟨w',h',Steps.trans (go1 ?_) t1,s.trans t2,t3,fun b=>by rw[t4,ZdJ],fun b i hne=>by rw[t5 b i hne,hblk,if_neg (fun e=>hne e.1.symm)]⟩
  obtain⟨fn,tmps,todo,defers,mode,kind,rnd⟩:=fr
  dsimp only at hm hfd
  subst hm;subst hfd
  have:=run_takeDeferred (P:=C.P) hob
  simp[stepG,unwind,this]
theorem ZpF{a i n:Nat}{ds:List (Nat×Nat)}(hr:f.ret=true)(hd:f.defs=(a,i)::ds)(hbig:ZqS a=true)(hb:fam h a=⟨0,[], .dfrs n⟩)(hq:Ev C ({ f with defs:=ds } ::fs) (ZkV h a) Q):Ev C (f::fs) h Q:=by
 intro L fr cs w hf H _
 cases hf with
 |cons hf hk=>
  rcases hf.mode with⟨_,hm⟩ |⟨e,_⟩
  ·have hdr:=hf.defs
   rw[hd]at hdr
   generalize hfd:fr.defers=fds at hdr
   have hnx:nxt h a=n:=by unfold nxt;rw[hb];simp[Fam.xs]
   have hall:∀j,j<n→blk h a j=.dfr:=fun j hj=>by
    unfold blk Fam.get;rw[hb]
    rw[Zbu (Nat.zero_le _)]
    show(List.replicate n Blk.dfr).getD (j-0) .dead=.dfr
    rw[List.getD_eq_getElem?_getD,List.getElem?_replicate,if_pos (by omega)];rfl
   cases hdr with
   |one _ _ g hb2=>rw[hbig]at hb2;cases hb2
   |pool _ _ gs js hb9 hn hnd hl hrest=>
    rename_i cs0
    obtain⟨w',h',t1,t2,t3,t4,t5⟩:=ZiL (C:=C) (d:=a) (L:=L) (cs0:=cs0) (cs:=cs) gs js h w fr H hn hnd (fun k j g h1 h2=>by
     have hlv:=hl k j g h1 h2
     have hbj:=hall j (by rw[←hnx];exact hlv.1)
     exact⟨hlv.2 (0,0) (by rw[hbj];rfl),hbj⟩) hfd hm
    obtain⟨s2,H2⟩:=t3.kill (ZkV h a) (fun b=>by rw[Zpj,t4]) (fun b i=>by
     rw[Zor];split
     ·exact .inl rfl
     ·rename_i hne;exact .inr (t5 b i (fun e=>hne e.symm)).symm)
    have s:=t2.trans s2
    have hfs:=hf.step s
    obtain⟨fs2,h2',L2,fr2,cs2,w2,q2,n2,a2,b2,s3⟩:=hq L { fr with defers:=cs0 } cs w'
     (.cons ⟨hf.fn,hf.size,hfs.env,hf.kind,hrest.step s,hfs.rnd, .inl ⟨hr,hm⟩,hf.res⟩ (hk.step s)) H2 (by simp)
    exact⟨fs2,h2',L2,fr2,cs2,w2,q2,n2,a2,b2,t1.trans s3.1,(Fr.of s).trans s3.2⟩
  ·rw[hr]at e;cases e
theorem Zib(H:HRel C h L w){a i:Nat}{l:ALoop}(hb:blk h a i=.lp l):(blk h a i).tag=some (0,0)∧∃r:Loop,w.heap[L.loc a i]? =some (.loop r)∧ZHG C.P l.N l.st r.state r.pending∧r.fn=l.fn∧r.tmps.size=l.N∧EnvRel C h L w l.env r.tmps∧r.params.toList=l.params∧(∀p∈l.params,p<l.N)∧
 Zbp C.P l.N l.asg r.assign=true∧Zbp C.P l.N l.body r.body=true:=by
 have:=H.blks a i
 rw[hb]at this
 exact⟨by rw[hb];rfl,this⟩
theorem HRel.setLoop(H:HRel C h L w){a i:Nat}{l:ALoop}(hb:blk h a i=.lp l){r:Loop}(_hr:w.heap[L.loc a i]? =some (.loop r))(st:RSt)(ls:LoopState)(pd:Option Code)(hj:ZHG C.P l.N st ls pd)
 (hrest:r.fn=l.fn∧r.tmps.size=l.N∧EnvRel C h L w l.env r.tmps∧r.params.toList=l.params∧(∀p∈l.params,p<l.N)∧Zbp C.P l.N l.asg r.assign=true∧Zbp C.P l.N l.body r.body=true):
 Step w (Zaz C h L) h L (w.putObj (L.loc a i) (.loop { r with state:=ls,pending:=pd })) (Zaz C (ZaY h a i (.lp { l with st:=st })) L) (ZaY h a i (.lp { l with st:=st })) L∧HRel C (ZaY h a i (.lp { l with st:=st })) L (w.putObj (L.loc a i) (.loop { r with state:=ls,pending:=pd })):=by
 have ht:Plc h L a i:=Plc.of (by rw[hb];rfl) (.inl rfl)
 refine H.set ht (by rw[hb];rfl) (ZcX _ _ _) (fun s=>?_)
 obtain⟨e1,e2,e3,e4,e5,e6,e7⟩:=hrest
 exact⟨_,World.putObj_heap_same (H.live a i ht).2,hj,e1,e2,e3.step s,e4,e5,e6,e7⟩
theorem Zt2{a i:Nat}{l:ALoop}(hr:f.ret=false)(hn:f.rnd=some (a,i))(ht:f.todo=.beginRound::k)(hb:blk h a i=.lp l)(hst:l.st=.ready)(hq:Ev C ({ f with todo:=k } ::fs) (ZaY h a i (.lp { l with st:=.busy })) Q):Ev C (f::fs) h Q:=by
 intro L fr cs w hf H _
 cases hf with
 |cons hf hk=>
  rcases hf.mode with⟨e,_⟩ |⟨_,hm,hi⟩
  ·rw[hr]at e;cases e
  ·rw[ht]at hi
   obtain⟨htag,r,h1,h2,h3⟩:=Zib H hb
   have hrnd:=hf.rnd
   rw[hn]at hrnd
   obtain⟨g,hg,hl⟩:=hrnd
   have hg':g=L.loc a i:=hl.2 _ htag
   subst hg'
   rw[hst]at h2
   obtain⟨s,H'⟩:=H.setLoop hb h1 .busy .busy r.pending rfl h3
   have hfs:=hf.step s
   obtain⟨fn,tmps,todo,defers,mode,kind,rnd⟩:=fr
   cases hi with
   |cons hx hki=>
    cases hx
    rename_i l'
    dsimp only at hm hg;subst hm;subst hg
    obtain⟨fs2,h2',L2,fr2,cs2,w2,q2,n2,a2,b2,s2⟩:=hq L { fn,tmps,todo:=l',defers,mode:=.run,kind,roundOf:=some (L.loc a i) } cs _
     (.cons ⟨hf.fn,hf.size,hfs.env,hf.kind,hfs.defs,hfs.rnd, .inr ⟨hr,rfl,hki.step s⟩,hf.res⟩ (hk.step s)) H' (by simp)
    refine⟨fs2,h2',L2,fr2,cs2,w2,q2,n2,a2,b2,Steps.trans (go1 ?_) s2.1,(Fr.of s).trans s2.2⟩
    have hbr:=run_beginRound (P:=C.P) h1 h2.1
    simp[stepG,stepG.exec,stepG.apply,hbr,Frame.finish]
def ZHL:Option ACode→RSt
 |none=>.ready
 |some j=>.done j
theorem ZtJ{a i:Nat}{l:ALoop}{c c':AFrame}(jump:Option ACode)(hr:f.ret=false)(hn:f.rnd=some (a,i))(hb:blk h a i=.lp l)
 (ht:(jump=none∧f.todo=[])∨(jump=some .ret∧∃k,f.todo=.code .ret::k)∨∃id k,jump=some (.exit id)∧f.todo=.code (.exit id)::k∧Zc3 id k=none)
 (hfin:ZBF c (.bool jump.isNone)=some c') (hq:Ev C (c'::fs) (ZaY h a i (.lp { l with st:=ZHL jump })) Q):Ev C (f::c::fs) h Q:=by
 intro L fr cs w hf H _
 cases hf with
 |cons hf hk=>
  cases hk with
  |cons hfc hk=>
   rename_i frc csc
   rcases hf.mode with⟨e,_⟩ |⟨_,hm,hi⟩
   ·rw[hr]at e;cases e
   ·obtain⟨htag,r,h1,h2,h3⟩:=Zib H hb
    have hrnd:=hf.rnd
    rw[hn]at hrnd
    obtain⟨g,hg,hl⟩:=hrnd
    have hg':g=L.loc a i:=hl.2 _ htag
    subst hg'
    have hkind:=hf.kind
    -- the model's jump
    obtain⟨jc,hjc,hstep⟩:∃jc:Option Code,(jc.isNone=jump.isNone∧ZHG C.P l.N (ZHL jump) (if jc.isNone then .ready else .done) jc)∧
     ∀(w':World),(Instr.endRound (L.loc a i) jc).run C.P w=.ok (.bool jc.isNone) w'→Steps C.P (lone fr (frc::csc) w) (lone (frc.finish (.bool jc.isNone)) csc w'):=by
     obtain⟨fn,tmps,todo,defers,mode,kind,rnd⟩:=fr
     dsimp only at hm hg hkind;subst hm;subst hg;subst hkind
     rcases ht with⟨rfl,ht⟩ |⟨rfl,k,ht⟩ |⟨id,k,rfl,ht,hex⟩
     ·rw[ht]at hi;cases hi
      exact⟨none,⟨rfl,rfl,rfl⟩,fun w' hrun=>go1 (by simp[stepG,stepG.exec,hrun,doReturn])⟩
     ·rw[ht]at hi
      cases hi with
      |cons hx hki=>
       cases hx with
       |code _ cc hmc=>
        cases cc<;>simp only[Zbp,Bool.false_eq_true]at hmc
        exact⟨some .ret,⟨rfl,rfl, .ret,rfl,rfl⟩,fun w' hrun=>go1 (by simp[stepG,stepG.exec,hrun,doReturn])⟩
     ·rw[ht]at hi
      cases hi with
      |cons hx hki=>
       cases hx with
       |code _ cc hmc=>
        cases cc<;>simp only[Zbp,Bool.false_eq_true,beq_iff_eq]at hmc
        rename_i id2
        have hid:id2=id:=by first |exact hmc |exact hmc.symm
        subst hid
        have hen:=ZiT hki hex
        exact⟨some (.exit id2),⟨rfl,rfl, .exit id2,rfl,by simp[Zbp]⟩,fun w' hrun=>go1 (by simp[stepG,stepG.exec,hen,hrun,doReturn])⟩
    have hend:=run_endRound (P:=C.P) jc h1
    obtain⟨s,H'⟩:=H.setLoop hb h1 (ZHL jump) (if jc.isNone then .ready else .done) jc hjc.2 h3
    obtain⟨fs2,h2',L2,fr2,cs2,w2,q2,n2,a2,b2,s2⟩:=hq L (frc.finish (.bool jc.isNone)) csc _ (.cons (ZrT (hfc.step s) (by rw[hjc.1];exact .bool _) hfin) (hk.step s)) H' (by simp)
    exact⟨fs2,h2',L2,fr2,cs2,w2,q2,n2,a2,b2,(hstep _ hend).trans s2.1,(Fr.of s).trans s2.2⟩
theorem ZpA{a i:Nat}{l:ALoop}(hr:f.ret=false)(ht:f.todo=.endRF a i::k)(hb:blk h a i=.lp l)(hN:l.N=f.N)(hst:l.st=.ready∨∃j,l.st=.done j)
 (hq:Ev C ({ f with todo:=match l.st with | .done j=>.code j::k |_=>k } ::fs) (ZaY h a i .dead) Q):Ev C (f::fs) h Q:=by
 intro L fr cs w hf H _
 cases hf with
 |cons hf hk=>
  rcases hf.mode with⟨e,_⟩ |⟨_,hm,hi⟩
  ·rw[hr]at e;cases e
  ·rw[ht]at hi
   obtain⟨htag,r,h1,h2,h3⟩:=Zib H hb
   obtain⟨fn,tmps,todo,defers,mode,kind,rnd⟩:=fr
   cases hi with
   |cons hx hki=>
    cases hx with
    |endRF _ _ g hl=>
     rename_i l'
     have hg':g=L.loc a i:=hl.2 _ htag
     subst hg'
     dsimp only at hm;subst hm
     obtain⟨s,H'⟩:=H.killW (w':=w.putObj (L.loc a i) (.loop { r with state:=.exhausted })) (Plc.of htag (.inl rfl)) (ZcX _ _ _)
     have hfs:=hf.step s
     have hnb:r.state≠ .busy:=by
      rcases hst with hst |⟨j,hst⟩<;>rw[hst]at h2
      ·rw[h2.1];simp
      ·rw[h2.1];simp
     have hend:=run_endLoop (P:=C.P) h1 hnb
     have hits:ItsRel C.P (ZaY h a i .dead) L f.N (match l.st with | .done j=>.code j::k |_=>k) ((r.pending.map Item.code).toList++l'):=by
      rcases hst with hst |⟨j,hst⟩<;>rw[hst]at h2⊢
      ·rw[h2.2];exact hki.step s
      ·obtain⟨_,c,hc,hmc⟩:=h2
       rw[hc]
       exact .cons (.code _ _ (by rw[←hN];exact hmc)) (hki.step s)
     obtain⟨fs2,h2',L2,fr2,cs2,w2,q2,n2,a2,b2,s2⟩:=hq L { fn,tmps,todo:=(r.pending.map Item.code).toList++l',defers,mode:=.run,kind,roundOf:=rnd } cs _
      (.cons ⟨hf.fn,hf.size,hfs.env,hf.kind,hfs.defs,hfs.rnd, .inr ⟨hr,rfl,hits⟩,hf.res⟩ (hk.step s)) H' (by simp)
     refine⟨fs2,h2',L2,fr2,cs2,w2,q2,n2,a2,b2,Steps.trans (go1 ?_) s2.1,(Fr.of s).trans s2.2⟩
     simp[stepG,stepG.exec,hend]
def Znt(env:List (Nat×AV)):List Nat→zA→List (Nat×AV)
 |p::ps,v::vs=>Znt (Zdz env p v) ps vs
 |_,_=>env
theorem Zl0:∀(ps:List Nat) (avs:zA) (vs:List Value) (env:List (Nat×AV)) (tmps:Array Value),EnvRel C h L w env tmps→RelL w (Zaz C h L) h L avs vs→(∀p∈ps,p<tmps.size)→
 EnvRel C h L w (Znt env ps avs) ((ps.zip vs).foldl (fun tmps (p:Nat×Value)=>tmps.setIfInBounds p.1 p.2) tmps)∧((ps.zip vs).foldl (fun tmps (p:Nat×Value)=>tmps.setIfInBounds p.1 p.2) tmps).size=tmps.size
 |[],avs,vs,env,tmps,he,_,_=>by simpa[Znt]using he
 |p::ps,[],vs,env,tmps,he,hr,_=>by
  have:vs=[]:=List.eq_nil_of_length_eq_zero hr.1.symm
  subst this;simpa[Znt]using he
 |p::ps,v::avs,[],env,tmps,he,hr,_=>by simp[RelL]at hr
 |p::ps,v::avs,x::vs,env,tmps,he,hr,hp=>by
  have h0:ZaH C h L w v x:=hr.2 0 v x rfl rfl
  have he':EnvRel C h L w (Zdz env p v) (tmps.setIfInBounds p x):=by
   have:=EnvF.put (d:=some p) (r:=v) (v:=x) he (fun d' e=>by cases e;exact hp p (by simp)) (fun _=>h0)
   intro t av ht
   exact this t av (by rw[Zci]at ht;exact ht)
  obtain⟨i1,i2⟩:=Zl0 ps avs vs (Zdz env p v) (tmps.setIfInBounds p x) he' ⟨by simpa using hr.1,fun j u y hu hy=>hr.2 (j+1) u y (by simpa using hu) (by simpa using hy)⟩ (fun q hq=>by simpa using hp q (by simp[hq]))
  refine⟨by simpa[Znt]using i1,by simpa using i2⟩
theorem Zvj{o:AOp}{os:List AOp}{x:Opd}{args:List Opd}{a i:Nat}{l:ALoop}(hr:f.ret=false)(ht:f.todo=.inReg (o::os)::k)(hg:Zgy o f.env)(ho:o.k=.icallv x args)(hx:Zbw (ZaP f.env) x=.yld a i)(hb:blk h a i=.lp l)(hlen:args.length=l.params.length)
 (hq:Ev C ({ fn:=l.fn,N:=l.N,env:=Znt l.env l.params (args.map (Zbw (ZaP f.env))),todo:=[.code l.asg, .beginRound, .code l.body],defs:=[],rnd:=some (a,i),ret:=false,res:=[] } ::f::fs) h Q):Ev C (f::fs) h Q:=by
 intro L fr cs w hf H _
 cases hf with
 |cons hf hk=>
  rcases hf.mode with⟨e,_⟩ |⟨_,hm,hi⟩
  ·rw[hr]at e;cases e
  ·have hi0:=hi
   rw[ht]at hi
   cases hi':fr.todo with
   |nil=>rw[hi']at hi;cases hi
   |cons y l'=>
    rw[hi']at hi
    cases hi with
    |cons hxx hki=>
     cases hxx with
     |inReg ops ix _ hmc=>
      obtain⟨kk,ix',op,rfl,e1,e2,e3⟩:=ZfM hmc
      have henv:EnvF C h L w (ZaP f.env) fr.tmps:=hf.env
      obtain⟨g0,g1,_⟩:=Zpx henv e2
      have hwant:Region.wanted op (yielded ops.toArray fr.tmps)=true:=by
       unfold Zgy at hg
       split at hg
       ·rename_i hgg;exact g0 hgg
       ·rename_i t want hgg;rw[g1 t want want hgg hg];simp
      have e2':=e2
      simp only[ZqQ,Bool.and_eq_true,beq_iff_eq]at e2'
      obtain⟨⟨⟨⟨hnd,_⟩,_⟩,_⟩,hmop⟩:=e2'
      have hρ:=ZCC henv
      rw[ho]at hmop
      simp only[mop]at hmop
      split at hmop
      ·rename_i x' args' ts hop
       simp only[Bool.and_eq_true]at hmop
       have rx:=hρ.rel x x' hmop.1
       rw[hx]at rx
       obtain⟨htag,r,h1,h2,h3,h4,h5,h6,h7,h8,h9⟩:=Zib H hb
       generalize hxv:fr.eval x'=xv at rx
       cases rx with
       |yld _ _ g hl=>
        have hg':g=L.loc a i:=hl.2 _ htag
        subst hg'
        have hrel:=ZcK hρ hmop.2
        have hsz:(args'.map fr.eval).size=r.params.size:=by
         have:=hrel.1
         rw[List.length_map]at this
         have h6':=congrArg List.length h6
         simp at this h6' ⊢;omega
        have hy:=run_yield (P:=C.P) h1 hsz
        have hrun:(execOp fr.eval op).run C.P w=.ok (.round (L.loc a i) r.fn ((r.params.zip (args'.map fr.eval)).foldl (fun tmps (t,a)=>tmps.setIfInBounds t a) r.tmps) r.assign r.body) w:=by
         simp[execOp,hop,resolve,hxv,Deferred.ofValue,invoke]at hy⊢
         exact hy
        obtain⟨p1,p2⟩:=Zl0 l.params (args.map (Zbw (ZaP f.env))) (args'.map fr.eval).toList l.env r.tmps h5 hrel (fun p hp=>by rw[h4];exact h7 p hp)
        have hfold:(r.params.zip (args'.map fr.eval)).foldl (fun tmps (t,a)=>tmps.setIfInBounds t a) r.tmps=(l.params.zip (args'.map fr.eval).toList).foldl (fun tmps (p:Nat×Value)=>tmps.setIfInBounds p.1 p.2) r.tmps:=by
         rw[←Array.foldl_toList,Array.toList_zip,h6]
        rw[hfold]at hrun
        obtain⟨fs2,h2',L2,fr2,cs2,w2,q2,n2,a2,b2,s2⟩:=hq L (Frame.round (L.loc a i) r.fn ((l.params.zip (args'.map fr.eval).toList).foldl (fun tmps (p:Nat×Value)=>tmps.setIfInBounds p.1 p.2) r.tmps) r.assign r.body .normal) (fr::cs) w
         (.cons ⟨h3,by rw[←h4];exact p2,p1,rfl, .nil,⟨_,rfl,hl⟩, .inr ⟨rfl,rfl, .cons (.code _ _ h8) (.cons .beginRound (.cons (.code _ _ h9) .nil))⟩,fun e=>by cases e⟩ (.cons ⟨hf.fn,hf.size,hf.env,hf.kind,hf.defs,hf.rnd, .inr ⟨hr,hm,hi0⟩,hf.res⟩ hk)) H (by simp)
        exact⟨fs2,h2',L2,fr2,cs2,w2,q2,n2,a2,b2,(Zp6 hm hi' (by simpa using e1) hwant hnd hrun).trans s2.1,s2.2⟩
      ·cases hmop
end
end Go.Proofs.YtkeoeooghhjibaaGreatDoor
namespace Go.Proofs.YtkeoeooghhjibaaGreatDoor
open Go.RowKit (Below)
section
variable {C:Ctx}{h h':Zad}{L L':Lay}{w w':World}{Q:List AFrame→Zad→Prop}{f:AFrame}{fs:List AFrame}{k:List AItem}
theorem ZkA(w:World)(o:Obj):Below w.heap.size w (w.alloc o):=(Below.refl _ _).alloc (Nat.le_refl _) o
theorem ZzR(H:HRel C h L w)(a:Nat)(l:ALoop)(r:Loop)(hst:l.st=.ready∧r.state=.ready∧r.pending=none)
 (hrest:r.fn=l.fn∧r.tmps.size=l.N∧EnvRel C h L w l.env r.tmps∧r.params.toList=l.params∧(∀p∈l.params,p<l.N)∧Zbp C.P l.N l.asg r.assign=true∧Zbp C.P l.N l.body r.body=true):
 Step w (Zaz C h L) h L (w.alloc (.loop r)) (Zaz C (Zal h a (.lp l)) (L.put a (nxt h a) w.heap.size 0)) (Zal h a (.lp l)) (L.put a (nxt h a) w.heap.size 0)∧HRel C (Zal h a (.lp l)) (L.put a (nxt h a) w.heap.size 0) (w.alloc (.loop r)):=by
 refine H.push a (.lp l) w.heap.size 0 (ZkA w _) ⟨Nat.le_refl _,by simp[World.size_alloc]⟩ (fun s=>?_)
 obtain⟨e1,e2,e3,e4,e5,e6,e7⟩:=hrest
 exact⟨r,World.alloc_heap_new w _,by rw[hst.1];exact hst.2,e1,e2,e3.step s,e4,e5,e6,e7⟩
theorem Zvt(H:HRel C h L w)(a:Nat):
 Step w (Zaz C h L) h L (w.alloc (.deferred (some []))) (Zaz C (Zal h a .dfr) (L.put a (nxt h a) w.heap.size 0)) (Zal h a .dfr) (L.put a (nxt h a) w.heap.size 0)∧HRel C (Zal h a .dfr) (L.put a (nxt h a) w.heap.size 0) (w.alloc (.deferred (some []))):=
 H.push a .dfr w.heap.size 0 (ZkA w _) ⟨Nat.le_refl _,by simp[World.size_alloc]⟩ (fun _=>World.alloc_heap_new w _)
theorem ZoV:∀ {xs ys:List Nat},Zqm xs ys=true→ys=xs
 |[],[],_=>rfl
 |x::xs,y::ys,h=>by
  simp only[Zqm,Bool.and_eq_true]at h
  rw[ZoV h.2,Nat.eq_of_beq_eq_true h.1]
 |[],_::_,h=>by simp[Zqm]at h
 |_::_,[],h=>by simp[Zqm]at h
theorem ZAx{fr:Frame}{cs:List Frame}{x:Operand}{ps:Array Tmp}{asg body:Code}{l:List Item}{lw:Nat}{mark:List Deferred}{g:FuncId}{bvs cvs:Array Value}(hm:fr.mode=.run)(ht:fr.todo=.code (.rangeFunc x ps asg body)::l)
 (hen:(Instr.enterLoop fr.fn fr.tmps ps asg body fr.roundOf).run C.P w=.ok (lw,mark) w') (hx:fr.eval x=.func (.func g) bvs cvs) (hc:ZbF C.P g=true):
 Steps C.P (lone fr cs w) (lone (Frame.enter C.P g (bvs++ #[.func (.yield lw) #[] #[]]++cvs) .normal) ({ fr with todo:=.inRangeFunc lw::l,defers:=mark++fr.defers } ::cs) w'):=by
 obtain⟨fn,tmps,todo,defers,mode,kind,rnd⟩:=fr
 dsimp only at hm ht;subst hm;subst ht
 have he2:(Frame.eval { fn:=fn,tmps:=tmps,todo:=.inRangeFunc lw::l,defers:=mark++defers,mode:=.run,kind:=kind,roundOf:=rnd } x)=.func (.func g) bvs cvs:=hx
 have he3:∀q:Array Value,(Frame.eval { fn:=fn,tmps:=tmps,todo:=.inRangeFunc lw::l,defers:=mark++defers,mode:=.run,kind:=kind,roundOf:=rnd } (.const (.func (.yield lw) #[] #[])))=.func (.yield lw) #[] #[]:=fun _=>rfl
 refine go1 ?_
 dsimp only at hen
 simp[stepG,stepG.exec,hen,stepG.apply,resolve,he2,he3 #[],Deferred.ofValue,invoke,ZdL hc]
def ZEj(x y:AV):Option (FuncId×zA):=match x with
 | .fn g caps=>some (g,y::caps)
 | .mth g u=>some (g,[u,y])
 |_=>none
theorem Zun{x y:AV}{v:Value}{g:FuncId}{avs:zA}{w:World}{h:Zad}{L:Lay}{ok:Nat→Prop}(hf:ZEj x y=some (g,avs))(hr:Rel w ok h L x v):
 ∃bvs cvs:Array Value,v=.func (.func g) bvs cvs∧∀ {w':World} {ok':Nat→Prop} {h':Zad} {L':Lay} (yv:Value),(∀ {u v},Rel w ok h L u v→Rel w' ok' h' L' u v)→Rel w' ok' h' L' y yv→RelL w' ok' h' L' avs (bvs++ #[yv]++cvs).toList:=by
 unfold ZEj at hf
 split at hf
 ·simp only[zS,zP]at hf
  obtain⟨rfl,rfl⟩:=hf
  cases hr with
  |fn _ _ us hl hrr=>exact⟨#[],us,rfl,fun yv hs hy=>by simpa using RelL.cons hy ⟨by simpa using hl,fun j u v hu hv=>hs (hrr j u v hu (by simpa using hv))⟩⟩
 ·simp only[zS,zP]at hf
  obtain⟨rfl,rfl⟩:=hf
  cases hr with
  |mth _ _ u hu=>exact⟨#[u], #[],rfl,fun yv hs hy=>by simpa using RelL.cons (hs hu) (RelL.cons hy RelL.nil)⟩
 ·cases hf
theorem ZHo{T:Tab}(hT:ZbH C.P T){a:Nat}{x:Opd}{ps:List Nat}{asg body:ACode}{g:FuncId}{avs:zA}{af:AFrame}{hd:Zad}{df:List (Nat×Nat)}(hr:f.ret=false)(ht:f.todo=.code (.rf a x ps asg body)::k)
 (hx:ZEj (Zbw (ZaP f.env) x) (.yld a (nxt hd a))=some (g,avs)) (hdf:(f.rnd=none∧∃d,hd=Zal h d .dfr∧((ZqS d=false∧df=(d,nxt h d)::f.defs)∨(ZqS d=true∧df=f.defs∧∃i ds,f.defs=(d,i)::ds)))∨((∃ a0 i0 l0,f.rnd=some (a0,i0)∧blk h a0 i0=.lp l0)∧hd=h∧df=f.defs))
 (he:Zam T g avs=some af)
 (hq:Ev C (af:: { f with todo:=.inRF a (nxt hd a)::k,defs:=df } ::fs) (Zal hd a (.lp { st:=.ready,fn:=f.fn,N:=f.N,env:=f.env,params:=ps,asg:=asg,body:=body })) Q):Ev C (f::fs) h Q:=by
 intro L fr cs w hf H _
 cases hf with
 |cons hf hk=>
  rcases hf.mode with⟨e,_⟩ |⟨_,hm,hi⟩
  ·rw[hr]at e;cases e
  ·rw[ht]at hi
   cases hi':fr.todo with
   |nil=>rw[hi']at hi;cases hi
   |cons y l'=>
    rw[hi']at hi
    cases hi with
    |cons hxx hki=>
     cases hxx with
     |code _ c hmc=>
      cases c<;>simp only[Zbp,Bool.false_eq_true,Bool.and_eq_true]at hmc
      rename_i x' ps' asg' body'
      obtain⟨⟨⟨⟨hm1,hm2⟩,hm3⟩,hm4⟩,hm5⟩:=hmc
      have hρ:=ZCC (show EnvF C h L w (ZaP f.env) fr.tmps from hf.env)
      have rx:=hρ.rel x x' hm1
      obtain⟨bvs,cvs,c1,c2⟩:=Zun hx rx
      have hps:=ZoV hm2
      have hpN:∀p∈ps,p<f.N:=fun p hp=>by have:=List.all_eq_true.1 hm3 p hp;simpa using this
      obtain⟨Ld,wd,lw,mark,sd,Hd,hmk',hmk,hen⟩:∃(Ld:Lay) (wd:World) (lw:Nat) (mark:List Deferred),Step w (Zaz C h L) h L wd (Zaz C hd Ld) hd Ld∧HRel C hd Ld wd∧DefRel hd Ld df (mark++fr.defers)∧lw=wd.heap.size∧
       ∃d,∀tmps,(Instr.enterLoop fr.fn tmps ps' asg' body' fr.roundOf).run C.P w=.ok (lw,mark) (wd.alloc (.loop { state:=.ready,pending:=none,fn:=fr.fn,tmps:=tmps,params:=ps',assign:=asg',body:=body',defers:=d })):=by
       rcases hdf with⟨hn,d,rfl,hdd⟩ |⟨⟨a0,i0,l0,hn,hb⟩,rfl,rfl⟩
       ·obtain⟨s,H'⟩:=Zvt H d
        have hrnd:=hf.rnd
        rw[hn]at hrnd
        have hrnd:fr.roundOf=none:=hrnd
        refine⟨_,_,w.heap.size+1,[{ target:=.collected w.heap.size,args:= #[] }],s,H',?_,by simp[World.size_alloc],w.heap.size,fun tmps=>by rw[hrnd];exact run_enterLoop_outer _ _ _ _ _⟩
        rcases hdd with⟨hdb,rfl⟩ |⟨hdb,rfl,i,ds,hfd⟩
        ·exact .one d _ w.heap.size hdb (ZcB (fun _ _=>rfl)) (hf.defs.step s)
        ·have hdr:=hf.defs
         rw[hfd]at hdr⊢
         generalize fr.defers=fds at hdr
         cases hdr with
         |one _ _ g hb2=>rw[hdb]at hb2;cases hb2
         |pool _ _ gs js _ hn2 hnd hl hrest=>
          refine .pool d i (w.heap.size::gs) (nxt h d::js) hdb (by simp[hn2]) (List.nodup_cons.2 ⟨fun hmem=>?_,hnd⟩) (fun k j g h1 h2=>?_) (hrest.step s)
          ·obtain⟨k,hk1⟩:=List.getElem?_of_mem hmem
           have hk2:k<gs.length:=by rw[←hn2];exact(List.getElem?_eq_some_iff.1 hk1).1
           have:=(hl k _ _ hk1 (List.getElem?_eq_getElem hk2)).1
           omega
          ·cases k with
           |zero=>
            simp only[List.getElem?_cons_zero,zS]at h1 h2
            subst h1;subst h2
            exact ZcB (fun _ _=>rfl)
           |succ k=>exact(hl k j g (by simpa using h1) (by simpa using h2)).step s fun _ _ _ _ _ e=>e
       ·have hrnd:=hf.rnd
        rw[hn]at hrnd
        obtain⟨g0,hg0,hl0⟩:=hrnd
        obtain⟨htag,r0,h1,_⟩:=Zib H hb
        have hg':g0=L.loc a0 i0:=hl0.2 _ htag
        subst hg'
        exact⟨L,w,w.heap.size,[],Step.refl _ _ _ _,H,by simpa using hf.defs,rfl,r0.defers,fun tmps=>by rw[hg0];exact run_enterLoop_inner h1 _ _ _ _ _⟩
      obtain⟨d,hen⟩:=hen
      subst hmk
      have hfd:=hf.step sd
      obtain⟨s2,H2⟩:=ZzR Hd a { st:=.ready,fn:=f.fn,N:=f.N,env:=f.env,params:=ps,asg:=asg,body:=body } { state:=.ready,pending:=none,fn:=fr.fn,tmps:=fr.tmps,params:=ps',assign:=asg',body:=body',defers:=d }
       ⟨rfl,rfl,rfl⟩ ⟨hf.fn,hf.size,hfd.env,hps,hpN,hm4,hm5⟩
      have hfs2:=hfd.step s2
      have hlive:Live (Zal hd a (.lp { st:=.ready,fn:=f.fn,N:=f.N,env:=f.env,params:=ps,asg:=asg,body:=body })) (Ld.put a (nxt hd a) wd.heap.size 0) a (nxt hd a) fun l _=>wd.heap.size=l:=ZcB (fun _ _=>rfl)
      obtain⟨hfr,hcal⟩:=Zed hT (vs:=bvs++ #[.func (.yield wd.heap.size) #[] #[]]++cvs) he (c2 _ (fun hu=>(hu.step sd).step s2) (.yld _ _ _ hlive))
      have hstep:=ZAx (C:=C) (cs:=cs) hm hi' (g:=g) (bvs:=bvs) (cvs:=cvs) (lw:=wd.heap.size) (mark:=mark) (w:=w) (hen _) c1 hcal
      obtain⟨fs2,h2',L2,fr2,cs2,w2,q2,n2,a2,b2,s3⟩:=hq _ _ ({ fr with todo:=.inRangeFunc wd.heap.size::l',defers:=mark++fr.defers } ::cs) _ (.cons hfr (.cons ⟨hf.fn,hf.size,hfs2.env,hf.kind,hmk'.step s2,hfs2.rnd, .inr ⟨hr,hm, .cons (.inRF _ _ _ hlive) ((hki.step sd).step s2)⟩,hf.res⟩ ((hk.step sd).step s2))) H2 (by simp)
      exact⟨fs2,h2',L2,fr2,cs2,w2,q2,n2,a2,b2,hstep.trans s3.1,((Fr.of sd).trans (Fr.of s2)).trans s3.2⟩
end
end Go.Proofs.YtkeoeooghhjibaaGreatDoor
