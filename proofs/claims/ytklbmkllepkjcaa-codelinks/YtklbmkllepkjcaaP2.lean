/- Arguments' readings, of whatever type of plain cells and slices. No condition. -/
import Derived.Test.YtklbmkllepkjcaaW1
import Derived.Deep.Slices
import Derived.KernelRfl
namespace Go.Proofs.Ytklbmkllepkjcaa
open Go.ChangeShapes Go.WideShapes Go.ChangeAt Go.RowKit Go.Deep
def Zyu(P:Program)(f:TypeId→Option (List Sh)):Nat→List Field→Option (List Sh)
 |_,[]=>some []
 |off,fd::fds=>match fd.offset==off,f fd.type with
  |true,some l=>(match P.cellsOf fd.type==l.length,Zyu P f (off+l.length) fds with
   |true,some r=>some (l++r)
   |_,_=>none)
  |_,_=>none
def ZEs(ag:Bool)(l:List Sh):Option Sh:=match ag,l with
 |_,[]=>none
 |true,s::ss=>some (.agg (s::ss))
 |false,[s]=>some s
 |false,_=>none
def ZMR:Sh→Sh
 | .int k=>.ints k
 |s=>.big s
def ZSQ(P:Program)(f:TypeId→Option (List Sh)):TypeDesc→Option (List Sh)
 | .int k=>some [.int k]
 | .bool=>some [.bool]
 | .string=>some [.str]
 | .struct fs=>Zyu P f 0 fs.toList
 | .array n e=>match f e with
   |some l=>(match P.cellsOf e==l.length with |true=>some (List.replicate n l).flatten |false=>none)
   |none=>none
 | .slice e=>match f e,P.underlying e with
   |some l,some de=>(match P.cellsOf e==l.length,ZEs (ZaU de) l with |true,some s=>some [ZMR s] |_,_=>none)
   |_,_=>none
 |_=>none
def ZAo(P:Program):Nat→TypeId→Option (List Sh)
 |0,_=>none
 |d+1,t=>match P.underlying t with
  |some td=>(match ZSQ P (ZAo P d) td with
   |some l=>(match P.cellsOf t==l.length with |true=>some l |false=>none)
   |none=>none)
  |none=>none
def wfE(ss:List Sh)(x:AV):Prop:=∀(j:Nat) (k:IntKind),ss[j]? =some (.int k)→(Lit.int k (x.cellAt j).toI).wf=true
def wfV:AV→Prop
 | .int k n=>(Lit.int k n).wf=true
 | .list (.ints k l)=>∀x∈l,(Lit.int k x).wf=true
 | .list (.big (.agg ss) l)=>∀x∈l,wfE ss x
 |_=>True
def Sh.leaf:Sh→Bool
 | .agg _=>false
 |_=>true
def Cf(s:Sh)(u:AV):Prop:=(∃a,u=s.view1 a)∧wfV u∧s.leaf=true
def Cfs(ss:List Sh)(us:List AV):Prop:=us.length=ss.length∧∀(j:Nat) (s:Sh) (u:AV),ss[j]? =some s→us[j]? =some u→Cf s u
def Rd(W:World)(L:Lay)(ss:List Sh)(cs:List Value):Prop:=∃us:List AV,RelL W (Zpk W) [] L us cs∧(∀c∈cs,c.oneCell'=true)∧Cfs ss us
section
variable {H:Type}{enc:TypeId×Value→H}{P:Program}{W:World}{L:Lay}
theorem Cfs.app{s1 s2:List Sh}{u1 u2:List AV}(h1:Cfs s1 u1)(h2:Cfs s2 u2):Cfs (s1++s2) (u1++u2):=by
 refine⟨by simp[h1.1,h2.1],fun j s u hs hu=>?_⟩
 by_cases hj:j<s1.length
 ·rw[List.getElem?_append_left hj]at hs
  rw[List.getElem?_append_left (by rw[h1.1];exact hj)]at hu
  exact h1.2 j s u hs hu
 ·rw[List.getElem?_append_right (by omega)]at hs
  rw[List.getElem?_append_right (by rw[h1.1];omega),h1.1]at hu
  exact h2.2 _ s u hs hu
theorem Rd.app{s1 s2:List Sh}{c1 c2:List Value}(h1:Rd W L s1 c1)(h2:Rd W L s2 c2):Rd W L (s1++s2) (c1++c2):=by
 obtain⟨u1,r1,o1,f1⟩:=h1
 obtain⟨u2,r2,o2,f2⟩:=h2
 exact⟨u1++u2,r1.append r2,fun c hc=>(List.mem_append.1 hc).elim (o1 c) (o2 c),f1.app f2⟩
theorem Rd.nil:Rd W L [] []:=⟨[],RelL.nil,by simp,rfl,fun j s u hs=>by simp at hs⟩
theorem Rd.len{ss:List Sh}{cs:List Value}(h:Rd W L ss cs):cs.length=ss.length:=by
 obtain⟨us,r,_,f⟩:=h
 rw[←r.1,f.1]
theorem Rd.one{s:Sh}{v:Value}{u:AV}(hr:Rel W (Zpk W) [] L u v)(h1:v.oneCell'=true)(hc:Cf s u):Rd W L [s] [v]:=
 ⟨[u],RelL.cons hr RelL.nil,by simpa using h1,rfl,fun j s' u' hs hu=>by
   cases j with
   |zero=>simp at hs hu;subst hs;subst hu;exact hc
   |succ j=>simp at hs⟩
theorem ZMa{f:TypeId→Option (List Sh)}{n:Nat}(IH:∀t ss,f t=some ss→∀fuel cs x,DataW.trod enc P W 0 (fun _=>true) true fuel t cs=some x→Rd W L ss cs){cs:List Value} :
 ∀(fs:List Field) (off:Nat) (ss:List Sh),Zyu P f off fs=some ss→(∀(i:Nat) (fd:Field),fs[i]? =some fd→∃x,DataW.trod enc P W 0 (fun _=>true) true n fd.type ((cs.drop fd.offset).take (P.cellsOf fd.type))=some x)→
 (cs.drop off).length=ss.length→Rd W L ss (cs.drop off)
 |[],off,ss,h,_,hl=>by
  simp only[Zyu,Option.some.injEq]at h
  subst h
  rw[List.eq_nil_of_length_eq_zero hl]
  exact Rd.nil
 |fd::fds,off,ss,h,hx,hl=>by
  simp only[Zyu]at h
  split at h
  ·rename_i l ho hfl
   split at h
   ·rename_i r hcl hr
    simp only[Option.some.injEq]at h
    subst h
    have ho:fd.offset=off:=by simpa using ho
    have hcl:P.cellsOf fd.type=l.length:=by simpa using hcl
    obtain⟨x,hxx⟩:=hx 0 fd rfl
    rw[ho,hcl]at hxx
    have h1:=IH _ _ hfl _ _ _ hxx
    have h2:=ZMa IH fds (off+l.length) r hr (fun i fd' h'=>hx (i+1) fd' (by simpa using h')) (by simp at hl ⊢;omega)
    have:=h1.app h2
    rw[show cs.drop (off+l.length)=(cs.drop off).drop l.length by rw[List.drop_drop],List.take_append_drop]at this
    exact this
   ·cases h
  ·cases h
theorem ZCw{l:List Sh}{n c:Nat}{e:TypeId}{cs:List Value}(hc:c=l.length)(IH:∀i,i<n→Rd W L l ((cs.drop (i*c)).take c)):
 ∀(k s:Nat),s+k=n→cs.length=n*c→Rd W L (List.replicate k l).flatten (cs.drop (s*c))
 |0,s,hs,hl=>by
  rw[List.drop_of_length_le (by rw[hl,←hs];simp)]
  exact Rd.nil
 |k+1,s,hs,hl=>by
  have h1:=IH s (by omega)
  have h2:=ZCw (e:=e) hc IH k (s+1) (by omega) hl
  have:=h1.app h2
  rw[Nat.add_mul,Nat.one_mul,show cs.drop (s*c+c)=(cs.drop (s*c)).drop c by rw[List.drop_drop],List.take_append_drop]at this
  rw[List.replicate_succ,List.flatten_cons]
  exact this
theorem Zjz:∀ {l:List AV},(∀u∈l,u.pure=true)→AV.pureL l=true
 |[],_=>rfl
 |u::l,h=>by simp only[AV.pureL,Bool.and_eq_true];exact⟨h u (by simp),Zjz fun v hv=>h v (by simp[hv])⟩
theorem Zpt{α:Type}{sz:Nat}(g:Nat→List α):∀(n:Nat),(∀i,i<n→(g i).length=sz)→∀j,((List.range n).flatMap g)[j]? =if j<n*sz then(g (j/sz))[j%sz]? else none
 |0,_,j=>by simp
 |n+1,hg,j=>by
  have ih:=Zpt g n (fun i hi=>hg i (by omega))
  have hlen:((List.range n).flatMap g).length=n*sz:=by
   apply Nat.le_antisymm
   ·have h1:=ih (n*sz)
    rw[if_neg (by omega)]at h1
    simpa using h1
   ·rcases Nat.lt_or_ge ((List.range n).flatMap g).length (n*sz)with h |h
    ·have h1:=ih ((List.range n).flatMap g).length
     rw[if_pos h,List.getElem?_eq_none (Nat.le_refl _)]at h1
     have hz:0<sz:=by rcases Nat.eq_zero_or_pos sz with h0 |h0;· subst h0;simp at h
                      ·exact h0
     have h2:((List.range n).flatMap g).length/sz<n:=by rw[Nat.div_lt_iff_lt_mul hz];exact h
     rw[List.getElem?_eq_getElem (by rw[hg _ (by omega)];exact Nat.mod_lt _ hz)]at h1
     cases h1
    ·exact h
  rw[List.range_succ,List.flatMap_append,List.flatMap_singleton]
  by_cases hj:j<n*sz
  ·rw[List.getElem?_append_left (by omega),ih,if_pos hj,if_pos (by rw[Nat.add_mul];omega)]
  ·rw[List.getElem?_append_right (by omega),hlen]
   by_cases hj2:j<(n+1)*sz
   ·rw[if_pos hj2]
    rw[Nat.add_mul,Nat.one_mul]at hj2
    have hz:0<sz:=by omega
    have e1:j/sz=n:=by
     rw[Nat.div_eq_iff hz];constructor
     ·rw[Nat.mul_comm]at hj ⊢;omega
     ·omega
    have e2:j%sz=j-n*sz:=by
     have:=Nat.div_add_mod j sz
     rw[e1,Nat.mul_comm]at this;omega
    rw[e1,e2]
   ·rw[if_neg hj2]
    exact List.getElem?_eq_none (by rw[hg n (by omega)];rw[Nat.add_mul]at hj2;omega)
theorem Zvn(s:Sh)(a:AV):s.view1 (s.view1 a)=s.view1 a:=by cases s<;>rfl
theorem Zp0:∀ {ss:List Sh} {us pre:List AV},Cfs ss us→Zgz ss pre.length (.agg (.gen (pre++us)))=us
 |[],us,pre,h=>by have:=h.1;cases us<;>simp at this;rfl
 |s::ss,us,pre,h=>by
  cases us with
  |nil=>have:=h.1;simp at this
  |cons u us=>
   obtain⟨a,rfl⟩:=(h.2 0 s u rfl rfl).1
   have ht:Cfs ss us:=⟨by have:=h.1;simpa using this,fun j s' u' hs hu=>h.2 (j+1) s' u' (by simpa using hs) (by simpa using hu)⟩
   have:=Zp0 (pre:=pre++[s.view1 a]) ht
   rw[List.append_assoc,List.length_append]at this
   simp only[List.length_singleton,List.singleton_append]at this
   simp only[Zgz,this]
   congr 1
   simp only[AV.cellAt,List.getD_eq_getElem?_getD,List.getElem?_append_right (Nat.le_refl _),Nat.sub_self,List.getElem?_cons_zero,Option.getD_some]
   exact Zvn s a
theorem Zy2{ss:List Sh}{us:List AV}(h:Cfs ss us):∀u∈us,u.pure=true∧u.single=true:=fun u hu=>by
 obtain⟨j,hj⟩:=List.mem_iff_getElem?.1 hu
 have hlt:=(List.getElem?_eq_some_iff.1 hj).1
 obtain⟨a,rfl⟩:=(h.2 j _ u (List.getElem?_eq_getElem (by rw[←h.1];exact hlt)) hj).1
 exact⟨ZhF _ _,Ze3 _ _⟩
def ZF1(ag:Bool)(us:List AV):AV:=match ag with |true=>.agg (.gen us) |false=>us.getD 0 .top
theorem Zmn{ag:Bool}{ss:List Sh}{s:Sh}{us:List AV}(hs:ZEs ag ss=some s)(h:Cfs ss us):s.view (ZF1 ag us)=ZF1 ag us∧(ZF1 ag us).flat=us:=by
 unfold ZEs at hs
 split at hs
 ·cases hs
 ·rename_i s1 ss1
  cases hs
  refine⟨?_,rfl⟩
  have:=Zp0 (pre:=[]) h
  simp only[List.nil_append,List.length_nil]at this
  simp only[Sh.view,ZF1,this]
 ·rename_i s1
  cases hs
  have hl:=h.1
  match us,hl with
  |[u],_=>
   obtain⟨⟨a,rfl⟩,_,hlf⟩:=h.2 0 _ u rfl rfl
   refine⟨?_,ZbA (Ze3 _ _)⟩
   show s.view (s.view1 a)=s.view1 a
   cases s with
   |agg l=>cases hlf
   |_=>rfl
 ·cases hs
def ZgL(s:Sh)(es:List AV):Row:=match s with
 | .int k=>.ints k (es.map AV.toI)
 |s=>.big s es
theorem Zka(s:Sh)(es:List AV):(ZgL s es).elems=es.map s.view:=by
 cases s<;>simp[ZgL,Row.elems,Sh.view,Sh.view1,List.map_map,Function.comp_def]
theorem ZkQ(s:Sh)(es:List AV):AV.list (ZgL s es)=(ZMR s).view1 (.list (ZgL s es)):=by cases s<;>rfl
theorem Zqq(s:Sh):(ZMR s).leaf=true:=by cases s<;>rfl
theorem Zsb{g:Nat→AV}{u:Nat→List AV}{n:Nat}(h:∀i,i<n→(g i).flat=u i):Zaf ((List.range n).map g)=(List.range n).flatMap u:=by
 unfold Zaf
 rw[List.flatMap_map]
 exact flatMap_congr_range h
theorem ZNh(a:Addr)(i sz j:Nat):(a.add (i*sz)).add j=a.add (i*sz+j):=Zjb a _ _
theorem ZJV{t e:TypeId}{de:TypeDesc}{l:List Sh}{s:Sh}(ht:P.underlying t=some (.slice e))(hcl:P.cellsOf e=l.length)(hs:ZEs (ZaU de) l=some s)
 (IH:∀fuel cs x,DataW.trod enc P W 0 (fun _=>true) true fuel e cs=some x→Rd W L l cs) {fuel:Nat} {cs:List Value} {x:DataW H×List MemPlace} (h:DataW.trod enc P W 0 (fun _=>true) true fuel t cs=some x):Rd W L [ZMR s] cs:=by
 have hpos:0<l.length:=by
  unfold ZEs at hs
  split at hs<;>first |(cases hs;done) |simp
 have emp:∀ad c,Rd W L [ZMR s] [.slice ad 0 c]:=fun ad c=>Rd.one (u:=.list (ZgL s [])) (.nil _ ad c (by rw[Zka];rfl)) rfl ⟨⟨_,ZkQ s []⟩,by cases s<;>simp[ZgL,wfV],Zqq s⟩
 rcases open_slice ht h with⟨rfl,_⟩ |⟨a,len,cap,m,n,D,Pl,rfl,hb,hl,hm,hmm,_,hx⟩
 ·exact emp none 0
 ·by_cases h0:len=0
  ·subst h0;exact emp (some a) cap
  ·simp only[if_true]at hmm
   subst hmm
   obtain⟨F,hF⟩:=choose_lt (α:=List Value×List AV) (n:=len) (p:=fun i p=>W.cells? 0 (a.add (i*P.cellsOf e)) (P.cellsOf e)=some p.1∧RelL W (Zpk W) [] L p.2 p.1∧(∀c∈p.1,c.oneCell'=true)∧Cfs l p.2) (fun i hi=>by
    obtain⟨cs',h1,h2⟩:=hx i (by omega)
    obtain⟨us,r,o,f⟩:=IH _ _ _ h2
    exact⟨(cs',us),h1,r,o,f⟩)
   rw[hcl]at hF
   have hcells:∀i,i<len→(F i).1.length=l.length∧∀j,j<l.length→W.cell? (a.add (i*l.length+j))=(F i).1[j]?:=fun i hi=>by
    obtain⟨_,g1,g2⟩:=World.cells?_some (hF i hi).1
    exact⟨g1,fun j hj=>by rw[←ZNh];exact g2 j hj⟩
   have hul:∀i,i<len→(F i).2.length=l.length:=fun i hi=>(hF i hi).2.2.2.1
   obtain⟨es,hes⟩:∃es,es=(List.range len).map fun i=>ZF1 (ZaU de) (F i).2:=⟨_,rfl⟩
   have hview:es.map s.view=es:=by
    rw[hes,List.map_map]
    exact List.map_congr_left fun i hi=>(Zmn hs (hF i (List.mem_range.1 hi)).2.2.2).1
   have hfl:Zaf es=(List.range len).flatMap fun i=>(F i).2:=by
    rw[hes];exact Zsb fun i hi=>(Zmn hs (hF i hi).2.2.2).2
   have hsz:∀x∈es,x.flat.length=l.length:=fun x hx=>by
    rw[hes]at hx
    obtain⟨i,hi,rfl⟩:=List.mem_map.1 hx
    rw[(Zmn hs (hF i (List.mem_range.1 hi)).2.2.2).2]
    exact hul i (List.mem_range.1 hi)
   have hlen:es.length=len:=by rw[hes];simp
   have gU:=Zpt (fun i=>(F i).2) len hul
   have gV:=Zpt (fun i=>(F i).1) len (fun i hi=>(hcells i hi).1)
   have hlt:a.block<W.heap.size:=by
    have h1:=(hcells 0 (by omega)).2 0 hpos
    rw[List.getElem?_eq_getElem (by rw[(hcells 0 (by omega)).1];exact hpos)]at h1
    have:=ZFi h1
    rw[Zdy]at this;exact this
   have hidx:∀j,j<len*l.length→j/l.length<len∧j%l.length<l.length:=fun j hj=>⟨by rw[Nat.div_lt_iff_lt_mul hpos];exact hj,Nat.mod_lt _ hpos⟩
   refine Rd.one (u:=.list (ZgL s es)) ?_ rfl ⟨⟨_,ZkQ s es⟩,?_,Zqq s⟩
   ·refine .list (ZgL s es) es (by rw[Zka,hview]) a len _ l.length ((List.range len).flatMap fun i=>(F i).1) hlt hlt hlen.symm hl hsz ?_ ?_ ?_ ?_ ?_
    ·rw[hfl]
     have e1:∀(g:Nat→List Value) (k:Nat→List AV) (n:Nat),(∀i,i<n→(g i).length=(k i).length)→((List.range n).flatMap g).length=((List.range n).flatMap k).length:=by
      intro g k n
      induction n with
      |zero=>intro _;rfl
      |succ n ih=>
       intro hgk
       rw[List.range_succ,List.flatMap_append,List.flatMap_append,List.length_append,List.length_append,ih (fun i hi=>hgk i (by omega))]
       simp[hgk n (by omega)]
     exact e1 _ _ _ fun i hi=>by rw[(hcells i hi).1,hul i hi]
    ·intro c hc
     obtain⟨i,hi,hc⟩:=List.mem_flatMap.1 hc
     exact(hF i (List.mem_range.1 hi)).2.2.1 c hc
    ·intro j v hj
     rw[gV j]at hj
     split at hj
     ·rename_i hjl
      obtain⟨q1,q2⟩:=hidx j hjl
      have:=(hcells _ q1).2 _ q2
      rw[show j/l.length*l.length+j%l.length=j by rw[Nat.mul_comm];exact Nat.div_add_mod j _]at this
      rw[this,hj]
     ·cases hj
    ·rw[hfl]
     exact Zjz fun u hu=>by
      obtain⟨i,hi,hu⟩:=List.mem_flatMap.1 hu
      exact(Zy2 (hF i (List.mem_range.1 hi)).2.2.2 u hu).1
    ·intro j u v hu hv
     rw[hfl,gU j]at hu
     rw[gV j]at hv
     split at hu
     ·rename_i hjl
      rw[if_pos hjl]at hv
      exact(hF _ (hidx j hjl).1).2.1.2 _ u v hu hv
     ·cases hu
   ·unfold ZgL
    split
    ·rename_i k
     simp only[wfV]
     intro z hz
     obtain⟨e1,he1,rfl⟩:=List.mem_map.1 hz
     rw[hes]at he1
     obtain⟨i,hi,rfl⟩:=List.mem_map.1 he1
     have hc:=(hF i (List.mem_range.1 hi)).2.2.2
     unfold ZEs at hs
     split at hs
     ·cases hs
     ·cases hs
     ·rename_i s1 hag
      cases hs
      have hl1:=hc.1
      rw[show ZaU de=false from by first |assumption |(rename_i hx _ _;exact hx)] 
      match hq:(F i).2,hl1 with
      |[u],_=>
       obtain⟨⟨a,ha⟩,hw,_⟩:=hc.2 0 (.int k) u rfl (by rw[hq];rfl)
       subst ha
       exact hw
     ·cases hs
    ·cases s with
     |agg ss=>
      show ∀x∈es,wfE ss x
      intro x hx j k hj
      rw[hes]at hx
      obtain⟨i,hi,rfl⟩:=List.mem_map.1 hx
      have hc:=(hF i (List.mem_range.1 hi)).2.2.2
      unfold ZEs at hs
      split at hs
      ·cases hs
      ·rename_i s1 ss1 hag
       cases hs
       rw[show ZaU de=true from by first |assumption |(rename_i hx2 _ _;exact hx2)]
       have hlt2:j<(F i).2.length:=by
        rw[hc.1]
        exact(List.getElem?_eq_some_iff.1 hj).1
       obtain⟨⟨a,ha⟩,hw,_⟩:=hc.2 j (.int k) _ hj (List.getElem?_eq_getElem hlt2)
       have he:(ZF1 true (F i).2).cellAt j=(F i).2[j]:=by simp[ZF1,AV.cellAt,List.getD_eq_getElem?_getD,List.getElem?_eq_getElem hlt2]
       rw[he,ha]
       rw[ha]at hw
       exact hw
      ·rename_i s1 hag
       cases hs
       have hl1:=hc.1
       match hq:(F i).2,hl1 with
       |[u],_=>
        obtain⟨_,_,hlf⟩:=hc.2 0 (.agg ss) u rfl (by rw[hq];rfl)
        cases hlf
      ·cases hs
     |_=>trivial
theorem Zyj:∀(d:Nat) (t:TypeId) (ss:List Sh),ZAo P d t=some ss→∀(fuel:Nat) (cs:List Value) (x:DataW H×List MemPlace),DataW.trod enc P W 0 (fun _=>true) true fuel t cs=some x→Rd W L ss cs
 |0,t,ss,h,_,_,_,_=>by simp[ZAo]at h
 |d+1,t,ss,h,fuel,cs,x,hx=>by
  have IH:=Zyj d
  simp only[ZAo]at h
  split at h
  ·rename_i td ht
   split at h
   ·rename_i l hl
    split at h
    ·rename_i hsz
     simp only[Option.some.injEq]at h
     subst h
     have hsz:P.cellsOf t=l.length:=by simpa using hsz
     unfold ZSQ at hl
     split at hl
     ·rename_i k
      cases hl
      obtain⟨n,rfl,_,hw⟩:=DataW.trod_int ht hx
      exact Rd.one (.int k n) rfl ⟨⟨.int k n,rfl⟩,hw,rfl⟩
     ·cases hl
      obtain⟨b,rfl,_⟩:=DataW.trod_bool ht hx
      exact Rd.one (.bool b) rfl ⟨⟨.bool b,rfl⟩,trivial,rfl⟩
     ·cases hl
      obtain⟨s,rfl,_,_⟩:=DataW.trod_string ht hx
      have e:s=⟨s.data.toList.toArray⟩:=by simp
      refine Rd.one (u:=.str s.data.toList) ?_ rfl ⟨⟨.str s.data.toList,rfl⟩,trivial,rfl⟩
      have:=Rel.str (w:=W) (ok:=Zpk W) (h:=[]) (L:=L) s.data.toList
      rw[←e]at this
      exact this
     ·rename_i fs
      obtain⟨xs,n,_,_,hlen,hxl,hf⟩:=DataW.trod_struct ht hx
      have:=ZMa (P:=P) (W:=W) (L:=L) (enc:=enc) (n:=n) IH (cs:=cs) fs.toList 0 l hl (fun i fd hfd=>by
       have hfd':fs[i]? =some fd:=by simpa using hfd
       have h1:=hf i fd hfd'
       have hi:i<xs.length:=by rw[hxl];exact(Array.getElem?_eq_some_iff.1 hfd').1
       exact⟨xs[i],by rw[h1,List.getElem?_eq_getElem hi]⟩) (by simp[hlen,hsz])
      simpa using this
     ·rename_i n e
      split at hl
      ·rename_i le hle
       split at hl
       ·rename_i hce
        simp only[Option.some.injEq]at hl
        subst hl
        have hce:P.cellsOf e=le.length:=by simpa using hce
        obtain⟨xs,m,_,_,hlen,hxl,hf⟩:=DataW.trod_array ht hx
        have:=ZCw (W:=W) (L:=L) (l:=le) (n:=n) (c:=P.cellsOf e) (e:=e) (cs:=cs) hce (fun i hi=>by
         have h1:=hf i hi
         rw[List.getElem?_eq_getElem (by rw[hxl];exact hi)]at h1
         exact IH _ _ hle _ _ _ h1) n 0 (by simp) (by rw[hlen,hsz,hce];simp)
        simpa using this
       ·cases hl
      ·cases hl
     ·rename_i e
      split at hl
      ·rename_i le de hle hde
       split at hl
       ·rename_i s hce hs
        simp only[Option.some.injEq]at hl
        subst hl
        exact ZJV ht (by simpa using hce) hs (fun fuel cs x hx=>IH _ _ hle fuel cs x hx) hx
       ·cases hl
      ·cases hl
     ·cases hl
    ·cases h
   ·cases h
  ·cases h
theorem ZLW{d:Nat}{t:TypeId}{ss:List Sh}(hs:ZAo P d t=some ss){v:Value}{dd:DataW H}{ps:List MemPlace}(hv:∃cs,v=.agg cs∧cs.size=P.cellsOf t)(h:DataW.Trod enc P W 0 (fun _=>true) true t v dd ps):
 ∃us,Rel W (Zpk W) [] L (.agg (.gen us)) v∧Cfs ss us:=by
 obtain⟨cs,rfl,_⟩:=hv
 obtain⟨fuel,hf⟩:=h
 obtain⟨us,r,o,f⟩:=Zyj (L:=L) d t ss hs fuel _ _ hf
 exact⟨us, .agg _ us rfl cs (by simpa[Value.cells]using r.1) (fun c hc=>o c (by simpa[Value.cells]using hc)) (fun j u v hu hv=>r.2 j u v hu (by simpa[Value.cells]using hv)),f⟩
theorem ZCU{d:Nat}{t:TypeId}{s:Sh}(hs:ZAo P d t=some [s]){v:Value}{dd:DataW H}{ps:List MemPlace}(hv:v.oneCell'=true)(h:DataW.Trod enc P W 0 (fun _=>true) true t v dd ps):
 ∃u,Rel W (Zpk W) [] L u v∧Cf s u:=by
 obtain⟨fuel,hf⟩:=h
 have hcs:v.cells.toList=[v]:=by cases v<;>first |rfl |(simp [Value.oneCell']at hv)
 obtain⟨us,r,o,f⟩:=Zyj (L:=L) d t [s] hs fuel _ _ hf
 rw[hcs]at r
 match us,f.1 with
 |[u],_=>exact⟨u,r.2 0 u v rfl rfl,f.2 0 s u rfl rfl⟩
end
end Go.Proofs.Ytklbmkllepkjcaa
/- The cells of some types, as they are read. No condition. -/
namespace Go.Proofs.Ytklbmkllepkjcaa
theorem Zq0{k:IntKind}{u:AV}(h:Cf (.int k) u):∃n,u=.int k n∧(Lit.int k n).wf=true:=by
 obtain⟨⟨a,rfl⟩,hw,_⟩:=h
 exact⟨_,rfl,hw⟩
theorem ZwV{k:IntKind}{u:AV}(h:Cf (.ints k) u):∃l:List Int,u=.list (.ints k l)∧∀x∈l,(Lit.int k x).wf=true:=by
 obtain⟨⟨a,rfl⟩,hw,_⟩:=h
 exact⟨_,rfl,hw⟩
theorem ZHB{us:List AV}(h:Cfs [] us):us=[]:=List.eq_nil_of_length_eq_zero h.1
theorem ZgM{s:Sh}{ss:List Sh}{us:List AV}(h:Cfs (s::ss) us):∃u r,us=u::r∧Cf s u∧Cfs ss r:=by
 cases us with
 |nil=>have:=h.1;simp at this
 |cons u r=>exact⟨u,r,rfl,h.2 0 s u rfl rfl,by have:=h.1;simpa using this,fun j s' u' hs hu=>h.2 (j+1) s' u' (by simpa using hs) (by simpa using hu)⟩
end Go.Proofs.Ytklbmkllepkjcaa
/- The cells of the laws' types, as they are read. No condition. -/
namespace Go.Proofs.Ytklbmkllepkjcaa
theorem ZFV{us:List AV}(h:Cfs [.int .i64, .int .i64, .int .i64] us):∃a b c,us=[.int .i64 a, .int .i64 b, .int .i64 c]:=by
 obtain⟨u,r,rfl,h1,h⟩:=ZgM h
 obtain⟨u2,r,rfl,h2,h⟩:=ZgM h
 obtain⟨u3,r,rfl,h3,h⟩:=ZgM h
 obtain rfl:=ZHB h
 obtain⟨a,rfl,_⟩:=Zq0 h1
 obtain⟨b,rfl,_⟩:=Zq0 h2
 obtain⟨c,rfl,_⟩:=Zq0 h3
 exact⟨a,b,c,rfl⟩
theorem ZHQ{us:List AV}(h:Cfs [.int .i64, .int .i64, .int .i64, .int .i64, .int .i64] us):∃a b c d e,us=[.int .i64 a, .int .i64 b, .int .i64 c, .int .i64 d, .int .i64 e]:=by
 obtain⟨u,r,rfl,h1,h⟩:=ZgM h
 obtain⟨u2,r,rfl,h2,h⟩:=ZgM h
 obtain⟨a,b,c,rfl⟩:=ZFV h
 obtain⟨x,rfl,_⟩:=Zq0 h1
 obtain⟨y,rfl,_⟩:=Zq0 h2
 exact⟨x,y,a,b,c,rfl⟩
end Go.Proofs.Ytklbmkllepkjcaa
/- Paths of functions, printed by the explorer (Gx). No condition. -/
namespace Go.Proofs.Ytklbmkllepkjcaa
set_option maxRecDepth 100000
set_option linter.unusedVariables false
def ZCS(xs:List Int):AFrame:=vF 104 8 [vL 0 xs] [.code a104.code] [.tmp 2]
def ZPY(xs:List Int):List AFrame:=[(ZCS xs)]
theorem ZAf(xs:List Int):Zal tab 104 [AV.list (.ints .i64 xs)]=some (ZCS xs):=rfl
def ZDm(A:Ar)(K:KT)(F:FT)(xs:List Int):Prop:=rB [Nat.blt 0 (A.len xs)] (rB [Nat.ble (0+A.len xs) 4294967296,List.all [] fun x=>AV.bx x&&Nat.beq (Zag A x) 1] (F (AV.row 0 0) (some { e:=3,sz:=1,r:=.ints .i64 xs })))
theorem ZO6{A:Ar}{K:KT}{F:FT}{M:MT}{xs:List Int} :Zah A tab E0 104 K F M (.run 10 (.fy (.run 9 (.fn)))) (ZPY xs) []=ZDm A K F xs:=by kernel_rfl
def Zw2(cap:Nat):AFrame:=vF 104 8 [(0,AV.val (Go.Value.slice none 0 cap))] [.code a104.code] [.tmp 2]
def ZKs(cap:Nat):List AFrame:=[(Zw2 cap)]
theorem ZxS(cap:Nat):Zal tab 104 [AV.val (Go.Value.slice none 0 cap)]=some (Zw2 cap):=rfl
def Zxm(A:Ar)(K:KT)(F:FT)(cap:Nat):Prop:=F (AV.nils) none
theorem ZGT{A:Ar}{K:KT}{F:FT}{M:MT}{cap:Nat} :Zah A tab E0 104 K F M (.run 10 (.ty (.run 5 (.fn)))) (ZKs cap) []=Zxm A K F cap:=by kernel_rfl
def Zwi(ad:Go.Addr)(cap:Nat):AFrame:=vF 104 8 [(0,AV.val (Go.Value.slice (some ad) 0 cap))] [.code a104.code] [.tmp 2]
def ZO0(ad:Go.Addr)(cap:Nat):List AFrame:=[(Zwi ad cap)]
theorem Zwl(ad:Go.Addr)(cap:Nat):Zal tab 104 [AV.val (Go.Value.slice (some ad) 0 cap)]=some (Zwi ad cap):=rfl
def ZwW(A:Ar)(K:KT)(F:FT)(ad:Go.Addr)(cap:Nat):Prop:=rB [List.all [] fun x=>AV.bx x&&Nat.beq (Zag A x) 1] (F (AV.row 0 0) (some { e:=3,sz:=1,r:=Row.gen [] }))
theorem ZEg{A:Ar}{K:KT}{F:FT}{M:MT}{ad:Go.Addr}{cap:Nat} :Zah A tab E0 104 K F M (.run 10 (.fy (.run 9 (.fn)))) (ZO0 ad cap) []=ZwW A K F ad cap:=by kernel_rfl
end Go.Proofs.Ytklbmkllepkjcaa
/- Contracts as a list. No condition. -/
namespace Go.Proofs.Ytklbmkllepkjcaa
theorem ZkS(xs:List Int)(h:xs.length≤1000000):Zaj Try.prog 104 [.list (.ints .i64 xs)] (.row 0 0) (some ⟨3,1, .ints .i64 xs⟩):=by
 by_cases h0:xs=[]
 ·subst h0
  refine Zuv rfl fun ad cap=>?_
  cases ad with
  |none=>exact ZBP (r0:=.nils) (start (ZxS cap) fun C hC=>tgo hC ZAn ZGT (by simp[Zxm])) rfl rfl (by omega)
  |some ad=>exact ZAE (r:=.gen []) (start (Zwl ad cap) fun C hC=>tgo hC ZAn ZEg (by simp[ZwW])) (by omega) rfl
 ·have:=List.length_pos_iff.2 h0
  exact start (ZAf xs) fun C hC=>tgo hC ZAn ZO6 (by simp[ZDm];omega)
def k104:Ctr:=⟨104,0,fun _ a=>match a with |[.list (.ints .i64 xs)]=>some (decide (xs.length≤1000000), .row 0 0,some ⟨3,1, .ints .i64 xs⟩) |_=>none⟩
theorem ZHv:k104.OK Try.prog:=fun pa args r fr h=>by
 simp only[k104]at h
 split at h
 ·simp only[Option.some.injEq,Prod.mk.injEq,decide_eq_true_eq]at h
  obtain⟨h0,rfl,rfl⟩:=h
  exact ZkS _ h0
 ·cases h
def N0:List Ctr:=[k104]++E0
theorem ZaT:Zay Try.prog N0:=⟨ZHv,ZAn⟩
end Go.Proofs.Ytklbmkllepkjcaa
/- Paths of functions, printed by the explorer (Gx). No condition. -/
namespace Go.Proofs.Ytklbmkllepkjcaa
set_option maxRecDepth 100000
set_option linter.unusedVariables false
def ZNz(n lo hi:Int):AFrame:=vF 91 15 [vI 0 n,vI 1 lo,vI 2 hi] [.code a91.code] [.tmp 6]
def ZVA(n lo hi:Int):List AFrame:=[(ZNz n lo hi)]
theorem ZGX(n lo hi:Int):Zal tab 91 [AV.int .i64 n,AV.int .i64 lo,AV.int .i64 hi]=some (ZNz n lo hi):=rfl
def ZK7(A:Ar)(K:KT)(F:FT)(n lo hi:Int):Prop:=bB (A.le lo n) (F (AV.bool (A.le n hi)) none) (F (AV.bool false) none)
theorem ZPO{A:Ar}{K:KT}{F:FT}{M:MT}{n lo hi:Int} :Zah A tab N0 91 K F M (.run 10 (.tf (.ty (.ty (.ty (.run 4 (.fn))))) (.fy (.fy (.fy (.run 4 (.fn))))))) (ZVA n lo hi) []=ZK7 A K F n lo hi:=by kernel_rfl
def ZMS(n lo hi:Int):AFrame:=vF 30 15 [vI 0 n,vI 1 lo,vI 2 hi] [.code a30.code] [.tmp 6]
def ZUG(n lo hi:Int):List AFrame:=[(ZMS n lo hi)]
theorem ZHX(n lo hi:Int):Zal tab 30 [AV.int .i64 n,AV.int .i64 lo,AV.int .i64 hi]=some (ZMS n lo hi):=rfl
def ZJD(A:Ar)(K:KT)(F:FT)(n lo hi:Int):Prop:=bB (A.le lo n) (F (AV.bool (A.le n hi)) none) (F (AV.bool false) none)
theorem ZQ6{A:Ar}{K:KT}{F:FT}{M:MT}{n lo hi:Int} :Zah A tab N0 30 K F M (.run 10 (.tf (.ty (.ty (.ty (.run 4 (.fn))))) (.fy (.fy (.fy (.run 4 (.fn))))))) (ZUG n lo hi) []=ZJD A K F n lo hi:=by kernel_rfl
def ZM4(b:Bool)(e:Int):AFrame:=vF 85 7 [vB 0 b,vI 1 e] [.code a85.code] [.tmp 4]
def ZVT(b:Bool)(e:Int):List AFrame:=[(ZM4 b e)]
theorem ZFs(b:Bool)(e:Int):Zal tab 85 [AV.bool b,AV.int .i64 e]=some (ZM4 b e):=rfl
def ZKt(A:Ar)(K:KT)(F:FT)(b:Bool)(e:Int):Prop:=bB b (F (AV.int .i64 0) none) (F (AV.int .i64 e) none)
theorem ZR2{A:Ar}{K:KT}{F:FT}{M:MT}{b:Bool}{e:Int} :Zah A tab N0 85 K F M (.run 9 (.tf (.run 5 (.fn)) (.run 7 (.fn)))) (ZVT b e) []=ZKt A K F b e:=by kernel_rfl
def ZJL(xs:List Int):AFrame:=vF 72 15 [vL 0 xs] [.code a72.code] [.tmp 2]
def ZUD(xs:List Int):List AFrame:=[(ZJL xs)]
theorem ZGM(xs:List Int):Zal tab 72 [AV.list (.ints .i64 xs)]=some (ZJL xs):=rfl
def ZlZ(xs:List Int)(n0 n1:Int):List AFrame:=[vF 72 15 [vL 5 xs,vI 6 n0,vI 7 n1] (vC ZIj ZRP) [.tmp 2]]
def Zi1(xs:List Int)(n0 n1:Int):Zaa:=[]
abbrev Zok(xs:List Int)(n0 n1:Int):List AFrame×Zaa:=(ZlZ xs n0 n1,Zi1 xs n0 n1)
def ZMN(A:Ar)(K:KT)(F:FT)(xs:List Int):Prop:=K (Zok xs (A.int (A.len xs)) 0)
theorem ZRb{A:Ar}{K:KT}{F:FT}{M:MT}{xs:List Int} :Zah A tab N0 72 K F M (.run 14 (.hd)) (ZUD xs) []=ZMN A K F xs:=by kernel_rfl
def Zfu(A:Ar)(K:KT)(F:FT)(xs:List Int)(n0 n1:Int):Prop:=let u0:=A.nth xs (A.nat n1);bB (A.lt n1 n0) (rB [Zad (Zad (A.le 0 n1) (Nat.blt (A.nat n1) (A.len xs))) true] (bB (A.not (A.eq u0 0)) (F (AV.int .i64 u0) none) (rB [A.inR .i64 (A.add n1 1)] (K (Zok xs n0 (A.add n1 1)))))) (F (AV.int .i64 0) none)
theorem Znw{A:Ar}{K:KT}{F:FT}{M:MT}{xs:List Int}{n0 n1:Int} :Zah A tab N0 72 K F M (.run 6 (.tf (.run 14 (.tf (.run 6 (.fn)) (.run 8 (.hd)))) (.run 6 (.fn)))) (ZlZ xs n0 n1) (Zi1 xs n0 n1)=Zfu A K F xs n0 n1:=by kernel_rfl
def ZJW(xs:List Int):AFrame:=vF 14 6 [vL 0 xs] [.code a14.code] [.tmp 2]
def ZUx(xs:List Int):List AFrame:=[(ZJW xs)]
theorem ZG3(xs:List Int):Zal tab 14 [AV.list (.ints .i64 xs)]=some (ZJW xs):=rfl
def ZLi(A:Ar)(K:KT)(F:FT)(xs:List Int):Prop:=rB [Nat.ble (0+A.len xs) 4294967296,List.all [] fun x=>AV.bx x&&Nat.beq (Zag A x) 1] (F (AV.row 0 0) (some { e:=3,sz:=1,r:=.ints .i64 xs }))
theorem ZSj{A:Ar}{K:KT}{F:FT}{M:MT}{xs:List Int} :Zah A tab N0 14 K F M (.run 12 (.fn)) (ZUx xs) []=ZLi A K F xs:=by kernel_rfl
def ZI0(xs ys:List Int):AFrame:=vF 17 26 [vL 0 xs,vL 1 ys] [.code a17.code] [.tmp 4]
def ZVM(xs ys:List Int):List AFrame:=[(ZI0 xs ys)]
theorem ZFf(xs ys:List Int):Zal tab 17 [AV.list (.ints .i64 xs),AV.list (.ints .i64 ys)]=some (ZI0 xs ys):=rfl
def ZkB(xs ys:List Int)(n0:Int):List AFrame:=[vF 17 26 [vL 0 xs,vL 1 ys,vI 5 n0] (vC ZKB ZSD) [.tmp 4]]
def Zh7(xs ys:List Int)(n0:Int):Zaa:=[]
abbrev Zm2(xs ys:List Int)(n0:Int):List AFrame×Zaa:=(ZkB xs ys n0,Zh7 xs ys n0)
def ZET(A:Ar)(K:KT)(F:FT)(xs ys:List Int):Prop:=bB (A.not (A.eq (A.int (A.len xs)) (A.int (A.len ys)))) (F (AV.bool false) none) (K (Zm2 xs ys 0))
theorem ZQB{A:Ar}{K:KT}{F:FT}{M:MT}{xs ys:List Int} :Zah A tab N0 17 K F M (.run 13 (.tf (.run 5 (.fn)) (.run 9 (.hd)))) (ZVM xs ys) []=ZET A K F xs ys:=by kernel_rfl
def Zfp(A:Ar)(K:KT)(F:FT)(xs ys:List Int)(n0:Int):Prop:=let u0:=A.nat n0;bB (A.lt n0 (A.int (A.len xs))) (rB [Zad (Zad (A.le 0 n0) (Nat.blt u0 (A.len ys))) true,Zad (Zad (A.le 0 n0) (Nat.blt u0 (A.len xs))) true] (bB (A.not (A.eq (A.nth xs u0) (A.nth ys u0))) (F (AV.bool false) none) (rB [A.inR .i64 (A.add n0 1)] (K (Zm2 xs ys (A.add n0 1)))))) (F (AV.bool true) none)
theorem ZoY{A:Ar}{K:KT}{F:FT}{M:MT}{xs ys:List Int}{n0:Int} :Zah A tab N0 17 K F M (.run 9 (.tf (.run 6 (.tf (.run 5 (.fn)) (.run 9 (.hd)))) (.run 6 (.fn)))) (ZkB xs ys n0) (Zh7 xs ys n0)=Zfp A K F xs ys n0:=by kernel_rfl
def ZJR(a b:Int):AFrame:=vF 71 23 [vI 0 a,vI 1 b] [.code a71.code] [.tmp 4]
def ZVD(a b:Int):List AFrame:=[(ZJR a b)]
theorem ZEF(a b:Int):Zal tab 71 [AV.int .i64 a,AV.int .i64 b]=some (ZJR a b):=rfl
def Zld(n0 n1 n2:Int):List AFrame:=[vF 71 23 [vI 0 n0,vI 1 n1,vI 5 n2] (vC ZNK ZRF) [.tmp 4]]
def Zin(n0 n1 n2:Int):Zaa:=[]
abbrev ZdC(n0 n1 n2:Int):List AFrame×Zaa:=(Zld n0 n1 n2,Zin n0 n1 n2)
def ZIB(A:Ar)(K:KT)(F:FT)(a b:Int):Prop:=K (ZdC a b 0)
theorem ZRn{A:Ar}{K:KT}{F:FT}{M:MT}{a b:Int} :Zah A tab N0 71 K F M (.run 12 (.hd)) (ZVD a b) []=ZIB A K F a b:=by kernel_rfl
def Zfh(A:Ar)(K:KT)(F:FT)(n0 n1 n2:Int):Prop:=let u0:=A.shl n0 1;let u1:=A.bits Go.BinOp.xor .i64 u0 19;let u2:=A.shr n1 1;let u3:=A.bits Go.BinOp.xor .i64 n2 n0;bB (A.lt 0 n1) (bB (A.eq (A.bits Go.BinOp.and .i64 n1 1) 1) (rB [Zad (Zad (A.le 0 1) (Nat.blt (A.nat 1) 64)) (A.inR .i64 u0)] (bB (A.le 16 u0) (rB [Zad (A.le 0 1) (Nat.blt (A.nat 1) 64)] (K (ZdC u1 u2 u3))) (rB [Zad (A.le 0 1) (Nat.blt (A.nat 1) 64)] (K (ZdC u0 u2 u3))))) (rB [Zad (Zad (A.le 0 1) (Nat.blt (A.nat 1) 64)) (A.inR .i64 u0)] (bB (A.le 16 u0) (rB [Zad (A.le 0 1) (Nat.blt (A.nat 1) 64)] (K (ZdC u1 u2 n2))) (rB [Zad (A.le 0 1) (Nat.blt (A.nat 1) 64)] (K (ZdC u0 u2 n2)))))) (F (AV.int .i64 n2) none)
theorem ZnT{A:Ar}{K:KT}{F:FT}{M:MT}{n0 n1 n2:Int} :Zah A tab N0 71 K F M (.run 7 (.tf (.run 10 (.tf (.run 17 (.tf (.run 13 (.hd)) (.run 9 (.hd)))) (.run 12 (.tf (.run 13 (.hd)) (.run 9 (.hd)))))) (.run 7 (.fn)))) (Zld n0 n1 n2) (Zin n0 n1 n2)=Zfh A K F n0 n1 n2:=by kernel_rfl
def ZKO(a b:Int):AFrame:=vF 22 37 [vI 0 a,vI 1 b] [.code a22.code] [.tmp 4]
def ZTX(a b:Int):List AFrame:=[(ZKO a b)]
theorem ZFU(a b:Int):Zal tab 22 [AV.int .i64 a,AV.int .i64 b]=some (ZKO a b):=rfl
def ZlC(a b n0 n1:Int):List AFrame:=[vF 22 37 [vI 0 a,vI 1 b,vI 5 n0,vI 6 n1] (vC ZOR ZRc) [.tmp 4]]
def ZiV(a b n0 n1:Int):Zaa:=[]
abbrev ZiD(a b n0 n1:Int):List AFrame×Zaa:=(ZlC a b n0 n1,ZiV a b n0 n1)
def Zk6(n2 n3:Int):List AFrame:=[vF 22 37 [vI 5 n2,vI 7 n3] (vC ZJN ZPD) [.tmp 4]]
def Zi7(n2 n3:Int):Zaa:=[]
abbrev Zju(n2 n3:Int):List AFrame×Zaa:=(Zk6 n2 n3,Zi7 n2 n3)
def ZJP(A:Ar)(K:KT)(F:FT)(a b:Int):Prop:=K (ZiD a b 0 0)
theorem ZQe{A:Ar}{K:KT}{F:FT}{M:MT}{a b:Int} :Zah A tab N0 22 K F M (.run 16 (.hd)) (ZTX a b) []=ZJP A K F a b:=by kernel_rfl
def ZiT(A:Ar)(K:KT)(F:FT)(a b n0 n1:Int):Prop:=let u0:=A.add n1 1;bB (A.lt n1 4) (rB [Zad (A.le 0 n1) (Nat.blt (A.nat n1) 64)] (bB (A.eq (A.bits Go.BinOp.and .i64 (A.shr b n1) 1) 1) (rB [A.inR .i64 u0,Zad (Zad (A.le 0 n1) (Nat.blt (A.nat n1) 64)) (A.inR .i64 (A.shl a n1))] (K (ZiD a b (A.bits Go.BinOp.xor .i64 n0 (A.shl a n1)) u0))) (rB [A.inR .i64 u0] (K (ZiD a b n0 u0))))) (K (Zju n0 6))
theorem Zng{A:Ar}{K:KT}{F:FT}{M:MT}{a b n0 n1:Int} :Zah A tab N0 22 K F M (.run 7 (.tf (.run 11 (.tf (.run 16 (.hd)) (.run 9 (.hd)))) (.run 9 (.hd)))) (ZlC a b n0 n1) (ZiV a b n0 n1)=ZiT A K F a b n0 n1:=by kernel_rfl
def Zie(A:Ar)(K:KT)(F:FT)(n2 n3:Int):Prop:=let u0:=A.sub n3 4;let u1:=A.sub n3 1;bB (A.le 4 n3) (rB [Zad (A.le 0 n3) (Nat.blt (A.nat n3) 64)] (bB (A.eq (A.bits Go.BinOp.and .i64 (A.shr n2 n3) 1) 1) (rB [A.inR .i64 u1,Zad (Zad (A.le 0 u0) (Nat.blt (A.nat u0) 64)) (A.inR .i64 (A.shl 19 u0)),A.inR .i64 u0] (K (Zju (A.bits Go.BinOp.xor .i64 n2 (A.shl 19 u0)) u1))) (rB [A.inR .i64 u1] (K (Zju n2 u1))))) (F (AV.int .i64 n2) none)
theorem ZoP{A:Ar}{K:KT}{F:FT}{M:MT}{n2 n3:Int} :Zah A tab N0 22 K F M (.run 7 (.tf (.run 11 (.tf (.run 16 (.hd)) (.run 9 (.hd)))) (.run 7 (.fn)))) (Zk6 n2 n3) (Zi7 n2 n3)=Zie A K F n2 n3:=by kernel_rfl
def ZJ3(a b:Int):AFrame:=vF 89 10 [vI 0 a,vI 1 b] [.code a89.code] [.tmp 4]
def ZTT(a b:Int):List AFrame:=[(ZJ3 a b)]
theorem ZEr(a b:Int):Zal tab 89 [AV.int .i64 a,AV.int .i64 b]=some (ZJ3 a b):=rfl
def ZJ9(A:Ar)(K:KT)(F:FT)(a b:Int):Prop:=bB (A.eq a 0) (F (AV.int .i64 b) none) (rB [A.inR .i64 (A.neg b)] (F (AV.int .i64 (A.neg b)) none))
theorem ZRu{A:Ar}{K:KT}{F:FT}{M:MT}{a b:Int} :Zah A tab N0 89 K F M (.run 10 (.tf (.run 6 (.fn)) (.run 8 (.fn)))) (ZTT a b) []=ZJ9 A K F a b:=by kernel_rfl
def ZLM(m g0 g1:Int)(xs:List Int):AFrame:=vF 84 7 [(0,AV.agg (Row.gen [.int .i64 m, .int .i64 g0, .int .i64 g1, .list (.ints .i64 xs)]))] [.code a84.code] [.tmp 2]
def ZU6(m g0 g1:Int)(xs:List Int):List AFrame:=[(ZLM m g0 g1 xs)]
theorem ZGF(m g0 g1:Int)(xs:List Int):Zal tab 84 [AV.agg (Row.gen [.int .i64 m, .int .i64 g0, .int .i64 g1, .list (.ints .i64 xs)])]=some (ZLM m g0 g1 xs):=rfl
def ZMY(A:Ar)(K:KT)(F:FT)(m g0 g1:Int)(xs:List Int):Prop:=let u0:=A.quo (A.int (A.len xs)) 2;rB [Zad (A.not (A.eq 2 0)) (A.inR .i64 u0)] (F (AV.int .i64 u0) none)
theorem ZSg{A:Ar}{K:KT}{F:FT}{M:MT}{m g0 g1:Int}{xs:List Int} :Zah A tab N0 84 K F M (.run 14 (.fn)) (ZU6 m g0 g1 xs) []=ZMY A K F m g0 g1 xs:=by kernel_rfl
def ZL0(m g0 g1:Int)(xs:List Int):AFrame:=vF 86 7 [(0,AV.agg (Row.gen [.int .i64 m, .int .i64 g0, .int .i64 g1, .list (.ints .i64 xs)]))] [.code a86.code] [.tmp 2]
def ZUC(m g0 g1:Int)(xs:List Int):List AFrame:=[(ZL0 m g0 g1 xs)]
theorem ZHT(m g0 g1:Int)(xs:List Int):Zal tab 86 [AV.agg (Row.gen [.int .i64 m, .int .i64 g0, .int .i64 g1, .list (.ints .i64 xs)])]=some (ZL0 m g0 g1 xs):=rfl
def ZNw(A:Ar)(K:KT)(F:FT)(m g0 g1:Int)(xs:List Int):Prop:=rB [Zad (Zad (A.le 0 m) (Nat.blt (A.nat m) 64)) (A.inR .i64 (A.shl 1 m))] (F (AV.int .i64 (A.shl 1 m)) none)
theorem ZRY{A:Ar}{K:KT}{F:FT}{M:MT}{m g0 g1:Int}{xs:List Int} :Zah A tab N0 86 K F M (.run 14 (.fn)) (ZUC m g0 g1 xs) []=ZNw A K F m g0 g1 xs:=by kernel_rfl
def ZOr(n c:Int):AFrame:=vF 99 23 [vI 0 n,vI 1 c] [.code a99.code] [.tmp 4]
def ZVr(n c:Int):List AFrame:=[(ZOr n c)]
theorem ZE2(n c:Int):Zal tab 99 [AV.int .i64 n,AV.int .i64 c]=some (ZOr n c):=rfl
def ZcN(n0:Int)(l1:List Int)(n2:Int):List AFrame:=[vF 99 23 [vI 0 n2,vR 5 99009,vI 6 n0] (vC ZJI ZRs) [.tmp 4]]
def Zb3(n0:Int)(l1:List Int)(n2:Int):Zaa:=[vK 99009 l1]
abbrev Zn3(n0:Int)(l1:List Int)(n2:Int):List AFrame×Zaa:=(ZcN n0 l1 n2,Zb3 n0 l1 n2)
def ZMB(A:Ar)(K:KT)(F:FT)(n c:Int):Prop:=rB [A.inR .i64 (A.sub c 1),Zad (A.le 0 c) (A.le c 4294967296)] (K (Zn3 (A.sub c 1) (A.rep (A.nat c) 0) n))
theorem ZPF{A:Ar}{K:KT}{F:FT}{M:MT}{n c:Int} :Zah A tab N0 99 K F M (.run 20 (.hd)) (ZVr n c) []=ZMB A K F n c:=by kernel_rfl
def Zcv(A:Ar)(K:KT)(F:FT)(n0:Int)(l1:List Int)(n2:Int):Prop:=let u0:=A.nat n0;bB (A.le 0 n0) (rB [A.inR .i64 (A.sub n0 1),Zad (A.not (A.eq 2 0)) (A.inR .i64 (A.quo n2 2)),Zad (Nat.blt u0 (A.len l1)) true,Zad (A.le 0 n0) (Nat.blt u0 (A.len l1)),A.not (A.eq 2 0)] (K (Zn3 (A.sub n0 1) (A.set l1 u0 (A.rem n2 2)) (A.quo n2 2)))) (F (AV.row 0 0) (some { e:=3,sz:=1,r:=.ints .i64 l1 }))
theorem Zdp{A:Ar}{K:KT}{F:FT}{M:MT}{n0:Int}{l1:List Int}{n2:Int} :Zah A tab N0 99 K F M (.run 7 (.tf (.run 25 (.hd)) (.run 7 (.fn)))) (ZcN n0 l1 n2) (Zb3 n0 l1 n2)=Zcv A K F n0 l1 n2:=by kernel_rfl
def ZDE(xs:List Int):AFrame:=vF 101 19 [vL 0 xs] [.code a101.code] [.tmp 2]
def ZSA(xs:List Int):List AFrame:=[(ZDE xs)]
theorem Zz9(xs:List Int):Zal tab 101 [AV.list (.ints .i64 xs)]=some (ZDE xs):=rfl
def ZgF(xs:List Int)(n0 n1:Int):List AFrame:=[vF 101 19 [vL 0 xs,vI 3 n0,vI 4 n1] (vC ZDq ZMh) [.tmp 2]]
def ZeI(xs:List Int)(n0 n1:Int):Zaa:=[]
abbrev ZjD(xs:List Int)(n0 n1:Int):List AFrame×Zaa:=(ZgF xs n0 n1,ZeI xs n0 n1)
def ZDY(A:Ar)(K:KT)(F:FT)(xs:List Int):Prop:=K (ZjD xs 0 0)
theorem ZK0{A:Ar}{K:KT}{F:FT}{M:MT}{xs:List Int} :Zah A tab N0 101 K F M (.run 16 (.hd)) (ZSA xs) []=ZDY A K F xs:=by kernel_rfl
def ZeH(A:Ar)(K:KT)(F:FT)(xs:List Int)(n0 n1:Int):Prop:=let u0:=A.add (A.mul 2 n0) (A.nth xs (A.nat n1));bB (A.lt n1 (A.int (A.len xs))) (rB [A.inR .i64 (A.add n1 1),A.inR .i64 u0,Zad (Zad (A.le 0 n1) (Nat.blt (A.nat n1) (A.len xs))) true,A.inR .i64 (A.mul 2 n0)] (K (ZjD xs u0 (A.add n1 1)))) (F (AV.int .i64 n0) none)
theorem ZjV{A:Ar}{K:KT}{F:FT}{M:MT}{xs:List Int}{n0 n1:Int} :Zah A tab N0 101 K F M (.run 9 (.tf (.run 21 (.hd)) (.run 7 (.fn)))) (ZgF xs n0 n1) (ZeI xs n0 n1)=ZeH A K F xs n0 n1:=by kernel_rfl
end Go.Proofs.Ytklbmkllepkjcaa
/- Contracts as a list. No condition. -/
namespace Go.Proofs.Ytklbmkllepkjcaa
def Zao(n a b:Int):Bool:=decide (a≤n∧n≤b)
def ZaE:List Int→Int
 |[]=>0
 |x::xs=>if x=0 then ZaE xs else x
def Zau(b:Bool)(e:Int):Int:=if b=true then 0 else e
theorem ZdV{xs:List Int}{k:Nat}(h:k<xs.length):xs.drop k=xs.getD k 0::xs.drop (k+1):=by
 rw[List.drop_eq_getElem_cons h,List.getD_eq_getElem?_getD,List.getElem?_eq_getElem h];rfl
theorem Zwh{α:Type}{xs:List α}{k:Nat}{d:α}(h:k<xs.length):xs.take (k+1)=xs.take k++[xs.getD k d]:=by
 rw[List.take_add_one,List.getElem?_eq_getElem h,List.getD_eq_getElem?_getD,List.getElem?_eq_getElem h];rfl
theorem Zbq{α:Type}{xs:List α}{n:Nat}{d:α}(h:n<xs.length):xs.getD n d∈xs:=by
 rw[List.getD_eq_getElem?_getD,List.getElem?_eq_getElem h];exact List.getElem_mem h
def Zbv:List Int→List Int→Int
 |x::xs,y::ys=>(if x=y then 0 else 1)+Zbv xs ys
 |_,_=>0
theorem Zpu:∀xs ys:List Int,0≤Zbv xs ys∧Zbv xs ys≤xs.length
 |[],_=>by simp[Zbv]
 |_::_,[]=>by simp[Zbv];omega
 |x::xs,y::ys=>by
  have:=Zpu xs ys
  rw[Zbv];split<;>simp<;>omega
def ZbP(xs:List Int):Bool:=xs.all fun x=>decide (x=0∨x=1)
section
variable {C:Ctx}(hC:C.P=Try.prog)
include hC
theorem Zq9(xs ys:List Int)(hl:xs.length≤1000000∧xs.length=ys.length):∀m k:Nat,k+m=xs.length→Ev C (ZkB xs ys k) (Zh7 xs ys k) (Zav 17 (.bool (decide (xs.drop k=ys.drop k))) none)
 |0,k,hk=>tgo hC ZaT ZoY (by
  rw[List.drop_of_length_le (by omega),List.drop_of_length_le (by omega)]
  simp[Zfp,show ¬(k:Int)<xs.length by omega])
 |m+1,k,hk=>by
  have ih:=Zq9 xs ys hl m (k+1) (by omega)
  rw[ZdV (show k<xs.length by omega),ZdV (show k<ys.length by omega)]
  refine tgo hC ZaT ZoY ?_
  by_cases h:xs.getD k 0=ys.getD k 0
  ·simp[-List.getD_eq_getElem?_getD,Zfp,show(k:Int)<xs.length by omega,show k<xs.length by omega,show k<ys.length by omega,h]
   exact⟨by omega,by simpa using ih⟩
  ·simp[-List.getD_eq_getElem?_getD,Zfp,show(k:Int)<xs.length by omega,show k<xs.length by omega,show k<ys.length by omega,h]
theorem ZjO(xs:List Int)(hl:xs.length≤1000000):∀m k:Nat,k+m=xs.length→Ev C (ZlZ xs xs.length k) (Zi1 xs xs.length k) (Zav 72 (.int .i64 (ZaE (xs.drop k))) none)
 |0,k,hk=>tgo hC ZaT Znw (by
  rw[List.drop_of_length_le (by omega)]
  simp[Zfu,show ¬(k:Int)<xs.length by omega,ZaE])
 |m+1,k,hk=>by
  have ih:=ZjO xs hl m (k+1) (by omega)
  have hlt:(k:Int)<xs.length:=by omega
  have hlt2:k<xs.length:=by omega
  rw[ZdV hlt2,ZaE]
  refine tgo hC ZaT Znw ?_
  by_cases h:xs.getD k 0=0
  ·simp[-List.getD_eq_getElem?_getD,Zfu,hlt,hlt2,h]
   exact⟨by omega,by simpa using ih⟩
  ·simp[-List.getD_eq_getElem?_getD,Zfu,hlt,hlt2,h]
end
theorem ZrH(a b c:Int):Zaj Try.prog 91 [.int .i64 a, .int .i64 b, .int .i64 c] (.bool (Zao a b c)) none:=
 start (ZGX a b c) fun C hC=>tgo hC ZaT ZPO (by by_cases h:b≤a<;>simp[ZK7,h,Zao])
theorem ZrP(a b c:Int):Zaj Try.prog 30 [.int .i64 a, .int .i64 b, .int .i64 c] (.bool (Zao a b c)) none:=
 start (ZHX a b c) fun C hC=>tgo hC ZaT ZQ6 (by by_cases h:b≤a<;>simp[ZJD,h,Zao])
theorem ZrW(b:Bool)(e:Int):Zaj Try.prog 85 [.bool b, .int .i64 e] (.int .i64 (Zau b e)) none:=
 start (ZFs b e) fun C hC=>tgo hC ZaT ZR2 (by cases b<;>simp[ZKt,Zau])
theorem Zu6(xs:List Int)(hl:xs.length≤1000000):Zaj Try.prog 72 [.list (.ints .i64 xs)] (.int .i64 (ZaE xs)) none:=
 start (ZGM xs) fun C hC=>tgo hC ZaT ZRb (by
  have:=ZjO hC xs hl xs.length 0 (by omega)
  simp[ZMN]
  simpa using this)
theorem Zqw(xs:List Int)(hl:xs.length≤1000000):Zaj Try.prog 14 [.list (.ints .i64 xs)] (.row 0 0) (some ⟨3,1, .ints .i64 xs⟩):=
 start (ZG3 xs) fun C hC=>tgo hC ZaT ZSj (by simp[ZLi];omega)
theorem ZvU(xs ys:List Int)(hl:xs.length≤1000000):Zaj Try.prog 17 [.list (.ints .i64 xs), .list (.ints .i64 ys)] (.bool (decide (xs=ys))) none:=
 start (ZFf xs ys) fun C hC=>tgo hC ZaT ZQB (by
  by_cases h:xs.length=ys.length
  ·simp[ZET,h]
   have:=Zq9 hC xs ys ⟨hl,h⟩ xs.length 0 (by omega)
   simpa using this
  ·have:xs≠ys:=fun e=>h (by rw[e])
   simp[ZET,this,show ¬((xs.length:Int)=ys.length) by omega])
def coI(a b:Int):Int:=if a=0 then b else -b
theorem ZFw(a b:Int)(h: -1000000≤b∧b≤1000000):Zaj Try.prog 89 [.int .i64 a, .int .i64 b] (.int .i64 (coI a b)) none:=
 start (ZEr a b) fun C hC=>tgo hC ZaT ZRu (by
  by_cases h:a=0<;>simp[ZJ9,h,coI];omega)
def k91:Ctr:=⟨91,0,fun _ a=>match a with |[.int .i64 a, .int .i64 b, .int .i64 c]=>some (true, .bool (Zao a b c),none) |_=>none⟩
theorem ZM3:k91.OK Try.prog:=fun pa args r fr h=>by
 simp only[k91]at h
 split at h
 ·cases h
  exact ZrH _ _ _
 ·cases h
def k30:Ctr:=⟨30,0,fun _ a=>match a with |[.int .i64 a, .int .i64 b, .int .i64 c]=>some (true, .bool (Zao a b c),none) |_=>none⟩
theorem ZJv:k30.OK Try.prog:=fun pa args r fr h=>by
 simp only[k30]at h
 split at h
 ·cases h
  exact ZrP _ _ _
 ·cases h
def k85:Ctr:=⟨85,0,fun _ a=>match a with |[.bool b, .int .i64 e]=>some (true, .int .i64 (Zau b e),none) |_=>none⟩
theorem ZMe:k85.OK Try.prog:=fun pa args r fr h=>by
 simp only[k85]at h
 split at h
 ·cases h
  exact ZrW _ _
 ·cases h
def k72:Ctr:=⟨72,0,fun _ a=>match a with |[.list (.ints .i64 xs)]=>some (decide (xs.length≤1000000), .int .i64 (ZaE xs),none) |_=>none⟩
theorem ZIE:k72.OK Try.prog:=fun pa args r fr h=>by
 simp only[k72]at h
 split at h
 ·simp only[Option.some.injEq,Prod.mk.injEq,decide_eq_true_eq]at h
  obtain⟨h0,rfl,rfl⟩:=h
  exact Zu6 _ h0
 ·cases h
def k14:Ctr:=⟨14,0,fun _ a=>match a with |[.list (.ints .i64 xs)]=>some (decide (xs.length≤1000000), .row 0 0,some ⟨3,1, .ints .i64 xs⟩) |_=>none⟩
theorem ZDQ:k14.OK Try.prog:=fun pa args r fr h=>by
 simp only[k14]at h
 split at h
 ·simp only[Option.some.injEq,Prod.mk.injEq,decide_eq_true_eq]at h
  obtain⟨h0,rfl,rfl⟩:=h
  exact Zqw _ h0
 ·cases h
def k17:Ctr:=⟨17,0,fun _ a=>match a with |[.list (.ints .i64 xs), .list (.ints .i64 ys)]=>some (decide (xs.length≤1000000), .bool (decide (xs=ys)),none) |_=>none⟩
theorem ZOz:k17.OK Try.prog:=fun pa args r fr h=>by
 simp only[k17]at h
 split at h
 ·simp only[Option.some.injEq,Prod.mk.injEq,decide_eq_true_eq]at h
  obtain⟨h0,rfl,rfl⟩:=h
  exact ZvU _ _ h0
 ·cases h
def k89:Ctr:=⟨89,0,fun _ a=>match a with |[.int .i64 a, .int .i64 b]=>some (decide (-1000000≤b∧b≤1000000), .int .i64 (coI a b),none) |_=>none⟩
theorem ZIA:k89.OK Try.prog:=fun pa args r fr h=>by
 simp only[k89]at h
 split at h
 ·simp only[Option.some.injEq,Prod.mk.injEq,decide_eq_true_eq]at h
  obtain⟨h0,rfl,rfl⟩:=h
  exact ZFw _ _ h0
 ·cases h
def N1:List Ctr:=[k91,k30,k85,k72,k14,k17,k89]++N0
theorem Zgq:Zay Try.prog N1:=⟨ZM3,⟨ZJv,⟨ZMe,⟨ZIE,⟨ZDQ,⟨ZOz,⟨ZIA,ZaT⟩⟩⟩⟩⟩⟩⟩
end Go.Proofs.Ytklbmkllepkjcaa
/- Paths of functions, printed by the explorer (Gx). No condition. -/
namespace Go.Proofs.Ytklbmkllepkjcaa
set_option maxRecDepth 100000
set_option linter.unusedVariables false
def ZB9(n:Int):AFrame:=vF 113 8 [(0,AV.int .u64 n)] [.code a113.code] [.tmp 2]
def ZR1(n:Int):List AFrame:=[(ZB9 n)]
theorem ZBN(n:Int):Zal tab 113 [AV.int .u64 n]=some (ZB9 n):=rfl
def ZD2(A:Ar)(K:KT)(F:FT)(n:Int):Prop:=let u3:=A.add (A.bits Go.BinOp.and .u64 (A.shr n 1) 6148914691236517205) (A.bits Go.BinOp.and .u64 n 6148914691236517205);let u1:=A.add (A.bits Go.BinOp.and .u64 (A.shr u3 2) 3689348814741910323) (A.bits Go.BinOp.and .u64 u3 3689348814741910323);let u6:=A.add (A.shr u1 4) u1;let u0:=A.bits Go.BinOp.and .u64 u6 1085102592571150095;let u5:=A.add u0 (A.shr u0 8);let u2:=A.add u5 (A.shr u5 16);let u4:=A.add u2 (A.shr u2 32);rB [A.inR .i64 u4,A.inR .u64 u4,Zad (A.le 0 32) (Nat.blt (A.nat 32) 64),A.inR .u64 u2,Zad (A.le 0 16) (Nat.blt (A.nat 16) 64),A.inR .u64 u5,Zad (A.le 0 8) (Nat.blt (A.nat 8) 64),A.inR .u64 u6,Zad (A.le 0 4) (Nat.blt (A.nat 4) 64),A.inR .u64 u1,Zad (A.le 0 2) (Nat.blt (A.nat 2) 64),A.inR .u64 u3,Zad (A.le 0 1) (Nat.blt (A.nat 1) 64)] (F (AV.int .i64 (A.bits Go.BinOp.and .i64 u4 127)) none)
theorem ZNV{A:Ar}{K:KT}{F:FT}{M:MT}{n:Int} :Zah A tab N1 113 K F M (.run 5 (.fy (.run 76 (.fn)))) (ZR1 n) []=ZD2 A K F n:=by kernel_rfl
def ZC9(a b:Int):AFrame:=vF 109 20 [vI 0 a,vI 1 b] [.code a109.code] [.tmp 4]
def ZPz(a b:Int):List AFrame:=[(ZC9 a b)]
theorem ZAB(a b:Int):Zal tab 109 [AV.int .i64 a,AV.int .i64 b]=some (ZC9 a b):=rfl
def Zgk(n0 n1:Int):List AFrame:=[vF 109 20 [vI 5 n1,vI 6 n0] (vC ZDx ZLV) [.tmp 4]]
def Zee(n0 n1:Int):Zaa:=[]
abbrev Zj3(n0 n1:Int):List AFrame×Zaa:=(Zgk n0 n1,Zee n0 n1)
def ZC3(A:Ar)(K:KT)(F:FT)(a b:Int):Prop:=K (Zj3 (A.bits Go.BinOp.and .i64 a b) 0)
theorem ZMr{A:Ar}{K:KT}{F:FT}{M:MT}{a b:Int} :Zah A tab N1 109 K F M (.run 19 (.hd)) (ZPz a b) []=ZC3 A K F a b:=by kernel_rfl
def Zex(A:Ar)(K:KT)(F:FT)(n0 n1:Int):Prop:=let u0:=A.add n1 (A.rem n0 2);bB (A.lt 0 n0) (rB [Zad (A.not (A.eq 2 0)) (A.inR .i64 (A.quo n0 2)),A.inR .i64 u0,A.not (A.eq 2 0)] (K (Zj3 (A.quo n0 2) u0))) (rB [A.not (A.eq 2 0)] (F (AV.int .i64 (A.rem n1 2)) none))
theorem Zrm{A:Ar}{K:KT}{F:FT}{M:MT}{n0 n1:Int} :Zah A tab N1 109 K F M (.run 7 (.tf (.run 18 (.hd)) (.run 8 (.fn)))) (Zgk n0 n1) (Zee n0 n1)=Zex A K F n0 n1:=by kernel_rfl
def ZM5(m g0 g1:Int):AFrame:=vF 67 6 [(0,AV.agg (.ints .i64 [m,g0,g1]))] [.code a67.code] [.tmp 2]
def ZTM(m g0 g1:Int):List AFrame:=[(ZM5 m g0 g1)]
theorem ZEz(m g0 g1:Int):Zal tab 67 [AV.agg (.ints .i64 [m,g0,g1])]=some (ZM5 m g0 g1):=rfl
def ZMk(A:Ar)(K:KT)(F:FT)(m g0 g1:Int):Prop:=let u0:=A.nth [m,g0,g1] 0;rB [Zad (Zad (A.le 0 u0) (Nat.blt (A.nat u0) 64)) (A.inR .i64 (A.shl 1 u0)),Nat.blt 0 (A.len [m,g0,g1]),Nat.blt 0 (A.len [m,g0,g1])] (F (AV.int .i64 (A.shl 1 u0)) none)
theorem ZSi{A:Ar}{K:KT}{F:FT}{M:MT}{m g0 g1:Int} :Zah A tab N1 67 K F M (.run 13 (.fn)) (ZTM m g0 g1) []=ZMk A K F m g0 g1:=by kernel_rfl
def ZKj(xs:List Int)(lo hi:Int):AFrame:=vF 70 14 [vL 0 xs,vI 1 lo,vI 2 hi] [.code a70.code] [.tmp 6]
def ZVK(xs:List Int)(lo hi:Int):List AFrame:=[(ZKj xs lo hi)]
theorem ZFr(xs:List Int)(lo hi:Int):Zal tab 70 [AV.list (.ints .i64 xs),AV.int .i64 lo,AV.int .i64 hi]=some (ZKj xs lo hi):=rfl
def ZiZ(xs:List Int)(lo hi n0 n1:Int):List AFrame:=[vF 123 19 [vL 0 xs,(1,AV.fn 111 [AV.ptr 70005 0 0 0,AV.ptr 70006 0 0 0]),vI 7 n0,vI 8 n1] (vC ZCY ZID) [.tmp 4],vF 110 9 [vL 0 xs,(1,AV.fn 111 [AV.ptr 70005 0 0 0,AV.ptr 70006 0 0 0]),vB 4 false,vL 5 xs,(6,AV.fn 111 [AV.ptr 70005 0 0 0,AV.ptr 70006 0 0 0])] [.inReg [oN 7 (.ncall true 0 123 [.t 5,.t 6]),oN 8 (.bin Go.BinOp.geq (.t 7) (cI 0)),mV 4 8], .code ACode.ret] [.tmp 4],vF 70 14 [vL 0 xs,vI 1 lo,vI 2 hi,vP 4 70005,vP 5 70006,vI 6 0,vL 8 xs,(9,AV.fn 111 [AV.ptr 70005 0 0 0,AV.ptr 70006 0 0 0])] [.inReg [oN 10 (.ncall true 0 110 [.t 8,.t 9]),mV 7 10], .code (.seq (.reg none [mV 11 7,oN 12 (.not (.t 11)),oN 13 (.ncall true 0 85 [.t 12,cI 2]),mV 6 13]) ACode.ret)] [.tmp 6]]
def ZgC(xs:List Int)(lo hi n0 n1:Int):Zaa:=[vG 70005 (.int .i64 lo),vG 70006 (.int .i64 hi)]
abbrev Zmz(xs:List Int)(lo hi n0 n1:Int):List AFrame×Zaa:=(ZiZ xs lo hi n0 n1,ZgC xs lo hi n0 n1)
def ZLa(A:Ar)(K:KT)(F:FT)(xs:List Int)(lo hi:Int):Prop:=K (Zmz xs lo hi (A.int (A.len xs)) 0)
theorem ZR6{A:Ar}{K:KT}{F:FT}{M:MT}{xs:List Int}{lo hi:Int} :Zah A tab N1 70 K F M (.run 34 (.hd)) (ZVK xs lo hi) []=ZLa A K F xs lo hi:=by kernel_rfl
def ZdP(A:Ar)(K:KT)(F:FT)(xs:List Int)(lo hi n0 n1:Int):Prop:=bB (A.lt n1 n0) (rB [Zad (Zad (A.le 0 n1) (Nat.blt (A.nat n1) (A.len xs))) true] (bB (A.not (Zao (A.nth xs (A.nat n1)) lo hi)) (F (AV.int .i64 (Zau (A.not (A.le 0 n1)) 2)) none) (rB [A.inR .i64 (A.add n1 1)] (K (Zmz xs lo hi n0 (A.add n1 1)))))) (F (AV.int .i64 (Zau (A.not (A.le 0 (-1))) 2)) none)
theorem ZlL{A:Ar}{K:KT}{F:FT}{M:MT}{xs:List Int}{lo hi n0 n1:Int} :Zah A tab N1 70 K F M (.run 6 (.tf (.run 32 (.tf (.run 22 (.fn)) (.run 8 (.hd)))) (.run 22 (.fn)))) (ZiZ xs lo hi n0 n1) (ZgC xs lo hi n0 n1)=ZdP A K F xs lo hi n0 n1:=by kernel_rfl
def ZLd(xs:List Int):AFrame:=vF 55 16 [vL 0 xs] [.code a55.code] [.tmp 2]
def ZUo(xs:List Int):List AFrame:=[(ZLd xs)]
theorem ZEG(xs:List Int):Zal tab 55 [AV.list (.ints .i64 xs)]=some (ZLd xs):=rfl
def ZlY(xs:List Int)(n0:Int):List AFrame:=[vF 55 16 [vL 0 xs,vI 3 n0] (vC ZKL ZPw) [.tmp 2]]
def Zil(xs:List Int)(n0:Int):Zaa:=[]
abbrev Zov(xs:List Int)(n0:Int):List AFrame×Zaa:=(ZlY xs n0,Zil xs n0)
def ZIV(A:Ar)(K:KT)(F:FT)(xs:List Int):Prop:=K (Zov xs 0)
theorem ZSG{A:Ar}{K:KT}{F:FT}{M:MT}{xs:List Int} :Zah A tab N1 55 K F M (.run 12 (.hd)) (ZUo xs) []=ZIV A K F xs:=by kernel_rfl
def Ze5(A:Ar)(K:KT)(F:FT)(xs:List Int)(n0:Int):Prop:=bB (A.lt n0 (A.int (A.len xs))) (rB [Zad (Zad (A.le 0 n0) (Nat.blt (A.nat n0) (A.len xs))) true] (bB (A.not (Zao (A.nth xs (A.nat n0)) (-7) 7)) (F (AV.int .i64 2) none) (rB [A.inR .i64 (A.add n0 1)] (K (Zov xs (A.add n0 1)))))) (F (AV.int .i64 0) none)
theorem Zom{A:Ar}{K:KT}{F:FT}{M:MT}{xs:List Int}{n0:Int} :Zah A tab N1 55 K F M (.run 9 (.tf (.run 12 (.tf (.run 5 (.fn)) (.run 9 (.hd)))) (.run 6 (.fn)))) (ZlY xs n0) (Zil xs n0)=Ze5 A K F xs n0:=by kernel_rfl
def ZNg(xs:List Int):AFrame:=vF 26 16 [vL 0 xs] [.code a26.code] [.tmp 2]
def ZVm(xs:List Int):List AFrame:=[(ZNg xs)]
theorem ZHG(xs:List Int):Zal tab 26 [AV.list (.ints .i64 xs)]=some (ZNg xs):=rfl
def ZlI(xs:List Int)(n0:Int):List AFrame:=[vF 26 16 [vL 0 xs,vI 3 n0] (vC ZKz ZSw) [.tmp 2]]
def Zic(xs:List Int)(n0:Int):Zaa:=[]
abbrev Zob(xs:List Int)(n0:Int):List AFrame×Zaa:=(ZlI xs n0,Zic xs n0)
def ZIb(A:Ar)(K:KT)(F:FT)(xs:List Int):Prop:=K (Zob xs 0)
theorem ZP9{A:Ar}{K:KT}{F:FT}{M:MT}{xs:List Int} :Zah A tab N1 26 K F M (.run 12 (.hd)) (ZVm xs) []=ZIb A K F xs:=by kernel_rfl
def ZfF(A:Ar)(K:KT)(F:FT)(xs:List Int)(n0:Int):Prop:=bB (A.lt n0 (A.int (A.len xs))) (rB [Zad (Zad (A.le 0 n0) (Nat.blt (A.nat n0) (A.len xs))) true] (bB (A.not (Zao (A.nth xs (A.nat n0)) 0 15)) (F (AV.int .i64 2) none) (rB [A.inR .i64 (A.add n0 1)] (K (Zob xs (A.add n0 1)))))) (F (AV.int .i64 0) none)
theorem ZoD{A:Ar}{K:KT}{F:FT}{M:MT}{xs:List Int}{n0:Int} :Zah A tab N1 26 K F M (.run 9 (.tf (.run 24 (.tf (.run 5 (.fn)) (.run 9 (.hd)))) (.run 6 (.fn)))) (ZlI xs n0) (Zic xs n0)=ZfF A K F xs n0:=by kernel_rfl
def ZJr(p xs:List Int)(t:Int):AFrame:=vF 69 29 [(0,AV.agg (.ints .i64 p)),vL 1 xs,vI 2 t] [.code a69.code] [.tmp 6]
def ZT0(p xs:List Int)(t:Int):List AFrame:=[(ZJr p xs t)]
theorem ZFN(p xs:List Int)(t:Int):Zal tab 69 [AV.agg (.ints .i64 p),AV.list (.ints .i64 xs),AV.int .i64 t]=some (ZJr p xs t):=rfl
def ZLI(A:Ar)(K:KT)(F:FT)(p xs:List Int)(t:Int):Prop:=let u1:=A.mul 2 t;let u5:=A.mul 2 (A.nth p 0);let u3:=A.mul (A.nth xs (A.nat u1)) (A.sub 1 u5);let u6:=A.add u1 1;let u4:=A.mul 2 (A.nth p 1);let u2:=A.mul (A.nth xs (A.nat u6)) (A.sub 1 u4);let u0:=A.add u3 u2;rB [A.inR .i64 u0,A.inR .i64 u2,A.inR .i64 (A.sub 1 u4),A.inR .i64 u4,Nat.blt 1 (A.len p),Zad (Zad (A.le 0 u6) (Nat.blt (A.nat u6) (A.len xs))) true,A.inR .i64 u6,A.inR .i64 u1,A.inR .i64 u3,A.inR .i64 (A.sub 1 u5),A.inR .i64 u5,Nat.blt 0 (A.len p),Zad (Zad (A.le 0 u1) (Nat.blt (A.nat u1) (A.len xs))) true,A.inR .i64 u1,Nat.blt 0 (A.len p)] (F (AV.int .i64 u0) none)
theorem ZQY{A:Ar}{K:KT}{F:FT}{M:MT}{p xs:List Int}{t:Int} :Zah A tab N1 69 K F M (.run 9 (.fn)) (ZT0 p xs t) []=ZLI A K F p xs t:=by kernel_rfl
end Go.Proofs.Ytklbmkllepkjcaa
