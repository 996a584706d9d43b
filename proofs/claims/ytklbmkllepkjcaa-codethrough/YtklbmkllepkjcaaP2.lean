/- Arguments' readings, of whatever type of plain cells and slices. No condition. -/
import Derived.Test.YtklbmkllepkjcaaW1
import Derived.Deep.Slices
import Derived.KernelRfl
namespace Go.Proofs.Ytklbmkllepkjcaa
open Go.ChangeShapes Go.WideShapes Go.ChangeAt Go.RowKit Go.Deep
def Zv4(P:Program)(f:TypeId→Option (List Sh)):Nat→List Field→Option (List Sh)
 |_,[]=>some []
 |off,fd::fds=>match fd.offset==off,f fd.type with
  |true,some l=>(match P.cellsOf fd.type==l.length,Zv4 P f (off+l.length) fds with
   |true,some r=>some (l++r)
   |_,_=>none)
  |_,_=>none
def ZEr(ag:Bool)(l:List Sh):Option Sh:=match ag,l with
 |_,[]=>none
 |true,s::ss=>some (.agg (s::ss))
 |false,[s]=>some s
 |false,_=>none
def ZFs:Sh→Sh
 | .int k=>.ints k
 |s=>.big s
def ZNP(P:Program)(f:TypeId→Option (List Sh)):TypeDesc→Option (List Sh)
 | .int k=>some [.int k]
 | .bool=>some [.bool]
 | .string=>some [.str]
 | .struct fs=>Zv4 P f 0 fs.toList
 | .array n e=>match f e with
   |some l=>(match P.cellsOf e==l.length with |true=>some (List.replicate n l).flatten |false=>none)
   |none=>none
 | .slice e=>match f e,P.underlying e with
   |some l,some de=>(match P.cellsOf e==l.length,ZEr (ZaO de) l with |true,some s=>some [ZFs s] |_,_=>none)
   |_,_=>none
 |_=>none
def ZxW(P:Program):Nat→TypeId→Option (List Sh)
 |0,_=>none
 |d+1,t=>match P.underlying t with
  |some td=>(match ZNP P (ZxW P d) td with
   |some l=>(match P.cellsOf t==l.length with |true=>some l |false=>none)
   |none=>none)
  |none=>none
def wfE(ss:List Sh)(x:AV):Prop:=∀(j:Nat) (k:IntKind),ss[j]? =some (.int k)→(Lit.int k (x.cellAt j).toI).wf=true
def wfV:AV→Prop
 | .int k n=>(Lit.int k n).wf=true
 | .list (.ints k l)=>∀x∈l,(Lit.int k x).wf=true
 | .list (.big (.agg ss) l)=>∀x∈l,wfE ss x
 |_=>True
def Sh.leaf:Sh→Bool
 | .agg _=>false
 |_=>true
def Cf(s:Sh)(u:AV):Prop:=(∃a,u=s.view1 a)∧wfV u∧s.leaf=true
def Cfs(ss:List Sh)(us:List AV):Prop:=us.length=ss.length∧∀(j:Nat) (s:Sh) (u:AV),ss[j]? =some s→us[j]? =some u→Cf s u
def Rd(W:World)(L:Lay)(ss:List Sh)(cs:List Value):Prop:=∃us:List AV,RelL W (Zne W) [] L us cs∧(∀c∈cs,c.oneCell'=true)∧Cfs ss us
section
variable {H:Type}{enc:TypeId×Value→H}{P:Program}{W:World}{L:Lay}
theorem Cfs.app{s1 s2:List Sh}{u1 u2:List AV}(h1:Cfs s1 u1)(h2:Cfs s2 u2):Cfs (s1++s2) (u1++u2):=by
 refine⟨by simp[h1.1,h2.1],fun j s u hs hu=>?_⟩
 by_cases hj:j<s1.length
 ·rw[List.getElem?_append_left hj]at hs
  rw[List.getElem?_append_left (by rw[h1.1];exact hj)]at hu
  exact h1.2 j s u hs hu
 ·rw[List.getElem?_append_right (by omega)]at hs
  rw[List.getElem?_append_right (by rw[h1.1];omega),h1.1]at hu
  exact h2.2 _ s u hs hu
theorem Rd.app{s1 s2:List Sh}{c1 c2:List Value}(h1:Rd W L s1 c1)(h2:Rd W L s2 c2):Rd W L (s1++s2) (c1++c2):=by
 obtain⟨u1,r1,o1,f1⟩:=h1
 obtain⟨u2,r2,o2,f2⟩:=h2
 exact⟨u1++u2,r1.append r2,fun c hc=>(List.mem_append.1 hc).elim (o1 c) (o2 c),f1.app f2⟩
theorem Rd.nil:Rd W L [] []:=⟨[],RelL.nil,by simp,rfl,fun j s u hs=>by simp at hs⟩
theorem Rd.len{ss:List Sh}{cs:List Value}(h:Rd W L ss cs):cs.length=ss.length:=by
 obtain⟨us,r,_,f⟩:=h
 rw[←r.1,f.1]
theorem Rd.one{s:Sh}{v:Value}{u:AV}(hr:Rel W (Zne W) [] L u v)(h1:v.oneCell'=true)(hc:Cf s u):Rd W L [s] [v]:=
 ⟨[u],RelL.cons hr RelL.nil,by simpa using h1,rfl,fun j s' u' hs hu=>by
   cases j with
   |zero=>simp at hs hu;subst hs;subst hu;exact hc
   |succ j=>simp at hs⟩
theorem ZJf{f:TypeId→Option (List Sh)}{n:Nat}(IH:∀t ss,f t=some ss→∀fuel cs x,DataW.trod enc P W 0 (fun _=>true) true fuel t cs=some x→Rd W L ss cs){cs:List Value} :
 ∀(fs:List Field) (off:Nat) (ss:List Sh),Zv4 P f off fs=some ss→(∀(i:Nat) (fd:Field),fs[i]? =some fd→∃x,DataW.trod enc P W 0 (fun _=>true) true n fd.type ((cs.drop fd.offset).take (P.cellsOf fd.type))=some x)→
 (cs.drop off).length=ss.length→Rd W L ss (cs.drop off)
 |[],off,ss,h,_,hl=>by
  simp only[Zv4,Option.some.injEq]at h
  subst h
  rw[List.eq_nil_of_length_eq_zero hl]
  exact Rd.nil
 |fd::fds,off,ss,h,hx,hl=>by
  simp only[Zv4]at h
  split at h
  ·rename_i l ho hfl
   split at h
   ·rename_i r hcl hr
    simp only[Option.some.injEq]at h
    subst h
    have ho:fd.offset=off:=by simpa using ho
    have hcl:P.cellsOf fd.type=l.length:=by simpa using hcl
    obtain⟨x,hxx⟩:=hx 0 fd rfl
    rw[ho,hcl]at hxx
    have h1:=IH _ _ hfl _ _ _ hxx
    have h2:=ZJf IH fds (off+l.length) r hr (fun i fd' h'=>hx (i+1) fd' (by simpa using h')) (by simp at hl ⊢;omega)
    have:=h1.app h2
    rw[show cs.drop (off+l.length)=(cs.drop off).drop l.length by rw[List.drop_drop],List.take_append_drop]at this
    exact this
   ·cases h
  ·cases h
theorem ZzU{l:List Sh}{n c:Nat}{e:TypeId}{cs:List Value}(hc:c=l.length)(IH:∀i,i<n→Rd W L l ((cs.drop (i*c)).take c)):
 ∀(k s:Nat),s+k=n→cs.length=n*c→Rd W L (List.replicate k l).flatten (cs.drop (s*c))
 |0,s,hs,hl=>by
  rw[List.drop_of_length_le (by rw[hl,←hs];simp)]
  exact Rd.nil
 |k+1,s,hs,hl=>by
  have h1:=IH s (by omega)
  have h2:=ZzU (e:=e) hc IH k (s+1) (by omega) hl
  have:=h1.app h2
  rw[Nat.add_mul,Nat.one_mul,show cs.drop (s*c+c)=(cs.drop (s*c)).drop c by rw[List.drop_drop],List.take_append_drop]at this
  rw[List.replicate_succ,List.flatten_cons]
  exact this
theorem Ziv:∀ {l:List AV},(∀u∈l,u.pure=true)→AV.pureL l=true
 |[],_=>rfl
 |u::l,h=>by simp only[AV.pureL,Bool.and_eq_true];exact⟨h u (by simp),Ziv fun v hv=>h v (by simp[hv])⟩
theorem Zng{α:Type}{sz:Nat}(g:Nat→List α):∀(n:Nat),(∀i,i<n→(g i).length=sz)→∀j,((List.range n).flatMap g)[j]? =if j<n*sz then(g (j/sz))[j%sz]? else none
 |0,_,j=>by simp
 |n+1,hg,j=>by
  have ih:=Zng g n (fun i hi=>hg i (by omega))
  have hlen:((List.range n).flatMap g).length=n*sz:=by
   apply Nat.le_antisymm
   ·have h1:=ih (n*sz)
    rw[if_neg (by omega)]at h1
    simpa using h1
   ·rcases Nat.lt_or_ge ((List.range n).flatMap g).length (n*sz)with h |h
    ·have h1:=ih ((List.range n).flatMap g).length
     rw[if_pos h,List.getElem?_eq_none (Nat.le_refl _)]at h1
     have hz:0<sz:=by rcases Nat.eq_zero_or_pos sz with h0 |h0;· subst h0;simp at h
                      ·exact h0
     have h2:((List.range n).flatMap g).length/sz<n:=by rw[Nat.div_lt_iff_lt_mul hz];exact h
     rw[List.getElem?_eq_getElem (by rw[hg _ (by omega)];exact Nat.mod_lt _ hz)]at h1
     cases h1
    ·exact h
  rw[List.range_succ,List.flatMap_append,List.flatMap_singleton]
  by_cases hj:j<n*sz
  ·rw[List.getElem?_append_left (by omega),ih,if_pos hj,if_pos (by rw[Nat.add_mul];omega)]
  ·rw[List.getElem?_append_right (by omega),hlen]
   by_cases hj2:j<(n+1)*sz
   ·rw[if_pos hj2]
    rw[Nat.add_mul,Nat.one_mul]at hj2
    have hz:0<sz:=by omega
    have e1:j/sz=n:=by
     rw[Nat.div_eq_iff hz];constructor
     ·rw[Nat.mul_comm]at hj ⊢;omega
     ·omega
    have e2:j%sz=j-n*sz:=by
     have:=Nat.div_add_mod j sz
     rw[e1,Nat.mul_comm]at this;omega
    rw[e1,e2]
   ·rw[if_neg hj2]
    exact List.getElem?_eq_none (by rw[hg n (by omega)];rw[Nat.add_mul]at hj2;omega)
theorem Zsz(s:Sh)(a:AV):s.view1 (s.view1 a)=s.view1 a:=by cases s<;>rfl
theorem Zob:∀ {ss:List Sh} {us pre:List AV},Cfs ss us→ZfD ss pre.length (.agg (.gen (pre++us)))=us
 |[],us,pre,h=>by have:=h.1;cases us<;>simp at this;rfl
 |s::ss,us,pre,h=>by
  cases us with
  |nil=>have:=h.1;simp at this
  |cons u us=>
   obtain⟨a,rfl⟩:=(h.2 0 s u rfl rfl).1
   have ht:Cfs ss us:=⟨by have:=h.1;simpa using this,fun j s' u' hs hu=>h.2 (j+1) s' u' (by simpa using hs) (by simpa using hu)⟩
   have:=Zob (pre:=pre++[s.view1 a]) ht
   rw[List.append_assoc,List.length_append]at this
   simp only[List.length_singleton,List.singleton_append]at this
   simp only[ZfD,this]
   congr 1
   simp only[AV.cellAt,List.getD_eq_getElem?_getD,List.getElem?_append_right (Nat.le_refl _),Nat.sub_self,List.getElem?_cons_zero,Option.getD_some]
   exact Zsz s a
theorem Zx3{ss:List Sh}{us:List AV}(h:Cfs ss us):∀u∈us,u.pure=true∧u.single=true:=fun u hu=>by
 obtain⟨j,hj⟩:=List.mem_iff_getElem?.1 hu
 have hlt:=(List.getElem?_eq_some_iff.1 hj).1
 obtain⟨a,rfl⟩:=(h.2 j _ u (List.getElem?_eq_getElem (by rw[←h.1];exact hlt)) hj).1
 exact⟨ZhB _ _,Zeq _ _⟩
def ZE3(ag:Bool)(us:List AV):AV:=match ag with |true=>.agg (.gen us) |false=>us.getD 0 .top
theorem Zkk{ag:Bool}{ss:List Sh}{s:Sh}{us:List AV}(hs:ZEr ag ss=some s)(h:Cfs ss us):s.view (ZE3 ag us)=ZE3 ag us∧(ZE3 ag us).flat=us:=by
 unfold ZEr at hs
 split at hs
 ·cases hs
 ·rename_i s1 ss1
  cases hs
  refine⟨?_,rfl⟩
  have:=Zob (pre:=[]) h
  simp only[List.nil_append,List.length_nil]at this
  simp only[Sh.view,ZE3,this]
 ·rename_i s1
  cases hs
  have hl:=h.1
  match us,hl with
  |[u],_=>
   obtain⟨⟨a,rfl⟩,_,hlf⟩:=h.2 0 _ u rfl rfl
   refine⟨?_,ZbA (Zeq _ _)⟩
   show s.view (s.view1 a)=s.view1 a
   cases s with
   |agg l=>cases hlf
   |_=>rfl
 ·cases hs
def Zgv(s:Sh)(es:List AV):Row:=match s with
 | .int k=>.ints k (es.map AV.toI)
 |s=>.big s es
theorem ZiC(s:Sh)(es:List AV):(Zgv s es).elems=es.map s.view:=by
 cases s<;>simp[Zgv,Row.elems,Sh.view,Sh.view1,List.map_map,Function.comp_def]
theorem ZjD(s:Sh)(es:List AV):AV.list (Zgv s es)=(ZFs s).view1 (.list (Zgv s es)):=by cases s<;>rfl
theorem ZoP(s:Sh):(ZFs s).leaf=true:=by cases s<;>rfl
theorem ZpY{g:Nat→AV}{u:Nat→List AV}{n:Nat}(h:∀i,i<n→(g i).flat=u i):Zaf ((List.range n).map g)=(List.range n).flatMap u:=by
 unfold Zaf
 rw[List.flatMap_map]
 exact flatMap_congr_range h
theorem ZI2(a:Addr)(i sz j:Nat):(a.add (i*sz)).add j=a.add (i*sz+j):=ZhH a _ _
theorem ZKe{t e:TypeId}{de:TypeDesc}{l:List Sh}{s:Sh}(ht:P.underlying t=some (.slice e))(hcl:P.cellsOf e=l.length)(hs:ZEr (ZaO de) l=some s)
 (IH:∀fuel cs x,DataW.trod enc P W 0 (fun _=>true) true fuel e cs=some x→Rd W L l cs) {fuel:Nat} {cs:List Value} {x:DataW H×List MemPlace} (h:DataW.trod enc P W 0 (fun _=>true) true fuel t cs=some x):Rd W L [ZFs s] cs:=by
 have hpos:0<l.length:=by
  unfold ZEr at hs
  split at hs<;>first |(cases hs;done) |simp
 have emp:∀ad c,Rd W L [ZFs s] [.slice ad 0 c]:=fun ad c=>Rd.one (u:=.list (Zgv s [])) (.nil _ ad c (by rw[ZiC];rfl)) rfl ⟨⟨_,ZjD s []⟩,by cases s<;>simp[Zgv,wfV],ZoP s⟩
 rcases open_slice ht h with⟨rfl,_⟩ |⟨a,len,cap,m,n,D,Pl,rfl,hb,hl,hm,hmm,_,hx⟩
 ·exact emp none 0
 ·by_cases h0:len=0
  ·subst h0;exact emp (some a) cap
  ·simp only[if_true]at hmm
   subst hmm
   obtain⟨F,hF⟩:=choose_lt (α:=List Value×List AV) (n:=len) (p:=fun i p=>W.cells? 0 (a.add (i*P.cellsOf e)) (P.cellsOf e)=some p.1∧RelL W (Zne W) [] L p.2 p.1∧(∀c∈p.1,c.oneCell'=true)∧Cfs l p.2) (fun i hi=>by
    obtain⟨cs',h1,h2⟩:=hx i (by omega)
    obtain⟨us,r,o,f⟩:=IH _ _ _ h2
    exact⟨(cs',us),h1,r,o,f⟩)
   rw[hcl]at hF
   have hcells:∀i,i<len→(F i).1.length=l.length∧∀j,j<l.length→W.cell? (a.add (i*l.length+j))=(F i).1[j]?:=fun i hi=>by
    obtain⟨_,g1,g2⟩:=World.cells?_some (hF i hi).1
    exact⟨g1,fun j hj=>by rw[←ZI2];exact g2 j hj⟩
   have hul:∀i,i<len→(F i).2.length=l.length:=fun i hi=>(hF i hi).2.2.2.1
   obtain⟨es,hes⟩:∃es,es=(List.range len).map fun i=>ZE3 (ZaO de) (F i).2:=⟨_,rfl⟩
   have hview:es.map s.view=es:=by
    rw[hes,List.map_map]
    exact List.map_congr_left fun i hi=>(Zkk hs (hF i (List.mem_range.1 hi)).2.2.2).1
   have hfl:Zaf es=(List.range len).flatMap fun i=>(F i).2:=by
    rw[hes];exact ZpY fun i hi=>(Zkk hs (hF i hi).2.2.2).2
   have hsz:∀x∈es,x.flat.length=l.length:=fun x hx=>by
    rw[hes]at hx
    obtain⟨i,hi,rfl⟩:=List.mem_map.1 hx
    rw[(Zkk hs (hF i (List.mem_range.1 hi)).2.2.2).2]
    exact hul i (List.mem_range.1 hi)
   have hlen:es.length=len:=by rw[hes];simp
   have gU:=Zng (fun i=>(F i).2) len hul
   have gV:=Zng (fun i=>(F i).1) len (fun i hi=>(hcells i hi).1)
   have hlt:a.block<W.heap.size:=by
    have h1:=(hcells 0 (by omega)).2 0 hpos
    rw[List.getElem?_eq_getElem (by rw[(hcells 0 (by omega)).1];exact hpos)]at h1
    have:=ZCm h1
    rw[Zdl]at this;exact this
   have hidx:∀j,j<len*l.length→j/l.length<len∧j%l.length<l.length:=fun j hj=>⟨by rw[Nat.div_lt_iff_lt_mul hpos];exact hj,Nat.mod_lt _ hpos⟩
   refine Rd.one (u:=.list (Zgv s es)) ?_ rfl ⟨⟨_,ZjD s es⟩,?_,ZoP s⟩
   ·refine .list (Zgv s es) es (by rw[ZiC,hview]) a len _ l.length ((List.range len).flatMap fun i=>(F i).1) hlt hlt hlen.symm hl hsz ?_ ?_ ?_ ?_ ?_
    ·rw[hfl]
     have e1:∀(g:Nat→List Value) (k:Nat→List AV) (n:Nat),(∀i,i<n→(g i).length=(k i).length)→((List.range n).flatMap g).length=((List.range n).flatMap k).length:=by
      intro g k n
      induction n with
      |zero=>intro _;rfl
      |succ n ih=>
       intro hgk
       rw[List.range_succ,List.flatMap_append,List.flatMap_append,List.length_append,List.length_append,ih (fun i hi=>hgk i (by omega))]
       simp[hgk n (by omega)]
     exact e1 _ _ _ fun i hi=>by rw[(hcells i hi).1,hul i hi]
    ·intro c hc
     obtain⟨i,hi,hc⟩:=List.mem_flatMap.1 hc
     exact(hF i (List.mem_range.1 hi)).2.2.1 c hc
    ·intro j v hj
     rw[gV j]at hj
     split at hj
     ·rename_i hjl
      obtain⟨q1,q2⟩:=hidx j hjl
      have:=(hcells _ q1).2 _ q2
      rw[show j/l.length*l.length+j%l.length=j by rw[Nat.mul_comm];exact Nat.div_add_mod j _]at this
      rw[this,hj]
     ·cases hj
    ·rw[hfl]
     exact Ziv fun u hu=>by
      obtain⟨i,hi,hu⟩:=List.mem_flatMap.1 hu
      exact(Zx3 (hF i (List.mem_range.1 hi)).2.2.2 u hu).1
    ·intro j u v hu hv
     rw[hfl,gU j]at hu
     rw[gV j]at hv
     split at hu
     ·rename_i hjl
      rw[if_pos hjl]at hv
      exact(hF _ (hidx j hjl).1).2.1.2 _ u v hu hv
     ·cases hu
   ·unfold Zgv
    split
    ·rename_i k
     simp only[wfV]
     intro z hz
     obtain⟨e1,he1,rfl⟩:=List.mem_map.1 hz
     rw[hes]at he1
     obtain⟨i,hi,rfl⟩:=List.mem_map.1 he1
     have hc:=(hF i (List.mem_range.1 hi)).2.2.2
     unfold ZEr at hs
     split at hs
     ·cases hs
     ·cases hs
     ·rename_i s1 hag
      cases hs
      have hl1:=hc.1
      rw[show ZaO de=false from by first |assumption |(rename_i hx _ _;exact hx)] 
      match hq:(F i).2,hl1 with
      |[u],_=>
       obtain⟨⟨a,ha⟩,hw,_⟩:=hc.2 0 (.int k) u rfl (by rw[hq];rfl)
       subst ha
       exact hw
     ·cases hs
    ·cases s with
     |agg ss=>
      show ∀x∈es,wfE ss x
      intro x hx j k hj
      rw[hes]at hx
      obtain⟨i,hi,rfl⟩:=List.mem_map.1 hx
      have hc:=(hF i (List.mem_range.1 hi)).2.2.2
      unfold ZEr at hs
      split at hs
      ·cases hs
      ·rename_i s1 ss1 hag
       cases hs
       rw[show ZaO de=true from by first |assumption |(rename_i hx2 _ _;exact hx2)]
       have hlt2:j<(F i).2.length:=by
        rw[hc.1]
        exact(List.getElem?_eq_some_iff.1 hj).1
       obtain⟨⟨a,ha⟩,hw,_⟩:=hc.2 j (.int k) _ hj (List.getElem?_eq_getElem hlt2)
       have he:(ZE3 true (F i).2).cellAt j=(F i).2[j]:=by simp[ZE3,AV.cellAt,List.getD_eq_getElem?_getD,List.getElem?_eq_getElem hlt2]
       rw[he,ha]
       rw[ha]at hw
       exact hw
      ·rename_i s1 hag
       cases hs
       have hl1:=hc.1
       match hq:(F i).2,hl1 with
       |[u],_=>
        obtain⟨_,_,hlf⟩:=hc.2 0 (.agg ss) u rfl (by rw[hq];rfl)
        cases hlf
      ·cases hs
     |_=>trivial
theorem Zuk:∀(d:Nat) (t:TypeId) (ss:List Sh),ZxW P d t=some ss→∀(fuel:Nat) (cs:List Value) (x:DataW H×List MemPlace),DataW.trod enc P W 0 (fun _=>true) true fuel t cs=some x→Rd W L ss cs
 |0,t,ss,h,_,_,_,_=>by simp[ZxW]at h
 |d+1,t,ss,h,fuel,cs,x,hx=>by
  have IH:=Zuk d
  simp only[ZxW]at h
  split at h
  ·rename_i td ht
   split at h
   ·rename_i l hl
    split at h
    ·rename_i hsz
     simp only[Option.some.injEq]at h
     subst h
     have hsz:P.cellsOf t=l.length:=by simpa using hsz
     unfold ZNP at hl
     split at hl
     ·rename_i k
      cases hl
      obtain⟨n,rfl,_,hw⟩:=DataW.trod_int ht hx
      exact Rd.one (.int k n) rfl ⟨⟨.int k n,rfl⟩,hw,rfl⟩
     ·cases hl
      obtain⟨b,rfl,_⟩:=DataW.trod_bool ht hx
      exact Rd.one (.bool b) rfl ⟨⟨.bool b,rfl⟩,trivial,rfl⟩
     ·cases hl
      obtain⟨s,rfl,_,_⟩:=DataW.trod_string ht hx
      have e:s=⟨s.data.toList.toArray⟩:=by simp
      refine Rd.one (u:=.str s.data.toList) ?_ rfl ⟨⟨.str s.data.toList,rfl⟩,trivial,rfl⟩
      have:=Rel.str (w:=W) (ok:=Zne W) (h:=[]) (L:=L) s.data.toList
      rw[←e]at this
      exact this
     ·rename_i fs
      obtain⟨xs,n,_,_,hlen,hxl,hf⟩:=DataW.trod_struct ht hx
      have:=ZJf (P:=P) (W:=W) (L:=L) (enc:=enc) (n:=n) IH (cs:=cs) fs.toList 0 l hl (fun i fd hfd=>by
       have hfd':fs[i]? =some fd:=by simpa using hfd
       have h1:=hf i fd hfd'
       have hi:i<xs.length:=by rw[hxl];exact(Array.getElem?_eq_some_iff.1 hfd').1
       exact⟨xs[i],by rw[h1,List.getElem?_eq_getElem hi]⟩) (by simp[hlen,hsz])
      simpa using this
     ·rename_i n e
      split at hl
      ·rename_i le hle
       split at hl
       ·rename_i hce
        simp only[Option.some.injEq]at hl
        subst hl
        have hce:P.cellsOf e=le.length:=by simpa using hce
        obtain⟨xs,m,_,_,hlen,hxl,hf⟩:=DataW.trod_array ht hx
        have:=ZzU (W:=W) (L:=L) (l:=le) (n:=n) (c:=P.cellsOf e) (e:=e) (cs:=cs) hce (fun i hi=>by
         have h1:=hf i hi
         rw[List.getElem?_eq_getElem (by rw[hxl];exact hi)]at h1
         exact IH _ _ hle _ _ _ h1) n 0 (by simp) (by rw[hlen,hsz,hce];simp)
        simpa using this
       ·cases hl
      ·cases hl
     ·rename_i e
      split at hl
      ·rename_i le de hle hde
       split at hl
       ·rename_i s hce hs
        simp only[Option.some.injEq]at hl
        subst hl
        exact ZKe ht (by simpa using hce) hs (fun fuel cs x hx=>IH _ _ hle fuel cs x hx) hx
       ·cases hl
      ·cases hl
     ·cases hl
    ·cases h
   ·cases h
  ·cases h
theorem ZAT{d:Nat}{t:TypeId}{ss:List Sh}(hs:ZxW P d t=some ss){v:Value}{dd:DataW H}{ps:List MemPlace}(hv:∃cs,v=.agg cs∧cs.size=P.cellsOf t)(h:DataW.Trod enc P W 0 (fun _=>true) true t v dd ps):
 ∃us,Rel W (Zne W) [] L (.agg (.gen us)) v∧Cfs ss us:=by
 obtain⟨cs,rfl,_⟩:=hv
 obtain⟨fuel,hf⟩:=h
 obtain⟨us,r,o,f⟩:=Zuk (L:=L) d t ss hs fuel _ _ hf
 exact⟨us, .agg _ us rfl cs (by simpa[Value.cells]using r.1) (fun c hc=>o c (by simpa[Value.cells]using hc)) (fun j u v hu hv=>r.2 j u v hu (by simpa[Value.cells]using hv)),f⟩
theorem ZHO{d:Nat}{t:TypeId}{s:Sh}(hs:ZxW P d t=some [s]){v:Value}{dd:DataW H}{ps:List MemPlace}(hv:v.oneCell'=true)(h:DataW.Trod enc P W 0 (fun _=>true) true t v dd ps):
 ∃u,Rel W (Zne W) [] L u v∧Cf s u:=by
 obtain⟨fuel,hf⟩:=h
 have hcs:v.cells.toList=[v]:=by cases v<;>first |rfl |(simp [Value.oneCell']at hv)
 obtain⟨us,r,o,f⟩:=Zuk (L:=L) d t [s] hs fuel _ _ hf
 rw[hcs]at r
 match us,f.1 with
 |[u],_=>exact⟨u,r.2 0 u v rfl rfl,f.2 0 s u rfl rfl⟩
end
end Go.Proofs.Ytklbmkllepkjcaa
/- The cells of some types, as they are read. No condition. -/
namespace Go.Proofs.Ytklbmkllepkjcaa
theorem Zmk{k:IntKind}{u:AV}(h:Cf (.int k) u):∃n,u=.int k n∧(Lit.int k n).wf=true:=by
 obtain⟨⟨a,rfl⟩,hw,_⟩:=h
 exact⟨_,rfl,hw⟩
theorem Zuu{k:IntKind}{u:AV}(h:Cf (.ints k) u):∃l:List Int,u=.list (.ints k l)∧∀x∈l,(Lit.int k x).wf=true:=by
 obtain⟨⟨a,rfl⟩,hw,_⟩:=h
 exact⟨_,rfl,hw⟩
theorem Zt0{us:List AV}(h:Cfs [] us):us=[]:=List.eq_nil_of_length_eq_zero h.1
theorem ZdI{s:Sh}{ss:List Sh}{us:List AV}(h:Cfs (s::ss) us):∃u r,us=u::r∧Cf s u∧Cfs ss r:=by
 cases us with
 |nil=>have:=h.1;simp at this
 |cons u r=>exact⟨u,r,rfl,h.2 0 s u rfl rfl,by have:=h.1;simpa using this,fun j s' u' hs hu=>h.2 (j+1) s' u' (by simpa using hs) (by simpa using hu)⟩
end Go.Proofs.Ytklbmkllepkjcaa
/- The cells of the laws' types, as they are read. No condition. -/
namespace Go.Proofs.Ytklbmkllepkjcaa
theorem ZDa{us:List AV}(h:Cfs [.int .i64, .int .i64, .int .i64] us):∃a b c,us=[.int .i64 a, .int .i64 b, .int .i64 c]:=by
 obtain⟨u,r,rfl,h1,h⟩:=ZdI h
 obtain⟨u2,r,rfl,h2,h⟩:=ZdI h
 obtain⟨u3,r,rfl,h3,h⟩:=ZdI h
 obtain rfl:=Zt0 h
 obtain⟨a,rfl,_⟩:=Zmk h1
 obtain⟨b,rfl,_⟩:=Zmk h2
 obtain⟨c,rfl,_⟩:=Zmk h3
 exact⟨a,b,c,rfl⟩
theorem Zty{us:List AV}(h:Cfs [.ints .i64, .int .i64] us):∃(a:List Int) (b:Int),us=[.list (.ints .i64 a), .int .i64 b]:=by
 obtain⟨u,r,rfl,h1,h⟩:=ZdI h
 obtain⟨u2,r,rfl,h2,h⟩:=ZdI h
 obtain rfl:=Zt0 h
 obtain⟨a,rfl,_⟩:=Zuu h1
 obtain⟨b,rfl,_⟩:=Zmk h2
 exact⟨a,b,rfl⟩
theorem ZBZ{us:List AV}(h:Cfs [.int .i64, .int .i64, .int .i64, .int .i64, .int .i64] us):∃a b c d e,us=[.int .i64 a, .int .i64 b, .int .i64 c, .int .i64 d, .int .i64 e]:=by
 obtain⟨u,r,rfl,h1,h⟩:=ZdI h
 obtain⟨u2,r,rfl,h2,h⟩:=ZdI h
 obtain⟨a,b,c,rfl⟩:=ZDa h
 obtain⟨x,rfl,_⟩:=Zmk h1
 obtain⟨y,rfl,_⟩:=Zmk h2
 exact⟨x,y,a,b,c,rfl⟩
end Go.Proofs.Ytklbmkllepkjcaa
/- Paths of functions, printed by the explorer (Gx). No condition. -/
namespace Go.Proofs.Ytklbmkllepkjcaa
set_option maxRecDepth 100000
set_option linter.unusedVariables false
def ZBm(xs:List Int):AFrame:={ fn:=104,N:=8,env:=[(0,AV.list (.ints .i64 xs))],todo:=[.code a104.code],defs:=[],rnd:=none,ret:=false,res:=[ARes.tmp 2] }
def ZNe(xs:List Int):List AFrame:=[(ZBm xs)]
theorem Zze(xs:List Int):Zaq tab 104 [AV.list (.ints .i64 xs)]=some (ZBm xs):=rfl
def ZAA(A:Ar)(K:KT)(F:FT)(xs:List Int):Prop:=rB [Nat.blt 0 (A.len xs)] (rB [Nat.ble (0+A.len xs) 4294967296,List.all [] fun x=>AV.bx x&&Nat.beq (Zag A x) 1] (F (AV.row 0 0) (some { e:=3,sz:=1,r:=.ints .i64 xs })))
theorem ZGW{A:Ar}{K:KT}{F:FT}{M:MT}{xs:List Int} :Zaj A tab E0 104 K F M (.run 10 (.fy (.run 9 (.fn)))) (ZNe xs) []=ZAA A K F xs:=by kernel_rfl
def Ztk(cap:Nat):AFrame:={ fn:=104,N:=8,env:=[(0,AV.val (Go.Value.slice none 0 cap))],todo:=[.code a104.code],defs:=[],rnd:=none,ret:=false,res:=[ARes.tmp 2] }
def ZJj(cap:Nat):List AFrame:=[(Ztk cap)]
theorem ZuB(cap:Nat):Zaq tab 104 [AV.val (Go.Value.slice none 0 cap)]=some (Ztk cap):=rfl
def Ztz(A:Ar)(K:KT)(F:FT)(cap:Nat):Prop:=F (AV.nils) (none)
theorem ZEY{A:Ar}{K:KT}{F:FT}{M:MT}{cap:Nat} :Zaj A tab E0 104 K F M (.run 10 (.ty (.run 5 (.fn)))) (ZJj cap) []=Ztz A K F cap:=by kernel_rfl
def Zwk(ad:Go.Addr)(cap:Nat):AFrame:={ fn:=104,N:=8,env:=[(0,AV.val (Go.Value.slice (some ad) 0 cap))],todo:=[.code a104.code],defs:=[],rnd:=none,ret:=false,res:=[ARes.tmp 2] }
def ZJ6(ad:Go.Addr)(cap:Nat):List AFrame:=[(Zwk ad cap)]
theorem Zts(ad:Go.Addr)(cap:Nat):Zaq tab 104 [AV.val (Go.Value.slice (some ad) 0 cap)]=some (Zwk ad cap):=rfl
def Zvc(A:Ar)(K:KT)(F:FT)(ad:Go.Addr)(cap:Nat):Prop:=rB [List.all [] fun x=>AV.bx x&&Nat.beq (Zag A x) 1] (F (AV.row 0 0) (some { e:=3,sz:=1,r:=Row.gen [] }))
theorem ZFe{A:Ar}{K:KT}{F:FT}{M:MT}{ad:Go.Addr}{cap:Nat} :Zaj A tab E0 104 K F M (.run 10 (.fy (.run 9 (.fn)))) (ZJ6 ad cap) []=Zvc A K F ad cap:=by kernel_rfl
end Go.Proofs.Ytklbmkllepkjcaa
/- Contracts as a list. No condition. -/
namespace Go.Proofs.Ytklbmkllepkjcaa
theorem ZjG(xs:List Int)(h:xs.length≤1000000):Zai Try.prog 104 [.list (.ints .i64 xs)] (.row 0 0) (some ⟨3,1, .ints .i64 xs⟩):=by
 by_cases h0:xs=[]
 ·subst h0
  refine ZsD rfl fun ad cap=>?_
  cases ad with
  |none=>exact ZxA (r0:=.nils) (start (ZuB cap) fun C hC=>tgo hC Zzi ZEY (by simp[Ztz])) rfl rfl (by omega)
  |some ad=>exact Zw6 (r:=.gen []) (start (Zts ad cap) fun C hC=>tgo hC Zzi ZFe (by simp[Zvc])) (by omega) rfl
 ·have:=List.length_pos_iff.2 h0
  exact start (Zze xs) fun C hC=>tgo hC Zzi ZGW (by simp[ZAA];omega)
def k104:Ctr:=⟨104,0,fun _ a=>match a with |[.list (.ints .i64 xs)]=>some (decide (xs.length≤1000000), .row 0 0,some ⟨3,1, .ints .i64 xs⟩) |_=>none⟩
theorem ZDo:k104.OK Try.prog:=fun pa args r fr h=>by
 simp only[k104]at h
 split at h
 ·simp only[Option.some.injEq,Prod.mk.injEq,decide_eq_true_eq]at h
  obtain⟨h0,rfl,rfl⟩:=h
  exact ZjG _ h0
 ·cases h
def N0:List Ctr:=[k104]++E0
theorem Zbz:Zay Try.prog N0:=⟨ZDo,Zzi⟩
end Go.Proofs.Ytklbmkllepkjcaa
/- Paths of functions, printed by the explorer (Gx). No condition. -/
namespace Go.Proofs.Ytklbmkllepkjcaa
set_option maxRecDepth 100000
set_option linter.unusedVariables false
def ZF4(n lo hi:Int):AFrame:={ fn:=91,N:=15,env:=[(0,AV.int .i64 n),(1,AV.int .i64 lo),(2,AV.int .i64 hi)],todo:=[.code a91.code],defs:=[],rnd:=none,ret:=false,res:=[ARes.tmp 6] }
def ZPz(n lo hi:Int):List AFrame:=[(ZF4 n lo hi)]
theorem ZDB(n lo hi:Int):Zaq tab 91 [AV.int .i64 n,AV.int .i64 lo,AV.int .i64 hi]=some (ZF4 n lo hi):=rfl
def ZJb(A:Ar)(K:KT)(F:FT)(n lo hi:Int):Prop:=bB (A.le lo n) (F (AV.bool (A.le n hi)) (none)) (F (AV.bool false) (none))
theorem ZNf{A:Ar}{K:KT}{F:FT}{M:MT}{n lo hi:Int} :Zaj A tab N0 91 K F M (.run 10 (.tf (.ty (.ty (.ty (.run 4 (.fn))))) (.fy (.fy (.fy (.run 4 (.fn))))))) (ZPz n lo hi) []=ZJb A K F n lo hi:=by kernel_rfl
def ZJe(n lo hi:Int):AFrame:={ fn:=30,N:=15,env:=[(0,AV.int .i64 n),(1,AV.int .i64 lo),(2,AV.int .i64 hi)],todo:=[.code a30.code],defs:=[],rnd:=none,ret:=false,res:=[ARes.tmp 6] }
def ZQd(n lo hi:Int):List AFrame:=[(ZJe n lo hi)]
theorem ZCX(n lo hi:Int):Zaq tab 30 [AV.int .i64 n,AV.int .i64 lo,AV.int .i64 hi]=some (ZJe n lo hi):=rfl
def ZHE(A:Ar)(K:KT)(F:FT)(n lo hi:Int):Prop:=bB (A.le lo n) (F (AV.bool (A.le n hi)) (none)) (F (AV.bool false) (none))
theorem ZNc{A:Ar}{K:KT}{F:FT}{M:MT}{n lo hi:Int} :Zaj A tab N0 30 K F M (.run 10 (.tf (.ty (.ty (.ty (.run 4 (.fn))))) (.fy (.fy (.fy (.run 4 (.fn))))))) (ZQd n lo hi) []=ZHE A K F n lo hi:=by kernel_rfl
def ZJE(b:Bool)(e:Int):AFrame:={ fn:=85,N:=7,env:=[(0,AV.bool b),(1,AV.int .i64 e)],todo:=[.code a85.code],defs:=[],rnd:=none,ret:=false,res:=[ARes.tmp 4] }
def ZQD(b:Bool)(e:Int):List AFrame:=[(ZJE b e)]
theorem ZC1(b:Bool)(e:Int):Zaq tab 85 [AV.bool b,AV.int .i64 e]=some (ZJE b e):=rfl
def ZHd(A:Ar)(K:KT)(F:FT)(b:Bool)(e:Int):Prop:=bB (b) (F (AV.int .i64 0) (none)) (F (AV.int .i64 e) (none))
theorem ZLK{A:Ar}{K:KT}{F:FT}{M:MT}{b:Bool}{e:Int} :Zaj A tab N0 85 K F M (.run 9 (.tf (.run 5 (.fn)) (.run 7 (.fn)))) (ZQD b e) []=ZHd A K F b e:=by kernel_rfl
def ZHm(xs:List Int):AFrame:={ fn:=72,N:=15,env:=[(0,AV.list (.ints .i64 xs))],todo:=[.code a72.code],defs:=[],rnd:=none,ret:=false,res:=[ARes.tmp 2] }
def ZOP(xs:List Int):List AFrame:=[(ZHm xs)]
theorem ZC3(xs:List Int):Zaq tab 72 [AV.list (.ints .i64 xs)]=some (ZHm xs):=rfl
def ZjU(xs:List Int)(n0 n1:Int):List AFrame:=[{ fn:=72,N:=15,env:=[(5,AV.list (.ints .i64 xs)),(6,AV.int .i64 n0),(7,AV.int .i64 n1)],todo:=.code (ACode.gh [] ZJ0)::ZMB,defs:=[],rnd:=none,ret:=false,res:=[ARes.tmp 2] }]
def Zhj(xs:List Int)(n0 n1:Int):Zaa:=[]
abbrev Zli(xs:List Int)(n0 n1:Int):List AFrame×Zaa:=(ZjU xs n0 n1,Zhj xs n0 n1)
def ZH7(A:Ar)(K:KT)(F:FT)(xs:List Int):Prop:=K (Zli (xs) (A.int (A.len xs)) (0))
theorem ZMc{A:Ar}{K:KT}{F:FT}{M:MT}{xs:List Int} :Zaj A tab N0 72 K F M (.run 14 (.hd)) (ZOP xs) []=ZH7 A K F xs:=by kernel_rfl
def Ze8(A:Ar)(K:KT)(F:FT)(xs:List Int)(n0 n1:Int):Prop:=bB (A.lt n1 n0) (rB [Zae (Zae (A.le 0 n1) (Nat.blt (A.nat n1) (A.len xs))) true] (bB (A.not (A.eq (A.nth xs (A.nat n1)) 0)) (F (AV.int .i64 (A.nth xs (A.nat n1))) (none)) (rB [A.inR .i64 (A.add n1 1)] (K (Zli (xs) (n0) (A.add n1 1)))))) (F (AV.int .i64 0) (none))
theorem Zmh{A:Ar}{K:KT}{F:FT}{M:MT}{xs:List Int}{n0 n1:Int} :Zaj A tab N0 72 K F M (.run 6 (.tf (.run 14 (.tf (.run 6 (.fn)) (.run 8 (.hd)))) (.run 6 (.fn)))) (ZjU xs n0 n1) (Zhj xs n0 n1)=Ze8 A K F xs n0 n1:=by kernel_rfl
def ZHw(xs:List Int):AFrame:={ fn:=14,N:=6,env:=[(0,AV.list (.ints .i64 xs))],todo:=[.code a14.code],defs:=[],rnd:=none,ret:=false,res:=[ARes.tmp 2] }
def ZPR(xs:List Int):List AFrame:=[(ZHw xs)]
theorem ZCn(xs:List Int):Zaq tab 14 [AV.list (.ints .i64 xs)]=some (ZHw xs):=rfl
def ZFX(A:Ar)(K:KT)(F:FT)(xs:List Int):Prop:=rB [Nat.ble (0+A.len xs) 4294967296,List.all [] fun x=>AV.bx x&&Nat.beq (Zag A x) 1] (F (AV.row 0 0) (some { e:=3,sz:=1,r:=.ints .i64 xs }))
theorem ZL4{A:Ar}{K:KT}{F:FT}{M:MT}{xs:List Int} :Zaj A tab N0 14 K F M (.run 12 (.fn)) (ZPR xs) []=ZFX A K F xs:=by kernel_rfl
def ZIP(xs ys:List Int):AFrame:={ fn:=17,N:=26,env:=[(0,AV.list (.ints .i64 xs)),(1,AV.list (.ints .i64 ys))],todo:=[.code a17.code],defs:=[],rnd:=none,ret:=false,res:=[ARes.tmp 4] }
def ZPq(xs ys:List Int):List AFrame:=[(ZIP xs ys)]
theorem ZDP(xs ys:List Int):Zaq tab 17 [AV.list (.ints .i64 xs),AV.list (.ints .i64 ys)]=some (ZIP xs ys):=rfl
def Zkb(xs ys:List Int)(n0:Int):List AFrame:=[{ fn:=17,N:=26,env:=[(0,AV.list (.ints .i64 xs)),(1,AV.list (.ints .i64 ys)),(5,AV.int .i64 n0)],todo:=.code (ACode.gh [] ZHU)::ZMO,defs:=[],rnd:=none,ret:=false,res:=[ARes.tmp 4] }]
def ZhP(xs ys:List Int)(n0:Int):Zaa:=[]
abbrev Zl4(xs ys:List Int)(n0:Int):List AFrame×Zaa:=(Zkb xs ys n0,ZhP xs ys n0)
def ZCT(A:Ar)(K:KT)(F:FT)(xs ys:List Int):Prop:=bB (A.not (A.eq (A.int (A.len xs)) (A.int (A.len ys)))) (F (AV.bool false) (none)) (K (Zl4 (xs) (ys) (0)))
theorem ZL1{A:Ar}{K:KT}{F:FT}{M:MT}{xs ys:List Int} :Zaj A tab N0 17 K F M (.run 13 (.tf (.run 5 (.fn)) (.run 9 (.hd)))) (ZPq xs ys) []=ZCT A K F xs ys:=by kernel_rfl
def Zfg(A:Ar)(K:KT)(F:FT)(xs ys:List Int)(n0:Int):Prop:=bB (A.lt n0 (A.int (A.len xs))) (rB [Zae (Zae (A.le 0 n0) (Nat.blt (A.nat n0) (A.len ys))) true,Zae (Zae (A.le 0 n0) (Nat.blt (A.nat n0) (A.len xs))) true] (bB (A.not (A.eq (A.nth xs (A.nat n0)) (A.nth ys (A.nat n0)))) (F (AV.bool false) (none)) (rB [A.inR .i64 (A.add n0 1)] (K (Zl4 (xs) (ys) (A.add n0 1)))))) (F (AV.bool true) (none))
theorem ZlZ{A:Ar}{K:KT}{F:FT}{M:MT}{xs ys:List Int}{n0:Int} :Zaj A tab N0 17 K F M (.run 9 (.tf (.run 6 (.tf (.run 5 (.fn)) (.run 9 (.hd)))) (.run 6 (.fn)))) (Zkb xs ys n0) (ZhP xs ys n0)=Zfg A K F xs ys n0:=by kernel_rfl
def ZKD(xs:List Int):AFrame:={ fn:=33,N:=22,env:=[(0,AV.list (.ints .i64 xs))],todo:=[.code a33.code],defs:=[],rnd:=none,ret:=false,res:=[ARes.tmp 2] }
def ZQG(xs:List Int):List AFrame:=[(ZKD xs)]
theorem ZE7(xs:List Int):Zaq tab 33 [AV.list (.ints .i64 xs)]=some (ZKD xs):=rfl
def Zje(xs:List Int)(n0:Int):List AFrame:=[{ fn:=33,N:=22,env:=[(0,AV.list (.ints .i64 xs)),(3,AV.int .i64 n0)],todo:=.code (ACode.gh [] ZFR)::ZLo,defs:=[],rnd:=none,ret:=false,res:=[ARes.tmp 2] }]
def Zh9(xs:List Int)(n0:Int):Zaa:=[]
abbrev Zho(xs:List Int)(n0:Int):List AFrame×Zaa:=(Zje xs n0,Zh9 xs n0)
def ZJu(A:Ar)(K:KT)(F:FT)(xs:List Int):Prop:=K (Zho (xs) (0))
theorem ZMe{A:Ar}{K:KT}{F:FT}{M:MT}{xs:List Int} :Zaj A tab N0 33 K F M (.run 12 (.hd)) (ZQG xs) []=ZJu A K F xs:=by kernel_rfl
def Zde(A:Ar)(K:KT)(F:FT)(xs:List Int)(n0:Int):Prop:=bB (A.lt n0 (A.int (A.len xs))) (rB [Zae (Zae (A.le 0 n0) (Nat.blt (A.nat n0) (A.len xs))) true] (bB (A.not (A.eq (A.nth xs (A.nat n0)) 0)) (rB [Zae (Zae (A.le 0 n0) (Nat.blt (A.nat n0) (A.len xs))) true] (bB (A.not (A.eq (A.nth xs (A.nat n0)) 1)) (F (AV.bool false) (none)) (rB [A.inR .i64 (A.add n0 1)] (K (Zho (xs) (A.add n0 1)))))) (rB [A.inR .i64 (A.add n0 1)] (K (Zho (xs) (A.add n0 1)))))) (F (AV.bool true) (none))
theorem ZlA{A:Ar}{K:KT}{F:FT}{M:MT}{xs:List Int}{n0:Int} :Zaj A tab N0 33 K F M (.run 9 (.tf (.run 11 (.tf (.ty (.ty (.ty (.ty (.ty (.run 2 (.tf (.run 5 (.fn)) (.run 9 (.hd))))))))) (.fy (.fy (.fy (.fy (.fy (.run 2 (.fy (.run 9 (.hd))))))))))) (.run 6 (.fn)))) (Zje xs n0) (Zh9 xs n0)=Zde A K F xs n0:=by kernel_rfl
def ZGC(xs:List Int)(n:Int):AFrame:={ fn:=34,N:=18,env:=[(0,AV.list (.ints .i64 xs)),(1,AV.int .i64 n)],todo:=[.code a34.code],defs:=[],rnd:=none,ret:=false,res:=[ARes.tmp 4] }
def ZOV(xs:List Int)(n:Int):List AFrame:=[(ZGC xs n)]
theorem ZDV(xs:List Int)(n:Int):Zaq tab 34 [AV.list (.ints .i64 xs),AV.int .i64 n]=some (ZGC xs n):=rfl
def Zjw(xs:List Int)(n n0:Int):List AFrame:=[{ fn:=34,N:=18,env:=[(0,AV.list (.ints .i64 xs)),(1,AV.int .i64 n),(5,AV.int .i64 n0)],todo:=.code (ACode.gh [] ZGT)::ZLt,defs:=[],rnd:=none,ret:=false,res:=[ARes.tmp 4] }]
def ZhY(xs:List Int)(n n0:Int):Zaa:=[]
abbrev ZlV(xs:List Int)(n n0:Int):List AFrame×Zaa:=(Zjw xs n n0,ZhY xs n n0)
def ZHC(A:Ar)(K:KT)(F:FT)(xs:List Int)(n:Int):Prop:=K (ZlV (xs) (n) (0))
theorem ZMu{A:Ar}{K:KT}{F:FT}{M:MT}{xs:List Int}{n:Int} :Zaj A tab N0 34 K F M (.run 12 (.hd)) (ZOV xs n) []=ZHC A K F xs n:=by kernel_rfl
def Ze3(A:Ar)(K:KT)(F:FT)(xs:List Int)(n n0:Int):Prop:=bB (A.lt n0 (A.int (A.len xs))) (rB [Zae (Zae (A.le 0 n0) (Nat.blt (A.nat n0) (A.len xs))) true] (bB (A.eq (A.nth xs (A.nat n0)) n) (F (AV.bool true) (none)) (rB [A.inR .i64 (A.add n0 1)] (K (ZlV (xs) (n) (A.add n0 1)))))) (F (AV.bool false) (none))
theorem Zme{A:Ar}{K:KT}{F:FT}{M:MT}{xs:List Int}{n n0:Int} :Zaj A tab N0 34 K F M (.run 9 (.tf (.run 12 (.tf (.run 5 (.fn)) (.run 9 (.hd)))) (.run 6 (.fn)))) (Zjw xs n n0) (ZhY xs n n0)=Ze3 A K F xs n n0:=by kernel_rfl
def ZIU(a b:Int):AFrame:={ fn:=71,N:=23,env:=[(0,AV.int .i64 a),(1,AV.int .i64 b)],todo:=[.code a71.code],defs:=[],rnd:=none,ret:=false,res:=[ARes.tmp 4] }
def ZQv(a b:Int):List AFrame:=[(ZIU a b)]
theorem ZDg(a b:Int):Zaq tab 71 [AV.int .i64 a,AV.int .i64 b]=some (ZIU a b):=rfl
def Zkd(n0 n1 n2:Int):List AFrame:=[{ fn:=71,N:=23,env:=[(0,AV.int .i64 n0),(1,AV.int .i64 n1),(5,AV.int .i64 n2)],todo:=.code (ACode.gh [] ZHi)::ZMN,defs:=[],rnd:=none,ret:=false,res:=[ARes.tmp 4] }]
def Zhi(n0 n1 n2:Int):Zaa:=[]
abbrev Zdr(n0 n1 n2:Int):List AFrame×Zaa:=(Zkd n0 n1 n2,Zhi n0 n1 n2)
def ZJF(A:Ar)(K:KT)(F:FT)(a b:Int):Prop:=K (Zdr (a) (b) (0))
theorem ZMK{A:Ar}{K:KT}{F:FT}{M:MT}{a b:Int} :Zaj A tab N0 71 K F M (.run 12 (.hd)) (ZQv a b) []=ZJF A K F a b:=by kernel_rfl
def Ze1(A:Ar)(K:KT)(F:FT)(n0 n1 n2:Int):Prop:=bB (A.lt 0 n1) (bB (A.eq (A.bits Go.BinOp.and .i64 n1 1) 1) (rB [Zae (Zae (A.le 0 1) (Nat.blt (A.nat 1) 64)) (A.inR .i64 (A.shl n0 1))] (bB (A.le 16 (A.shl n0 1)) (rB [Zae (A.le 0 1) (Nat.blt (A.nat 1) 64)] (K (Zdr (A.bits Go.BinOp.xor .i64 (A.shl n0 1) 19) (A.shr n1 1) (A.bits Go.BinOp.xor .i64 n2 n0)))) (rB [Zae (A.le 0 1) (Nat.blt (A.nat 1) 64)] (K (Zdr (A.shl n0 1) (A.shr n1 1) (A.bits Go.BinOp.xor .i64 n2 n0)))))) (rB [Zae (Zae (A.le 0 1) (Nat.blt (A.nat 1) 64)) (A.inR .i64 (A.shl n0 1))] (bB (A.le 16 (A.shl n0 1)) (rB [Zae (A.le 0 1) (Nat.blt (A.nat 1) 64)] (K (Zdr (A.bits Go.BinOp.xor .i64 (A.shl n0 1) 19) (A.shr n1 1) (n2)))) (rB [Zae (A.le 0 1) (Nat.blt (A.nat 1) 64)] (K (Zdr (A.shl n0 1) (A.shr n1 1) (n2))))))) (F (AV.int .i64 n2) (none))
theorem Zlu{A:Ar}{K:KT}{F:FT}{M:MT}{n0 n1 n2:Int} :Zaj A tab N0 71 K F M (.run 7 (.tf (.run 10 (.tf (.run 17 (.tf (.run 13 (.hd)) (.run 9 (.hd)))) (.run 12 (.tf (.run 13 (.hd)) (.run 9 (.hd)))))) (.run 7 (.fn)))) (Zkd n0 n1 n2) (Zhi n0 n1 n2)=Ze1 A K F n0 n1 n2:=by kernel_rfl
def ZHA(a b:Int):AFrame:={ fn:=89,N:=10,env:=[(0,AV.int .i64 a),(1,AV.int .i64 b)],todo:=[.code a89.code],defs:=[],rnd:=none,ret:=false,res:=[ARes.tmp 4] }
def ZPS(a b:Int):List AFrame:=[(ZHA a b)]
theorem ZBE(a b:Int):Zaq tab 89 [AV.int .i64 a,AV.int .i64 b]=some (ZHA a b):=rfl
def ZFB(A:Ar)(K:KT)(F:FT)(a b:Int):Prop:=bB (A.eq a 0) (F (AV.int .i64 b) (none)) (rB [A.inR .i64 (A.neg b)] (F (AV.int .i64 (A.neg b)) (none)))
theorem ZMl{A:Ar}{K:KT}{F:FT}{M:MT}{a b:Int} :Zaj A tab N0 89 K F M (.run 10 (.tf (.run 6 (.fn)) (.run 8 (.fn)))) (ZPS a b) []=ZFB A K F a b:=by kernel_rfl
def ZFK(m g0 g1:Int)(xs:List Int):AFrame:={ fn:=84,N:=7,env:=[(0,AV.agg (Row.gen [.int .i64 m, .int .i64 g0, .int .i64 g1, .list (.ints .i64 xs)]))],todo:=[.code a84.code],defs:=[],rnd:=none,ret:=false,res:=[ARes.tmp 2] }
def ZPD(m g0 g1:Int)(xs:List Int):List AFrame:=[(ZFK m g0 g1 xs)]
theorem ZCY(m g0 g1:Int)(xs:List Int):Zaq tab 84 [AV.agg (Row.gen [.int .i64 m, .int .i64 g0, .int .i64 g1, .list (.ints .i64 xs)])]=some (ZFK m g0 g1 xs):=rfl
def ZGB(A:Ar)(K:KT)(F:FT)(m g0 g1:Int)(xs:List Int):Prop:=rB [Zae (A.not (A.eq 2 0)) (A.inR .i64 (A.quo (A.int (A.len xs)) 2))] (F (AV.int .i64 (A.quo (A.int (A.len xs)) 2)) (none))
theorem ZMX{A:Ar}{K:KT}{F:FT}{M:MT}{m g0 g1:Int}{xs:List Int} :Zaj A tab N0 84 K F M (.run 14 (.fn)) (ZPD m g0 g1 xs) []=ZGB A K F m g0 g1 xs:=by kernel_rfl
def ZIR(m g0 g1:Int)(xs:List Int):AFrame:={ fn:=86,N:=7,env:=[(0,AV.agg (Row.gen [.int .i64 m, .int .i64 g0, .int .i64 g1, .list (.ints .i64 xs)]))],todo:=[.code a86.code],defs:=[],rnd:=none,ret:=false,res:=[ARes.tmp 2] }
def ZPT(m g0 g1:Int)(xs:List Int):List AFrame:=[(ZIR m g0 g1 xs)]
theorem ZBH(m g0 g1:Int)(xs:List Int):Zaq tab 86 [AV.agg (Row.gen [.int .i64 m, .int .i64 g0, .int .i64 g1, .list (.ints .i64 xs)])]=some (ZIR m g0 g1 xs):=rfl
def ZKU(A:Ar)(K:KT)(F:FT)(m g0 g1:Int)(xs:List Int):Prop:=rB [Zae (Zae (A.le 0 m) (Nat.blt (A.nat m) 64)) (A.inR .i64 (A.shl 1 m))] (F (AV.int .i64 (A.shl 1 m)) (none))
theorem ZLQ{A:Ar}{K:KT}{F:FT}{M:MT}{m g0 g1:Int}{xs:List Int} :Zaj A tab N0 86 K F M (.run 14 (.fn)) (ZPT m g0 g1 xs) []=ZKU A K F m g0 g1 xs:=by kernel_rfl
def ZH9(xs:List Int):AFrame:={ fn:=57,N:=21,env:=[(0,AV.list (.ints .i64 xs))],todo:=[.code a57.code],defs:=[],rnd:=none,ret:=false,res:=[ARes.tmp 2] }
def ZP5(xs:List Int):List AFrame:=[(ZH9 xs)]
theorem ZB7(xs:List Int):Zaq tab 57 [AV.list (.ints .i64 xs)]=some (ZH9 xs):=rfl
def Zjc(xs:List Int)(n0:Int)(l1:List Int):List AFrame:=[{ fn:=57,N:=21,env:=[(0,AV.list (.ints .i64 xs)),(3,AV.row 57020 0),(4,AV.int .i64 n0)],todo:=.code (ACode.gh [] ZIB)::ZNI,defs:=[],rnd:=none,ret:=false,res:=[ARes.tmp 2] }]
def Zh7(xs:List Int)(n0:Int)(l1:List Int):Zaa:=[(57020,{ base:=0,blks:=[Blk.row 3 1 (.ints .i64 l1)] })]
abbrev Zlg(xs:List Int)(n0:Int)(l1:List Int):List AFrame×Zaa:=(Zjc xs n0 l1,Zh7 xs n0 l1)
def ZGg(A:Ar)(K:KT)(F:FT)(xs:List Int):Prop:=K (Zlg (xs) (0) ([]))
theorem ZNu{A:Ar}{K:KT}{F:FT}{M:MT}{xs:List Int} :Zaj A tab N0 57 K F M (.run 17 (.hd)) (ZP5 xs) []=ZGg A K F xs:=by kernel_rfl
def ZhM(A:Ar)(K:KT)(F:FT)(xs:List Int)(n0:Int)(l1:List Int):Prop:=bB (A.lt n0 (A.int (A.len xs))) (rB [A.inR .i64 (A.add n0 1),Nat.ble (A.len l1+A.len [A.sub 1 (A.mul 2 (A.nth xs (A.nat n0)))]) 4294967296,List.all [AV.int .i64 (A.sub 1 (A.mul 2 (A.nth xs (A.nat n0))))] fun x=>AV.bx x&&Nat.beq (Zag A x) 1,A.inR .i64 (A.sub 1 (A.mul 2 (A.nth xs (A.nat n0)))),A.inR .i64 (A.mul 2 (A.nth xs (A.nat n0))),Zae (Zae (A.le 0 n0) (Nat.blt (A.nat n0) (A.len xs))) true] (K (Zlg (xs) (A.add n0 1) (A.app l1 [A.sub 1 (A.mul 2 (A.nth xs (A.nat n0)))])))) (F (AV.row 0 0) (some { e:=3,sz:=1,r:=.ints .i64 l1 }))
theorem Zlm{A:Ar}{K:KT}{F:FT}{M:MT}{xs:List Int}{n0:Int}{l1:List Int} :Zaj A tab N0 57 K F M (.run 9 (.tf (.run 23 (.hd)) (.run 7 (.fn)))) (Zjc xs n0 l1) (Zh7 xs n0 l1)=ZhM A K F xs n0 l1:=by kernel_rfl
end Go.Proofs.Ytklbmkllepkjcaa
/- Contracts as a list. No condition. -/
namespace Go.Proofs.Ytklbmkllepkjcaa
def Zal(n a b:Int):Bool:=decide (a≤n∧n≤b)
def ZaD:List Int→Int
 |[]=>0
 |x::xs=>if x=0 then ZaD xs else x
def Zam(b:Bool)(e:Int):Int:=if b=true then 0 else e
theorem Zfk{xs:List Int}{k:Nat}(h:k<xs.length):xs.drop k=xs.getD k 0::xs.drop (k+1):=by
 rw[List.drop_eq_getElem_cons h,List.getD_eq_getElem?_getD,List.getElem?_eq_getElem h];rfl
theorem Zot{α:Type}{xs:List α}{k:Nat}{d:α}(h:k<xs.length):xs.take (k+1)=xs.take k++[xs.getD k d]:=by
 rw[List.take_add_one,List.getElem?_eq_getElem h,List.getD_eq_getElem?_getD,List.getElem?_eq_getElem h];rfl
theorem Zbq{α:Type}{xs:List α}{n:Nat}{d:α}(h:n<xs.length):xs.getD n d∈xs:=by
 rw[List.getD_eq_getElem?_getD,List.getElem?_eq_getElem h];exact List.getElem_mem h
def Zbd:List Int→List Int→Int
 |x::xs,y::ys=>(if x=y then 0 else 1)+Zbd xs ys
 |_,_=>0
theorem ZqQ:∀xs ys:List Int,0≤Zbd xs ys∧Zbd xs ys≤xs.length
 |[],_=>by simp[Zbd]
 |_::_,[]=>by simp[Zbd];omega
 |x::xs,y::ys=>by
  have:=ZqQ xs ys
  rw[Zbd];split<;>simp<;>omega
def Zax(xs:List Int):Bool:=xs.all fun x=>decide (x=0∨x=1)
section
variable {C:Ctx}(hC:C.P=Try.prog)
include hC
theorem ZoB(xs ys:List Int)(hl:xs.length≤1000000∧xs.length=ys.length):∀m k:Nat,k+m=xs.length→Ev C (Zkb xs ys k) (ZhP xs ys k) (ZaI 17 (.bool (decide (xs.drop k=ys.drop k))) none)
 |0,k,hk=>tgo hC Zbz ZlZ (by
  rw[List.drop_of_length_le (by omega),List.drop_of_length_le (by omega)]
  simp[Zfg,show ¬(k:Int)<xs.length by omega])
 |m+1,k,hk=>by
  have ih:=ZoB xs ys hl m (k+1) (by omega)
  rw[Zfk (show k<xs.length by omega),Zfk (show k<ys.length by omega)]
  refine tgo hC Zbz ZlZ ?_
  by_cases h:xs.getD k 0=ys.getD k 0
  ·simp[-List.getD_eq_getElem?_getD,Zfg,show(k:Int)<xs.length by omega,show k<xs.length by omega,show k<ys.length by omega,h]
   exact⟨by omega,by simpa using ih⟩
  ·simp[-List.getD_eq_getElem?_getD,Zfg,show(k:Int)<xs.length by omega,show k<xs.length by omega,show k<ys.length by omega,h]
theorem Zij(xs:List Int)(hl:xs.length≤1000000):∀m k:Nat,k+m=xs.length→Ev C (ZjU xs xs.length k) (Zhj xs xs.length k) (ZaI 72 (.int .i64 (ZaD (xs.drop k))) none)
 |0,k,hk=>tgo hC Zbz Zmh (by
  rw[List.drop_of_length_le (by omega)]
  simp[Ze8,show ¬(k:Int)<xs.length by omega,ZaD])
 |m+1,k,hk=>by
  have ih:=Zij xs hl m (k+1) (by omega)
  have hlt:(k:Int)<xs.length:=by omega
  have hlt2:k<xs.length:=by omega
  rw[Zfk hlt2,ZaD]
  refine tgo hC Zbz Zmh ?_
  by_cases h:xs.getD k 0=0
  ·simp[-List.getD_eq_getElem?_getD,Ze8,hlt,hlt2,h]
   exact⟨by omega,by simpa using ih⟩
  ·simp[-List.getD_eq_getElem?_getD,Ze8,hlt,hlt2,h]
theorem ZqJ(xs:List Int)(n:Int)(hl:xs.length≤1000000):∀m k:Nat,k+m=xs.length→Ev C (Zjw xs n k) (ZhY xs n k) (ZaI 34 (.bool (decide (n∈xs.drop k))) none)
 |0,k,hk=>tgo hC Zbz Zme (by
  rw[List.drop_of_length_le (by omega)]
  simp[Ze3,show ¬(k:Int)<xs.length by omega])
 |m+1,k,hk=>by
  have ih:=ZqJ xs n hl m (k+1) (by omega)
  have hlt:(k:Int)<xs.length:=by omega
  have hlt2:k<xs.length:=by omega
  rw[Zfk hlt2]
  refine tgo hC Zbz Zme ?_
  by_cases h:xs.getD k 0=n
  ·simp[-List.getD_eq_getElem?_getD,Ze3,hlt,hlt2,h]
  ·have h2:¬n=xs.getD k 0:=fun e=>h e.symm
   simp[-List.getD_eq_getElem?_getD,Ze3,hlt,hlt2,h,h2]
   exact⟨by omega,by simpa using ih⟩
theorem ZoF(xs:List Int)(hl:xs.length≤1000000):∀m k:Nat,k+m=xs.length→Ev C (Zje xs k) (Zh9 xs k) (ZaI 33 (.bool (Zax (xs.drop k))) none)
 |0,k,hk=>tgo hC Zbz ZlA (by
  rw[List.drop_of_length_le (by omega)]
  simp[Zde,show ¬(k:Int)<xs.length by omega,Zax])
 |m+1,k,hk=>by
  have ih:=ZoF xs hl m (k+1) (by omega)
  have hlt:(k:Int)<xs.length:=by omega
  have hlt2:k<xs.length:=by omega
  have e:Zax (xs.drop k)=(decide (xs.getD k 0=0∨xs.getD k 0=1)&&Zax (xs.drop (k+1))):=by rw[Zfk hlt2];rfl
  rw[e]
  refine tgo hC Zbz ZlA ?_
  by_cases h:xs.getD k 0=0
  ·simp[-List.getD_eq_getElem?_getD,Zde,hlt,hlt2,h]
   exact⟨by omega,by simpa using ih⟩
  ·by_cases h1:xs.getD k 0=1
   ·simp[-List.getD_eq_getElem?_getD,Zde,hlt,hlt2,h1]
    exact⟨by omega,by simpa using ih⟩
   ·simp[-List.getD_eq_getElem?_getD,Zde,hlt,hlt2,h,h1]
theorem Zk6(xs:List Int)(hl:xs.length≤1000000)(hb:Zax xs=true):∀m k:Nat,k+m=xs.length→Ev C (Zjc xs k ((xs.take k).map fun x=>1-2*x)) (Zh7 xs k ((xs.take k).map fun x=>1-2*x)) (ZaI 57 (.row 0 0) (some ⟨3,1, .ints .i64 (xs.map fun x=>1-2*x)⟩))
 |0,k,hk=>tgo hC Zbz Zlm (by
  rw[List.take_of_length_le (by omega)]
  simp[ZhM,show ¬(k:Int)<xs.length by omega])
 |m+1,k,hk=>by
  have ih:=Zk6 xs hl hb m (k+1) (by omega)
  have hlt:(k:Int)<xs.length:=by omega
  have hlt2:k<xs.length:=by omega
  have hx:xs.getD k 0=0∨xs.getD k 0=1:=of_decide_eq_true (List.all_eq_true.1 hb _ (Zbq hlt2))
  rw[Zot (d:=0) hlt2,List.map_append]at ih
  refine tgo hC Zbz Zlm ?_
  simp[-List.getD_eq_getElem?_getD, -List.map_take,ZhM,hlt,hlt2,AV.bx,Zag]
  exact⟨by omega,by simpa[-List.map_take]using ih⟩
end
theorem Zpi(a b c:Int):Zai Try.prog 91 [.int .i64 a, .int .i64 b, .int .i64 c] (.bool (Zal a b c)) none:=
 start (ZDB a b c) fun C hC=>tgo hC Zbz ZNf (by by_cases h:b≤a<;>simp[ZJb,h,Zal])
theorem Zpz(a b c:Int):Zai Try.prog 30 [.int .i64 a, .int .i64 b, .int .i64 c] (.bool (Zal a b c)) none:=
 start (ZCX a b c) fun C hC=>tgo hC Zbz ZNc (by by_cases h:b≤a<;>simp[ZHE,h,Zal])
theorem Zpg(b:Bool)(e:Int):Zai Try.prog 85 [.bool b, .int .i64 e] (.int .i64 (Zam b e)) none:=
 start (ZC1 b e) fun C hC=>tgo hC Zbz ZLK (by cases b<;>simp[ZHd,Zam])
theorem Zs2(xs:List Int)(hl:xs.length≤1000000):Zai Try.prog 72 [.list (.ints .i64 xs)] (.int .i64 (ZaD xs)) none:=
 start (ZC3 xs) fun C hC=>tgo hC Zbz ZMc (by
  have:=Zij hC xs hl xs.length 0 (by omega)
  simp[ZH7]
  simpa using this)
theorem ZnA(xs:List Int)(hl:xs.length≤1000000):Zai Try.prog 14 [.list (.ints .i64 xs)] (.row 0 0) (some ⟨3,1, .ints .i64 xs⟩):=
 start (ZCn xs) fun C hC=>tgo hC Zbz ZL4 (by simp[ZFX];omega)
theorem Zwc(xs ys:List Int)(hl:xs.length≤1000000):Zai Try.prog 17 [.list (.ints .i64 xs), .list (.ints .i64 ys)] (.bool (decide (xs=ys))) none:=
 start (ZDP xs ys) fun C hC=>tgo hC Zbz ZL1 (by
  by_cases h:xs.length=ys.length
  ·simp[ZCT,h]
   have:=ZoB hC xs ys ⟨hl,h⟩ xs.length 0 (by omega)
   simpa using this
  ·have:xs≠ys:=fun e=>h (by rw[e])
   simp[ZCT,this,show ¬((xs.length:Int)=ys.length) by omega])
theorem Zwh(xs:List Int)(hl:xs.length≤1000000):Zai Try.prog 33 [.list (.ints .i64 xs)] (.bool (Zax xs)) none:=
 start (ZE7 xs) fun C hC=>tgo hC Zbz ZMe (by
  have:=ZoF hC xs hl xs.length 0 (by omega)
  simp[ZJu]
  simpa using this)
theorem ZwY(xs:List Int)(n:Int)(hl:xs.length≤1000000):Zai Try.prog 34 [.list (.ints .i64 xs), .int .i64 n] (.bool (decide (n∈xs))) none:=
 start (ZDV xs n) fun C hC=>tgo hC Zbz ZMu (by
  have:=ZqJ hC xs n hl xs.length 0 (by omega)
  simp[ZHC]
  simpa using this)
theorem ZsT(xs:List Int)(hl:xs.length≤1000000∧Zax xs=true):Zai Try.prog 57 [.list (.ints .i64 xs)] (.row 0 0) (some ⟨3,1, .ints .i64 (xs.map fun x=>1-2*x)⟩):=
 start (ZB7 xs) fun C hC=>tgo hC Zbz ZNu (by
  have:=Zk6 hC xs hl.1 hl.2 xs.length 0 (by omega)
  simp[ZGg]
  simpa using this)
def coI(a b:Int):Int:=if a=0 then b else -b
theorem ZDz(a b:Int)(h: -1000000≤b∧b≤1000000):Zai Try.prog 89 [.int .i64 a, .int .i64 b] (.int .i64 (coI a b)) none:=
 start (ZBE a b) fun C hC=>tgo hC Zbz ZMl (by
  by_cases h:a=0<;>simp[ZFB,h,coI];omega)
def k91:Ctr:=⟨91,0,fun _ a=>match a with |[.int .i64 a, .int .i64 b, .int .i64 c]=>some (true, .bool (Zal a b c),none) |_=>none⟩
theorem ZGF:k91.OK Try.prog:=fun pa args r fr h=>by
 simp only[k91]at h
 split at h
 ·cases h
  exact Zpi _ _ _
 ·cases h
def k30:Ctr:=⟨30,0,fun _ a=>match a with |[.int .i64 a, .int .i64 b, .int .i64 c]=>some (true, .bool (Zal a b c),none) |_=>none⟩
theorem ZIu:k30.OK Try.prog:=fun pa args r fr h=>by
 simp only[k30]at h
 split at h
 ·cases h
  exact Zpz _ _ _
 ·cases h
def k85:Ctr:=⟨85,0,fun _ a=>match a with |[.bool b, .int .i64 e]=>some (true, .int .i64 (Zam b e),none) |_=>none⟩
theorem ZHG:k85.OK Try.prog:=fun pa args r fr h=>by
 simp only[k85]at h
 split at h
 ·cases h
  exact Zpg _ _
 ·cases h
def k72:Ctr:=⟨72,0,fun _ a=>match a with |[.list (.ints .i64 xs)]=>some (decide (xs.length≤1000000), .int .i64 (ZaD xs),none) |_=>none⟩
theorem ZKu:k72.OK Try.prog:=fun pa args r fr h=>by
 simp only[k72]at h
 split at h
 ·simp only[Option.some.injEq,Prod.mk.injEq,decide_eq_true_eq]at h
  obtain⟨h0,rfl,rfl⟩:=h
  exact Zs2 _ h0
 ·cases h
def k14:Ctr:=⟨14,0,fun _ a=>match a with |[.list (.ints .i64 xs)]=>some (decide (xs.length≤1000000), .row 0 0,some ⟨3,1, .ints .i64 xs⟩) |_=>none⟩
theorem ZAL:k14.OK Try.prog:=fun pa args r fr h=>by
 simp only[k14]at h
 split at h
 ·simp only[Option.some.injEq,Prod.mk.injEq,decide_eq_true_eq]at h
  obtain⟨h0,rfl,rfl⟩:=h
  exact ZnA _ h0
 ·cases h
def k17:Ctr:=⟨17,0,fun _ a=>match a with |[.list (.ints .i64 xs), .list (.ints .i64 ys)]=>some (decide (xs.length≤1000000), .bool (decide (xs=ys)),none) |_=>none⟩
theorem ZKn:k17.OK Try.prog:=fun pa args r fr h=>by
 simp only[k17]at h
 split at h
 ·simp only[Option.some.injEq,Prod.mk.injEq,decide_eq_true_eq]at h
  obtain⟨h0,rfl,rfl⟩:=h
  exact Zwc _ _ h0
 ·cases h
def k33:Ctr:=⟨33,0,fun _ a=>match a with |[.list (.ints .i64 xs)]=>some (decide (xs.length≤1000000), .bool (Zax xs),none) |_=>none⟩
theorem ZHR:k33.OK Try.prog:=fun pa args r fr h=>by
 simp only[k33]at h
 split at h
 ·simp only[Option.some.injEq,Prod.mk.injEq,decide_eq_true_eq]at h
  obtain⟨h0,rfl,rfl⟩:=h
  exact Zwh _ h0
 ·cases h
def k34:Ctr:=⟨34,0,fun _ a=>match a with |[.list (.ints .i64 xs), .int .i64 n]=>some (decide (xs.length≤1000000), .bool (decide (n∈xs)),none) |_=>none⟩
theorem ZKT:k34.OK Try.prog:=fun pa args r fr h=>by
 simp only[k34]at h
 split at h
 ·simp only[Option.some.injEq,Prod.mk.injEq,decide_eq_true_eq]at h
  obtain⟨h0,rfl,rfl⟩:=h
  exact ZwY _ _ h0
 ·cases h
def k57:Ctr:=⟨57,0,fun _ a=>match a with |[.list (.ints .i64 xs)]=>some (decide (xs.length≤1000000∧Zax xs=true), .row 0 0,some ⟨3,1, .ints .i64 (xs.map fun x=>1-2*x)⟩) |_=>none⟩
theorem ZKg:k57.OK Try.prog:=fun pa args r fr h=>by
 simp only[k57]at h
 split at h
 ·simp only[Option.some.injEq,Prod.mk.injEq,decide_eq_true_eq]at h
  obtain⟨h0,rfl,rfl⟩:=h
  exact ZsT _ h0
 ·cases h
def k89:Ctr:=⟨89,0,fun _ a=>match a with |[.int .i64 a, .int .i64 b]=>some (decide (-1000000≤b∧b≤1000000), .int .i64 (coI a b),none) |_=>none⟩
theorem ZJl:k89.OK Try.prog:=fun pa args r fr h=>by
 simp only[k89]at h
 split at h
 ·simp only[Option.some.injEq,Prod.mk.injEq,decide_eq_true_eq]at h
  obtain⟨h0,rfl,rfl⟩:=h
  exact ZDz _ _ h0
 ·cases h
def N1:List Ctr:=[k91,k30,k85,k72,k14,k17,k33,k34,k57,k89]++N0
theorem ZoM:Zay Try.prog N1:=⟨ZGF,⟨ZIu,⟨ZHG,⟨ZKu,⟨ZAL,⟨ZKn,⟨ZHR,⟨ZKT,⟨ZKg,⟨ZJl,Zbz⟩⟩⟩⟩⟩⟩⟩⟩⟩⟩
end Go.Proofs.Ytklbmkllepkjcaa
/- Paths of functions, printed by the explorer (Gx). No condition. -/
namespace Go.Proofs.Ytklbmkllepkjcaa
set_option maxRecDepth 100000
set_option linter.unusedVariables false
def ZzZ(n:Int):AFrame:={ fn:=113,N:=8,env:=[(0,AV.int .u64 n)],todo:=[.code a113.code],defs:=[],rnd:=none,ret:=false,res:=[ARes.tmp 2] }
def ZNa(n:Int):List AFrame:=[(ZzZ n)]
theorem Zyt(n:Int):Zaq tab 113 [AV.int .u64 n]=some (ZzZ n):=rfl
def ZzS(A:Ar)(K:KT)(F:FT)(n:Int):Prop:=rB [A.inR .i64 (A.add (A.add (A.add (A.bits Go.BinOp.and .u64 (A.add (A.shr (A.add (A.bits Go.BinOp.and .u64 (A.shr (A.add (A.bits Go.BinOp.and .u64 (A.shr n 1) 6148914691236517205) (A.bits Go.BinOp.and .u64 n 6148914691236517205)) 2) 3689348814741910323) (A.bits Go.BinOp.and .u64 (A.add (A.bits Go.BinOp.and .u64 (A.shr n 1) 6148914691236517205) (A.bits Go.BinOp.and .u64 n 6148914691236517205)) 3689348814741910323)) 4) (A.add (A.bits Go.BinOp.and .u64 (A.shr (A.add (A.bits Go.BinOp.and .u64 (A.shr n 1) 6148914691236517205) (A.bits Go.BinOp.and .u64 n 6148914691236517205)) 2) 3689348814741910323) (A.bits Go.BinOp.and .u64 (A.add (A.bits Go.BinOp.and .u64 (A.shr n 1) 6148914691236517205) (A.bits Go.BinOp.and .u64 n 6148914691236517205)) 3689348814741910323))) 1085102592571150095) (A.shr (A.bits Go.BinOp.and .u64 (A.add (A.shr (A.add (A.bits Go.BinOp.and .u64 (A.shr (A.add (A.bits Go.BinOp.and .u64 (A.shr n 1) 6148914691236517205) (A.bits Go.BinOp.and .u64 n 6148914691236517205)) 2) 3689348814741910323) (A.bits Go.BinOp.and .u64 (A.add (A.bits Go.BinOp.and .u64 (A.shr n 1) 6148914691236517205) (A.bits Go.BinOp.and .u64 n 6148914691236517205)) 3689348814741910323)) 4) (A.add (A.bits Go.BinOp.and .u64 (A.shr (A.add (A.bits Go.BinOp.and .u64 (A.shr n 1) 6148914691236517205) (A.bits Go.BinOp.and .u64 n 6148914691236517205)) 2) 3689348814741910323) (A.bits Go.BinOp.and .u64 (A.add (A.bits Go.BinOp.and .u64 (A.shr n 1) 6148914691236517205) (A.bits Go.BinOp.and .u64 n 6148914691236517205)) 3689348814741910323))) 1085102592571150095) 8)) (A.shr (A.add (A.bits Go.BinOp.and .u64 (A.add (A.shr (A.add (A.bits Go.BinOp.and .u64 (A.shr (A.add (A.bits Go.BinOp.and .u64 (A.shr n 1) 6148914691236517205) (A.bits Go.BinOp.and .u64 n 6148914691236517205)) 2) 3689348814741910323) (A.bits Go.BinOp.and .u64 (A.add (A.bits Go.BinOp.and .u64 (A.shr n 1) 6148914691236517205) (A.bits Go.BinOp.and .u64 n 6148914691236517205)) 3689348814741910323)) 4) (A.add (A.bits Go.BinOp.and .u64 (A.shr (A.add (A.bits Go.BinOp.and .u64 (A.shr n 1) 6148914691236517205) (A.bits Go.BinOp.and .u64 n 6148914691236517205)) 2) 3689348814741910323) (A.bits Go.BinOp.and .u64 (A.add (A.bits Go.BinOp.and .u64 (A.shr n 1) 6148914691236517205) (A.bits Go.BinOp.and .u64 n 6148914691236517205)) 3689348814741910323))) 1085102592571150095) (A.shr (A.bits Go.BinOp.and .u64 (A.add (A.shr (A.add (A.bits Go.BinOp.and .u64 (A.shr (A.add (A.bits Go.BinOp.and .u64 (A.shr n 1) 6148914691236517205) (A.bits Go.BinOp.and .u64 n 6148914691236517205)) 2) 3689348814741910323) (A.bits Go.BinOp.and .u64 (A.add (A.bits Go.BinOp.and .u64 (A.shr n 1) 6148914691236517205) (A.bits Go.BinOp.and .u64 n 6148914691236517205)) 3689348814741910323)) 4) (A.add (A.bits Go.BinOp.and .u64 (A.shr (A.add (A.bits Go.BinOp.and .u64 (A.shr n 1) 6148914691236517205) (A.bits Go.BinOp.and .u64 n 6148914691236517205)) 2) 3689348814741910323) (A.bits Go.BinOp.and .u64 (A.add (A.bits Go.BinOp.and .u64 (A.shr n 1) 6148914691236517205) (A.bits Go.BinOp.and .u64 n 6148914691236517205)) 3689348814741910323))) 1085102592571150095) 8)) 16)) (A.shr (A.add (A.add (A.bits Go.BinOp.and .u64 (A.add (A.shr (A.add (A.bits Go.BinOp.and .u64 (A.shr (A.add (A.bits Go.BinOp.and .u64 (A.shr n 1) 6148914691236517205) (A.bits Go.BinOp.and .u64 n 6148914691236517205)) 2) 3689348814741910323) (A.bits Go.BinOp.and .u64 (A.add (A.bits Go.BinOp.and .u64 (A.shr n 1) 6148914691236517205) (A.bits Go.BinOp.and .u64 n 6148914691236517205)) 3689348814741910323)) 4) (A.add (A.bits Go.BinOp.and .u64 (A.shr (A.add (A.bits Go.BinOp.and .u64 (A.shr n 1) 6148914691236517205) (A.bits Go.BinOp.and .u64 n 6148914691236517205)) 2) 3689348814741910323) (A.bits Go.BinOp.and .u64 (A.add (A.bits Go.BinOp.and .u64 (A.shr n 1) 6148914691236517205) (A.bits Go.BinOp.and .u64 n 6148914691236517205)) 3689348814741910323))) 1085102592571150095) (A.shr (A.bits Go.BinOp.and .u64 (A.add (A.shr (A.add (A.bits Go.BinOp.and .u64 (A.shr (A.add (A.bits Go.BinOp.and .u64 (A.shr n 1) 6148914691236517205) (A.bits Go.BinOp.and .u64 n 6148914691236517205)) 2) 3689348814741910323) (A.bits Go.BinOp.and .u64 (A.add (A.bits Go.BinOp.and .u64 (A.shr n 1) 6148914691236517205) (A.bits Go.BinOp.and .u64 n 6148914691236517205)) 3689348814741910323)) 4) (A.add (A.bits Go.BinOp.and .u64 (A.shr (A.add (A.bits Go.BinOp.and .u64 (A.shr n 1) 6148914691236517205) (A.bits Go.BinOp.and .u64 n 6148914691236517205)) 2) 3689348814741910323) (A.bits Go.BinOp.and .u64 (A.add (A.bits Go.BinOp.and .u64 (A.shr n 1) 6148914691236517205) (A.bits Go.BinOp.and .u64 n 6148914691236517205)) 3689348814741910323))) 1085102592571150095) 8)) (A.shr (A.add (A.bits Go.BinOp.and .u64 (A.add (A.shr (A.add (A.bits Go.BinOp.and .u64 (A.shr (A.add (A.bits Go.BinOp.and .u64 (A.shr n 1) 6148914691236517205) (A.bits Go.BinOp.and .u64 n 6148914691236517205)) 2) 3689348814741910323) (A.bits Go.BinOp.and .u64 (A.add (A.bits Go.BinOp.and .u64 (A.shr n 1) 6148914691236517205) (A.bits Go.BinOp.and .u64 n 6148914691236517205)) 3689348814741910323)) 4) (A.add (A.bits Go.BinOp.and .u64 (A.shr (A.add (A.bits Go.BinOp.and .u64 (A.shr n 1) 6148914691236517205) (A.bits Go.BinOp.and .u64 n 6148914691236517205)) 2) 3689348814741910323) (A.bits Go.BinOp.and .u64 (A.add (A.bits Go.BinOp.and .u64 (A.shr n 1) 6148914691236517205) (A.bits Go.BinOp.and .u64 n 6148914691236517205)) 3689348814741910323))) 1085102592571150095) (A.shr (A.bits Go.BinOp.and .u64 (A.add (A.shr (A.add (A.bits Go.BinOp.and .u64 (A.shr (A.add (A.bits Go.BinOp.and .u64 (A.shr n 1) 6148914691236517205) (A.bits Go.BinOp.and .u64 n 6148914691236517205)) 2) 3689348814741910323) (A.bits Go.BinOp.and .u64 (A.add (A.bits Go.BinOp.and .u64 (A.shr n 1) 6148914691236517205) (A.bits Go.BinOp.and .u64 n 6148914691236517205)) 3689348814741910323)) 4) (A.add (A.bits Go.BinOp.and .u64 (A.shr (A.add (A.bits Go.BinOp.and .u64 (A.shr n 1) 6148914691236517205) (A.bits Go.BinOp.and .u64 n 6148914691236517205)) 2) 3689348814741910323) (A.bits Go.BinOp.and .u64 (A.add (A.bits Go.BinOp.and .u64 (A.shr n 1) 6148914691236517205) (A.bits Go.BinOp.and .u64 n 6148914691236517205)) 3689348814741910323))) 1085102592571150095) 8)) 16)) 32)),A.inR .u64 (A.add (A.add (A.add (A.bits Go.BinOp.and .u64 (A.add (A.shr (A.add (A.bits Go.BinOp.and .u64 (A.shr (A.add (A.bits Go.BinOp.and .u64 (A.shr n 1) 6148914691236517205) (A.bits Go.BinOp.and .u64 n 6148914691236517205)) 2) 3689348814741910323) (A.bits Go.BinOp.and .u64 (A.add (A.bits Go.BinOp.and .u64 (A.shr n 1) 6148914691236517205) (A.bits Go.BinOp.and .u64 n 6148914691236517205)) 3689348814741910323)) 4) (A.add (A.bits Go.BinOp.and .u64 (A.shr (A.add (A.bits Go.BinOp.and .u64 (A.shr n 1) 6148914691236517205) (A.bits Go.BinOp.and .u64 n 6148914691236517205)) 2) 3689348814741910323) (A.bits Go.BinOp.and .u64 (A.add (A.bits Go.BinOp.and .u64 (A.shr n 1) 6148914691236517205) (A.bits Go.BinOp.and .u64 n 6148914691236517205)) 3689348814741910323))) 1085102592571150095) (A.shr (A.bits Go.BinOp.and .u64 (A.add (A.shr (A.add (A.bits Go.BinOp.and .u64 (A.shr (A.add (A.bits Go.BinOp.and .u64 (A.shr n 1) 6148914691236517205) (A.bits Go.BinOp.and .u64 n 6148914691236517205)) 2) 3689348814741910323) (A.bits Go.BinOp.and .u64 (A.add (A.bits Go.BinOp.and .u64 (A.shr n 1) 6148914691236517205) (A.bits Go.BinOp.and .u64 n 6148914691236517205)) 3689348814741910323)) 4) (A.add (A.bits Go.BinOp.and .u64 (A.shr (A.add (A.bits Go.BinOp.and .u64 (A.shr n 1) 6148914691236517205) (A.bits Go.BinOp.and .u64 n 6148914691236517205)) 2) 3689348814741910323) (A.bits Go.BinOp.and .u64 (A.add (A.bits Go.BinOp.and .u64 (A.shr n 1) 6148914691236517205) (A.bits Go.BinOp.and .u64 n 6148914691236517205)) 3689348814741910323))) 1085102592571150095) 8)) (A.shr (A.add (A.bits Go.BinOp.and .u64 (A.add (A.shr (A.add (A.bits Go.BinOp.and .u64 (A.shr (A.add (A.bits Go.BinOp.and .u64 (A.shr n 1) 6148914691236517205) (A.bits Go.BinOp.and .u64 n 6148914691236517205)) 2) 3689348814741910323) (A.bits Go.BinOp.and .u64 (A.add (A.bits Go.BinOp.and .u64 (A.shr n 1) 6148914691236517205) (A.bits Go.BinOp.and .u64 n 6148914691236517205)) 3689348814741910323)) 4) (A.add (A.bits Go.BinOp.and .u64 (A.shr (A.add (A.bits Go.BinOp.and .u64 (A.shr n 1) 6148914691236517205) (A.bits Go.BinOp.and .u64 n 6148914691236517205)) 2) 3689348814741910323) (A.bits Go.BinOp.and .u64 (A.add (A.bits Go.BinOp.and .u64 (A.shr n 1) 6148914691236517205) (A.bits Go.BinOp.and .u64 n 6148914691236517205)) 3689348814741910323))) 1085102592571150095) (A.shr (A.bits Go.BinOp.and .u64 (A.add (A.shr (A.add (A.bits Go.BinOp.and .u64 (A.shr (A.add (A.bits Go.BinOp.and .u64 (A.shr n 1) 6148914691236517205) (A.bits Go.BinOp.and .u64 n 6148914691236517205)) 2) 3689348814741910323) (A.bits Go.BinOp.and .u64 (A.add (A.bits Go.BinOp.and .u64 (A.shr n 1) 6148914691236517205) (A.bits Go.BinOp.and .u64 n 6148914691236517205)) 3689348814741910323)) 4) (A.add (A.bits Go.BinOp.and .u64 (A.shr (A.add (A.bits Go.BinOp.and .u64 (A.shr n 1) 6148914691236517205) (A.bits Go.BinOp.and .u64 n 6148914691236517205)) 2) 3689348814741910323) (A.bits Go.BinOp.and .u64 (A.add (A.bits Go.BinOp.and .u64 (A.shr n 1) 6148914691236517205) (A.bits Go.BinOp.and .u64 n 6148914691236517205)) 3689348814741910323))) 1085102592571150095) 8)) 16)) (A.shr (A.add (A.add (A.bits Go.BinOp.and .u64 (A.add (A.shr (A.add (A.bits Go.BinOp.and .u64 (A.shr (A.add (A.bits Go.BinOp.and .u64 (A.shr n 1) 6148914691236517205) (A.bits Go.BinOp.and .u64 n 6148914691236517205)) 2) 3689348814741910323) (A.bits Go.BinOp.and .u64 (A.add (A.bits Go.BinOp.and .u64 (A.shr n 1) 6148914691236517205) (A.bits Go.BinOp.and .u64 n 6148914691236517205)) 3689348814741910323)) 4) (A.add (A.bits Go.BinOp.and .u64 (A.shr (A.add (A.bits Go.BinOp.and .u64 (A.shr n 1) 6148914691236517205) (A.bits Go.BinOp.and .u64 n 6148914691236517205)) 2) 3689348814741910323) (A.bits Go.BinOp.and .u64 (A.add (A.bits Go.BinOp.and .u64 (A.shr n 1) 6148914691236517205) (A.bits Go.BinOp.and .u64 n 6148914691236517205)) 3689348814741910323))) 1085102592571150095) (A.shr (A.bits Go.BinOp.and .u64 (A.add (A.shr (A.add (A.bits Go.BinOp.and .u64 (A.shr (A.add (A.bits Go.BinOp.and .u64 (A.shr n 1) 6148914691236517205) (A.bits Go.BinOp.and .u64 n 6148914691236517205)) 2) 3689348814741910323) (A.bits Go.BinOp.and .u64 (A.add (A.bits Go.BinOp.and .u64 (A.shr n 1) 6148914691236517205) (A.bits Go.BinOp.and .u64 n 6148914691236517205)) 3689348814741910323)) 4) (A.add (A.bits Go.BinOp.and .u64 (A.shr (A.add (A.bits Go.BinOp.and .u64 (A.shr n 1) 6148914691236517205) (A.bits Go.BinOp.and .u64 n 6148914691236517205)) 2) 3689348814741910323) (A.bits Go.BinOp.and .u64 (A.add (A.bits Go.BinOp.and .u64 (A.shr n 1) 6148914691236517205) (A.bits Go.BinOp.and .u64 n 6148914691236517205)) 3689348814741910323))) 1085102592571150095) 8)) (A.shr (A.add (A.bits Go.BinOp.and .u64 (A.add (A.shr (A.add (A.bits Go.BinOp.and .u64 (A.shr (A.add (A.bits Go.BinOp.and .u64 (A.shr n 1) 6148914691236517205) (A.bits Go.BinOp.and .u64 n 6148914691236517205)) 2) 3689348814741910323) (A.bits Go.BinOp.and .u64 (A.add (A.bits Go.BinOp.and .u64 (A.shr n 1) 6148914691236517205) (A.bits Go.BinOp.and .u64 n 6148914691236517205)) 3689348814741910323)) 4) (A.add (A.bits Go.BinOp.and .u64 (A.shr (A.add (A.bits Go.BinOp.and .u64 (A.shr n 1) 6148914691236517205) (A.bits Go.BinOp.and .u64 n 6148914691236517205)) 2) 3689348814741910323) (A.bits Go.BinOp.and .u64 (A.add (A.bits Go.BinOp.and .u64 (A.shr n 1) 6148914691236517205) (A.bits Go.BinOp.and .u64 n 6148914691236517205)) 3689348814741910323))) 1085102592571150095) (A.shr (A.bits Go.BinOp.and .u64 (A.add (A.shr (A.add (A.bits Go.BinOp.and .u64 (A.shr (A.add (A.bits Go.BinOp.and .u64 (A.shr n 1) 6148914691236517205) (A.bits Go.BinOp.and .u64 n 6148914691236517205)) 2) 3689348814741910323) (A.bits Go.BinOp.and .u64 (A.add (A.bits Go.BinOp.and .u64 (A.shr n 1) 6148914691236517205) (A.bits Go.BinOp.and .u64 n 6148914691236517205)) 3689348814741910323)) 4) (A.add (A.bits Go.BinOp.and .u64 (A.shr (A.add (A.bits Go.BinOp.and .u64 (A.shr n 1) 6148914691236517205) (A.bits Go.BinOp.and .u64 n 6148914691236517205)) 2) 3689348814741910323) (A.bits Go.BinOp.and .u64 (A.add (A.bits Go.BinOp.and .u64 (A.shr n 1) 6148914691236517205) (A.bits Go.BinOp.and .u64 n 6148914691236517205)) 3689348814741910323))) 1085102592571150095) 8)) 16)) 32)),Zae (A.le 0 32) (Nat.blt (A.nat 32) 64),A.inR .u64 (A.add (A.add (A.bits Go.BinOp.and .u64 (A.add (A.shr (A.add (A.bits Go.BinOp.and .u64 (A.shr (A.add (A.bits Go.BinOp.and .u64 (A.shr n 1) 6148914691236517205) (A.bits Go.BinOp.and .u64 n 6148914691236517205)) 2) 3689348814741910323) (A.bits Go.BinOp.and .u64 (A.add (A.bits Go.BinOp.and .u64 (A.shr n 1) 6148914691236517205) (A.bits Go.BinOp.and .u64 n 6148914691236517205)) 3689348814741910323)) 4) (A.add (A.bits Go.BinOp.and .u64 (A.shr (A.add (A.bits Go.BinOp.and .u64 (A.shr n 1) 6148914691236517205) (A.bits Go.BinOp.and .u64 n 6148914691236517205)) 2) 3689348814741910323) (A.bits Go.BinOp.and .u64 (A.add (A.bits Go.BinOp.and .u64 (A.shr n 1) 6148914691236517205) (A.bits Go.BinOp.and .u64 n 6148914691236517205)) 3689348814741910323))) 1085102592571150095) (A.shr (A.bits Go.BinOp.and .u64 (A.add (A.shr (A.add (A.bits Go.BinOp.and .u64 (A.shr (A.add (A.bits Go.BinOp.and .u64 (A.shr n 1) 6148914691236517205) (A.bits Go.BinOp.and .u64 n 6148914691236517205)) 2) 3689348814741910323) (A.bits Go.BinOp.and .u64 (A.add (A.bits Go.BinOp.and .u64 (A.shr n 1) 6148914691236517205) (A.bits Go.BinOp.and .u64 n 6148914691236517205)) 3689348814741910323)) 4) (A.add (A.bits Go.BinOp.and .u64 (A.shr (A.add (A.bits Go.BinOp.and .u64 (A.shr n 1) 6148914691236517205) (A.bits Go.BinOp.and .u64 n 6148914691236517205)) 2) 3689348814741910323) (A.bits Go.BinOp.and .u64 (A.add (A.bits Go.BinOp.and .u64 (A.shr n 1) 6148914691236517205) (A.bits Go.BinOp.and .u64 n 6148914691236517205)) 3689348814741910323))) 1085102592571150095) 8)) (A.shr (A.add (A.bits Go.BinOp.and .u64 (A.add (A.shr (A.add (A.bits Go.BinOp.and .u64 (A.shr (A.add (A.bits Go.BinOp.and .u64 (A.shr n 1) 6148914691236517205) (A.bits Go.BinOp.and .u64 n 6148914691236517205)) 2) 3689348814741910323) (A.bits Go.BinOp.and .u64 (A.add (A.bits Go.BinOp.and .u64 (A.shr n 1) 6148914691236517205) (A.bits Go.BinOp.and .u64 n 6148914691236517205)) 3689348814741910323)) 4) (A.add (A.bits Go.BinOp.and .u64 (A.shr (A.add (A.bits Go.BinOp.and .u64 (A.shr n 1) 6148914691236517205) (A.bits Go.BinOp.and .u64 n 6148914691236517205)) 2) 3689348814741910323) (A.bits Go.BinOp.and .u64 (A.add (A.bits Go.BinOp.and .u64 (A.shr n 1) 6148914691236517205) (A.bits Go.BinOp.and .u64 n 6148914691236517205)) 3689348814741910323))) 1085102592571150095) (A.shr (A.bits Go.BinOp.and .u64 (A.add (A.shr (A.add (A.bits Go.BinOp.and .u64 (A.shr (A.add (A.bits Go.BinOp.and .u64 (A.shr n 1) 6148914691236517205) (A.bits Go.BinOp.and .u64 n 6148914691236517205)) 2) 3689348814741910323) (A.bits Go.BinOp.and .u64 (A.add (A.bits Go.BinOp.and .u64 (A.shr n 1) 6148914691236517205) (A.bits Go.BinOp.and .u64 n 6148914691236517205)) 3689348814741910323)) 4) (A.add (A.bits Go.BinOp.and .u64 (A.shr (A.add (A.bits Go.BinOp.and .u64 (A.shr n 1) 6148914691236517205) (A.bits Go.BinOp.and .u64 n 6148914691236517205)) 2) 3689348814741910323) (A.bits Go.BinOp.and .u64 (A.add (A.bits Go.BinOp.and .u64 (A.shr n 1) 6148914691236517205) (A.bits Go.BinOp.and .u64 n 6148914691236517205)) 3689348814741910323))) 1085102592571150095) 8)) 16)),Zae (A.le 0 16) (Nat.blt (A.nat 16) 64),A.inR .u64 (A.add (A.bits Go.BinOp.and .u64 (A.add (A.shr (A.add (A.bits Go.BinOp.and .u64 (A.shr (A.add (A.bits Go.BinOp.and .u64 (A.shr n 1) 6148914691236517205) (A.bits Go.BinOp.and .u64 n 6148914691236517205)) 2) 3689348814741910323) (A.bits Go.BinOp.and .u64 (A.add (A.bits Go.BinOp.and .u64 (A.shr n 1) 6148914691236517205) (A.bits Go.BinOp.and .u64 n 6148914691236517205)) 3689348814741910323)) 4) (A.add (A.bits Go.BinOp.and .u64 (A.shr (A.add (A.bits Go.BinOp.and .u64 (A.shr n 1) 6148914691236517205) (A.bits Go.BinOp.and .u64 n 6148914691236517205)) 2) 3689348814741910323) (A.bits Go.BinOp.and .u64 (A.add (A.bits Go.BinOp.and .u64 (A.shr n 1) 6148914691236517205) (A.bits Go.BinOp.and .u64 n 6148914691236517205)) 3689348814741910323))) 1085102592571150095) (A.shr (A.bits Go.BinOp.and .u64 (A.add (A.shr (A.add (A.bits Go.BinOp.and .u64 (A.shr (A.add (A.bits Go.BinOp.and .u64 (A.shr n 1) 6148914691236517205) (A.bits Go.BinOp.and .u64 n 6148914691236517205)) 2) 3689348814741910323) (A.bits Go.BinOp.and .u64 (A.add (A.bits Go.BinOp.and .u64 (A.shr n 1) 6148914691236517205) (A.bits Go.BinOp.and .u64 n 6148914691236517205)) 3689348814741910323)) 4) (A.add (A.bits Go.BinOp.and .u64 (A.shr (A.add (A.bits Go.BinOp.and .u64 (A.shr n 1) 6148914691236517205) (A.bits Go.BinOp.and .u64 n 6148914691236517205)) 2) 3689348814741910323) (A.bits Go.BinOp.and .u64 (A.add (A.bits Go.BinOp.and .u64 (A.shr n 1) 6148914691236517205) (A.bits Go.BinOp.and .u64 n 6148914691236517205)) 3689348814741910323))) 1085102592571150095) 8)),Zae (A.le 0 8) (Nat.blt (A.nat 8) 64),A.inR .u64 (A.add (A.shr (A.add (A.bits Go.BinOp.and .u64 (A.shr (A.add (A.bits Go.BinOp.and .u64 (A.shr n 1) 6148914691236517205) (A.bits Go.BinOp.and .u64 n 6148914691236517205)) 2) 3689348814741910323) (A.bits Go.BinOp.and .u64 (A.add (A.bits Go.BinOp.and .u64 (A.shr n 1) 6148914691236517205) (A.bits Go.BinOp.and .u64 n 6148914691236517205)) 3689348814741910323)) 4) (A.add (A.bits Go.BinOp.and .u64 (A.shr (A.add (A.bits Go.BinOp.and .u64 (A.shr n 1) 6148914691236517205) (A.bits Go.BinOp.and .u64 n 6148914691236517205)) 2) 3689348814741910323) (A.bits Go.BinOp.and .u64 (A.add (A.bits Go.BinOp.and .u64 (A.shr n 1) 6148914691236517205) (A.bits Go.BinOp.and .u64 n 6148914691236517205)) 3689348814741910323))),Zae (A.le 0 4) (Nat.blt (A.nat 4) 64),A.inR .u64 (A.add (A.bits Go.BinOp.and .u64 (A.shr (A.add (A.bits Go.BinOp.and .u64 (A.shr n 1) 6148914691236517205) (A.bits Go.BinOp.and .u64 n 6148914691236517205)) 2) 3689348814741910323) (A.bits Go.BinOp.and .u64 (A.add (A.bits Go.BinOp.and .u64 (A.shr n 1) 6148914691236517205) (A.bits Go.BinOp.and .u64 n 6148914691236517205)) 3689348814741910323)),Zae (A.le 0 2) (Nat.blt (A.nat 2) 64),A.inR .u64 (A.add (A.bits Go.BinOp.and .u64 (A.shr n 1) 6148914691236517205) (A.bits Go.BinOp.and .u64 n 6148914691236517205)),Zae (A.le 0 1) (Nat.blt (A.nat 1) 64)] (F (AV.int .i64 (A.bits Go.BinOp.and .i64 (A.add (A.add (A.add (A.bits Go.BinOp.and .u64 (A.add (A.shr (A.add (A.bits Go.BinOp.and .u64 (A.shr (A.add (A.bits Go.BinOp.and .u64 (A.shr n 1) 6148914691236517205) (A.bits Go.BinOp.and .u64 n 6148914691236517205)) 2) 3689348814741910323) (A.bits Go.BinOp.and .u64 (A.add (A.bits Go.BinOp.and .u64 (A.shr n 1) 6148914691236517205) (A.bits Go.BinOp.and .u64 n 6148914691236517205)) 3689348814741910323)) 4) (A.add (A.bits Go.BinOp.and .u64 (A.shr (A.add (A.bits Go.BinOp.and .u64 (A.shr n 1) 6148914691236517205) (A.bits Go.BinOp.and .u64 n 6148914691236517205)) 2) 3689348814741910323) (A.bits Go.BinOp.and .u64 (A.add (A.bits Go.BinOp.and .u64 (A.shr n 1) 6148914691236517205) (A.bits Go.BinOp.and .u64 n 6148914691236517205)) 3689348814741910323))) 1085102592571150095) (A.shr (A.bits Go.BinOp.and .u64 (A.add (A.shr (A.add (A.bits Go.BinOp.and .u64 (A.shr (A.add (A.bits Go.BinOp.and .u64 (A.shr n 1) 6148914691236517205) (A.bits Go.BinOp.and .u64 n 6148914691236517205)) 2) 3689348814741910323) (A.bits Go.BinOp.and .u64 (A.add (A.bits Go.BinOp.and .u64 (A.shr n 1) 6148914691236517205) (A.bits Go.BinOp.and .u64 n 6148914691236517205)) 3689348814741910323)) 4) (A.add (A.bits Go.BinOp.and .u64 (A.shr (A.add (A.bits Go.BinOp.and .u64 (A.shr n 1) 6148914691236517205) (A.bits Go.BinOp.and .u64 n 6148914691236517205)) 2) 3689348814741910323) (A.bits Go.BinOp.and .u64 (A.add (A.bits Go.BinOp.and .u64 (A.shr n 1) 6148914691236517205) (A.bits Go.BinOp.and .u64 n 6148914691236517205)) 3689348814741910323))) 1085102592571150095) 8)) (A.shr (A.add (A.bits Go.BinOp.and .u64 (A.add (A.shr (A.add (A.bits Go.BinOp.and .u64 (A.shr (A.add (A.bits Go.BinOp.and .u64 (A.shr n 1) 6148914691236517205) (A.bits Go.BinOp.and .u64 n 6148914691236517205)) 2) 3689348814741910323) (A.bits Go.BinOp.and .u64 (A.add (A.bits Go.BinOp.and .u64 (A.shr n 1) 6148914691236517205) (A.bits Go.BinOp.and .u64 n 6148914691236517205)) 3689348814741910323)) 4) (A.add (A.bits Go.BinOp.and .u64 (A.shr (A.add (A.bits Go.BinOp.and .u64 (A.shr n 1) 6148914691236517205) (A.bits Go.BinOp.and .u64 n 6148914691236517205)) 2) 3689348814741910323) (A.bits Go.BinOp.and .u64 (A.add (A.bits Go.BinOp.and .u64 (A.shr n 1) 6148914691236517205) (A.bits Go.BinOp.and .u64 n 6148914691236517205)) 3689348814741910323))) 1085102592571150095) (A.shr (A.bits Go.BinOp.and .u64 (A.add (A.shr (A.add (A.bits Go.BinOp.and .u64 (A.shr (A.add (A.bits Go.BinOp.and .u64 (A.shr n 1) 6148914691236517205) (A.bits Go.BinOp.and .u64 n 6148914691236517205)) 2) 3689348814741910323) (A.bits Go.BinOp.and .u64 (A.add (A.bits Go.BinOp.and .u64 (A.shr n 1) 6148914691236517205) (A.bits Go.BinOp.and .u64 n 6148914691236517205)) 3689348814741910323)) 4) (A.add (A.bits Go.BinOp.and .u64 (A.shr (A.add (A.bits Go.BinOp.and .u64 (A.shr n 1) 6148914691236517205) (A.bits Go.BinOp.and .u64 n 6148914691236517205)) 2) 3689348814741910323) (A.bits Go.BinOp.and .u64 (A.add (A.bits Go.BinOp.and .u64 (A.shr n 1) 6148914691236517205) (A.bits Go.BinOp.and .u64 n 6148914691236517205)) 3689348814741910323))) 1085102592571150095) 8)) 16)) (A.shr (A.add (A.add (A.bits Go.BinOp.and .u64 (A.add (A.shr (A.add (A.bits Go.BinOp.and .u64 (A.shr (A.add (A.bits Go.BinOp.and .u64 (A.shr n 1) 6148914691236517205) (A.bits Go.BinOp.and .u64 n 6148914691236517205)) 2) 3689348814741910323) (A.bits Go.BinOp.and .u64 (A.add (A.bits Go.BinOp.and .u64 (A.shr n 1) 6148914691236517205) (A.bits Go.BinOp.and .u64 n 6148914691236517205)) 3689348814741910323)) 4) (A.add (A.bits Go.BinOp.and .u64 (A.shr (A.add (A.bits Go.BinOp.and .u64 (A.shr n 1) 6148914691236517205) (A.bits Go.BinOp.and .u64 n 6148914691236517205)) 2) 3689348814741910323) (A.bits Go.BinOp.and .u64 (A.add (A.bits Go.BinOp.and .u64 (A.shr n 1) 6148914691236517205) (A.bits Go.BinOp.and .u64 n 6148914691236517205)) 3689348814741910323))) 1085102592571150095) (A.shr (A.bits Go.BinOp.and .u64 (A.add (A.shr (A.add (A.bits Go.BinOp.and .u64 (A.shr (A.add (A.bits Go.BinOp.and .u64 (A.shr n 1) 6148914691236517205) (A.bits Go.BinOp.and .u64 n 6148914691236517205)) 2) 3689348814741910323) (A.bits Go.BinOp.and .u64 (A.add (A.bits Go.BinOp.and .u64 (A.shr n 1) 6148914691236517205) (A.bits Go.BinOp.and .u64 n 6148914691236517205)) 3689348814741910323)) 4) (A.add (A.bits Go.BinOp.and .u64 (A.shr (A.add (A.bits Go.BinOp.and .u64 (A.shr n 1) 6148914691236517205) (A.bits Go.BinOp.and .u64 n 6148914691236517205)) 2) 3689348814741910323) (A.bits Go.BinOp.and .u64 (A.add (A.bits Go.BinOp.and .u64 (A.shr n 1) 6148914691236517205) (A.bits Go.BinOp.and .u64 n 6148914691236517205)) 3689348814741910323))) 1085102592571150095) 8)) (A.shr (A.add (A.bits Go.BinOp.and .u64 (A.add (A.shr (A.add (A.bits Go.BinOp.and .u64 (A.shr (A.add (A.bits Go.BinOp.and .u64 (A.shr n 1) 6148914691236517205) (A.bits Go.BinOp.and .u64 n 6148914691236517205)) 2) 3689348814741910323) (A.bits Go.BinOp.and .u64 (A.add (A.bits Go.BinOp.and .u64 (A.shr n 1) 6148914691236517205) (A.bits Go.BinOp.and .u64 n 6148914691236517205)) 3689348814741910323)) 4) (A.add (A.bits Go.BinOp.and .u64 (A.shr (A.add (A.bits Go.BinOp.and .u64 (A.shr n 1) 6148914691236517205) (A.bits Go.BinOp.and .u64 n 6148914691236517205)) 2) 3689348814741910323) (A.bits Go.BinOp.and .u64 (A.add (A.bits Go.BinOp.and .u64 (A.shr n 1) 6148914691236517205) (A.bits Go.BinOp.and .u64 n 6148914691236517205)) 3689348814741910323))) 1085102592571150095) (A.shr (A.bits Go.BinOp.and .u64 (A.add (A.shr (A.add (A.bits Go.BinOp.and .u64 (A.shr (A.add (A.bits Go.BinOp.and .u64 (A.shr n 1) 6148914691236517205) (A.bits Go.BinOp.and .u64 n 6148914691236517205)) 2) 3689348814741910323) (A.bits Go.BinOp.and .u64 (A.add (A.bits Go.BinOp.and .u64 (A.shr n 1) 6148914691236517205) (A.bits Go.BinOp.and .u64 n 6148914691236517205)) 3689348814741910323)) 4) (A.add (A.bits Go.BinOp.and .u64 (A.shr (A.add (A.bits Go.BinOp.and .u64 (A.shr n 1) 6148914691236517205) (A.bits Go.BinOp.and .u64 n 6148914691236517205)) 2) 3689348814741910323) (A.bits Go.BinOp.and .u64 (A.add (A.bits Go.BinOp.and .u64 (A.shr n 1) 6148914691236517205) (A.bits Go.BinOp.and .u64 n 6148914691236517205)) 3689348814741910323))) 1085102592571150095) 8)) 16)) 32)) 127)) (none))
theorem ZHa{A:Ar}{K:KT}{F:FT}{M:MT}{n:Int} :Zaj A tab N1 113 K F M (.run 5 (.fy (.run 76 (.fn)))) (ZNa n) []=ZzS A K F n:=by kernel_rfl
def ZKP(xs:List Int)(lo hi:Int):AFrame:={ fn:=70,N:=14,env:=[(0,AV.list (.ints .i64 xs)),(1,AV.int .i64 lo),(2,AV.int .i64 hi)],todo:=[.code a70.code],defs:=[],rnd:=none,ret:=false,res:=[ARes.tmp 6] }
def ZOG(xs:List Int)(lo hi:Int):List AFrame:=[(ZKP xs lo hi)]
theorem ZEl(xs:List Int)(lo hi:Int):Zaq tab 70 [AV.list (.ints .i64 xs),AV.int .i64 lo,AV.int .i64 hi]=some (ZKP xs lo hi):=rfl
def Zhe(xs:List Int)(lo hi n0 n1:Int):List AFrame:=[{ fn:=123,N:=19,env:=[(0,AV.list (.ints .i64 xs)),(1,AV.fn 111 [AV.ptr 70005 0 0 0,AV.ptr 70006 0 0 0]),(7,AV.int .i64 n0),(8,AV.int .i64 n1)],todo:=.code (ACode.gh [] Zz9)::ZKq,defs:=[],rnd:=none,ret:=false,res:=[ARes.tmp 4] },{ fn:=110,N:=9,env:=[(0,AV.list (.ints .i64 xs)),(1,AV.fn 111 [AV.ptr 70005 0 0 0,AV.ptr 70006 0 0 0]),(4,AV.bool false),(5,AV.list (.ints .i64 xs)),(6,AV.fn 111 [AV.ptr 70005 0 0 0,AV.ptr 70006 0 0 0])],todo:=[AItem.inReg [oN 7 (OpK.ncall true 0 123 [Opd.t 5,Opd.t 6]),oN 8 (OpK.bin Go.BinOp.geq (Opd.t 7) (cI 0)),mV 4 8], .code ACode.ret],defs:=[],rnd:=none,ret:=false,res:=[ARes.tmp 4] },{ fn:=70,N:=14,env:=[(0,AV.list (.ints .i64 xs)),(1,AV.int .i64 lo),(2,AV.int .i64 hi),(4,AV.ptr 70005 0 0 0),(5,AV.ptr 70006 0 0 0),(6,AV.int .i64 0),(8,AV.list (.ints .i64 xs)),(9,AV.fn 111 [AV.ptr 70005 0 0 0,AV.ptr 70006 0 0 0])],todo:=[AItem.inReg [oN 10 (OpK.ncall true 0 110 [Opd.t 8,Opd.t 9]),mV 7 10], .code (ACode.seq (ACode.reg none [mV 11 7,oN 12 (OpK.not (Opd.t 11)),oN 13 (OpK.ncall true 0 85 [Opd.t 12,cI 2]),mV 6 13]) ACode.ret)],defs:=[],rnd:=none,ret:=false,res:=[ARes.tmp 6] }]
def ZfE(xs:List Int)(lo hi n0 n1:Int):Zaa:=[(70005,{ base:=0,blks:=[Blk.row 3 1 (Row.gen [.int .i64 lo])] }),(70006,{ base:=0,blks:=[Blk.row 3 1 (Row.gen [.int .i64 hi])] })]
abbrev ZjT(xs:List Int)(lo hi n0 n1:Int):List AFrame×Zaa:=(Zhe xs lo hi n0 n1,ZfE xs lo hi n0 n1)
def ZHb(A:Ar)(K:KT)(F:FT)(xs:List Int)(lo hi:Int):Prop:=K (ZjT (xs) (lo) (hi) (A.int (A.len xs)) (0))
theorem ZM9{A:Ar}{K:KT}{F:FT}{M:MT}{xs:List Int}{lo hi:Int} :Zaj A tab N1 70 K F M (.run 34 (.hd)) (ZOG xs lo hi) []=ZHb A K F xs lo hi:=by kernel_rfl
def ZdQ(A:Ar)(K:KT)(F:FT)(xs:List Int)(lo hi n0 n1:Int):Prop:=bB (A.lt n1 n0) (rB [Zae (Zae (A.le 0 n1) (Nat.blt (A.nat n1) (A.len xs))) true] (bB (A.not (Zal (A.nth xs (A.nat n1)) lo hi)) (F (AV.int .i64 (Zam (A.not (A.le 0 n1)) 2)) (none)) (rB [A.inR .i64 (A.add n1 1)] (K (ZjT (xs) (lo) (hi) (n0) (A.add n1 1)))))) (F (AV.int .i64 (Zam (A.not (A.le 0 (-1))) 2)) (none))
theorem Zkv{A:Ar}{K:KT}{F:FT}{M:MT}{xs:List Int}{lo hi n0 n1:Int} :Zaj A tab N1 70 K F M (.run 6 (.tf (.run 32 (.tf (.run 22 (.fn)) (.run 8 (.hd)))) (.run 22 (.fn)))) (Zhe xs lo hi n0 n1) (ZfE xs lo hi n0 n1)=ZdQ A K F xs lo hi n0 n1:=by kernel_rfl
def ZIA(xs:List Int):AFrame:={ fn:=26,N:=16,env:=[(0,AV.list (.ints .i64 xs))],todo:=[.code a26.code],defs:=[],rnd:=none,ret:=false,res:=[ARes.tmp 2] }
def ZQc(xs:List Int):List AFrame:=[(ZIA xs)]
theorem ZEi(xs:List Int):Zaq tab 26 [AV.list (.ints .i64 xs)]=some (ZIA xs):=rfl
def Zjl(xs:List Int)(n0:Int):List AFrame:=[{ fn:=26,N:=16,env:=[(0,AV.list (.ints .i64 xs)),(3,AV.int .i64 n0)],todo:=.code (ACode.gh [] ZHf)::ZNs,defs:=[],rnd:=none,ret:=false,res:=[ARes.tmp 2] }]
def ZhZ(xs:List Int)(n0:Int):Zaa:=[]
abbrev ZlM(xs:List Int)(n0:Int):List AFrame×Zaa:=(Zjl xs n0,ZhZ xs n0)
def ZGu(A:Ar)(K:KT)(F:FT)(xs:List Int):Prop:=K (ZlM (xs) (0))
theorem ZLM{A:Ar}{K:KT}{F:FT}{M:MT}{xs:List Int} :Zaj A tab N1 26 K F M (.run 12 (.hd)) (ZQc xs) []=ZGu A K F xs:=by kernel_rfl
def ZeR(A:Ar)(K:KT)(F:FT)(xs:List Int)(n0:Int):Prop:=bB (A.lt n0 (A.int (A.len xs))) (rB [Zae (Zae (A.le 0 n0) (Nat.blt (A.nat n0) (A.len xs))) true] (bB (A.not (Zal (A.nth xs (A.nat n0)) 0 15)) (F (AV.int .i64 2) (none)) (rB [A.inR .i64 (A.add n0 1)] (K (ZlM (xs) (A.add n0 1)))))) (F (AV.int .i64 0) (none))
theorem ZlD{A:Ar}{K:KT}{F:FT}{M:MT}{xs:List Int}{n0:Int} :Zaj A tab N1 26 K F M (.run 9 (.tf (.run 24 (.tf (.run 5 (.fn)) (.run 9 (.hd)))) (.run 6 (.fn)))) (Zjl xs n0) (ZhZ xs n0)=ZeR A K F xs n0:=by kernel_rfl
end Go.Proofs.Ytklbmkllepkjcaa
