/- Arguments' readings, of whatever type of plain cells and slices. No condition. -/
import Derived.Test.YtjhldefnjghcdaaGreatW1
import Derived.Deep.Slices
import Derived.KernelRfl
namespace Go.Proofs.YtjhldefnjghcdaaGreat
open Go.ChangeShapes Go.WideShapes Go.ChangeAt Go.RowKit Go.Deep
def Zvm(P:Program)(f:TypeId→Option (List Sh)):Nat→List Field→Option (List Sh)
 |_,[]=>some []
 |off,fd::fds=>match fd.offset==off,f fd.type with
  |true,some l=>(match P.cellsOf fd.type==l.length,Zvm P f (off+l.length) fds with
   |true,some r=>some (l++r)
   |_,_=>none)
  |_,_=>none
def ZDW(ag:Bool)(l:List Sh):Option Sh:=match ag,l with
 |_,[]=>none
 |true,s::ss=>some (.agg (s::ss))
 |false,[s]=>some s
 |false,_=>none
def ZFv:Sh→Sh
 | .int k=>.ints k
 |s=>.big s
def ZOI(P:Program)(f:TypeId→Option (List Sh)):TypeDesc→Option (List Sh)
 | .int k=>some [.int k]
 | .bool=>some [.bool]
 | .string=>some [.str]
 | .struct fs=>Zvm P f 0 fs.toList
 | .array n e=>match f e with
   |some l=>(match P.cellsOf e==l.length with |true=>some (List.replicate n l).flatten |false=>none)
   |none=>none
 | .slice e=>match f e,P.underlying e with
   |some l,some de=>(match P.cellsOf e==l.length,ZDW (ZaO de) l with |true,some s=>some [ZFv s] |_,_=>none)
   |_,_=>none
 |_=>none
def ZDp(P:Program):Nat→TypeId→Option (List Sh)
 |0,_=>none
 |d+1,t=>match P.underlying t with
  |some td=>(match ZOI P (ZDp P d) td with
   |some l=>(match P.cellsOf t==l.length with |true=>some l |false=>none)
   |none=>none)
  |none=>none
def wfE(ss:List Sh)(x:AV):Prop:=∀(j:Nat) (k:IntKind),ss[j]? =some (.int k)→(Lit.int k (x.cellAt j).toI).wf=true
def wfV:AV→Prop
 | .int k n=>(Lit.int k n).wf=true
 | .list (.ints k l)=>∀x∈l,(Lit.int k x).wf=true
 | .list (.big (.agg ss) l)=>∀x∈l,wfE ss x
 |_=>True
def Sh.leaf:Sh→Bool
 | .agg _=>false
 |_=>true
def Cf(s:Sh)(u:AV):Prop:=(∃a,u=s.view1 a)∧wfV u∧s.leaf=true
def Cfs(ss:List Sh)(us:List AV):Prop:=us.length=ss.length∧∀(j:Nat) (s:Sh) (u:AV),ss[j]? =some s→us[j]? =some u→Cf s u
def Rd(W:World)(L:Lay)(ss:List Sh)(cs:List Value):Prop:=∃us:List AV,RelL W (ZpO W) [] L us cs∧(∀c∈cs,c.oneCell'=true)∧Cfs ss us
section
variable {H:Type}{enc:TypeId×Value→H}{P:Program}{W:World}{L:Lay}
theorem Cfs.app{s1 s2:List Sh}{u1 u2:List AV}(h1:Cfs s1 u1)(h2:Cfs s2 u2):Cfs (s1++s2) (u1++u2):=by
 refine⟨by simp[h1.1,h2.1],fun j s u hs hu=>?_⟩
 by_cases hj:j<s1.length
 ·rw[List.getElem?_append_left hj]at hs
  rw[List.getElem?_append_left (by rw[h1.1];exact hj)]at hu
  exact h1.2 j s u hs hu
 ·rw[List.getElem?_append_right (by omega)]at hs
  rw[List.getElem?_append_right (by rw[h1.1];omega),h1.1]at hu
  exact h2.2 _ s u hs hu
theorem Rd.app{s1 s2:List Sh}{c1 c2:List Value}(h1:Rd W L s1 c1)(h2:Rd W L s2 c2):Rd W L (s1++s2) (c1++c2):=by
 obtain⟨u1,r1,o1,f1⟩:=h1
 obtain⟨u2,r2,o2,f2⟩:=h2
 exact⟨u1++u2,r1.append r2,fun c hc=>(List.mem_append.1 hc).elim (o1 c) (o2 c),f1.app f2⟩
theorem Rd.nil:Rd W L [] []:=⟨[],RelL.nil,by simp,rfl,fun j s u hs=>by simp at hs⟩
theorem Rd.len{ss:List Sh}{cs:List Value}(h:Rd W L ss cs):cs.length=ss.length:=by
 obtain⟨us,r,_,f⟩:=h
 rw[←r.1,f.1]
theorem Rd.one{s:Sh}{v:Value}{u:AV}(hr:Rel W (ZpO W) [] L u v)(h1:v.oneCell'=true)(hc:Cf s u):Rd W L [s] [v]:=
 ⟨[u],RelL.cons hr RelL.nil,by simpa using h1,rfl,fun j s' u' hs hu=>by
   cases j with
   |zero=>simp at hs hu;subst hs;subst hu;exact hc
   |succ j=>simp at hs⟩
theorem ZIq{f:TypeId→Option (List Sh)}{n:Nat}(IH:∀t ss,f t=some ss→∀fuel cs x,DataW.trod enc P W 0 (fun _=>true) true fuel t cs=some x→Rd W L ss cs){cs:List Value} :
 ∀(fs:List Field) (off:Nat) (ss:List Sh),Zvm P f off fs=some ss→(∀(i:Nat) (fd:Field),fs[i]? =some fd→∃x,DataW.trod enc P W 0 (fun _=>true) true n fd.type ((cs.drop fd.offset).take (P.cellsOf fd.type))=some x)→
 (cs.drop off).length=ss.length→Rd W L ss (cs.drop off)
 |[],off,ss,h,_,hl=>by
  simp only[Zvm,Option.some.injEq]at h
  subst h
  rw[List.eq_nil_of_length_eq_zero hl]
  exact Rd.nil
 |fd::fds,off,ss,h,hx,hl=>by
  simp only[Zvm]at h
  split at h
  ·rename_i l ho hfl
   split at h
   ·rename_i r hcl hr
    simp only[Option.some.injEq]at h
    subst h
    have ho:fd.offset=off:=by simpa using ho
    have hcl:P.cellsOf fd.type=l.length:=by simpa using hcl
    obtain⟨x,hxx⟩:=hx 0 fd rfl
    rw[ho,hcl]at hxx
    have h1:=IH _ _ hfl _ _ _ hxx
    have h2:=ZIq IH fds (off+l.length) r hr (fun i fd' h'=>hx (i+1) fd' (by simpa using h')) (by simp at hl ⊢;omega)
    have:=h1.app h2
    rw[show cs.drop (off+l.length)=(cs.drop off).drop l.length by rw[List.drop_drop],List.take_append_drop]at this
    exact this
   ·cases h
  ·cases h
theorem ZAz{l:List Sh}{n c:Nat}{e:TypeId}{cs:List Value}(hc:c=l.length)(IH:∀i,i<n→Rd W L l ((cs.drop (i*c)).take c)):
 ∀(k s:Nat),s+k=n→cs.length=n*c→Rd W L (List.replicate k l).flatten (cs.drop (s*c))
 |0,s,hs,hl=>by
  rw[List.drop_of_length_le (by rw[hl,←hs];simp)]
  exact Rd.nil
 |k+1,s,hs,hl=>by
  have h1:=IH s (by omega)
  have h2:=ZAz (e:=e) hc IH k (s+1) (by omega) hl
  have:=h1.app h2
  rw[Nat.add_mul,Nat.one_mul,show cs.drop (s*c+c)=(cs.drop (s*c)).drop c by rw[List.drop_drop],List.take_append_drop]at this
  rw[List.replicate_succ,List.flatten_cons]
  exact this
theorem Zio:∀ {l:List AV},(∀u∈l,u.pure=true)→AV.pureL l=true
 |[],_=>rfl
 |u::l,h=>by simp only[AV.pureL,Bool.and_eq_true];exact⟨h u (by simp),Zio fun v hv=>h v (by simp[hv])⟩
theorem Zn0{α:Type}{sz:Nat}(g:Nat→List α):∀(n:Nat),(∀i,i<n→(g i).length=sz)→∀j,((List.range n).flatMap g)[j]? =if j<n*sz then(g (j/sz))[j%sz]? else none
 |0,_,j=>by simp
 |n+1,hg,j=>by
  have ih:=Zn0 g n (fun i hi=>hg i (by omega))
  have hlen:((List.range n).flatMap g).length=n*sz:=by
   apply Nat.le_antisymm
   ·have h1:=ih (n*sz)
    rw[if_neg (by omega)]at h1
    simpa using h1
   ·rcases Nat.lt_or_ge ((List.range n).flatMap g).length (n*sz)with h |h
    ·have h1:=ih ((List.range n).flatMap g).length
     rw[if_pos h,List.getElem?_eq_none (Nat.le_refl _)]at h1
     have hz:0<sz:=by rcases Nat.eq_zero_or_pos sz with h0 |h0;· subst h0;simp at h
                      ·exact h0
     have h2:((List.range n).flatMap g).length/sz<n:=by rw[Nat.div_lt_iff_lt_mul hz];exact h
     rw[List.getElem?_eq_getElem (by rw[hg _ (by omega)];exact Nat.mod_lt _ hz)]at h1
     cases h1
    ·exact h
  rw[List.range_succ,List.flatMap_append,List.flatMap_singleton]
  by_cases hj:j<n*sz
  ·rw[List.getElem?_append_left (by omega),ih,if_pos hj,if_pos (by rw[Nat.add_mul];omega)]
  ·rw[List.getElem?_append_right (by omega),hlen]
   by_cases hj2:j<(n+1)*sz
   ·rw[if_pos hj2]
    rw[Nat.add_mul,Nat.one_mul]at hj2
    have hz:0<sz:=by omega
    have e1:j/sz=n:=by
     rw[Nat.div_eq_iff hz];constructor
     ·rw[Nat.mul_comm]at hj ⊢;omega
     ·omega
    have e2:j%sz=j-n*sz:=by
     have:=Nat.div_add_mod j sz
     rw[e1,Nat.mul_comm]at this;omega
    rw[e1,e2]
   ·rw[if_neg hj2]
    exact List.getElem?_eq_none (by rw[hg n (by omega)];rw[Nat.add_mul]at hj2;omega)
theorem Zuy(s:Sh)(a:AV):s.view1 (s.view1 a)=s.view1 a:=by cases s<;>rfl
theorem ZpU:∀ {ss:List Sh} {us pre:List AV},Cfs ss us→Zfh ss pre.length (.agg (.gen (pre++us)))=us
 |[],us,pre,h=>by have:=h.1;cases us<;>simp at this;rfl
 |s::ss,us,pre,h=>by
  cases us with
  |nil=>have:=h.1;simp at this
  |cons u us=>
   obtain⟨a,rfl⟩:=(h.2 0 s u rfl rfl).1
   have ht:Cfs ss us:=⟨by have:=h.1;simpa using this,fun j s' u' hs hu=>h.2 (j+1) s' u' (by simpa using hs) (by simpa using hu)⟩
   have:=ZpU (pre:=pre++[s.view1 a]) ht
   rw[List.append_assoc,List.length_append]at this
   simp only[List.length_singleton,List.singleton_append]at this
   simp only[Zfh,this]
   congr 1
   simp only[AV.cellAt,List.getD_eq_getElem?_getD,List.getElem?_append_right (Nat.le_refl _),Nat.sub_self,List.getElem?_cons_zero,Option.getD_some]
   exact Zuy s a
theorem ZyF{ss:List Sh}{us:List AV}(h:Cfs ss us):∀u∈us,u.pure=true∧u.single=true:=fun u hu=>by
 obtain⟨j,hj⟩:=List.mem_iff_getElem?.1 hu
 have hlt:=(List.getElem?_eq_some_iff.1 hj).1
 obtain⟨a,rfl⟩:=(h.2 j _ u (List.getElem?_eq_getElem (by rw[←h.1];exact hlt)) hj).1
 exact⟨ZhW _ _,ZdZ _ _⟩
def ZBE(ag:Bool)(us:List AV):AV:=match ag with |true=>.agg (.gen us) |false=>us.getD 0 .top
theorem Zky{ag:Bool}{ss:List Sh}{s:Sh}{us:List AV}(hs:ZDW ag ss=some s)(h:Cfs ss us):s.view (ZBE ag us)=ZBE ag us∧(ZBE ag us).flat=us:=by
 unfold ZDW at hs
 split at hs
 ·cases hs
 ·rename_i s1 ss1
  cases hs
  refine⟨?_,rfl⟩
  have:=ZpU (pre:=[]) h
  simp only[List.nil_append,List.length_nil]at this
  simp only[Sh.view,ZBE,this]
 ·rename_i s1
  cases hs
  have hl:=h.1
  match us,hl with
  |[u],_=>
   obtain⟨⟨a,rfl⟩,_,hlf⟩:=h.2 0 _ u rfl rfl
   refine⟨?_,Zbp (ZdZ _ _)⟩
   show s.view (s.view1 a)=s.view1 a
   cases s with
   |agg l=>cases hlf
   |_=>rfl
 ·cases hs
def ZfB(s:Sh)(es:List AV):Row:=match s with
 | .int k=>.ints k (es.map AV.toI)
 |s=>.big s es
theorem Zit(s:Sh)(es:List AV):(ZfB s es).elems=es.map s.view:=by
 cases s<;>simp[ZfB,Row.elems,Sh.view,Sh.view1,List.map_map,Function.comp_def]
theorem Zjx(s:Sh)(es:List AV):AV.list (ZfB s es)=(ZFv s).view1 (.list (ZfB s es)):=by cases s<;>rfl
theorem ZpC(s:Sh):(ZFv s).leaf=true:=by cases s<;>rfl
theorem ZqZ{g:Nat→AV}{u:Nat→List AV}{n:Nat}(h:∀i,i<n→(g i).flat=u i):Zag ((List.range n).map g)=(List.range n).flatMap u:=by
 unfold Zag
 rw[List.flatMap_map]
 exact flatMap_congr_range h
theorem ZJz(a:Addr)(i sz j:Nat):(a.add (i*sz)).add j=a.add (i*sz+j):=ZhZ a _ _
theorem ZHM{t e:TypeId}{de:TypeDesc}{l:List Sh}{s:Sh}(ht:P.underlying t=some (.slice e))(hcl:P.cellsOf e=l.length)(hs:ZDW (ZaO de) l=some s)
 (IH:∀fuel cs x,DataW.trod enc P W 0 (fun _=>true) true fuel e cs=some x→Rd W L l cs) {fuel:Nat} {cs:List Value} {x:DataW H×List MemPlace} (h:DataW.trod enc P W 0 (fun _=>true) true fuel t cs=some x):Rd W L [ZFv s] cs:=by
 have hpos:0<l.length:=by
  unfold ZDW at hs
  split at hs<;>first |(cases hs;done) |simp
 have emp:∀ad c,Rd W L [ZFv s] [.slice ad 0 c]:=fun ad c=>Rd.one (u:=.list (ZfB s [])) (.nil _ ad c (by rw[Zit];rfl)) rfl ⟨⟨_,Zjx s []⟩,by cases s<;>simp[ZfB,wfV],ZpC s⟩
 rcases open_slice ht h with⟨rfl,_⟩ |⟨a,len,cap,m,n,D,Pl,rfl,hb,hl,hm,hmm,_,hx⟩
 ·exact emp none 0
 ·by_cases h0:len=0
  ·subst h0;exact emp (some a) cap
  ·simp only[if_true]at hmm
   subst hmm
   obtain⟨F,hF⟩:=choose_lt (α:=List Value×List AV) (n:=len) (p:=fun i p=>W.cells? 0 (a.add (i*P.cellsOf e)) (P.cellsOf e)=some p.1∧RelL W (ZpO W) [] L p.2 p.1∧(∀c∈p.1,c.oneCell'=true)∧Cfs l p.2) (fun i hi=>by
    obtain⟨cs',h1,h2⟩:=hx i (by omega)
    obtain⟨us,r,o,f⟩:=IH _ _ _ h2
    exact⟨(cs',us),h1,r,o,f⟩)
   rw[hcl]at hF
   have hcells:∀i,i<len→(F i).1.length=l.length∧∀j,j<l.length→W.cell? (a.add (i*l.length+j))=(F i).1[j]?:=fun i hi=>by
    obtain⟨_,g1,g2⟩:=World.cells?_some (hF i hi).1
    exact⟨g1,fun j hj=>by rw[←ZJz];exact g2 j hj⟩
   have hul:∀i,i<len→(F i).2.length=l.length:=fun i hi=>(hF i hi).2.2.2.1
   obtain⟨es,hes⟩:∃es,es=(List.range len).map fun i=>ZBE (ZaO de) (F i).2:=⟨_,rfl⟩
   have hview:es.map s.view=es:=by
    rw[hes,List.map_map]
    exact List.map_congr_left fun i hi=>(Zky hs (hF i (List.mem_range.1 hi)).2.2.2).1
   have hfl:Zag es=(List.range len).flatMap fun i=>(F i).2:=by
    rw[hes];exact ZqZ fun i hi=>(Zky hs (hF i hi).2.2.2).2
   have hsz:∀x∈es,x.flat.length=l.length:=fun x hx=>by
    rw[hes]at hx
    obtain⟨i,hi,rfl⟩:=List.mem_map.1 hx
    rw[(Zky hs (hF i (List.mem_range.1 hi)).2.2.2).2]
    exact hul i (List.mem_range.1 hi)
   have hlen:es.length=len:=by rw[hes];simp
   have gU:=Zn0 (fun i=>(F i).2) len hul
   have gV:=Zn0 (fun i=>(F i).1) len (fun i hi=>(hcells i hi).1)
   have hlt:a.block<W.heap.size:=by
    have h1:=(hcells 0 (by omega)).2 0 hpos
    rw[List.getElem?_eq_getElem (by rw[(hcells 0 (by omega)).1];exact hpos)]at h1
    have:=ZA9 h1
    rw[Zc0]at this;exact this
   have hidx:∀j,j<len*l.length→j/l.length<len∧j%l.length<l.length:=fun j hj=>⟨by rw[Nat.div_lt_iff_lt_mul hpos];exact hj,Nat.mod_lt _ hpos⟩
   refine Rd.one (u:=.list (ZfB s es)) ?_ rfl ⟨⟨_,Zjx s es⟩,?_,ZpC s⟩
   ·refine .list (ZfB s es) es (by rw[Zit,hview]) a len _ l.length ((List.range len).flatMap fun i=>(F i).1) hlt hlt hlen.symm hl hsz ?_ ?_ ?_ ?_ ?_
    ·rw[hfl]
     have e1:∀(g:Nat→List Value) (k:Nat→List AV) (n:Nat),(∀i,i<n→(g i).length=(k i).length)→((List.range n).flatMap g).length=((List.range n).flatMap k).length:=by
      intro g k n
      induction n with
      |zero=>intro _;rfl
      |succ n ih=>
       intro hgk
       rw[List.range_succ,List.flatMap_append,List.flatMap_append,List.length_append,List.length_append,ih (fun i hi=>hgk i (by omega))]
       simp[hgk n (by omega)]
     exact e1 _ _ _ fun i hi=>by rw[(hcells i hi).1,hul i hi]
    ·intro c hc
     obtain⟨i,hi,hc⟩:=List.mem_flatMap.1 hc
     exact(hF i (List.mem_range.1 hi)).2.2.1 c hc
    ·intro j v hj
     rw[gV j]at hj
     split at hj
     ·rename_i hjl
      obtain⟨q1,q2⟩:=hidx j hjl
      have:=(hcells _ q1).2 _ q2
      rw[show j/l.length*l.length+j%l.length=j by rw[Nat.mul_comm];exact Nat.div_add_mod j _]at this
      rw[this,hj]
     ·cases hj
    ·rw[hfl]
     exact Zio fun u hu=>by
      obtain⟨i,hi,hu⟩:=List.mem_flatMap.1 hu
      exact(ZyF (hF i (List.mem_range.1 hi)).2.2.2 u hu).1
    ·intro j u v hu hv
     rw[hfl,gU j]at hu
     rw[gV j]at hv
     split at hu
     ·rename_i hjl
      rw[if_pos hjl]at hv
      exact(hF _ (hidx j hjl).1).2.1.2 _ u v hu hv
     ·cases hu
   ·unfold ZfB
    split
    ·rename_i k
     simp only[wfV]
     intro z hz
     obtain⟨e1,he1,rfl⟩:=List.mem_map.1 hz
     rw[hes]at he1
     obtain⟨i,hi,rfl⟩:=List.mem_map.1 he1
     have hc:=(hF i (List.mem_range.1 hi)).2.2.2
     unfold ZDW at hs
     split at hs
     ·cases hs
     ·cases hs
     ·rename_i s1 hag
      cases hs
      have hl1:=hc.1
      rw[show ZaO de=false from by first |assumption |(rename_i hx _ _;exact hx)] 
      match hq:(F i).2,hl1 with
      |[u],_=>
       obtain⟨⟨a,ha⟩,hw,_⟩:=hc.2 0 (.int k) u rfl (by rw[hq];rfl)
       subst ha
       exact hw
     ·cases hs
    ·cases s with
     |agg ss=>
      show ∀x∈es,wfE ss x
      intro x hx j k hj
      rw[hes]at hx
      obtain⟨i,hi,rfl⟩:=List.mem_map.1 hx
      have hc:=(hF i (List.mem_range.1 hi)).2.2.2
      unfold ZDW at hs
      split at hs
      ·cases hs
      ·rename_i s1 ss1 hag
       cases hs
       rw[show ZaO de=true from by first |assumption |(rename_i hx2 _ _;exact hx2)]
       have hlt2:j<(F i).2.length:=by
        rw[hc.1]
        exact(List.getElem?_eq_some_iff.1 hj).1
       obtain⟨⟨a,ha⟩,hw,_⟩:=hc.2 j (.int k) _ hj (List.getElem?_eq_getElem hlt2)
       have he:(ZBE true (F i).2).cellAt j=(F i).2[j]:=by simp[ZBE,AV.cellAt,List.getD_eq_getElem?_getD,List.getElem?_eq_getElem hlt2]
       rw[he,ha]
       rw[ha]at hw
       exact hw
      ·rename_i s1 hag
       cases hs
       have hl1:=hc.1
       match hq:(F i).2,hl1 with
       |[u],_=>
        obtain⟨_,_,hlf⟩:=hc.2 0 (.agg ss) u rfl (by rw[hq];rfl)
        cases hlf
      ·cases hs
     |_=>trivial
theorem ZzR:∀(d:Nat) (t:TypeId) (ss:List Sh),ZDp P d t=some ss→∀(fuel:Nat) (cs:List Value) (x:DataW H×List MemPlace),DataW.trod enc P W 0 (fun _=>true) true fuel t cs=some x→Rd W L ss cs
 |0,t,ss,h,_,_,_,_=>by simp[ZDp]at h
 |d+1,t,ss,h,fuel,cs,x,hx=>by
  have IH:=ZzR d
  simp only[ZDp]at h
  split at h
  ·rename_i td ht
   split at h
   ·rename_i l hl
    split at h
    ·rename_i hsz
     simp only[Option.some.injEq]at h
     subst h
     have hsz:P.cellsOf t=l.length:=by simpa using hsz
     unfold ZOI at hl
     split at hl
     ·rename_i k
      cases hl
      obtain⟨n,rfl,_,hw⟩:=DataW.trod_int ht hx
      exact Rd.one (.int k n) rfl ⟨⟨.int k n,rfl⟩,hw,rfl⟩
     ·cases hl
      obtain⟨b,rfl,_⟩:=DataW.trod_bool ht hx
      exact Rd.one (.bool b) rfl ⟨⟨.bool b,rfl⟩,trivial,rfl⟩
     ·cases hl
      obtain⟨s,rfl,_,_⟩:=DataW.trod_string ht hx
      have e:s=⟨s.data.toList.toArray⟩:=by simp
      refine Rd.one (u:=.str s.data.toList) ?_ rfl ⟨⟨.str s.data.toList,rfl⟩,trivial,rfl⟩
      have:=Rel.str (w:=W) (ok:=ZpO W) (h:=[]) (L:=L) s.data.toList
      rw[←e]at this
      exact this
     ·rename_i fs
      obtain⟨xs,n,_,_,hlen,hxl,hf⟩:=DataW.trod_struct ht hx
      have:=ZIq (P:=P) (W:=W) (L:=L) (enc:=enc) (n:=n) IH (cs:=cs) fs.toList 0 l hl (fun i fd hfd=>by
       have hfd':fs[i]? =some fd:=by simpa using hfd
       have h1:=hf i fd hfd'
       have hi:i<xs.length:=by rw[hxl];exact(Array.getElem?_eq_some_iff.1 hfd').1
       exact⟨xs[i],by rw[h1,List.getElem?_eq_getElem hi]⟩) (by simp[hlen,hsz])
      simpa using this
     ·rename_i n e
      split at hl
      ·rename_i le hle
       split at hl
       ·rename_i hce
        simp only[Option.some.injEq]at hl
        subst hl
        have hce:P.cellsOf e=le.length:=by simpa using hce
        obtain⟨xs,m,_,_,hlen,hxl,hf⟩:=DataW.trod_array ht hx
        have:=ZAz (W:=W) (L:=L) (l:=le) (n:=n) (c:=P.cellsOf e) (e:=e) (cs:=cs) hce (fun i hi=>by
         have h1:=hf i hi
         rw[List.getElem?_eq_getElem (by rw[hxl];exact hi)]at h1
         exact IH _ _ hle _ _ _ h1) n 0 (by simp) (by rw[hlen,hsz,hce];simp)
        simpa using this
       ·cases hl
      ·cases hl
     ·rename_i e
      split at hl
      ·rename_i le de hle hde
       split at hl
       ·rename_i s hce hs
        simp only[Option.some.injEq]at hl
        subst hl
        exact ZHM ht (by simpa using hce) hs (fun fuel cs x hx=>IH _ _ hle fuel cs x hx) hx
       ·cases hl
      ·cases hl
     ·cases hl
    ·cases h
   ·cases h
  ·cases h
theorem ZzF{d:Nat}{t:TypeId}{ss:List Sh}(hs:ZDp P d t=some ss){v:Value}{dd:DataW H}{ps:List MemPlace}(hv:∃cs,v=.agg cs∧cs.size=P.cellsOf t)(h:DataW.Trod enc P W 0 (fun _=>true) true t v dd ps):
 ∃us,Rel W (ZpO W) [] L (.agg (.gen us)) v∧Cfs ss us:=by
 obtain⟨cs,rfl,_⟩:=hv
 obtain⟨fuel,hf⟩:=h
 obtain⟨us,r,o,f⟩:=ZzR (L:=L) d t ss hs fuel _ _ hf
 exact⟨us, .agg _ us rfl cs (by simpa[Value.cells]using r.1) (fun c hc=>o c (by simpa[Value.cells]using hc)) (fun j u v hu hv=>r.2 j u v hu (by simpa[Value.cells]using hv)),f⟩
end
end Go.Proofs.YtjhldefnjghcdaaGreat
namespace Go.Proofs.YtjhldefnjghcdaaGreat
theorem ZcU{k:IntKind}{u:AV}(h:Cf (.int k) u):∃n,u=.int k n∧(Lit.int k n).wf=true:=by
 obtain⟨⟨a,rfl⟩,hw,_⟩:=h
 exact⟨_,rfl,hw⟩
theorem Zvj{k:IntKind}{u:AV}(h:Cf (.ints k) u):∃l:zI,u=.list (.ints k l)∧∀x∈l,(Lit.int k x).wf=true:=by
 obtain⟨⟨a,rfl⟩,hw,_⟩:=h
 exact⟨_,rfl,hw⟩
theorem ZFK{s:Sh}{u:AV}(h:Cf (.big s) u):∃l:List AV,u=.list (.big s l):=by
 obtain⟨⟨a,rfl⟩,hw,_⟩:=h
 exact⟨_,rfl⟩
theorem ZrF{us:List AV}(h:Cfs [] us):us=[]:=List.eq_nil_of_length_eq_zero h.1
theorem ZaG{s:Sh}{ss:List Sh}{us:List AV}(h:Cfs (s::ss) us):∃u r,us=u::r∧Cf s u∧Cfs ss r:=by
 cases us with
 |nil=>have:=h.1;simp at this
 |cons u r=>exact⟨u,r,rfl,h.2 0 s u rfl rfl,by have:=h.1;simpa using this,fun j s' u' hs hu=>h.2 (j+1) s' u' (by simpa using hs) (by simpa using hu)⟩
end Go.Proofs.YtjhldefnjghcdaaGreat
namespace Go.Proofs.YtjhldefnjghcdaaGreat
theorem ZDI{us:List AV}(h:Cfs [.int .i64, .int .i64, .int .i64] us):∃a b c,us=[.int .i64 a, .int .i64 b, .int .i64 c]:=by
 obtain⟨u,r,rfl,h1,h⟩:=ZaG h
 obtain⟨u2,r,rfl,h2,h⟩:=ZaG h
 obtain⟨u3,r,rfl,h3,h⟩:=ZaG h
 obtain rfl:=ZrF h
 obtain⟨a,rfl,_⟩:=ZcU h1
 obtain⟨b,rfl,_⟩:=ZcU h2
 obtain⟨c,rfl,_⟩:=ZcU h3
 exact⟨a,b,c,rfl⟩
theorem ZBP{us:List AV}(h:Cfs [.int .i64, .int .i64, .int .i64, .int .i64, .int .i64] us):∃a b c d e,us=[.int .i64 a, .int .i64 b, .int .i64 c, .int .i64 d, .int .i64 e]:=by
 obtain⟨u,r,rfl,h1,h⟩:=ZaG h
 obtain⟨u2,r,rfl,h2,h⟩:=ZaG h
 obtain⟨a,b,c,rfl⟩:=ZDI h
 obtain⟨x,rfl,_⟩:=ZcU h1
 obtain⟨y,rfl,_⟩:=ZcU h2
 exact⟨x,y,a,b,c,rfl⟩
theorem ZrG{us:List AV}(h:Cfs [.ints .i64, .int .i64, .int .i64, .int .i64, .int .i64, .int .i64, .int .i64, .int .i64, .int .i64, .big (.ints .i64), .ints .i64] us):∃(mk:zI) (le er ve fy sl g t s:Int) (ds:List AV) (op:zI),us=[.list (.ints .i64 mk), .int .i64 le, .int .i64 er, .int .i64 ve, .int .i64 fy, .int .i64 sl, .int .i64 g, .int .i64 t, .int .i64 s, .list (.big (.ints .i64) ds), .list (.ints .i64 op)]:=by
 obtain⟨u1,r,rfl,h1,h⟩:=ZaG h
 obtain⟨u2,r,rfl,h2,h⟩:=ZaG h
 obtain⟨u3,r,rfl,h3,h⟩:=ZaG h
 obtain⟨u4,r,rfl,h4,h⟩:=ZaG h
 obtain⟨u5,r,rfl,h5,h⟩:=ZaG h
 obtain⟨u6,r,rfl,h6,h⟩:=ZaG h
 obtain⟨a,b,c,d,e,rfl⟩:∃a b c d e,r=[.int .i64 a, .int .i64 b, .int .i64 c,d,e]:=by
  obtain⟨v1,r,rfl,g1,h⟩:=ZaG h
  obtain⟨v2,r,rfl,g2,h⟩:=ZaG h
  obtain⟨v3,r,rfl,g3,h⟩:=ZaG h
  obtain⟨v4,r,rfl,g4,h⟩:=ZaG h
  obtain⟨v5,r,rfl,g5,h⟩:=ZaG h
  obtain rfl:=ZrF h
  obtain⟨a,rfl,_⟩:=ZcU g1
  obtain⟨b,rfl,_⟩:=ZcU g2
  obtain⟨c,rfl,_⟩:=ZcU g3
  exact⟨a,b,c,_,_,rfl⟩
 obtain⟨v1,r,e1,g1,h⟩:=ZaG h
 obtain⟨v2,r,rfl,g2,h⟩:=ZaG h
 obtain⟨v3,r,rfl,g3,h⟩:=ZaG h
 obtain⟨v4,r,rfl,g4,h⟩:=ZaG h
 obtain⟨v5,r,rfl,g5,h⟩:=ZaG h
 obtain rfl:=ZrF h
 injection e1 with q1 e1
 injection e1 with q2 e1
 injection e1 with q3 e1
 injection e1 with q4 e1
 injection e1 with q5 e1
 subst q4 q5
 obtain⟨mk,rfl,_⟩:=Zvj h1
 obtain⟨le,rfl,_⟩:=ZcU h2
 obtain⟨er,rfl,_⟩:=ZcU h3
 obtain⟨ve,rfl,_⟩:=ZcU h4
 obtain⟨fy,rfl,_⟩:=ZcU h5
 obtain⟨sl,rfl,_⟩:=ZcU h6
 obtain⟨ds,rfl⟩:=ZFK g4
 obtain⟨op,rfl,_⟩:=Zvj g5
 exact⟨mk,le,er,ve,fy,sl,a,b,c,ds,op,rfl⟩
end Go.Proofs.YtjhldefnjghcdaaGreat
namespace Go.Proofs.YtjhldefnjghcdaaGreat
set_option maxRecDepth 100000
set_option linter.unusedVariables false
def ZI9(xs:zI):AFrame:=vF 40 8 [vL 0 xs] [.code a40.code] [.tmp 2]
def ZRi(xs:zI):List AFrame:=[(ZI9 xs)]
theorem ZCA(xs:zI):Zak tab 40 [AV.list (.ints .i64 xs)]=some (ZI9 xs):=rfl
def ZGp(A:Ar)(K:KT)(F:FT)(xs:zI):Prop:=rB [Nat.blt 0 (A.len xs)] (rB [Nat.ble (0+A.len xs) 4294967296,List.all [] fun x=>AV.bx x&&Nat.beq (Zad A x) 1] (F (AV.row 0 0) (some { e:=3,sz:=1,r:=.ints .i64 xs })))
theorem ZMG{A:Ar}{K:KT}{F:FT}{M:MT}{xs:zI} :Zah A tab E0 40 K F M (.run 10 (.fy (.run 9 (.fn)))) (ZRi xs) []=ZGp A K F xs:=by kernel_rfl
def ZuM(cap:Nat):AFrame:=vF 40 8 [(0,AV.val (Go.Value.slice none 0 cap))] [.code a40.code] [.tmp 2]
def ZJy(cap:Nat):List AFrame:=[(ZuM cap)]
theorem Zv9(cap:Nat):Zak tab 40 [AV.val (Go.Value.slice none 0 cap)]=some (ZuM cap):=rfl
def Zvf(A:Ar)(K:KT)(F:FT)(cap:Nat):Prop:=F (AV.nils) none
theorem ZCs{A:Ar}{K:KT}{F:FT}{M:MT}{cap:Nat} :Zah A tab E0 40 K F M (.run 10 (.ty (.run 5 (.fn)))) (ZJy cap) []=Zvf A K F cap:=by kernel_rfl
def Zxx(ad:Go.Addr)(cap:Nat):AFrame:=vF 40 8 [(0,AV.val (Go.Value.slice (some ad) 0 cap))] [.code a40.code] [.tmp 2]
def ZE5(ad:Go.Addr)(cap:Nat):List AFrame:=[(Zxx ad cap)]
theorem Zwd(ad:Go.Addr)(cap:Nat):Zak tab 40 [AV.val (Go.Value.slice (some ad) 0 cap)]=some (Zxx ad cap):=rfl
def ZuJ(A:Ar)(K:KT)(F:FT)(ad:Go.Addr)(cap:Nat):Prop:=rB [List.all [] fun x=>AV.bx x&&Nat.beq (Zad A x) 1] (F (AV.row 0 0) (some { e:=3,sz:=1,r:=Row.gen [] }))
theorem ZBf{A:Ar}{K:KT}{F:FT}{M:MT}{ad:Go.Addr}{cap:Nat} :Zah A tab E0 40 K F M (.run 10 (.fy (.run 9 (.fn)))) (ZE5 ad cap) []=ZuJ A K F ad cap:=by kernel_rfl
end Go.Proofs.YtjhldefnjghcdaaGreat
namespace Go.Proofs.YtjhldefnjghcdaaGreat
theorem Zjn(xs:zI)(h:xs.length≤1000000):ZaK Tryz.prog 40 [.list (.ints .i64 xs)] (.row 0 0) (some ⟨3,1, .ints .i64 xs⟩):=by
 by_cases h0:xs=[]
 ·subst h0
  refine Ztr rfl fun ad cap=>?_
  cases ad with
  |none=>exact ZyG (r0:=.nils) (start (Zv9 cap) fun C hC=>tgo hC ZyP ZCs (by simp[Zvf])) rfl rfl (by omega)
  |some ad=>exact Zza (r:=.gen []) (start (Zwd ad cap) fun C hC=>tgo hC ZyP ZBf (by simp[ZuJ])) (by omega) rfl
 ·have:=List.length_pos_iff.2 h0
  exact start (ZCA xs) fun C hC=>tgo hC ZyP ZMG (by simp[ZGp];omega)
def k104:Ctr:=⟨40,0,fun _ a=>match a with |[.list (.ints .i64 xs)]=>some (decide (xs.length≤1000000), .row 0 0,some ⟨3,1, .ints .i64 xs⟩) |_=>none⟩
theorem ZEt:k104.OK Tryz.prog:=fun pa args r fr h=>by
 simp only[k104]at h
 split at h
 ·simp only[Option.some.injEq,Prod.mk.injEq,decide_eq_true_eq]at h
  obtain⟨h0,rfl,rfl⟩:=h
  exact Zjn _ h0
 ·cases h
def N0:List Ctr:=[k104]++E0
theorem ZbE:Zar Tryz.prog N0:=⟨ZEt,ZyP⟩
end Go.Proofs.YtjhldefnjghcdaaGreat
namespace Go.Proofs.YtjhldefnjghcdaaGreat
set_option maxRecDepth 100000
set_option linter.unusedVariables false
def ZJ2(n lo hi:Int):AFrame:=vF 57 15 [vI 0 n,vI 1 lo,vI 2 hi] [.code a57.code] [.tmp 6]
def ZQE(n lo hi:Int):List AFrame:=[(ZJ2 n lo hi)]
theorem ZBm(n lo hi:Int):Zak tab 57 [AV.int .i64 n,AV.int .i64 lo,AV.int .i64 hi]=some (ZJ2 n lo hi):=rfl
def ZH9(A:Ar)(K:KT)(F:FT)(n lo hi:Int):Prop:=bB (A.le lo n) (F (AV.bool (A.le n hi)) none) (F (AV.bool false) none)
theorem ZM6{A:Ar}{K:KT}{F:FT}{M:MT}{n lo hi:Int} :Zah A tab N0 57 K F M (.run 10 (.tf (.ty (.ty (.ty (.run 4 (.fn))))) (.fy (.fy (.fy (.run 4 (.fn))))))) (ZQE n lo hi) []=ZH9 A K F n lo hi:=by kernel_rfl
def ZJr(n lo hi:Int):AFrame:=vF 28 15 [vI 0 n,vI 1 lo,vI 2 hi] [.code a28.code] [.tmp 6]
def ZQw(n lo hi:Int):List AFrame:=[(ZJr n lo hi)]
theorem ZA1(n lo hi:Int):Zak tab 28 [AV.int .i64 n,AV.int .i64 lo,AV.int .i64 hi]=some (ZJr n lo hi):=rfl
def ZHv(A:Ar)(K:KT)(F:FT)(n lo hi:Int):Prop:=bB (A.le lo n) (F (AV.bool (A.le n hi)) none) (F (AV.bool false) none)
theorem ZMH{A:Ar}{K:KT}{F:FT}{M:MT}{n lo hi:Int} :Zah A tab N0 28 K F M (.run 10 (.tf (.ty (.ty (.ty (.run 4 (.fn))))) (.fy (.fy (.fy (.run 4 (.fn))))))) (ZQw n lo hi) []=ZHv A K F n lo hi:=by kernel_rfl
def ZIa(b:Bool)(e:Int):AFrame:=vF 51 7 [vB 0 b,vI 1 e] [.code a51.code] [.tmp 4]
def ZQH(b:Bool)(e:Int):List AFrame:=[(ZIa b e)]
theorem ZCe(b:Bool)(e:Int):Zak tab 51 [AV.bool b,AV.int .i64 e]=some (ZIa b e):=rfl
def ZHX(A:Ar)(K:KT)(F:FT)(b:Bool)(e:Int):Prop:=bB b (F (AV.int .i64 0) none) (F (AV.int .i64 e) none)
theorem ZLQ{A:Ar}{K:KT}{F:FT}{M:MT}{b:Bool}{e:Int} :Zah A tab N0 51 K F M (.run 9 (.tf (.run 5 (.fn)) (.run 7 (.fn)))) (ZQH b e) []=ZHX A K F b e:=by kernel_rfl
def ZH6(xs:zI):AFrame:=vF 50 15 [vL 0 xs] [.code a50.code] [.tmp 2]
def ZPp(xs:zI):List AFrame:=[(ZH6 xs)]
theorem ZBq(xs:zI):Zak tab 50 [AV.list (.ints .i64 xs)]=some (ZH6 xs):=rfl
def ZjW(xs:zI)(n0 n1:Int):List AFrame:=[vF 50 15 [vL 5 xs,vI 6 n0,vI 7 n1] (vC ZHc ZN8) [.tmp 2]]
def Zg3(xs:zI)(n0 n1:Int):Zaa:=[]
abbrev ZlV(xs:zI)(n0 n1:Int):List AFrame×Zaa:=(ZjW xs n0 n1,Zg3 xs n0 n1)
def ZFL(A:Ar)(K:KT)(F:FT)(xs:zI):Prop:=K (ZlV xs (A.int (A.len xs)) 0)
theorem ZL6{A:Ar}{K:KT}{F:FT}{M:MT}{xs:zI} :Zah A tab N0 50 K F M (.run 14 (.hd)) (ZPp xs) []=ZFL A K F xs:=by kernel_rfl
def ZeW(A:Ar)(K:KT)(F:FT)(xs:zI)(n0 n1:Int):Prop:=let u0:=A.nth xs (A.nat n1);bB (A.lt n1 n0) (rB [Zac (Zac (A.le 0 n1) (Nat.blt (A.nat n1) (A.len xs))) true] (bB (A.not (A.eq u0 0)) (F (AV.int .i64 u0) none) (rB [A.inR .i64 (A.add n1 1)] (K (ZlV xs n0 (A.add n1 1)))))) (F (AV.int .i64 0) none)
theorem Znh{A:Ar}{K:KT}{F:FT}{M:MT}{xs:zI}{n0 n1:Int} :Zah A tab N0 50 K F M (.run 6 (.tf (.run 14 (.tf (.run 6 (.fn)) (.run 8 (.hd)))) (.run 6 (.fn)))) (ZjW xs n0 n1) (Zg3 xs n0 n1)=ZeW A K F xs n0 n1:=by kernel_rfl
def ZJD(xs:zI):AFrame:=vF 12 6 [vL 0 xs] [.code a12.code] [.tmp 2]
def ZPB(xs:zI):List AFrame:=[(ZJD xs)]
theorem ZB2(xs:zI):Zak tab 12 [AV.list (.ints .i64 xs)]=some (ZJD xs):=rfl
def ZI7(A:Ar)(K:KT)(F:FT)(xs:zI):Prop:=rB [Nat.ble (0+A.len xs) 4294967296,List.all [] fun x=>AV.bx x&&Nat.beq (Zad A x) 1] (F (AV.row 0 0) (some { e:=3,sz:=1,r:=.ints .i64 xs }))
theorem ZLG{A:Ar}{K:KT}{F:FT}{M:MT}{xs:zI} :Zah A tab N0 12 K F M (.run 12 (.fn)) (ZPB xs) []=ZI7 A K F xs:=by kernel_rfl
def ZHj(xs ys:zI):AFrame:=vF 23 26 [vL 0 xs,vL 1 ys] [.code a23.code] [.tmp 4]
def ZPG(xs ys:zI):List AFrame:=[(ZHj xs ys)]
theorem ZCX(xs ys:zI):Zak tab 23 [AV.list (.ints .i64 xs),AV.list (.ints .i64 ys)]=some (ZHj xs ys):=rfl
def ZjN(xs ys:zI)(n0:Int):List AFrame:=[vF 23 26 [vL 0 xs,vL 1 ys,vI 5 n0] (vC ZJs ZOe) [.tmp 4]]
def Zih(xs ys:zI)(n0:Int):Zaa:=[]
abbrev ZlH(xs ys:zI)(n0:Int):List AFrame×Zaa:=(ZjN xs ys n0,Zih xs ys n0)
def ZDK(A:Ar)(K:KT)(F:FT)(xs ys:zI):Prop:=bB (A.not (A.eq (A.int (A.len xs)) (A.int (A.len ys)))) (F (AV.bool false) none) (K (ZlH xs ys 0))
theorem ZMc{A:Ar}{K:KT}{F:FT}{M:MT}{xs ys:zI} :Zah A tab N0 23 K F M (.run 13 (.tf (.run 5 (.fn)) (.run 9 (.hd)))) (ZPG xs ys) []=ZDK A K F xs ys:=by kernel_rfl
def ZeQ(A:Ar)(K:KT)(F:FT)(xs ys:zI)(n0:Int):Prop:=let u0:=A.nat n0;bB (A.lt n0 (A.int (A.len xs))) (rB [Zac (Zac (A.le 0 n0) (Nat.blt u0 (A.len ys))) true,Zac (Zac (A.le 0 n0) (Nat.blt u0 (A.len xs))) true] (bB (A.not (A.eq (A.nth xs u0) (A.nth ys u0))) (F (AV.bool false) none) (rB [A.inR .i64 (A.add n0 1)] (K (ZlH xs ys (A.add n0 1)))))) (F (AV.bool true) none)
theorem Zm4{A:Ar}{K:KT}{F:FT}{M:MT}{xs ys:zI}{n0:Int} :Zah A tab N0 23 K F M (.run 9 (.tf (.run 6 (.tf (.run 5 (.fn)) (.run 9 (.hd)))) (.run 6 (.fn)))) (ZjN xs ys n0) (Zih xs ys n0)=ZeQ A K F xs ys n0:=by kernel_rfl
def ZKm(xs:zI):AFrame:=vF 13 22 [vL 0 xs] [.code a13.code] [.tmp 2]
def ZPU(xs:zI):List AFrame:=[(ZKm xs)]
theorem ZC1(xs:zI):Zak tab 13 [AV.list (.ints .i64 xs)]=some (ZKm xs):=rfl
def Zkz(xs:zI)(n0:Int):List AFrame:=[vF 13 22 [vL 0 xs,vI 3 n0] (vC ZKD ZL5) [.tmp 2]]
def Zh9(xs:zI)(n0:Int):Zaa:=[]
abbrev Zg9(xs:zI)(n0:Int):List AFrame×Zaa:=(Zkz xs n0,Zh9 xs n0)
def ZGe(A:Ar)(K:KT)(F:FT)(xs:zI):Prop:=K (Zg9 xs 0)
theorem ZMo{A:Ar}{K:KT}{F:FT}{M:MT}{xs:zI} :Zah A tab N0 13 K F M (.run 12 (.hd)) (ZPU xs) []=ZGe A K F xs:=by kernel_rfl
def ZcG(A:Ar)(K:KT)(F:FT)(xs:zI)(n0:Int):Prop:=let u0:=rB [A.inR .i64 (A.add n0 1)] (K (Zg9 xs (A.add n0 1)));let u1:=A.nat n0;let u2:=A.len xs;bB (A.lt n0 (A.int u2)) (rB [Zac (Zac (A.le 0 n0) (Nat.blt u1 u2)) true] (bB (A.not (A.eq (A.nth xs u1) 0)) (rB [Zac (Zac (A.le 0 n0) (Nat.blt u1 u2)) true] (bB (A.not (A.eq (A.nth xs u1) 1)) (F (AV.bool false) none) u0)) u0)) (F (AV.bool true) none)
theorem ZmK{A:Ar}{K:KT}{F:FT}{M:MT}{xs:zI}{n0:Int} :Zah A tab N0 13 K F M (.run 9 (.tf (.run 11 (.tf (.ty (.ty (.ty (.ty (.ty (.run 2 (.tf (.run 5 (.fn)) (.run 9 (.hd))))))))) (.fy (.fy (.fy (.fy (.fy (.run 2 (.fy (.run 9 (.hd))))))))))) (.run 6 (.fn)))) (Zkz xs n0) (Zh9 xs n0)=ZcG A K F xs n0:=by kernel_rfl
def ZIr(xs:zI)(n:Int):AFrame:=vF 17 18 [vL 0 xs,vI 1 n] [.code a17.code] [.tmp 4]
def ZPn(xs:zI)(n:Int):List AFrame:=[(ZIr xs n)]
theorem ZAG(xs:zI)(n:Int):Zak tab 17 [AV.list (.ints .i64 xs),AV.int .i64 n]=some (ZIr xs n):=rfl
def Zj3(xs:zI)(n n0:Int):List AFrame:=[vF 17 18 [vL 0 xs,vI 1 n,vI 5 n0] (vC ZG0 ZLA) [.tmp 4]]
def Zgk(xs:zI)(n n0:Int):Zaa:=[]
abbrev ZlA(xs:zI)(n n0:Int):List AFrame×Zaa:=(Zj3 xs n n0,Zgk xs n n0)
def ZG3(A:Ar)(K:KT)(F:FT)(xs:zI)(n:Int):Prop:=K (ZlA xs n 0)
theorem ZNJ{A:Ar}{K:KT}{F:FT}{M:MT}{xs:zI}{n:Int} :Zah A tab N0 17 K F M (.run 12 (.hd)) (ZPn xs n) []=ZG3 A K F xs n:=by kernel_rfl
def ZeT(A:Ar)(K:KT)(F:FT)(xs:zI)(n n0:Int):Prop:=bB (A.lt n0 (A.int (A.len xs))) (rB [Zac (Zac (A.le 0 n0) (Nat.blt (A.nat n0) (A.len xs))) true] (bB (A.eq (A.nth xs (A.nat n0)) n) (F (AV.bool true) none) (rB [A.inR .i64 (A.add n0 1)] (K (ZlA xs n (A.add n0 1)))))) (F (AV.bool false) none)
theorem Zna{A:Ar}{K:KT}{F:FT}{M:MT}{xs:zI}{n n0:Int} :Zah A tab N0 17 K F M (.run 9 (.tf (.run 12 (.tf (.run 5 (.fn)) (.run 9 (.hd)))) (.run 6 (.fn)))) (Zj3 xs n n0) (Zgk xs n n0)=ZeT A K F xs n n0:=by kernel_rfl
def ZJd(a b:Int):AFrame:=vF 55 23 [vI 0 a,vI 1 b] [.code a55.code] [.tmp 4]
def ZPt(a b:Int):List AFrame:=[(ZJd a b)]
theorem ZCn(a b:Int):Zak tab 55 [AV.int .i64 a,AV.int .i64 b]=some (ZJd a b):=rfl
def ZjO(n0 n1 n2:Int):List AFrame:=[vF 55 23 [vI 0 n0,vI 1 n1,vI 5 n2] (vC ZJP ZLO) [.tmp 4]]
def Zgf(n0 n1 n2:Int):Zaa:=[]
abbrev ZcI(n0 n1 n2:Int):List AFrame×Zaa:=(ZjO n0 n1 n2,Zgf n0 n1 n2)
def ZGc(A:Ar)(K:KT)(F:FT)(a b:Int):Prop:=K (ZcI a b 0)
theorem ZLx{A:Ar}{K:KT}{F:FT}{M:MT}{a b:Int} :Zah A tab N0 55 K F M (.run 12 (.hd)) (ZPt a b) []=ZGc A K F a b:=by kernel_rfl
def ZeB(A:Ar)(K:KT)(F:FT)(n0 n1 n2:Int):Prop:=let u0:=A.shl n0 1;let u1:=A.bits .xor .i64 u0 19;let u2:=A.shr n1 1;let u3:=A.bits .xor .i64 n2 n0;bB (A.lt 0 n1) (bB (A.eq (A.bits .and .i64 n1 1) 1) (rB [Zac (Zac (A.le 0 1) (Nat.blt (A.nat 1) 64)) (A.inR .i64 u0)] (bB (A.le 16 u0) (rB [Zac (A.le 0 1) (Nat.blt (A.nat 1) 64)] (K (ZcI u1 u2 u3))) (rB [Zac (A.le 0 1) (Nat.blt (A.nat 1) 64)] (K (ZcI u0 u2 u3))))) (rB [Zac (Zac (A.le 0 1) (Nat.blt (A.nat 1) 64)) (A.inR .i64 u0)] (bB (A.le 16 u0) (rB [Zac (A.le 0 1) (Nat.blt (A.nat 1) 64)] (K (ZcI u1 u2 n2))) (rB [Zac (A.le 0 1) (Nat.blt (A.nat 1) 64)] (K (ZcI u0 u2 n2)))))) (F (AV.int .i64 n2) none)
theorem ZnA{A:Ar}{K:KT}{F:FT}{M:MT}{n0 n1 n2:Int} :Zah A tab N0 55 K F M (.run 7 (.tf (.run 10 (.tf (.run 17 (.tf (.run 13 (.hd)) (.run 9 (.hd)))) (.run 12 (.tf (.run 13 (.hd)) (.run 9 (.hd)))))) (.run 7 (.fn)))) (ZjO n0 n1 n2) (Zgf n0 n1 n2)=ZeB A K F n0 n1 n2:=by kernel_rfl
def ZJJ(a b:Int):AFrame:=vF 95 10 [vI 0 a,vI 1 b] [.code a95.code] [.tmp 4]
def ZPQ(a b:Int):List AFrame:=[(ZJJ a b)]
theorem ZDP(a b:Int):Zak tab 95 [AV.int .i64 a,AV.int .i64 b]=some (ZJJ a b):=rfl
def ZKG(A:Ar)(K:KT)(F:FT)(a b:Int):Prop:=bB (A.eq a 0) (F (AV.int .i64 b) none) (rB [A.inR .i64 (A.neg b)] (F (AV.int .i64 (A.neg b)) none))
theorem ZL9{A:Ar}{K:KT}{F:FT}{M:MT}{a b:Int} :Zah A tab N0 95 K F M (.run 10 (.tf (.run 6 (.fn)) (.run 8 (.fn)))) (ZPQ a b) []=ZKG A K F a b:=by kernel_rfl
def ZKM(m g0 g1:Int)(xs:zI):AFrame:=vF 91 7 [(0,AV.agg (Row.gen [.int .i64 m, .int .i64 g0, .int .i64 g1, .list (.ints .i64 xs)]))] [.code a91.code] [.tmp 2]
def ZPw(m g0 g1:Int)(xs:zI):List AFrame:=[(ZKM m g0 g1 xs)]
theorem ZCC(m g0 g1:Int)(xs:zI):Zak tab 91 [AV.agg (Row.gen [.int .i64 m, .int .i64 g0, .int .i64 g1, .list (.ints .i64 xs)])]=some (ZKM m g0 g1 xs):=rfl
def ZJf(A:Ar)(K:KT)(F:FT)(m g0 g1:Int)(xs:zI):Prop:=let u0:=A.quo (A.int (A.len xs)) 2;rB [Zac (A.not (A.eq 2 0)) (A.inR .i64 u0)] (F (AV.int .i64 u0) none)
theorem ZMN{A:Ar}{K:KT}{F:FT}{M:MT}{m g0 g1:Int}{xs:zI} :Zah A tab N0 91 K F M (.run 14 (.fn)) (ZPw m g0 g1 xs) []=ZJf A K F m g0 g1 xs:=by kernel_rfl
def ZEQ(m g0 g1:Int)(xs:zI):AFrame:=vF 93 7 [(0,AV.agg (Row.gen [.int .i64 m, .int .i64 g0, .int .i64 g1, .list (.ints .i64 xs)]))] [.code a93.code] [.tmp 2]
def ZQL(m g0 g1:Int)(xs:zI):List AFrame:=[(ZEQ m g0 g1 xs)]
theorem ZDg(m g0 g1:Int)(xs:zI):Zak tab 93 [AV.agg (Row.gen [.int .i64 m, .int .i64 g0, .int .i64 g1, .list (.ints .i64 xs)])]=some (ZEQ m g0 g1 xs):=rfl
def ZGX(A:Ar)(K:KT)(F:FT)(m g0 g1:Int)(xs:zI):Prop:=rB [Zac (Zac (A.le 0 m) (Nat.blt (A.nat m) 64)) (A.inR .i64 (A.shl 1 m))] (F (AV.int .i64 (A.shl 1 m)) none)
theorem ZNc{A:Ar}{K:KT}{F:FT}{M:MT}{m g0 g1:Int}{xs:zI} :Zah A tab N0 93 K F M (.run 14 (.fn)) (ZQL m g0 g1 xs) []=ZGX A K F m g0 g1 xs:=by kernel_rfl
end Go.Proofs.YtjhldefnjghcdaaGreat
namespace Go.Proofs.YtjhldefnjghcdaaGreat
def Zaf(n a b:Int):Bool:=decide (a≤n∧n≤b)
def Zaj:zI→Int
 |[]=>0
 |x::xs=>if x=0 then Zaj xs else x
def Zae(b:Bool)(e:Int):Int:=if b=true then 0 else e
theorem ZdE{xs:zI}{k:Nat}(h:k<xs.length):xs.drop k=xs.getD k 0::xs.drop (k+1):=by
 rw[List.drop_eq_getElem_cons h,List.getD_eq_getElem?_getD,List.getElem?_eq_getElem h];rfl
theorem ZpY{α:Type}{xs:List α}{k:Nat}{d:α}(h:k<xs.length):xs.take (k+1)=xs.take k++[xs.getD k d]:=by
 rw[List.take_add_one,List.getElem?_eq_getElem h,List.getD_eq_getElem?_getD,List.getElem?_eq_getElem h];rfl
theorem ZbC{α:Type}{xs:List α}{n:Nat}{d:α}(h:n<xs.length):xs.getD n d∈xs:=by
 rw[List.getD_eq_getElem?_getD,List.getElem?_eq_getElem h];exact List.getElem_mem h
def Za9:zI→zI→Int
 |x::xs,y::ys=>(if x=y then 0 else 1)+Za9 xs ys
 |_,_=>0
theorem ZsY:∀xs ys:zI,0≤Za9 xs ys∧Za9 xs ys≤xs.length
 |[],_=>by simp[Za9]
 |_::_,[]=>by simp[Za9];omega
 |x::xs,y::ys=>by
  have:=ZsY xs ys
  rw[Za9];split<;>simp<;>omega
def Zas(xs:zI):Bool:=xs.all fun x=>decide (x=0∨x=1)
section
variable {C:Ctx}(hC:C.P=Tryz.prog)
include hC
theorem Zp3(xs ys:zI)(hl:xs.length≤1000000∧xs.length=ys.length):∀m k:Nat,k+m=xs.length→Ev C (ZjN xs ys k) (Zih xs ys k) (ZaD 23 (.bool (decide (xs.drop k=ys.drop k))) none)
 |0,k,hk=>tgo hC ZbE Zm4 (by
  rw[List.drop_of_length_le (by omega),List.drop_of_length_le (by omega)]
  simp[ZeQ,show ¬(k:Int)<xs.length by omega])
 |m+1,k,hk=>by
  have ih:=Zp3 xs ys hl m (k+1) (by omega)
  rw[ZdE (show k<xs.length by omega),ZdE (show k<ys.length by omega)]
  refine tgo hC ZbE Zm4 ?_
  by_cases h:xs.getD k 0=ys.getD k 0
  ·simp[-List.getD_eq_getElem?_getD,ZeQ,show(k:Int)<xs.length by omega,show k<xs.length by omega,show k<ys.length by omega,h]
   exact⟨by omega,by simpa using ih⟩
  ·simp[-List.getD_eq_getElem?_getD,ZeQ,show(k:Int)<xs.length by omega,show k<xs.length by omega,show k<ys.length by omega,h]
theorem ZiG(xs:zI)(hl:xs.length≤1000000):∀m k:Nat,k+m=xs.length→Ev C (ZjW xs xs.length k) (Zg3 xs xs.length k) (ZaD 50 (.int .i64 (Zaj (xs.drop k))) none)
 |0,k,hk=>tgo hC ZbE Znh (by
  rw[List.drop_of_length_le (by omega)]
  simp[ZeW,show ¬(k:Int)<xs.length by omega,Zaj])
 |m+1,k,hk=>by
  have ih:=ZiG xs hl m (k+1) (by omega)
  have hlt:(k:Int)<xs.length:=by omega
  have hlt2:k<xs.length:=by omega
  rw[ZdE hlt2,Zaj]
  refine tgo hC ZbE Znh ?_
  by_cases h:xs.getD k 0=0
  ·simp[-List.getD_eq_getElem?_getD,ZeW,hlt,hlt2,h]
   exact⟨by omega,by simpa using ih⟩
  ·simp[-List.getD_eq_getElem?_getD,ZeW,hlt,hlt2,h]
theorem Zsg(xs:zI)(n:Int)(hl:xs.length≤1000000):∀m k:Nat,k+m=xs.length→Ev C (Zj3 xs n k) (Zgk xs n k) (ZaD 17 (.bool (decide (n∈xs.drop k))) none)
 |0,k,hk=>tgo hC ZbE Zna (by
  rw[List.drop_of_length_le (by omega)]
  simp[ZeT,show ¬(k:Int)<xs.length by omega])
 |m+1,k,hk=>by
  have ih:=Zsg xs n hl m (k+1) (by omega)
  have hlt:(k:Int)<xs.length:=by omega
  have hlt2:k<xs.length:=by omega
  rw[ZdE hlt2]
  refine tgo hC ZbE Zna ?_
  by_cases h:xs.getD k 0=n
  ·simp[-List.getD_eq_getElem?_getD,ZeT,hlt,hlt2,h]
  ·have h2:¬n=xs.getD k 0:=fun e=>h e.symm
   simp[-List.getD_eq_getElem?_getD,ZeT,hlt,hlt2,h,h2]
   exact⟨by omega,by simpa using ih⟩
theorem Zp4(xs:zI)(hl:xs.length≤1000000):∀m k:Nat,k+m=xs.length→Ev C (Zkz xs k) (Zh9 xs k) (ZaD 13 (.bool (Zas (xs.drop k))) none)
 |0,k,hk=>tgo hC ZbE ZmK (by
  rw[List.drop_of_length_le (by omega)]
  simp[ZcG,show ¬(k:Int)<xs.length by omega,Zas])
 |m+1,k,hk=>by
  have ih:=Zp4 xs hl m (k+1) (by omega)
  have hlt:(k:Int)<xs.length:=by omega
  have hlt2:k<xs.length:=by omega
  have e:Zas (xs.drop k)=(decide (xs.getD k 0=0∨xs.getD k 0=1)&&Zas (xs.drop (k+1))):=by rw[ZdE hlt2];rfl
  rw[e]
  refine tgo hC ZbE ZmK ?_
  by_cases h:xs.getD k 0=0
  ·simp[-List.getD_eq_getElem?_getD,ZcG,hlt,hlt2,h]
   exact⟨by omega,by simpa using ih⟩
  ·by_cases h1:xs.getD k 0=1
   ·simp[-List.getD_eq_getElem?_getD,ZcG,hlt,hlt2,h1]
    exact⟨by omega,by simpa using ih⟩
   ·simp[-List.getD_eq_getElem?_getD,ZcG,hlt,hlt2,h,h1]
end
theorem Zqq(a b c:Int):ZaK Tryz.prog 57 [.int .i64 a, .int .i64 b, .int .i64 c] (.bool (Zaf a b c)) none:=
 start (ZBm a b c) fun C hC=>tgo hC ZbE ZM6 (by by_cases h:b≤a<;>simp[ZH9,h,Zaf])
theorem Zrm(a b c:Int):ZaK Tryz.prog 28 [.int .i64 a, .int .i64 b, .int .i64 c] (.bool (Zaf a b c)) none:=
 start (ZA1 a b c) fun C hC=>tgo hC ZbE ZMH (by by_cases h:b≤a<;>simp[ZHv,h,Zaf])
theorem Zre(b:Bool)(e:Int):ZaK Tryz.prog 51 [.bool b, .int .i64 e] (.int .i64 (Zae b e)) none:=
 start (ZCe b e) fun C hC=>tgo hC ZbE ZLQ (by cases b<;>simp[ZHX,Zae])
theorem ZtA(xs:zI)(hl:xs.length≤1000000):ZaK Tryz.prog 50 [.list (.ints .i64 xs)] (.int .i64 (Zaj xs)) none:=
 start (ZBq xs) fun C hC=>tgo hC ZbE ZL6 (by
  have:=ZiG hC xs hl xs.length 0 (by omega)
  simp[ZFL]
  simpa using this)
theorem ZpN(xs:zI)(hl:xs.length≤1000000):ZaK Tryz.prog 12 [.list (.ints .i64 xs)] (.row 0 0) (some ⟨3,1, .ints .i64 xs⟩):=
 start (ZB2 xs) fun C hC=>tgo hC ZbE ZLG (by simp[ZI7];omega)
theorem ZuG(xs ys:zI)(hl:xs.length≤1000000):ZaK Tryz.prog 23 [.list (.ints .i64 xs), .list (.ints .i64 ys)] (.bool (decide (xs=ys))) none:=
 start (ZCX xs ys) fun C hC=>tgo hC ZbE ZMc (by
  by_cases h:xs.length=ys.length
  ·simp[ZDK,h]
   have:=Zp3 hC xs ys ⟨hl,h⟩ xs.length 0 (by omega)
   simpa using this
  ·have:xs≠ys:=fun e=>h (by rw[e])
   simp[ZDK,this,show ¬((xs.length:Int)=ys.length) by omega])
theorem ZvC(xs:zI)(hl:xs.length≤1000000):ZaK Tryz.prog 13 [.list (.ints .i64 xs)] (.bool (Zas xs)) none:=
 start (ZC1 xs) fun C hC=>tgo hC ZbE ZMo (by
  have:=Zp4 hC xs hl xs.length 0 (by omega)
  simp[ZGe]
  simpa using this)
theorem ZyW(xs:zI)(n:Int)(hl:xs.length≤1000000):ZaK Tryz.prog 17 [.list (.ints .i64 xs), .int .i64 n] (.bool (decide (n∈xs))) none:=
 start (ZAG xs n) fun C hC=>tgo hC ZbE ZNJ (by
  have:=Zsg hC xs n hl xs.length 0 (by omega)
  simp[ZG3]
  simpa using this)
def coI(a b:Int):Int:=if a=0 then b else -b
theorem ZCK(a b:Int)(h: -1000000≤b∧b≤1000000):ZaK Tryz.prog 95 [.int .i64 a, .int .i64 b] (.int .i64 (coI a b)) none:=
 start (ZDP a b) fun C hC=>tgo hC ZbE ZL9 (by
  by_cases h:a=0<;>simp[ZKG,h,coI];omega)
def k91:Ctr:=⟨57,0,fun _ a=>match a with |[.int .i64 a, .int .i64 b, .int .i64 c]=>some (true, .bool (Zaf a b c),none) |_=>none⟩
theorem ZJS:k91.OK Tryz.prog:=fun pa args r fr h=>by
 simp only[k91]at h
 split at h
 ·cases h
  exact Zqq _ _ _
 ·cases h
def k30:Ctr:=⟨28,0,fun _ a=>match a with |[.int .i64 a, .int .i64 b, .int .i64 c]=>some (true, .bool (Zaf a b c),none) |_=>none⟩
theorem ZFU:k30.OK Tryz.prog:=fun pa args r fr h=>by
 simp only[k30]at h
 split at h
 ·cases h
  exact Zrm _ _ _
 ·cases h
def k85:Ctr:=⟨51,0,fun _ a=>match a with |[.bool b, .int .i64 e]=>some (true, .int .i64 (Zae b e),none) |_=>none⟩
theorem ZKI:k85.OK Tryz.prog:=fun pa args r fr h=>by
 simp only[k85]at h
 split at h
 ·cases h
  exact Zre _ _
 ·cases h
def k72:Ctr:=⟨50,0,fun _ a=>match a with |[.list (.ints .i64 xs)]=>some (decide (xs.length≤1000000), .int .i64 (Zaj xs),none) |_=>none⟩
theorem ZH4:k72.OK Tryz.prog:=fun pa args r fr h=>by
 simp only[k72]at h
 split at h
 ·simp only[Option.some.injEq,Prod.mk.injEq,decide_eq_true_eq]at h
  obtain⟨h0,rfl,rfl⟩:=h
  exact ZtA _ h0
 ·cases h
def k14:Ctr:=⟨12,0,fun _ a=>match a with |[.list (.ints .i64 xs)]=>some (decide (xs.length≤1000000), .row 0 0,some ⟨3,1, .ints .i64 xs⟩) |_=>none⟩
theorem ZzK:k14.OK Tryz.prog:=fun pa args r fr h=>by
 simp only[k14]at h
 split at h
 ·simp only[Option.some.injEq,Prod.mk.injEq,decide_eq_true_eq]at h
  obtain⟨h0,rfl,rfl⟩:=h
  exact ZpN _ h0
 ·cases h
def k17:Ctr:=⟨23,0,fun _ a=>match a with |[.list (.ints .i64 xs), .list (.ints .i64 ys)]=>some (decide (xs.length≤1000000), .bool (decide (xs=ys)),none) |_=>none⟩
theorem ZKT:k17.OK Tryz.prog:=fun pa args r fr h=>by
 simp only[k17]at h
 split at h
 ·simp only[Option.some.injEq,Prod.mk.injEq,decide_eq_true_eq]at h
  obtain⟨h0,rfl,rfl⟩:=h
  exact ZuG _ _ h0
 ·cases h
def k33:Ctr:=⟨13,0,fun _ a=>match a with |[.list (.ints .i64 xs)]=>some (decide (xs.length≤1000000), .bool (Zas xs),none) |_=>none⟩
theorem ZFZ:k33.OK Tryz.prog:=fun pa args r fr h=>by
 simp only[k33]at h
 split at h
 ·simp only[Option.some.injEq,Prod.mk.injEq,decide_eq_true_eq]at h
  obtain⟨h0,rfl,rfl⟩:=h
  exact ZvC _ h0
 ·cases h
def k34:Ctr:=⟨17,0,fun _ a=>match a with |[.list (.ints .i64 xs), .int .i64 n]=>some (decide (xs.length≤1000000), .bool (decide (n∈xs)),none) |_=>none⟩
theorem ZKQ:k34.OK Tryz.prog:=fun pa args r fr h=>by
 simp only[k34]at h
 split at h
 ·simp only[Option.some.injEq,Prod.mk.injEq,decide_eq_true_eq]at h
  obtain⟨h0,rfl,rfl⟩:=h
  exact ZyW _ _ h0
 ·cases h
def k89:Ctr:=⟨95,0,fun _ a=>match a with |[.int .i64 a, .int .i64 b]=>some (decide (-1000000≤b∧b≤1000000), .int .i64 (coI a b),none) |_=>none⟩
theorem ZGw:k89.OK Tryz.prog:=fun pa args r fr h=>by
 simp only[k89]at h
 split at h
 ·simp only[Option.some.injEq,Prod.mk.injEq,decide_eq_true_eq]at h
  obtain⟨h0,rfl,rfl⟩:=h
  exact ZCK _ _ h0
 ·cases h
def N1:List Ctr:=[k91,k30,k85,k72,k14,k17,k33,k34,k89]++N0
theorem Zoo:Zar Tryz.prog N1:=⟨ZJS,⟨ZFU,⟨ZKI,⟨ZH4,⟨ZzK,⟨ZKT,⟨ZFZ,⟨ZKQ,⟨ZGw,ZbE⟩⟩⟩⟩⟩⟩⟩⟩⟩
end Go.Proofs.YtjhldefnjghcdaaGreat
