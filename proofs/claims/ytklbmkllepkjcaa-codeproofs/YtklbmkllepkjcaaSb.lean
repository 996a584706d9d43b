/- Arguments' readings, of whatever type of plain cells and slices. No condition. -/
import Derived.Test.YtklbmkllepkjcaaW1
import Derived.Deep.Slices
import Derived.KernelRfl
namespace Go.Proofs.Ytklbmkllepkjcaa
open Go.ChangeShapes Go.WideShapes Go.ChangeAt Go.RowKit Go.Deep
def Zpr(P:Program)(f:TypeId→Option (List Sh)):Nat→List Field→Option (List Sh)
 |_,[]=>some []
 |off,fd::fds=>match fd.offset==off,f fd.type with
  |true,some l=>(match P.cellsOf fd.type==l.length,Zpr P f (off+l.length) fds with
   |true,some r=>some (l++r)
   |_,_=>none)
  |_,_=>none
def ZxS(ag:Bool)(l:List Sh):Option Sh:=match ag,l with
 |_,[]=>none
 |true,s::ss=>some (.agg (s::ss))
 |false,[s]=>some s
 |false,_=>none
def ZAo:Sh→Sh
 | .int k=>.ints k
 |s=>.big s
def ZFe(P:Program)(f:TypeId→Option (List Sh)):TypeDesc→Option (List Sh)
 | .int k=>some [.int k]
 | .bool=>some [.bool]
 | .string=>some [.str]
 | .struct fs=>Zpr P f 0 fs.toList
 | .array n e=>match f e with
   |some l=>(match P.cellsOf e==l.length with |true=>some (List.replicate n l).flatten |false=>none)
   |none=>none
 | .slice e=>match f e,P.underlying e with
   |some l,some de=>(match P.cellsOf e==l.length,ZxS (ZaJ de) l with |true,some s=>some [ZAo s] |_,_=>none)
   |_,_=>none
 |_=>none
def Zuf(P:Program):Nat→TypeId→Option (List Sh)
 |0,_=>none
 |d+1,t=>match P.underlying t with
  |some td=>(match ZFe P (Zuf P d) td with
   |some l=>(match P.cellsOf t==l.length with |true=>some l |false=>none)
   |none=>none)
  |none=>none
def wfE(ss:List Sh)(x:AV):Prop:=∀(j:Nat) (k:IntKind),ss[j]? =some (.int k)→(Lit.int k (x.cellAt j).toI).wf=true
def wfV:AV→Prop
 | .int k n=>(Lit.int k n).wf=true
 | .list (.ints k l)=>∀x∈l,(Lit.int k x).wf=true
 | .list (.big (.agg ss) l)=>∀x∈l,wfE ss x
 |_=>True
def Sh.leaf:Sh→Bool
 | .agg _=>false
 |_=>true
def Cf(s:Sh)(u:AV):Prop:=(∃a,u=s.view1 a)∧wfV u∧s.leaf=true
def Cfs(ss:List Sh)(us:List AV):Prop:=us.length=ss.length∧∀(j:Nat) (s:Sh) (u:AV),ss[j]? =some s→us[j]? =some u→Cf s u
def Rd(W:World)(L:Lay)(ss:List Sh)(cs:List Value):Prop:=∃us:List AV,RelL W (Zj4 W) [] L us cs∧(∀c∈cs,c.oneCell'=true)∧Cfs ss us
section
variable {H:Type}{enc:TypeId×Value→H}{P:Program}{W:World}{L:Lay}
theorem Cfs.app{s1 s2:List Sh}{u1 u2:List AV}(h1:Cfs s1 u1)(h2:Cfs s2 u2):Cfs (s1++s2) (u1++u2):=by
 refine⟨by simp[h1.1,h2.1],fun j s u hs hu=>?_⟩
 by_cases hj:j<s1.length
 ·rw[List.getElem?_append_left hj]at hs
  rw[List.getElem?_append_left (by rw[h1.1];exact hj)]at hu
  exact h1.2 j s u hs hu
 ·rw[List.getElem?_append_right (by omega)]at hs
  rw[List.getElem?_append_right (by rw[h1.1];omega),h1.1]at hu
  exact h2.2 _ s u hs hu
theorem Rd.app{s1 s2:List Sh}{c1 c2:List Value}(h1:Rd W L s1 c1)(h2:Rd W L s2 c2):Rd W L (s1++s2) (c1++c2):=by
 obtain⟨u1,r1,o1,f1⟩:=h1
 obtain⟨u2,r2,o2,f2⟩:=h2
 exact⟨u1++u2,r1.append r2,fun c hc=>(List.mem_append.1 hc).elim (o1 c) (o2 c),f1.app f2⟩
theorem Rd.nil:Rd W L [] []:=⟨[],RelL.nil,by simp,rfl,fun j s u hs=>by simp at hs⟩
theorem Rd.len{ss:List Sh}{cs:List Value}(h:Rd W L ss cs):cs.length=ss.length:=by
 obtain⟨us,r,_,f⟩:=h
 rw[←r.1,f.1]
theorem Rd.one{s:Sh}{v:Value}{u:AV}(hr:Rel W (Zj4 W) [] L u v)(h1:v.oneCell'=true)(hc:Cf s u):Rd W L [s] [v]:=
 ⟨[u],RelL.cons hr RelL.nil,by simpa using h1,rfl,fun j s' u' hs hu=>by
   cases j with
   |zero=>simp at hs hu;subst hs;subst hu;exact hc
   |succ j=>simp at hs⟩
theorem ZB1{f:TypeId→Option (List Sh)}{n:Nat}(IH:∀t ss,f t=some ss→∀fuel cs x,DataW.trod enc P W 0 (fun _=>true) true fuel t cs=some x→Rd W L ss cs){cs:List Value} :
 ∀(fs:List Field) (off:Nat) (ss:List Sh),Zpr P f off fs=some ss→(∀(i:Nat) (fd:Field),fs[i]? =some fd→∃x,DataW.trod enc P W 0 (fun _=>true) true n fd.type ((cs.drop fd.offset).take (P.cellsOf fd.type))=some x)→
 (cs.drop off).length=ss.length→Rd W L ss (cs.drop off)
 |[],off,ss,h,_,hl=>by
  simp only[Zpr,Option.some.injEq]at h
  subst h
  rw[List.eq_nil_of_length_eq_zero hl]
  exact Rd.nil
 |fd::fds,off,ss,h,hx,hl=>by
  simp only[Zpr]at h
  split at h
  ·rename_i l ho hfl
   split at h
   ·rename_i r hcl hr
    simp only[Option.some.injEq]at h
    subst h
    have ho:fd.offset=off:=by simpa using ho
    have hcl:P.cellsOf fd.type=l.length:=by simpa using hcl
    obtain⟨x,hxx⟩:=hx 0 fd rfl
    rw[ho,hcl]at hxx
    have h1:=IH _ _ hfl _ _ _ hxx
    have h2:=ZB1 IH fds (off+l.length) r hr (fun i fd' h'=>hx (i+1) fd' (by simpa using h')) (by simp at hl ⊢;omega)
    have:=h1.app h2
    rw[show cs.drop (off+l.length)=(cs.drop off).drop l.length by rw[List.drop_drop],List.take_append_drop]at this
    exact this
   ·cases h
  ·cases h
theorem Zut{l:List Sh}{n c:Nat}{e:TypeId}{cs:List Value}(hc:c=l.length)(IH:∀i,i<n→Rd W L l ((cs.drop (i*c)).take c)):
 ∀(k s:Nat),s+k=n→cs.length=n*c→Rd W L (List.replicate k l).flatten (cs.drop (s*c))
 |0,s,hs,hl=>by
  rw[List.drop_of_length_le (by rw[hl,←hs];simp)]
  exact Rd.nil
 |k+1,s,hs,hl=>by
  have h1:=IH s (by omega)
  have h2:=Zut (e:=e) hc IH k (s+1) (by omega) hl
  have:=h1.app h2
  rw[Nat.add_mul,Nat.one_mul,show cs.drop (s*c+c)=(cs.drop (s*c)).drop c by rw[List.drop_drop],List.take_append_drop]at this
  rw[List.replicate_succ,List.flatten_cons]
  exact this
theorem Zgt:∀ {l:List AV},(∀u∈l,u.pure=true)→AV.pureL l=true
 |[],_=>rfl
 |u::l,h=>by simp only[AV.pureL,Bool.and_eq_true];exact⟨h u (by simp),Zgt fun v hv=>h v (by simp[hv])⟩
theorem Zj6{α:Type}{sz:Nat}(g:Nat→List α):∀(n:Nat),(∀i,i<n→(g i).length=sz)→∀j,((List.range n).flatMap g)[j]? =if j<n*sz then(g (j/sz))[j%sz]? else none
 |0,_,j=>by simp
 |n+1,hg,j=>by
  have ih:=Zj6 g n (fun i hi=>hg i (by omega))
  have hlen:((List.range n).flatMap g).length=n*sz:=by
   apply Nat.le_antisymm
   ·have h1:=ih (n*sz)
    rw[if_neg (by omega)]at h1
    simpa using h1
   ·rcases Nat.lt_or_ge ((List.range n).flatMap g).length (n*sz)with h |h
    ·have h1:=ih ((List.range n).flatMap g).length
     rw[if_pos h,List.getElem?_eq_none (Nat.le_refl _)]at h1
     have hz:0<sz:=by rcases Nat.eq_zero_or_pos sz with h0 |h0;· subst h0;simp at h
                      ·exact h0
     have h2:((List.range n).flatMap g).length/sz<n:=by rw[Nat.div_lt_iff_lt_mul hz];exact h
     rw[List.getElem?_eq_getElem (by rw[hg _ (by omega)];exact Nat.mod_lt _ hz)]at h1
     cases h1
    ·exact h
  rw[List.range_succ,List.flatMap_append,List.flatMap_singleton]
  by_cases hj:j<n*sz
  ·rw[List.getElem?_append_left (by omega),ih,if_pos hj,if_pos (by rw[Nat.add_mul];omega)]
  ·rw[List.getElem?_append_right (by omega),hlen]
   by_cases hj2:j<(n+1)*sz
   ·rw[if_pos hj2]
    rw[Nat.add_mul,Nat.one_mul]at hj2
    have hz:0<sz:=by omega
    have e1:j/sz=n:=by
     rw[Nat.div_eq_iff hz];constructor
     ·rw[Nat.mul_comm]at hj ⊢;omega
     ·omega
    have e2:j%sz=j-n*sz:=by
     have:=Nat.div_add_mod j sz
     rw[e1,Nat.mul_comm]at this;omega
    rw[e1,e2]
   ·rw[if_neg hj2]
    exact List.getElem?_eq_none (by rw[hg n (by omega)];rw[Nat.add_mul]at hj2;omega)
theorem Zob(s:Sh)(a:AV):s.view1 (s.view1 a)=s.view1 a:=by cases s<;>rfl
theorem Zlu:∀ {ss:List Sh} {us pre:List AV},Cfs ss us→ZeA ss pre.length (.agg (.gen (pre++us)))=us
 |[],us,pre,h=>by have:=h.1;cases us<;>simp at this;rfl
 |s::ss,us,pre,h=>by
  cases us with
  |nil=>have:=h.1;simp at this
  |cons u us=>
   obtain⟨a,rfl⟩:=(h.2 0 s u rfl rfl).1
   have ht:Cfs ss us:=⟨by have:=h.1;simpa using this,fun j s' u' hs hu=>h.2 (j+1) s' u' (by simpa using hs) (by simpa using hu)⟩
   have:=Zlu (pre:=pre++[s.view1 a]) ht
   rw[List.append_assoc,List.length_append]at this
   simp only[List.length_singleton,List.singleton_append]at this
   simp only[ZeA,this]
   congr 1
   simp only[AV.cellAt,List.getD_eq_getElem?_getD,List.getElem?_append_right (Nat.le_refl _),Nat.sub_self,List.getElem?_cons_zero,Option.getD_some]
   exact Zob s a
theorem Zsc{ss:List Sh}{us:List AV}(h:Cfs ss us):∀u∈us,u.pure=true∧u.single=true:=fun u hu=>by
 obtain⟨j,hj⟩:=List.mem_iff_getElem?.1 hu
 have hlt:=(List.getElem?_eq_some_iff.1 hj).1
 obtain⟨a,rfl⟩:=(h.2 j _ u (List.getElem?_eq_getElem (by rw[←h.1];exact hlt)) hj).1
 exact⟨Zf4 _ _,Zc5 _ _⟩
def ZwX(ag:Bool)(us:List AV):AV:=match ag with |true=>.agg (.gen us) |false=>us.getD 0 .top
theorem Zh7{ag:Bool}{ss:List Sh}{s:Sh}{us:List AV}(hs:ZxS ag ss=some s)(h:Cfs ss us):s.view (ZwX ag us)=ZwX ag us∧(ZwX ag us).flat=us:=by
 unfold ZxS at hs
 split at hs
 ·cases hs
 ·rename_i s1 ss1
  cases hs
  refine⟨?_,rfl⟩
  have:=Zlu (pre:=[]) h
  simp only[List.nil_append,List.length_nil]at this
  simp only[Sh.view,ZwX,this]
 ·rename_i s1
  cases hs
  have hl:=h.1
  match us,hl with
  |[u],_=>
   obtain⟨⟨a,rfl⟩,_,hlf⟩:=h.2 0 _ u rfl rfl
   refine⟨?_,Zbh (Zc5 _ _)⟩
   show s.view (s.view1 a)=s.view1 a
   cases s with
   |agg l=>cases hlf
   |_=>rfl
 ·cases hs
def Zfd(s:Sh)(es:List AV):Row:=match s with
 | .int k=>.ints k (es.map AV.toI)
 |s=>.big s es
theorem Zgz(s:Sh)(es:List AV):(Zfd s es).elems=es.map s.view:=by
 cases s<;>simp[Zfd,Row.elems,Sh.view,Sh.view1,List.map_map,Function.comp_def]
theorem Zg6(s:Sh)(es:List AV):AV.list (Zfd s es)=(ZAo s).view1 (.list (Zfd s es)):=by cases s<;>rfl
theorem Zlc(s:Sh):(ZAo s).leaf=true:=by cases s<;>rfl
theorem ZmM{g:Nat→AV}{u:Nat→List AV}{n:Nat}(h:∀i,i<n→(g i).flat=u i):Zaf ((List.range n).map g)=(List.range n).flatMap u:=by
 unfold Zaf
 rw[List.flatMap_map]
 exact flatMap_congr_range h
theorem ZBA(a:Addr)(i sz j:Nat):(a.add (i*sz)).add j=a.add (i*sz+j):=Zfu a _ _
theorem Zzj{t e:TypeId}{de:TypeDesc}{l:List Sh}{s:Sh}(ht:P.underlying t=some (.slice e))(hcl:P.cellsOf e=l.length)(hs:ZxS (ZaJ de) l=some s)
 (IH:∀fuel cs x,DataW.trod enc P W 0 (fun _=>true) true fuel e cs=some x→Rd W L l cs) {fuel:Nat} {cs:List Value} {x:DataW H×List MemPlace} (h:DataW.trod enc P W 0 (fun _=>true) true fuel t cs=some x):Rd W L [ZAo s] cs:=by
 have hpos:0<l.length:=by
  unfold ZxS at hs
  split at hs<;>first |(cases hs;done) |simp
 have emp:∀ad c,Rd W L [ZAo s] [.slice ad 0 c]:=fun ad c=>Rd.one (u:=.list (Zfd s [])) (.nil _ ad c (by rw[Zgz];rfl)) rfl ⟨⟨_,Zg6 s []⟩,by cases s<;>simp[Zfd,wfV],Zlc s⟩
 rcases open_slice ht h with⟨rfl,_⟩ |⟨a,len,cap,m,n,D,Pl,rfl,hb,hl,hm,hmm,_,hx⟩
 ·exact emp none 0
 ·by_cases h0:len=0
  ·subst h0;exact emp (some a) cap
  ·simp only[if_true]at hmm
   subst hmm
   obtain⟨F,hF⟩:=choose_lt (α:=List Value×List AV) (n:=len) (p:=fun i p=>W.cells? 0 (a.add (i*P.cellsOf e)) (P.cellsOf e)=some p.1∧RelL W (Zj4 W) [] L p.2 p.1∧(∀c∈p.1,c.oneCell'=true)∧Cfs l p.2) (fun i hi=>by
    obtain⟨cs',h1,h2⟩:=hx i (by omega)
    obtain⟨us,r,o,f⟩:=IH _ _ _ h2
    exact⟨(cs',us),h1,r,o,f⟩)
   rw[hcl]at hF
   have hcells:∀i,i<len→(F i).1.length=l.length∧∀j,j<l.length→W.cell? (a.add (i*l.length+j))=(F i).1[j]?:=fun i hi=>by
    obtain⟨_,g1,g2⟩:=World.cells?_some (hF i hi).1
    exact⟨g1,fun j hj=>by rw[←ZBA];exact g2 j hj⟩
   have hul:∀i,i<len→(F i).2.length=l.length:=fun i hi=>(hF i hi).2.2.2.1
   obtain⟨es,hes⟩:∃es,es=(List.range len).map fun i=>ZwX (ZaJ de) (F i).2:=⟨_,rfl⟩
   have hview:es.map s.view=es:=by
    rw[hes,List.map_map]
    exact List.map_congr_left fun i hi=>(Zh7 hs (hF i (List.mem_range.1 hi)).2.2.2).1
   have hfl:Zaf es=(List.range len).flatMap fun i=>(F i).2:=by
    rw[hes];exact ZmM fun i hi=>(Zh7 hs (hF i hi).2.2.2).2
   have hsz:∀x∈es,x.flat.length=l.length:=fun x hx=>by
    rw[hes]at hx
    obtain⟨i,hi,rfl⟩:=List.mem_map.1 hx
    rw[(Zh7 hs (hF i (List.mem_range.1 hi)).2.2.2).2]
    exact hul i (List.mem_range.1 hi)
   have hlen:es.length=len:=by rw[hes];simp
   have gU:=Zj6 (fun i=>(F i).2) len hul
   have gV:=Zj6 (fun i=>(F i).1) len (fun i hi=>(hcells i hi).1)
   have hlt:a.block<W.heap.size:=by
    have h1:=(hcells 0 (by omega)).2 0 hpos
    rw[List.getElem?_eq_getElem (by rw[(hcells 0 (by omega)).1];exact hpos)]at h1
    have:=ZxT h1
    rw[Zcp]at this;exact this
   have hidx:∀j,j<len*l.length→j/l.length<len∧j%l.length<l.length:=fun j hj=>⟨by rw[Nat.div_lt_iff_lt_mul hpos];exact hj,Nat.mod_lt _ hpos⟩
   refine Rd.one (u:=.list (Zfd s es)) ?_ rfl ⟨⟨_,Zg6 s es⟩,?_,Zlc s⟩
   ·refine .list (Zfd s es) es (by rw[Zgz,hview]) a len _ l.length ((List.range len).flatMap fun i=>(F i).1) hlt hlt hlen.symm hl hsz ?_ ?_ ?_ ?_ ?_
    ·rw[hfl]
     have e1:∀(g:Nat→List Value) (k:Nat→List AV) (n:Nat),(∀i,i<n→(g i).length=(k i).length)→((List.range n).flatMap g).length=((List.range n).flatMap k).length:=by
      intro g k n
      induction n with
      |zero=>intro _;rfl
      |succ n ih=>
       intro hgk
       rw[List.range_succ,List.flatMap_append,List.flatMap_append,List.length_append,List.length_append,ih (fun i hi=>hgk i (by omega))]
       simp[hgk n (by omega)]
     exact e1 _ _ _ fun i hi=>by rw[(hcells i hi).1,hul i hi]
    ·intro c hc
     obtain⟨i,hi,hc⟩:=List.mem_flatMap.1 hc
     exact(hF i (List.mem_range.1 hi)).2.2.1 c hc
    ·intro j v hj
     rw[gV j]at hj
     split at hj
     ·rename_i hjl
      obtain⟨q1,q2⟩:=hidx j hjl
      have:=(hcells _ q1).2 _ q2
      rw[show j/l.length*l.length+j%l.length=j by rw[Nat.mul_comm];exact Nat.div_add_mod j _]at this
      rw[this,hj]
     ·cases hj
    ·rw[hfl]
     exact Zgt fun u hu=>by
      obtain⟨i,hi,hu⟩:=List.mem_flatMap.1 hu
      exact(Zsc (hF i (List.mem_range.1 hi)).2.2.2 u hu).1
    ·intro j u v hu hv
     rw[hfl,gU j]at hu
     rw[gV j]at hv
     split at hu
     ·rename_i hjl
      rw[if_pos hjl]at hv
      exact(hF _ (hidx j hjl).1).2.1.2 _ u v hu hv
     ·cases hu
   ·unfold Zfd
    split
    ·rename_i k
     simp only[wfV]
     intro z hz
     obtain⟨e1,he1,rfl⟩:=List.mem_map.1 hz
     rw[hes]at he1
     obtain⟨i,hi,rfl⟩:=List.mem_map.1 he1
     have hc:=(hF i (List.mem_range.1 hi)).2.2.2
     unfold ZxS at hs
     split at hs
     ·cases hs
     ·cases hs
     ·rename_i s1 hag
      cases hs
      have hl1:=hc.1
      rw[show ZaJ de=false from by first |assumption |(rename_i hx _ _;exact hx)] 
      match hq:(F i).2,hl1 with
      |[u],_=>
       obtain⟨⟨a,ha⟩,hw,_⟩:=hc.2 0 (.int k) u rfl (by rw[hq];rfl)
       subst ha
       exact hw
     ·cases hs
    ·cases s with
     |agg ss=>
      show ∀x∈es,wfE ss x
      intro x hx j k hj
      rw[hes]at hx
      obtain⟨i,hi,rfl⟩:=List.mem_map.1 hx
      have hc:=(hF i (List.mem_range.1 hi)).2.2.2
      unfold ZxS at hs
      split at hs
      ·cases hs
      ·rename_i s1 ss1 hag
       cases hs
       rw[show ZaJ de=true from by first |assumption |(rename_i hx2 _ _;exact hx2)]
       have hlt2:j<(F i).2.length:=by
        rw[hc.1]
        exact(List.getElem?_eq_some_iff.1 hj).1
       obtain⟨⟨a,ha⟩,hw,_⟩:=hc.2 j (.int k) _ hj (List.getElem?_eq_getElem hlt2)
       have he:(ZwX true (F i).2).cellAt j=(F i).2[j]:=by simp[ZwX,AV.cellAt,List.getD_eq_getElem?_getD,List.getElem?_eq_getElem hlt2]
       rw[he,ha]
       rw[ha]at hw
       exact hw
      ·rename_i s1 hag
       cases hs
       have hl1:=hc.1
       match hq:(F i).2,hl1 with
       |[u],_=>
        obtain⟨_,_,hlf⟩:=hc.2 0 (.agg ss) u rfl (by rw[hq];rfl)
        cases hlf
      ·cases hs
     |_=>trivial
theorem Zq7:∀(d:Nat) (t:TypeId) (ss:List Sh),Zuf P d t=some ss→∀(fuel:Nat) (cs:List Value) (x:DataW H×List MemPlace),DataW.trod enc P W 0 (fun _=>true) true fuel t cs=some x→Rd W L ss cs
 |0,t,ss,h,_,_,_,_=>by simp[Zuf]at h
 |d+1,t,ss,h,fuel,cs,x,hx=>by
  have IH:=Zq7 d
  simp only[Zuf]at h
  split at h
  ·rename_i td ht
   split at h
   ·rename_i l hl
    split at h
    ·rename_i hsz
     simp only[Option.some.injEq]at h
     subst h
     have hsz:P.cellsOf t=l.length:=by simpa using hsz
     unfold ZFe at hl
     split at hl
     ·rename_i k
      cases hl
      obtain⟨n,rfl,_,hw⟩:=DataW.trod_int ht hx
      exact Rd.one (.int k n) rfl ⟨⟨.int k n,rfl⟩,hw,rfl⟩
     ·cases hl
      obtain⟨b,rfl,_⟩:=DataW.trod_bool ht hx
      exact Rd.one (.bool b) rfl ⟨⟨.bool b,rfl⟩,trivial,rfl⟩
     ·cases hl
      obtain⟨s,rfl,_,_⟩:=DataW.trod_string ht hx
      have e:s=⟨s.data.toList.toArray⟩:=by simp
      refine Rd.one (u:=.str s.data.toList) ?_ rfl ⟨⟨.str s.data.toList,rfl⟩,trivial,rfl⟩
      have:=Rel.str (w:=W) (ok:=Zj4 W) (h:=[]) (L:=L) s.data.toList
      rw[←e]at this
      exact this
     ·rename_i fs
      obtain⟨xs,n,_,_,hlen,hxl,hf⟩:=DataW.trod_struct ht hx
      have:=ZB1 (P:=P) (W:=W) (L:=L) (enc:=enc) (n:=n) IH (cs:=cs) fs.toList 0 l hl (fun i fd hfd=>by
       have hfd':fs[i]? =some fd:=by simpa using hfd
       have h1:=hf i fd hfd'
       have hi:i<xs.length:=by rw[hxl];exact(Array.getElem?_eq_some_iff.1 hfd').1
       exact⟨xs[i],by rw[h1,List.getElem?_eq_getElem hi]⟩) (by simp[hlen,hsz])
      simpa using this
     ·rename_i n e
      split at hl
      ·rename_i le hle
       split at hl
       ·rename_i hce
        simp only[Option.some.injEq]at hl
        subst hl
        have hce:P.cellsOf e=le.length:=by simpa using hce
        obtain⟨xs,m,_,_,hlen,hxl,hf⟩:=DataW.trod_array ht hx
        have:=Zut (W:=W) (L:=L) (l:=le) (n:=n) (c:=P.cellsOf e) (e:=e) (cs:=cs) hce (fun i hi=>by
         have h1:=hf i hi
         rw[List.getElem?_eq_getElem (by rw[hxl];exact hi)]at h1
         exact IH _ _ hle _ _ _ h1) n 0 (by simp) (by rw[hlen,hsz,hce];simp)
        simpa using this
       ·cases hl
      ·cases hl
     ·rename_i e
      split at hl
      ·rename_i le de hle hde
       split at hl
       ·rename_i s hce hs
        simp only[Option.some.injEq]at hl
        subst hl
        exact Zzj ht (by simpa using hce) hs (fun fuel cs x hx=>IH _ _ hle fuel cs x hx) hx
       ·cases hl
      ·cases hl
     ·cases hl
    ·cases h
   ·cases h
  ·cases h
theorem Zzw{d:Nat}{t:TypeId}{ss:List Sh}(hs:Zuf P d t=some ss){v:Value}{dd:DataW H}{ps:List MemPlace}(hv:∃cs,v=.agg cs∧cs.size=P.cellsOf t)(h:DataW.Trod enc P W 0 (fun _=>true) true t v dd ps):
 ∃us,Rel W (Zj4 W) [] L (.agg (.gen us)) v∧Cfs ss us:=by
 obtain⟨cs,rfl,_⟩:=hv
 obtain⟨fuel,hf⟩:=h
 obtain⟨us,r,o,f⟩:=Zq7 (L:=L) d t ss hs fuel _ _ hf
 exact⟨us, .agg _ us rfl cs (by simpa[Value.cells]using r.1) (fun c hc=>o c (by simpa[Value.cells]using hc)) (fun j u v hu hv=>r.2 j u v hu (by simpa[Value.cells]using hv)),f⟩
theorem Zva{d:Nat}{t:TypeId}{s:Sh}(hs:Zuf P d t=some [s]){v:Value}{dd:DataW H}{ps:List MemPlace}(hv:v.oneCell'=true)(h:DataW.Trod enc P W 0 (fun _=>true) true t v dd ps):
 ∃u,Rel W (Zj4 W) [] L u v∧Cf s u:=by
 obtain⟨fuel,hf⟩:=h
 have hcs:v.cells.toList=[v]:=by cases v<;>first |rfl |(simp [Value.oneCell']at hv)
 obtain⟨us,r,o,f⟩:=Zq7 (L:=L) d t [s] hs fuel _ _ hf
 rw[hcs]at r
 match us,f.1 with
 |[u],_=>exact⟨u,r.2 0 u v rfl rfl,f.2 0 s u rfl rfl⟩
end
end Go.Proofs.Ytklbmkllepkjcaa
/- The cells of some types, as they are read. No condition. -/
namespace Go.Proofs.Ytklbmkllepkjcaa
theorem Zp0{k:IntKind}{u:AV}(h:Cf (.int k) u):∃n,u=.int k n∧(Lit.int k n).wf=true:=by
 obtain⟨⟨a,rfl⟩,hw,_⟩:=h
 exact⟨_,rfl,hw⟩
theorem Zx9{k:IntKind}{u:AV}(h:Cf (.ints k) u):∃l:List Int,u=.list (.ints k l)∧∀x∈l,(Lit.int k x).wf=true:=by
 obtain⟨⟨a,rfl⟩,hw,_⟩:=h
 exact⟨_,rfl,hw⟩
theorem ZBF{s:Sh}{u:AV}(h:Cf (.big s) u):∃l:List AV,u=.list (.big s l):=by
 obtain⟨⟨a,rfl⟩,hw,_⟩:=h
 exact⟨_,rfl⟩
theorem Zws{us:List AV}(h:Cfs [] us):us=[]:=List.eq_nil_of_length_eq_zero h.1
theorem ZjW{s:Sh}{ss:List Sh}{us:List AV}(h:Cfs (s::ss) us):∃u r,us=u::r∧Cf s u∧Cfs ss r:=by
 cases us with
 |nil=>have:=h.1;simp at this
 |cons u r=>exact⟨u,r,rfl,h.2 0 s u rfl rfl,by have:=h.1;simpa using this,fun j s' u' hs hu=>h.2 (j+1) s' u' (by simpa using hs) (by simpa using hu)⟩
end Go.Proofs.Ytklbmkllepkjcaa
/- The cells of the laws' types, as they are read. No condition. -/
namespace Go.Proofs.Ytklbmkllepkjcaa
theorem ZvH{us:List AV}(h:Cfs [.int .i64, .int .i64, .int .i64] us):∃a b c,us=[.int .i64 a, .int .i64 b, .int .i64 c]:=by
 obtain⟨u,r,rfl,h1,h⟩:=ZjW h
 obtain⟨u2,r,rfl,h2,h⟩:=ZjW h
 obtain⟨u3,r,rfl,h3,h⟩:=ZjW h
 obtain rfl:=Zws h
 obtain⟨a,rfl,_⟩:=Zp0 h1
 obtain⟨b,rfl,_⟩:=Zp0 h2
 obtain⟨c,rfl,_⟩:=Zp0 h3
 exact⟨a,b,c,rfl⟩
end Go.Proofs.Ytklbmkllepkjcaa
/- Paths of functions, printed by the explorer (Gx). No condition. -/
namespace Go.Proofs.Ytklbmkllepkjcaa
set_option maxRecDepth 100000
set_option linter.unusedVariables false
def ZuC(xs:List Int):AFrame:={ fn:=104,N:=8,env:=[(0,AV.list (.ints .i64 xs))],todo:=[.code a104.code],defs:=[],rnd:=none,ret:=false,res:=[ARes.tmp 2] }
def ZDd(xs:List Int):List AFrame:=[(ZuC xs)]
theorem Zsm(xs:List Int):Zas tab 104 [AV.list (.ints .i64 xs)]=some (ZuC xs):=rfl
def ZuW(A:Ar)(K:KT)(F:FT)(xs:List Int):Prop:=rB [Nat.blt 0 (A.len xs)] (rB [Nat.ble (0+A.len xs) 4294967296,List.all [] fun x=>AV.bx x&&Nat.beq (Zao A x) 1] (F (AV.row 0 0) (some { e:=3,sz:=1,r:=.ints .i64 xs })))
theorem ZzO{A:Ar}{K:KT}{F:FT}{M:MT}{xs:List Int} :Zap A tab E0 104 K F M (.run 10 (.fy (.run 9 (.fn)))) (ZDd xs) []=ZuW A K F xs:=by kernel_rfl
def Zro(cap:Nat):AFrame:={ fn:=104,N:=8,env:=[(0,AV.val (Go.Value.slice none 0 cap))],todo:=[.code a104.code],defs:=[],rnd:=none,ret:=false,res:=[ARes.tmp 2] }
def Zyw(cap:Nat):List AFrame:=[(Zro cap)]
theorem ZqR(cap:Nat):Zas tab 104 [AV.val (Go.Value.slice none 0 cap)]=some (Zro cap):=rfl
def ZpO(A:Ar)(K:KT)(F:FT)(cap:Nat):Prop:=F (AV.nils) (none)
theorem Zx1{A:Ar}{K:KT}{F:FT}{M:MT}{cap:Nat} :Zap A tab E0 104 K F M (.run 10 (.ty (.run 5 (.fn)))) (Zyw cap) []=ZpO A K F cap:=by kernel_rfl
def ZpE(ad:Go.Addr)(cap:Nat):AFrame:={ fn:=104,N:=8,env:=[(0,AV.val (Go.Value.slice (some ad) 0 cap))],todo:=[.code a104.code],defs:=[],rnd:=none,ret:=false,res:=[ARes.tmp 2] }
def Zzb(ad:Go.Addr)(cap:Nat):List AFrame:=[(ZpE ad cap)]
theorem ZqJ(ad:Go.Addr)(cap:Nat):Zas tab 104 [AV.val (Go.Value.slice (some ad) 0 cap)]=some (ZpE ad cap):=rfl
def Zpu(A:Ar)(K:KT)(F:FT)(ad:Go.Addr)(cap:Nat):Prop:=rB [List.all [] fun x=>AV.bx x&&Nat.beq (Zao A x) 1] (F (AV.row 0 0) (some { e:=3,sz:=1,r:=Row.gen [] }))
theorem Zvg{A:Ar}{K:KT}{F:FT}{M:MT}{ad:Go.Addr}{cap:Nat} :Zap A tab E0 104 K F M (.run 10 (.fy (.run 9 (.fn)))) (Zzb ad cap) []=Zpu A K F ad cap:=by kernel_rfl
end Go.Proofs.Ytklbmkllepkjcaa
/- Contracts as a list. No condition. -/
namespace Go.Proofs.Ytklbmkllepkjcaa
theorem Zg5(xs:List Int)(h:xs.length≤1000000):Zai Try.prog 104 [.list (.ints .i64 xs)] (.row 0 0) (some ⟨3,1, .ints .i64 xs⟩):=by
 by_cases h0:xs=[]
 ·subst h0
  refine Zom rfl fun ad cap=>?_
  cases ad with
  |none=>exact Zs8 (r0:=.nils) (start (ZqR cap) fun C hC=>tgo hC ZtA Zx1 (by simp[ZpO])) rfl rfl (by omega)
  |some ad=>exact Zsh (r:=.gen []) (start (ZqJ ad cap) fun C hC=>tgo hC ZtA Zvg (by simp[Zpu])) (by omega) rfl
 ·have:=List.length_pos_iff.2 h0
  exact start (Zsm xs) fun C hC=>tgo hC ZtA ZzO (by simp[ZuW];omega)
def k104:Ctr:=⟨104,0,fun _ a=>match a with |[.list (.ints .i64 xs)]=>some (decide (xs.length≤1000000), .row 0 0,some ⟨3,1, .ints .i64 xs⟩) |_=>none⟩
theorem ZxA:k104.OK Try.prog:=fun pa args r fr h=>by
 simp only[k104]at h
 split at h
 ·simp only[Option.some.injEq,Prod.mk.injEq,decide_eq_true_eq]at h
  obtain⟨h0,rfl,rfl⟩:=h
  exact Zg5 _ h0
 ·cases h
def N0:List Ctr:=[k104]++E0
theorem ZeN:ZaP Try.prog N0:=⟨ZxA,ZtA⟩
end Go.Proofs.Ytklbmkllepkjcaa
/- Paths of functions, printed by the explorer (Gx). No condition. -/
namespace Go.Proofs.Ytklbmkllepkjcaa
set_option maxRecDepth 100000
set_option linter.unusedVariables false
def ZzT(n lo hi:Int):AFrame:={ fn:=91,N:=15,env:=[(0,AV.int .i64 n),(1,AV.int .i64 lo),(2,AV.int .i64 hi)],todo:=[.code a91.code],defs:=[],rnd:=none,ret:=false,res:=[ARes.tmp 6] }
def ZGZ(n lo hi:Int):List AFrame:=[(ZzT n lo hi)]
theorem ZvE(n lo hi:Int):Zas tab 91 [AV.int .i64 n,AV.int .i64 lo,AV.int .i64 hi]=some (ZzT n lo hi):=rfl
def ZCr(A:Ar)(K:KT)(F:FT)(n lo hi:Int):Prop:=bB (A.le lo n) (F (AV.bool (A.le n hi)) (none)) (F (AV.bool false) (none))
theorem ZEj{A:Ar}{K:KT}{F:FT}{M:MT}{n lo hi:Int} :Zap A tab N0 91 K F M (.run 10 (.tf (.ty (.ty (.ty (.run 4 (.fn))))) (.fy (.fy (.fy (.run 4 (.fn))))))) (ZGZ n lo hi) []=ZCr A K F n lo hi:=by kernel_rfl
def ZCO(n lo hi:Int):AFrame:={ fn:=30,N:=15,env:=[(0,AV.int .i64 n),(1,AV.int .i64 lo),(2,AV.int .i64 hi)],todo:=[.code a30.code],defs:=[],rnd:=none,ret:=false,res:=[ARes.tmp 6] }
def ZHH(n lo hi:Int):List AFrame:=[(ZCO n lo hi)]
theorem Zx2(n lo hi:Int):Zas tab 30 [AV.int .i64 n,AV.int .i64 lo,AV.int .i64 hi]=some (ZCO n lo hi):=rfl
def Zy7(A:Ar)(K:KT)(F:FT)(n lo hi:Int):Prop:=bB (A.le lo n) (F (AV.bool (A.le n hi)) (none)) (F (AV.bool false) (none))
theorem ZEq{A:Ar}{K:KT}{F:FT}{M:MT}{n lo hi:Int} :Zap A tab N0 30 K F M (.run 10 (.tf (.ty (.ty (.ty (.run 4 (.fn))))) (.fy (.fy (.fy (.run 4 (.fn))))))) (ZHH n lo hi) []=Zy7 A K F n lo hi:=by kernel_rfl
def ZA6(b:Bool)(e:Int):AFrame:={ fn:=85,N:=7,env:=[(0,AV.bool b),(1,AV.int .i64 e)],todo:=[.code a85.code],defs:=[],rnd:=none,ret:=false,res:=[ARes.tmp 4] }
def ZGD(b:Bool)(e:Int):List AFrame:=[(ZA6 b e)]
theorem Zym(b:Bool)(e:Int):Zas tab 85 [AV.bool b,AV.int .i64 e]=some (ZA6 b e):=rfl
def ZCC(A:Ar)(K:KT)(F:FT)(b:Bool)(e:Int):Prop:=bB (b) (F (AV.int .i64 0) (none)) (F (AV.int .i64 e) (none))
theorem ZEX{A:Ar}{K:KT}{F:FT}{M:MT}{b:Bool}{e:Int} :Zap A tab N0 85 K F M (.run 9 (.tf (.run 5 (.fn)) (.run 7 (.fn)))) (ZGD b e) []=ZCC A K F b e:=by kernel_rfl
def ZCR(xs:List Int):AFrame:={ fn:=72,N:=15,env:=[(0,AV.list (.ints .i64 xs))],todo:=[.code a72.code],defs:=[],rnd:=none,ret:=false,res:=[ARes.tmp 2] }
def ZHt(xs:List Int):List AFrame:=[(ZCR xs)]
theorem ZwT(xs:List Int):Zas tab 72 [AV.list (.ints .i64 xs)]=some (ZCR xs):=rfl
def Zhs(xs:List Int)(n0 n1:Int):List AFrame:=[{ fn:=72,N:=15,env:=[(5,AV.list (.ints .i64 xs)),(6,AV.int .i64 n0),(7,AV.int .i64 n1)],todo:=.code (ACode.gh [] Zz8)::ZDo,defs:=[],rnd:=none,ret:=false,res:=[ARes.tmp 2] }]
def ZfD(xs:List Int)(n0 n1:Int):Zac:=[]
abbrev ZiV(xs:List Int)(n0 n1:Int):List AFrame×Zac:=(Zhs xs n0 n1,ZfD xs n0 n1)
def ZAu(A:Ar)(K:KT)(F:FT)(xs:List Int):Prop:=K (ZiV (xs) (A.int (A.len xs)) (0))
theorem ZDV{A:Ar}{K:KT}{F:FT}{M:MT}{xs:List Int} :Zap A tab N0 72 K F M (.run 14 (.hd)) (ZHt xs) []=ZAu A K F xs:=by kernel_rfl
def ZdG(A:Ar)(K:KT)(F:FT)(xs:List Int)(n0 n1:Int):Prop:=bB (A.lt n1 n0) (rB [Zae (Zae (A.le 0 n1) (Nat.blt (A.nat n1) (A.len xs))) true] (bB (A.not (A.eq (A.nth xs (A.nat n1)) 0)) (F (AV.int .i64 (A.nth xs (A.nat n1))) (none)) (rB [A.inR .i64 (A.add n1 1)] (K (ZiV (xs) (n0) (A.add n1 1)))))) (F (AV.int .i64 0) (none))
theorem Zii{A:Ar}{K:KT}{F:FT}{M:MT}{xs:List Int}{n0 n1:Int} :Zap A tab N0 72 K F M (.run 6 (.tf (.run 14 (.tf (.run 6 (.fn)) (.run 8 (.hd)))) (.run 6 (.fn)))) (Zhs xs n0 n1) (ZfD xs n0 n1)=ZdG A K F xs n0 n1:=by kernel_rfl
def ZBd(xs:List Int):AFrame:={ fn:=14,N:=6,env:=[(0,AV.list (.ints .i64 xs))],todo:=[.code a14.code],defs:=[],rnd:=none,ret:=false,res:=[ARes.tmp 2] }
def ZHM(xs:List Int):List AFrame:=[(ZBd xs)]
theorem Zv3(xs:List Int):Zas tab 14 [AV.list (.ints .i64 xs)]=some (ZBd xs):=rfl
def ZAJ(A:Ar)(K:KT)(F:FT)(xs:List Int):Prop:=rB [Nat.ble (0+A.len xs) 4294967296,List.all [] fun x=>AV.bx x&&Nat.beq (Zao A x) 1] (F (AV.row 0 0) (some { e:=3,sz:=1,r:=.ints .i64 xs }))
theorem ZEJ{A:Ar}{K:KT}{F:FT}{M:MT}{xs:List Int} :Zap A tab N0 14 K F M (.run 12 (.fn)) (ZHM xs) []=ZAJ A K F xs:=by kernel_rfl
def ZCG(xs ys:List Int):AFrame:={ fn:=17,N:=26,env:=[(0,AV.list (.ints .i64 xs)),(1,AV.list (.ints .i64 ys))],todo:=[.code a17.code],defs:=[],rnd:=none,ret:=false,res:=[ARes.tmp 4] }
def ZHF(xs ys:List Int):List AFrame:=[(ZCG xs ys)]
theorem ZwR(xs ys:List Int):Zas tab 17 [AV.list (.ints .i64 xs),AV.list (.ints .i64 ys)]=some (ZCG xs ys):=rfl
def Zh4(xs ys:List Int)(n0:Int):List AFrame:=[{ fn:=17,N:=26,env:=[(0,AV.list (.ints .i64 xs)),(1,AV.list (.ints .i64 ys)),(5,AV.int .i64 n0)],todo:=.code (ACode.gh [] ZAC)::ZEn,defs:=[],rnd:=none,ret:=false,res:=[ARes.tmp 4] }]
def Zf9(xs ys:List Int)(n0:Int):Zac:=[]
abbrev Zi6(xs ys:List Int)(n0:Int):List AFrame×Zac:=(Zh4 xs ys n0,Zf9 xs ys n0)
def ZvL(A:Ar)(K:KT)(F:FT)(xs ys:List Int):Prop:=bB (A.not (A.eq (A.int (A.len xs)) (A.int (A.len ys)))) (F (AV.bool false) (none)) (K (Zi6 (xs) (ys) (0)))
theorem ZDA{A:Ar}{K:KT}{F:FT}{M:MT}{xs ys:List Int} :Zap A tab N0 17 K F M (.run 13 (.tf (.run 5 (.fn)) (.run 9 (.hd)))) (ZHF xs ys) []=ZvL A K F xs ys:=by kernel_rfl
def Zdz(A:Ar)(K:KT)(F:FT)(xs ys:List Int)(n0:Int):Prop:=bB (A.lt n0 (A.int (A.len xs))) (rB [Zae (Zae (A.le 0 n0) (Nat.blt (A.nat n0) (A.len ys))) true,Zae (Zae (A.le 0 n0) (Nat.blt (A.nat n0) (A.len xs))) true] (bB (A.not (A.eq (A.nth xs (A.nat n0)) (A.nth ys (A.nat n0)))) (F (AV.bool false) (none)) (rB [A.inR .i64 (A.add n0 1)] (K (Zi6 (xs) (ys) (A.add n0 1)))))) (F (AV.bool true) (none))
theorem Zig{A:Ar}{K:KT}{F:FT}{M:MT}{xs ys:List Int}{n0:Int} :Zap A tab N0 17 K F M (.run 9 (.tf (.run 6 (.tf (.run 5 (.fn)) (.run 9 (.hd)))) (.run 6 (.fn)))) (Zh4 xs ys n0) (Zf9 xs ys n0)=Zdz A K F xs ys n0:=by kernel_rfl
def ZCN(a b:Int):AFrame:={ fn:=89,N:=10,env:=[(0,AV.int .i64 a),(1,AV.int .i64 b)],todo:=[.code a89.code],defs:=[],rnd:=none,ret:=false,res:=[ARes.tmp 4] }
def ZHg(a b:Int):List AFrame:=[(ZCN a b)]
theorem ZxX(a b:Int):Zas tab 89 [AV.int .i64 a,AV.int .i64 b]=some (ZCN a b):=rfl
def ZCB(A:Ar)(K:KT)(F:FT)(a b:Int):Prop:=bB (A.eq a 0) (F (AV.int .i64 b) (none)) (rB [A.inR .i64 (A.neg b)] (F (AV.int .i64 (A.neg b)) (none)))
theorem ZDD{A:Ar}{K:KT}{F:FT}{M:MT}{a b:Int} :Zap A tab N0 89 K F M (.run 10 (.tf (.run 6 (.fn)) (.run 8 (.fn)))) (ZHg a b) []=ZCB A K F a b:=by kernel_rfl
def ZyN(m g0 g1:Int)(xs:List Int):AFrame:={ fn:=84,N:=7,env:=[(0,AV.agg (Row.gen [.int .i64 m, .int .i64 g0, .int .i64 g1, .list (.ints .i64 xs)]))],todo:=[.code a84.code],defs:=[],rnd:=none,ret:=false,res:=[ARes.tmp 2] }
def ZHC(m g0 g1:Int)(xs:List Int):List AFrame:=[(ZyN m g0 g1 xs)]
theorem Zyi(m g0 g1:Int)(xs:List Int):Zas tab 84 [AV.agg (Row.gen [.int .i64 m, .int .i64 g0, .int .i64 g1, .list (.ints .i64 xs)])]=some (ZyN m g0 g1 xs):=rfl
def ZBp(A:Ar)(K:KT)(F:FT)(m g0 g1:Int)(xs:List Int):Prop:=rB [Zae (A.not (A.eq 2 0)) (A.inR .i64 (A.quo (A.int (A.len xs)) 2))] (F (AV.int .i64 (A.quo (A.int (A.len xs)) 2)) (none))
theorem ZE2{A:Ar}{K:KT}{F:FT}{M:MT}{m g0 g1:Int}{xs:List Int} :Zap A tab N0 84 K F M (.run 14 (.fn)) (ZHC m g0 g1 xs) []=ZBp A K F m g0 g1 xs:=by kernel_rfl
def Zz9(m g0 g1:Int)(xs:List Int):AFrame:={ fn:=86,N:=7,env:=[(0,AV.agg (Row.gen [.int .i64 m, .int .i64 g0, .int .i64 g1, .list (.ints .i64 xs)]))],todo:=[.code a86.code],defs:=[],rnd:=none,ret:=false,res:=[ARes.tmp 2] }
def ZGN(m g0 g1:Int)(xs:List Int):List AFrame:=[(Zz9 m g0 g1 xs)]
theorem ZvQ(m g0 g1:Int)(xs:List Int):Zas tab 86 [AV.agg (Row.gen [.int .i64 m, .int .i64 g0, .int .i64 g1, .list (.ints .i64 xs)])]=some (Zz9 m g0 g1 xs):=rfl
def ZAh(A:Ar)(K:KT)(F:FT)(m g0 g1:Int)(xs:List Int):Prop:=rB [Zae (Zae (A.le 0 m) (Nat.blt (A.nat m) 64)) (A.inR .i64 (A.shl 1 m))] (F (AV.int .i64 (A.shl 1 m)) (none))
theorem ZDS{A:Ar}{K:KT}{F:FT}{M:MT}{m g0 g1:Int}{xs:List Int} :Zap A tab N0 86 K F M (.run 14 (.fn)) (ZGN m g0 g1 xs) []=ZAh A K F m g0 g1 xs:=by kernel_rfl
end Go.Proofs.Ytklbmkllepkjcaa
/- Contracts as a list. No condition. -/
namespace Go.Proofs.Ytklbmkllepkjcaa
def Zat(n a b:Int):Bool:=decide (a≤n∧n≤b)
def Za5:List Int→Int
 |[]=>0
 |x::xs=>if x=0 then Za5 xs else x
def Zay(b:Bool)(e:Int):Int:=if b=true then 0 else e
theorem Zsp{xs:List Int}{k:Nat}(h:k<xs.length):xs.drop k=xs.getD k 0::xs.drop (k+1):=by
 rw[List.drop_eq_getElem_cons h,List.getD_eq_getElem?_getD,List.getElem?_eq_getElem h];rfl
theorem ZgO{α:Type}{xs:List α}{n:Nat}{d:α}(h:n<xs.length):xs.getD n d∈xs:=by
 rw[List.getD_eq_getElem?_getD,List.getElem?_eq_getElem h];exact List.getElem_mem h
def ZeP(xs:List Int):Bool:=xs.all fun x=>decide (x=0∨x=1)
section
variable {C:Ctx}(hC:C.P=Try.prog)
include hC
theorem Zk4(xs ys:List Int)(hl:xs.length≤1000000∧xs.length=ys.length):∀m k:Nat,k+m=xs.length→Ev C (Zh4 xs ys k) (Zf9 xs ys k) (ZaX 17 (.bool (decide (xs.drop k=ys.drop k))) none)
 |0,k,hk=>tgo hC ZeN Zig (by
  rw[List.drop_of_length_le (by omega),List.drop_of_length_le (by omega)]
  simp[Zdz,show ¬(k:Int)<xs.length by omega])
 |m+1,k,hk=>by
  have ih:=Zk4 xs ys hl m (k+1) (by omega)
  rw[Zsp (show k<xs.length by omega),Zsp (show k<ys.length by omega)]
  refine tgo hC ZeN Zig ?_
  by_cases h:xs.getD k 0=ys.getD k 0
  ·simp[-List.getD_eq_getElem?_getD,Zdz,show(k:Int)<xs.length by omega,show k<xs.length by omega,show k<ys.length by omega,h]
   exact⟨by omega,by simpa using ih⟩
  ·simp[-List.getD_eq_getElem?_getD,Zdz,show(k:Int)<xs.length by omega,show k<xs.length by omega,show k<ys.length by omega,h]
theorem Zgk(xs:List Int)(hl:xs.length≤1000000):∀m k:Nat,k+m=xs.length→Ev C (Zhs xs xs.length k) (ZfD xs xs.length k) (ZaX 72 (.int .i64 (Za5 (xs.drop k))) none)
 |0,k,hk=>tgo hC ZeN Zii (by
  rw[List.drop_of_length_le (by omega)]
  simp[ZdG,show ¬(k:Int)<xs.length by omega,Za5])
 |m+1,k,hk=>by
  have ih:=Zgk xs hl m (k+1) (by omega)
  have hlt:(k:Int)<xs.length:=by omega
  have hlt2:k<xs.length:=by omega
  rw[Zsp hlt2,Za5]
  refine tgo hC ZeN Zii ?_
  by_cases h:xs.getD k 0=0
  ·simp[-List.getD_eq_getElem?_getD,ZdG,hlt,hlt2,h]
   exact⟨by omega,by simpa using ih⟩
  ·simp[-List.getD_eq_getElem?_getD,ZdG,hlt,hlt2,h]
end
theorem ZmL(a b c:Int):Zai Try.prog 91 [.int .i64 a, .int .i64 b, .int .i64 c] (.bool (Zat a b c)) none:=
 start (ZvE a b c) fun C hC=>tgo hC ZeN ZEj (by by_cases h:b≤a<;>simp[ZCr,h,Zat])
theorem ZlU(a b c:Int):Zai Try.prog 30 [.int .i64 a, .int .i64 b, .int .i64 c] (.bool (Zat a b c)) none:=
 start (Zx2 a b c) fun C hC=>tgo hC ZeN ZEq (by by_cases h:b≤a<;>simp[Zy7,h,Zat])
theorem ZlI(b:Bool)(e:Int):Zai Try.prog 85 [.bool b, .int .i64 e] (.int .i64 (Zay b e)) none:=
 start (Zym b e) fun C hC=>tgo hC ZeN ZEX (by cases b<;>simp[ZCC,Zay])
theorem ZoP(xs:List Int)(hl:xs.length≤1000000):Zai Try.prog 72 [.list (.ints .i64 xs)] (.int .i64 (Za5 xs)) none:=
 start (ZwT xs) fun C hC=>tgo hC ZeN ZDV (by
  have:=Zgk hC xs hl xs.length 0 (by omega)
  simp[ZAu]
  simpa using this)
theorem ZkS(xs:List Int)(hl:xs.length≤1000000):Zai Try.prog 14 [.list (.ints .i64 xs)] (.row 0 0) (some ⟨3,1, .ints .i64 xs⟩):=
 start (Zv3 xs) fun C hC=>tgo hC ZeN ZEJ (by simp[ZAJ];omega)
theorem ZqB(xs ys:List Int)(hl:xs.length≤1000000):Zai Try.prog 17 [.list (.ints .i64 xs), .list (.ints .i64 ys)] (.bool (decide (xs=ys))) none:=
 start (ZwR xs ys) fun C hC=>tgo hC ZeN ZDA (by
  by_cases h:xs.length=ys.length
  ·simp[ZvL,h]
   have:=Zk4 hC xs ys ⟨hl,h⟩ xs.length 0 (by omega)
   simpa using this
  ·have:xs≠ys:=fun e=>h (by rw[e])
   simp[ZvL,this,show ¬((xs.length:Int)=ys.length) by omega])
def coI(a b:Int):Int:=if a=0 then b else -b
theorem Zv7(a b:Int)(h: -1000000≤b∧b≤1000000):Zai Try.prog 89 [.int .i64 a, .int .i64 b] (.int .i64 (coI a b)) none:=
 start (ZxX a b) fun C hC=>tgo hC ZeN ZDD (by
  by_cases h:a=0<;>simp[ZCB,h,coI];omega)
def k91:Ctr:=⟨91,0,fun _ a=>match a with |[.int .i64 a, .int .i64 b, .int .i64 c]=>some (true, .bool (Zat a b c),none) |_=>none⟩
theorem ZB0:k91.OK Try.prog:=fun pa args r fr h=>by
 simp only[k91]at h
 split at h
 ·cases h
  exact ZmL _ _ _
 ·cases h
def k30:Ctr:=⟨30,0,fun _ a=>match a with |[.int .i64 a, .int .i64 b, .int .i64 c]=>some (true, .bool (Zat a b c),none) |_=>none⟩
theorem ZAL:k30.OK Try.prog:=fun pa args r fr h=>by
 simp only[k30]at h
 split at h
 ·cases h
  exact ZlU _ _ _
 ·cases h
def k85:Ctr:=⟨85,0,fun _ a=>match a with |[.bool b, .int .i64 e]=>some (true, .int .i64 (Zay b e),none) |_=>none⟩
theorem Zzl:k85.OK Try.prog:=fun pa args r fr h=>by
 simp only[k85]at h
 split at h
 ·cases h
  exact ZlI _ _
 ·cases h
def k72:Ctr:=⟨72,0,fun _ a=>match a with |[.list (.ints .i64 xs)]=>some (decide (xs.length≤1000000), .int .i64 (Za5 xs),none) |_=>none⟩
theorem Zz0:k72.OK Try.prog:=fun pa args r fr h=>by
 simp only[k72]at h
 split at h
 ·simp only[Option.some.injEq,Prod.mk.injEq,decide_eq_true_eq]at h
  obtain⟨h0,rfl,rfl⟩:=h
  exact ZoP _ h0
 ·cases h
def k14:Ctr:=⟨14,0,fun _ a=>match a with |[.list (.ints .i64 xs)]=>some (decide (xs.length≤1000000), .row 0 0,some ⟨3,1, .ints .i64 xs⟩) |_=>none⟩
theorem ZzB:k14.OK Try.prog:=fun pa args r fr h=>by
 simp only[k14]at h
 split at h
 ·simp only[Option.some.injEq,Prod.mk.injEq,decide_eq_true_eq]at h
  obtain⟨h0,rfl,rfl⟩:=h
  exact ZkS _ h0
 ·cases h
def k17:Ctr:=⟨17,0,fun _ a=>match a with |[.list (.ints .i64 xs), .list (.ints .i64 ys)]=>some (decide (xs.length≤1000000), .bool (decide (xs=ys)),none) |_=>none⟩
theorem ZBs:k17.OK Try.prog:=fun pa args r fr h=>by
 simp only[k17]at h
 split at h
 ·simp only[Option.some.injEq,Prod.mk.injEq,decide_eq_true_eq]at h
  obtain⟨h0,rfl,rfl⟩:=h
  exact ZqB _ _ h0
 ·cases h
def k89:Ctr:=⟨89,0,fun _ a=>match a with |[.int .i64 a, .int .i64 b]=>some (decide (-1000000≤b∧b≤1000000), .int .i64 (coI a b),none) |_=>none⟩
theorem ZCM:k89.OK Try.prog:=fun pa args r fr h=>by
 simp only[k89]at h
 split at h
 ·simp only[Option.some.injEq,Prod.mk.injEq,decide_eq_true_eq]at h
  obtain⟨h0,rfl,rfl⟩:=h
  exact Zv7 _ _ h0
 ·cases h
def N1:List Ctr:=[k91,k30,k85,k72,k14,k17,k89]++N0
theorem ZgC:ZaP Try.prog N1:=⟨ZB0,⟨ZAL,⟨Zzl,⟨Zz0,⟨ZzB,⟨ZBs,⟨ZCM,ZeN⟩⟩⟩⟩⟩⟩⟩
end Go.Proofs.Ytklbmkllepkjcaa
/- Paths of functions, printed by the explorer (Gx). No condition. -/
namespace Go.Proofs.Ytklbmkllepkjcaa
set_option maxRecDepth 100000
set_option linter.unusedVariables false
def ZuK(n:Int):AFrame:={ fn:=113,N:=8,env:=[(0,AV.int .u64 n)],todo:=[.code a113.code],defs:=[],rnd:=none,ret:=false,res:=[ARes.tmp 2] }
def ZD4(n:Int):List AFrame:=[(ZuK n)]
theorem ZsI(n:Int):Zas tab 113 [AV.int .u64 n]=some (ZuK n):=rfl
def ZuN(A:Ar)(K:KT)(F:FT)(n:Int):Prop:=rB [A.inR .i64 (A.add (A.add (A.add (A.bits Go.BinOp.and .u64 (A.add (A.shr (A.add (A.bits Go.BinOp.and .u64 (A.shr (A.add (A.bits Go.BinOp.and .u64 (A.shr n 1) 6148914691236517205) (A.bits Go.BinOp.and .u64 n 6148914691236517205)) 2) 3689348814741910323) (A.bits Go.BinOp.and .u64 (A.add (A.bits Go.BinOp.and .u64 (A.shr n 1) 6148914691236517205) (A.bits Go.BinOp.and .u64 n 6148914691236517205)) 3689348814741910323)) 4) (A.add (A.bits Go.BinOp.and .u64 (A.shr (A.add (A.bits Go.BinOp.and .u64 (A.shr n 1) 6148914691236517205) (A.bits Go.BinOp.and .u64 n 6148914691236517205)) 2) 3689348814741910323) (A.bits Go.BinOp.and .u64 (A.add (A.bits Go.BinOp.and .u64 (A.shr n 1) 6148914691236517205) (A.bits Go.BinOp.and .u64 n 6148914691236517205)) 3689348814741910323))) 1085102592571150095) (A.shr (A.bits Go.BinOp.and .u64 (A.add (A.shr (A.add (A.bits Go.BinOp.and .u64 (A.shr (A.add (A.bits Go.BinOp.and .u64 (A.shr n 1) 6148914691236517205) (A.bits Go.BinOp.and .u64 n 6148914691236517205)) 2) 3689348814741910323) (A.bits Go.BinOp.and .u64 (A.add (A.bits Go.BinOp.and .u64 (A.shr n 1) 6148914691236517205) (A.bits Go.BinOp.and .u64 n 6148914691236517205)) 3689348814741910323)) 4) (A.add (A.bits Go.BinOp.and .u64 (A.shr (A.add (A.bits Go.BinOp.and .u64 (A.shr n 1) 6148914691236517205) (A.bits Go.BinOp.and .u64 n 6148914691236517205)) 2) 3689348814741910323) (A.bits Go.BinOp.and .u64 (A.add (A.bits Go.BinOp.and .u64 (A.shr n 1) 6148914691236517205) (A.bits Go.BinOp.and .u64 n 6148914691236517205)) 3689348814741910323))) 1085102592571150095) 8)) (A.shr (A.add (A.bits Go.BinOp.and .u64 (A.add (A.shr (A.add (A.bits Go.BinOp.and .u64 (A.shr (A.add (A.bits Go.BinOp.and .u64 (A.shr n 1) 6148914691236517205) (A.bits Go.BinOp.and .u64 n 6148914691236517205)) 2) 3689348814741910323) (A.bits Go.BinOp.and .u64 (A.add (A.bits Go.BinOp.and .u64 (A.shr n 1) 6148914691236517205) (A.bits Go.BinOp.and .u64 n 6148914691236517205)) 3689348814741910323)) 4) (A.add (A.bits Go.BinOp.and .u64 (A.shr (A.add (A.bits Go.BinOp.and .u64 (A.shr n 1) 6148914691236517205) (A.bits Go.BinOp.and .u64 n 6148914691236517205)) 2) 3689348814741910323) (A.bits Go.BinOp.and .u64 (A.add (A.bits Go.BinOp.and .u64 (A.shr n 1) 6148914691236517205) (A.bits Go.BinOp.and .u64 n 6148914691236517205)) 3689348814741910323))) 1085102592571150095) (A.shr (A.bits Go.BinOp.and .u64 (A.add (A.shr (A.add (A.bits Go.BinOp.and .u64 (A.shr (A.add (A.bits Go.BinOp.and .u64 (A.shr n 1) 6148914691236517205) (A.bits Go.BinOp.and .u64 n 6148914691236517205)) 2) 3689348814741910323) (A.bits Go.BinOp.and .u64 (A.add (A.bits Go.BinOp.and .u64 (A.shr n 1) 6148914691236517205) (A.bits Go.BinOp.and .u64 n 6148914691236517205)) 3689348814741910323)) 4) (A.add (A.bits Go.BinOp.and .u64 (A.shr (A.add (A.bits Go.BinOp.and .u64 (A.shr n 1) 6148914691236517205) (A.bits Go.BinOp.and .u64 n 6148914691236517205)) 2) 3689348814741910323) (A.bits Go.BinOp.and .u64 (A.add (A.bits Go.BinOp.and .u64 (A.shr n 1) 6148914691236517205) (A.bits Go.BinOp.and .u64 n 6148914691236517205)) 3689348814741910323))) 1085102592571150095) 8)) 16)) (A.shr (A.add (A.add (A.bits Go.BinOp.and .u64 (A.add (A.shr (A.add (A.bits Go.BinOp.and .u64 (A.shr (A.add (A.bits Go.BinOp.and .u64 (A.shr n 1) 6148914691236517205) (A.bits Go.BinOp.and .u64 n 6148914691236517205)) 2) 3689348814741910323) (A.bits Go.BinOp.and .u64 (A.add (A.bits Go.BinOp.and .u64 (A.shr n 1) 6148914691236517205) (A.bits Go.BinOp.and .u64 n 6148914691236517205)) 3689348814741910323)) 4) (A.add (A.bits Go.BinOp.and .u64 (A.shr (A.add (A.bits Go.BinOp.and .u64 (A.shr n 1) 6148914691236517205) (A.bits Go.BinOp.and .u64 n 6148914691236517205)) 2) 3689348814741910323) (A.bits Go.BinOp.and .u64 (A.add (A.bits Go.BinOp.and .u64 (A.shr n 1) 6148914691236517205) (A.bits Go.BinOp.and .u64 n 6148914691236517205)) 3689348814741910323))) 1085102592571150095) (A.shr (A.bits Go.BinOp.and .u64 (A.add (A.shr (A.add (A.bits Go.BinOp.and .u64 (A.shr (A.add (A.bits Go.BinOp.and .u64 (A.shr n 1) 6148914691236517205) (A.bits Go.BinOp.and .u64 n 6148914691236517205)) 2) 3689348814741910323) (A.bits Go.BinOp.and .u64 (A.add (A.bits Go.BinOp.and .u64 (A.shr n 1) 6148914691236517205) (A.bits Go.BinOp.and .u64 n 6148914691236517205)) 3689348814741910323)) 4) (A.add (A.bits Go.BinOp.and .u64 (A.shr (A.add (A.bits Go.BinOp.and .u64 (A.shr n 1) 6148914691236517205) (A.bits Go.BinOp.and .u64 n 6148914691236517205)) 2) 3689348814741910323) (A.bits Go.BinOp.and .u64 (A.add (A.bits Go.BinOp.and .u64 (A.shr n 1) 6148914691236517205) (A.bits Go.BinOp.and .u64 n 6148914691236517205)) 3689348814741910323))) 1085102592571150095) 8)) (A.shr (A.add (A.bits Go.BinOp.and .u64 (A.add (A.shr (A.add (A.bits Go.BinOp.and .u64 (A.shr (A.add (A.bits Go.BinOp.and .u64 (A.shr n 1) 6148914691236517205) (A.bits Go.BinOp.and .u64 n 6148914691236517205)) 2) 3689348814741910323) (A.bits Go.BinOp.and .u64 (A.add (A.bits Go.BinOp.and .u64 (A.shr n 1) 6148914691236517205) (A.bits Go.BinOp.and .u64 n 6148914691236517205)) 3689348814741910323)) 4) (A.add (A.bits Go.BinOp.and .u64 (A.shr (A.add (A.bits Go.BinOp.and .u64 (A.shr n 1) 6148914691236517205) (A.bits Go.BinOp.and .u64 n 6148914691236517205)) 2) 3689348814741910323) (A.bits Go.BinOp.and .u64 (A.add (A.bits Go.BinOp.and .u64 (A.shr n 1) 6148914691236517205) (A.bits Go.BinOp.and .u64 n 6148914691236517205)) 3689348814741910323))) 1085102592571150095) (A.shr (A.bits Go.BinOp.and .u64 (A.add (A.shr (A.add (A.bits Go.BinOp.and .u64 (A.shr (A.add (A.bits Go.BinOp.and .u64 (A.shr n 1) 6148914691236517205) (A.bits Go.BinOp.and .u64 n 6148914691236517205)) 2) 3689348814741910323) (A.bits Go.BinOp.and .u64 (A.add (A.bits Go.BinOp.and .u64 (A.shr n 1) 6148914691236517205) (A.bits Go.BinOp.and .u64 n 6148914691236517205)) 3689348814741910323)) 4) (A.add (A.bits Go.BinOp.and .u64 (A.shr (A.add (A.bits Go.BinOp.and .u64 (A.shr n 1) 6148914691236517205) (A.bits Go.BinOp.and .u64 n 6148914691236517205)) 2) 3689348814741910323) (A.bits Go.BinOp.and .u64 (A.add (A.bits Go.BinOp.and .u64 (A.shr n 1) 6148914691236517205) (A.bits Go.BinOp.and .u64 n 6148914691236517205)) 3689348814741910323))) 1085102592571150095) 8)) 16)) 32)),A.inR .u64 (A.add (A.add (A.add (A.bits Go.BinOp.and .u64 (A.add (A.shr (A.add (A.bits Go.BinOp.and .u64 (A.shr (A.add (A.bits Go.BinOp.and .u64 (A.shr n 1) 6148914691236517205) (A.bits Go.BinOp.and .u64 n 6148914691236517205)) 2) 3689348814741910323) (A.bits Go.BinOp.and .u64 (A.add (A.bits Go.BinOp.and .u64 (A.shr n 1) 6148914691236517205) (A.bits Go.BinOp.and .u64 n 6148914691236517205)) 3689348814741910323)) 4) (A.add (A.bits Go.BinOp.and .u64 (A.shr (A.add (A.bits Go.BinOp.and .u64 (A.shr n 1) 6148914691236517205) (A.bits Go.BinOp.and .u64 n 6148914691236517205)) 2) 3689348814741910323) (A.bits Go.BinOp.and .u64 (A.add (A.bits Go.BinOp.and .u64 (A.shr n 1) 6148914691236517205) (A.bits Go.BinOp.and .u64 n 6148914691236517205)) 3689348814741910323))) 1085102592571150095) (A.shr (A.bits Go.BinOp.and .u64 (A.add (A.shr (A.add (A.bits Go.BinOp.and .u64 (A.shr (A.add (A.bits Go.BinOp.and .u64 (A.shr n 1) 6148914691236517205) (A.bits Go.BinOp.and .u64 n 6148914691236517205)) 2) 3689348814741910323) (A.bits Go.BinOp.and .u64 (A.add (A.bits Go.BinOp.and .u64 (A.shr n 1) 6148914691236517205) (A.bits Go.BinOp.and .u64 n 6148914691236517205)) 3689348814741910323)) 4) (A.add (A.bits Go.BinOp.and .u64 (A.shr (A.add (A.bits Go.BinOp.and .u64 (A.shr n 1) 6148914691236517205) (A.bits Go.BinOp.and .u64 n 6148914691236517205)) 2) 3689348814741910323) (A.bits Go.BinOp.and .u64 (A.add (A.bits Go.BinOp.and .u64 (A.shr n 1) 6148914691236517205) (A.bits Go.BinOp.and .u64 n 6148914691236517205)) 3689348814741910323))) 1085102592571150095) 8)) (A.shr (A.add (A.bits Go.BinOp.and .u64 (A.add (A.shr (A.add (A.bits Go.BinOp.and .u64 (A.shr (A.add (A.bits Go.BinOp.and .u64 (A.shr n 1) 6148914691236517205) (A.bits Go.BinOp.and .u64 n 6148914691236517205)) 2) 3689348814741910323) (A.bits Go.BinOp.and .u64 (A.add (A.bits Go.BinOp.and .u64 (A.shr n 1) 6148914691236517205) (A.bits Go.BinOp.and .u64 n 6148914691236517205)) 3689348814741910323)) 4) (A.add (A.bits Go.BinOp.and .u64 (A.shr (A.add (A.bits Go.BinOp.and .u64 (A.shr n 1) 6148914691236517205) (A.bits Go.BinOp.and .u64 n 6148914691236517205)) 2) 3689348814741910323) (A.bits Go.BinOp.and .u64 (A.add (A.bits Go.BinOp.and .u64 (A.shr n 1) 6148914691236517205) (A.bits Go.BinOp.and .u64 n 6148914691236517205)) 3689348814741910323))) 1085102592571150095) (A.shr (A.bits Go.BinOp.and .u64 (A.add (A.shr (A.add (A.bits Go.BinOp.and .u64 (A.shr (A.add (A.bits Go.BinOp.and .u64 (A.shr n 1) 6148914691236517205) (A.bits Go.BinOp.and .u64 n 6148914691236517205)) 2) 3689348814741910323) (A.bits Go.BinOp.and .u64 (A.add (A.bits Go.BinOp.and .u64 (A.shr n 1) 6148914691236517205) (A.bits Go.BinOp.and .u64 n 6148914691236517205)) 3689348814741910323)) 4) (A.add (A.bits Go.BinOp.and .u64 (A.shr (A.add (A.bits Go.BinOp.and .u64 (A.shr n 1) 6148914691236517205) (A.bits Go.BinOp.and .u64 n 6148914691236517205)) 2) 3689348814741910323) (A.bits Go.BinOp.and .u64 (A.add (A.bits Go.BinOp.and .u64 (A.shr n 1) 6148914691236517205) (A.bits Go.BinOp.and .u64 n 6148914691236517205)) 3689348814741910323))) 1085102592571150095) 8)) 16)) (A.shr (A.add (A.add (A.bits Go.BinOp.and .u64 (A.add (A.shr (A.add (A.bits Go.BinOp.and .u64 (A.shr (A.add (A.bits Go.BinOp.and .u64 (A.shr n 1) 6148914691236517205) (A.bits Go.BinOp.and .u64 n 6148914691236517205)) 2) 3689348814741910323) (A.bits Go.BinOp.and .u64 (A.add (A.bits Go.BinOp.and .u64 (A.shr n 1) 6148914691236517205) (A.bits Go.BinOp.and .u64 n 6148914691236517205)) 3689348814741910323)) 4) (A.add (A.bits Go.BinOp.and .u64 (A.shr (A.add (A.bits Go.BinOp.and .u64 (A.shr n 1) 6148914691236517205) (A.bits Go.BinOp.and .u64 n 6148914691236517205)) 2) 3689348814741910323) (A.bits Go.BinOp.and .u64 (A.add (A.bits Go.BinOp.and .u64 (A.shr n 1) 6148914691236517205) (A.bits Go.BinOp.and .u64 n 6148914691236517205)) 3689348814741910323))) 1085102592571150095) (A.shr (A.bits Go.BinOp.and .u64 (A.add (A.shr (A.add (A.bits Go.BinOp.and .u64 (A.shr (A.add (A.bits Go.BinOp.and .u64 (A.shr n 1) 6148914691236517205) (A.bits Go.BinOp.and .u64 n 6148914691236517205)) 2) 3689348814741910323) (A.bits Go.BinOp.and .u64 (A.add (A.bits Go.BinOp.and .u64 (A.shr n 1) 6148914691236517205) (A.bits Go.BinOp.and .u64 n 6148914691236517205)) 3689348814741910323)) 4) (A.add (A.bits Go.BinOp.and .u64 (A.shr (A.add (A.bits Go.BinOp.and .u64 (A.shr n 1) 6148914691236517205) (A.bits Go.BinOp.and .u64 n 6148914691236517205)) 2) 3689348814741910323) (A.bits Go.BinOp.and .u64 (A.add (A.bits Go.BinOp.and .u64 (A.shr n 1) 6148914691236517205) (A.bits Go.BinOp.and .u64 n 6148914691236517205)) 3689348814741910323))) 1085102592571150095) 8)) (A.shr (A.add (A.bits Go.BinOp.and .u64 (A.add (A.shr (A.add (A.bits Go.BinOp.and .u64 (A.shr (A.add (A.bits Go.BinOp.and .u64 (A.shr n 1) 6148914691236517205) (A.bits Go.BinOp.and .u64 n 6148914691236517205)) 2) 3689348814741910323) (A.bits Go.BinOp.and .u64 (A.add (A.bits Go.BinOp.and .u64 (A.shr n 1) 6148914691236517205) (A.bits Go.BinOp.and .u64 n 6148914691236517205)) 3689348814741910323)) 4) (A.add (A.bits Go.BinOp.and .u64 (A.shr (A.add (A.bits Go.BinOp.and .u64 (A.shr n 1) 6148914691236517205) (A.bits Go.BinOp.and .u64 n 6148914691236517205)) 2) 3689348814741910323) (A.bits Go.BinOp.and .u64 (A.add (A.bits Go.BinOp.and .u64 (A.shr n 1) 6148914691236517205) (A.bits Go.BinOp.and .u64 n 6148914691236517205)) 3689348814741910323))) 1085102592571150095) (A.shr (A.bits Go.BinOp.and .u64 (A.add (A.shr (A.add (A.bits Go.BinOp.and .u64 (A.shr (A.add (A.bits Go.BinOp.and .u64 (A.shr n 1) 6148914691236517205) (A.bits Go.BinOp.and .u64 n 6148914691236517205)) 2) 3689348814741910323) (A.bits Go.BinOp.and .u64 (A.add (A.bits Go.BinOp.and .u64 (A.shr n 1) 6148914691236517205) (A.bits Go.BinOp.and .u64 n 6148914691236517205)) 3689348814741910323)) 4) (A.add (A.bits Go.BinOp.and .u64 (A.shr (A.add (A.bits Go.BinOp.and .u64 (A.shr n 1) 6148914691236517205) (A.bits Go.BinOp.and .u64 n 6148914691236517205)) 2) 3689348814741910323) (A.bits Go.BinOp.and .u64 (A.add (A.bits Go.BinOp.and .u64 (A.shr n 1) 6148914691236517205) (A.bits Go.BinOp.and .u64 n 6148914691236517205)) 3689348814741910323))) 1085102592571150095) 8)) 16)) 32)),Zae (A.le 0 32) (Nat.blt (A.nat 32) 64),A.inR .u64 (A.add (A.add (A.bits Go.BinOp.and .u64 (A.add (A.shr (A.add (A.bits Go.BinOp.and .u64 (A.shr (A.add (A.bits Go.BinOp.and .u64 (A.shr n 1) 6148914691236517205) (A.bits Go.BinOp.and .u64 n 6148914691236517205)) 2) 3689348814741910323) (A.bits Go.BinOp.and .u64 (A.add (A.bits Go.BinOp.and .u64 (A.shr n 1) 6148914691236517205) (A.bits Go.BinOp.and .u64 n 6148914691236517205)) 3689348814741910323)) 4) (A.add (A.bits Go.BinOp.and .u64 (A.shr (A.add (A.bits Go.BinOp.and .u64 (A.shr n 1) 6148914691236517205) (A.bits Go.BinOp.and .u64 n 6148914691236517205)) 2) 3689348814741910323) (A.bits Go.BinOp.and .u64 (A.add (A.bits Go.BinOp.and .u64 (A.shr n 1) 6148914691236517205) (A.bits Go.BinOp.and .u64 n 6148914691236517205)) 3689348814741910323))) 1085102592571150095) (A.shr (A.bits Go.BinOp.and .u64 (A.add (A.shr (A.add (A.bits Go.BinOp.and .u64 (A.shr (A.add (A.bits Go.BinOp.and .u64 (A.shr n 1) 6148914691236517205) (A.bits Go.BinOp.and .u64 n 6148914691236517205)) 2) 3689348814741910323) (A.bits Go.BinOp.and .u64 (A.add (A.bits Go.BinOp.and .u64 (A.shr n 1) 6148914691236517205) (A.bits Go.BinOp.and .u64 n 6148914691236517205)) 3689348814741910323)) 4) (A.add (A.bits Go.BinOp.and .u64 (A.shr (A.add (A.bits Go.BinOp.and .u64 (A.shr n 1) 6148914691236517205) (A.bits Go.BinOp.and .u64 n 6148914691236517205)) 2) 3689348814741910323) (A.bits Go.BinOp.and .u64 (A.add (A.bits Go.BinOp.and .u64 (A.shr n 1) 6148914691236517205) (A.bits Go.BinOp.and .u64 n 6148914691236517205)) 3689348814741910323))) 1085102592571150095) 8)) (A.shr (A.add (A.bits Go.BinOp.and .u64 (A.add (A.shr (A.add (A.bits Go.BinOp.and .u64 (A.shr (A.add (A.bits Go.BinOp.and .u64 (A.shr n 1) 6148914691236517205) (A.bits Go.BinOp.and .u64 n 6148914691236517205)) 2) 3689348814741910323) (A.bits Go.BinOp.and .u64 (A.add (A.bits Go.BinOp.and .u64 (A.shr n 1) 6148914691236517205) (A.bits Go.BinOp.and .u64 n 6148914691236517205)) 3689348814741910323)) 4) (A.add (A.bits Go.BinOp.and .u64 (A.shr (A.add (A.bits Go.BinOp.and .u64 (A.shr n 1) 6148914691236517205) (A.bits Go.BinOp.and .u64 n 6148914691236517205)) 2) 3689348814741910323) (A.bits Go.BinOp.and .u64 (A.add (A.bits Go.BinOp.and .u64 (A.shr n 1) 6148914691236517205) (A.bits Go.BinOp.and .u64 n 6148914691236517205)) 3689348814741910323))) 1085102592571150095) (A.shr (A.bits Go.BinOp.and .u64 (A.add (A.shr (A.add (A.bits Go.BinOp.and .u64 (A.shr (A.add (A.bits Go.BinOp.and .u64 (A.shr n 1) 6148914691236517205) (A.bits Go.BinOp.and .u64 n 6148914691236517205)) 2) 3689348814741910323) (A.bits Go.BinOp.and .u64 (A.add (A.bits Go.BinOp.and .u64 (A.shr n 1) 6148914691236517205) (A.bits Go.BinOp.and .u64 n 6148914691236517205)) 3689348814741910323)) 4) (A.add (A.bits Go.BinOp.and .u64 (A.shr (A.add (A.bits Go.BinOp.and .u64 (A.shr n 1) 6148914691236517205) (A.bits Go.BinOp.and .u64 n 6148914691236517205)) 2) 3689348814741910323) (A.bits Go.BinOp.and .u64 (A.add (A.bits Go.BinOp.and .u64 (A.shr n 1) 6148914691236517205) (A.bits Go.BinOp.and .u64 n 6148914691236517205)) 3689348814741910323))) 1085102592571150095) 8)) 16)),Zae (A.le 0 16) (Nat.blt (A.nat 16) 64),A.inR .u64 (A.add (A.bits Go.BinOp.and .u64 (A.add (A.shr (A.add (A.bits Go.BinOp.and .u64 (A.shr (A.add (A.bits Go.BinOp.and .u64 (A.shr n 1) 6148914691236517205) (A.bits Go.BinOp.and .u64 n 6148914691236517205)) 2) 3689348814741910323) (A.bits Go.BinOp.and .u64 (A.add (A.bits Go.BinOp.and .u64 (A.shr n 1) 6148914691236517205) (A.bits Go.BinOp.and .u64 n 6148914691236517205)) 3689348814741910323)) 4) (A.add (A.bits Go.BinOp.and .u64 (A.shr (A.add (A.bits Go.BinOp.and .u64 (A.shr n 1) 6148914691236517205) (A.bits Go.BinOp.and .u64 n 6148914691236517205)) 2) 3689348814741910323) (A.bits Go.BinOp.and .u64 (A.add (A.bits Go.BinOp.and .u64 (A.shr n 1) 6148914691236517205) (A.bits Go.BinOp.and .u64 n 6148914691236517205)) 3689348814741910323))) 1085102592571150095) (A.shr (A.bits Go.BinOp.and .u64 (A.add (A.shr (A.add (A.bits Go.BinOp.and .u64 (A.shr (A.add (A.bits Go.BinOp.and .u64 (A.shr n 1) 6148914691236517205) (A.bits Go.BinOp.and .u64 n 6148914691236517205)) 2) 3689348814741910323) (A.bits Go.BinOp.and .u64 (A.add (A.bits Go.BinOp.and .u64 (A.shr n 1) 6148914691236517205) (A.bits Go.BinOp.and .u64 n 6148914691236517205)) 3689348814741910323)) 4) (A.add (A.bits Go.BinOp.and .u64 (A.shr (A.add (A.bits Go.BinOp.and .u64 (A.shr n 1) 6148914691236517205) (A.bits Go.BinOp.and .u64 n 6148914691236517205)) 2) 3689348814741910323) (A.bits Go.BinOp.and .u64 (A.add (A.bits Go.BinOp.and .u64 (A.shr n 1) 6148914691236517205) (A.bits Go.BinOp.and .u64 n 6148914691236517205)) 3689348814741910323))) 1085102592571150095) 8)),Zae (A.le 0 8) (Nat.blt (A.nat 8) 64),A.inR .u64 (A.add (A.shr (A.add (A.bits Go.BinOp.and .u64 (A.shr (A.add (A.bits Go.BinOp.and .u64 (A.shr n 1) 6148914691236517205) (A.bits Go.BinOp.and .u64 n 6148914691236517205)) 2) 3689348814741910323) (A.bits Go.BinOp.and .u64 (A.add (A.bits Go.BinOp.and .u64 (A.shr n 1) 6148914691236517205) (A.bits Go.BinOp.and .u64 n 6148914691236517205)) 3689348814741910323)) 4) (A.add (A.bits Go.BinOp.and .u64 (A.shr (A.add (A.bits Go.BinOp.and .u64 (A.shr n 1) 6148914691236517205) (A.bits Go.BinOp.and .u64 n 6148914691236517205)) 2) 3689348814741910323) (A.bits Go.BinOp.and .u64 (A.add (A.bits Go.BinOp.and .u64 (A.shr n 1) 6148914691236517205) (A.bits Go.BinOp.and .u64 n 6148914691236517205)) 3689348814741910323))),Zae (A.le 0 4) (Nat.blt (A.nat 4) 64),A.inR .u64 (A.add (A.bits Go.BinOp.and .u64 (A.shr (A.add (A.bits Go.BinOp.and .u64 (A.shr n 1) 6148914691236517205) (A.bits Go.BinOp.and .u64 n 6148914691236517205)) 2) 3689348814741910323) (A.bits Go.BinOp.and .u64 (A.add (A.bits Go.BinOp.and .u64 (A.shr n 1) 6148914691236517205) (A.bits Go.BinOp.and .u64 n 6148914691236517205)) 3689348814741910323)),Zae (A.le 0 2) (Nat.blt (A.nat 2) 64),A.inR .u64 (A.add (A.bits Go.BinOp.and .u64 (A.shr n 1) 6148914691236517205) (A.bits Go.BinOp.and .u64 n 6148914691236517205)),Zae (A.le 0 1) (Nat.blt (A.nat 1) 64)] (F (AV.int .i64 (A.bits Go.BinOp.and .i64 (A.add (A.add (A.add (A.bits Go.BinOp.and .u64 (A.add (A.shr (A.add (A.bits Go.BinOp.and .u64 (A.shr (A.add (A.bits Go.BinOp.and .u64 (A.shr n 1) 6148914691236517205) (A.bits Go.BinOp.and .u64 n 6148914691236517205)) 2) 3689348814741910323) (A.bits Go.BinOp.and .u64 (A.add (A.bits Go.BinOp.and .u64 (A.shr n 1) 6148914691236517205) (A.bits Go.BinOp.and .u64 n 6148914691236517205)) 3689348814741910323)) 4) (A.add (A.bits Go.BinOp.and .u64 (A.shr (A.add (A.bits Go.BinOp.and .u64 (A.shr n 1) 6148914691236517205) (A.bits Go.BinOp.and .u64 n 6148914691236517205)) 2) 3689348814741910323) (A.bits Go.BinOp.and .u64 (A.add (A.bits Go.BinOp.and .u64 (A.shr n 1) 6148914691236517205) (A.bits Go.BinOp.and .u64 n 6148914691236517205)) 3689348814741910323))) 1085102592571150095) (A.shr (A.bits Go.BinOp.and .u64 (A.add (A.shr (A.add (A.bits Go.BinOp.and .u64 (A.shr (A.add (A.bits Go.BinOp.and .u64 (A.shr n 1) 6148914691236517205) (A.bits Go.BinOp.and .u64 n 6148914691236517205)) 2) 3689348814741910323) (A.bits Go.BinOp.and .u64 (A.add (A.bits Go.BinOp.and .u64 (A.shr n 1) 6148914691236517205) (A.bits Go.BinOp.and .u64 n 6148914691236517205)) 3689348814741910323)) 4) (A.add (A.bits Go.BinOp.and .u64 (A.shr (A.add (A.bits Go.BinOp.and .u64 (A.shr n 1) 6148914691236517205) (A.bits Go.BinOp.and .u64 n 6148914691236517205)) 2) 3689348814741910323) (A.bits Go.BinOp.and .u64 (A.add (A.bits Go.BinOp.and .u64 (A.shr n 1) 6148914691236517205) (A.bits Go.BinOp.and .u64 n 6148914691236517205)) 3689348814741910323))) 1085102592571150095) 8)) (A.shr (A.add (A.bits Go.BinOp.and .u64 (A.add (A.shr (A.add (A.bits Go.BinOp.and .u64 (A.shr (A.add (A.bits Go.BinOp.and .u64 (A.shr n 1) 6148914691236517205) (A.bits Go.BinOp.and .u64 n 6148914691236517205)) 2) 3689348814741910323) (A.bits Go.BinOp.and .u64 (A.add (A.bits Go.BinOp.and .u64 (A.shr n 1) 6148914691236517205) (A.bits Go.BinOp.and .u64 n 6148914691236517205)) 3689348814741910323)) 4) (A.add (A.bits Go.BinOp.and .u64 (A.shr (A.add (A.bits Go.BinOp.and .u64 (A.shr n 1) 6148914691236517205) (A.bits Go.BinOp.and .u64 n 6148914691236517205)) 2) 3689348814741910323) (A.bits Go.BinOp.and .u64 (A.add (A.bits Go.BinOp.and .u64 (A.shr n 1) 6148914691236517205) (A.bits Go.BinOp.and .u64 n 6148914691236517205)) 3689348814741910323))) 1085102592571150095) (A.shr (A.bits Go.BinOp.and .u64 (A.add (A.shr (A.add (A.bits Go.BinOp.and .u64 (A.shr (A.add (A.bits Go.BinOp.and .u64 (A.shr n 1) 6148914691236517205) (A.bits Go.BinOp.and .u64 n 6148914691236517205)) 2) 3689348814741910323) (A.bits Go.BinOp.and .u64 (A.add (A.bits Go.BinOp.and .u64 (A.shr n 1) 6148914691236517205) (A.bits Go.BinOp.and .u64 n 6148914691236517205)) 3689348814741910323)) 4) (A.add (A.bits Go.BinOp.and .u64 (A.shr (A.add (A.bits Go.BinOp.and .u64 (A.shr n 1) 6148914691236517205) (A.bits Go.BinOp.and .u64 n 6148914691236517205)) 2) 3689348814741910323) (A.bits Go.BinOp.and .u64 (A.add (A.bits Go.BinOp.and .u64 (A.shr n 1) 6148914691236517205) (A.bits Go.BinOp.and .u64 n 6148914691236517205)) 3689348814741910323))) 1085102592571150095) 8)) 16)) (A.shr (A.add (A.add (A.bits Go.BinOp.and .u64 (A.add (A.shr (A.add (A.bits Go.BinOp.and .u64 (A.shr (A.add (A.bits Go.BinOp.and .u64 (A.shr n 1) 6148914691236517205) (A.bits Go.BinOp.and .u64 n 6148914691236517205)) 2) 3689348814741910323) (A.bits Go.BinOp.and .u64 (A.add (A.bits Go.BinOp.and .u64 (A.shr n 1) 6148914691236517205) (A.bits Go.BinOp.and .u64 n 6148914691236517205)) 3689348814741910323)) 4) (A.add (A.bits Go.BinOp.and .u64 (A.shr (A.add (A.bits Go.BinOp.and .u64 (A.shr n 1) 6148914691236517205) (A.bits Go.BinOp.and .u64 n 6148914691236517205)) 2) 3689348814741910323) (A.bits Go.BinOp.and .u64 (A.add (A.bits Go.BinOp.and .u64 (A.shr n 1) 6148914691236517205) (A.bits Go.BinOp.and .u64 n 6148914691236517205)) 3689348814741910323))) 1085102592571150095) (A.shr (A.bits Go.BinOp.and .u64 (A.add (A.shr (A.add (A.bits Go.BinOp.and .u64 (A.shr (A.add (A.bits Go.BinOp.and .u64 (A.shr n 1) 6148914691236517205) (A.bits Go.BinOp.and .u64 n 6148914691236517205)) 2) 3689348814741910323) (A.bits Go.BinOp.and .u64 (A.add (A.bits Go.BinOp.and .u64 (A.shr n 1) 6148914691236517205) (A.bits Go.BinOp.and .u64 n 6148914691236517205)) 3689348814741910323)) 4) (A.add (A.bits Go.BinOp.and .u64 (A.shr (A.add (A.bits Go.BinOp.and .u64 (A.shr n 1) 6148914691236517205) (A.bits Go.BinOp.and .u64 n 6148914691236517205)) 2) 3689348814741910323) (A.bits Go.BinOp.and .u64 (A.add (A.bits Go.BinOp.and .u64 (A.shr n 1) 6148914691236517205) (A.bits Go.BinOp.and .u64 n 6148914691236517205)) 3689348814741910323))) 1085102592571150095) 8)) (A.shr (A.add (A.bits Go.BinOp.and .u64 (A.add (A.shr (A.add (A.bits Go.BinOp.and .u64 (A.shr (A.add (A.bits Go.BinOp.and .u64 (A.shr n 1) 6148914691236517205) (A.bits Go.BinOp.and .u64 n 6148914691236517205)) 2) 3689348814741910323) (A.bits Go.BinOp.and .u64 (A.add (A.bits Go.BinOp.and .u64 (A.shr n 1) 6148914691236517205) (A.bits Go.BinOp.and .u64 n 6148914691236517205)) 3689348814741910323)) 4) (A.add (A.bits Go.BinOp.and .u64 (A.shr (A.add (A.bits Go.BinOp.and .u64 (A.shr n 1) 6148914691236517205) (A.bits Go.BinOp.and .u64 n 6148914691236517205)) 2) 3689348814741910323) (A.bits Go.BinOp.and .u64 (A.add (A.bits Go.BinOp.and .u64 (A.shr n 1) 6148914691236517205) (A.bits Go.BinOp.and .u64 n 6148914691236517205)) 3689348814741910323))) 1085102592571150095) (A.shr (A.bits Go.BinOp.and .u64 (A.add (A.shr (A.add (A.bits Go.BinOp.and .u64 (A.shr (A.add (A.bits Go.BinOp.and .u64 (A.shr n 1) 6148914691236517205) (A.bits Go.BinOp.and .u64 n 6148914691236517205)) 2) 3689348814741910323) (A.bits Go.BinOp.and .u64 (A.add (A.bits Go.BinOp.and .u64 (A.shr n 1) 6148914691236517205) (A.bits Go.BinOp.and .u64 n 6148914691236517205)) 3689348814741910323)) 4) (A.add (A.bits Go.BinOp.and .u64 (A.shr (A.add (A.bits Go.BinOp.and .u64 (A.shr n 1) 6148914691236517205) (A.bits Go.BinOp.and .u64 n 6148914691236517205)) 2) 3689348814741910323) (A.bits Go.BinOp.and .u64 (A.add (A.bits Go.BinOp.and .u64 (A.shr n 1) 6148914691236517205) (A.bits Go.BinOp.and .u64 n 6148914691236517205)) 3689348814741910323))) 1085102592571150095) 8)) 16)) 32)) 127)) (none))
theorem ZBj{A:Ar}{K:KT}{F:FT}{M:MT}{n:Int} :Zap A tab N1 113 K F M (.run 5 (.fy (.run 76 (.fn)))) (ZD4 n) []=ZuN A K F n:=by kernel_rfl
def ZuG(a b:Int):AFrame:={ fn:=109,N:=20,env:=[(0,AV.int .i64 a),(1,AV.int .i64 b)],todo:=[.code a109.code],defs:=[],rnd:=none,ret:=false,res:=[ARes.tmp 4] }
def ZDr(a b:Int):List AFrame:=[(ZuG a b)]
theorem Zue(a b:Int):Zas tab 109 [AV.int .i64 a,AV.int .i64 b]=some (ZuG a b):=rfl
def Zee(n0 n1:Int):List AFrame:=[{ fn:=109,N:=20,env:=[(5,AV.int .i64 n1),(6,AV.int .i64 n0)],todo:=.code (ACode.gh [] Zu3)::ZzK,defs:=[],rnd:=none,ret:=false,res:=[ARes.tmp 4] }]
def Zdj(n0 n1:Int):Zac:=[]
abbrev Zgv(n0 n1:Int):List AFrame×Zac:=(Zee n0 n1,Zdj n0 n1)
def Zux(A:Ar)(K:KT)(F:FT)(a b:Int):Prop:=K (Zgv (A.bits Go.BinOp.and .i64 a b) (0))
theorem ZyA{A:Ar}{K:KT}{F:FT}{M:MT}{a b:Int} :Zap A tab N1 109 K F M (.run 19 (.hd)) (ZDr a b) []=Zux A K F a b:=by kernel_rfl
def Zda(A:Ar)(K:KT)(F:FT)(n0 n1:Int):Prop:=bB (A.lt 0 n0) (rB [Zae (A.not (A.eq 2 0)) (A.inR .i64 (A.quo n0 2)),A.inR .i64 (A.add n1 (A.rem n0 2)),A.not (A.eq 2 0)] (K (Zgv (A.quo n0 2) (A.add n1 (A.rem n0 2))))) (rB [A.not (A.eq 2 0)] (F (AV.int .i64 (A.rem n1 2)) (none)))
theorem Zlm{A:Ar}{K:KT}{F:FT}{M:MT}{n0 n1:Int} :Zap A tab N1 109 K F M (.run 7 (.tf (.run 18 (.hd)) (.run 8 (.fn)))) (Zee n0 n1) (Zdj n0 n1)=Zda A K F n0 n1:=by kernel_rfl
def Zz6(m g0 g1:Int):AFrame:={ fn:=67,N:=6,env:=[(0,AV.agg (.ints .i64 [m,g0,g1]))],todo:=[.code a67.code],defs:=[],rnd:=none,ret:=false,res:=[ARes.tmp 2] }
def ZGw(m g0 g1:Int):List AFrame:=[(Zz6 m g0 g1)]
theorem Zxr(m g0 g1:Int):Zas tab 67 [AV.agg (.ints .i64 [m,g0,g1])]=some (Zz6 m g0 g1):=rfl
def Zz7(A:Ar)(K:KT)(F:FT)(m g0 g1:Int):Prop:=rB [Zae (Zae (A.le 0 (A.nth [m,g0,g1] 0)) (Nat.blt (A.nat (A.nth [m,g0,g1] 0)) 64)) (A.inR .i64 (A.shl 1 (A.nth [m,g0,g1] 0))),Nat.blt 0 (A.len [m,g0,g1]),Nat.blt 0 (A.len [m,g0,g1])] (F (AV.int .i64 (A.shl 1 (A.nth [m,g0,g1] 0))) (none))
theorem ZES{A:Ar}{K:KT}{F:FT}{M:MT}{m g0 g1:Int} :Zap A tab N1 67 K F M (.run 13 (.fn)) (ZGw m g0 g1) []=Zz7 A K F m g0 g1:=by kernel_rfl
def ZBy(xs:List Int)(lo hi:Int):AFrame:={ fn:=70,N:=14,env:=[(0,AV.list (.ints .i64 xs)),(1,AV.int .i64 lo),(2,AV.int .i64 hi)],todo:=[.code a70.code],defs:=[],rnd:=none,ret:=false,res:=[ARes.tmp 6] }
def ZG3(xs:List Int)(lo hi:Int):List AFrame:=[(ZBy xs lo hi)]
theorem Zvh(xs:List Int)(lo hi:Int):Zas tab 70 [AV.list (.ints .i64 xs),AV.int .i64 lo,AV.int .i64 hi]=some (ZBy xs lo hi):=rfl
def Zf1(xs:List Int)(lo hi n0 n1:Int):List AFrame:=[{ fn:=123,N:=19,env:=[(0,AV.list (.ints .i64 xs)),(1,AV.fn 111 [AV.ptr 70005 0 0 0,AV.ptr 70006 0 0 0]),(7,AV.int .i64 n0),(8,AV.int .i64 n1)],todo:=.code (ACode.gh [] ZuZ)::ZBl,defs:=[],rnd:=none,ret:=false,res:=[ARes.tmp 4] },{ fn:=110,N:=9,env:=[(0,AV.list (.ints .i64 xs)),(1,AV.fn 111 [AV.ptr 70005 0 0 0,AV.ptr 70006 0 0 0]),(4,AV.bool false),(5,AV.list (.ints .i64 xs)),(6,AV.fn 111 [AV.ptr 70005 0 0 0,AV.ptr 70006 0 0 0])],todo:=[AItem.inReg [oN 7 (OpK.ncall true 0 123 [Opd.t 5,Opd.t 6]),oN 8 (OpK.bin Go.BinOp.geq (Opd.t 7) (cI 0)),mV 4 8], .code ACode.ret],defs:=[],rnd:=none,ret:=false,res:=[ARes.tmp 4] },{ fn:=70,N:=14,env:=[(0,AV.list (.ints .i64 xs)),(1,AV.int .i64 lo),(2,AV.int .i64 hi),(4,AV.ptr 70005 0 0 0),(5,AV.ptr 70006 0 0 0),(6,AV.int .i64 0),(8,AV.list (.ints .i64 xs)),(9,AV.fn 111 [AV.ptr 70005 0 0 0,AV.ptr 70006 0 0 0])],todo:=[AItem.inReg [oN 10 (OpK.ncall true 0 110 [Opd.t 8,Opd.t 9]),mV 7 10], .code (ACode.seq (ACode.reg none [mV 11 7,oN 12 (OpK.not (Opd.t 11)),oN 13 (OpK.ncall true 0 85 [Opd.t 12,cI 2]),mV 6 13]) ACode.ret)],defs:=[],rnd:=none,ret:=false,res:=[ARes.tmp 6] }]
def Zek(xs:List Int)(lo hi n0 n1:Int):Zac:=[(70005,{ base:=0,blks:=[Blk.row 3 1 (Row.gen [.int .i64 lo])] }),(70006,{ base:=0,blks:=[Blk.row 3 1 (Row.gen [.int .i64 hi])] })]
abbrev Zg4(xs:List Int)(lo hi n0 n1:Int):List AFrame×Zac:=(Zf1 xs lo hi n0 n1,Zek xs lo hi n0 n1)
def ZBP(A:Ar)(K:KT)(F:FT)(xs:List Int)(lo hi:Int):Prop:=K (Zg4 (xs) (lo) (hi) (A.int (A.len xs)) (0))
theorem ZDJ{A:Ar}{K:KT}{F:FT}{M:MT}{xs:List Int}{lo hi:Int} :Zap A tab N1 70 K F M (.run 34 (.hd)) (ZG3 xs lo hi) []=ZBP A K F xs lo hi:=by kernel_rfl
def ZcN(A:Ar)(K:KT)(F:FT)(xs:List Int)(lo hi n0 n1:Int):Prop:=bB (A.lt n1 n0) (rB [Zae (Zae (A.le 0 n1) (Nat.blt (A.nat n1) (A.len xs))) true] (bB (A.not (Zat (A.nth xs (A.nat n1)) lo hi)) (F (AV.int .i64 (Zay (A.not (A.le 0 n1)) 2)) (none)) (rB [A.inR .i64 (A.add n1 1)] (K (Zg4 (xs) (lo) (hi) (n0) (A.add n1 1)))))) (F (AV.int .i64 (Zay (A.not (A.le 0 (-1))) 2)) (none))
theorem ZhA{A:Ar}{K:KT}{F:FT}{M:MT}{xs:List Int}{lo hi n0 n1:Int} :Zap A tab N1 70 K F M (.run 6 (.tf (.run 32 (.tf (.run 22 (.fn)) (.run 8 (.hd)))) (.run 22 (.fn)))) (Zf1 xs lo hi n0 n1) (Zek xs lo hi n0 n1)=ZcN A K F xs lo hi n0 n1:=by kernel_rfl
def ZyZ(xs:List Int):AFrame:={ fn:=55,N:=16,env:=[(0,AV.list (.ints .i64 xs))],todo:=[.code a55.code],defs:=[],rnd:=none,ret:=false,res:=[ARes.tmp 2] }
def ZGc(xs:List Int):List AFrame:=[(ZyZ xs)]
theorem Zw3(xs:List Int):Zas tab 55 [AV.list (.ints .i64 xs)]=some (ZyZ xs):=rfl
def Zg3(xs:List Int)(n0:Int):List AFrame:=[{ fn:=55,N:=16,env:=[(0,AV.list (.ints .i64 xs)),(3,AV.int .i64 n0)],todo:=.code (ACode.gh [] ZAQ)::ZEV,defs:=[],rnd:=none,ret:=false,res:=[ARes.tmp 2] }]
def ZfJ(xs:List Int)(n0:Int):Zac:=[]
abbrev Zjo(xs:List Int)(n0:Int):List AFrame×Zac:=(Zg3 xs n0,ZfJ xs n0)
def ZCu(A:Ar)(K:KT)(F:FT)(xs:List Int):Prop:=K (Zjo (xs) (0))
theorem ZDt{A:Ar}{K:KT}{F:FT}{M:MT}{xs:List Int} :Zap A tab N1 55 K F M (.run 12 (.hd)) (ZGc xs) []=ZCu A K F xs:=by kernel_rfl
def ZdN(A:Ar)(K:KT)(F:FT)(xs:List Int)(n0:Int):Prop:=bB (A.lt n0 (A.int (A.len xs))) (rB [Zae (Zae (A.le 0 n0) (Nat.blt (A.nat n0) (A.len xs))) true] (bB (A.not (Zat (A.nth xs (A.nat n0)) (-7) 7)) (F (AV.int .i64 2) (none)) (rB [A.inR .i64 (A.add n0 1)] (K (Zjo (xs) (A.add n0 1)))))) (F (AV.int .i64 0) (none))
theorem Zi7{A:Ar}{K:KT}{F:FT}{M:MT}{xs:List Int}{n0:Int} :Zap A tab N1 55 K F M (.run 9 (.tf (.run 12 (.tf (.run 5 (.fn)) (.run 9 (.hd)))) (.run 6 (.fn)))) (Zg3 xs n0) (ZfJ xs n0)=ZdN A K F xs n0:=by kernel_rfl
def ZAp(p xs:List Int)(t:Int):AFrame:={ fn:=69,N:=29,env:=[(0,AV.agg (.ints .i64 p)),(1,AV.list (.ints .i64 xs)),(2,AV.int .i64 t)],todo:=[.code a69.code],defs:=[],rnd:=none,ret:=false,res:=[ARes.tmp 6] }
def ZHA(p xs:List Int)(t:Int):List AFrame:=[(ZAp p xs t)]
theorem Zwz(p xs:List Int)(t:Int):Zas tab 69 [AV.agg (.ints .i64 p),AV.list (.ints .i64 xs),AV.int .i64 t]=some (ZAp p xs t):=rfl
def ZAX(A:Ar)(K:KT)(F:FT)(p xs:List Int)(t:Int):Prop:=rB [A.inR .i64 (A.add (A.mul (A.nth xs (A.nat (A.mul 2 t))) (A.sub 1 (A.mul 2 (A.nth p 0)))) (A.mul (A.nth xs (A.nat (A.add (A.mul 2 t) 1))) (A.sub 1 (A.mul 2 (A.nth p 1))))),A.inR .i64 (A.mul (A.nth xs (A.nat (A.add (A.mul 2 t) 1))) (A.sub 1 (A.mul 2 (A.nth p 1)))),A.inR .i64 (A.sub 1 (A.mul 2 (A.nth p 1))),A.inR .i64 (A.mul 2 (A.nth p 1)),Nat.blt 1 (A.len p),Zae (Zae (A.le 0 (A.add (A.mul 2 t) 1)) (Nat.blt (A.nat (A.add (A.mul 2 t) 1)) (A.len xs))) true,A.inR .i64 (A.add (A.mul 2 t) 1),A.inR .i64 (A.mul 2 t),A.inR .i64 (A.mul (A.nth xs (A.nat (A.mul 2 t))) (A.sub 1 (A.mul 2 (A.nth p 0)))),A.inR .i64 (A.sub 1 (A.mul 2 (A.nth p 0))),A.inR .i64 (A.mul 2 (A.nth p 0)),Nat.blt 0 (A.len p),Zae (Zae (A.le 0 (A.mul 2 t)) (Nat.blt (A.nat (A.mul 2 t)) (A.len xs))) true,A.inR .i64 (A.mul 2 t),Nat.blt 0 (A.len p)] (F (AV.int .i64 (A.add (A.mul (A.nth xs (A.nat (A.mul 2 t))) (A.sub 1 (A.mul 2 (A.nth p 0)))) (A.mul (A.nth xs (A.nat (A.add (A.mul 2 t) 1))) (A.sub 1 (A.mul 2 (A.nth p 1)))))) (none))
theorem ZER{A:Ar}{K:KT}{F:FT}{M:MT}{p xs:List Int}{t:Int} :Zap A tab N1 69 K F M (.run 9 (.fn)) (ZHA p xs t) []=ZAX A K F p xs t:=by kernel_rfl
end Go.Proofs.Ytklbmkllepkjcaa
/- Contracts as a list. No condition. -/
namespace Go.Proofs.Ytklbmkllepkjcaa
theorem Rel.sameA{w:World}{ok:Nat→Prop}{h:Zac}{L:Lay}{r r':Row}{v:Value}(he:r.elems=r'.elems)(hr:Rel w ok h L (.agg r) v):Rel w ok h L (.agg r') v:=by
 cases hr with
 |agg _ xs hx vs hl h1 hrr=>exact .agg r' xs (hx.trans he) vs hl h1 hrr
theorem ZbZ{f:FuncId}{xs ys:List AV}{r r':Row}{x:AV}{fr:Option Fresh}(h:Zai Try.prog f (xs++ .agg r::ys) x fr)(he:r'.elems=r.elems):Zai Try.prog f (xs++ .agg r'::ys) x fr:=by
 intro w okA L vs hargs hok hG
 refine h w okA L vs ⟨by have:=hargs.1;simpa using this,fun j u v hu hv=>?_⟩ hok hG
 rcases Nat.lt_trichotomy j xs.length with hj |hj |hj
 ·rw[List.getElem?_append_left hj]at hu
  exact hargs.2 j u v (by rw[List.getElem?_append_left hj];exact hu) hv
 ·subst hj
  rw[List.getElem?_append_right (Nat.le_refl _)]at hu
  simp only[Nat.sub_self,List.getElem?_cons_zero,Option.some.injEq]at hu
  subst hu
  exact Rel.sameA he (hargs.2 _ _ v (by rw[List.getElem?_append_right (Nat.le_refl _)];simp) hv)
 ·rw[List.getElem?_append_right (by omega),show j-xs.length=(j-xs.length-1)+1 by omega,List.getElem?_cons_succ]at hu
  exact hargs.2 j u v (by rw[List.getElem?_append_right (by omega),show j-xs.length=(j-xs.length-1)+1 by omega,List.getElem?_cons_succ];exact hu) hv
def Zph(x:Nat):Nat:=x%2+x/2%2+x/4%2+x/8%2
def Zpw(r k:Int):Int:=((Zph (r.toNat &&& k.toNat)%2:Nat):Int)
theorem ZjS(r k:Nat)(hr:r≤15)(hk:k≤15):std.bits .and .i64 (r:Int) (k:Int)=((r &&& k:Nat):Int):=by
 have h1:∀m:Nat,m≤15→(BitVec.ofInt 64 (m:Int)).toNat=m:=fun m hm=>by
  rw[BitVec.ofInt_natCast,BitVec.toNat_ofNat];exact Nat.mod_eq_of_lt (by omega)
 show IntKind.i64.wrap ((BitVec.ofInt 64 (r:Int) &&& BitVec.ofInt 64 (k:Int)).toNat:Int)=_
 rw[BitVec.toNat_and,h1 r hr,h1 k hk]
 have:= @Nat.and_le_left r k
 rw[IntKind.wrap_i64]
 omega
theorem Zp5:∀ {l:List Bool},l.all (fun b=>b)=true→AllT l
 |[],_=>trivial
 |b::l,h=>by
  simp only[List.all_cons,Bool.and_eq_true]at h
  exact⟨h.1,Zp5 h.2⟩
theorem Zoj(x:Int)(h:0≤x∧x≤15):Zai Try.prog 113 [.int .u64 x] (.int .i64 ((Zph x.toNat:Nat):Int)) none:=by
 have:x=0∨x=1∨x=2∨x=3∨x=4∨x=5∨x=6∨x=7∨x=8∨x=9∨x=10∨x=11∨x=12∨x=13∨x=14∨x=15:=by omega
 rcases this with rfl |rfl |rfl |rfl |rfl |rfl |rfl |rfl |rfl |rfl |rfl |rfl |rfl |rfl |rfl |rfl<;>
  exact start (ZsI _) fun C hC=>tgo hC ZgC ZBj (by
   simp only[ZuN,ZB8]
   exact⟨Zp5 (by kernel_rfl),by kernel_rfl,trivial⟩)
def Zbs(xs:List Int)(lo hi:Int):Int:=if xs.all (fun x=>Zat x lo hi)=true then 0 else 2
theorem ZkA{xs:List Int}{k:Nat}(lo hi:Int)(h:k<xs.length):Zbs (xs.drop k) lo hi=if Zat (xs.getD k 0) lo hi=true then Zbs (xs.drop (k+1)) lo hi else 2:=by
 rw[Zsp h]
 unfold Zbs
 cases hw:Zat (xs.getD k 0) lo hi<;>simp[-List.getD_eq_getElem?_getD,List.all_cons,hw]
section
variable {C:Ctx}(hC:C.P=Try.prog)
include hC
theorem Zua:∀(K n:Nat),K≤15→n+K≤100→Ev C (Zee K n) (Zdj K n) (ZaX 109 (.int .i64 (((n+Zph K)%2:Nat):Int)) none):=by
 intro K
 induction K using Nat.strongRecOn with
 |_ K ih=>
  intro n hK hn
  refine tgo hC ZgC Zlm ?_
  by_cases h0:K=0
  ·subst h0
   have t1:((n:Nat):Int).tmod 2=((n%2:Nat):Int):=rfl
   simp[Zda,t1,Zph]
  ·have next:=ih (K/2) (by omega) (n+K%2) (by omega) (by omega)
   have e:n+K%2+Zph (K/2)=n+Zph K:=by unfold Zph;omega
   rw[e]at next
   have t1:((K:Nat):Int).tmod 2=((K%2:Nat):Int):=rfl
   have t2:((K:Nat):Int).tdiv 2=((K/2:Nat):Int):=rfl
   simp only[Zda,ZxM,Zn6,t1,t2,ZBk,ZB8,ZF1,ZoE]
   rw[if_pos (by simp;omega)]
   refine⟨by simp;omega,?_⟩
   have c:((n:Int)+((K%2:Nat):Int))=((n+K%2:Nat):Int):=by omega
   rw[c];exact next
theorem Znq(xs:List Int)(lo hi:Int)(hl:xs.length≤1000000):∀m k:Nat,k+m=xs.length→Ev C (Zf1 xs lo hi xs.length k) (Zek xs lo hi xs.length k) (ZaX 70 (.int .i64 (Zbs (xs.drop k) lo hi)) none)
 |0,k,hk=>tgo hC ZgC ZhA (by
  rw[List.drop_of_length_le (by omega)]
  simp[ZcN,show ¬(k:Int)<xs.length by omega,Zbs,Zay])
 |m+1,k,hk=>by
  have ih:=Znq xs lo hi hl m (k+1) (by omega)
  have hlt:(k:Int)<xs.length:=by omega
  have hlt2:k<xs.length:=by omega
  rw[ZkA lo hi hlt2]
  refine tgo hC ZgC ZhA ?_
  cases hw:Zat (xs.getD k 0) lo hi with
  |true=>
   simp[-List.getD_eq_getElem?_getD,ZcN,hlt,hlt2,hw]
   exact⟨by omega,by simpa using ih⟩
  |false=>simp[-List.getD_eq_getElem?_getD,ZcN,hlt,hlt2,hw,Zay]
theorem Zll(xs:List Int)(hl:xs.length≤1000000):∀m k:Nat,k+m=xs.length→Ev C (Zg3 xs k) (ZfJ xs k) (ZaX 55 (.int .i64 (Zbs (xs.drop k) (-7) 7)) none)
 |0,k,hk=>tgo hC ZgC Zi7 (by
  rw[List.drop_of_length_le (by omega)]
  simp[ZdN,show ¬(k:Int)<xs.length by omega,Zbs])
 |m+1,k,hk=>by
  have ih:=Zll xs hl m (k+1) (by omega)
  have hlt:(k:Int)<xs.length:=by omega
  have hlt2:k<xs.length:=by omega
  rw[ZkA _ _ hlt2]
  refine tgo hC ZgC Zi7 ?_
  cases hw:Zat (xs.getD k 0) (-7) 7 with
  |true=>
   simp[-List.getD_eq_getElem?_getD,ZdN,hlt,hlt2,hw]
   exact⟨by omega,by simpa using ih⟩
  |false=>simp[-List.getD_eq_getElem?_getD,ZdN,hlt,hlt2,hw]
end
theorem Zpm(r k:Int)(h:(0≤r∧r≤15)∧0≤k∧k≤15):Zai Try.prog 109 [.int .i64 r, .int .i64 k] (.int .i64 (Zpw r k)) none:=by
 obtain⟨R,rfl⟩:=Int.eq_ofNat_of_zero_le h.1.1
 obtain⟨K,rfl⟩:=Int.eq_ofNat_of_zero_le h.2.1
 have hl:= @Nat.and_le_left R K
 refine start (Zue R K) fun C hC=>tgo hC ZgC ZyA ?_
 simp only[Zux]
 rw[ZjS R K (by omega) (by omega)]
 have:=Zua hC (R &&& K) 0 (by omega) (by omega)
 rw[Nat.zero_add]at this
 exact this
theorem ZsO(xs:List Int)(lo hi:Int)(hl:xs.length≤1000000):Zai Try.prog 70 [.list (.ints .i64 xs), .int .i64 lo, .int .i64 hi] (.int .i64 (Zbs xs lo hi)) none:=
 start (Zvh xs lo hi) fun C hC=>tgo hC ZgC ZDJ (by
  have:=Znq hC xs lo hi hl xs.length 0 (by omega)
  simp[ZBP]
  simpa using this)
theorem Zq2(xs:List Int)(hl:xs.length≤1000000):Zai Try.prog 55 [.list (.ints .i64 xs)] (.int .i64 (Zbs xs (-7) 7)) none:=
 start (Zw3 xs) fun C hC=>tgo hC ZgC ZDt (by
  have:=Zll hC xs hl xs.length 0 (by omega)
  simp[ZCu]
  simpa using this)
def stN(m:Int):Int:=2^m.toNat
def Za7(m:Int):Bool:=decide (1≤m∧m≤3)
theorem Zgm{m:Int}(h:1≤m∧m≤3):stN m=2∨stN m=4∨stN m=8:=by
 have:m=1∨m=2∨m=3:=by omega
 rcases this with rfl |rfl |rfl<;>simp[stN]
theorem ZhC(m p q:Int)(h:1≤m∧m≤3):Zai Try.prog 67 [.agg (.ints .i64 [m,p,q])] (.int .i64 (stN m)) none:=
 start (Zxr m p q) fun C hC=>tgo hC ZgC ZES (by
  have h2:=Zgm h
  unfold stN at h2⊢
  simp[Zz7];omega)
def k113:Ctr:=⟨113,0,fun _ a=>match a with |[.int .u64 x]=>some (decide (0≤x∧x≤15), .int .i64 ((Zph x.toNat:Nat):Int),none) |_=>none⟩
theorem ZvF:k113.OK Try.prog:=fun pa args r fr h=>by
 simp only[k113]at h
 split at h
 ·simp only[Option.some.injEq,Prod.mk.injEq,decide_eq_true_eq]at h
  obtain⟨h0,rfl,rfl⟩:=h
  exact Zoj _ h0
 ·cases h
def k109:Ctr:=⟨109,0,fun _ a=>match a with |[.int .i64 r, .int .i64 k]=>some (decide ((0≤r∧r≤15)∧0≤k∧k≤15), .int .i64 (Zpw r k),none) |_=>none⟩
theorem Zx8:k109.OK Try.prog:=fun pa args r fr h=>by
 simp only[k109]at h
 split at h
 ·simp only[Option.some.injEq,Prod.mk.injEq,decide_eq_true_eq]at h
  obtain⟨h0,rfl,rfl⟩:=h
  exact Zpm _ _ h0
 ·cases h
def k70:Ctr:=⟨70,0,fun _ a=>match a with |[.list (.ints .i64 xs), .int .i64 lo, .int .i64 hi]=>some (decide (xs.length≤1000000), .int .i64 (Zbs xs lo hi),none) |_=>none⟩
theorem Zzy:k70.OK Try.prog:=fun pa args r fr h=>by
 simp only[k70]at h
 split at h
 ·simp only[Option.some.injEq,Prod.mk.injEq,decide_eq_true_eq]at h
  obtain⟨h0,rfl,rfl⟩:=h
  exact ZsO _ _ _ h0
 ·cases h
def k55:Ctr:=⟨55,0,fun _ a=>match a with |[.list (.ints .i64 xs)]=>some (decide (xs.length≤1000000), .int .i64 (Zbs xs (-7) 7),none) |_=>none⟩
theorem ZBg:k55.OK Try.prog:=fun pa args r fr h=>by
 simp only[k55]at h
 split at h
 ·simp only[Option.some.injEq,Prod.mk.injEq,decide_eq_true_eq]at h
  obtain⟨h0,rfl,rfl⟩:=h
  exact Zq2 _ h0
 ·cases h
def k67i:Ctr:=⟨67,0,fun _ a=>match a with |[.agg (.ints .i64 [m,_,_])]=>some (decide (Za7 m=true), .int .i64 (stN m),none) |_=>none⟩
theorem Zwh:k67i.OK Try.prog:=fun pa args r fr h=>by
 simp only[k67i]at h
 split at h
 ·simp only[Option.some.injEq,Prod.mk.injEq,decide_eq_true_eq]at h
  obtain⟨h0,rfl,rfl⟩:=h
  exact ZhC _ _ _ (of_decide_eq_true h0)
 ·cases h
def k67g:Ctr:=⟨67,0,fun _ a=>match a with |[.agg (.gen [.int .i64 m, .int .i64 _, .int .i64 _])]=>some (decide (Za7 m=true), .int .i64 (stN m),none) |_=>none⟩
theorem ZxW:k67g.OK Try.prog:=fun pa args r fr h=>by
 simp only[k67g]at h
 split at h
 ·simp only[Option.some.injEq,Prod.mk.injEq,decide_eq_true_eq]at h
  obtain⟨h0,rfl,rfl⟩:=h
  exact ZbZ (xs:=[]) (r:=.ints .i64 [_,_,_]) (ZhC _ _ _ (of_decide_eq_true h0)) rfl
 ·cases h
def N2:List Ctr:=[k113,k109,k70,k55,k67i,k67g]++N1
theorem Zh9:ZaP Try.prog N2:=⟨ZvF,⟨Zx8,⟨Zzy,⟨ZBg,⟨Zwh,⟨ZxW,ZgC⟩⟩⟩⟩⟩⟩
end Go.Proofs.Ytklbmkllepkjcaa
