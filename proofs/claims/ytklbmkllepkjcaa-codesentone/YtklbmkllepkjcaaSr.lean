/- Arguments' readings, of whatever type of plain cells and slices. No condition. -/
import Derived.Test.YtklbmkllepkjcaaW1
import Derived.Deep.Slices
import Derived.KernelRfl
namespace Go.Proofs.Ytklbmkllepkjcaa
open Go.ChangeShapes Go.WideShapes Go.ChangeAt Go.RowKit Go.Deep
def ZqW(P:Program)(f:TypeId→Option (List Sh)):Nat→List Field→Option (List Sh)
 |_,[]=>some []
 |off,fd::fds=>match fd.offset==off,f fd.type with
  |true,some l=>(match P.cellsOf fd.type==l.length,ZqW P f (off+l.length) fds with
   |true,some r=>some (l++r)
   |_,_=>none)
  |_,_=>none
def Zyy(ag:Bool)(l:List Sh):Option Sh:=match ag,l with
 |_,[]=>none
 |true,s::ss=>some (.agg (s::ss))
 |false,[s]=>some s
 |false,_=>none
def ZzD:Sh→Sh
 | .int k=>.ints k
 |s=>.big s
def ZGd(P:Program)(f:TypeId→Option (List Sh)):TypeDesc→Option (List Sh)
 | .int k=>some [.int k]
 | .bool=>some [.bool]
 | .string=>some [.str]
 | .struct fs=>ZqW P f 0 fs.toList
 | .array n e=>match f e with
   |some l=>(match P.cellsOf e==l.length with |true=>some (List.replicate n l).flatten |false=>none)
   |none=>none
 | .slice e=>match f e,P.underlying e with
   |some l,some de=>(match P.cellsOf e==l.length,Zyy (ZaI de) l with |true,some s=>some [ZzD s] |_,_=>none)
   |_,_=>none
 |_=>none
def Zv0(P:Program):Nat→TypeId→Option (List Sh)
 |0,_=>none
 |d+1,t=>match P.underlying t with
  |some td=>(match ZGd P (Zv0 P d) td with
   |some l=>(match P.cellsOf t==l.length with |true=>some l |false=>none)
   |none=>none)
  |none=>none
def wfE(ss:List Sh)(x:AV):Prop:=∀(j:Nat) (k:IntKind),ss[j]? =some (.int k)→(Lit.int k (x.cellAt j).toI).wf=true
def wfV:AV→Prop
 | .int k n=>(Lit.int k n).wf=true
 | .list (.ints k l)=>∀x∈l,(Lit.int k x).wf=true
 | .list (.big (.agg ss) l)=>∀x∈l,wfE ss x
 |_=>True
def Sh.leaf:Sh→Bool
 | .agg _=>false
 |_=>true
def Cf(s:Sh)(u:AV):Prop:=(∃a,u=s.view1 a)∧wfV u∧s.leaf=true
def Cfs(ss:List Sh)(us:List AV):Prop:=us.length=ss.length∧∀(j:Nat) (s:Sh) (u:AV),ss[j]? =some s→us[j]? =some u→Cf s u
def Rd(W:World)(L:Lay)(ss:List Sh)(cs:List Value):Prop:=∃us:List AV,RelL W (ZlJ W) [] L us cs∧(∀c∈cs,c.oneCell'=true)∧Cfs ss us
section
variable {H:Type}{enc:TypeId×Value→H}{P:Program}{W:World}{L:Lay}
theorem Cfs.app{s1 s2:List Sh}{u1 u2:List AV}(h1:Cfs s1 u1)(h2:Cfs s2 u2):Cfs (s1++s2) (u1++u2):=by
 refine⟨by simp[h1.1,h2.1],fun j s u hs hu=>?_⟩
 by_cases hj:j<s1.length
 ·rw[List.getElem?_append_left hj]at hs
  rw[List.getElem?_append_left (by rw[h1.1];exact hj)]at hu
  exact h1.2 j s u hs hu
 ·rw[List.getElem?_append_right (by omega)]at hs
  rw[List.getElem?_append_right (by rw[h1.1];omega),h1.1]at hu
  exact h2.2 _ s u hs hu
theorem Rd.app{s1 s2:List Sh}{c1 c2:List Value}(h1:Rd W L s1 c1)(h2:Rd W L s2 c2):Rd W L (s1++s2) (c1++c2):=by
 obtain⟨u1,r1,o1,f1⟩:=h1
 obtain⟨u2,r2,o2,f2⟩:=h2
 exact⟨u1++u2,r1.append r2,fun c hc=>(List.mem_append.1 hc).elim (o1 c) (o2 c),f1.app f2⟩
theorem Rd.nil:Rd W L [] []:=⟨[],RelL.nil,by simp,rfl,fun j s u hs=>by simp at hs⟩
theorem Rd.len{ss:List Sh}{cs:List Value}(h:Rd W L ss cs):cs.length=ss.length:=by
 obtain⟨us,r,_,f⟩:=h
 rw[←r.1,f.1]
theorem Rd.one{s:Sh}{v:Value}{u:AV}(hr:Rel W (ZlJ W) [] L u v)(h1:v.oneCell'=true)(hc:Cf s u):Rd W L [s] [v]:=
 ⟨[u],RelL.cons hr RelL.nil,by simpa using h1,rfl,fun j s' u' hs hu=>by
   cases j with
   |zero=>simp at hs hu;subst hs;subst hu;exact hc
   |succ j=>simp at hs⟩
theorem ZCu{f:TypeId→Option (List Sh)}{n:Nat}(IH:∀t ss,f t=some ss→∀fuel cs x,DataW.trod enc P W 0 (fun _=>true) true fuel t cs=some x→Rd W L ss cs){cs:List Value} :
 ∀(fs:List Field) (off:Nat) (ss:List Sh),ZqW P f off fs=some ss→(∀(i:Nat) (fd:Field),fs[i]? =some fd→∃x,DataW.trod enc P W 0 (fun _=>true) true n fd.type ((cs.drop fd.offset).take (P.cellsOf fd.type))=some x)→
 (cs.drop off).length=ss.length→Rd W L ss (cs.drop off)
 |[],off,ss,h,_,hl=>by
  simp only[ZqW,Option.some.injEq]at h
  subst h
  rw[List.eq_nil_of_length_eq_zero hl]
  exact Rd.nil
 |fd::fds,off,ss,h,hx,hl=>by
  simp only[ZqW]at h
  split at h
  ·rename_i l ho hfl
   split at h
   ·rename_i r hcl hr
    simp only[Option.some.injEq]at h
    subst h
    have ho:fd.offset=off:=by simpa using ho
    have hcl:P.cellsOf fd.type=l.length:=by simpa using hcl
    obtain⟨x,hxx⟩:=hx 0 fd rfl
    rw[ho,hcl]at hxx
    have h1:=IH _ _ hfl _ _ _ hxx
    have h2:=ZCu IH fds (off+l.length) r hr (fun i fd' h'=>hx (i+1) fd' (by simpa using h')) (by simp at hl ⊢;omega)
    have:=h1.app h2
    rw[show cs.drop (off+l.length)=(cs.drop off).drop l.length by rw[List.drop_drop],List.take_append_drop]at this
    exact this
   ·cases h
  ·cases h
theorem Zvx{l:List Sh}{n c:Nat}{e:TypeId}{cs:List Value}(hc:c=l.length)(IH:∀i,i<n→Rd W L l ((cs.drop (i*c)).take c)):
 ∀(k s:Nat),s+k=n→cs.length=n*c→Rd W L (List.replicate k l).flatten (cs.drop (s*c))
 |0,s,hs,hl=>by
  rw[List.drop_of_length_le (by rw[hl,←hs];simp)]
  exact Rd.nil
 |k+1,s,hs,hl=>by
  have h1:=IH s (by omega)
  have h2:=Zvx (e:=e) hc IH k (s+1) (by omega) hl
  have:=h1.app h2
  rw[Nat.add_mul,Nat.one_mul,show cs.drop (s*c+c)=(cs.drop (s*c)).drop c by rw[List.drop_drop],List.take_append_drop]at this
  rw[List.replicate_succ,List.flatten_cons]
  exact this
theorem ZgS:∀ {l:List AV},(∀u∈l,u.pure=true)→AV.pureL l=true
 |[],_=>rfl
 |u::l,h=>by simp only[AV.pureL,Bool.and_eq_true];exact⟨h u (by simp),ZgS fun v hv=>h v (by simp[hv])⟩
theorem Zks{α:Type}{sz:Nat}(g:Nat→List α):∀(n:Nat),(∀i,i<n→(g i).length=sz)→∀j,((List.range n).flatMap g)[j]? =if j<n*sz then(g (j/sz))[j%sz]? else none
 |0,_,j=>by simp
 |n+1,hg,j=>by
  have ih:=Zks g n (fun i hi=>hg i (by omega))
  have hlen:((List.range n).flatMap g).length=n*sz:=by
   apply Nat.le_antisymm
   ·have h1:=ih (n*sz)
    rw[if_neg (by omega)]at h1
    simpa using h1
   ·rcases Nat.lt_or_ge ((List.range n).flatMap g).length (n*sz)with h |h
    ·have h1:=ih ((List.range n).flatMap g).length
     rw[if_pos h,List.getElem?_eq_none (Nat.le_refl _)]at h1
     have hz:0<sz:=by rcases Nat.eq_zero_or_pos sz with h0 |h0;· subst h0;simp at h
                      ·exact h0
     have h2:((List.range n).flatMap g).length/sz<n:=by rw[Nat.div_lt_iff_lt_mul hz];exact h
     rw[List.getElem?_eq_getElem (by rw[hg _ (by omega)];exact Nat.mod_lt _ hz)]at h1
     cases h1
    ·exact h
  rw[List.range_succ,List.flatMap_append,List.flatMap_singleton]
  by_cases hj:j<n*sz
  ·rw[List.getElem?_append_left (by omega),ih,if_pos hj,if_pos (by rw[Nat.add_mul];omega)]
  ·rw[List.getElem?_append_right (by omega),hlen]
   by_cases hj2:j<(n+1)*sz
   ·rw[if_pos hj2]
    rw[Nat.add_mul,Nat.one_mul]at hj2
    have hz:0<sz:=by omega
    have e1:j/sz=n:=by
     rw[Nat.div_eq_iff hz];constructor
     ·rw[Nat.mul_comm]at hj ⊢;omega
     ·omega
    have e2:j%sz=j-n*sz:=by
     have:=Nat.div_add_mod j sz
     rw[e1,Nat.mul_comm]at this;omega
    rw[e1,e2]
   ·rw[if_neg hj2]
    exact List.getElem?_eq_none (by rw[hg n (by omega)];rw[Nat.add_mul]at hj2;omega)
theorem Zpn(s:Sh)(a:AV):s.view1 (s.view1 a)=s.view1 a:=by cases s<;>rfl
theorem Zk1:∀ {ss:List Sh} {us pre:List AV},Cfs ss us→ZeE ss pre.length (.agg (.gen (pre++us)))=us
 |[],us,pre,h=>by have:=h.1;cases us<;>simp at this;rfl
 |s::ss,us,pre,h=>by
  cases us with
  |nil=>have:=h.1;simp at this
  |cons u us=>
   obtain⟨a,rfl⟩:=(h.2 0 s u rfl rfl).1
   have ht:Cfs ss us:=⟨by have:=h.1;simpa using this,fun j s' u' hs hu=>h.2 (j+1) s' u' (by simpa using hs) (by simpa using hu)⟩
   have:=Zk1 (pre:=pre++[s.view1 a]) ht
   rw[List.append_assoc,List.length_append]at this
   simp only[List.length_singleton,List.singleton_append]at this
   simp only[ZeE,this]
   congr 1
   simp only[AV.cellAt,List.getD_eq_getElem?_getD,List.getElem?_append_right (Nat.le_refl _),Nat.sub_self,List.getElem?_cons_zero,Option.getD_some]
   exact Zpn s a
theorem Zuc{ss:List Sh}{us:List AV}(h:Cfs ss us):∀u∈us,u.pure=true∧u.single=true:=fun u hu=>by
 obtain⟨j,hj⟩:=List.mem_iff_getElem?.1 hu
 have hlt:=(List.getElem?_eq_some_iff.1 hj).1
 obtain⟨a,rfl⟩:=(h.2 j _ u (List.getElem?_eq_getElem (by rw[←h.1];exact hlt)) hj).1
 exact⟨ZfS _ _,ZdP _ _⟩
def ZyN(ag:Bool)(us:List AV):AV:=match ag with |true=>.agg (.gen us) |false=>us.getD 0 .top
theorem ZhF{ag:Bool}{ss:List Sh}{s:Sh}{us:List AV}(hs:Zyy ag ss=some s)(h:Cfs ss us):s.view (ZyN ag us)=ZyN ag us∧(ZyN ag us).flat=us:=by
 unfold Zyy at hs
 split at hs
 ·cases hs
 ·rename_i s1 ss1
  cases hs
  refine⟨?_,rfl⟩
  have:=Zk1 (pre:=[]) h
  simp only[List.nil_append,List.length_nil]at this
  simp only[Sh.view,ZyN,this]
 ·rename_i s1
  cases hs
  have hl:=h.1
  match us,hl with
  |[u],_=>
   obtain⟨⟨a,rfl⟩,_,hlf⟩:=h.2 0 _ u rfl rfl
   refine⟨?_,Zbm (ZdP _ _)⟩
   show s.view (s.view1 a)=s.view1 a
   cases s with
   |agg l=>cases hlf
   |_=>rfl
 ·cases hs
def Ze4(s:Sh)(es:List AV):Row:=match s with
 | .int k=>.ints k (es.map AV.toI)
 |s=>.big s es
theorem Zg0(s:Sh)(es:List AV):(Ze4 s es).elems=es.map s.view:=by
 cases s<;>simp[Ze4,Row.elems,Sh.view,Sh.view1,List.map_map,Function.comp_def]
theorem Zh8(s:Sh)(es:List AV):AV.list (Ze4 s es)=(ZzD s).view1 (.list (Ze4 s es)):=by cases s<;>rfl
theorem Zl3(s:Sh):(ZzD s).leaf=true:=by cases s<;>rfl
theorem Zm1{g:Nat→AV}{u:Nat→List AV}{n:Nat}(h:∀i,i<n→(g i).flat=u i):Zad ((List.range n).map g)=(List.range n).flatMap u:=by
 unfold Zad
 rw[List.flatMap_map]
 exact flatMap_congr_range h
theorem ZB5(a:Addr)(i sz j:Nat):(a.add (i*sz)).add j=a.add (i*sz+j):=ZfG a _ _
theorem ZBL{t e:TypeId}{de:TypeDesc}{l:List Sh}{s:Sh}(ht:P.underlying t=some (.slice e))(hcl:P.cellsOf e=l.length)(hs:Zyy (ZaI de) l=some s)
 (IH:∀fuel cs x,DataW.trod enc P W 0 (fun _=>true) true fuel e cs=some x→Rd W L l cs) {fuel:Nat} {cs:List Value} {x:DataW H×List MemPlace} (h:DataW.trod enc P W 0 (fun _=>true) true fuel t cs=some x):Rd W L [ZzD s] cs:=by
 have hpos:0<l.length:=by
  unfold Zyy at hs
  split at hs<;>first |(cases hs;done) |simp
 have emp:∀ad c,Rd W L [ZzD s] [.slice ad 0 c]:=fun ad c=>Rd.one (u:=.list (Ze4 s [])) (.nil _ ad c (by rw[Zg0];rfl)) rfl ⟨⟨_,Zh8 s []⟩,by cases s<;>simp[Ze4,wfV],Zl3 s⟩
 rcases open_slice ht h with⟨rfl,_⟩ |⟨a,len,cap,m,n,D,Pl,rfl,hb,hl,hm,hmm,_,hx⟩
 ·exact emp none 0
 ·by_cases h0:len=0
  ·subst h0;exact emp (some a) cap
  ·simp only[if_true]at hmm
   subst hmm
   obtain⟨F,hF⟩:=choose_lt (α:=List Value×List AV) (n:=len) (p:=fun i p=>W.cells? 0 (a.add (i*P.cellsOf e)) (P.cellsOf e)=some p.1∧RelL W (ZlJ W) [] L p.2 p.1∧(∀c∈p.1,c.oneCell'=true)∧Cfs l p.2) (fun i hi=>by
    obtain⟨cs',h1,h2⟩:=hx i (by omega)
    obtain⟨us,r,o,f⟩:=IH _ _ _ h2
    exact⟨(cs',us),h1,r,o,f⟩)
   rw[hcl]at hF
   have hcells:∀i,i<len→(F i).1.length=l.length∧∀j,j<l.length→W.cell? (a.add (i*l.length+j))=(F i).1[j]?:=fun i hi=>by
    obtain⟨_,g1,g2⟩:=World.cells?_some (hF i hi).1
    exact⟨g1,fun j hj=>by rw[←ZB5];exact g2 j hj⟩
   have hul:∀i,i<len→(F i).2.length=l.length:=fun i hi=>(hF i hi).2.2.2.1
   obtain⟨es,hes⟩:∃es,es=(List.range len).map fun i=>ZyN (ZaI de) (F i).2:=⟨_,rfl⟩
   have hview:es.map s.view=es:=by
    rw[hes,List.map_map]
    exact List.map_congr_left fun i hi=>(ZhF hs (hF i (List.mem_range.1 hi)).2.2.2).1
   have hfl:Zad es=(List.range len).flatMap fun i=>(F i).2:=by
    rw[hes];exact Zm1 fun i hi=>(ZhF hs (hF i hi).2.2.2).2
   have hsz:∀x∈es,x.flat.length=l.length:=fun x hx=>by
    rw[hes]at hx
    obtain⟨i,hi,rfl⟩:=List.mem_map.1 hx
    rw[(ZhF hs (hF i (List.mem_range.1 hi)).2.2.2).2]
    exact hul i (List.mem_range.1 hi)
   have hlen:es.length=len:=by rw[hes];simp
   have gU:=Zks (fun i=>(F i).2) len hul
   have gV:=Zks (fun i=>(F i).1) len (fun i hi=>(hcells i hi).1)
   have hlt:a.block<W.heap.size:=by
    have h1:=(hcells 0 (by omega)).2 0 hpos
    rw[List.getElem?_eq_getElem (by rw[(hcells 0 (by omega)).1];exact hpos)]at h1
    have:=Zxv h1
    rw[ZcP]at this;exact this
   have hidx:∀j,j<len*l.length→j/l.length<len∧j%l.length<l.length:=fun j hj=>⟨by rw[Nat.div_lt_iff_lt_mul hpos];exact hj,Nat.mod_lt _ hpos⟩
   refine Rd.one (u:=.list (Ze4 s es)) ?_ rfl ⟨⟨_,Zh8 s es⟩,?_,Zl3 s⟩
   ·refine .list (Ze4 s es) es (by rw[Zg0,hview]) a len _ l.length ((List.range len).flatMap fun i=>(F i).1) hlt hlt hlen.symm hl hsz ?_ ?_ ?_ ?_ ?_
    ·rw[hfl]
     have e1:∀(g:Nat→List Value) (k:Nat→List AV) (n:Nat),(∀i,i<n→(g i).length=(k i).length)→((List.range n).flatMap g).length=((List.range n).flatMap k).length:=by
      intro g k n
      induction n with
      |zero=>intro _;rfl
      |succ n ih=>
       intro hgk
       rw[List.range_succ,List.flatMap_append,List.flatMap_append,List.length_append,List.length_append,ih (fun i hi=>hgk i (by omega))]
       simp[hgk n (by omega)]
     exact e1 _ _ _ fun i hi=>by rw[(hcells i hi).1,hul i hi]
    ·intro c hc
     obtain⟨i,hi,hc⟩:=List.mem_flatMap.1 hc
     exact(hF i (List.mem_range.1 hi)).2.2.1 c hc
    ·intro j v hj
     rw[gV j]at hj
     split at hj
     ·rename_i hjl
      obtain⟨q1,q2⟩:=hidx j hjl
      have:=(hcells _ q1).2 _ q2
      rw[show j/l.length*l.length+j%l.length=j by rw[Nat.mul_comm];exact Nat.div_add_mod j _]at this
      rw[this,hj]
     ·cases hj
    ·rw[hfl]
     exact ZgS fun u hu=>by
      obtain⟨i,hi,hu⟩:=List.mem_flatMap.1 hu
      exact(Zuc (hF i (List.mem_range.1 hi)).2.2.2 u hu).1
    ·intro j u v hu hv
     rw[hfl,gU j]at hu
     rw[gV j]at hv
     split at hu
     ·rename_i hjl
      rw[if_pos hjl]at hv
      exact(hF _ (hidx j hjl).1).2.1.2 _ u v hu hv
     ·cases hu
   ·unfold Ze4
    split
    ·rename_i k
     simp only[wfV]
     intro z hz
     obtain⟨e1,he1,rfl⟩:=List.mem_map.1 hz
     rw[hes]at he1
     obtain⟨i,hi,rfl⟩:=List.mem_map.1 he1
     have hc:=(hF i (List.mem_range.1 hi)).2.2.2
     unfold Zyy at hs
     split at hs
     ·cases hs
     ·cases hs
     ·rename_i s1 hag
      cases hs
      have hl1:=hc.1
      rw[show ZaI de=false from by first |assumption |(rename_i hx _ _;exact hx)] 
      match hq:(F i).2,hl1 with
      |[u],_=>
       obtain⟨⟨a,ha⟩,hw,_⟩:=hc.2 0 (.int k) u rfl (by rw[hq];rfl)
       subst ha
       exact hw
     ·cases hs
    ·cases s with
     |agg ss=>
      show ∀x∈es,wfE ss x
      intro x hx j k hj
      rw[hes]at hx
      obtain⟨i,hi,rfl⟩:=List.mem_map.1 hx
      have hc:=(hF i (List.mem_range.1 hi)).2.2.2
      unfold Zyy at hs
      split at hs
      ·cases hs
      ·rename_i s1 ss1 hag
       cases hs
       rw[show ZaI de=true from by first |assumption |(rename_i hx2 _ _;exact hx2)]
       have hlt2:j<(F i).2.length:=by
        rw[hc.1]
        exact(List.getElem?_eq_some_iff.1 hj).1
       obtain⟨⟨a,ha⟩,hw,_⟩:=hc.2 j (.int k) _ hj (List.getElem?_eq_getElem hlt2)
       have he:(ZyN true (F i).2).cellAt j=(F i).2[j]:=by simp[ZyN,AV.cellAt,List.getD_eq_getElem?_getD,List.getElem?_eq_getElem hlt2]
       rw[he,ha]
       rw[ha]at hw
       exact hw
      ·rename_i s1 hag
       cases hs
       have hl1:=hc.1
       match hq:(F i).2,hl1 with
       |[u],_=>
        obtain⟨_,_,hlf⟩:=hc.2 0 (.agg ss) u rfl (by rw[hq];rfl)
        cases hlf
      ·cases hs
     |_=>trivial
theorem Zvk:∀(d:Nat) (t:TypeId) (ss:List Sh),Zv0 P d t=some ss→∀(fuel:Nat) (cs:List Value) (x:DataW H×List MemPlace),DataW.trod enc P W 0 (fun _=>true) true fuel t cs=some x→Rd W L ss cs
 |0,t,ss,h,_,_,_,_=>by simp[Zv0]at h
 |d+1,t,ss,h,fuel,cs,x,hx=>by
  have IH:=Zvk d
  simp only[Zv0]at h
  split at h
  ·rename_i td ht
   split at h
   ·rename_i l hl
    split at h
    ·rename_i hsz
     simp only[Option.some.injEq]at h
     subst h
     have hsz:P.cellsOf t=l.length:=by simpa using hsz
     unfold ZGd at hl
     split at hl
     ·rename_i k
      cases hl
      obtain⟨n,rfl,_,hw⟩:=DataW.trod_int ht hx
      exact Rd.one (.int k n) rfl ⟨⟨.int k n,rfl⟩,hw,rfl⟩
     ·cases hl
      obtain⟨b,rfl,_⟩:=DataW.trod_bool ht hx
      exact Rd.one (.bool b) rfl ⟨⟨.bool b,rfl⟩,trivial,rfl⟩
     ·cases hl
      obtain⟨s,rfl,_,_⟩:=DataW.trod_string ht hx
      have e:s=⟨s.data.toList.toArray⟩:=by simp
      refine Rd.one (u:=.str s.data.toList) ?_ rfl ⟨⟨.str s.data.toList,rfl⟩,trivial,rfl⟩
      have:=Rel.str (w:=W) (ok:=ZlJ W) (h:=[]) (L:=L) s.data.toList
      rw[←e]at this
      exact this
     ·rename_i fs
      obtain⟨xs,n,_,_,hlen,hxl,hf⟩:=DataW.trod_struct ht hx
      have:=ZCu (P:=P) (W:=W) (L:=L) (enc:=enc) (n:=n) IH (cs:=cs) fs.toList 0 l hl (fun i fd hfd=>by
       have hfd':fs[i]? =some fd:=by simpa using hfd
       have h1:=hf i fd hfd'
       have hi:i<xs.length:=by rw[hxl];exact(Array.getElem?_eq_some_iff.1 hfd').1
       exact⟨xs[i],by rw[h1,List.getElem?_eq_getElem hi]⟩) (by simp[hlen,hsz])
      simpa using this
     ·rename_i n e
      split at hl
      ·rename_i le hle
       split at hl
       ·rename_i hce
        simp only[Option.some.injEq]at hl
        subst hl
        have hce:P.cellsOf e=le.length:=by simpa using hce
        obtain⟨xs,m,_,_,hlen,hxl,hf⟩:=DataW.trod_array ht hx
        have:=Zvx (W:=W) (L:=L) (l:=le) (n:=n) (c:=P.cellsOf e) (e:=e) (cs:=cs) hce (fun i hi=>by
         have h1:=hf i hi
         rw[List.getElem?_eq_getElem (by rw[hxl];exact hi)]at h1
         exact IH _ _ hle _ _ _ h1) n 0 (by simp) (by rw[hlen,hsz,hce];simp)
        simpa using this
       ·cases hl
      ·cases hl
     ·rename_i e
      split at hl
      ·rename_i le de hle hde
       split at hl
       ·rename_i s hce hs
        simp only[Option.some.injEq]at hl
        subst hl
        exact ZBL ht (by simpa using hce) hs (fun fuel cs x hx=>IH _ _ hle fuel cs x hx) hx
       ·cases hl
      ·cases hl
     ·cases hl
    ·cases h
   ·cases h
  ·cases h
theorem ZrJ{d:Nat}{t:TypeId}{s:Sh}(hs:Zv0 P d t=some [s]){v:Value}{dd:DataW H}{ps:List MemPlace}(hv:v.oneCell'=true)(h:DataW.Trod enc P W 0 (fun _=>true) true t v dd ps):
 ∃u,Rel W (ZlJ W) [] L u v∧Cf s u:=by
 obtain⟨fuel,hf⟩:=h
 have hcs:v.cells.toList=[v]:=by cases v<;>first |rfl |(simp [Value.oneCell']at hv)
 obtain⟨us,r,o,f⟩:=Zvk (L:=L) d t [s] hs fuel _ _ hf
 rw[hcs]at r
 match us,f.1 with
 |[u],_=>exact⟨u,r.2 0 u v rfl rfl,f.2 0 s u rfl rfl⟩
end
end Go.Proofs.Ytklbmkllepkjcaa
/- The cells of some types, as they are read. No condition. -/
namespace Go.Proofs.Ytklbmkllepkjcaa
theorem ZBw{k:IntKind}{u:AV}(h:Cf (.int k) u):∃n,u=.int k n∧(Lit.int k n).wf=true:=by
 obtain⟨⟨a,rfl⟩,hw,_⟩:=h
 exact⟨_,rfl,hw⟩
theorem Zr5{k:IntKind}{u:AV}(h:Cf (.ints k) u):∃l:List Int,u=.list (.ints k l)∧∀x∈l,(Lit.int k x).wf=true:=by
 obtain⟨⟨a,rfl⟩,hw,_⟩:=h
 exact⟨_,rfl,hw⟩
end Go.Proofs.Ytklbmkllepkjcaa
/- Paths of functions, printed by the explorer (Gx). No condition. -/
namespace Go.Proofs.Ytklbmkllepkjcaa
set_option maxRecDepth 100000
set_option linter.unusedVariables false
def Zvy(xs:List Int):AFrame:={ fn:=104,N:=8,env:=[(0,AV.list (.ints .i64 xs))],todo:=[.code a104.code],defs:=[],rnd:=none,ret:=false,res:=[ARes.tmp 2] }
def ZD0(xs:List Int):List AFrame:=[(Zvy xs)]
theorem Zs5(xs:List Int):Zay tab 104 [AV.list (.ints .i64 xs)]=some (Zvy xs):=rfl
def ZvM(A:Ar)(K:KT)(F:FT)(xs:List Int):Prop:=rB [Nat.blt 0 (A.len xs)] (rB [Nat.ble (0+A.len xs) 4294967296,List.all [] fun x=>AV.bx x&&Nat.beq (Zaf A x) 1] (F (AV.row 0 0) (some { e:=3,sz:=1,r:=.ints .i64 xs })))
theorem ZC2{A:Ar}{K:KT}{F:FT}{M:MT}{xs:List Int} :Zao A tab E0 104 K F M (.run 10 (.fy (.run 9 (.fn)))) (ZD0 xs) []=ZvM A K F xs:=by kernel_rfl
def Zrl(cap:Nat):AFrame:={ fn:=104,N:=8,env:=[(0,AV.val (Go.Value.slice none 0 cap))],todo:=[.code a104.code],defs:=[],rnd:=none,ret:=false,res:=[ARes.tmp 2] }
def ZAn(cap:Nat):List AFrame:=[(Zrl cap)]
theorem ZqR(cap:Nat):Zay tab 104 [AV.val (Go.Value.slice none 0 cap)]=some (Zrl cap):=rfl
def ZrT(A:Ar)(K:KT)(F:FT)(cap:Nat):Prop:=F (AV.nils) (none)
theorem ZyV{A:Ar}{K:KT}{F:FT}{M:MT}{cap:Nat} :Zao A tab E0 104 K F M (.run 10 (.ty (.run 5 (.fn)))) (ZAn cap) []=ZrT A K F cap:=by kernel_rfl
def Zp2(ad:Go.Addr)(cap:Nat):AFrame:={ fn:=104,N:=8,env:=[(0,AV.val (Go.Value.slice (some ad) 0 cap))],todo:=[.code a104.code],defs:=[],rnd:=none,ret:=false,res:=[ARes.tmp 2] }
def ZAt(ad:Go.Addr)(cap:Nat):List AFrame:=[(Zp2 ad cap)]
theorem Zq4(ad:Go.Addr)(cap:Nat):Zay tab 104 [AV.val (Go.Value.slice (some ad) 0 cap)]=some (Zp2 ad cap):=rfl
def ZqZ(A:Ar)(K:KT)(F:FT)(ad:Go.Addr)(cap:Nat):Prop:=rB [List.all [] fun x=>AV.bx x&&Nat.beq (Zaf A x) 1] (F (AV.row 0 0) (some { e:=3,sz:=1,r:=Row.gen [] }))
theorem ZyO{A:Ar}{K:KT}{F:FT}{M:MT}{ad:Go.Addr}{cap:Nat} :Zao A tab E0 104 K F M (.run 10 (.fy (.run 9 (.fn)))) (ZAt ad cap) []=ZqZ A K F ad cap:=by kernel_rfl
end Go.Proofs.Ytklbmkllepkjcaa
/- Contracts as a list. No condition. -/
namespace Go.Proofs.Ytklbmkllepkjcaa
theorem Zni(xs:List Int)(h:xs.length≤1000000):Zah Try.prog 104 [.list (.ints .i64 xs)] (.row 0 0) (some ⟨3,1, .ints .i64 xs⟩):=by
 by_cases h0:xs=[]
 ·subst h0
  refine Zpg rfl fun ad cap=>?_
  cases ad with
  |none=>exact ZuC (r0:=.nils) (start (ZqR cap) fun C hC=>tgo hC Ztl ZyV (by simp[ZrT])) rfl rfl (by omega)
  |some ad=>exact ZtT (r:=.gen []) (start (Zq4 ad cap) fun C hC=>tgo hC Ztl ZyO (by simp[ZqZ])) (by omega) rfl
 ·have:=List.length_pos_iff.2 h0
  exact start (Zs5 xs) fun C hC=>tgo hC Ztl ZC2 (by simp[ZvM];omega)
def N0:List Ctr:=E0
theorem ZdQ:Zax Try.prog N0:=Ztl
end Go.Proofs.Ytklbmkllepkjcaa
/- Paths of functions, printed by the explorer (Gx). No condition. -/
namespace Go.Proofs.Ytklbmkllepkjcaa
set_option maxRecDepth 100000
set_option linter.unusedVariables false
def ZBZ(n lo hi:Int):AFrame:={ fn:=91,N:=15,env:=[(0,AV.int .i64 n),(1,AV.int .i64 lo),(2,AV.int .i64 hi)],todo:=[.code a91.code],defs:=[],rnd:=none,ret:=false,res:=[ARes.tmp 6] }
def ZGM(n lo hi:Int):List AFrame:=[(ZBZ n lo hi)]
theorem ZwE(n lo hi:Int):Zay tab 91 [AV.int .i64 n,AV.int .i64 lo,AV.int .i64 hi]=some (ZBZ n lo hi):=rfl
def ZAH(A:Ar)(K:KT)(F:FT)(n lo hi:Int):Prop:=bB (A.le lo n) (F (AV.bool (A.le n hi)) (none)) (F (AV.bool false) (none))
theorem ZFx{A:Ar}{K:KT}{F:FT}{M:MT}{n lo hi:Int} :Zao A tab N0 91 K F M (.run 10 (.tf (.ty (.ty (.ty (.run 4 (.fn))))) (.fy (.fy (.fy (.run 4 (.fn))))))) (ZGM n lo hi) []=ZAH A K F n lo hi:=by kernel_rfl
def ZCn(n lo hi:Int):AFrame:={ fn:=30,N:=15,env:=[(0,AV.int .i64 n),(1,AV.int .i64 lo),(2,AV.int .i64 hi)],todo:=[.code a30.code],defs:=[],rnd:=none,ret:=false,res:=[ARes.tmp 6] }
def ZHZ(n lo hi:Int):List AFrame:=[(ZCn n lo hi)]
theorem Zyq(n lo hi:Int):Zay tab 30 [AV.int .i64 n,AV.int .i64 lo,AV.int .i64 hi]=some (ZCn n lo hi):=rfl
def Zzh(A:Ar)(K:KT)(F:FT)(n lo hi:Int):Prop:=bB (A.le lo n) (F (AV.bool (A.le n hi)) (none)) (F (AV.bool false) (none))
theorem ZDK{A:Ar}{K:KT}{F:FT}{M:MT}{n lo hi:Int} :Zao A tab N0 30 K F M (.run 10 (.tf (.ty (.ty (.ty (.run 4 (.fn))))) (.fy (.fy (.fy (.run 4 (.fn))))))) (ZHZ n lo hi) []=Zzh A K F n lo hi:=by kernel_rfl
def ZCe(b:Bool)(e:Int):AFrame:={ fn:=85,N:=7,env:=[(0,AV.bool b),(1,AV.int .i64 e)],todo:=[.code a85.code],defs:=[],rnd:=none,ret:=false,res:=[ARes.tmp 4] }
def ZGK(b:Bool)(e:Int):List AFrame:=[(ZCe b e)]
theorem Zy5(b:Bool)(e:Int):Zay tab 85 [AV.bool b,AV.int .i64 e]=some (ZCe b e):=rfl
def ZBB(A:Ar)(K:KT)(F:FT)(b:Bool)(e:Int):Prop:=bB (b) (F (AV.int .i64 0) (none)) (F (AV.int .i64 e) (none))
theorem ZD4{A:Ar}{K:KT}{F:FT}{M:MT}{b:Bool}{e:Int} :Zao A tab N0 85 K F M (.run 9 (.tf (.run 5 (.fn)) (.run 7 (.fn)))) (ZGK b e) []=ZBB A K F b e:=by kernel_rfl
def ZzW(xs:List Int):AFrame:={ fn:=72,N:=15,env:=[(0,AV.list (.ints .i64 xs))],todo:=[.code a72.code],defs:=[],rnd:=none,ret:=false,res:=[ARes.tmp 2] }
def ZHm(xs:List Int):List AFrame:=[(ZzW xs)]
theorem ZwC(xs:List Int):Zay tab 72 [AV.list (.ints .i64 xs)]=some (ZzW xs):=rfl
def Zid(xs:List Int)(n0 n1:Int):List AFrame:=[{ fn:=72,N:=15,env:=[(5,AV.list (.ints .i64 xs)),(6,AV.int .i64 n0),(7,AV.int .i64 n1)],todo:=.code (ACode.gh [] ZCU)::ZFq,defs:=[],rnd:=none,ret:=false,res:=[ARes.tmp 2] }]
def ZfI(xs:List Int)(n0 n1:Int):Zaa:=[]
abbrev ZiP(xs:List Int)(n0 n1:Int):List AFrame×Zaa:=(Zid xs n0 n1,ZfI xs n0 n1)
def ZAw(A:Ar)(K:KT)(F:FT)(xs:List Int):Prop:=K (ZiP (xs) (A.int (A.len xs)) (0))
theorem ZFy{A:Ar}{K:KT}{F:FT}{M:MT}{xs:List Int} :Zao A tab N0 72 K F M (.run 14 (.hd)) (ZHm xs) []=ZAw A K F xs:=by kernel_rfl
def Zd4(A:Ar)(K:KT)(F:FT)(xs:List Int)(n0 n1:Int):Prop:=bB (A.lt n1 n0) (rB [Zae (Zae (A.le 0 n1) (Nat.blt (A.nat n1) (A.len xs))) true] (bB (A.not (A.eq (A.nth xs (A.nat n1)) 0)) (F (AV.int .i64 (A.nth xs (A.nat n1))) (none)) (rB [A.inR .i64 (A.add n1 1)] (K (ZiP (xs) (n0) (A.add n1 1)))))) (F (AV.int .i64 0) (none))
theorem Zjv{A:Ar}{K:KT}{F:FT}{M:MT}{xs:List Int}{n0 n1:Int} :Zao A tab N0 72 K F M (.run 6 (.tf (.run 14 (.tf (.run 6 (.fn)) (.run 8 (.hd)))) (.run 6 (.fn)))) (Zid xs n0 n1) (ZfI xs n0 n1)=Zd4 A K F xs n0 n1:=by kernel_rfl
def ZAI(xs:List Int):AFrame:={ fn:=14,N:=6,env:=[(0,AV.list (.ints .i64 xs))],todo:=[.code a14.code],defs:=[],rnd:=none,ret:=false,res:=[ARes.tmp 2] }
def ZHa(xs:List Int):List AFrame:=[(ZAI xs)]
theorem Zx8(xs:List Int):Zay tab 14 [AV.list (.ints .i64 xs)]=some (ZAI xs):=rfl
def ZA5(A:Ar)(K:KT)(F:FT)(xs:List Int):Prop:=rB [Nat.ble (0+A.len xs) 4294967296,List.all [] fun x=>AV.bx x&&Nat.beq (Zaf A x) 1] (F (AV.row 0 0) (some { e:=3,sz:=1,r:=.ints .i64 xs }))
theorem ZEO{A:Ar}{K:KT}{F:FT}{M:MT}{xs:List Int} :Zao A tab N0 14 K F M (.run 12 (.fn)) (ZHa xs) []=ZA5 A K F xs:=by kernel_rfl
def ZzN(xs ys:List Int):AFrame:={ fn:=17,N:=26,env:=[(0,AV.list (.ints .i64 xs)),(1,AV.list (.ints .i64 ys))],todo:=[.code a17.code],defs:=[],rnd:=none,ret:=false,res:=[ARes.tmp 4] }
def ZH6(xs ys:List Int):List AFrame:=[(ZzN xs ys)]
theorem Zxr(xs ys:List Int):Zay tab 17 [AV.list (.ints .i64 xs),AV.list (.ints .i64 ys)]=some (ZzN xs ys):=rfl
def Zip(xs ys:List Int)(n0:Int):List AFrame:=[{ fn:=17,N:=26,env:=[(0,AV.list (.ints .i64 xs)),(1,AV.list (.ints .i64 ys)),(5,AV.int .i64 n0)],todo:=.code (ACode.gh [] ZAc)::ZFr,defs:=[],rnd:=none,ret:=false,res:=[ARes.tmp 4] }]
def ZfP(xs ys:List Int)(n0:Int):Zaa:=[]
abbrev Zjc(xs ys:List Int)(n0:Int):List AFrame×Zaa:=(Zip xs ys n0,ZfP xs ys n0)
def Zxf(A:Ar)(K:KT)(F:FT)(xs ys:List Int):Prop:=bB (A.not (A.eq (A.int (A.len xs)) (A.int (A.len ys)))) (F (AV.bool false) (none)) (K (Zjc (xs) (ys) (0)))
theorem ZEe{A:Ar}{K:KT}{F:FT}{M:MT}{xs ys:List Int} :Zao A tab N0 17 K F M (.run 13 (.tf (.run 5 (.fn)) (.run 9 (.hd)))) (ZH6 xs ys) []=Zxf A K F xs ys:=by kernel_rfl
def Zd8(A:Ar)(K:KT)(F:FT)(xs ys:List Int)(n0:Int):Prop:=bB (A.lt n0 (A.int (A.len xs))) (rB [Zae (Zae (A.le 0 n0) (Nat.blt (A.nat n0) (A.len ys))) true,Zae (Zae (A.le 0 n0) (Nat.blt (A.nat n0) (A.len xs))) true] (bB (A.not (A.eq (A.nth xs (A.nat n0)) (A.nth ys (A.nat n0)))) (F (AV.bool false) (none)) (rB [A.inR .i64 (A.add n0 1)] (K (Zjc (xs) (ys) (A.add n0 1)))))) (F (AV.bool true) (none))
theorem Zje{A:Ar}{K:KT}{F:FT}{M:MT}{xs ys:List Int}{n0:Int} :Zao A tab N0 17 K F M (.run 9 (.tf (.run 6 (.tf (.run 5 (.fn)) (.run 9 (.hd)))) (.run 6 (.fn)))) (Zip xs ys n0) (ZfP xs ys n0)=Zd8 A K F xs ys n0:=by kernel_rfl
def ZCK(xs ys:List Int):AFrame:={ fn:=47,N:=25,env:=[(0,AV.list (.ints .i64 xs)),(1,AV.list (.ints .i64 ys))],todo:=[.code a47.code],defs:=[],rnd:=none,ret:=false,res:=[ARes.tmp 4] }
def ZG6(xs ys:List Int):List AFrame:=[(ZCK xs ys)]
theorem ZyJ(xs ys:List Int):Zay tab 47 [AV.list (.ints .i64 xs),AV.list (.ints .i64 ys)]=some (ZCK xs ys):=rfl
def Zhp(xs ys:List Int)(n0 n1:Int):List AFrame:=[{ fn:=47,N:=25,env:=[(0,AV.list (.ints .i64 xs)),(1,AV.list (.ints .i64 ys)),(5,AV.int .i64 n0),(6,AV.int .i64 n1)],todo:=.code (ACode.gh [] ZzL)::ZFh,defs:=[],rnd:=none,ret:=false,res:=[ARes.tmp 4] }]
def Zgi(xs ys:List Int)(n0 n1:Int):Zaa:=[]
abbrev ZfE(xs ys:List Int)(n0 n1:Int):List AFrame×Zaa:=(Zhp xs ys n0 n1,Zgi xs ys n0 n1)
def ZBa(A:Ar)(K:KT)(F:FT)(xs ys:List Int):Prop:=K (ZfE (xs) (ys) (0) (0))
theorem ZEA{A:Ar}{K:KT}{F:FT}{M:MT}{xs ys:List Int} :Zao A tab N0 47 K F M (.run 16 (.hd)) (ZG6 xs ys) []=ZBa A K F xs ys:=by kernel_rfl
def Zee(A:Ar)(K:KT)(F:FT)(xs ys:List Int)(n0 n1:Int):Prop:=bB (A.lt n1 (A.int (A.len xs))) (rB [Zae (Zae (A.le 0 n1) (Nat.blt (A.nat n1) (A.len ys))) true,Zae (Zae (A.le 0 n1) (Nat.blt (A.nat n1) (A.len xs))) true] (bB (A.not (A.eq (A.nth xs (A.nat n1)) (A.nth ys (A.nat n1)))) (rB [A.inR .i64 (A.add n1 1),A.inR .i64 (A.add n0 1)] (K (ZfE (xs) (ys) (A.add n0 1) (A.add n1 1)))) (rB [A.inR .i64 (A.add n1 1)] (K (ZfE (xs) (ys) (n0) (A.add n1 1)))))) (F (AV.int .i64 n0) (none))
theorem Zjb{A:Ar}{K:KT}{F:FT}{M:MT}{xs ys:List Int}{n0 n1:Int} :Zao A tab N0 47 K F M (.run 9 (.tf (.run 6 (.tf (.run 13 (.hd)) (.run 9 (.hd)))) (.run 7 (.fn)))) (Zhp xs ys n0 n1) (Zgi xs ys n0 n1)=Zee A K F xs ys n0 n1:=by kernel_rfl
def ZCj(a b:Int):AFrame:={ fn:=71,N:=23,env:=[(0,AV.int .i64 a),(1,AV.int .i64 b)],todo:=[.code a71.code],defs:=[],rnd:=none,ret:=false,res:=[ARes.tmp 4] }
def ZH2(a b:Int):List AFrame:=[(ZCj a b)]
theorem Zw3(a b:Int):Zay tab 71 [AV.int .i64 a,AV.int .i64 b]=some (ZCj a b):=rfl
def Zh9(n0 n1 n2:Int):List AFrame:=[{ fn:=71,N:=23,env:=[(0,AV.int .i64 n0),(1,AV.int .i64 n1),(5,AV.int .i64 n2)],todo:=.code (ACode.gh [] ZCg)::ZEY,defs:=[],rnd:=none,ret:=false,res:=[ARes.tmp 4] }]
def Zf1(n0 n1 n2:Int):Zaa:=[]
abbrev ZcN(n0 n1 n2:Int):List AFrame×Zaa:=(Zh9 n0 n1 n2,Zf1 n0 n1 n2)
def ZAq(A:Ar)(K:KT)(F:FT)(a b:Int):Prop:=K (ZcN (a) (b) (0))
theorem ZDx{A:Ar}{K:KT}{F:FT}{M:MT}{a b:Int} :Zao A tab N0 71 K F M (.run 12 (.hd)) (ZH2 a b) []=ZAq A K F a b:=by kernel_rfl
def Zd9(A:Ar)(K:KT)(F:FT)(n0 n1 n2:Int):Prop:=bB (A.lt 0 n1) (bB (A.eq (A.bits Go.BinOp.and .i64 n1 1) 1) (rB [Zae (Zae (A.le 0 1) (Nat.blt (A.nat 1) 64)) (A.inR .i64 (A.shl n0 1))] (bB (A.le 16 (A.shl n0 1)) (rB [Zae (A.le 0 1) (Nat.blt (A.nat 1) 64)] (K (ZcN (A.bits Go.BinOp.xor .i64 (A.shl n0 1) 19) (A.shr n1 1) (A.bits Go.BinOp.xor .i64 n2 n0)))) (rB [Zae (A.le 0 1) (Nat.blt (A.nat 1) 64)] (K (ZcN (A.shl n0 1) (A.shr n1 1) (A.bits Go.BinOp.xor .i64 n2 n0)))))) (rB [Zae (Zae (A.le 0 1) (Nat.blt (A.nat 1) 64)) (A.inR .i64 (A.shl n0 1))] (bB (A.le 16 (A.shl n0 1)) (rB [Zae (A.le 0 1) (Nat.blt (A.nat 1) 64)] (K (ZcN (A.bits Go.BinOp.xor .i64 (A.shl n0 1) 19) (A.shr n1 1) (n2)))) (rB [Zae (A.le 0 1) (Nat.blt (A.nat 1) 64)] (K (ZcN (A.shl n0 1) (A.shr n1 1) (n2))))))) (F (AV.int .i64 n2) (none))
theorem ZjO{A:Ar}{K:KT}{F:FT}{M:MT}{n0 n1 n2:Int} :Zao A tab N0 71 K F M (.run 7 (.tf (.run 10 (.tf (.run 17 (.tf (.run 13 (.hd)) (.run 9 (.hd)))) (.run 12 (.tf (.run 13 (.hd)) (.run 9 (.hd)))))) (.run 7 (.fn)))) (Zh9 n0 n1 n2) (Zf1 n0 n1 n2)=Zd9 A K F n0 n1 n2:=by kernel_rfl
end Go.Proofs.Ytklbmkllepkjcaa
/- Contracts as a list. No condition. -/
namespace Go.Proofs.Ytklbmkllepkjcaa
def Zaq(n a b:Int):Bool:=decide (a≤n∧n≤b)
def Zar:List Int→Int
 |[]=>0
 |x::xs=>if x=0 then Zar xs else x
def Zaj(b:Bool)(e:Int):Int:=if b=true then 0 else e
theorem Zh1{xs:List Int}{k:Nat}(h:k<xs.length):xs.drop k=xs.getD k 0::xs.drop (k+1):=by
 rw[List.drop_eq_getElem_cons h,List.getD_eq_getElem?_getD,List.getElem?_eq_getElem h];rfl
theorem ZqU{α:Type}{xs:List α}{k:Nat}{d:α}(h:k<xs.length):xs.take (k+1)=xs.take k++[xs.getD k d]:=by
 rw[List.take_add_one,List.getElem?_eq_getElem h,List.getD_eq_getElem?_getD,List.getElem?_eq_getElem h];rfl
theorem ZbA{α:Type}{xs:List α}{n:Nat}{d:α}(h:n<xs.length):xs.getD n d∈xs:=by
 rw[List.getD_eq_getElem?_getD,List.getElem?_eq_getElem h];exact List.getElem_mem h
def Zbe:List Int→List Int→Int
 |x::xs,y::ys=>(if x=y then 0 else 1)+Zbe xs ys
 |_,_=>0
section
variable {C:Ctx}(hC:C.P=Try.prog)
include hC
theorem Zl2(xs ys:List Int)(hl:xs.length≤1000000∧xs.length=ys.length):∀m k:Nat,k+m=xs.length→Ev C (Zip xs ys k) (ZfP xs ys k) (ZaZ 17 (.bool (decide (xs.drop k=ys.drop k))) none)
 |0,k,hk=>tgo hC ZdQ Zje (by
  rw[List.drop_of_length_le (by omega),List.drop_of_length_le (by omega)]
  simp[Zd8,show ¬(k:Int)<xs.length by omega])
 |m+1,k,hk=>by
  have ih:=Zl2 xs ys hl m (k+1) (by omega)
  rw[Zh1 (show k<xs.length by omega),Zh1 (show k<ys.length by omega)]
  refine tgo hC ZdQ Zje ?_
  by_cases h:xs.getD k 0=ys.getD k 0
  ·simp[-List.getD_eq_getElem?_getD,Zd8,show(k:Int)<xs.length by omega,show k<xs.length by omega,show k<ys.length by omega,h]
   exact⟨by omega,by simpa using ih⟩
  ·simp[-List.getD_eq_getElem?_getD,Zd8,show(k:Int)<xs.length by omega,show k<xs.length by omega,show k<ys.length by omega,h]
theorem ZgU(xs:List Int)(hl:xs.length≤1000000):∀m k:Nat,k+m=xs.length→Ev C (Zid xs xs.length k) (ZfI xs xs.length k) (ZaZ 72 (.int .i64 (Zar (xs.drop k))) none)
 |0,k,hk=>tgo hC ZdQ Zjv (by
  rw[List.drop_of_length_le (by omega)]
  simp[Zd4,show ¬(k:Int)<xs.length by omega,Zar])
 |m+1,k,hk=>by
  have ih:=ZgU xs hl m (k+1) (by omega)
  have hlt:(k:Int)<xs.length:=by omega
  have hlt2:k<xs.length:=by omega
  rw[Zh1 hlt2,Zar]
  refine tgo hC ZdQ Zjv ?_
  by_cases h:xs.getD k 0=0
  ·simp[-List.getD_eq_getElem?_getD,Zd4,hlt,hlt2,h]
   exact⟨by omega,by simpa using ih⟩
  ·simp[-List.getD_eq_getElem?_getD,Zd4,hlt,hlt2,h]
theorem ZkR(xs ys:List Int)(hl:xs.length≤1000000∧xs.length≤ys.length):∀(m k:Nat) (n:Int),k+m=xs.length→0≤n→n≤k→Ev C (Zhp xs ys n k) (Zgi xs ys n k) (ZaZ 47 (.int .i64 (n+Zbe (xs.drop k) (ys.drop k))) none)
 |0,k,n,hk,h0,h1=>tgo hC ZdQ Zjb (by
  rw[List.drop_of_length_le (by omega)]
  simp[Zee,show ¬(k:Int)<xs.length by omega,Zbe])
 |m+1,k,n,hk,h0,h1=>by
  have ih:=fun n=>ZkR xs ys hl m (k+1) n (by omega)
  have hlt:(k:Int)<xs.length:=by omega
  have hlt2:k<xs.length:=by omega
  have hlt3:k<ys.length:=by omega
  rw[Zh1 hlt2,Zh1 hlt3,Zbe]
  refine tgo hC ZdQ Zjb ?_
  by_cases h:xs.getD k 0=ys.getD k 0
  ·have:=ih n h0 (by omega)
   simp[-List.getD_eq_getElem?_getD,Zee,hlt,hlt2,hlt3,h]
   exact⟨by omega,by simpa using this⟩
  ·have:=ih (n+1) (by omega) (by omega)
   simp[-List.getD_eq_getElem?_getD,Zee,hlt,hlt2,hlt3,h]
   exact⟨by omega,by simpa[Int.add_assoc]using this⟩
end
theorem Zmd(a b c:Int):Zah Try.prog 91 [.int .i64 a, .int .i64 b, .int .i64 c] (.bool (Zaq a b c)) none:=
 start (ZwE a b c) fun C hC=>tgo hC ZdQ ZFx (by by_cases h:b≤a<;>simp[ZAH,h,Zaq])
theorem Zng(a b c:Int):Zah Try.prog 30 [.int .i64 a, .int .i64 b, .int .i64 c] (.bool (Zaq a b c)) none:=
 start (Zyq a b c) fun C hC=>tgo hC ZdQ ZDK (by by_cases h:b≤a<;>simp[Zzh,h,Zaq])
theorem ZmR(b:Bool)(e:Int):Zah Try.prog 85 [.bool b, .int .i64 e] (.int .i64 (Zaj b e)) none:=
 start (Zy5 b e) fun C hC=>tgo hC ZdQ ZD4 (by cases b<;>simp[ZBB,Zaj])
theorem ZoT(xs:List Int)(hl:xs.length≤1000000):Zah Try.prog 72 [.list (.ints .i64 xs)] (.int .i64 (Zar xs)) none:=
 start (ZwC xs) fun C hC=>tgo hC ZdQ ZFy (by
  have:=ZgU hC xs hl xs.length 0 (by omega)
  simp[ZAw]
  simpa using this)
theorem ZlL(xs:List Int)(hl:xs.length≤1000000):Zah Try.prog 14 [.list (.ints .i64 xs)] (.row 0 0) (some ⟨3,1, .ints .i64 xs⟩):=
 start (Zx8 xs) fun C hC=>tgo hC ZdQ ZEO (by simp[ZA5];omega)
theorem Zrg(xs ys:List Int)(hl:xs.length≤1000000):Zah Try.prog 17 [.list (.ints .i64 xs), .list (.ints .i64 ys)] (.bool (decide (xs=ys))) none:=
 start (Zxr xs ys) fun C hC=>tgo hC ZdQ ZEe (by
  by_cases h:xs.length=ys.length
  ·simp[Zxf,h]
   have:=Zl2 hC xs ys ⟨hl,h⟩ xs.length 0 (by omega)
   simpa using this
  ·have:xs≠ys:=fun e=>h (by rw[e])
   simp[Zxf,this,show ¬((xs.length:Int)=ys.length) by omega])
theorem ZrW(xs ys:List Int)(hl:xs.length≤1000000∧xs.length≤ys.length):Zah Try.prog 47 [.list (.ints .i64 xs), .list (.ints .i64 ys)] (.int .i64 (Zbe xs ys)) none:=
 start (ZyJ xs ys) fun C hC=>tgo hC ZdQ ZEA (by
  have:=ZkR hC xs ys hl xs.length 0 0 (by omega) (by omega) (by omega)
  simp[ZBa]
  simpa using this)
def k91:Ctr:=⟨91,0,fun _ a=>match a with |[.int .i64 a, .int .i64 b, .int .i64 c]=>some (true, .bool (Zaq a b c),none) |_=>none⟩
theorem ZBd:k91.OK Try.prog:=fun pa args r fr h=>by
 simp only[k91]at h
 split at h
 ·cases h
  exact Zmd _ _ _
 ·cases h
def k30:Ctr:=⟨30,0,fun _ a=>match a with |[.int .i64 a, .int .i64 b, .int .i64 c]=>some (true, .bool (Zaq a b c),none) |_=>none⟩
theorem ZBb:k30.OK Try.prog:=fun pa args r fr h=>by
 simp only[k30]at h
 split at h
 ·cases h
  exact Zng _ _ _
 ·cases h
def k85:Ctr:=⟨85,0,fun _ a=>match a with |[.bool b, .int .i64 e]=>some (true, .int .i64 (Zaj b e),none) |_=>none⟩
theorem ZCR:k85.OK Try.prog:=fun pa args r fr h=>by
 simp only[k85]at h
 split at h
 ·cases h
  exact ZmR _ _
 ·cases h
def k72:Ctr:=⟨72,0,fun _ a=>match a with |[.list (.ints .i64 xs)]=>some (decide (xs.length≤1000000), .int .i64 (Zar xs),none) |_=>none⟩
theorem ZCp:k72.OK Try.prog:=fun pa args r fr h=>by
 simp only[k72]at h
 split at h
 ·simp only[Option.some.injEq,Prod.mk.injEq,decide_eq_true_eq]at h
  obtain⟨h0,rfl,rfl⟩:=h
  exact ZoT _ h0
 ·cases h
def k14:Ctr:=⟨14,0,fun _ a=>match a with |[.list (.ints .i64 xs)]=>some (decide (xs.length≤1000000), .row 0 0,some ⟨3,1, .ints .i64 xs⟩) |_=>none⟩
theorem Zv1:k14.OK Try.prog:=fun pa args r fr h=>by
 simp only[k14]at h
 split at h
 ·simp only[Option.some.injEq,Prod.mk.injEq,decide_eq_true_eq]at h
  obtain⟨h0,rfl,rfl⟩:=h
  exact ZlL _ h0
 ·cases h
def k17:Ctr:=⟨17,0,fun _ a=>match a with |[.list (.ints .i64 xs), .list (.ints .i64 ys)]=>some (decide (xs.length≤1000000), .bool (decide (xs=ys)),none) |_=>none⟩
theorem ZCv:k17.OK Try.prog:=fun pa args r fr h=>by
 simp only[k17]at h
 split at h
 ·simp only[Option.some.injEq,Prod.mk.injEq,decide_eq_true_eq]at h
  obtain⟨h0,rfl,rfl⟩:=h
  exact Zrg _ _ h0
 ·cases h
def k47:Ctr:=⟨47,0,fun _ a=>match a with |[.list (.ints .i64 xs), .list (.ints .i64 ys)]=>some (decide (xs.length≤1000000∧xs.length≤ys.length), .int .i64 (Zbe xs ys),none) |_=>none⟩
theorem ZBG:k47.OK Try.prog:=fun pa args r fr h=>by
 simp only[k47]at h
 split at h
 ·simp only[Option.some.injEq,Prod.mk.injEq,decide_eq_true_eq]at h
  obtain⟨h0,rfl,rfl⟩:=h
  exact ZrW _ _ h0
 ·cases h
def N1:List Ctr:=[k91,k30,k85,k72,k14,k17,k47]++N0
theorem ZmS:Zax Try.prog N1:=⟨ZBd,⟨ZBb,⟨ZCR,⟨ZCp,⟨Zv1,⟨ZCv,⟨ZBG,ZdQ⟩⟩⟩⟩⟩⟩⟩
end Go.Proofs.Ytklbmkllepkjcaa
/- Paths of functions, printed by the explorer (Gx). No condition. -/
namespace Go.Proofs.Ytklbmkllepkjcaa
set_option maxRecDepth 100000
set_option linter.unusedVariables false
def Zzp(xs:List Int)(lo hi:Int):AFrame:={ fn:=70,N:=14,env:=[(0,AV.list (.ints .i64 xs)),(1,AV.int .i64 lo),(2,AV.int .i64 hi)],todo:=[.code a70.code],defs:=[],rnd:=none,ret:=false,res:=[ARes.tmp 6] }
def ZIm(xs:List Int)(lo hi:Int):List AFrame:=[(Zzp xs lo hi)]
theorem ZwH(xs:List Int)(lo hi:Int):Zay tab 70 [AV.list (.ints .i64 xs),AV.int .i64 lo,AV.int .i64 hi]=some (Zzp xs lo hi):=rfl
def ZfZ(xs:List Int)(lo hi n0 n1:Int):List AFrame:=[{ fn:=123,N:=19,env:=[(0,AV.list (.ints .i64 xs)),(1,AV.fn 111 [AV.ptr 70005 0 0 0,AV.ptr 70006 0 0 0]),(7,AV.int .i64 n0),(8,AV.int .i64 n1)],todo:=.code (ACode.gh [] Zvw)::ZAm,defs:=[],rnd:=none,ret:=false,res:=[ARes.tmp 4] },{ fn:=110,N:=9,env:=[(0,AV.list (.ints .i64 xs)),(1,AV.fn 111 [AV.ptr 70005 0 0 0,AV.ptr 70006 0 0 0]),(4,AV.bool false),(5,AV.list (.ints .i64 xs)),(6,AV.fn 111 [AV.ptr 70005 0 0 0,AV.ptr 70006 0 0 0])],todo:=[AItem.inReg [oN 7 (OpK.ncall true 0 123 [Opd.t 5,Opd.t 6]),oN 8 (OpK.bin Go.BinOp.geq (Opd.t 7) (cI 0)),mV 4 8], .code ACode.ret],defs:=[],rnd:=none,ret:=false,res:=[ARes.tmp 4] },{ fn:=70,N:=14,env:=[(0,AV.list (.ints .i64 xs)),(1,AV.int .i64 lo),(2,AV.int .i64 hi),(4,AV.ptr 70005 0 0 0),(5,AV.ptr 70006 0 0 0),(6,AV.int .i64 0),(8,AV.list (.ints .i64 xs)),(9,AV.fn 111 [AV.ptr 70005 0 0 0,AV.ptr 70006 0 0 0])],todo:=[AItem.inReg [oN 10 (OpK.ncall true 0 110 [Opd.t 8,Opd.t 9]),mV 7 10], .code (ACode.seq (ACode.reg none [mV 11 7,oN 12 (OpK.not (Opd.t 11)),oN 13 (OpK.ncall true 0 85 [Opd.t 12,cI 2]),mV 6 13]) ACode.ret)],defs:=[],rnd:=none,ret:=false,res:=[ARes.tmp 6] }]
def ZeM(xs:List Int)(lo hi n0 n1:Int):Zaa:=[(70005,{ base:=0,blks:=[Blk.row 3 1 (Row.gen [.int .i64 lo])] }),(70006,{ base:=0,blks:=[Blk.row 3 1 (Row.gen [.int .i64 hi])] })]
abbrev Zis(xs:List Int)(lo hi n0 n1:Int):List AFrame×Zaa:=(ZfZ xs lo hi n0 n1,ZeM xs lo hi n0 n1)
def ZAK(A:Ar)(K:KT)(F:FT)(xs:List Int)(lo hi:Int):Prop:=K (Zis (xs) (lo) (hi) (A.int (A.len xs)) (0))
theorem ZFc{A:Ar}{K:KT}{F:FT}{M:MT}{xs:List Int}{lo hi:Int} :Zao A tab N1 70 K F M (.run 34 (.hd)) (ZIm xs lo hi) []=ZAK A K F xs lo hi:=by kernel_rfl
def Zdg(A:Ar)(K:KT)(F:FT)(xs:List Int)(lo hi n0 n1:Int):Prop:=bB (A.lt n1 n0) (rB [Zae (Zae (A.le 0 n1) (Nat.blt (A.nat n1) (A.len xs))) true] (bB (A.not (Zaq (A.nth xs (A.nat n1)) lo hi)) (F (AV.int .i64 (Zaj (A.not (A.le 0 n1)) 2)) (none)) (rB [A.inR .i64 (A.add n1 1)] (K (Zis (xs) (lo) (hi) (n0) (A.add n1 1)))))) (F (AV.int .i64 (Zaj (A.not (A.le 0 (-1))) 2)) (none))
theorem Ziq{A:Ar}{K:KT}{F:FT}{M:MT}{xs:List Int}{lo hi n0 n1:Int} :Zao A tab N1 70 K F M (.run 6 (.tf (.run 32 (.tf (.run 22 (.fn)) (.run 8 (.hd)))) (.run 22 (.fn)))) (ZfZ xs lo hi n0 n1) (ZeM xs lo hi n0 n1)=Zdg A K F xs lo hi n0 n1:=by kernel_rfl
def ZBn(xs:List Int):AFrame:={ fn:=26,N:=16,env:=[(0,AV.list (.ints .i64 xs))],todo:=[.code a26.code],defs:=[],rnd:=none,ret:=false,res:=[ARes.tmp 2] }
def ZHv(xs:List Int):List AFrame:=[(ZBn xs)]
theorem Zyu(xs:List Int):Zay tab 26 [AV.list (.ints .i64 xs)]=some (ZBn xs):=rfl
def ZhZ(xs:List Int)(n0:Int):List AFrame:=[{ fn:=26,N:=16,env:=[(0,AV.list (.ints .i64 xs)),(3,AV.int .i64 n0)],todo:=.code (ACode.gh [] Zzi)::ZFl,defs:=[],rnd:=none,ret:=false,res:=[ARes.tmp 2] }]
def ZfW(xs:List Int)(n0:Int):Zaa:=[]
abbrev ZiW(xs:List Int)(n0:Int):List AFrame×Zaa:=(ZhZ xs n0,ZfW xs n0)
def ZCL(A:Ar)(K:KT)(F:FT)(xs:List Int):Prop:=K (ZiW (xs) (0))
theorem ZEv{A:Ar}{K:KT}{F:FT}{M:MT}{xs:List Int} :Zao A tab N1 26 K F M (.run 12 (.hd)) (ZHv xs) []=ZCL A K F xs:=by kernel_rfl
def Zeb(A:Ar)(K:KT)(F:FT)(xs:List Int)(n0:Int):Prop:=bB (A.lt n0 (A.int (A.len xs))) (rB [Zae (Zae (A.le 0 n0) (Nat.blt (A.nat n0) (A.len xs))) true] (bB (A.not (Zaq (A.nth xs (A.nat n0)) 0 15)) (F (AV.int .i64 2) (none)) (rB [A.inR .i64 (A.add n0 1)] (K (ZiW (xs) (A.add n0 1)))))) (F (AV.int .i64 0) (none))
theorem ZjY{A:Ar}{K:KT}{F:FT}{M:MT}{xs:List Int}{n0:Int} :Zao A tab N1 26 K F M (.run 9 (.tf (.run 24 (.tf (.run 5 (.fn)) (.run 9 (.hd)))) (.run 6 (.fn)))) (ZhZ xs n0) (ZfW xs n0)=Zeb A K F xs n0:=by kernel_rfl
end Go.Proofs.Ytklbmkllepkjcaa
/- Contracts as a list. No condition. -/
namespace Go.Proofs.Ytklbmkllepkjcaa
def ZGG(x:Nat):Nat:=x%2+x/2%2+x/4%2+x/8%2
def ZIb(r k:Int):Int:=((ZGG (r.toNat &&& k.toNat)%2:Nat):Int)
def Zbu(xs:List Int)(lo hi:Int):Int:=if xs.all (fun x=>Zaq x lo hi)=true then 0 else 2
theorem Zk6{xs:List Int}{k:Nat}(lo hi:Int)(h:k<xs.length):Zbu (xs.drop k) lo hi=if Zaq (xs.getD k 0) lo hi=true then Zbu (xs.drop (k+1)) lo hi else 2:=by
 rw[Zh1 h]
 unfold Zbu
 cases hw:Zaq (xs.getD k 0) lo hi<;>simp[-List.getD_eq_getElem?_getD,List.all_cons,hw]
section
variable {C:Ctx}(hC:C.P=Try.prog)
include hC
theorem ZoM(xs:List Int)(lo hi:Int)(hl:xs.length≤1000000):∀m k:Nat,k+m=xs.length→Ev C (ZfZ xs lo hi xs.length k) (ZeM xs lo hi xs.length k) (ZaZ 70 (.int .i64 (Zbu (xs.drop k) lo hi)) none)
 |0,k,hk=>tgo hC ZmS Ziq (by
  rw[List.drop_of_length_le (by omega)]
  simp[Zdg,show ¬(k:Int)<xs.length by omega,Zbu,Zaj])
 |m+1,k,hk=>by
  have ih:=ZoM xs lo hi hl m (k+1) (by omega)
  have hlt:(k:Int)<xs.length:=by omega
  have hlt2:k<xs.length:=by omega
  rw[Zk6 lo hi hlt2]
  refine tgo hC ZmS Ziq ?_
  cases hw:Zaq (xs.getD k 0) lo hi with
  |true=>
   simp[-List.getD_eq_getElem?_getD,Zdg,hlt,hlt2,hw]
   exact⟨by omega,by simpa using ih⟩
  |false=>simp[-List.getD_eq_getElem?_getD,Zdg,hlt,hlt2,hw,Zaj]
theorem ZlP(xs:List Int)(hl:xs.length≤1000000):∀m k:Nat,k+m=xs.length→Ev C (ZhZ xs k) (ZfW xs k) (ZaZ 26 (.int .i64 (Zbu (xs.drop k) 0 15)) none)
 |0,k,hk=>tgo hC ZmS ZjY (by
  rw[List.drop_of_length_le (by omega)]
  simp[Zeb,show ¬(k:Int)<xs.length by omega,Zbu])
 |m+1,k,hk=>by
  have ih:=ZlP xs hl m (k+1) (by omega)
  have hlt:(k:Int)<xs.length:=by omega
  have hlt2:k<xs.length:=by omega
  rw[Zk6 _ _ hlt2]
  refine tgo hC ZmS ZjY ?_
  cases hw:Zaq (xs.getD k 0) 0 15 with
  |true=>
   simp[-List.getD_eq_getElem?_getD,Zeb,hlt,hlt2,hw]
   exact⟨by omega,by simpa using ih⟩
  |false=>simp[-List.getD_eq_getElem?_getD,Zeb,hlt,hlt2,hw]
end
theorem ZtN(xs:List Int)(lo hi:Int)(hl:xs.length≤1000000):Zah Try.prog 70 [.list (.ints .i64 xs), .int .i64 lo, .int .i64 hi] (.int .i64 (Zbu xs lo hi)) none:=
 start (ZwH xs lo hi) fun C hC=>tgo hC ZmS ZFc (by
  have:=ZoM hC xs lo hi hl xs.length 0 (by omega)
  simp[ZAK]
  simpa using this)
theorem Zqf(xs:List Int)(hl:xs.length≤1000000):Zah Try.prog 26 [.list (.ints .i64 xs)] (.int .i64 (Zbu xs 0 15)) none:=
 start (Zyu xs) fun C hC=>tgo hC ZmS ZEv (by
  have:=ZlP hC xs hl xs.length 0 (by omega)
  simp[ZCL]
  simpa using this)
def stN(m:Int):Int:=2^m.toNat
theorem ZAb{m:Int}(h:1≤m∧m≤3):stN m=2∨stN m=4∨stN m=8:=by
 have:m=1∨m=2∨m=3:=by omega
 rcases this with rfl |rfl |rfl<;>simp[stN]
def k70:Ctr:=⟨70,0,fun _ a=>match a with |[.list (.ints .i64 xs), .int .i64 lo, .int .i64 hi]=>some (decide (xs.length≤1000000), .int .i64 (Zbu xs lo hi),none) |_=>none⟩
theorem ZAX:k70.OK Try.prog:=fun pa args r fr h=>by
 simp only[k70]at h
 split at h
 ·simp only[Option.some.injEq,Prod.mk.injEq,decide_eq_true_eq]at h
  obtain⟨h0,rfl,rfl⟩:=h
  exact ZtN _ _ _ h0
 ·cases h
def k26:Ctr:=⟨26,0,fun _ a=>match a with |[.list (.ints .i64 xs)]=>some (decide (xs.length≤1000000), .int .i64 (Zbu xs 0 15),none) |_=>none⟩
theorem Zzy:k26.OK Try.prog:=fun pa args r fr h=>by
 simp only[k26]at h
 split at h
 ·simp only[Option.some.injEq,Prod.mk.injEq,decide_eq_true_eq]at h
  obtain⟨h0,rfl,rfl⟩:=h
  exact Zqf _ h0
 ·cases h
def N2:List Ctr:=[k70,k26]++N1
theorem ZEI:Zax Try.prog N2:=⟨ZAX,⟨Zzy,ZmS⟩⟩
end Go.Proofs.Ytklbmkllepkjcaa
/- Contracts as a list. No condition. -/
namespace Go.Proofs.Ytklbmkllepkjcaa
def Ztw(m p q:Int):Int:=if ¬(1≤m∧m≤3)then 2 else if(1≤p∧p≤2*stN m-1)∧(1≤q∧q≤2*stN m-1)then 0 else 2
theorem ZyR{m p q:Int}(h:Ztw m p q=0):(m=1∨m=2∨m=3)∧1≤p∧p≤2*stN m-1∧1≤q∧q≤2*stN m-1∧p≤15∧q≤15:=by
 unfold Ztw at h
 split at h
 ·cases h
 ·rename_i h1
  split at h
  ·rename_i h2
   have h3:=ZAb (show 1≤m∧m≤3 by omega)
   exact⟨by omega,by omega,by omega,by omega,by omega,by omega,by omega⟩
  ·cases h
def ZGa(m s b:Int):Int:=b*stN m+s
def nxS(m s b:Int):Int:=ZGa m s b/2
def oS(m g s b:Int):Int:=ZIb (ZGa m s b) g
def sfE(m:Int)(so:List Int):Int:=if so.length%2≠0∨(so.length:Int)<2*m then 10 else if 2*(300+m)<(so.length:Int)then 8 else Zbu so (-7) 7
def N3:List Ctr:=N2
theorem ZFu:Zax Try.prog N3:=ZEI
end Go.Proofs.Ytklbmkllepkjcaa
/- Contracts as a list. No condition. -/
namespace Go.Proofs.Ytklbmkllepkjcaa
def N4:List Ctr:=N3
theorem ZEp:Zax Try.prog N4:=ZFu
end Go.Proofs.Ytklbmkllepkjcaa
/- Contracts as a list. No condition. -/
namespace Go.Proofs.Ytklbmkllepkjcaa
section
variable (m p q:Int)(so:List Int)
def stS:Nat:=(stN m).toNat
def ZqN:Nat:=so.length/2
end
structure OkC (m p q:Int) (so:List Int):Prop where
 cv:Ztw m p q=0
 sf:sfE m so=0
theorem OkC.soft{m p q:Int}{so:List Int}(h:OkC m p q so):Zbu so (-7) 7=0∧so.length%2=0∧2*m≤so.length∧so.length≤606:=by
 have hm:=(ZyR h.cv).1
 have:=h.sf
 unfold sfE at this
 split at this
 ·cases this
 ·rename_i h1
  split at this
  ·cases this
  ·rename_i h2
   exact⟨this,by omega,by omega,by omega⟩
section
variable (m p q:Int)(so:List Int)
end
@[simp] theorem Za4 (l:List Nat):std.lenF l=l.length:=rfl
@[simp] theorem Zbn (l:List Nat) (j:Nat):std.nthF l j=l.getD j 0:=rfl
@[simp] theorem ZvX (l:List Nat) (j x:Nat):std.setF l j x=l.set j x:=rfl
@[simp] theorem ZGu (n x:Nat):std.repF n x=List.replicate n x:=rfl
@[simp] theorem ZF6 (a b:List Nat):std.appF a b=a++b:=rfl
section
variable {C:Ctx}(hC:C.P=Try.prog)(m p q:Int)(so:List Int)(h:OkC m p q so)
include hC h
def v0(s:Nat):Int:=if s=0 then 0 else -2000000
end
def N5:List Ctr:=N4
theorem ZEJ:Zax Try.prog N5:=ZEp
end Go.Proofs.Ytklbmkllepkjcaa
/- Contracts as a list. No condition. -/
namespace Go.Proofs.Ytklbmkllepkjcaa
section
variable (m p q:Int)(so:List Int)
end
section
variable {m p q:Int}{so:List Int}
end
section
variable {C:Ctx}(hC:C.P=Try.prog)(m p q:Int)(so:List Int)(h:OkC m p q so)
include hC h
end
section
variable {C:Ctx}(hC:C.P=Try.prog)(m p q:Int)(so:List Int)(h:OkC m p q so)
include hC h
end
def N6:List Ctr:=N5
theorem ZD6:Zax Try.prog N6:=ZEJ
end Go.Proofs.Ytklbmkllepkjcaa
/- Contracts as a list. No condition. -/
namespace Go.Proofs.Ytklbmkllepkjcaa
section
variable {C:Ctx}(hC:C.P=Try.prog)(m p q:Int)(so:List Int)(h:OkC m p q so)
include hC h
end
section
variable {C:Ctx}(hC:C.P=Try.prog)(m p q:Int)(so:List Int)(h:OkC m p q so)
include hC h
end
def J7:List Ctr:=N6
theorem ZD3:Zax Try.prog J7:=ZD6
end Go.Proofs.Ytklbmkllepkjcaa
