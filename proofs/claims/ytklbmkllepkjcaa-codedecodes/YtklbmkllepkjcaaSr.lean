/- Arguments' readings, of whatever type of plain cells and slices. No condition. -/
import Derived.Test.YtklbmkllepkjcaaW1
import Derived.Deep.Slices
import Derived.KernelRfl
namespace Go.Proofs.Ytklbmkllepkjcaa
open Go.ChangeShapes Go.WideShapes Go.ChangeAt Go.RowKit Go.Deep
def Zr4(P:Program)(f:TypeId→Option (List Sh)):Nat→List Field→Option (List Sh)
 |_,[]=>some []
 |off,fd::fds=>match fd.offset==off,f fd.type with
  |true,some l=>(match P.cellsOf fd.type==l.length,Zr4 P f (off+l.length) fds with
   |true,some r=>some (l++r)
   |_,_=>none)
  |_,_=>none
def Zz4(ag:Bool)(l:List Sh):Option Sh:=match ag,l with
 |_,[]=>none
 |true,s::ss=>some (.agg (s::ss))
 |false,[s]=>some s
 |false,_=>none
def ZB0:Sh→Sh
 | .int k=>.ints k
 |s=>.big s
def ZIB(P:Program)(f:TypeId→Option (List Sh)):TypeDesc→Option (List Sh)
 | .int k=>some [.int k]
 | .bool=>some [.bool]
 | .string=>some [.str]
 | .struct fs=>Zr4 P f 0 fs.toList
 | .array n e=>match f e with
   |some l=>(match P.cellsOf e==l.length with |true=>some (List.replicate n l).flatten |false=>none)
   |none=>none
 | .slice e=>match f e,P.underlying e with
   |some l,some de=>(match P.cellsOf e==l.length,Zz4 (ZaP de) l with |true,some s=>some [ZB0 s] |_,_=>none)
   |_,_=>none
 |_=>none
def Zxg(P:Program):Nat→TypeId→Option (List Sh)
 |0,_=>none
 |d+1,t=>match P.underlying t with
  |some td=>(match ZIB P (Zxg P d) td with
   |some l=>(match P.cellsOf t==l.length with |true=>some l |false=>none)
   |none=>none)
  |none=>none
def wfE(ss:List Sh)(x:AV):Prop:=∀(j:Nat) (k:IntKind),ss[j]? =some (.int k)→(Lit.int k (x.cellAt j).toI).wf=true
def wfV:AV→Prop
 | .int k n=>(Lit.int k n).wf=true
 | .list (.ints k l)=>∀x∈l,(Lit.int k x).wf=true
 | .list (.big (.agg ss) l)=>∀x∈l,wfE ss x
 |_=>True
def Sh.leaf:Sh→Bool
 | .agg _=>false
 |_=>true
def Cf(s:Sh)(u:AV):Prop:=(∃a,u=s.view1 a)∧wfV u∧s.leaf=true
def Cfs(ss:List Sh)(us:List AV):Prop:=us.length=ss.length∧∀(j:Nat) (s:Sh) (u:AV),ss[j]? =some s→us[j]? =some u→Cf s u
def Rd(W:World)(L:Lay)(ss:List Sh)(cs:List Value):Prop:=∃us:List AV,RelL W (Zmy W) [] L us cs∧(∀c∈cs,c.oneCell'=true)∧Cfs ss us
section
variable {H:Type}{enc:TypeId×Value→H}{P:Program}{W:World}{L:Lay}
theorem Cfs.app{s1 s2:List Sh}{u1 u2:List AV}(h1:Cfs s1 u1)(h2:Cfs s2 u2):Cfs (s1++s2) (u1++u2):=by
 refine⟨by simp[h1.1,h2.1],fun j s u hs hu=>?_⟩
 by_cases hj:j<s1.length
 ·rw[List.getElem?_append_left hj]at hs
  rw[List.getElem?_append_left (by rw[h1.1];exact hj)]at hu
  exact h1.2 j s u hs hu
 ·rw[List.getElem?_append_right (by omega)]at hs
  rw[List.getElem?_append_right (by rw[h1.1];omega),h1.1]at hu
  exact h2.2 _ s u hs hu
theorem Rd.app{s1 s2:List Sh}{c1 c2:List Value}(h1:Rd W L s1 c1)(h2:Rd W L s2 c2):Rd W L (s1++s2) (c1++c2):=by
 obtain⟨u1,r1,o1,f1⟩:=h1
 obtain⟨u2,r2,o2,f2⟩:=h2
 exact⟨u1++u2,r1.append r2,fun c hc=>(List.mem_append.1 hc).elim (o1 c) (o2 c),f1.app f2⟩
theorem Rd.nil:Rd W L [] []:=⟨[],RelL.nil,by simp,rfl,fun j s u hs=>by simp at hs⟩
theorem Rd.len{ss:List Sh}{cs:List Value}(h:Rd W L ss cs):cs.length=ss.length:=by
 obtain⟨us,r,_,f⟩:=h
 rw[←r.1,f.1]
theorem Rd.one{s:Sh}{v:Value}{u:AV}(hr:Rel W (Zmy W) [] L u v)(h1:v.oneCell'=true)(hc:Cf s u):Rd W L [s] [v]:=
 ⟨[u],RelL.cons hr RelL.nil,by simpa using h1,rfl,fun j s' u' hs hu=>by
   cases j with
   |zero=>simp at hs hu;subst hs;subst hu;exact hc
   |succ j=>simp at hs⟩
theorem ZE6{f:TypeId→Option (List Sh)}{n:Nat}(IH:∀t ss,f t=some ss→∀fuel cs x,DataW.trod enc P W 0 (fun _=>true) true fuel t cs=some x→Rd W L ss cs){cs:List Value} :
 ∀(fs:List Field) (off:Nat) (ss:List Sh),Zr4 P f off fs=some ss→(∀(i:Nat) (fd:Field),fs[i]? =some fd→∃x,DataW.trod enc P W 0 (fun _=>true) true n fd.type ((cs.drop fd.offset).take (P.cellsOf fd.type))=some x)→
 (cs.drop off).length=ss.length→Rd W L ss (cs.drop off)
 |[],off,ss,h,_,hl=>by
  simp only[Zr4,Option.some.injEq]at h
  subst h
  rw[List.eq_nil_of_length_eq_zero hl]
  exact Rd.nil
 |fd::fds,off,ss,h,hx,hl=>by
  simp only[Zr4]at h
  split at h
  ·rename_i l ho hfl
   split at h
   ·rename_i r hcl hr
    simp only[Option.some.injEq]at h
    subst h
    have ho:fd.offset=off:=by simpa using ho
    have hcl:P.cellsOf fd.type=l.length:=by simpa using hcl
    obtain⟨x,hxx⟩:=hx 0 fd rfl
    rw[ho,hcl]at hxx
    have h1:=IH _ _ hfl _ _ _ hxx
    have h2:=ZE6 IH fds (off+l.length) r hr (fun i fd' h'=>hx (i+1) fd' (by simpa using h')) (by simp at hl ⊢;omega)
    have:=h1.app h2
    rw[show cs.drop (off+l.length)=(cs.drop off).drop l.length by rw[List.drop_drop],List.take_append_drop]at this
    exact this
   ·cases h
  ·cases h
theorem Zxv{l:List Sh}{n c:Nat}{e:TypeId}{cs:List Value}(hc:c=l.length)(IH:∀i,i<n→Rd W L l ((cs.drop (i*c)).take c)):
 ∀(k s:Nat),s+k=n→cs.length=n*c→Rd W L (List.replicate k l).flatten (cs.drop (s*c))
 |0,s,hs,hl=>by
  rw[List.drop_of_length_le (by rw[hl,←hs];simp)]
  exact Rd.nil
 |k+1,s,hs,hl=>by
  have h1:=IH s (by omega)
  have h2:=Zxv (e:=e) hc IH k (s+1) (by omega) hl
  have:=h1.app h2
  rw[Nat.add_mul,Nat.one_mul,show cs.drop (s*c+c)=(cs.drop (s*c)).drop c by rw[List.drop_drop],List.take_append_drop]at this
  rw[List.replicate_succ,List.flatten_cons]
  exact this
theorem Zhg:∀ {l:List AV},(∀u∈l,u.pure=true)→AV.pureL l=true
 |[],_=>rfl
 |u::l,h=>by simp only[AV.pureL,Bool.and_eq_true];exact⟨h u (by simp),Zhg fun v hv=>h v (by simp[hv])⟩
theorem ZlW{α:Type}{sz:Nat}(g:Nat→List α):∀(n:Nat),(∀i,i<n→(g i).length=sz)→∀j,((List.range n).flatMap g)[j]? =if j<n*sz then(g (j/sz))[j%sz]? else none
 |0,_,j=>by simp
 |n+1,hg,j=>by
  have ih:=ZlW g n (fun i hi=>hg i (by omega))
  have hlen:((List.range n).flatMap g).length=n*sz:=by
   apply Nat.le_antisymm
   ·have h1:=ih (n*sz)
    rw[if_neg (by omega)]at h1
    simpa using h1
   ·rcases Nat.lt_or_ge ((List.range n).flatMap g).length (n*sz)with h |h
    ·have h1:=ih ((List.range n).flatMap g).length
     rw[if_pos h,List.getElem?_eq_none (Nat.le_refl _)]at h1
     have hz:0<sz:=by rcases Nat.eq_zero_or_pos sz with h0 |h0;· subst h0;simp at h
                      ·exact h0
     have h2:((List.range n).flatMap g).length/sz<n:=by rw[Nat.div_lt_iff_lt_mul hz];exact h
     rw[List.getElem?_eq_getElem (by rw[hg _ (by omega)];exact Nat.mod_lt _ hz)]at h1
     cases h1
    ·exact h
  rw[List.range_succ,List.flatMap_append,List.flatMap_singleton]
  by_cases hj:j<n*sz
  ·rw[List.getElem?_append_left (by omega),ih,if_pos hj,if_pos (by rw[Nat.add_mul];omega)]
  ·rw[List.getElem?_append_right (by omega),hlen]
   by_cases hj2:j<(n+1)*sz
   ·rw[if_pos hj2]
    rw[Nat.add_mul,Nat.one_mul]at hj2
    have hz:0<sz:=by omega
    have e1:j/sz=n:=by
     rw[Nat.div_eq_iff hz];constructor
     ·rw[Nat.mul_comm]at hj ⊢;omega
     ·omega
    have e2:j%sz=j-n*sz:=by
     have:=Nat.div_add_mod j sz
     rw[e1,Nat.mul_comm]at this;omega
    rw[e1,e2]
   ·rw[if_neg hj2]
    exact List.getElem?_eq_none (by rw[hg n (by omega)];rw[Nat.add_mul]at hj2;omega)
theorem ZqW(s:Sh)(a:AV):s.view1 (s.view1 a)=s.view1 a:=by cases s<;>rfl
theorem Zmf:∀ {ss:List Sh} {us pre:List AV},Cfs ss us→ZeY ss pre.length (.agg (.gen (pre++us)))=us
 |[],us,pre,h=>by have:=h.1;cases us<;>simp at this;rfl
 |s::ss,us,pre,h=>by
  cases us with
  |nil=>have:=h.1;simp at this
  |cons u us=>
   obtain⟨a,rfl⟩:=(h.2 0 s u rfl rfl).1
   have ht:Cfs ss us:=⟨by have:=h.1;simpa using this,fun j s' u' hs hu=>h.2 (j+1) s' u' (by simpa using hs) (by simpa using hu)⟩
   have:=Zmf (pre:=pre++[s.view1 a]) ht
   rw[List.append_assoc,List.length_append]at this
   simp only[List.length_singleton,List.singleton_append]at this
   simp only[ZeY,this]
   congr 1
   simp only[AV.cellAt,List.getD_eq_getElem?_getD,List.getElem?_append_right (Nat.le_refl _),Nat.sub_self,List.getElem?_cons_zero,Option.getD_some]
   exact ZqW s a
theorem Zvf{ss:List Sh}{us:List AV}(h:Cfs ss us):∀u∈us,u.pure=true∧u.single=true:=fun u hu=>by
 obtain⟨j,hj⟩:=List.mem_iff_getElem?.1 hu
 have hlt:=(List.getElem?_eq_some_iff.1 hj).1
 obtain⟨a,rfl⟩:=(h.2 j _ u (List.getElem?_eq_getElem (by rw[←h.1];exact hlt)) hj).1
 exact⟨ZgH _ _,ZdE _ _⟩
def ZzW(ag:Bool)(us:List AV):AV:=match ag with |true=>.agg (.gen us) |false=>us.getD 0 .top
theorem ZiD{ag:Bool}{ss:List Sh}{s:Sh}{us:List AV}(hs:Zz4 ag ss=some s)(h:Cfs ss us):s.view (ZzW ag us)=ZzW ag us∧(ZzW ag us).flat=us:=by
 unfold Zz4 at hs
 split at hs
 ·cases hs
 ·rename_i s1 ss1
  cases hs
  refine⟨?_,rfl⟩
  have:=Zmf (pre:=[]) h
  simp only[List.nil_append,List.length_nil]at this
  simp only[Sh.view,ZzW,this]
 ·rename_i s1
  cases hs
  have hl:=h.1
  match us,hl with
  |[u],_=>
   obtain⟨⟨a,rfl⟩,_,hlf⟩:=h.2 0 _ u rfl rfl
   refine⟨?_,Zbp (ZdE _ _)⟩
   show s.view (s.view1 a)=s.view1 a
   cases s with
   |agg l=>cases hlf
   |_=>rfl
 ·cases hs
def Zfj(s:Sh)(es:List AV):Row:=match s with
 | .int k=>.ints k (es.map AV.toI)
 |s=>.big s es
theorem ZhI(s:Sh)(es:List AV):(Zfj s es).elems=es.map s.view:=by
 cases s<;>simp[Zfj,Row.elems,Sh.view,Sh.view1,List.map_map,Function.comp_def]
theorem Zi4(s:Sh)(es:List AV):AV.list (Zfj s es)=(ZB0 s).view1 (.list (Zfj s es)):=by cases s<;>rfl
theorem ZmJ(s:Sh):(ZB0 s).leaf=true:=by cases s<;>rfl
theorem Zns{g:Nat→AV}{u:Nat→List AV}{n:Nat}(h:∀i,i<n→(g i).flat=u i):Zae ((List.range n).map g)=(List.range n).flatMap u:=by
 unfold Zae
 rw[List.flatMap_map]
 exact flatMap_congr_range h
theorem ZDD(a:Addr)(i sz j:Nat):(a.add (i*sz)).add j=a.add (i*sz+j):=Zgn a _ _
theorem ZCW{t e:TypeId}{de:TypeDesc}{l:List Sh}{s:Sh}(ht:P.underlying t=some (.slice e))(hcl:P.cellsOf e=l.length)(hs:Zz4 (ZaP de) l=some s)
 (IH:∀fuel cs x,DataW.trod enc P W 0 (fun _=>true) true fuel e cs=some x→Rd W L l cs) {fuel:Nat} {cs:List Value} {x:DataW H×List MemPlace} (h:DataW.trod enc P W 0 (fun _=>true) true fuel t cs=some x):Rd W L [ZB0 s] cs:=by
 have hpos:0<l.length:=by
  unfold Zz4 at hs
  split at hs<;>first |(cases hs;done) |simp
 have emp:∀ad c,Rd W L [ZB0 s] [.slice ad 0 c]:=fun ad c=>Rd.one (u:=.list (Zfj s [])) (.nil _ ad c (by rw[ZhI];rfl)) rfl ⟨⟨_,Zi4 s []⟩,by cases s<;>simp[Zfj,wfV],ZmJ s⟩
 rcases open_slice ht h with⟨rfl,_⟩ |⟨a,len,cap,m,n,D,Pl,rfl,hb,hl,hm,hmm,_,hx⟩
 ·exact emp none 0
 ·by_cases h0:len=0
  ·subst h0;exact emp (some a) cap
  ·simp only[if_true]at hmm
   subst hmm
   obtain⟨F,hF⟩:=choose_lt (α:=List Value×List AV) (n:=len) (p:=fun i p=>W.cells? 0 (a.add (i*P.cellsOf e)) (P.cellsOf e)=some p.1∧RelL W (Zmy W) [] L p.2 p.1∧(∀c∈p.1,c.oneCell'=true)∧Cfs l p.2) (fun i hi=>by
    obtain⟨cs',h1,h2⟩:=hx i (by omega)
    obtain⟨us,r,o,f⟩:=IH _ _ _ h2
    exact⟨(cs',us),h1,r,o,f⟩)
   rw[hcl]at hF
   have hcells:∀i,i<len→(F i).1.length=l.length∧∀j,j<l.length→W.cell? (a.add (i*l.length+j))=(F i).1[j]?:=fun i hi=>by
    obtain⟨_,g1,g2⟩:=World.cells?_some (hF i hi).1
    exact⟨g1,fun j hj=>by rw[←ZDD];exact g2 j hj⟩
   have hul:∀i,i<len→(F i).2.length=l.length:=fun i hi=>(hF i hi).2.2.2.1
   obtain⟨es,hes⟩:∃es,es=(List.range len).map fun i=>ZzW (ZaP de) (F i).2:=⟨_,rfl⟩
   have hview:es.map s.view=es:=by
    rw[hes,List.map_map]
    exact List.map_congr_left fun i hi=>(ZiD hs (hF i (List.mem_range.1 hi)).2.2.2).1
   have hfl:Zae es=(List.range len).flatMap fun i=>(F i).2:=by
    rw[hes];exact Zns fun i hi=>(ZiD hs (hF i hi).2.2.2).2
   have hsz:∀x∈es,x.flat.length=l.length:=fun x hx=>by
    rw[hes]at hx
    obtain⟨i,hi,rfl⟩:=List.mem_map.1 hx
    rw[(ZiD hs (hF i (List.mem_range.1 hi)).2.2.2).2]
    exact hul i (List.mem_range.1 hi)
   have hlen:es.length=len:=by rw[hes];simp
   have gU:=ZlW (fun i=>(F i).2) len hul
   have gV:=ZlW (fun i=>(F i).1) len (fun i hi=>(hcells i hi).1)
   have hlt:a.block<W.heap.size:=by
    have h1:=(hcells 0 (by omega)).2 0 hpos
    rw[List.getElem?_eq_getElem (by rw[(hcells 0 (by omega)).1];exact hpos)]at h1
    have:=ZAl h1
    rw[ZcS]at this;exact this
   have hidx:∀j,j<len*l.length→j/l.length<len∧j%l.length<l.length:=fun j hj=>⟨by rw[Nat.div_lt_iff_lt_mul hpos];exact hj,Nat.mod_lt _ hpos⟩
   refine Rd.one (u:=.list (Zfj s es)) ?_ rfl ⟨⟨_,Zi4 s es⟩,?_,ZmJ s⟩
   ·refine .list (Zfj s es) es (by rw[ZhI,hview]) a len _ l.length ((List.range len).flatMap fun i=>(F i).1) hlt hlt hlen.symm hl hsz ?_ ?_ ?_ ?_ ?_
    ·rw[hfl]
     have e1:∀(g:Nat→List Value) (k:Nat→List AV) (n:Nat),(∀i,i<n→(g i).length=(k i).length)→((List.range n).flatMap g).length=((List.range n).flatMap k).length:=by
      intro g k n
      induction n with
      |zero=>intro _;rfl
      |succ n ih=>
       intro hgk
       rw[List.range_succ,List.flatMap_append,List.flatMap_append,List.length_append,List.length_append,ih (fun i hi=>hgk i (by omega))]
       simp[hgk n (by omega)]
     exact e1 _ _ _ fun i hi=>by rw[(hcells i hi).1,hul i hi]
    ·intro c hc
     obtain⟨i,hi,hc⟩:=List.mem_flatMap.1 hc
     exact(hF i (List.mem_range.1 hi)).2.2.1 c hc
    ·intro j v hj
     rw[gV j]at hj
     split at hj
     ·rename_i hjl
      obtain⟨q1,q2⟩:=hidx j hjl
      have:=(hcells _ q1).2 _ q2
      rw[show j/l.length*l.length+j%l.length=j by rw[Nat.mul_comm];exact Nat.div_add_mod j _]at this
      rw[this,hj]
     ·cases hj
    ·rw[hfl]
     exact Zhg fun u hu=>by
      obtain⟨i,hi,hu⟩:=List.mem_flatMap.1 hu
      exact(Zvf (hF i (List.mem_range.1 hi)).2.2.2 u hu).1
    ·intro j u v hu hv
     rw[hfl,gU j]at hu
     rw[gV j]at hv
     split at hu
     ·rename_i hjl
      rw[if_pos hjl]at hv
      exact(hF _ (hidx j hjl).1).2.1.2 _ u v hu hv
     ·cases hu
   ·unfold Zfj
    split
    ·rename_i k
     simp only[wfV]
     intro z hz
     obtain⟨e1,he1,rfl⟩:=List.mem_map.1 hz
     rw[hes]at he1
     obtain⟨i,hi,rfl⟩:=List.mem_map.1 he1
     have hc:=(hF i (List.mem_range.1 hi)).2.2.2
     unfold Zz4 at hs
     split at hs
     ·cases hs
     ·cases hs
     ·rename_i s1 hag
      cases hs
      have hl1:=hc.1
      rw[show ZaP de=false from by first |assumption |(rename_i hx _ _;exact hx)] 
      match hq:(F i).2,hl1 with
      |[u],_=>
       obtain⟨⟨a,ha⟩,hw,_⟩:=hc.2 0 (.int k) u rfl (by rw[hq];rfl)
       subst ha
       exact hw
     ·cases hs
    ·cases s with
     |agg ss=>
      show ∀x∈es,wfE ss x
      intro x hx j k hj
      rw[hes]at hx
      obtain⟨i,hi,rfl⟩:=List.mem_map.1 hx
      have hc:=(hF i (List.mem_range.1 hi)).2.2.2
      unfold Zz4 at hs
      split at hs
      ·cases hs
      ·rename_i s1 ss1 hag
       cases hs
       rw[show ZaP de=true from by first |assumption |(rename_i hx2 _ _;exact hx2)]
       have hlt2:j<(F i).2.length:=by
        rw[hc.1]
        exact(List.getElem?_eq_some_iff.1 hj).1
       obtain⟨⟨a,ha⟩,hw,_⟩:=hc.2 j (.int k) _ hj (List.getElem?_eq_getElem hlt2)
       have he:(ZzW true (F i).2).cellAt j=(F i).2[j]:=by simp[ZzW,AV.cellAt,List.getD_eq_getElem?_getD,List.getElem?_eq_getElem hlt2]
       rw[he,ha]
       rw[ha]at hw
       exact hw
      ·rename_i s1 hag
       cases hs
       have hl1:=hc.1
       match hq:(F i).2,hl1 with
       |[u],_=>
        obtain⟨_,_,hlf⟩:=hc.2 0 (.agg ss) u rfl (by rw[hq];rfl)
        cases hlf
      ·cases hs
     |_=>trivial
theorem ZxC:∀(d:Nat) (t:TypeId) (ss:List Sh),Zxg P d t=some ss→∀(fuel:Nat) (cs:List Value) (x:DataW H×List MemPlace),DataW.trod enc P W 0 (fun _=>true) true fuel t cs=some x→Rd W L ss cs
 |0,t,ss,h,_,_,_,_=>by simp[Zxg]at h
 |d+1,t,ss,h,fuel,cs,x,hx=>by
  have IH:=ZxC d
  simp only[Zxg]at h
  split at h
  ·rename_i td ht
   split at h
   ·rename_i l hl
    split at h
    ·rename_i hsz
     simp only[Option.some.injEq]at h
     subst h
     have hsz:P.cellsOf t=l.length:=by simpa using hsz
     unfold ZIB at hl
     split at hl
     ·rename_i k
      cases hl
      obtain⟨n,rfl,_,hw⟩:=DataW.trod_int ht hx
      exact Rd.one (.int k n) rfl ⟨⟨.int k n,rfl⟩,hw,rfl⟩
     ·cases hl
      obtain⟨b,rfl,_⟩:=DataW.trod_bool ht hx
      exact Rd.one (.bool b) rfl ⟨⟨.bool b,rfl⟩,trivial,rfl⟩
     ·cases hl
      obtain⟨s,rfl,_,_⟩:=DataW.trod_string ht hx
      have e:s=⟨s.data.toList.toArray⟩:=by simp
      refine Rd.one (u:=.str s.data.toList) ?_ rfl ⟨⟨.str s.data.toList,rfl⟩,trivial,rfl⟩
      have:=Rel.str (w:=W) (ok:=Zmy W) (h:=[]) (L:=L) s.data.toList
      rw[←e]at this
      exact this
     ·rename_i fs
      obtain⟨xs,n,_,_,hlen,hxl,hf⟩:=DataW.trod_struct ht hx
      have:=ZE6 (P:=P) (W:=W) (L:=L) (enc:=enc) (n:=n) IH (cs:=cs) fs.toList 0 l hl (fun i fd hfd=>by
       have hfd':fs[i]? =some fd:=by simpa using hfd
       have h1:=hf i fd hfd'
       have hi:i<xs.length:=by rw[hxl];exact(Array.getElem?_eq_some_iff.1 hfd').1
       exact⟨xs[i],by rw[h1,List.getElem?_eq_getElem hi]⟩) (by simp[hlen,hsz])
      simpa using this
     ·rename_i n e
      split at hl
      ·rename_i le hle
       split at hl
       ·rename_i hce
        simp only[Option.some.injEq]at hl
        subst hl
        have hce:P.cellsOf e=le.length:=by simpa using hce
        obtain⟨xs,m,_,_,hlen,hxl,hf⟩:=DataW.trod_array ht hx
        have:=Zxv (W:=W) (L:=L) (l:=le) (n:=n) (c:=P.cellsOf e) (e:=e) (cs:=cs) hce (fun i hi=>by
         have h1:=hf i hi
         rw[List.getElem?_eq_getElem (by rw[hxl];exact hi)]at h1
         exact IH _ _ hle _ _ _ h1) n 0 (by simp) (by rw[hlen,hsz,hce];simp)
        simpa using this
       ·cases hl
      ·cases hl
     ·rename_i e
      split at hl
      ·rename_i le de hle hde
       split at hl
       ·rename_i s hce hs
        simp only[Option.some.injEq]at hl
        subst hl
        exact ZCW ht (by simpa using hce) hs (fun fuel cs x hx=>IH _ _ hle fuel cs x hx) hx
       ·cases hl
      ·cases hl
     ·cases hl
    ·cases h
   ·cases h
  ·cases h
theorem Zrk{d:Nat}{t:TypeId}{s:Sh}(hs:Zxg P d t=some [s]){v:Value}{dd:DataW H}{ps:List MemPlace}(hv:v.oneCell'=true)(h:DataW.Trod enc P W 0 (fun _=>true) true t v dd ps):
 ∃u,Rel W (Zmy W) [] L u v∧Cf s u:=by
 obtain⟨fuel,hf⟩:=h
 have hcs:v.cells.toList=[v]:=by cases v<;>first |rfl |(simp [Value.oneCell']at hv)
 obtain⟨us,r,o,f⟩:=ZxC (L:=L) d t [s] hs fuel _ _ hf
 rw[hcs]at r
 match us,f.1 with
 |[u],_=>exact⟨u,r.2 0 u v rfl rfl,f.2 0 s u rfl rfl⟩
end
end Go.Proofs.Ytklbmkllepkjcaa
/- The cells of some types, as they are read. No condition. -/
namespace Go.Proofs.Ytklbmkllepkjcaa
theorem ZE2{k:IntKind}{u:AV}(h:Cf (.int k) u):∃n,u=.int k n∧(Lit.int k n).wf=true:=by
 obtain⟨⟨a,rfl⟩,hw,_⟩:=h
 exact⟨_,rfl,hw⟩
theorem ZsW{k:IntKind}{u:AV}(h:Cf (.ints k) u):∃l:List Int,u=.list (.ints k l)∧∀x∈l,(Lit.int k x).wf=true:=by
 obtain⟨⟨a,rfl⟩,hw,_⟩:=h
 exact⟨_,rfl,hw⟩
end Go.Proofs.Ytklbmkllepkjcaa
/- Paths of functions, printed by the explorer (Gx). No condition. -/
namespace Go.Proofs.Ytklbmkllepkjcaa
set_option maxRecDepth 100000
set_option linter.unusedVariables false
def ZwF(xs:List Int):AFrame:={ fn:=104,N:=8,env:=[(0,AV.list (.ints .i64 xs))],todo:=[.code a104.code],defs:=[],rnd:=none,ret:=false,res:=[ARes.tmp 2] }
def ZGD(xs:List Int):List AFrame:=[(ZwF xs)]
theorem Zva(xs:List Int):Zau tab 104 [AV.list (.ints .i64 xs)]=some (ZwF xs):=rfl
def Zxf(A:Ar)(K:KT)(F:FT)(xs:List Int):Prop:=rB [Nat.blt 0 (A.len xs)] (rB [Nat.ble (0+A.len xs) 4294967296,List.all [] fun x=>AV.bx x&&Nat.beq (Zag A x) 1] (F (AV.row 0 0) (some { e:=3,sz:=1,r:=.ints .i64 xs })))
theorem ZEK{A:Ar}{K:KT}{F:FT}{M:MT}{xs:List Int} :Zal A tab E0 104 K F M (.run 10 (.fy (.run 9 (.fn)))) (ZGD xs) []=Zxf A K F xs:=by kernel_rfl
def ZtD(cap:Nat):AFrame:={ fn:=104,N:=8,env:=[(0,AV.val (Go.Value.slice none 0 cap))],todo:=[.code a104.code],defs:=[],rnd:=none,ret:=false,res:=[ARes.tmp 2] }
def ZFk(cap:Nat):List AFrame:=[(ZtD cap)]
theorem ZrZ(cap:Nat):Zau tab 104 [AV.val (Go.Value.slice none 0 cap)]=some (ZtD cap):=rfl
def ZtC(A:Ar)(K:KT)(F:FT)(cap:Nat):Prop:=F (AV.nils) (none)
theorem Zzf{A:Ar}{K:KT}{F:FT}{M:MT}{cap:Nat} :Zal A tab E0 104 K F M (.run 10 (.ty (.run 5 (.fn)))) (ZFk cap) []=ZtC A K F cap:=by kernel_rfl
def Zsw(ad:Go.Addr)(cap:Nat):AFrame:={ fn:=104,N:=8,env:=[(0,AV.val (Go.Value.slice (some ad) 0 cap))],todo:=[.code a104.code],defs:=[],rnd:=none,ret:=false,res:=[ARes.tmp 2] }
def ZD2(ad:Go.Addr)(cap:Nat):List AFrame:=[(Zsw ad cap)]
theorem ZrY(ad:Go.Addr)(cap:Nat):Zau tab 104 [AV.val (Go.Value.slice (some ad) 0 cap)]=some (Zsw ad cap):=rfl
def ZsN(A:Ar)(K:KT)(F:FT)(ad:Go.Addr)(cap:Nat):Prop:=rB [List.all [] fun x=>AV.bx x&&Nat.beq (Zag A x) 1] (F (AV.row 0 0) (some { e:=3,sz:=1,r:=Row.gen [] }))
theorem Zzk{A:Ar}{K:KT}{F:FT}{M:MT}{ad:Go.Addr}{cap:Nat} :Zal A tab E0 104 K F M (.run 10 (.fy (.run 9 (.fn)))) (ZD2 ad cap) []=ZsN A K F ad cap:=by kernel_rfl
end Go.Proofs.Ytklbmkllepkjcaa
/- Contracts as a list. No condition. -/
namespace Go.Proofs.Ytklbmkllepkjcaa
theorem Zoj(xs:List Int)(h:xs.length≤1000000):Zai Try.prog 104 [.list (.ints .i64 xs)] (.row 0 0) (some ⟨3,1, .ints .i64 xs⟩):=by
 by_cases h0:xs=[]
 ·subst h0
  refine Zp7 rfl fun ad cap=>?_
  cases ad with
  |none=>exact Zue (r0:=.nils) (start (ZrZ cap) fun C hC=>tgo hC ZuV Zzf (by simp[ZtC])) rfl rfl (by omega)
  |some ad=>exact ZuP (r:=.gen []) (start (ZrY ad cap) fun C hC=>tgo hC ZuV Zzk (by simp[ZsN])) (by omega) rfl
 ·have:=List.length_pos_iff.2 h0
  exact start (Zva xs) fun C hC=>tgo hC ZuV ZEK (by simp[Zxf];omega)
def N0:List Ctr:=E0
theorem Zdp:Zaz Try.prog N0:=ZuV
end Go.Proofs.Ytklbmkllepkjcaa
/- Paths of functions, printed by the explorer (Gx). No condition. -/
namespace Go.Proofs.Ytklbmkllepkjcaa
set_option maxRecDepth 100000
set_option linter.unusedVariables false
def ZBC(n lo hi:Int):AFrame:={ fn:=91,N:=15,env:=[(0,AV.int .i64 n),(1,AV.int .i64 lo),(2,AV.int .i64 hi)],todo:=[.code a91.code],defs:=[],rnd:=none,ret:=false,res:=[ARes.tmp 6] }
def ZKe(n lo hi:Int):List AFrame:=[(ZBC n lo hi)]
theorem ZyJ(n lo hi:Int):Zau tab 91 [AV.int .i64 n,AV.int .i64 lo,AV.int .i64 hi]=some (ZBC n lo hi):=rfl
def ZBW(A:Ar)(K:KT)(F:FT)(n lo hi:Int):Prop:=bB (A.le lo n) (F (AV.bool (A.le n hi)) (none)) (F (AV.bool false) (none))
theorem ZGn{A:Ar}{K:KT}{F:FT}{M:MT}{n lo hi:Int} :Zal A tab N0 91 K F M (.run 10 (.tf (.ty (.ty (.ty (.run 4 (.fn))))) (.fy (.fy (.fy (.run 4 (.fn))))))) (ZKe n lo hi) []=ZBW A K F n lo hi:=by kernel_rfl
def ZBv(n lo hi:Int):AFrame:={ fn:=30,N:=15,env:=[(0,AV.int .i64 n),(1,AV.int .i64 lo),(2,AV.int .i64 hi)],todo:=[.code a30.code],defs:=[],rnd:=none,ret:=false,res:=[ARes.tmp 6] }
def ZK5(n lo hi:Int):List AFrame:=[(ZBv n lo hi)]
theorem Zym(n lo hi:Int):Zau tab 30 [AV.int .i64 n,AV.int .i64 lo,AV.int .i64 hi]=some (ZBv n lo hi):=rfl
def ZBS(A:Ar)(K:KT)(F:FT)(n lo hi:Int):Prop:=bB (A.le lo n) (F (AV.bool (A.le n hi)) (none)) (F (AV.bool false) (none))
theorem ZF5{A:Ar}{K:KT}{F:FT}{M:MT}{n lo hi:Int} :Zal A tab N0 30 K F M (.run 10 (.tf (.ty (.ty (.ty (.run 4 (.fn))))) (.fy (.fy (.fy (.run 4 (.fn))))))) (ZK5 n lo hi) []=ZBS A K F n lo hi:=by kernel_rfl
def ZBE(b:Bool)(e:Int):AFrame:={ fn:=85,N:=7,env:=[(0,AV.bool b),(1,AV.int .i64 e)],todo:=[.code a85.code],defs:=[],rnd:=none,ret:=false,res:=[ARes.tmp 4] }
def ZKG(b:Bool)(e:Int):List AFrame:=[(ZBE b e)]
theorem ZyI(b:Bool)(e:Int):Zau tab 85 [AV.bool b,AV.int .i64 e]=some (ZBE b e):=rfl
def ZBa(A:Ar)(K:KT)(F:FT)(b:Bool)(e:Int):Prop:=bB (b) (F (AV.int .i64 0) (none)) (F (AV.int .i64 e) (none))
theorem ZFN{A:Ar}{K:KT}{F:FT}{M:MT}{b:Bool}{e:Int} :Zal A tab N0 85 K F M (.run 9 (.tf (.run 5 (.fn)) (.run 7 (.fn)))) (ZKG b e) []=ZBa A K F b e:=by kernel_rfl
def ZFd(xs:List Int):AFrame:={ fn:=72,N:=15,env:=[(0,AV.list (.ints .i64 xs))],todo:=[.code a72.code],defs:=[],rnd:=none,ret:=false,res:=[ARes.tmp 2] }
def ZKy(xs:List Int):List AFrame:=[(ZFd xs)]
theorem ZAh(xs:List Int):Zau tab 72 [AV.list (.ints .i64 xs)]=some (ZFd xs):=rfl
def Zi5(xs:List Int)(n0 n1:Int):List AFrame:=[{ fn:=72,N:=15,env:=[(5,AV.list (.ints .i64 xs)),(6,AV.int .i64 n0),(7,AV.int .i64 n1)],todo:=.code (ACode.gh [] ZCe)::ZG0,defs:=[],rnd:=none,ret:=false,res:=[ARes.tmp 2] }]
def Zf0(xs:List Int)(n0 n1:Int):Zaa:=[]
abbrev Zkm(xs:List Int)(n0 n1:Int):List AFrame×Zaa:=(Zi5 xs n0 n1,Zf0 xs n0 n1)
def ZD1(A:Ar)(K:KT)(F:FT)(xs:List Int):Prop:=K (Zkm (xs) (A.int (A.len xs)) (0))
theorem ZFQ{A:Ar}{K:KT}{F:FT}{M:MT}{xs:List Int} :Zal A tab N0 72 K F M (.run 14 (.hd)) (ZKy xs) []=ZD1 A K F xs:=by kernel_rfl
def Zes(A:Ar)(K:KT)(F:FT)(xs:List Int)(n0 n1:Int):Prop:=bB (A.lt n1 n0) (rB [Zad (Zad (A.le 0 n1) (Nat.blt (A.nat n1) (A.len xs))) true] (bB (A.not (A.eq (A.nth xs (A.nat n1)) 0)) (F (AV.int .i64 (A.nth xs (A.nat n1))) (none)) (rB [A.inR .i64 (A.add n1 1)] (K (Zkm (xs) (n0) (A.add n1 1)))))) (F (AV.int .i64 0) (none))
theorem ZkB{A:Ar}{K:KT}{F:FT}{M:MT}{xs:List Int}{n0 n1:Int} :Zal A tab N0 72 K F M (.run 6 (.tf (.run 14 (.tf (.run 6 (.fn)) (.run 8 (.hd)))) (.run 6 (.fn)))) (Zi5 xs n0 n1) (Zf0 xs n0 n1)=Zes A K F xs n0 n1:=by kernel_rfl
def ZCi(xs:List Int):AFrame:={ fn:=14,N:=6,env:=[(0,AV.list (.ints .i64 xs))],todo:=[.code a14.code],defs:=[],rnd:=none,ret:=false,res:=[ARes.tmp 2] }
def ZKr(xs:List Int):List AFrame:=[(ZCi xs)]
theorem ZzN(xs:List Int):Zau tab 14 [AV.list (.ints .i64 xs)]=some (ZCi xs):=rfl
def ZFh(A:Ar)(K:KT)(F:FT)(xs:List Int):Prop:=rB [Nat.ble (0+A.len xs) 4294967296,List.all [] fun x=>AV.bx x&&Nat.beq (Zag A x) 1] (F (AV.row 0 0) (some { e:=3,sz:=1,r:=.ints .i64 xs }))
theorem ZHb{A:Ar}{K:KT}{F:FT}{M:MT}{xs:List Int} :Zal A tab N0 14 K F M (.run 12 (.fn)) (ZKr xs) []=ZFh A K F xs:=by kernel_rfl
def ZBg(xs ys:List Int):AFrame:={ fn:=17,N:=26,env:=[(0,AV.list (.ints .i64 xs)),(1,AV.list (.ints .i64 ys))],todo:=[.code a17.code],defs:=[],rnd:=none,ret:=false,res:=[ARes.tmp 4] }
def ZKl(xs ys:List Int):List AFrame:=[(ZBg xs ys)]
theorem ZyS(xs ys:List Int):Zau tab 17 [AV.list (.ints .i64 xs),AV.list (.ints .i64 ys)]=some (ZBg xs ys):=rfl
def Zi6(xs ys:List Int)(n0:Int):List AFrame:=[{ fn:=17,N:=26,env:=[(0,AV.list (.ints .i64 xs)),(1,AV.list (.ints .i64 ys)),(5,AV.int .i64 n0)],todo:=.code (ACode.gh [] Zwn)::ZxR,defs:=[],rnd:=none,ret:=false,res:=[ARes.tmp 4] }]
def Zgx(xs ys:List Int)(n0:Int):Zaa:=[]
abbrev Zkb(xs ys:List Int)(n0:Int):List AFrame×Zaa:=(Zi6 xs ys n0,Zgx xs ys n0)
def Zy0(A:Ar)(K:KT)(F:FT)(xs ys:List Int):Prop:=bB (A.not (A.eq (A.int (A.len xs)) (A.int (A.len ys)))) (F (AV.bool false) (none)) (K (Zkb (xs) (ys) (0)))
theorem ZF1{A:Ar}{K:KT}{F:FT}{M:MT}{xs ys:List Int} :Zal A tab N0 17 K F M (.run 13 (.tf (.run 5 (.fn)) (.run 9 (.hd)))) (ZKl xs ys) []=Zy0 A K F xs ys:=by kernel_rfl
def ZeD(A:Ar)(K:KT)(F:FT)(xs ys:List Int)(n0:Int):Prop:=bB (A.lt n0 (A.int (A.len xs))) (rB [Zad (Zad (A.le 0 n0) (Nat.blt (A.nat n0) (A.len ys))) true,Zad (Zad (A.le 0 n0) (Nat.blt (A.nat n0) (A.len xs))) true] (bB (A.not (A.eq (A.nth xs (A.nat n0)) (A.nth ys (A.nat n0)))) (F (AV.bool false) (none)) (rB [A.inR .i64 (A.add n0 1)] (K (Zkb (xs) (ys) (A.add n0 1)))))) (F (AV.bool true) (none))
theorem Zlc{A:Ar}{K:KT}{F:FT}{M:MT}{xs ys:List Int}{n0:Int} :Zal A tab N0 17 K F M (.run 9 (.tf (.run 6 (.tf (.run 5 (.fn)) (.run 9 (.hd)))) (.run 6 (.fn)))) (Zi6 xs ys n0) (Zgx xs ys n0)=ZeD A K F xs ys n0:=by kernel_rfl
def ZCP(a b:Int):AFrame:={ fn:=71,N:=23,env:=[(0,AV.int .i64 a),(1,AV.int .i64 b)],todo:=[.code a71.code],defs:=[],rnd:=none,ret:=false,res:=[ARes.tmp 4] }
def ZJU(a b:Int):List AFrame:=[(ZCP a b)]
theorem ZzL(a b:Int):Zau tab 71 [AV.int .i64 a,AV.int .i64 b]=some (ZCP a b):=rfl
def Zij(n0 n1 n2:Int):List AFrame:=[{ fn:=71,N:=23,env:=[(0,AV.int .i64 n0),(1,AV.int .i64 n1),(5,AV.int .i64 n2)],todo:=.code (ACode.gh [] ZDO)::ZGV,defs:=[],rnd:=none,ret:=false,res:=[ARes.tmp 4] }]
def ZfY(n0 n1 n2:Int):Zaa:=[]
abbrev ZcO(n0 n1 n2:Int):List AFrame×Zaa:=(Zij n0 n1 n2,ZfY n0 n1 n2)
def ZBM(A:Ar)(K:KT)(F:FT)(a b:Int):Prop:=K (ZcO (a) (b) (0))
theorem ZF7{A:Ar}{K:KT}{F:FT}{M:MT}{a b:Int} :Zal A tab N0 71 K F M (.run 12 (.hd)) (ZJU a b) []=ZBM A K F a b:=by kernel_rfl
def Zef(A:Ar)(K:KT)(F:FT)(n0 n1 n2:Int):Prop:=bB (A.lt 0 n1) (bB (A.eq (A.bits Go.BinOp.and .i64 n1 1) 1) (rB [Zad (Zad (A.le 0 1) (Nat.blt (A.nat 1) 64)) (A.inR .i64 (A.shl n0 1))] (bB (A.le 16 (A.shl n0 1)) (rB [Zad (A.le 0 1) (Nat.blt (A.nat 1) 64)] (K (ZcO (A.bits Go.BinOp.xor .i64 (A.shl n0 1) 19) (A.shr n1 1) (A.bits Go.BinOp.xor .i64 n2 n0)))) (rB [Zad (A.le 0 1) (Nat.blt (A.nat 1) 64)] (K (ZcO (A.shl n0 1) (A.shr n1 1) (A.bits Go.BinOp.xor .i64 n2 n0)))))) (rB [Zad (Zad (A.le 0 1) (Nat.blt (A.nat 1) 64)) (A.inR .i64 (A.shl n0 1))] (bB (A.le 16 (A.shl n0 1)) (rB [Zad (A.le 0 1) (Nat.blt (A.nat 1) 64)] (K (ZcO (A.bits Go.BinOp.xor .i64 (A.shl n0 1) 19) (A.shr n1 1) (n2)))) (rB [Zad (A.le 0 1) (Nat.blt (A.nat 1) 64)] (K (ZcO (A.shl n0 1) (A.shr n1 1) (n2))))))) (F (AV.int .i64 n2) (none))
theorem Zkc{A:Ar}{K:KT}{F:FT}{M:MT}{n0 n1 n2:Int} :Zal A tab N0 71 K F M (.run 7 (.tf (.run 10 (.tf (.run 17 (.tf (.run 13 (.hd)) (.run 9 (.hd)))) (.run 12 (.tf (.run 13 (.hd)) (.run 9 (.hd)))))) (.run 7 (.fn)))) (Zij n0 n1 n2) (ZfY n0 n1 n2)=Zef A K F n0 n1 n2:=by kernel_rfl
def ZCd(a b:Int):AFrame:={ fn:=22,N:=37,env:=[(0,AV.int .i64 a),(1,AV.int .i64 b)],todo:=[.code a22.code],defs:=[],rnd:=none,ret:=false,res:=[ARes.tmp 4] }
def ZJM(a b:Int):List AFrame:=[(ZCd a b)]
theorem Zzr(a b:Int):Zau tab 22 [AV.int .i64 a,AV.int .i64 b]=some (ZCd a b):=rfl
def Zib(a b n0 n1:Int):List AFrame:=[{ fn:=22,N:=37,env:=[(0,AV.int .i64 a),(1,AV.int .i64 b),(5,AV.int .i64 n0),(6,AV.int .i64 n1)],todo:=.code (ACode.gh [] ZC0)::ZH5,defs:=[],rnd:=none,ret:=false,res:=[ARes.tmp 4] }]
def Zg8(a b n0 n1:Int):Zaa:=[]
abbrev ZfU(a b n0 n1:Int):List AFrame×Zaa:=(Zib a b n0 n1,Zg8 a b n0 n1)
def Zi9(n2 n3:Int):List AFrame:=[{ fn:=22,N:=37,env:=[(5,AV.int .i64 n2),(7,AV.int .i64 n3)],todo:=.code (ACode.gh [] ZCG)::ZHw,defs:=[],rnd:=none,ret:=false,res:=[ARes.tmp 4] }]
def Zgy(n2 n3:Int):Zaa:=[]
abbrev Zgs(n2 n3:Int):List AFrame×Zaa:=(Zi9 n2 n3,Zgy n2 n3)
def ZDb(A:Ar)(K:KT)(F:FT)(a b:Int):Prop:=K (ZfU (a) (b) (0) (0))
theorem ZHo{A:Ar}{K:KT}{F:FT}{M:MT}{a b:Int} :Zal A tab N0 22 K F M (.run 16 (.hd)) (ZJM a b) []=ZDb A K F a b:=by kernel_rfl
def Zg9(A:Ar)(K:KT)(F:FT)(a b n0 n1:Int):Prop:=bB (A.lt n1 4) (rB [Zad (A.le 0 n1) (Nat.blt (A.nat n1) 64)] (bB (A.eq (A.bits Go.BinOp.and .i64 (A.shr b n1) 1) 1) (rB [A.inR .i64 (A.add n1 1),Zad (Zad (A.le 0 n1) (Nat.blt (A.nat n1) 64)) (A.inR .i64 (A.shl a n1))] (K (ZfU (a) (b) (A.bits Go.BinOp.xor .i64 n0 (A.shl a n1)) (A.add n1 1)))) (rB [A.inR .i64 (A.add n1 1)] (K (ZfU (a) (b) (n0) (A.add n1 1)))))) (K (Zgs (n0) (6)))
theorem Zk4{A:Ar}{K:KT}{F:FT}{M:MT}{a b n0 n1:Int} :Zal A tab N0 22 K F M (.run 7 (.tf (.run 11 (.tf (.run 16 (.hd)) (.run 9 (.hd)))) (.run 9 (.hd)))) (Zib a b n0 n1) (Zg8 a b n0 n1)=Zg9 A K F a b n0 n1:=by kernel_rfl
def Zha(A:Ar)(K:KT)(F:FT)(n2 n3:Int):Prop:=bB (A.le 4 n3) (rB [Zad (A.le 0 n3) (Nat.blt (A.nat n3) 64)] (bB (A.eq (A.bits Go.BinOp.and .i64 (A.shr n2 n3) 1) 1) (rB [A.inR .i64 (A.sub n3 1),Zad (Zad (A.le 0 (A.sub n3 4)) (Nat.blt (A.nat (A.sub n3 4)) 64)) (A.inR .i64 (A.shl 19 (A.sub n3 4))),A.inR .i64 (A.sub n3 4)] (K (Zgs (A.bits Go.BinOp.xor .i64 n2 (A.shl 19 (A.sub n3 4))) (A.sub n3 1)))) (rB [A.inR .i64 (A.sub n3 1)] (K (Zgs (n2) (A.sub n3 1)))))) (F (AV.int .i64 n2) (none))
theorem Zk1{A:Ar}{K:KT}{F:FT}{M:MT}{n2 n3:Int} :Zal A tab N0 22 K F M (.run 7 (.tf (.run 11 (.tf (.run 16 (.hd)) (.run 9 (.hd)))) (.run 7 (.fn)))) (Zi9 n2 n3) (Zgy n2 n3)=Zha A K F n2 n3:=by kernel_rfl
end Go.Proofs.Ytklbmkllepkjcaa
/- Contracts as a list. No condition. -/
namespace Go.Proofs.Ytklbmkllepkjcaa
def Zao(n a b:Int):Bool:=decide (a≤n∧n≤b)
def Zak:List Int→Int
 |[]=>0
 |x::xs=>if x=0 then Zak xs else x
def Zaf(b:Bool)(e:Int):Int:=if b=true then 0 else e
theorem ZeF{xs:List Int}{k:Nat}(h:k<xs.length):xs.drop k=xs.getD k 0::xs.drop (k+1):=by
 rw[List.drop_eq_getElem_cons h,List.getD_eq_getElem?_getD,List.getElem?_eq_getElem h];rfl
theorem Zrb{α:Type}{xs:List α}{k:Nat}{d:α}(h:k<xs.length):xs.take (k+1)=xs.take k++[xs.getD k d]:=by
 rw[List.take_add_one,List.getElem?_eq_getElem h,List.getD_eq_getElem?_getD,List.getElem?_eq_getElem h];rfl
theorem ZbC{α:Type}{xs:List α}{n:Nat}{d:α}(h:n<xs.length):xs.getD n d∈xs:=by
 rw[List.getD_eq_getElem?_getD,List.getElem?_eq_getElem h];exact List.getElem_mem h
def Zbq:List Int→List Int→Int
 |x::xs,y::ys=>(if x=y then 0 else 1)+Zbq xs ys
 |_,_=>0
theorem ZpE:∀xs ys:List Int,0≤Zbq xs ys∧Zbq xs ys≤xs.length
 |[],_=>by simp[Zbq]
 |_::_,[]=>by simp[Zbq];omega
 |x::xs,y::ys=>by
  have:=ZpE xs ys
  rw[Zbq];split<;>simp<;>omega
section
variable {C:Ctx}(hC:C.P=Try.prog)
include hC
theorem ZmH(xs ys:List Int)(hl:xs.length≤1000000∧xs.length=ys.length):∀m k:Nat,k+m=xs.length→Ev C (Zi6 xs ys k) (Zgx xs ys k) (ZaL 17 (.bool (decide (xs.drop k=ys.drop k))) none)
 |0,k,hk=>tgo hC Zdp Zlc (by
  rw[List.drop_of_length_le (by omega),List.drop_of_length_le (by omega)]
  simp[ZeD,show ¬(k:Int)<xs.length by omega])
 |m+1,k,hk=>by
  have ih:=ZmH xs ys hl m (k+1) (by omega)
  rw[ZeF (show k<xs.length by omega),ZeF (show k<ys.length by omega)]
  refine tgo hC Zdp Zlc ?_
  by_cases h:xs.getD k 0=ys.getD k 0
  ·simp[-List.getD_eq_getElem?_getD,ZeD,show(k:Int)<xs.length by omega,show k<xs.length by omega,show k<ys.length by omega,h]
   exact⟨by omega,by simpa using ih⟩
  ·simp[-List.getD_eq_getElem?_getD,ZeD,show(k:Int)<xs.length by omega,show k<xs.length by omega,show k<ys.length by omega,h]
theorem Zhh(xs:List Int)(hl:xs.length≤1000000):∀m k:Nat,k+m=xs.length→Ev C (Zi5 xs xs.length k) (Zf0 xs xs.length k) (ZaL 72 (.int .i64 (Zak (xs.drop k))) none)
 |0,k,hk=>tgo hC Zdp ZkB (by
  rw[List.drop_of_length_le (by omega)]
  simp[Zes,show ¬(k:Int)<xs.length by omega,Zak])
 |m+1,k,hk=>by
  have ih:=Zhh xs hl m (k+1) (by omega)
  have hlt:(k:Int)<xs.length:=by omega
  have hlt2:k<xs.length:=by omega
  rw[ZeF hlt2,Zak]
  refine tgo hC Zdp ZkB ?_
  by_cases h:xs.getD k 0=0
  ·simp[-List.getD_eq_getElem?_getD,Zes,hlt,hlt2,h]
   exact⟨by omega,by simpa using ih⟩
  ·simp[-List.getD_eq_getElem?_getD,Zes,hlt,hlt2,h]
end
theorem ZnY(a b c:Int):Zai Try.prog 91 [.int .i64 a, .int .i64 b, .int .i64 c] (.bool (Zao a b c)) none:=
 start (ZyJ a b c) fun C hC=>tgo hC Zdp ZGn (by by_cases h:b≤a<;>simp[ZBW,h,Zao])
theorem Znz(a b c:Int):Zai Try.prog 30 [.int .i64 a, .int .i64 b, .int .i64 c] (.bool (Zao a b c)) none:=
 start (Zym a b c) fun C hC=>tgo hC Zdp ZF5 (by by_cases h:b≤a<;>simp[ZBS,h,Zao])
theorem Zn2(b:Bool)(e:Int):Zai Try.prog 85 [.bool b, .int .i64 e] (.int .i64 (Zaf b e)) none:=
 start (ZyI b e) fun C hC=>tgo hC Zdp ZFN (by cases b<;>simp[ZBa,Zaf])
theorem ZqO(xs:List Int)(hl:xs.length≤1000000):Zai Try.prog 72 [.list (.ints .i64 xs)] (.int .i64 (Zak xs)) none:=
 start (ZAh xs) fun C hC=>tgo hC Zdp ZFQ (by
  have:=Zhh hC xs hl xs.length 0 (by omega)
  simp[ZD1]
  simpa using this)
theorem Zmq(xs:List Int)(hl:xs.length≤1000000):Zai Try.prog 14 [.list (.ints .i64 xs)] (.row 0 0) (some ⟨3,1, .ints .i64 xs⟩):=
 start (ZzN xs) fun C hC=>tgo hC Zdp ZHb (by simp[ZFh];omega)
theorem ZrN(xs ys:List Int)(hl:xs.length≤1000000):Zai Try.prog 17 [.list (.ints .i64 xs), .list (.ints .i64 ys)] (.bool (decide (xs=ys))) none:=
 start (ZyS xs ys) fun C hC=>tgo hC Zdp ZF1 (by
  by_cases h:xs.length=ys.length
  ·simp[Zy0,h]
   have:=ZmH hC xs ys ⟨hl,h⟩ xs.length 0 (by omega)
   simpa using this
  ·have:xs≠ys:=fun e=>h (by rw[e])
   simp[Zy0,this,show ¬((xs.length:Int)=ys.length) by omega])
def k91:Ctr:=⟨91,0,fun _ a=>match a with |[.int .i64 a, .int .i64 b, .int .i64 c]=>some (true, .bool (Zao a b c),none) |_=>none⟩
theorem ZEw:k91.OK Try.prog:=fun pa args r fr h=>by
 simp only[k91]at h
 split at h
 ·cases h
  exact ZnY _ _ _
 ·cases h
def k30:Ctr:=⟨30,0,fun _ a=>match a with |[.int .i64 a, .int .i64 b, .int .i64 c]=>some (true, .bool (Zao a b c),none) |_=>none⟩
theorem ZDF:k30.OK Try.prog:=fun pa args r fr h=>by
 simp only[k30]at h
 split at h
 ·cases h
  exact Znz _ _ _
 ·cases h
def k85:Ctr:=⟨85,0,fun _ a=>match a with |[.bool b, .int .i64 e]=>some (true, .int .i64 (Zaf b e),none) |_=>none⟩
theorem ZDp:k85.OK Try.prog:=fun pa args r fr h=>by
 simp only[k85]at h
 split at h
 ·cases h
  exact Zn2 _ _
 ·cases h
def k72:Ctr:=⟨72,0,fun _ a=>match a with |[.list (.ints .i64 xs)]=>some (decide (xs.length≤1000000), .int .i64 (Zak xs),none) |_=>none⟩
theorem ZDt:k72.OK Try.prog:=fun pa args r fr h=>by
 simp only[k72]at h
 split at h
 ·simp only[Option.some.injEq,Prod.mk.injEq,decide_eq_true_eq]at h
  obtain⟨h0,rfl,rfl⟩:=h
  exact ZqO _ h0
 ·cases h
def k14:Ctr:=⟨14,0,fun _ a=>match a with |[.list (.ints .i64 xs)]=>some (decide (xs.length≤1000000), .row 0 0,some ⟨3,1, .ints .i64 xs⟩) |_=>none⟩
theorem ZwA:k14.OK Try.prog:=fun pa args r fr h=>by
 simp only[k14]at h
 split at h
 ·simp only[Option.some.injEq,Prod.mk.injEq,decide_eq_true_eq]at h
  obtain⟨h0,rfl,rfl⟩:=h
  exact Zmq _ h0
 ·cases h
def k17:Ctr:=⟨17,0,fun _ a=>match a with |[.list (.ints .i64 xs), .list (.ints .i64 ys)]=>some (decide (xs.length≤1000000), .bool (decide (xs=ys)),none) |_=>none⟩
theorem ZB3:k17.OK Try.prog:=fun pa args r fr h=>by
 simp only[k17]at h
 split at h
 ·simp only[Option.some.injEq,Prod.mk.injEq,decide_eq_true_eq]at h
  obtain⟨h0,rfl,rfl⟩:=h
  exact ZrN _ _ h0
 ·cases h
def N1:List Ctr:=[k91,k30,k85,k72,k14,k17]++N0
theorem ZnW:Zaz Try.prog N1:=⟨ZEw,⟨ZDF,⟨ZDp,⟨ZDt,⟨ZwA,⟨ZB3,Zdp⟩⟩⟩⟩⟩⟩
end Go.Proofs.Ytklbmkllepkjcaa
/- Paths of functions, printed by the explorer (Gx). No condition. -/
namespace Go.Proofs.Ytklbmkllepkjcaa
set_option maxRecDepth 100000
set_option linter.unusedVariables false
def ZFa(xs:List Int)(lo hi:Int):AFrame:={ fn:=70,N:=14,env:=[(0,AV.list (.ints .i64 xs)),(1,AV.int .i64 lo),(2,AV.int .i64 hi)],todo:=[.code a70.code],defs:=[],rnd:=none,ret:=false,res:=[ARes.tmp 6] }
def ZKO(xs:List Int)(lo hi:Int):List AFrame:=[(ZFa xs lo hi)]
theorem ZzR(xs:List Int)(lo hi:Int):Zau tab 70 [AV.list (.ints .i64 xs),AV.int .i64 lo,AV.int .i64 hi]=some (ZFa xs lo hi):=rfl
def ZgG(xs:List Int)(lo hi n0 n1:Int):List AFrame:=[{ fn:=123,N:=19,env:=[(0,AV.list (.ints .i64 xs)),(1,AV.fn 111 [AV.ptr 70005 0 0 0,AV.ptr 70006 0 0 0]),(7,AV.int .i64 n0),(8,AV.int .i64 n1)],todo:=.code (ACode.gh [] ZwX)::ZDN,defs:=[],rnd:=none,ret:=false,res:=[ARes.tmp 4] },{ fn:=110,N:=9,env:=[(0,AV.list (.ints .i64 xs)),(1,AV.fn 111 [AV.ptr 70005 0 0 0,AV.ptr 70006 0 0 0]),(4,AV.bool false),(5,AV.list (.ints .i64 xs)),(6,AV.fn 111 [AV.ptr 70005 0 0 0,AV.ptr 70006 0 0 0])],todo:=[AItem.inReg [oN 7 (OpK.ncall true 0 123 [Opd.t 5,Opd.t 6]),oN 8 (OpK.bin Go.BinOp.geq (Opd.t 7) (cI 0)),mV 4 8], .code ACode.ret],defs:=[],rnd:=none,ret:=false,res:=[ARes.tmp 4] },{ fn:=70,N:=14,env:=[(0,AV.list (.ints .i64 xs)),(1,AV.int .i64 lo),(2,AV.int .i64 hi),(4,AV.ptr 70005 0 0 0),(5,AV.ptr 70006 0 0 0),(6,AV.int .i64 0),(8,AV.list (.ints .i64 xs)),(9,AV.fn 111 [AV.ptr 70005 0 0 0,AV.ptr 70006 0 0 0])],todo:=[AItem.inReg [oN 10 (OpK.ncall true 0 110 [Opd.t 8,Opd.t 9]),mV 7 10], .code (ACode.seq (ACode.reg none [mV 11 7,oN 12 (OpK.not (Opd.t 11)),oN 13 (OpK.ncall true 0 85 [Opd.t 12,cI 2]),mV 6 13]) ACode.ret)],defs:=[],rnd:=none,ret:=false,res:=[ARes.tmp 6] }]
def Ze1(xs:List Int)(lo hi n0 n1:Int):Zaa:=[(70005,{ base:=0,blks:=[Blk.row 3 1 (Row.gen [.int .i64 lo])] }),(70006,{ base:=0,blks:=[Blk.row 3 1 (Row.gen [.int .i64 hi])] })]
abbrev Zjm(xs:List Int)(lo hi n0 n1:Int):List AFrame×Zaa:=(ZgG xs lo hi n0 n1,Ze1 xs lo hi n0 n1)
def ZA3(A:Ar)(K:KT)(F:FT)(xs:List Int)(lo hi:Int):Prop:=K (Zjm (xs) (lo) (hi) (A.int (A.len xs)) (0))
theorem ZFT{A:Ar}{K:KT}{F:FT}{M:MT}{xs:List Int}{lo hi:Int} :Zal A tab N1 70 K F M (.run 34 (.hd)) (ZKO xs lo hi) []=ZA3 A K F xs lo hi:=by kernel_rfl
def Zdm(A:Ar)(K:KT)(F:FT)(xs:List Int)(lo hi n0 n1:Int):Prop:=bB (A.lt n1 n0) (rB [Zad (Zad (A.le 0 n1) (Nat.blt (A.nat n1) (A.len xs))) true] (bB (A.not (Zao (A.nth xs (A.nat n1)) lo hi)) (F (AV.int .i64 (Zaf (A.not (A.le 0 n1)) 2)) (none)) (rB [A.inR .i64 (A.add n1 1)] (K (Zjm (xs) (lo) (hi) (n0) (A.add n1 1)))))) (F (AV.int .i64 (Zaf (A.not (A.le 0 (-1))) 2)) (none))
theorem Zjf{A:Ar}{K:KT}{F:FT}{M:MT}{xs:List Int}{lo hi n0 n1:Int} :Zal A tab N1 70 K F M (.run 6 (.tf (.run 32 (.tf (.run 22 (.fn)) (.run 8 (.hd)))) (.run 22 (.fn)))) (ZgG xs lo hi n0 n1) (Ze1 xs lo hi n0 n1)=Zdm A K F xs lo hi n0 n1:=by kernel_rfl
def ZEn(xs:List Int):AFrame:={ fn:=26,N:=16,env:=[(0,AV.list (.ints .i64 xs))],todo:=[.code a26.code],defs:=[],rnd:=none,ret:=false,res:=[ARes.tmp 2] }
def ZKH(xs:List Int):List AFrame:=[(ZEn xs)]
theorem Zzo(xs:List Int):Zau tab 26 [AV.list (.ints .i64 xs)]=some (ZEn xs):=rfl
def Zh7(xs:List Int)(n0:Int):List AFrame:=[{ fn:=26,N:=16,env:=[(0,AV.list (.ints .i64 xs)),(3,AV.int .i64 n0)],todo:=.code (ACode.gh [] ZA9)::ZF4,defs:=[],rnd:=none,ret:=false,res:=[ARes.tmp 2] }]
def Zg1(xs:List Int)(n0:Int):Zaa:=[]
abbrev ZjR(xs:List Int)(n0:Int):List AFrame×Zaa:=(Zh7 xs n0,Zg1 xs n0)
def ZD5(A:Ar)(K:KT)(F:FT)(xs:List Int):Prop:=K (ZjR (xs) (0))
theorem ZHC{A:Ar}{K:KT}{F:FT}{M:MT}{xs:List Int} :Zal A tab N1 26 K F M (.run 12 (.hd)) (ZKH xs) []=ZD5 A K F xs:=by kernel_rfl
def Zez(A:Ar)(K:KT)(F:FT)(xs:List Int)(n0:Int):Prop:=bB (A.lt n0 (A.int (A.len xs))) (rB [Zad (Zad (A.le 0 n0) (Nat.blt (A.nat n0) (A.len xs))) true] (bB (A.not (Zao (A.nth xs (A.nat n0)) 0 15)) (F (AV.int .i64 2) (none)) (rB [A.inR .i64 (A.add n0 1)] (K (ZjR (xs) (A.add n0 1)))))) (F (AV.int .i64 0) (none))
theorem ZkV{A:Ar}{K:KT}{F:FT}{M:MT}{xs:List Int}{n0:Int} :Zal A tab N1 26 K F M (.run 9 (.tf (.run 24 (.tf (.run 5 (.fn)) (.run 9 (.hd)))) (.run 6 (.fn)))) (Zh7 xs n0) (Zg1 xs n0)=Zez A K F xs n0:=by kernel_rfl
end Go.Proofs.Ytklbmkllepkjcaa
/- Contracts as a list. No condition. -/
namespace Go.Proofs.Ytklbmkllepkjcaa
def ZJr(x:Nat):Nat:=x%2+x/2%2+x/4%2+x/8%2
def ZK2(r k:Int):Int:=((ZJr (r.toNat &&& k.toNat)%2:Nat):Int)
def Zcs(xs:List Int)(lo hi:Int):Int:=if xs.all (fun x=>Zao x lo hi)=true then 0 else 2
theorem Znc{xs:List Int}{k:Nat}(lo hi:Int)(h:k<xs.length):Zcs (xs.drop k) lo hi=if Zao (xs.getD k 0) lo hi=true then Zcs (xs.drop (k+1)) lo hi else 2:=by
 rw[ZeF h]
 unfold Zcs
 cases hw:Zao (xs.getD k 0) lo hi<;>simp[-List.getD_eq_getElem?_getD,List.all_cons,hw]
section
variable {C:Ctx}(hC:C.P=Try.prog)
include hC
theorem Zps(xs:List Int)(lo hi:Int)(hl:xs.length≤1000000):∀m k:Nat,k+m=xs.length→Ev C (ZgG xs lo hi xs.length k) (Ze1 xs lo hi xs.length k) (ZaL 70 (.int .i64 (Zcs (xs.drop k) lo hi)) none)
 |0,k,hk=>tgo hC ZnW Zjf (by
  rw[List.drop_of_length_le (by omega)]
  simp[Zdm,show ¬(k:Int)<xs.length by omega,Zcs,Zaf])
 |m+1,k,hk=>by
  have ih:=Zps xs lo hi hl m (k+1) (by omega)
  have hlt:(k:Int)<xs.length:=by omega
  have hlt2:k<xs.length:=by omega
  rw[Znc lo hi hlt2]
  refine tgo hC ZnW Zjf ?_
  cases hw:Zao (xs.getD k 0) lo hi with
  |true=>
   simp[-List.getD_eq_getElem?_getD,Zdm,hlt,hlt2,hw]
   exact⟨by omega,by simpa using ih⟩
  |false=>simp[-List.getD_eq_getElem?_getD,Zdm,hlt,hlt2,hw,Zaf]
theorem ZmD(xs:List Int)(hl:xs.length≤1000000):∀m k:Nat,k+m=xs.length→Ev C (Zh7 xs k) (Zg1 xs k) (ZaL 26 (.int .i64 (Zcs (xs.drop k) 0 15)) none)
 |0,k,hk=>tgo hC ZnW ZkV (by
  rw[List.drop_of_length_le (by omega)]
  simp[Zez,show ¬(k:Int)<xs.length by omega,Zcs])
 |m+1,k,hk=>by
  have ih:=ZmD xs hl m (k+1) (by omega)
  have hlt:(k:Int)<xs.length:=by omega
  have hlt2:k<xs.length:=by omega
  rw[Znc _ _ hlt2]
  refine tgo hC ZnW ZkV ?_
  cases hw:Zao (xs.getD k 0) 0 15 with
  |true=>
   simp[-List.getD_eq_getElem?_getD,Zez,hlt,hlt2,hw]
   exact⟨by omega,by simpa using ih⟩
  |false=>simp[-List.getD_eq_getElem?_getD,Zez,hlt,hlt2,hw]
end
theorem Zuw(xs:List Int)(lo hi:Int)(hl:xs.length≤1000000):Zai Try.prog 70 [.list (.ints .i64 xs), .int .i64 lo, .int .i64 hi] (.int .i64 (Zcs xs lo hi)) none:=
 start (ZzR xs lo hi) fun C hC=>tgo hC ZnW ZFT (by
  have:=Zps hC xs lo hi hl xs.length 0 (by omega)
  simp[ZA3]
  simpa using this)
theorem Zsz(xs:List Int)(hl:xs.length≤1000000):Zai Try.prog 26 [.list (.ints .i64 xs)] (.int .i64 (Zcs xs 0 15)) none:=
 start (Zzo xs) fun C hC=>tgo hC ZnW ZHC (by
  have:=ZmD hC xs hl xs.length 0 (by omega)
  simp[ZD5]
  simpa using this)
def stN(m:Int):Int:=2^m.toNat
theorem ZDf{m:Int}(h:1≤m∧m≤3):stN m=2∨stN m=4∨stN m=8:=by
 have:m=1∨m=2∨m=3:=by omega
 rcases this with rfl |rfl |rfl<;>simp[stN]
def k70:Ctr:=⟨70,0,fun _ a=>match a with |[.list (.ints .i64 xs), .int .i64 lo, .int .i64 hi]=>some (decide (xs.length≤1000000), .int .i64 (Zcs xs lo hi),none) |_=>none⟩
theorem ZFs:k70.OK Try.prog:=fun pa args r fr h=>by
 simp only[k70]at h
 split at h
 ·simp only[Option.some.injEq,Prod.mk.injEq,decide_eq_true_eq]at h
  obtain⟨h0,rfl,rfl⟩:=h
  exact Zuw _ _ _ h0
 ·cases h
def k26:Ctr:=⟨26,0,fun _ a=>match a with |[.list (.ints .i64 xs)]=>some (decide (xs.length≤1000000), .int .i64 (Zcs xs 0 15),none) |_=>none⟩
theorem ZFw:k26.OK Try.prog:=fun pa args r fr h=>by
 simp only[k26]at h
 split at h
 ·simp only[Option.some.injEq,Prod.mk.injEq,decide_eq_true_eq]at h
  obtain⟨h0,rfl,rfl⟩:=h
  exact Zsz _ h0
 ·cases h
def N2:List Ctr:=[k70,k26]++N1
theorem ZIi:Zaz Try.prog N2:=⟨ZFs,⟨ZFw,ZnW⟩⟩
end Go.Proofs.Ytklbmkllepkjcaa
/- Contracts as a list. No condition. -/
namespace Go.Proofs.Ytklbmkllepkjcaa
def Zu4(m p q:Int):Int:=if ¬(1≤m∧m≤3)then 2 else if(1≤p∧p≤2*stN m-1)∧(1≤q∧q≤2*stN m-1)then 0 else 2
theorem ZzS{m p q:Int}(h:Zu4 m p q=0):(m=1∨m=2∨m=3)∧1≤p∧p≤2*stN m-1∧1≤q∧q≤2*stN m-1∧p≤15∧q≤15:=by
 unfold Zu4 at h
 split at h
 ·cases h
 ·rename_i h1
  split at h
  ·rename_i h2
   have h3:=ZDf (show 1≤m∧m≤3 by omega)
   exact⟨by omega,by omega,by omega,by omega,by omega,by omega,by omega⟩
  ·cases h
def ZIK(m s b:Int):Int:=b*stN m+s
def nxS(m s b:Int):Int:=ZIK m s b/2
def oS(m g s b:Int):Int:=ZK2 (ZIK m s b) g
def sfE(m:Int)(so:List Int):Int:=if so.length%2≠0∨(so.length:Int)<2*m then 10 else if 2*(300+m)<(so.length:Int)then 8 else Zcs so (-7) 7
def N3:List Ctr:=N2
theorem ZHY:Zaz Try.prog N3:=ZIi
end Go.Proofs.Ytklbmkllepkjcaa
/- Contracts as a list. No condition. -/
namespace Go.Proofs.Ytklbmkllepkjcaa
def N4:List Ctr:=N3
theorem ZHP:Zaz Try.prog N4:=ZHY
end Go.Proofs.Ytklbmkllepkjcaa
/- Contracts as a list. No condition. -/
namespace Go.Proofs.Ytklbmkllepkjcaa
section
variable (m p q:Int)(so:List Int)
def stS:Nat:=(stN m).toNat
def Zsl:Nat:=so.length/2
end
structure OkC (m p q:Int) (so:List Int):Prop where
 cv:Zu4 m p q=0
 sf:sfE m so=0
theorem OkC.soft{m p q:Int}{so:List Int}(h:OkC m p q so):Zcs so (-7) 7=0∧so.length%2=0∧2*m≤so.length∧so.length≤606:=by
 have hm:=(ZzS h.cv).1
 have:=h.sf
 unfold sfE at this
 split at this
 ·cases this
 ·rename_i h1
  split at this
  ·cases this
  ·rename_i h2
   exact⟨this,by omega,by omega,by omega⟩
section
variable (m p q:Int)(so:List Int)
end
@[simp] theorem ZaK (l:List Nat):std.lenF l=l.length:=rfl
@[simp] theorem ZaX (l:List Nat) (j:Nat):std.nthF l j=l.getD j 0:=rfl
@[simp] theorem ZsM (l:List Nat) (j x:Nat):std.setF l j x=l.set j x:=rfl
@[simp] theorem ZIw (n x:Nat):std.repF n x=List.replicate n x:=rfl
@[simp] theorem ZIt (a b:List Nat):std.appF a b=a++b:=rfl
section
variable {C:Ctx}(hC:C.P=Try.prog)(m p q:Int)(so:List Int)(h:OkC m p q so)
include hC h
def v0(s:Nat):Int:=if s=0 then 0 else -2000000
end
def N5:List Ctr:=N4
theorem ZGZ:Zaz Try.prog N5:=ZHP
end Go.Proofs.Ytklbmkllepkjcaa
/- Contracts as a list. No condition. -/
namespace Go.Proofs.Ytklbmkllepkjcaa
section
variable (m p q:Int)(so:List Int)
end
section
variable {m p q:Int}{so:List Int}
end
section
variable {C:Ctx}(hC:C.P=Try.prog)(m p q:Int)(so:List Int)(h:OkC m p q so)
include hC h
end
section
variable {C:Ctx}(hC:C.P=Try.prog)(m p q:Int)(so:List Int)(h:OkC m p q so)
include hC h
end
def N6:List Ctr:=N5
theorem ZHX:Zaz Try.prog N6:=ZGZ
end Go.Proofs.Ytklbmkllepkjcaa
/- Contracts as a list. No condition. -/
namespace Go.Proofs.Ytklbmkllepkjcaa
section
variable {C:Ctx}(hC:C.P=Try.prog)(m p q:Int)(so:List Int)(h:OkC m p q so)
include hC h
end
section
variable {C:Ctx}(hC:C.P=Try.prog)(m p q:Int)(so:List Int)(h:OkC m p q so)
include hC h
end
def J7:List Ctr:=N6
theorem ZFX:Zaz Try.prog J7:=ZHX
end Go.Proofs.Ytklbmkllepkjcaa
